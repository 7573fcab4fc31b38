/- The reference: small letters, name, has, find, skip. -/
import Derived.Test.YtdeclhljkmlpiaaGreatTxD
set_option linter.unusedSimpArgs false
set_option linter.unusedVariables false
namespace W10
open Go Go.AX Go.AX.Ty Go.Proofs
end W10
/- The reference: plain, signs, value. -/
namespace W10
open Go Go.AX Go.AX.Ty Go.Proofs
theorem qw {s p:Str} (h:hasB s p=true):p.length ≤ s.length:=by
  obtain ⟨r,rfl⟩:=bS.1 h;simp
end W10
/- The reference: value, attr. -/
namespace W10
open Go Go.AX Go.AX.Ty Go.Proofs
theorem mG {e:Str}:∀ t:Str,bT e t=t.drop ((dS e t).length + e.length)
  | []=>by simp [bT]
  | c :: r => by
    simp only [dS,bT]
    split
    · simp
    · rw [List.length_cons,show (dS e r).length + 1 + e.length=((dS e r).length + e.length) + 1 by omega,List.drop_succ_cons,mG r]
theorem wU {e:Str} (t:Str):(bT e t).length=t.length - ((dS e t).length + e.length):=by rw [mG,List.length_drop]
theorem Ah {t:Str} {x:UInt8}:hasB t [x]=match t with | []=>false | c :: _=>decide (c=x):=by
  cases t with
  | nil=>simp [hasB]
  | cons c r=>simp [hasB]
end W10
/- The reference: a tag that opens. -/
namespace W10
open Go Go.AX Go.AX.Ty Go.Proofs
theorem Qn {e:Str} (t:Str):∃ k,bT e t=t.drop k:=⟨_,mG t⟩
theorem UO (t:Str):∃ k,(jT t).2=t.drop k:=by
  unfold jT
  split
  · simp only [mG,List.drop_drop];exact ⟨_,rfl⟩
  · exact ⟨_,rO t⟩
theorem NY (t:Str):∃ k,(bK t).2=t.drop k:=by
  unfold bK
  split
  · obtain ⟨k,hk⟩:=UO ((((t.dropWhile aN).dropWhile aT).drop 1).dropWhile aT)
    simp only [hk]
    simp only [rO,List.drop_drop];exact ⟨_,rfl⟩
  · exact ⟨_,rO t⟩
end W10
/- The reference: raw, kind, lost, put. -/
namespace W10
open Go Go.AX Go.AX.Ty Go.Proofs
theorem l9 {P:UInt8 → Bool} (h:(List.range 256).all (fun n=>P (UInt8.ofNat n))=true) (c:UInt8):P c=true:=by
  have hc:=List.all_eq_true.1 h c.toNat (List.mem_range.2 c.toNat_lt)
  rwa [UInt8.ofNat_toNat] at hc
def GV (c:UInt8):Bool:=aT c || c == 47 || c == 62
set_option maxRecDepth 100000 in
theorem Kr (c:UInt8):GV (uO c)=GV c:=by
  have:=l9 (P:=fun c=>GV (uO c) == GV c) (by kernel_rfl) c
  simpa using this
theorem JD (t:Str):zZ (aK t)=zZ t:=by
  cases t with
  | nil=>rfl
  | cons c r=>exact Kr c
theorem J4 {t p:Str}:hasB (aK t) p=(decide (p.length ≤ t.length) && decide (aK (t.take p.length)=p)):=by
  rw [Bool.eq_iff_iff];simp [hasB,aK,List.map_take]
  exact fun _=>decide_eq_true_iff
def kL (t:Str):Nat:=if hasB t [60,33]=true then 1 else if hasB t [60,47]=true ∧ 0 < aC (t.drop 2) then 2 else if hasB t [60]=true ∧ 0 < aC (t.drop 1) then 3 else 4
def Cx (t:Str):Str:=if hasB t [60,33,45,45]=true then bT [45,45,62] (t.drop 4) else bT [62] t
end W10
/- The reference: All. -/
namespace W10
open Go Go.AX Go.AX.Ty Go.Proofs
theorem OQ (t:Str):∃ k,Cx t=t.drop k:=by
  unfold Cx
  split
  · simp only [mG,List.drop_drop];exact ⟨_,rfl⟩
  · exact ⟨_,mG t⟩
theorem vS:∀ (n:Nat) (al:List Ty.Attr) (s:Str),s.length ≤ n → ∃ k,(dO al s).2=s.drop k
  | n,al,[],h=>⟨0,by rw [iY];rfl⟩
  | n + 1, al, c :: r, h => by
    rw [bR]
    simp only [List.length_cons] at h
    by_cases h3:c=62
    · rw [if_pos h3];exact ⟨1,rfl⟩
    rw [if_neg h3]
    by_cases h4:aN c=false
    · rw [if_pos h4]
      obtain ⟨k,hk⟩:=vS n al r (by omega)
      exact ⟨k + 1,by rw [hk,List.drop_succ_cons]⟩
    rw [if_neg h4]
    have hl:=lJ (r:=r) (by simpa using h4)
    simp only [List.length_cons] at hl
    obtain ⟨k1,hk1⟩:=NY (c :: r)
    obtain ⟨k,hk⟩:=vS n (uE al (bK (c :: r)).1) (bK (c :: r)).2 (by omega)
    exact ⟨k1 + k,by rw [hk,hk1,List.drop_drop]⟩
theorem FW (t:Str):∃ k,(cZ t).2=t.drop k:=by
  unfold cZ
  obtain ⟨k,hk⟩:=vS _ [] ((t.drop 1).drop (aC (t.drop 1))) (Nat.le_refl _)
  refine ⟨1 + aC (t.drop 1) + k,?_⟩
  show (dO [] ((t.drop 1).drop (aC (t.drop 1)))).2=_
  rw [hk,List.drop_drop,List.drop_drop];congr 1;omega
theorem JQ {t:Str} (h:kL t=1):cK t=([],Cx t):=by
  have h1:hasB t [60,33]=true:=by
    unfold kL at h
    cases h1:hasB t [60,33] with
    | true=>rfl
    | false=>rw [h1] at h;simp at h;split at h;simp at h;split at h <;> simp at h
  unfold cK Cx
  by_cases h2:hasB t [60,33,45,45]=true
  · rw [if_pos h2,if_pos h2]
  · rw [if_neg h2,if_neg h2,if_pos h1]
theorem X8 {t:Str} (h:hasB t [60,33]=false):hasB t [60,33,45,45]=false:=by
  cases h2:hasB t [60,33,45,45] with
  | false=>rfl
  | true=>obtain ⟨r,hr⟩:=bS.1 h2;have:=(bS (s:=t) (p:=[60,33])).2 ⟨45 :: 45 :: r,by rw [hr];rfl⟩;rw [h] at this;simp at this
theorem Ke {t:Str} (h:kL t=2):cK t=([bJ (aK ((t.drop 2).take (aC (t.drop 2))))],bT [62] ((t.drop 2).drop (aC (t.drop 2)))) ∧ hasB t [60,47]=true:=by
  unfold kL at h
  by_cases h1:hasB t [60,33]=true
  · rw [if_pos h1] at h;simp at h
  rw [if_neg h1] at h
  by_cases h2:hasB t [60,47]=true ∧ 0 < aC (t.drop 2)
  · have h1':hasB t [60,33]=false:=by simpa using h1
    unfold cK
    rw [if_neg (by simp [X8 h1']),if_neg h1,if_pos h2]
    exact ⟨rfl,h2.1⟩
  · rw [if_neg h2] at h;split at h <;> simp at h
theorem Kl {t:Str} (h:kL t=3):cK t=(if (cZ t).1.name=bH then ((cZ t).1 :: nX ((cZ t).2.take (dJ (cZ t).2)),(cZ t).2.drop (dJ (cZ t).2)) else ([(cZ t).1],(cZ t).2)):=by
  unfold kL at h
  by_cases h1:hasB t [60,33]=true
  · rw [if_pos h1] at h;simp at h
  rw [if_neg h1] at h
  by_cases h2:hasB t [60,47]=true ∧ 0 < aC (t.drop 2)
  · rw [if_pos h2] at h;simp at h
  rw [if_neg h2] at h
  by_cases h3:hasB t [60]=true ∧ 0 < aC (t.drop 1)
  · have h1':hasB t [60,33]=false:=by simpa using h1
    unfold cK
    rw [if_neg (by simp [X8 h1']),if_neg h1,if_neg h2,if_pos h3]
  · rw [if_neg h3] at h;simp at h
theorem JC {t:Str} (h:kL t=4):cK t=(nX (bN (t.take (1 + fV (t.drop 1)))),t.drop (1 + fV (t.drop 1))):=by
  unfold kL at h
  by_cases h1:hasB t [60,33]=true
  · rw [if_pos h1] at h;simp at h
  rw [if_neg h1] at h
  by_cases h2:hasB t [60,47]=true ∧ 0 < aC (t.drop 2)
  · rw [if_pos h2] at h;simp at h
  rw [if_neg h2] at h
  by_cases h3:hasB t [60]=true ∧ 0 < aC (t.drop 1)
  · rw [if_pos h3] at h;simp at h
  · have h1':hasB t [60,33]=false:=by simpa using h1
    unfold cK
    rw [if_neg (by simp [X8 h1']),if_neg h1,if_neg h2,if_neg h3]
theorem sV (t:Str):kL t=1 ∨ kL t=2 ∨ kL t=3 ∨ kL t=4:=by
  unfold kL
  split
  · simp
  split
  · simp
  split <;> simp
end W10
/- How much is read, and written. -/
namespace W10
open Go Go.AX Go.AX.Ty
def NC (a:Ty.Attr):Nat:=a.name.length + a.value.length + 1
def sM (al:List Ty.Attr):Nat:=(al.map NC).sum
def tO (t:Tag):Nat:=t.name.length + t.text.length + sM t.attrs + 1
def kr (l:List Tag):Nat:=(l.map tO).sum
theorem jo (t:Tag) (l:List Tag):kr (t :: l)=tO t + kr l:=by simp [kr]
theorem N7 (l m:List Tag):kr (l ++ m)=kr l + kr m:=by simp [kr]
theorem TQ (l m:List Ty.Attr):sM (l ++ m)=sM l + sM m:=by simp [sM]
theorem yu (al:List Ty.Attr):al.length ≤ sM al:=by
  induction al with
  | nil=>simp
  | cons a r ih=>simp only [sM,List.map_cons,List.sum_cons,List.length_cons,NC] at ih ⊢;omega
theorem EC {al:List Ty.Attr} {a:Ty.Attr} (h:a ∈ al):NC a ≤ sM al:=by
  induction al with
  | nil=>simp at h
  | cons x r ih =>
    simp only [sM,List.map_cons,List.sum_cons] at ih ⊢
    rcases List.mem_cons.1 h with rfl | h
    · omega
    · have:=ih h;omega
theorem FU {l:List Tag} {t:Tag} (h:t ∈ l):tO t ≤ kr l:=by
  induction l with
  | nil=>simp at h
  | cons x r ih =>
    rw [jo]
    rcases List.mem_cons.1 h with rfl | h
    · omega
    · have:=ih h;omega
theorem PG (l:List Tag):l.length ≤ kr l:=by
  induction l with
  | nil=>simp
  | cons t r ih=>rw [jo];simp only [List.length_cons,tO];omega
theorem Wz (t:Str):(jT t).1.length + (jT t).2.length ≤ t.length:=by
  unfold jT
  split
  · have h1:=wm (dS (t.take 1) (t.drop 1))
    have h2:=rM (e:=t.take 1) (t.drop 1)
    have h3:∀ (e s:Str),(dS e s).length + (bT e s).length ≤ s.length:=fun e s=>by
      induction s with
      | nil=>simp [dS,bT]
      | cons c r ih =>
        simp only [dS,bT]
        split
        · simp
        · simp only [List.length_cons];omega
    have h4:=h3 (t.take 1) (t.drop 1)
    simp only [List.length_drop] at h4 ⊢;omega
  · have h1:=wm (t.takeWhile jG)
    have h2:=congrArg List.length (Gv (p:=jG) t)
    rw [List.length_append] at h2
    simp only;omega
theorem gK (s:Str):(aK s).length=s.length:=by simp [aK]
theorem Uy {c:UInt8} {r:Str} (h:aN c=true):NC (bK (c :: r)).1 + 2 * (bK (c :: r)).2.length ≤ 2 * (c :: r).length:=by
  have h0:=congrArg List.length (Gv (p:=aN) (c :: r))
  rw [List.length_append] at h0
  have h1:1 ≤ ((c :: r).takeWhile aN).length:=by rw [List.takeWhile_cons,if_pos h];simp
  unfold bK
  split
  · have h2:=kM (p:=aT) ((c :: r).dropWhile aN)
    have h3:=kM (p:=aT) ((((c :: r).dropWhile aN).dropWhile aT).drop 1)
    have h4:=Wz (((((c :: r).dropWhile aN).dropWhile aT).drop 1).dropWhile aT)
    have h5:1 ≤ (((c :: r).dropWhile aN).dropWhile aT).length:=by
      rename_i hh;exact qw hh
    simp only [List.length_drop,NC,gK] at h3 ⊢
    omega
  · simp only [NC,gK,List.length_nil];omega
theorem UA (al:List Ty.Attr) (a:Ty.Attr):sM (uE al a) ≤ sM al + NC a:=by
  unfold uE
  split
  · rw [TQ];simp [sM]
  · omega
theorem Bv:∀ (n:Nat) (al:List Ty.Attr) (s:Str),s.length ≤ n → sM (dO al s).1 + 2 * (dO al s).2.length ≤ sM al + 2 * s.length
  | n,al,[],h=>by rw [iY];simp
  | n + 1, al, c :: r, h => by
    rw [bR]
    simp only [List.length_cons] at h
    by_cases h3:c=62
    · rw [if_pos h3];simp only [List.length_cons];omega
    rw [if_neg h3]
    by_cases h4:aN c=false
    · rw [if_pos h4];have:=Bv n al r (by omega);simp only [List.length_cons];omega
    rw [if_neg h4]
    have hl:=lJ (r:=r) (by simpa using h4)
    have hw:=Uy (r:=r) (by simpa using h4)
    have ha:=UA al (bK (c :: r)).1
    simp only [List.length_cons] at hl hw ⊢
    have:=Bv n (uE al (bK (c :: r)).1) (bK (c :: r)).2 (by omega)
    omega
theorem Ti {t:Str} (h:t ≠ []):tO (cZ t).1 + 2 * (cZ t).2.length ≤ 2 * t.length:=by
  have h1:=oW (t.drop 1)
  have h2:=Bv _ [] ((t.drop 1).drop (aC (t.drop 1))) (Nat.le_refl _)
  have h3:=List.length_pos_iff.2 h
  unfold cZ
  simp only [tO,dY,gK,List.length_take,List.length_drop,List.length_nil] at h1 h2 ⊢
  have h4:sM []=0:=rfl
  omega
theorem QA (x:Str):kr (nX x) ≤ 2 * x.length:=by
  unfold nX
  split
  · simp [kr]
  · rename_i hx
    have:=List.length_pos_iff.2 hx
    simp only [kr,List.map_cons,List.map_nil,List.sum_cons,List.sum_nil,tO,l6,sM,List.length_nil];omega
theorem Uz {t:Str} (h:t ≠ []):kr (cK t).1 + 2 * (cK t).2.length ≤ 2 * t.length:=by
  have h3:=List.length_pos_iff.2 h
  unfold cK
  split
  · have:=lI (e:=[45,45,62]) (t.drop 4)
    simp only [kr,List.map_nil,List.sum_nil,List.length_drop] at this ⊢;omega
  split
  · have:=lI (e:=[62]) t
    simp only [kr,List.map_nil,List.sum_nil];omega
  split
  · have h1:=oW (t.drop 2)
    have h2:=lI (e:=[62]) ((t.drop 2).drop (aC (t.drop 2)))
    have h4:2 ≤ t.length:=by rename_i hh;exact qw hh.1
    simp only [kr,List.map_cons,List.map_nil,List.sum_cons,List.sum_nil,tO,bJ,gK,sM,List.length_take,List.length_drop,List.length_nil] at h1 h2 ⊢
    omega
  split
  · have h1:=Ti h
    split
    · have h2:=Jc (cZ t).2
      have h4:=QA ((cZ t).2.take (dJ (cZ t).2))
      simp only [jo,List.length_drop,List.length_take] at h4 ⊢
      omega
    · simp only [jo]
      have:kr []=0:=rfl
      omega
  · have h1:=QA (bN (t.take (1 + fV (t.drop 1))))
    have h2:=wm (t.take (1 + fV (t.drop 1)))
    simp only [List.length_take,List.length_drop] at h2 ⊢
    omega
theorem OE:∀ (n:Nat) (s:Str),s.length ≤ n → kr (dB s) ≤ 2 * s.length
  | n,[],h=>by simp [uX,kr]
  | n + 1, c :: r, h => by
    rw [vX,N7]
    have h1:=Uz (t:=c :: r) (by simp)
    have h2:=nk c r
    have h3:=OE n (cK (c :: r)).2 (by simp only [List.length_cons] at h h2;omega)
    omega
theorem D5 (s:Str):kr (dB s) ≤ 2 * s.length:=OE _ s (Nat.le_refl _)
theorem YZ {t:Tag} (h:tO t ≤ 10000):Y2 t:=by
  unfold tO at h
  refine ⟨by omega,by omega,by have:=yu t.attrs;omega,fun a ha=>?_⟩
  have:=EC ha
  unfold NC at this;omega
theorem Mj (al:List Ty.Attr):(dw al).length ≤ 6 * sM al:=by
  induction al with
  | nil=>simp [dw]
  | cons a r ih =>
    have h2:=ji a.value
    simp only [dw,sM,List.map_cons,List.flatten_cons,List.sum_cons,List.length_append,xL,NC,List.length_cons,List.length_nil] at ih ⊢
    omega
theorem Vd (t:Tag):(fI t).length ≤ 8 * tO t:=by
  have h1:=Mj t.attrs
  have h2:=ji t.text
  unfold fI tO
  split
  · simp only [List.length_append,List.length_cons,List.length_nil];omega
  split
  · simp only [List.length_append,List.length_cons,List.length_nil];omega
  split
  · omega
  · simp
theorem S9 (p t:Tag):(iQ p t).length ≤ 15 * tO t:=by
  have h1:=Vd t
  have h2:t.text.length + 1 ≤ tO t:=by unfold tO;omega
  unfold iQ
  split
  · omega
  split
  · simp only [List.length_append,lU,List.length_cons,List.length_nil];omega
  · omega
theorem Gp:∀ (l:List Tag) (p:Tag),(bP p l).length ≤ 15 * kr l
  | [],p=>by simp [bP]
  | t :: r, p => by
    have h1:=S9 p t
    have h2:=Gp r t
    rw [bP,jo,List.length_append];omega
theorem Sv (l:List Tag):(p9 l).length ≤ 15 * kr l:=Gp l gZ
end W10
/- What is written is read again: the parts. -/
namespace W10
open Go Go.AX Go.AX.Ty
theorem oM:∀ x:Str,bN (aG x)=x
  | []=>rfl
  | c :: r => by
    have ih:=oM r
    have e:aG (c :: r)=mZ c ++ aG r:=by simp [aG]
    rw [e]
    have hit:∀ (p v:Str),bZ (p ++ aG r)=(v,p.length,true) → bN (p ++ aG r)=v ++ r:=fun p v h=>by
      rw [yO (by rw [h]),h];simp [ih]
    by_cases h34:c=34
    · subst h34;exact hit _ [34] (by simp [bZ,hasB,mZ])
    by_cases h38:c=38
    · subst h38;exact hit _ [38] (by simp [bZ,hasB,mZ])
    by_cases h60:c=60
    · subst h60;exact hit _ [60] (by simp [bZ,hasB,mZ])
    by_cases h62:c=62
    · subst h62;exact hit _ [62] (by simp [bZ,hasB,mZ])
    have e2:mZ c=[c]:=by simp [mZ,h34,h38,h60,h62]
    rw [e2]
    show bN (c :: aG r)=_
    rw [xw,ih]
    unfold bZ
    rw [fB h38,fB h38,fB h38,fB h38];rfl
theorem WS (c:UInt8) {q:UInt8} (h:q=34 ∨ q=60):∀ x ∈ mZ c,x ≠ q:=by
  have h1:=l9 (P:=fun c=>(mZ c).all fun x=>x != 34 && x != 60) (by kernel_rfl) c
  intro x hx e
  have:=List.all_eq_true.1 h1 x hx
  rcases h with rfl | rfl <;> subst e <;> simp at this
theorem GU (x:Str) {q:UInt8} (h:q=34 ∨ q=60):∀ y ∈ aG x,y ≠ q:=by
  intro y hy
  obtain ⟨c,_,hc⟩:=List.mem_flatMap.1 hy
  exact WS c h y hc
theorem Gg {q:UInt8} (w:Str):∀ x:Str,(∀ y ∈ x,y ≠ q) → dS [q] (x ++ q :: w)=x ∧ bT [q] (x ++ q :: w)=w
  | [], _ => by
    have:hasB (q :: w) [q]=true:=by simp [hasB]
    simp [dS,bT,this]
  | c :: r, h => by
    obtain ⟨h1,h2⟩:=Gg w r fun y hy=>h y (by simp [hy])
    have:hasB (c :: (r ++ q :: w)) [q]=false:=fB (h c (by simp))
    simp [dS,bT,this,h1,h2]
def su (n:Str):Prop:=n ≠ [] ∧ aC n=n.length ∧ aK n=n
theorem Bj {p:UInt8 → Bool}:∀ (x w:Str),x.all p=true → (∀ c r,w=c :: r → p c=false) → (x ++ w).takeWhile p=x ∧ (x ++ w).dropWhile p=w
  | [],[],_,_=>⟨rfl,rfl⟩
  | [],c :: r,_,h=>by have:=h c r rfl;simp [this]
  | a :: x, w, h, h2 => by
    simp only [List.all_cons,Bool.and_eq_true] at h
    obtain ⟨h3,h4⟩:=Bj x w h.2 h2
    simp [h.1,h3,h4]
theorem Pt {p:UInt8 → Bool}:∀ x:Str,(x.takeWhile p).length=x.length → x.all p=true
  | [],_=>rfl
  | a :: x, h => by
    rw [List.takeWhile_cons] at h
    split at h
    · rename_i ha
      simp only [List.length_cons,Nat.add_right_cancel_iff] at h
      simp [ha,Pt x h]
    · simp at h
theorem E5 {p:UInt8 → Bool}:∀ x:Str,(x.takeWhile p).all p=true
  | []=>rfl
  | a :: x => by
    rw [List.takeWhile_cons]
    split
    · rename_i ha;simp only [List.all_cons,ha,Bool.true_and];exact E5 x
    · rfl
theorem Ao {n w:Str} (h:su n) (hw:∀ c r,w=c :: r → cB c=false):aC (n ++ w)=n.length:=by
  obtain ⟨h0,h1,_⟩:=h
  cases n with
  | nil=>exact absurd rfl h0
  | cons c r =>
    simp only [aC,List.cons_append,List.length_cons] at h1 ⊢
    split at h1
    · rename_i hc
      rw [if_pos hc,(Bj r w (Pt r (by omega)) hw).1]
    · omega
theorem Cr (c:UInt8):kD (uO c)=kD c:=by simpa using l9 (P:=fun c=>kD (uO c) == kD c) (by kernel_rfl) c
theorem oF (c:UInt8):cB (uO c)=cB c:=by simpa using l9 (P:=fun c=>cB (uO c) == cB c) (by kernel_rfl) c
theorem M6 (c:UInt8):aN (uO c)=aN c:=by simpa using l9 (P:=fun c=>aN (uO c) == aN c) (by kernel_rfl) c
theorem Yi (c:UInt8):uO (uO c)=uO c:=by simpa using l9 (P:=fun c=>uO (uO c) == uO c) (by kernel_rfl) c
theorem wO (s:Str):aK (aK s)=aK s:=by simp only [aK,List.map_map];congr 1;funext c;exact Yi c
theorem CB {t:Str} (h:0 < aC t):su (aK (t.take (aC t))):=by
  cases t with
  | nil=>simp [aC] at h
  | cons c r =>
    simp only [aC] at h ⊢
    split at h
    · rename_i hc
      rw [if_pos hc,List.take_succ_cons,← x9]
      refine ⟨by simp [aK],?_,wO _⟩
      simp only [aK,List.map_cons,aC,Cr,hc,if_true,List.length_cons,List.length_map]
      congr 1
      have:=(Bj (p:=cB) ((r.takeWhile cB).map uO) [] (by
        rw [List.all_map]
        have:=E5 (p:=cB) r
        rw [List.all_eq_true] at this ⊢
        intro x hx;rw [Function.comp,oF];exact this x hx) (fun c r h=>by simp at h)).1
      rw [List.append_nil] at this
      rw [this,List.length_map]
    · omega
def QW (a:Ty.Attr):Prop:=a.name ≠ [] ∧ a.name.all aN=true ∧ aK a.name=a.name
structure zO (al:List Ty.Attr):Prop where
  each:∀ a ∈ al,QW a
  apart:al.Pairwise fun a b=>a.name ≠ b.name
  len:al.length ≤ 16
theorem Ua {a:Ty.Attr} (h:QW a) (w:Str):bK (a.name ++ ([61,34] ++ (aG a.value ++ 34 :: w)))=(a,w):=by
  obtain ⟨h1,h2,h3⟩:=h
  obtain ⟨e1,e2⟩:=Bj (p:=aN) a.name ([61,34] ++ (aG a.value ++ 34 :: w)) h2 (fun c r h=>by simp at h;rw [← h.1];rfl)
  obtain ⟨f1,f2⟩:=Gg w (aG a.value) (GU a.value (.inl rfl))
  have hv:jT (34 :: (aG a.value ++ 34 :: w))=(a.value,w):=by
    unfold jT
    have:hasB (34 :: (aG a.value ++ 34 :: w)) [34]=true:=by simp [hasB]
    rw [this,Bool.true_or,if_pos rfl]
    show (bN (dS [34] (aG a.value ++ 34 :: w)),bT [34] (aG a.value ++ 34 :: w))=_
    rw [f1,f2,oM]
  have hb1:([61,34] ++ (aG a.value ++ 34 :: w)).dropWhile aT=[61,34] ++ (aG a.value ++ 34 :: w):=by
    simp [aT]
  have hb2:(34 :: (aG a.value ++ 34 :: w)).dropWhile aT=34 :: (aG a.value ++ 34 :: w):=by
    simp [aT]
  have hq:hasB ([61,34] ++ (aG a.value ++ 34 :: w)) [61]=true:=bS.2 ⟨_,rfl⟩
  unfold bK
  rw [e1,e2,hb1,hq,if_pos rfl]
  show ((⟨aK a.name,(jT ((34 :: (aG a.value ++ 34 :: w)).dropWhile aT)).1⟩:Ty.Attr),(jT ((34 :: (aG a.value ++ 34 :: w)).dropWhile aT)).2)=_
  rw [hb2,hv,h3]
theorem Ij (w:Str):∀ (al bl:List Ty.Attr),zO (bl ++ al) → dO bl (dw al ++ 62 :: w)=(bl ++ al,w)
  | [], bl, _ => by
    show dO bl (62 :: w)=_
    rw [bR,if_pos rfl,List.append_nil]
  | a :: r, bl, h => by
    have ha:=h.each a (by simp)
    have e:dw (a :: r) ++ 62 :: w=32 :: (a.name ++ ([61,34] ++ (aG a.value ++ 34 :: (dw r ++ 62 :: w)))):=by
      simp [dw,xL]
    rw [e,bR,if_neg (by decide),if_pos (by decide)]
    have hrt:=Ua ha (dw r ++ 62 :: w)
    have hadd:uE bl a=bl ++ [a]:=by
      unfold uE
      rw [if_pos]
      refine ⟨?_,?_⟩
      · rw [List.any_eq_false]
        intro x hx
        have:=(List.pairwise_append.1 h.apart).2.2 x hx a (by simp)
        simpa using this
      · have:=h.len;simp at this;omega
    obtain ⟨h1,h2,h3⟩:=ha
    cases hn:a.name with
    | nil=>exact absurd hn h1
    | cons c m =>
      rw [hn] at h2 hrt
      simp only [List.all_cons,Bool.and_eq_true] at h2
      have hc62:c ≠ 62:=fun e=>by rw [e] at h2;exact absurd h2.1 (by decide)
      rw [List.cons_append,bR,if_neg hc62,if_neg (by simp [h2.1])]
      rw [List.cons_append] at hrt
      rw [hrt,hadd]
      have:=Ij w r (bl ++ [a]) (by rw [List.append_assoc];exact h)
      rw [this,List.append_assoc];rfl
theorem Vf {c:UInt8} {r:Str} (h:aN c=true):QW (bK (c :: r)).1:=by
  have key:QW ⟨aK ((c :: r).takeWhile aN),(bK (c :: r)).1.value⟩:=by
    refine ⟨?_,?_,wO _⟩
    · rw [List.takeWhile_cons,if_pos h];simp [aK]
    · have:=E5 (p:=aN) (c :: r)
      simp only [aK,List.all_map]
      rw [List.all_eq_true] at this ⊢
      intro x hx;rw [Function.comp,M6];exact this x hx
  have e:(bK (c :: r)).1=⟨aK ((c :: r).takeWhile aN),(bK (c :: r)).1.value⟩:=by
    unfold bK;split <;> rfl
  rw [e];exact key
theorem TM {al:List Ty.Attr} {a:Ty.Attr} (h:zO al) (ha:QW a):zO (uE al a):=by
  unfold uE
  split
  · rename_i hc
    refine ⟨fun x hx=>?_,?_,by simp;omega⟩
    · rcases List.mem_append.1 hx with hx | hx
      · exact h.each x hx
      · simp at hx;subst hx;exact ha
    · rw [List.pairwise_append]
      refine ⟨h.apart,by simp,fun x hx y hy=>?_⟩
      simp at hy;subst hy
      have:=List.any_eq_false.1 hc.1 x hx
      simpa using this
  · exact h
theorem AU:∀ (n:Nat) (al:List Ty.Attr) (s:Str),s.length ≤ n → zO al → zO (dO al s).1
  | n,al,[],h,ho=>by rw [iY];exact ho
  | n + 1, al, c :: r, h, ho => by
    rw [bR]
    simp only [List.length_cons] at h
    by_cases h3:c=62
    · rw [if_pos h3];exact ho
    rw [if_neg h3]
    by_cases h4:aN c=false
    · rw [if_pos h4];exact AU n al r (by omega) ho
    rw [if_neg h4]
    have h5:aN c=true:=by simpa using h4
    have hl:=lJ (r:=r) h5
    simp only [List.length_cons] at hl
    exact AU n _ _ (by omega) (TM ho (Vf h5))
end W10
/- What is written is read again. -/
namespace W10
open Go Go.AX Go.AX.Ty
theorem fO {w a p:Str} (h:p.length ≤ w.length):hasB (w ++ a) p=hasB w p:=by
  rw [Bool.eq_iff_iff]
  simp only [hasB,Bool.and_eq_true,decide_eq_true_eq,List.length_append]
  rw [List.take_append_of_le_length h]
  constructor
  · exact fun hh=>⟨h,hh.2⟩
  · exact fun hh=>⟨by omega,hh.2⟩
def qg (w:Str):Bool:=hasB w iV && zZ (w.drop 7)
theorem EU {w:Str} (h:8 ≤ w.length) (a:Str):qg (w ++ a)=qg w:=by
  unfold qg
  rw [fO (by show 7 ≤ _;omega),List.drop_append_of_le_length (by omega)]
  cases hd:w.drop 7 with
  | nil=>have:=congrArg List.length hd;simp at this;omega
  | cons c r=>rfl
theorem iJ (c:UInt8) (r:Str):gD (c :: r)=if qg (c :: r)=true then 0 else gD r + 1:=rfl
theorem CF {Y Z:Str} (hZ:qg (iV ++ Z)=true):∀ X:Str,gD (X ++ (iV ++ Y))=X.length → gD (X ++ (iV ++ Z))=X.length
  | [], _ => by
    show gD (60 :: _)=0
    rw [iJ,if_pos (by exact hZ)]
  | c :: X, h => by
    have e:∀ W:Str,qg (c :: X ++ (iV ++ W))=qg (c :: X ++ iV):=fun W=>by
      rw [← List.append_assoc];exact EU (by simp [iV]) W
    rw [List.cons_append,iJ] at h ⊢
    have e1:=e Y
    have e2:=e Z
    rw [List.cons_append] at e1 e2
    rw [e1] at h
    rw [e2]
    split at h
    · simp at h
    · rename_i hn
      have h':gD (X ++ (iV ++ Y)) + 1=X.length + 1:=h
      rw [if_neg hn,CF (Y:=Y) hZ X (by omega)];rfl
theorem kR (a b:Str):aK (a ++ b)=aK a ++ aK b:=by simp [aK]
def oq:Str:=[60,47,115,116,121,108,101,62]
theorem KC {s:Str} (h:dJ s < s.length):qg (aK (s.drop (dJ s)))=true:=by
  have key:∀ u:Str,gD u < u.length → qg (u.drop (gD u))=true:=fun u=>by
    induction u with
    | nil=>intro h;simp at h
    | cons c r ih =>
      rw [iJ]
      split
      · rename_i hh;intro _;exact hh
      · intro h
        rw [List.drop_succ_cons]
        have h':gD r + 1 < r.length + 1:=h
        exact ih (by omega)
  have:=key (aK s) (by rw [gK];exact h)
  unfold dJ at this ⊢
  rwa [show aK (s.drop (gD (aK s)))=(aK s).drop (gD (aK s)) by simp [aK,List.map_drop]]
theorem RS {s:Str} (h:dJ s < s.length) (w:Str):dJ (s.take (dJ s) ++ (oq ++ w))=dJ s ∧ (s.take (dJ s)).length=dJ s:=by
  have hl:(s.take (dJ s)).length=dJ s:=by rw [List.length_take];omega
  refine ⟨?_,hl⟩
  have hh:=KC h
  obtain ⟨y,hy⟩:=bS.1 (by have:=hh;unfold qg at this;exact (Bool.and_eq_true _ _ ▸ this).1)
  have e1:aK s=aK (s.take (dJ s)) ++ (iV ++ y):=by
    rw [← hy,← kR,List.take_append_drop]
  have e2:aK (s.take (dJ s) ++ (oq ++ w))=aK (s.take (dJ s)) ++ (iV ++ (62 :: aK w)):=by
    rw [kR,kR];rfl
  have h3:gD (aK (s.take (dJ s)) ++ (iV ++ y))=(aK (s.take (dJ s))).length:=by
    rw [← e1,gK,hl];rfl
  have h4:=CF (Y:=y) (Z:=62 :: aK w) rfl _ h3
  rw [gK,hl] at h4
  show gD (aK (s.take (dJ s) ++ (oq ++ w)))=dJ s
  rw [e2];exact h4
theorem SN {s:Str} (h:dJ s=s.length):dJ (s.take (dJ s))=dJ s:=by
  rw [h,List.take_length,h]
def fG (t:Tag):Prop:=t.kind=1 ∧ t.name=bH
def XY (t:Tag):Prop:=(t.kind=1 ∧ su t.name ∧ zO t.attrs ∧ t.text=[]) ∨ (t.kind=2 ∧ su t.name ∧ t.attrs=[] ∧ t.text=[]) ∨ (t.kind=3 ∧ t.name=[] ∧ t.attrs=[] ∧ t.text ≠ [])
def KF (x:Str) (r:List Tag):Prop:=(r=[] ∧ dJ x=x.length) ∨ ∃ r',r=bJ bH :: r' ∧ ∀ w,dJ (x ++ (oq ++ w))=x.length
def WF:Tag → List Tag → Prop
  | _,[]=>True
  | p,t :: r=>XY t ∧ (fG p → (t.kind=3 → KF t.text r) ∧ (t.kind ≠ 3 → t=bJ bH)) ∧ WF t r
theorem WF.free {p q:Tag} {l:List Tag} (h:WF p l) (hq:¬ fG q):WF q l:=by
  cases l with
  | nil=>trivial
  | cons t r=>exact ⟨h.1,fun hh=>absurd hh hq,h.2.2⟩
theorem rW {n w:Str} (h:su n):cK ([60,47] ++ n ++ [62] ++ w)=([bJ n],w):=by
  have e:[60,47] ++ n ++ [62] ++ w=60 :: 47 :: (n ++ 62 :: w):=by simp
  rw [e]
  have h1:hasB (60 :: 47 :: (n ++ 62 :: w)) [60,33]=false:=by simp [hasB]
  have h2:hasB (60 :: 47 :: (n ++ 62 :: w)) [60,47]=true:=bS.2 ⟨_,rfl⟩
  have h3:=Ao (w:=62 :: w) h (fun c r hh=>by simp at hh;rw [← hh.1];rfl)
  have h0:0 < n.length:=List.length_pos_iff.2 h.1
  unfold cK
  rw [X8 h1,if_neg (by simp),h1,if_neg (by simp),if_pos (by rw [show List.drop 2 (60 :: 47 :: (n ++ 62 :: w))=n ++ 62 :: w from rfl,h3];exact ⟨h2,h0⟩)]
  show ([bJ (aK ((n ++ 62 :: w).take (aC (n ++ 62 :: w))))],bT [62] ((n ++ 62 :: w).drop (aC (n ++ 62 :: w))))=_
  rw [h3,List.take_left,List.drop_left,h.2.2]
  have:hasB (62 :: w) [62]=true:=bS.2 ⟨w,rfl⟩
  simp [bT,this]
theorem Hu {n:Str} (h:su n):∃ c r,n=c :: r ∧ kD c=true:=by
  obtain ⟨h0,h1,_⟩:=h
  cases n with
  | nil=>exact absurd rfl h0
  | cons c r =>
    refine ⟨c,r,rfl,?_⟩
    simp only [aC,List.length_cons] at h1
    split at h1
    · assumption
    · omega
theorem y9 {n w:Str} (h:su n) (hw:∀ c r,w=c :: r → cB c=false):hasB (60 :: (n ++ w)) [60,33]=false ∧ hasB (60 :: (n ++ w)) [60,47]=false ∧ hasB (60 :: (n ++ w)) [60]=true ∧ aC (n ++ w)=n.length ∧ 0 < n.length:=by
  obtain ⟨c,r,rfl,hc⟩:=Hu h
  have c33:c ≠ 33:=fun e=>by rw [e] at hc;exact absurd hc (by decide)
  have c47:c ≠ 47:=fun e=>by rw [e] at hc;exact absurd hc (by decide)
  exact ⟨by simp [hasB,c33],by simp [hasB,c47],bS.2 ⟨_,rfl⟩,Ao h hw,by simp⟩
theorem LY {t:Tag} {w:Str} (hk:t.kind=1) (hn:su t.name) (ha:zO t.attrs) (ht:t.text=[]) :
    cK (fI t ++ w)=if t.name=bH then (t :: nX (w.take (dJ w)),w.drop (dJ w)) else ([t],w):=by
  have e:fI t ++ w=60 :: (t.name ++ (dw t.attrs ++ 62 :: w)):=by simp [fI,hk]
  have hw:∀ c r,dw t.attrs ++ 62 :: w=c :: r → cB c=false:=by
    intro c r hh
    cases hal:t.attrs with
    | nil=>rw [hal] at hh;simp [dw] at hh;rw [← hh.1];rfl
    | cons a al=>rw [hal] at hh;simp [dw,xL] at hh;rw [← hh.1];rfl
  obtain ⟨h1,h2,h3,h4,h5⟩:=y9 hn hw
  have ho:cZ (60 :: (t.name ++ (dw t.attrs ++ 62 :: w)))=(t,w):=by
    unfold cZ
    rw [show List.drop 1 (60 :: (t.name ++ (dw t.attrs ++ 62 :: w)))=t.name ++ (dw t.attrs ++ 62 :: w) from rfl,h4,List.take_left,List.drop_left,hn.2.2,Ij w t.attrs [] (by simpa using ha)]
    refine Prod.ext (Tag.ext hk.symm rfl rfl ht.symm) rfl
  rw [e]
  unfold cK
  rw [X8 h1,if_neg (by simp),h1,if_neg (by simp),h2,if_neg (by simp),if_pos (by rw [show List.drop 1 (60 :: (t.name ++ (dw t.attrs ++ 62 :: w)))=t.name ++ (dw t.attrs ++ 62 :: w) from rfl,h4];exact ⟨h3,h5⟩),ho]
theorem GH:∀ (x w:Str),(∀ y ∈ x,y ≠ 60) → (w=[] ∨ pJ w=true) → fV (x ++ w)=x.length
  | [], w, _, h => by
    cases w with
    | nil=>rfl
    | cons c r =>
      rcases h with h | h
      · simp at h
      · simp [fV,h]
  | c :: x, w, h, h2 => by
    have hc:c ≠ 60:=h c (by simp)
    have ht:pJ (c :: (x ++ w))=false:=by unfold pJ;rw [fB hc,fB hc,fB hc];rfl
    rw [List.cons_append,fV,ht,if_neg (by simp),GH x w (fun y hy=>h y (by simp [hy])) h2];rfl
theorem Dj {x w:Str} (hx:x ≠ []) (hw:w=[] ∨ pJ w=true):cK (aG x ++ w)=([l6 x],w):=by
  have hs:aG x ≠ []:=by
    cases x with
    | nil=>exact absurd rfl hx
    | cons c r =>
      intro h
      have h1:=congrArg List.length h
      simp only [aG,List.flatMap_cons,List.length_append,List.length_nil] at h1
      have:0 < (mZ c).length:=by simp only [mZ];split;simp;split;simp;split;simp;split <;> simp
      omega
  have hno:=GU x (q:=60) (.inr rfl)
  have hp:=oM x
  generalize aG x=S at *
  cases S with
  | nil=>exact absurd rfl hs
  | cons c r =>
    have hc:c ≠ 60:=hno c (by simp)
    have hu:=GH r w (fun y hy=>hno y (by simp [hy])) hw
    unfold cK
    rw [List.cons_append,fB hc,fB hc,fB hc,fB hc,if_neg (by simp),if_neg (by simp),if_neg (by simp),if_neg (by simp)]
    rw [show List.drop 1 (c :: (r ++ w))=r ++ w from rfl,hu,Nat.add_comm 1,List.take_succ_cons,List.drop_succ_cons,List.take_left,List.drop_left,hp]
    simp [nX,hx]
theorem Kw (w:Str):dB (lU ++ w)=dB w:=by
  rw [je (by simp [lU])]
  have:cK (lU ++ w)=([],w):=by
    unfold cK
    have h1:hasB (lU ++ w) [60,33,45,45]=true:=bS.2 ⟨_,rfl⟩
    rw [h1,if_pos rfl]
    show (([]:List Tag),bT [45,45,62] (45 :: 45 :: 62 :: w))=_
    have h2:hasB (45 :: 45 :: 62 :: w) [45,45,62]=true:=bS.2 ⟨_,rfl⟩
    simp [bT,h2]
  rw [this];rfl
theorem NM (p q:Tag) (n:Str):iQ p (bJ n)=iQ q (bJ n):=by simp [iQ,bJ]
theorem LD {t:Tag} {r:List Tag} {p:Tag} (hp:p.kind=3) (h:WF p (t :: r)):pJ (bP p (t :: r))=true:=by
  obtain ⟨h1,_,_⟩:=h
  rw [bP]
  rcases h1 with ⟨k,hn,ha,ht⟩ | ⟨k,hn,ha,ht⟩ | ⟨k,hn,ha,ht⟩
  · have e:iQ p t ++ bP t r=60 :: (t.name ++ (dw t.attrs ++ 62 :: bP t r)):=by simp [iQ,k,fI]
    have hw:∀ c r',dw t.attrs ++ 62 :: bP t r=c :: r' → cB c=false:=by
      intro c r' hh
      cases hal:t.attrs with
      | nil=>rw [hal] at hh;simp [dw] at hh;rw [← hh.1];rfl
      | cons a al=>rw [hal] at hh;simp [dw,xL] at hh;rw [← hh.1];rfl
    obtain ⟨h1,h2,h3,h4,h5⟩:=y9 hn hw
    rw [e];unfold pJ
    rw [h3,show List.drop 1 (60 :: (t.name ++ (dw t.attrs ++ 62 :: bP t r)))=t.name ++ (dw t.attrs ++ 62 :: bP t r) from rfl,h4];simp [h5]
  · have e:iQ p t ++ bP t r=60 :: 47 :: (t.name ++ 62 :: bP t r):=by simp [iQ,k,fI]
    have h2:hasB (60 :: 47 :: (t.name ++ 62 :: bP t r)) [60,47]=true:=bS.2 ⟨_,rfl⟩
    have h3:=Ao (w:=62 :: bP t r) hn (fun c r hh=>by simp at hh;rw [← hh.1];rfl)
    have h0:0 < t.name.length:=List.length_pos_iff.2 hn.1
    rw [e];unfold pJ
    rw [h2,show List.drop 2 (60 :: 47 :: (t.name ++ 62 :: bP t r))=t.name ++ 62 :: bP t r from rfl,h3];simp [h0]
  · have e:iQ p t ++ bP t r=60 :: 33 :: ([45,45,45,45,62] ++ fI t ++ bP t r):=by simp [iQ,k,hp,lU]
    have h2:hasB (60 :: 33 :: ([45,45,45,45,62] ++ fI t ++ bP t r)) [60,33]=true:=bS.2 ⟨_,rfl⟩
    rw [e];unfold pJ;rw [h2];rfl
theorem BN:su bH:=⟨by decide,by decide,by decide⟩
theorem RU {t:Tag} (h:t.kind=3 ∧ t.name=[] ∧ t.attrs=[] ∧ t.text ≠ []):t=l6 t.text:=Tag.ext h.1 h.2.1 h.2.2.1 rfl
theorem VE {t:Tag} (h:t.kind=2 ∧ t.attrs=[] ∧ t.text=[]):t=bJ t.name:=Tag.ext h.1 rfl h.2.1 h.2.2
theorem round:∀ (n:Nat) (l:List Tag) (p:Tag),l.length ≤ n → ¬ fG p → WF p l → dB (bP p l)=l
  | _,[],_,_,_,_=>rfl
  | n + 1, t :: r, p, hl, hp, h => by
    have h0:=h
    obtain ⟨h1,h2,h3⟩:=h
    simp only [List.length_cons] at hl
    rw [bP]
    rcases h1 with ⟨k,hn,ha,ht⟩ | ⟨k,hn,ha,ht⟩ | hk
    · have e:iQ p t=fI t:=by simp [iQ,k]
      have hne:fI t ++ bP t r ≠ []:=by simp [fI,k]
      rw [e,je hne,LY k hn ha ht]
      by_cases hs:t.name=bH
      · rw [if_pos hs]
        have hst:fG t:=⟨k,hs⟩
        cases r with
        | nil=>rfl
        | cons u r =>
          obtain ⟨g1,g2,g3⟩:=h3
          obtain ⟨g4,g5⟩:=g2 hst
          have tail:∀ (q:Tag) (r':List Tag),r'.length + 1 ≤ n → WF (bJ bH) r' → dJ (bP q (bJ bH :: r'))=0 ∧ dB (bP q (bJ bH :: r'))=bJ bH :: r':=fun q r' hr' hw=>by
            have hno:¬ fG gZ:=fun hh=>by have:=hh.1;simp [gZ] at this
            have e1:bP q (bJ bH :: r')=bP gZ (bJ bH :: r'):=by rw [bP,bP,NM q gZ]
            rw [e1]
            refine ⟨?_,round n _ gZ (by simp only [List.length_cons];omega) hno ⟨.inr (.inl ⟨rfl,BN,rfl,rfl⟩),fun hh=>absurd hh hno,hw⟩⟩
            have e2:bP gZ (bJ bH :: r')=60 :: 47 :: 115 :: 116 :: 121 :: 108 :: 101 :: 62 :: bP (bJ bH) r':=by
              simp [bP,iQ,bJ,fI,bH]
            rw [e2];rfl
          by_cases uk:u.kind=3
          · have hu:u.kind=3 ∧ u.name=[] ∧ u.attrs=[] ∧ u.text ≠ []:=by
              rcases g1 with ⟨k',_⟩ | ⟨k',_⟩ | hh
              · omega
              · omega
              · exact hh
            have eu:=RU hu
            have es:bP t (u :: r)=u.text ++ bP u r:=by simp [bP,iQ,uk,k,hs]
            rw [es]
            have ep:nX u.text=[u]:=by rw [eu];simp [nX,hu.2.2.2,l6]
            rcases g4 uk with ⟨rfl,hr⟩ | ⟨r',rfl,hr⟩
            · simp only [bP,List.append_nil]
              rw [hr,List.take_length,List.drop_length,ep,uX];rfl
            · obtain ⟨q1,q2⟩:=tail u r' (by simp only [List.length_cons] at hl;omega) g3.2.2
              have e3:bP u (bJ bH :: r')=oq ++ bP (bJ bH) r':=by
                simp [bP,iQ,bJ,fI,bH,oq]
              have hr2:=hr (bP (bJ bH) r')
              rw [← e3] at hr2
              rw [hr2,List.take_left,List.drop_left,ep,q2];rfl
          · have eu:=g5 uk
            subst eu
            obtain ⟨q1,q2⟩:=tail t r (by simp only [List.length_cons] at hl;omega) g3
            rw [q1,List.take_zero,List.drop_zero,q2];rfl
      · rw [if_neg hs]
        rw [round n r t (by omega) (fun hh=>hs hh.2) h3];rfl
    · have e:iQ p t=fI t:=by simp [iQ,k]
      have hne:fI t ++ bP t r ≠ []:=by simp [fI,k]
      have e2:fI t ++ bP t r=[60,47] ++ t.name ++ [62] ++ bP t r:=by simp [fI,k]
      rw [e,je hne,e2,rW hn,round n r t (by omega) (fun hh=>by have:=hh.1;omega) h3,← VE ⟨k,ha,ht⟩];rfl
    · have k:=hk.1
      have hw:bP t r=[] ∨ pJ (bP t r)=true:=by
        cases r with
        | nil=>exact .inl rfl
        | cons u r=>exact .inr (LD k h3)
      have hone:dB (aG t.text ++ bP t r)=t :: r:=by
        have hne:aG t.text ++ bP t r ≠ []:=by
          intro hh
          have:=Dj hk.2.2.2 hw
          rw [hh] at this
          have h4:=congrArg (·.1) this
          exact absurd h4 (by simp [cK,hasB,nX,bN,iK])
        rw [je hne,Dj hk.2.2.2 hw,round n r t (by omega) (fun hh=>by have:=hh.1;omega) h3,← RU hk];rfl
      by_cases pk:p.kind=3
      · have e:iQ p t ++ bP t r=lU ++ (aG t.text ++ bP t r):=by simp [iQ,k,pk,fI]
        rw [e,Kw,hone]
      · have e : iQ p t ++ bP t r = aG t.text ++ bP t r := by
          have:iQ p t=fI t:=by
            have hc:p.kind ≠ 1 ∨ p.name ≠ bH:=by
              by_cases p1:p.kind=1
              · exact .inr fun hh=>hp ⟨p1,hh⟩
              · exact .inl p1
            unfold iQ
            rw [if_pos (.inr ⟨pk,hc⟩)]
          rw [this];simp [fI,k]
        rw [e,hone]
end W10
/- What is read can be written. -/
namespace W10
open Go Go.AX Go.AX.Ty
theorem WV:zO []:=⟨by simp,by simp,by simp⟩
theorem uN (x:Str):¬ fG (l6 x):=fun h=>by have:=h.1;simp [l6] at this
theorem GZ (x:Str):¬ fG (bJ x):=fun h=>by have:=h.1;simp [bJ] at this
theorem kC:¬ fG gZ:=fun h=>by have:=h.1;simp [gZ] at this
theorem WF.put {p:Tag} {x:Str} {l:List Tag} (hp:¬ fG p) (h:∀ q,¬ fG q → WF q l):WF p (nX x ++ l):=by
  unfold nX
  split
  · exact h p hp
  · rename_i hx
    exact ⟨.inr (.inr ⟨rfl,rfl,rfl,hx⟩),fun hh=>absurd hh hp,h _ (uN x)⟩
theorem Qz {r:Str} (h:zZ r=true):∀ c q,r=c :: q → cB c=false:=by
  rintro c q rfl
  have h2:=l9 (P:=fun c=>!(GV c && cB c)) (by kernel_rfl) c
  have h3:GV c=true:=h
  rw [h3] at h2
  simpa using h2
theorem Qw {Y:Str} (h:qg (aK Y)=true):cK Y=([bJ bH],bT [62] (Y.drop 7)):=by
  unfold qg at h
  rw [J4,show (aK Y).drop 7=aK (Y.drop 7) by simp [aK,List.map_drop],JD] at h
  simp only [Bool.and_eq_true,decide_eq_true_eq] at h
  obtain ⟨⟨h1,h2⟩,h3⟩:=h
  have h1':7 ≤ Y.length:=h1
  have h2':aK (Y.take 7)=iV:=h2
  obtain ⟨a,b,c,d,e,f,g,q,rfl⟩:∃ a b c d e f g q,Y=a :: b :: c :: d :: e :: f :: g :: q:=by
    match Y,h1' with
    | a :: b :: c :: d :: e :: f :: g :: q,_=>exact ⟨a,b,c,d,e,f,g,q,rfl⟩
  simp only [List.take_succ_cons,List.take_zero,aK,List.map_cons,List.map_nil,iV,List.cons.injEq,and_true] at h2'
  obtain ⟨ha,hb,hc,hd,he,hf,hg⟩:=h2'
  have sm60:a=60:=by
    have:=l9 (P:=fun c=>!(uO c == 60) || c == 60) (by kernel_rfl) a
    simpa [ha] using this
  have sm47:b=47:=by
    have:=l9 (P:=fun c=>!(uO c == 47) || c == 47) (by kernel_rfl) b
    simpa [hb] using this
  subst sm60;subst sm47
  have hq:=Qz h3
  have nm:su (aK [c,d,e,f,g]):=by
    simp only [aK,List.map_cons,List.map_nil,hc,hd,he,hf,hg];exact BN
  have hnl:aC (c :: d :: e :: f :: g :: q)=5:=by
    have lc:kD c=true:=by rw [← Cr,hc];rfl
    have id:cB d=true:=by rw [← oF,hd];rfl
    have ie:cB e=true:=by rw [← oF,he];rfl
    have if':cB f=true:=by rw [← oF,hf];rfl
    have ig:cB g=true:=by rw [← oF,hg];rfl
    have:=(Bj (p:=cB) [d,e,f,g] q (by simp [id,ie,if',ig]) hq).1
    simp only [List.cons_append,List.nil_append] at this
    simp only [aC,lc,if_true,this];rfl
  have n1:hasB (60 :: 47 :: c :: d :: e :: f :: g :: q) [60,33]=false:=by simp [hasB]
  have n2:hasB (60 :: 47 :: c :: d :: e :: f :: g :: q) [60,47]=true:=bS.2 ⟨_,rfl⟩
  unfold cK
  rw [X8 n1,if_neg (by simp),n1,if_neg (by simp),if_pos (by rw [show List.drop 2 (60 :: 47 :: c :: d :: e :: f :: g :: q)=c :: d :: e :: f :: g :: q from rfl,hnl];exact ⟨n2,by decide⟩)]
  show ([bJ (aK ((c :: d :: e :: f :: g :: q).take (aC (c :: d :: e :: f :: g :: q))))],bT [62] ((c :: d :: e :: f :: g :: q).drop (aC (c :: d :: e :: f :: g :: q))))=_
  rw [hnl]
  simp only [List.take_succ_cons,List.take_zero,aK,List.map_cons,List.map_nil,hc,hd,he,hf,hg,List.drop_succ_cons,List.drop_zero]
  rfl
theorem yh:∀ (n:Nat) (s:Str) (p:Tag),s.length ≤ n → ¬ fG p → WF p (dB s)
  | _,[],_,_,_=>trivial
  | n + 1, c :: r, p, hl, hp => by
    have hne:c :: r ≠ []:=by simp
    have hlt:=nk c r
    generalize hs:c :: r=s at *
    have ih:∀ u:Str,u.length < s.length → ∀ q,¬ fG q → WF q (dB u):=fun u hu q hq=>yh n u q (by omega) hq
    rw [je hne]
    rcases sV s with hk | hk | hk | hk
    · rw [JQ hk] at hlt ⊢
      exact ih _ hlt p hp
    · obtain ⟨h2,h3⟩:=Ke hk
      rw [h2] at hlt ⊢
      have h0:0 < aC (s.drop 2):=by
        unfold kL at hk
        split at hk
        · omega
        split at hk
        · rename_i hh;exact hh.2
        · split at hk <;> omega
      exact ⟨.inr (.inl ⟨rfl,CB h0,rfl,rfl⟩),fun hh=>absurd hh hp,ih _ hlt _ (GZ _)⟩
    · rw [Kl hk] at hlt ⊢
      have h0:0 < aC (s.drop 1):=by
        unfold kL at hk
        split at hk
        · omega
        split at hk
        · omega
        · split at hk
          · rename_i hh;exact hh.2
          · omega
      have hnm:=CB h0
      have hal:=AU _ [] ((s.drop 1).drop (aC (s.drop 1))) (Nat.le_refl _) WV
      have hto:XY (cZ s).1:=.inl ⟨rfl,hnm,hal,rfl⟩
      have hk1:(cZ s).1.kind=1:=rfl
      generalize cZ s=O at *
      obtain ⟨t,u⟩:=O
      simp only at hto hk1 hlt ⊢
      by_cases hst:t.name=bH
      · rw [if_pos hst] at hlt ⊢
        have hsty:fG t:=⟨hk1,hst⟩
        simp only at hlt
        refine ⟨hto,fun hh=>absurd hh hp,?_⟩
        have hW:=ih _ hlt
        have hrl:=Jc u
        have hY:dB (u.drop (dJ u))=[] ∧ dJ u=u.length ∨ dJ u < u.length ∧ ∃ r',dB (u.drop (dJ u))=bJ bH :: r':=by
          rcases Nat.lt_or_ge (dJ u) u.length with h | h
          · right
            have hne2:u.drop (dJ u) ≠ []:=fun hh=>by have:=congrArg List.length hh;simp at this;omega
            exact ⟨h,_,by rw [je hne2,Qw (KC h)];rfl⟩
          · left
            exact ⟨by rw [List.drop_of_length_le h];rfl,by omega⟩
        unfold nX
        split
        · rcases hY with ⟨hY,_⟩ | ⟨_,r',hY⟩
          · rw [hY];exact trivial
          · have:=hW gZ kC
            rw [hY] at this ⊢
            exact ⟨this.1,fun _=>⟨fun h=>by simp [bJ] at h,fun _=>rfl⟩,this.2.2⟩
        · rename_i hx
          refine ⟨.inr (.inr ⟨rfl,rfl,rfl,hx⟩),fun _=>⟨fun _=>?_,fun h=>absurd rfl h⟩,hW _ (uN _)⟩
          rcases hY with ⟨hY,h⟩ | ⟨h,r',hY⟩
          · exact .inl ⟨hY,by show dJ (u.take (dJ u))=(u.take (dJ u)).length;rw [SN h,h,List.length_take];omega⟩
          · refine .inr ⟨r',hY,fun w=>?_⟩
            obtain ⟨q1,q2⟩:=RS h w
            show dJ (u.take (dJ u) ++ (oq ++ w))=(u.take (dJ u)).length
            rw [q1,q2]
      · rw [if_neg hst] at hlt ⊢
        exact ⟨hto,fun hh=>absurd hh hp,ih _ hlt _ (fun hh=>hst hh.2)⟩
    · rw [JC hk] at hlt ⊢
      exact WF.put hp (ih _ hlt)
theorem back (s:Str):dB (p9 (dB s))=dB s:=round _ _ gZ (Nat.le_refl _) kC (yh _ s gZ (Nat.le_refl _) kC)
end W10
/- What is lost; texts stand apart. -/
namespace W10
open Go Go.AX Go.AX.Ty
def NB (s:Str):Prop:=∀ i:Nat,s[i]? = some (60:UInt8) → s[i + 1]? = some (33:UInt8) → False
theorem NB.drop {s:Str} (h:NB s) (k:Nat):NB (s.drop k):=fun i h1 h2=>by
  rw [List.getElem?_drop] at h1 h2
  exact h (k + i) h1 (by rw [show k + i + 1=k + (i + 1) by omega];exact h2)
theorem NB.kind {s:Str} (h:NB s):kL s ≠ 1:=fun hk=>by
  have h1:hasB s [60,33]=true:=by
    unfold kL at hk
    split at hk
    · assumption
    split at hk
    · omega
    split at hk <;> omega
  obtain ⟨r,rfl⟩:=bS.1 h1
  exact h 0 rfl rfl
end W10
/- A text behind one that ends all. -/
namespace W10
open Go Go.AX Go.AX.Ty
theorem qU {e a:Str}:∀ v:Str,bT e v ≠ [] → bT e (v ++ a)=bT e v ++ a ∧ dS e (v ++ a)=dS e v
  | [],h=>absurd rfl h
  | c :: r, h => by
    simp only [bT] at h
    simp only [List.cons_append,bT,dS]
    by_cases hh:hasB (c :: r) e=true
    · have h2:hasB (c :: (r ++ a)) e=true:=by rw [← List.cons_append,fO (qw hh)];exact hh
      rw [if_pos hh,if_pos hh,if_pos h2,if_pos h2,← List.cons_append,List.drop_append_of_le_length (qw hh)]
      exact ⟨rfl,rfl⟩
    · rw [if_neg hh] at h
      obtain ⟨i1,i2⟩:=qU (a:=a) r h
      have hl:e.length ≤ (c :: r).length:=by
        have h3:=wU (e:=e) r
        have h4:=List.length_pos_iff.2 h
        simp only [List.length_cons];omega
      have h2:hasB (c :: (r ++ a)) e=hasB (c :: r) e:=by rw [← List.cons_append,fO hl]
      rw [h2,if_neg hh,if_neg hh,if_neg hh,if_neg hh,i1,i2]
      exact ⟨rfl,rfl⟩
theorem qJ {p:UInt8 → Bool} {a:Str}:∀ v:Str,v.dropWhile p ≠ [] → (v ++ a).dropWhile p=v.dropWhile p ++ a ∧ (v ++ a).takeWhile p=v.takeWhile p
  | [],h=>absurd rfl h
  | c :: r, h => by
    rw [List.cons_append,List.dropWhile_cons,List.takeWhile_cons,List.dropWhile_cons,List.takeWhile_cons]
    rw [List.dropWhile_cons] at h
    split
    · rename_i hc
      rw [if_pos hc] at h
      obtain ⟨h1,h2⟩:=qJ (a:=a) r h
      exact ⟨h1,by rw [h2]⟩
    · exact ⟨rfl,rfl⟩
theorem wW {a:Str} {v:Str} (h:aC v < v.length):aC (v ++ a)=aC v:=by
  cases v with
  | nil=>simp at h
  | cons c r =>
    simp only [aC,List.cons_append] at h ⊢
    split
    · rename_i hc
      rw [if_pos hc] at h
      simp only [List.length_cons] at h
      have hne:r.dropWhile cB ≠ []:=fun e=>by
        have:=congrArg List.length (Gv (p:=cB) r)
        rw [e,List.append_nil] at this;omega
      rw [(qJ (a:=a) r hne).2]
    · rfl
theorem VH {a v:Str} (h:(jT v).2 ≠ []):jT (v ++ a)=((jT v).1,(jT v).2 ++ a):=by
  have hv:v ≠ []:=fun e=>by subst e;exact h rfl
  have hl:=List.length_pos_iff.2 hv
  have q1:hasB (v ++ a) [34]=hasB v [34]:=fO hl
  have q2:hasB (v ++ a) [39]=hasB v [39]:=fO hl
  unfold jT at h ⊢
  rw [q1,q2]
  split
  · rename_i hq
    rw [if_pos hq] at h
    rw [List.take_append_of_le_length hl,List.drop_append_of_le_length hl]
    obtain ⟨h1,h2⟩:=qU (a:=a) _ h
    rw [h1,h2]
  · rename_i hq
    rw [if_neg hq] at h
    obtain ⟨h1,h2⟩:=qJ (a:=a) _ h
    rw [h1,h2]
theorem Ov {a v:Str} (h:(bK v).2 ≠ []) (h2:(bK v).2.dropWhile aT ≠ []):bK (v ++ a)=((bK v).1,(bK v).2 ++ a):=by
  unfold bK at h h2 ⊢
  by_cases hq:hasB ((v.dropWhile aN).dropWhile aT) [61]=true
  · rw [if_pos hq] at h h2
    have hr:=qw hq
    have hr1:1 ≤ ((v.dropWhile aN).dropWhile aT).length:=hr
    have e1:(v.dropWhile aN).dropWhile aT ≠ []:=fun e=>by rw [e] at hr1;simp at hr1
    have e2:v.dropWhile aN ≠ []:=fun e=>by rw [e] at e1;exact e1 rfl
    obtain ⟨a1,a2⟩:=qJ (a:=a) v e2
    obtain ⟨b1,_⟩:=qJ (a:=a) _ e1
    have e3:((((v.dropWhile aN).dropWhile aT).drop 1).dropWhile aT) ≠ []:=fun e=>by rw [e] at h;exact h rfl
    obtain ⟨d1,_⟩:=qJ (a:=a) _ e3
    rw [a1,a2,b1,fO hr,if_pos hq,if_pos hq,List.drop_append_of_le_length hr1,d1,VH h]
  · rw [if_neg hq] at h h2
    obtain ⟨a1,a2⟩:=qJ (a:=a) v h
    obtain ⟨b1,_⟩:=qJ (a:=a) _ h2
    rw [a1,a2,b1,fO (p:=[61]) (show 1 ≤ _ from List.length_pos_iff.2 h2),if_neg hq,if_neg hq]
theorem xI:∀ (al:List Ty.Attr) (s:Str),s.dropWhile aT=[] → (dO al s).2=[]
  | al,[],_=>by rw [iY]
  | al, c :: r, h => by
    rw [List.dropWhile_cons] at h
    split at h
    · rename_i hc
      have hn:c ≠ 62:=fun e=>by rw [e] at hc;exact absurd hc (by decide)
      have hi:aN c=false:=by simp [aN,hc]
      rw [bR,if_neg hn,if_pos hi]
      exact xI al r h
    · simp at h
theorem vJ {a:Str}:∀ (n:Nat) (al:List Ty.Attr) (v:Str),v.length ≤ n → (dO al v).2 ≠ [] → dO al (v ++ a)=((dO al v).1,(dO al v).2 ++ a)
  | n,al,[],_,h=>by rw [iY] at h;exact absurd rfl h
  | n + 1, al, c :: r, hl, h => by
    simp only [List.length_cons] at hl
    rw [List.cons_append,bR,bR]
    rw [bR] at h
    by_cases h3:c=62
    · rw [if_pos h3,if_pos h3]
    rw [if_neg h3,if_neg h3]
    rw [if_neg h3] at h
    by_cases h4:aN c=false
    · rw [if_pos h4,if_pos h4]
      rw [if_pos h4] at h
      exact vJ n al r (by omega) h
    rw [if_neg h4,if_neg h4]
    rw [if_neg h4] at h
    have h5:aN c=true:=by simpa using h4
    have hlt:=lJ (r:=r) h5
    simp only [List.length_cons] at hlt
    have e1:(bK (c :: r)).2.dropWhile aT ≠ []:=fun e=>h (xI _ _ e)
    have e2:(bK (c :: r)).2 ≠ []:=fun e=>by rw [e] at e1;exact e1 rfl
    have:=Ov (a:=a) e2 e1
    rw [List.cons_append] at this
    rw [this]
    exact vJ n _ _ (by omega) h
theorem G7 {a v:Str} (h:(cZ v).2 ≠ []):cZ (v ++ a)=((cZ v).1,(cZ v).2 ++ a):=by
  have hv:v ≠ []:=fun e=>by subst e;exact h rfl
  have hl:=List.length_pos_iff.2 hv
  unfold cZ at h ⊢
  rw [List.drop_append_of_le_length hl]
  have e1:(v.drop 1).drop (aC (v.drop 1)) ≠ []:=fun e=>by rw [e] at h;exact h (by rw [iY])
  have e2:aC (v.drop 1) < (v.drop 1).length:=by
    have:=List.length_pos_iff.2 e1
    rw [List.length_drop] at this;omega
  rw [wW e2,List.take_append_of_le_length (Nat.le_of_lt e2),List.drop_append_of_le_length (Nat.le_of_lt e2),vJ _ _ _ (Nat.le_refl _) h]
theorem H6 {a:Str}:∀ u:Str,gD u + 8 ≤ u.length → gD (u ++ a)=gD u
  | [],h=>by simp at h
  | c :: r, h => by
    have h8:8 ≤ (c :: r).length:=by omega
    rw [List.cons_append,iJ,iJ,← List.cons_append,EU h8]
    split
    · rfl
    · rename_i hn
      rw [iJ,if_neg hn] at h
      rw [H6 r (by simp only [List.length_cons] at h;omega)]
theorem VF {a u:Str} (h:dJ u + 8 ≤ u.length):dJ (u ++ a)=dJ u:=by
  unfold dJ
  rw [kR,H6 _ (by rw [gK];exact h)]
theorem TY {a v:Str} (h:3 ≤ v.length):pJ (v ++ a)=pJ v:=by
  have n0:∀ w b:Str,1 ≤ w.length → decide (0 < aC (w ++ b))=decide (0 < aC w):=fun w b hw=>by
    cases w with
    | nil=>simp at hw
    | cons c r=>simp only [aC,List.cons_append];split <;> simp
  unfold pJ
  rw [fO (by show 2 ≤ _;omega),fO (by show 2 ≤ _;omega),fO (by show 1 ≤ _;omega),List.drop_append_of_le_length (by omega),List.drop_append_of_le_length (by omega),n0 _ _ (by simp;omega),n0 _ _ (by simp;omega)]
theorem Cw {a:Str}:∀ u:Str,fV u + 3 ≤ u.length → fV (u ++ a)=fV u
  | [],h=>by simp at h
  | c :: r, h => by
    have h3:3 ≤ (c :: r).length:=by omega
    rw [List.cons_append,fV,fV,← List.cons_append,TY h3]
    split
    · rfl
    · rename_i hn
      rw [fV,if_neg hn] at h
      rw [Cw r (by simp only [List.length_cons] at h;omega)]
theorem Gq {a v:Str} (h:8 ≤ (cK v).2.length):cK (v ++ a)=((cK v).1,(cK v).2 ++ a):=by
  have hne:∀ l:Str,8 ≤ l.length → l ≠ []:=fun l h e=>by subst e;simp at h
  have hv:8 ≤ v.length:=by
    cases v with
    | nil=>exact absurd (show 8 ≤ 0 from h) (by omega)
    | cons c r=>have:=nk c r;omega
  have q4:hasB (v ++ a) [60,33,45,45]=hasB v [60,33,45,45]:=fO (by show 4 ≤ _;omega)
  have q2:hasB (v ++ a) [60,33]=hasB v [60,33]:=fO (by show 2 ≤ _;omega)
  have q3:hasB (v ++ a) [60,47]=hasB v [60,47]:=fO (by show 2 ≤ _;omega)
  have q1:hasB (v ++ a) [60]=hasB v [60]:=fO (by show 1 ≤ _;omega)
  have n0:∀ w b:Str,1 ≤ w.length → (0 < aC (w ++ b))=(0 < aC w):=fun w b hw=>by
    cases w with
    | nil=>simp at hw
    | cons c r=>simp only [aC,List.cons_append];split <;> simp
  have d2:(v ++ a).drop 2=v.drop 2 ++ a:=List.drop_append_of_le_length (by omega)
  have d1:(v ++ a).drop 1=v.drop 1 ++ a:=List.drop_append_of_le_length (by omega)
  unfold cK at h ⊢
  have n2:(hasB v [60,47]=true ∧ 0 < aC (v.drop 2 ++ a))=(hasB v [60,47]=true ∧ 0 < aC (v.drop 2)):=by rw [n0 _ _ (by simp;omega)]
  have n1:(hasB v [60]=true ∧ 0 < aC (v.drop 1 ++ a))=(hasB v [60]=true ∧ 0 < aC (v.drop 1)):=by rw [n0 _ _ (by simp;omega)]
  rw [q4,q2,q3,q1,d2,d1]
  by_cases h4:hasB v [60,33,45,45]=true
  · rw [if_pos h4] at h ⊢
    rw [if_pos h4,List.drop_append_of_le_length (by omega),(qU (a:=a) _ (hne _ h)).1]
  rw [if_neg h4] at h ⊢
  rw [if_neg h4]
  by_cases h5:hasB v [60,33]=true
  · rw [if_pos h5] at h ⊢
    rw [if_pos h5,(qU (a:=a) _ (hne _ h)).1]
  rw [if_neg h5] at h ⊢
  rw [if_neg h5]
  by_cases h6:hasB v [60,47]=true ∧ 0 < aC (v.drop 2)
  · rw [if_pos h6] at h ⊢
    have e1:(v.drop 2).drop (aC (v.drop 2)) ≠ []:=fun e=>by rw [e] at h;exact absurd (show 8 ≤ 0 from h) (by omega)
    have e2:aC (v.drop 2) < (v.drop 2).length:=by
      have:=List.length_pos_iff.2 e1
      rw [List.length_drop] at this;omega
    rw [if_pos (n2 ▸ h6),wW e2,List.take_append_of_le_length (Nat.le_of_lt e2),List.drop_append_of_le_length (Nat.le_of_lt e2),(qU (a:=a) _ (hne _ h)).1]
  rw [if_neg h6] at h ⊢
  rw [if_neg (n2 ▸ h6)]
  by_cases h7:hasB v [60]=true ∧ 0 < aC (v.drop 1)
  · rw [if_pos h7] at h ⊢
    rw [if_pos (n1 ▸ h7)]
    by_cases h8:(cZ v).1.name=bH
    · rw [if_pos h8] at h ⊢
      simp only [List.length_drop] at h
      have e1:(cZ v).2 ≠ []:=fun e=>by rw [e] at h;simp at h
      rw [G7 e1]
      dsimp only
      rw [if_pos h8,VF (by omega),List.take_append_of_le_length (by omega),List.drop_append_of_le_length (by omega)]
    · rw [if_neg h8] at h ⊢
      rw [G7 (hne _ h)]
      dsimp only
      rw [if_neg h8]
  · rw [if_neg h7] at h ⊢
    rw [if_neg (n1 ▸ h7)]
    simp only [List.length_drop] at h
    have e1:fV (v.drop 1 ++ a)=fV (v.drop 1):=Cw _ (by simp only [List.length_drop];omega)
    rw [e1,List.take_append_of_le_length (by omega),List.drop_append_of_le_length (by omega)]
end W10
/- What ends all. -/
namespace W10
open Go Go.AX Go.AX.Ty
def eE:Str:=[120,34,62,39,62,45,45,62,60,47,115,116,121,108,101,62,60,47,98,62]
def e1:Str:=[34,62,39,62,45,45,62,60,47,115,116,121,108,101,62,60,47,98,62]
def e2:Str:=[62,39,62,45,45,62,60,47,115,116,121,108,101,62,60,47,98,62]
def e4:Str:=[62,45,45,62,60,47,115,116,121,108,101,62,60,47,98,62]
def e8:Str:=[60,47,115,116,121,108,101,62,60,47,98,62]
theorem uf {e:Str} {y:Str} (hy:bT e y ≠ []):∀ x:Str,(bT e y).length ≤ (bT e (x ++ y)).length
  | []=>Nat.le_refl _
  | c :: x => by
    simp only [List.cons_append,bT]
    split
    · have:=wU (e:=e) y
      simp only [List.length_drop,List.length_cons,List.length_append];omega
    · exact uf hy x
theorem CX {c:UInt8} {w:Str} (hc:cB c=false):∀ z:Str,aC (z ++ c :: w) ≤ z.length
  | [] => by
    simp only [List.nil_append,aC]
    split
    · rename_i h;have:cB c=true:=by simp [cB,h]
      rw [hc] at this;simp at this
    · exact Nat.le_refl _
  | a :: z => by
    simp only [List.cons_append,aC]
    split
    · simp only [List.length_cons]
      have:∀ z:Str,((z ++ c :: w).takeWhile cB).length ≤ z.length:=fun z=>by
        induction z with
        | nil=>simp [hc]
        | cons b z ih =>
          rw [List.cons_append,List.takeWhile_cons]
          split
          · simp only [List.length_cons];omega
          · simp
      have:=this z
      omega
    · simp
theorem qP {p:UInt8 → Bool} (y:Str):∀ q:Str,(q.dropWhile p=[] ∧ (q ++ y).dropWhile p=y.dropWhile p) ∨ (q.dropWhile p ≠ [] ∧ (q ++ y).dropWhile p=q.dropWhile p ++ y)
  | []=>.inl ⟨rfl,rfl⟩
  | c :: q => by
    rw [List.cons_append,List.dropWhile_cons,List.dropWhile_cons]
    split
    · exact qP y q
    · exact .inr ⟨by simp,rfl⟩
theorem Rs {x:UInt8} (c:UInt8) (r:Str):bT [x] (c :: r)=if c=x then r else bT [x] r:=by
  simp only [bT,Ah]
  by_cases h:c=x <;> simp [h]
theorem Ay {x:UInt8} (y:Str):∀ q:Str,(∃ q',q'.length < q.length ∧ bT [x] (q ++ y)=q' ++ y) ∨ bT [x] (q ++ y)=bT [x] y
  | []=>.inr rfl
  | c :: q => by
    rw [List.cons_append,Rs]
    split
    · exact .inl ⟨q,by simp,rfl⟩
    · rcases Ay (x:=x) y q with ⟨q',h1,h2⟩ | h
      · exact .inl ⟨q',by simp only [List.length_cons];omega,h2⟩
      · exact .inr h
theorem OX {c:UInt8} {q:Str} (hc:aN c=true):(∃ q',q'.length < (c :: q).length ∧ (bK (c :: q ++ eE)).2=q' ++ eE) ∨ (bK (c :: q ++ eE)).2=e1 ∨ (bK (c :: q ++ eE)).2=e2 ∨ (bK (c :: q ++ eE)).2=e4:=by
  have hq1:((c :: q).dropWhile aN).length < (c :: q).length:=by
    rw [List.dropWhile_cons,if_pos hc]
    have:=kM (p:=aN) q;simp only [List.length_cons];omega
  unfold bK
  rcases qP (p:=aN) eE (c :: q) with ⟨_,h⟩ | ⟨h0,h⟩
  · rw [h,show eE.dropWhile aN=e1 from rfl,show e1.dropWhile aT=e1 from rfl,if_neg (by decide)]
    exact .inr (.inl rfl)
  rw [h]
  generalize (c :: q).dropWhile aN=q2 at *
  rcases qP (p:=aT) eE q2 with ⟨_,h⟩ | ⟨h0,h⟩
  · rw [h,show eE.dropWhile aT=eE from rfl,if_neg (by decide)]
    exact .inl ⟨q2,hq1,rfl⟩
  rw [h]
  have hq2:=kM (p:=aT) q2
  generalize q2.dropWhile aT=q3 at *
  cases q3 with
  | nil=>exact absurd rfl h0
  | cons d q4 =>
    by_cases hd:d=61
    · subst hd
      have hq61:hasB (61 :: q4 ++ eE) [61]=true:=bS.2 ⟨q4 ++ eE,rfl⟩
      rw [if_pos hq61]
      show (∃ q',q'.length < (c :: q).length ∧ (jT ((q4 ++ eE).dropWhile aT)).2=q' ++ eE) ∨ (jT ((q4 ++ eE).dropWhile aT)).2=e1 ∨ (jT ((q4 ++ eE).dropWhile aT)).2=e2 ∨ (jT ((q4 ++ eE).dropWhile aT)).2=e4
      obtain ⟨q5,h5,hl5⟩:∃ q5,(q4 ++ eE).dropWhile aT=q5 ++ eE ∧ q5.length ≤ q4.length:=by
        rcases qP (p:=aT) eE q4 with ⟨_,h⟩ | ⟨_,h⟩
        · exact ⟨[],by rw [h];rfl,by simp⟩
        · exact ⟨_,h,kM q4⟩
      rw [h5]
      have hlen:q5.length < (c :: q).length:=by simp only [List.length_cons] at hq2;omega
      unfold jT
      split
      · rename_i hq
        cases q5 with
        | nil=>exact absurd hq (by decide)
        | cons x q6 =>
          show (∃ q',q'.length < (c :: q).length ∧ bT [x] (q6 ++ eE)=q' ++ eE) ∨ bT [x] (q6 ++ eE)=e1 ∨ bT [x] (q6 ++ eE)=e2 ∨ bT [x] (q6 ++ eE)=e4
          have hx:x=34 ∨ x=39:=by simpa [Ah] using hq
          rcases Ay (x:=x) eE q6 with ⟨q',h1,h2⟩ | h
          · exact .inl ⟨q',by simp only [List.length_cons] at hlen ⊢;omega,h2⟩
          · rw [h]
            rcases hx with rfl | rfl
            · exact .inr (.inr (.inl rfl))
            · exact .inr (.inr (.inr rfl))
      · rcases qP (p:=jG) eE q5 with ⟨_,h⟩ | ⟨_,h⟩
        · show (∃ q',q'.length < (c :: q).length ∧ (q5 ++ eE).dropWhile jG=q' ++ eE) ∨ _
          rw [h]
          exact .inr (.inr (.inl rfl))
        · refine .inl ⟨q5.dropWhile jG,by have:=kM (p:=jG) q5;omega,?_⟩
          show (q5 ++ eE).dropWhile jG=_
          rw [h]
    · rw [if_neg (by rw [List.cons_append,Ah];simp [hd])]
      exact .inl ⟨q2,hq1,rfl⟩
theorem BK (al:List Ty.Attr):15 ≤ (dO al e1).2.length:=by
  rw [e1,bR,if_neg (by decide),if_pos (by decide),bR,if_pos rfl];show 15 ≤ List.length _;simp
theorem Sw (al:List Ty.Attr):15 ≤ (dO al e2).2.length:=by
  rw [e2,bR,if_pos rfl];show 15 ≤ List.length _;simp
theorem Qr (al:List Ty.Attr):15 ≤ (dO al e4).2.length:=by
  rw [e4,bR,if_pos rfl];show 15 ≤ List.length _;simp
theorem vQ:∀ (n:Nat) (al:List Ty.Attr) (q:Str),q.length ≤ n → 15 ≤ (dO al (q ++ eE)).2.length
  | n, al, [], _ => by
    show 15 ≤ (dO al eE).2.length
    rw [eE,bR,if_neg (by decide),if_neg (by decide)]
    exact BK _
  | n + 1, al, c :: q, hl => by
    simp only [List.length_cons] at hl
    rw [List.cons_append,bR]
    by_cases h3:c=62
    · rw [if_pos h3];simp [eE]
    rw [if_neg h3]
    by_cases h4:aN c=false
    · rw [if_pos h4];exact vQ n al q (by omega)
    rw [if_neg h4,← List.cons_append]
    rcases OX (q:=q) (by simpa using h4:aN c=true) with ⟨q',h1,h2⟩ | h | h | h
    · rw [h2];exact vQ n _ q' (by simp only [List.length_cons] at h1;omega)
    · rw [h];exact BK _
    · rw [h];exact Sw _
    · rw [h];exact Qr _
theorem KX:∀ x:Str,gD (x ++ e8) ≤ x.length
  | []=>Nat.le_of_eq rfl
  | c :: x => by
    rw [List.cons_append,iJ]
    split
    · simp
    · have:=KX x;simp only [List.length_cons];omega
theorem Dp:∀ x:Str,fV (x ++ e8) ≤ x.length
  | []=>Nat.le_of_eq rfl
  | c :: x => by
    rw [List.cons_append,fV]
    split
    · simp
    · have:=Dp x;simp only [List.length_cons];omega
theorem Y6 {v:Str} {k:Nat} {u:Str} (hv:v=u ++ eE) (h:12 ≤ (v.drop k).length):∃ z,v.drop k=z ++ e8:=by
  refine ⟨(u ++ [120,34,62,39,62,45,45,62]).drop k,?_⟩
  have e:v=(u ++ [120,34,62,39,62,45,45,62]) ++ e8:=by rw [hv];simp [eE,e8]
  rw [List.length_drop,e,List.length_append] at h
  have:e8.length=12:=rfl
  rw [e,List.drop_append_of_le_length (by omega)]
theorem RX (t:Str):∃ k,(cK t).2=t.drop k:=by
  rcases sV t with hk | hk | hk | hk
  · rw [JQ hk];exact OQ t
  · rw [(Ke hk).1]
    obtain ⟨k,h⟩:=Qn (e:=[62]) ((t.drop 2).drop (aC (t.drop 2)))
    exact ⟨2 + aC (t.drop 2) + k,by dsimp only;rw [h,List.drop_drop,List.drop_drop];congr 1;omega⟩
  · rw [Kl hk]
    obtain ⟨k,h⟩:=FW t
    split
    · exact ⟨k + dJ (cZ t).2,by dsimp only;rw [h,List.drop_drop]⟩
    · exact ⟨k,h⟩
  · rw [JC hk];exact ⟨_,rfl⟩
theorem PK (u:Str):12 ≤ (cK (u ++ eE)).2.length:=by
  have hu:∀ p:UInt8,p=60 → hasB (u ++ eE) [p]=true → 1 ≤ u.length:=fun p hp h=>by
    cases u with
    | nil=>subst hp;exact absurd h (by decide)
    | cons c r=>simp
  have h60:∀ p q:UInt8,hasB (u ++ eE) [p,q]=true → hasB (u ++ eE) [p]=true:=fun p q h=>by
    obtain ⟨r,hr⟩:=bS.1 h
    exact bS.2 ⟨q :: r,by rw [hr];rfl⟩
  have eq1:u ++ eE=(u ++ [120]) ++ e1:=by simp [eE,e1]
  rcases sV (u ++ eE) with hk | hk | hk | hk
  · rw [JQ hk]
    show 12 ≤ (Cx (u ++ eE)).length
    unfold Cx
    split
    · have e:(u ++ eE).drop 4=((u ++ [120,34,62,39]).drop 4) ++ e4:=by
        rw [show u ++ eE=(u ++ [120,34,62,39]) ++ e4 by simp [eE,e4],List.drop_append_of_le_length (by simp)]
      rw [e]
      have:=uf (e:=[45,45,62]) (y:=e4) (by decide) ((u ++ [120,34,62,39]).drop 4)
      exact Nat.le_trans (by decide) this
    · have:=uf (e:=[62]) (y:=eE) (by decide) u
      exact Nat.le_trans (by decide) this
  · obtain ⟨h1,h2⟩:=Ke hk
    have hu1:=hu 60 rfl (h60 _ _ h2)
    have e:(u ++ eE).drop 2=((u ++ [120]).drop 2) ++ e1:=by
      rw [eq1,List.drop_append_of_le_length (by simp;omega)]
    rw [h1,e]
    dsimp only
    have hn:=CX (c:=34) (w:=e2) (by decide) ((u ++ [120]).drop 2)
    rw [show (34 :: e2:Str)=e1 from rfl] at hn
    rw [List.drop_append_of_le_length hn]
    have:=uf (e:=[62]) (y:=e1) (by decide) (((u ++ [120]).drop 2).drop (aC ((u ++ [120]).drop 2 ++ e1)))
    exact Nat.le_trans (by decide) this
  · have h0 : hasB (u ++ eE) [60] = true := by
      unfold kL at hk
      split at hk
      · omega
      split at hk
      · omega
      · split at hk
        · rename_i hh;exact hh.1
        · omega
    have hu1:=hu 60 rfl h0
    have e:(u ++ eE).drop 1=((u ++ [120]).drop 1) ++ e1:=by
      rw [eq1,List.drop_append_of_le_length (by simp)]
    have ho:15 ≤ (cZ (u ++ eE)).2.length:=by
      unfold cZ
      rw [e]
      dsimp only
      have hn:=CX (c:=34) (w:=e2) (by decide) ((u ++ [120]).drop 1)
      rw [show (34 :: e2:Str)=e1 from rfl] at hn
      rw [List.drop_append_of_le_length hn]
      generalize aC ((u ++ [120]).drop 1 ++ e1)=m at *
      rw [List.drop_drop]
      rcases Nat.lt_or_ge u.length (1 + m) with h | h
      · have:(u ++ [120]).drop (1 + m)=[]:=List.drop_of_length_le (by simp;omega)
        rw [this];exact BK []
      · rw [List.drop_append_of_le_length h,List.append_assoc]
        exact vQ _ [] _ (Nat.le_refl _)
    obtain ⟨k,hsu⟩:=FW (u ++ eE)
    rw [Kl hk]
    split
    · dsimp only
      rw [hsu] at ho ⊢
      obtain ⟨z,hz⟩:=Y6 (k:=k) rfl (by omega:12 ≤ ((u ++ eE).drop k).length)
      rw [hz]
      have h1:dJ (z ++ e8) ≤ z.length:=by
        have:=KX (aK z)
        rw [gK] at this
        show gD (aK (z ++ e8)) ≤ _
        rw [kR];exact this
      rw [List.length_drop,List.length_append]
      have:e8.length=12:=rfl
      omega
    · dsimp only;omega
  · rw [JC hk]
    dsimp only
    have hl:(u ++ eE).length=u.length + 20:=by rw [List.length_append];rfl
    obtain ⟨z,hz⟩:=Y6 (k:=1) (u:=u) rfl (by rw [List.length_drop];omega)
    have h1:=Dp z
    have h2:=congrArg List.length hz
    rw [List.length_drop,hl,List.length_append] at h2
    have h3:e8.length=12:=rfl
    rw [List.length_drop,hz,hl];omega
theorem Wi (t:Str):dB (e8 ++ t)=dB e8 ++ dB t:=by
  have h1:cK (e8 ++ t)=([bJ bH],[60,47,98,62] ++ t):=by
    have:=rW (n:=bH) (w:=[60,47,98,62] ++ t) BN
    rw [← this];rfl
  have h2:cK ([60,47,98,62] ++ t)=([bJ [98]],t):=by
    have:=rW (n:=[98]) (w:=t) ⟨by decide,by decide,by decide⟩
    rw [← this];rfl
  have h3:dB e8=[bJ bH,bJ [98]]:=rfl
  rw [je (by simp [e8]),h1,h3]
  dsimp only
  rw [je (by simp),h2];rfl
theorem lC (t:Str) {x:Str} (hx:(cK x).2=e8) (h0:x ≠ []):dB (x ++ t)=dB x ++ dB t:=by
  have h1:8 ≤ (cK x).2.length:=by rw [hx];decide
  rw [je (by simp [h0]),Gq h1,je h0]
  dsimp only
  rw [hx,Wi,List.append_assoc]
theorem both (t:Str):∀ (n:Nat) (u:Str),u.length ≤ n → dB (u ++ eE ++ t)=dB (u ++ eE) ++ dB t:=by
  intro n
  induction n with
  | zero =>
    intro u hu
    have:u=[]:=List.eq_nil_of_length_eq_zero (by omega)
    subst this
    exact lC t (x:=eE) rfl (by decide)
  | succ n ih =>
    intro u hu
    have hlow:=PK u
    have hne:u ++ eE ≠ []:=by simp [eE]
    have hlt:(cK (u ++ eE)).2.length < (u ++ eE).length:=by
      cases hv:u ++ eE with
      | nil=>exact absurd hv hne
      | cons c r=>exact nk c r
    obtain ⟨k,hk⟩:=RX (u ++ eE)
    have hne':u ++ eE ++ t ≠ []:=by simp [eE]
    rw [je hne',Gq (by omega),je hne,List.append_assoc]
    dsimp only
    congr 1
    have hl:(u ++ eE).length=u.length + 20:=by rw [List.length_append];rfl
    rw [hk] at hlow hlt ⊢
    rw [List.length_drop] at hlow hlt
    rcases Nat.lt_or_ge u.length k with h | h
    · have e:(u ++ eE).drop k=eE.drop (k - u.length):=by
        rw [List.drop_append,List.drop_of_length_le (by omega),List.nil_append]
      rw [e]
      have hm:k - u.length=1 ∨ k - u.length=2 ∨ k - u.length=3 ∨ k - u.length=4 ∨ k - u.length=5 ∨ k - u.length=6 ∨ k - u.length=7 ∨ k - u.length=8:=by omega
      rcases hm with h | h | h | h | h | h | h | h <;> rw [h]
      · exact lC t rfl (by decide)
      · exact lC t rfl (by decide)
      · exact lC t rfl (by decide)
      · exact lC t rfl (by decide)
      · exact lC t rfl (by decide)
      · exact lC t rfl (by decide)
      · exact lC t rfl (by decide)
      · exact Wi t
    · rw [List.drop_append_of_le_length h]
      exact ih _ (by rw [List.length_drop];omega)
end W10
