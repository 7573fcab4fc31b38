/- Searches in lists: the library's and the document's. -/
import Derived.Test.YtdeclhljkmlpiaaGreatTxD
set_option linter.unusedSimpArgs false
set_option linter.unusedVariables false
namespace W10K
open W10 Go Go.AX Go.AX.Ty Go.Proofs
def idxOf {α:Type} (p:α → Bool) (l:List α):Int:=match l.findIdx? p with
  | some i=>i
  | none=>-1
def Pre {α:Type} (p:α → Bool) (l:List α) (k:Nat):Prop:=∀ y ∈ l.take k,p y=false
theorem Pre.zero {α:Type} (p:α → Bool) (l:List α):Pre p l 0:=by simp [Pre]
theorem Pre.next {α:Type} {p:α → Bool} {l:List α} {k:Nat} {x:α} (hb:Pre p l k) (hx:l[k]? = some x) (hp:p x=false):Pre p l (k + 1):=by
  intro y hy
  rw [List.take_add_one,hx] at hy
  simp only [Option.toList_some,List.mem_append,List.mem_singleton] at hy
  rcases hy with h | h
  · exact hb y h
  · rw [h];exact hp
theorem Pre.all {α:Type} {p:α → Bool} {l:List α} {k:Nat} (hb:Pre p l k) (hk:k ≥ l.length):∀ y ∈ l,p y=false:=by
  unfold Pre at hb;rwa [List.take_of_length_le hk] at hb
theorem FP {α:Type} {p:α → Bool} {l:List α} {k:Nat} {x:α} (hx:l[k]? = some x) (hp:p x=true) (hb:Pre p l k):idxOf p l=k:=by
  have:l.findIdx? p=some k:=by
    rw [List.findIdx?_eq_some_iff_getElem]
    have hk:k < l.length:=by
      rcases Nat.lt_or_ge k l.length with h | h
      · exact h
      · rw [List.getElem?_eq_none h] at hx;simp at hx
    have hg:l[k]=x:=by rw [List.getElem?_eq_getElem hk] at hx;simpa using hx
    refine ⟨hk,by rw [hg];exact hp,fun j hj=>?_⟩
    have:l[j] ∈ l.take k:=by
      rw [List.mem_take_iff_getElem]
      exact ⟨j,by omega,rfl⟩
    simp [hb _ this]
  simp [idxOf,this]
theorem yN {α:Type} {p:α → Bool} {l:List α} (hb:∀ y ∈ l,p y=false):idxOf p l = -1:=by
  have:l.findIdx? p=none:=List.findIdx?_eq_none_iff.2 hb
  simp [idxOf,this]
theorem Dq {α:Type} (p:α → Bool) (l:List α):(idxOf p l = -1 ∧ ∀ y ∈ l,p y=false) ∨ ∃ i x,idxOf p l=(i:Nat) ∧ i < l.length ∧ l[i]? = some x ∧ p x=true ∧ Pre p l i:=by
  cases h:l.findIdx? p with
  | none =>
    have:=List.findIdx?_eq_none_iff.1 h
    exact .inl ⟨yN this,this⟩
  | some i =>
    obtain ⟨hi,hp,hq⟩:=List.findIdx?_eq_some_iff_getElem.1 h
    refine .inr ⟨i,l[i],by simp [idxOf,h],hi,by simp [hi],hp,fun y hy=>?_⟩
    obtain ⟨j,hj,rfl⟩:=List.mem_take_iff_getElem.1 hy
    have:=hq j (by omega)
    simpa using this
theorem AJ {α:Type} {p:α → Bool} {l:List α} {x:α} (hm:x ∈ l) (hp:p x=true):l.any p=true:=List.any_eq_true.2 ⟨x,hm,hp⟩
theorem Ro {α:Type} {p:α → Bool} {l:List α} (hb:∀ y ∈ l,p y=false):l.any p=false:=by
  rw [List.any_eq_false];intro x hx;simp [hb x hx]
end W10K
/- Nodes, attributes. -/
namespace W10K
open W10 Go Go.AX Go.AX.Ty Go.Proofs
abbrev iT:=List Ty.Node
def nodeAt (p:iT) (n:Int):Option Ty.Node:=if 0 ≤ n then p[n.toNat]? else none
def eP (p:iT) (n:Int):Bool:=match nodeAt p n with
  | some x=>decide (x.name ≠ [])
  | none=>false
theorem gy (p:iT) (k:Nat):nodeAt p (k:Int)=p[k]?:=by simp [nodeAt]
theorem y8 {p:iT} {n:Int} (h:¬ 0 ≤ n):nodeAt p n=none:=by simp [nodeAt,h]
theorem mI (p:iT) (n:Int):(nodeAt p n=none ∧ (¬ 0 ≤ n ∨ ¬ n < p.length)) ∨ ∃ k x,n=(k:Nat) ∧ k < p.length ∧ p[k]? = some x ∧ nodeAt p n=some x:=by
  by_cases h:0 ≤ n
  · obtain ⟨k,rfl⟩:=Int.eq_ofNat_of_zero_le h
    rcases Nat.lt_or_ge k p.length with hk | hk
    · exact .inr ⟨k,p[k],rfl,hk,by simp [hk],by rw [gy];simp [hk]⟩
    · exact .inl ⟨by rw [gy];simp [hk],.inr (by omega)⟩
  · exact .inl ⟨y8 h,.inl h⟩
theorem gT (p:iT) (n:Int):bB Tryz.prog 16 [Enc.av p,Enc.av n] (.bool (eP p n)):=by
  refine bf mix c16 (by kernel_rfl) (by kernel_rfl) (by simp [aI,au,Go.AX.flat]) (by first | exact au _ | simp [flat,aI,au]) ?_
  rcases mI p n with ⟨e,h⟩ | ⟨k,x,rfl,hk,hx,e⟩
  · have e2:eP p n=false:=by simp [eP,e]
    rw [e2]
    simp -implicitDefEqProofs only [F16,go_sem,seval]
    repeat' (refine fJ (fun h hT=>?_) (fun h hT=>?_) <;> try simp -implicitDefEqProofs only [hT,go_sem,seval] <;> try clear hT)
    all_goals (first | omega | (exfalso;omega))
  · have hlt:((k:Int) < (p.length:Int))=True:=eq_true (by omega)
    have hge:((k:Int) ≥ 0)=True:=eq_true (by omega)
    have e2:eP p k=decide (x.name ≠ []):=by simp [eP,e]
    rw [e2]
    simp -implicitDefEqProofs only [F16,hlt,hge,hx,go_sem,seval]
    by_cases h:x.name=[] <;> simp [h]
end W10K
/- Attributes, classes. -/
namespace W10K
open W10 Go Go.AX Go.AX.Ty Go.Proofs
theorem Vv (a:Attr) (v:Str):bB Tryz.prog 39 [Enc.av a,.vp [.str v]] (.bool (a.name == v)):=by
  refine bf mix c39 (by kernel_rfl) (by kernel_rfl) (by simp [aI,au,Go.AX.flat]) (by first | exact au _ | simp [flat,aI,au]) ?_
  simp -implicitDefEqProofs only [F39,go_sem,seval]
theorem Gu (g:Nat) (cs:List AV) (p:Attr → Bool) (hcs:aI cs=true) (l:List Attr) (hp:∀ x ∈ l,bB Tryz.prog g [Enc.av x,.vp cs] (.bool (p x))) (hl:l.length ≤ 140737488355328) :
    bB Tryz.prog 38 [Enc.av l,.fn (.func g) [] [.vp cs]] (.int .i64 (idxOf p l)):=by
  refine bf mix c38 (by kernel_rfl) (by kernel_rfl) (by simp [aI,au,Go.AX.flat,hcs]) (by first | exact au _ | simp [flat,aI,au]) ?_
  simp -implicitDefEqProofs only [F38,go_sem,seval]
  refine bA (fun k:Nat=>l.length - k) (fun k=>[(0,Enc.av l),(1,.fn (.func g) [] [.vp cs]),(7,.int .i64 l.length),(8,.int .i64 k)]) (fun k s=>k ≤ l.length ∧ Pre p l k) 0 ?_ ?_
  · simp -implicitDefEqProofs only [go_sem,seval]
    exact Pre.zero _ _
  rintro k ρ ⟨hh,mm⟩ ⟨h1,h2⟩
  rcases Nat.lt_or_ge k l.length with hk | hk
  · obtain ⟨x,hx,hd,hm⟩:=aW hk
    have hlt:((k:Int) < (l.length:Int))=True:=eq_true (by omega)
    have w1:IntKind.i64.wrap ((k:Int) + 1)=((k + 1:Nat):Int):=by rw [wrap64 (by omega) (by omega)];omega
    simp -implicitDefEqProofs only [hlt,hx,w1,go_sem,seval]
    refine ak (hp x hm) ?_
    simp -implicitDefEqProofs only [go_sem,seval]
    (refine fJ (fun h hT=>?_) (fun h hT=>?_) <;> try simp -implicitDefEqProofs only [hT,w1,go_sem,seval] <;> try clear hT)
    · rw [FP hx h h2]
    · exact ⟨k + 1,by omega,rfl,by omega,h2.next hx (by simpa using h)⟩
  · have hlt:((k:Int) < (l.length:Int))=False:=eq_false (by omega)
    simp -implicitDefEqProofs only [hlt,go_sem,seval]
    rw [yN (h2.all hk)]
def bK (p:iT) (n:Int) (v:Str):Str × Bool:=match nodeAt p n with
  | some x => if x.name = [] then ([], false) else match x.attrs.find? (fun a => a.name == v) with
    | some a=>(a.value,true)
    | none=>([],false)
  | none=>([],false)
theorem Gf {α:Type} {p:α → Bool} {l:List α} {i:Nat} {x:α} (hx:l[i]? = some x) (hp:p x=true) (hb:Pre p l i):l.find? p=some x:=by
  rw [List.find?_eq_some_iff_append]
  have hi:i < l.length:=by
    rcases Nat.lt_or_ge i l.length with h | h
    · exact h
    · rw [List.getElem?_eq_none h] at hx;simp at hx
  have hg:l[i]=x:=by rw [List.getElem?_eq_getElem hi] at hx;simpa using hx
  refine ⟨hp,l.take i,l.drop (i + 1),?_,fun a ha=>by simp [hb a ha]⟩
  rw [← hg,← List.drop_eq_getElem_cons hi,List.take_append_drop]
theorem qK (p:iT) (hp:Enc.ok p) (n:Int) (v:Str):bB Tryz.prog 18 [Enc.av p,Enc.av n,Enc.av v] (.tup [.str (bK p n v).1,.bool (bK p n v).2]):=by
  refine bf mix c18 (by kernel_rfl) (by kernel_rfl) (by simp [aI,au,Go.AX.flat]) (by first | exact au _ | simp [flat,aI,au]) ?_
  simp -implicitDefEqProofs only [F18,go_sem,seval]
  refine ak (gT p n) ?_
  simp -implicitDefEqProofs only [go_sem,seval]
  rcases mI p n with ⟨e,h⟩ | ⟨k,x,rfl,hk,hx,e⟩
  · have e2:eP p n=false:=by simp [eP,e]
    have e3:bK p n v=([],false):=by simp [bK,e]
    rw [e3]
    simp -implicitDefEqProofs only [e2,go_sem,seval]
  · have e2:eP p k=decide (x.name ≠ []):=by simp [eP,e]
    by_cases hn:x.name=[]
    · have e3:bK p k v=([],false):=by simp [bK,e,hn]
      have e4:eP p k=false:=by rw [e2];simp [hn]
      rw [e3]
      simp -implicitDefEqProofs only [e4,go_sem,seval]
    · have e4:eP p k=true:=by rw [e2];simp [hn]
      have hok:=(Node.oN x).1 (hp.2 x (List.mem_of_getElem? hx))
      simp -implicitDefEqProofs only [e4,hx,go_sem,seval]
      refine D9 (Gu 39 [.str v] (fun a=>a.name == v) rfl x.attrs (fun a _=>Vv a v) hok.2.1.1) ?_
      simp -implicitDefEqProofs only [go_sem,seval]
      rcases Dq (fun a:Attr=>a.name == v) x.attrs with ⟨i1,i2⟩ | ⟨i,y,i1,i2,i3,i4,i5⟩
      · have e3:bK p k v=([],false):=by
          simp only [bK,e,if_neg hn]
          rw [List.find?_eq_none.2 (fun a ha=>by simp [i2 a ha])]
        rw [e3,i1]
        simp -implicitDefEqProofs only [go_sem,seval]
      · have e3:bK p k v=(y.value,true):=by
          simp only [bK,e,if_neg hn]
          rw [Gf i3 i4 i5]
        have hge:((i:Int) < 0)=False:=eq_false (by omega)
        rw [e3,i1]
        simp -implicitDefEqProofs only [hx,i3,hge,go_sem,seval]
end W10K
/- Attributes, states: the document's; what is in a list. -/
namespace W10K
open W10 Go Go.AX Go.AX.Ty Go.Proofs
end W10K
/- Words of texts: plain laws. -/
namespace W10K
open W10 Go Go.AX Go.AX.Ty Go.Proofs
def aT (c:UInt8):Bool:=c == 32 || c == 9 || c == 10 || c == 12 || c == 13
def eF:Str → Str → List Str
  | [],acc=>if acc=[] then [] else [acc]
  | c :: r,acc=>if aT c=true then (if acc=[] then eF r [] else acc :: eF r []) else eF r (acc ++ [c])
def jQ (s:Str):List Str:=eF s []
theorem wS:∀ (a r acc:Str),(∀ c ∈ a,aT c=false) → eF (a ++ r) acc=eF r (acc ++ a)
  | [],r,acc,_=>by simp
  | c :: a, r, acc, h => by
    have h1:=h c (by simp)
    show eF (c :: (a ++ r)) acc=_
    rw [eF,if_neg (by simp [h1]),wS a r _ fun x hx=>h x (by simp [hx])]
    simp
theorem MF (b:UInt8) (l:List UInt8):(b.toNat < 128 ∧ iL (b :: l)=(b.toNat,1)) ∨ (128 ≤ b.toNat ∧ 128 ≤ (iL (b :: l)).1 ∧ (iL (b :: l)).1 ≤ 1114111 ∧ Utf8.valid (iL (b :: l)).1=true ∧ 1 ≤ (iL (b :: l)).2 ∧ (iL (b :: l)).2 ≤ (b :: l).length ∧ ∀ c ∈ (b :: l).take (iL (b :: l)).2,128 ≤ c.toNat):=by
  have hc:∀ k,(decide (k < (b :: l).length) && ((b :: l).getD k 0).toNat / 64 == 2)=true → k < (b :: l).length ∧ 128 ≤ ((b :: l).getD k 0).toNat:=fun k h=>by
    simp only [Bool.and_eq_true,decide_eq_true_eq,beq_iff_eq] at h
    omega
  have ht:∀ n,n ≤ (b :: l).length → (∀ k,k < n → 128 ≤ ((b :: l).getD k 0).toNat) → ∀ c ∈ (b :: l).take n,128 ≤ c.toNat:=fun n hn h c hc=>by
    obtain ⟨i,hi,rfl⟩:=List.mem_take_iff_getElem.1 hc
    have:=h i (by omega)
    rwa [List.getD_eq_getElem?_getD,List.getElem?_eq_getElem (by omega)] at this
  by_cases h0:b.toNat < 128
  · left;exact ⟨h0,by simp [iL,h0]⟩
  right
  refine ⟨by omega,?_⟩
  have hb:((b :: l).getD 0 0).toNat=b.toNat:=rfl
  have one:(65533,1)=iL (b :: l) → 128 ≤ (iL (b :: l)).1 ∧ (iL (b :: l)).1 ≤ 1114111 ∧ Utf8.valid (iL (b :: l)).1=true ∧ 1 ≤ (iL (b :: l)).2 ∧ (iL (b :: l)).2 ≤ (b :: l).length ∧ ∀ c ∈ (b :: l).take (iL (b :: l)).2,128 ≤ c.toNat:=fun e=>by
    rw [← e]
    refine ⟨by decide,by decide,by decide,by decide,by simp,ht 1 (by simp) fun k hk=>?_⟩
    rw [show k=0 by omega,hb];omega
  unfold iL at one ⊢
  simp only [hb] at one ⊢
  rw [if_neg h0] at one ⊢
  split
  · rename_i h1
    simp only [Bool.and_eq_true] at h1
    obtain ⟨k1,c1⟩:=hc 1 (by simpa using h1.2)
    split
    · rename_i h2
      simp only
      have:=((b :: l).getD 1 0).toNat_lt
      refine ⟨by omega,by omega,?_,by omega,by omega,ht 2 (by omega) fun k hk=>?_⟩
      · simp only [Utf8.valid,Bool.or_eq_true,Bool.and_eq_true,decide_eq_true_eq];omega
      · rcases Nat.lt_or_ge k 1 with h | h
        · rw [show k=0 by omega,hb];omega
        · rw [show k=1 by omega];exact c1
    · rename_i h2
      rw [if_pos (by simp only [Bool.and_eq_true];exact h1),if_neg h2] at one
      exact one rfl
  · rename_i h1
    rw [if_neg h1] at one
    split
    · rename_i h3
      simp only [Bool.and_eq_true] at h3
      obtain ⟨k1,c1⟩:=hc 1 (by simpa using h3.1.2)
      obtain ⟨k2,c2⟩:=hc 2 (by simpa using h3.2)
      split
      · rename_i h2
        simp only [Bool.and_eq_true,decide_eq_true_eq] at h2
        simp only
        refine ⟨by omega,?_,h2.2,by omega,by omega,ht 3 (by omega) fun k hk=>?_⟩
        · omega
        · rcases Nat.lt_or_ge k 1 with h | h
          · rw [show k=0 by omega,hb];omega
          · rcases Nat.lt_or_ge k 2 with h' | h'
            · rw [show k=1 by omega];exact c1
            · rw [show k=2 by omega];exact c2
      · rename_i h2
        rw [if_pos (by simp only [Bool.and_eq_true];exact h3),if_neg h2] at one
        exact one rfl
    · rename_i h3
      rw [if_neg h3] at one
      split
      · rename_i h4
        simp only [Bool.and_eq_true] at h4
        obtain ⟨k1,c1⟩:=hc 1 (by simpa using h4.1.1.2)
        obtain ⟨k2,c2⟩:=hc 2 (by simpa using h4.1.2)
        obtain ⟨k3,c3⟩:=hc 3 (by simpa using h4.2)
        split
        · rename_i h2
          simp only [Bool.and_eq_true,decide_eq_true_eq] at h2
          simp only
          refine ⟨by omega,?_,h2.2,by omega,by omega,ht 4 (by omega) fun k hk=>?_⟩
          · have:=h2.2
            simp only [Utf8.valid,Bool.or_eq_true,Bool.and_eq_true,decide_eq_true_eq] at this
            omega
          · rcases Nat.lt_or_ge k 1 with h | h
            · rw [show k=0 by omega,hb];omega
            · rcases Nat.lt_or_ge k 2 with h' | h'
              · rw [show k=1 by omega];exact c1
              · rcases Nat.lt_or_ge k 3 with h'' | h''
                · rw [show k=2 by omega];exact c2
                · rw [show k=3 by omega];exact c3
        · rename_i h2
          rw [if_pos (by simp only [Bool.and_eq_true];exact h4),if_neg h2] at one
          exact one rfl
      · rename_i h4
        rw [if_neg h4] at one
        exact one rfl
end W10K
/- Words of texts: the library's. -/
namespace W10K
open W10 Go Go.AX Go.AX.Ty Go.Proofs
theorem tN (n:Nat):128 ≤ (UInt8.ofNat (128 + n % 64)).toNat:=by
  have:n % 64 < 64:=Nat.mod_lt _ (by decide)
  simp [UInt8.toNat_ofNat];omega
theorem MO (r:Int) (h1:128 ≤ r) (hv:Utf8.valid r=true):(∃ a b,Jo r=[a,b] ∧ 128 ≤ b.toNat) ∨ (∃ a b c,Jo r=[a,b,c] ∧ 128 ≤ c.toNat) ∨ ∃ a b c d,Jo r=[a,b,c,d] ∧ 128 ≤ d.toNat:=by
  unfold Jo Utf8.encode
  rw [if_pos hv]
  simp only
  rw [if_neg (by omega)]
  split
  · exact .inl ⟨_,_,rfl,tN _⟩
  · split
    · exact .inr (.inl ⟨_,_,_,rfl,tN _⟩)
    · exact .inr (.inr ⟨_,_,_,_,rfl,tN _⟩)
abbrev blanks:Str:=[32,10,9,12,13]
theorem Gz:∀ (l:Str) (c:UInt8) (i:Nat),(∀ x ∈ l,x.toNat < 128) → 128 ≤ c.toNat → sW c l i = -1
  | [],c,i,_,_=>rfl
  | x :: r, c, i, h, hc => by
    have:=h x (by simp)
    rw [sW,if_neg (by intro e;subst e;omega)]
    exact Gz r c _ (fun y hy=>h y (by simp [hy])) hc
theorem Eh (l:Str) (n:Int):bB Tryz.prog 89 [.str l,.int .u8 n] (.int .i64 (sW (UInt8.ofNat n.toNat) l 0)):=by
  refine bf mix c89 (by kernel_rfl) (by kernel_rfl) (by simp [aI,au,Go.AX.flat]) (by first | exact au _ | simp [flat,aI,au]) ?_
  simp -implicitDefEqProofs only [F89,go_sem,seval]
theorem xA (l:Str) (n:Int):bB Tryz.prog 68 [.str l,.int .u8 n] (.int .i64 (sW (UInt8.ofNat n.toNat) l 0)):=by
  refine bf mix c68 (by kernel_rfl) (by kernel_rfl) (by simp [aI,au,Go.AX.flat]) (by first | exact au _ | simp [flat,aI,au]) ?_
  simp -implicitDefEqProofs only [F68,go_sem,seval]
  refine ak (Eh l n) ?_
  simp -implicitDefEqProofs only [go_sem,seval]
theorem GI (r:Int) (hv:Utf8.valid r=true):bB Tryz.prog 69 [.int .i32 r] (.bool true):=by
  simp only [Utf8.valid,Bool.or_eq_true,Bool.and_eq_true,decide_eq_true_eq] at hv
  refine bf mix c69 (by kernel_rfl) (by kernel_rfl) (by simp [aI,au,Go.AX.flat]) (by first | exact au _ | simp [flat,aI,au]) ?_
  simp -implicitDefEqProofs only [F69,go_sem,seval]
  repeat' (refine fJ (fun h hT=>?_) (fun h hT=>?_) <;> try simp -implicitDefEqProofs only [hT,go_sem,seval] <;> try clear hT)
  all_goals omega
theorem Hw (r:Int) (h0:0 ≤ r) (hv:Utf8.valid r=true):bB Tryz.prog 54 [.str blanks,.int .i32 r] (.int .i64 (if r < 128 then sW (UInt8.ofNat r.toNat) blanks 0 else -1)):=by
  refine bf mix c54 (by kernel_rfl) (by kernel_rfl) (by simp [aI,au,Go.AX.flat]) (by first | exact au _ | simp [flat,aI,au]) ?_
  have g0:(0 ≤ r)=True:=eq_true h0
  by_cases h1:r < 128
  · have g1:(r < 128)=True:=eq_true h1
    have g2:IntKind.u8.wrap r=r:=by simp [IntKind.wrap,IntKind.bits,IntKind.signed];omega
    simp -implicitDefEqProofs only [F54,g0,g1,g2,go_sem,seval]
    refine ak (xA blanks r) ?_
    simp -implicitDefEqProofs only [go_sem,seval]
  have g1:(r < 128)=False:=eq_false h1
  rw [if_neg h1]
  by_cases h2:r=65533
  · have g2:(r=65533)=True:=eq_true h2
    simp -implicitDefEqProofs only [F54,g0,g1,g2,go_sem,seval]
    rw [iG]
    refine ⟨6,?_⟩
    have d1:iL [32,10,9,12,13]=(32,1):=rfl
    have d2:iL [10,9,12,13]=(10,1):=rfl
    have d3:iL [9,12,13]=(9,1):=rfl
    have d4:iL [12,13]=(12,1):=rfl
    have d5:iL [13]=(13,1):=rfl
    simp -implicitDefEqProofs only [d1,d2,d3,d4,d5,go_sem,seval]
  have g2:(r=65533)=False:=eq_false h2
  simp -implicitDefEqProofs only [F54,g0,g1,g2,go_sem,seval]
  refine ak (GI r hv) ?_
  simp -implicitDefEqProofs only [go_sem,seval]
  have hI:∀ (l:Str) (c:UInt8),(∀ x ∈ l,x.toNat < 128) → 128 ≤ c.toNat → bB Tryz.prog 68 [.str l,.int .u8 (c.toNat:Int)] (.int .i64 (-1)):=fun l c h1 h2=>
    (xA l c.toNat).at (by rw [Int.toNat_natCast,UInt8.ofNat_toNat,Gz l c 0 h1 h2])
  rcases MO r (by omega) hv with ⟨a,b,e,hb⟩ | ⟨a,b,c,e,hb⟩ | ⟨a,b,c,d,e,hb⟩
  all_goals
    simp -implicitDefEqProofs only [e,go_sem,seval]
    rw [iG]
    refine ⟨1,?_⟩
    simp -implicitDefEqProofs only [go_sem,seval]
    refine aA (by kernel_rfl) ?_
    simp -implicitDefEqProofs only [go_sem,seval]
    refine fJ (fun h hT=>?_) (fun h hT=>?_)
    · omega
    · simp -implicitDefEqProofs only [hT,go_sem,seval]
      refine aA (by kernel_rfl) ?_
      simp -implicitDefEqProofs only [go_sem,seval]
      refine ak (hI _ _ (by decide) hb) ?_
      simp -implicitDefEqProofs only [go_sem,seval]
end W10K
/- Words of texts: the document's; what is a blank. -/
namespace W10K
open W10 Go Go.AX Go.AX.Ty Go.Proofs
def jk (r:Int):Bool:=decide (r < 128) && aT (UInt8.ofNat r.toNat)
theorem Jy (c:UInt8):decide (sW c blanks 0 ≥ 0)=aT c:=by
  simp only [sW,aT]
  by_cases h1:c=32
  · subst h1;rfl
  by_cases h2:c=10
  · subst h2;rfl
  by_cases h3:c=9
  · subst h3;rfl
  by_cases h4:c=12
  · subst h4;rfl
  by_cases h5:c=13
  · subst h5;rfl
  simp [h1,h2,h3,h4,h5,Ne.symm h1,Ne.symm h2,Ne.symm h3,Ne.symm h4,Ne.symm h5]
theorem zW (r:Int) (h0:0 ≤ r) (hv:Utf8.valid r=true):bB Tryz.prog 42 [.str blanks,.int .i32 r] (.bool (jk r)):=by
  refine bf mix c42 (by kernel_rfl) (by kernel_rfl) (by simp [aI,au,Go.AX.flat]) (by first | exact au _ | simp [flat,aI,au]) ?_
  simp -implicitDefEqProofs only [F42,go_sem,seval]
  refine ak (Hw r h0 hv) ?_
  simp -implicitDefEqProofs only [go_sem,seval]
  unfold jk
  by_cases h:r < 128
  · rw [if_pos h,Jy];simp [h]
  · rw [if_neg h];simp [h]
theorem Ju (r:Int) (h0:0 ≤ r) (hv:Utf8.valid r=true):bB Tryz.prog 41 [.int .i32 r] (.bool (jk r)):=by
  refine bf mix c41 (by kernel_rfl) (by kernel_rfl) (by simp [aI,au,Go.AX.flat]) (by first | exact au _ | simp [flat,aI,au]) ?_
  simp -implicitDefEqProofs only [F41,go_sem,seval]
  refine ak (zW r h0 hv) ?_
  simp -implicitDefEqProofs only [go_sem,seval]
theorem AL (c:UInt8):aT c=(decide ((c.toNat:Int)=32) || (decide ((c.toNat:Int)=9) || (decide ((c.toNat:Int)=10) || (decide ((c.toNat:Int)=12) || decide ((c.toNat:Int)=13))))):=by
  have e:∀ k:UInt8,(c == k)=decide ((c.toNat:Int)=(k.toNat:Int)):=fun k=>by
    rw [Bool.eq_iff_iff,beq_iff_eq,decide_eq_true_eq];constructor
    · intro h;rw [h]
    · intro h;exact UInt8.toNat_inj.1 (by omega)
  simp only [aT,e,Bool.or_assoc];rfl
theorem Vm (c:UInt8):bB Tryz.prog 43 [.int .u8 c.toNat] (.bool (aT c)):=by
  refine bf mix c43 (by kernel_rfl) (by kernel_rfl) (by simp [aI,au,Go.AX.flat]) (by first | exact au _ | simp [flat,aI,au]) ?_
  rw [AL]
  generalize (c.toNat:Int)=n
  simp -implicitDefEqProofs only [F43,go_sem,seval]
  by_cases h1:n=32 <;> by_cases h2:n=9 <;> by_cases h3:n=10 <;> by_cases h4:n=12 <;> by_cases h5:n=13
  all_goals (try simp -implicitDefEqProofs only [h1,h2,h3,h4,h5,go_sem,seval])
  all_goals (first | rfl | simp_all)
theorem D7 (s:Str) (hl:s.length ≤ 1000000):bB Tryz.prog 21 [Enc.av s] (Enc.av (jQ s)):=by
  refine bf mix c21 (by kernel_rfl) (by kernel_rfl) (by simp [aI,au,Go.AX.flat]) (by first | exact au _ | simp [flat,aI,au]) ?_
  simp -implicitDefEqProofs only [F21,go_sem,seval]
  refine bA (fun p:List Str × Nat × Nat=>s.length + 1 - p.2.2) (fun p=>[(0,Enc.av s),(3,.sl 0 (2 * p.1.length + 1) 0 p.1.length 1),(4,.int .i64 p.2.1),(5,.int .i64 p.2.2)])
    (fun p st=>p.2.2 ≤ s.length + 1 ∧ p.2.1 ≤ p.2.2 ∧ 1 ≤ st.next ∧ AX.look 0 st.heap=some (.cells (2 * p.1.length + 1) (aj p.1) false) ∧ p.1.length ≤ p.2.2 ∧
      (p.2.2 ≤ s.length → p.1 ++ eF (s.drop p.2.2) ((s.take p.2.2).drop p.2.1)=jQ s) ∧ (p.2.2=s.length + 1 → p.1=jQ s)) ([],0,0) ?_ ?_
  · simp -implicitDefEqProofs only [aj,go_sem,seval]
    simp [jQ]
  rintro ⟨out,a,i⟩ ρ ⟨g,m⟩ ⟨h1,h2,h3,h4,h5,h6,h7⟩
  dsimp only at h1 h2 h3 h4 h5 h6 h7
  have m0:(m=0)=False:=eq_false (by omega)
  have hc:(aj out).length=out.length:=by rw [dh];simp [Enc.sz]
  have ht:List.take out.length (aj out)=aj out:=List.take_of_length_le (by omega)
  have w1:IntKind.i64.wrap ((i:Int) + 1)=((i + 1:Nat):Int):=by rw [wrap64 (by omega) (by omega)];omega
  rcases Nat.lt_or_ge s.length i with hi | hi
  · have hle:((i:Int) ≤ (s.length:Int))=False:=eq_false (by omega)
    have:=h7 (by omega)
    subst this
    simp -implicitDefEqProofs only [hle,h4,hc,ht,go_sem,seval]
    rw [vY _ h4 (by omega),Nat.mul_one,ht]
  have hle:((i:Int) ≤ (s.length:Int))=True:=eq_true (by omega)
  rcases Nat.lt_or_ge i s.length with hk | hk
  · obtain ⟨c,hx,hd,hm⟩:=aW hk
    have hne:((i:Int)=(s.length:Int))=False:=eq_false (by omega)
    simp -implicitDefEqProofs only [hle,hne,hx,go_sem,seval]
    refine ak (Vm c) ?_
    simp -implicitDefEqProofs only [hne,go_sem,seval]
    have w2:IntKind.i64.wrap ((i:Int) + 1)=((i + 1:Nat):Int):=w1
    have hbd:((out.length + 1) * 16 ≤ 140737488355328)=True:=eq_true (by omega)
    have hmx:max (out.length + 1) (out.length + 1)=out.length + 1:=Nat.max_self _
    have hai:(a ≤ i)=True:=eq_true h2
    have his:(i ≤ s.length)=True:=eq_true (by omega)
    have hsn:∀ x:Str,aj (out ++ [x])=aj out ++ [.str x]:=fun x=>by rw [aU];rfl
    have hacc:(s.take (i + 1)).drop a=(s.take i).drop a ++ [c]:=by
      rw [List.take_add_one,hx]
      simp only [Option.toList_some]
      rw [List.drop_append_of_le_length (by rw [List.length_take];omega)]
    refine fJ (fun h hT=>?_) (fun h hT=>?_)
    · simp -implicitDefEqProofs only [hT,hne,go_sem,seval]
      refine fJ (fun h' hT'=>?_) (fun h' hT'=>?_)
      · simp -implicitDefEqProofs only [hT',hai,his,h4,hc,ht,hbd,hmx,m0,w1,go_sem,seval]
        refine ⟨(out ++ [(s.drop a).take (i - a)],i + 1,i + 1),by simp only;omega,?_⟩
        have e:(s.drop a).take (i - a)=(s.take i).drop a:=by rw [List.drop_take]
        simp only [List.length_append,List.length_cons,List.length_nil,hsn,Nat.zero_add,Nat.le_refl,and_true,true_and,eq_self]
        refine ⟨by omega,by omega,fun _=>?_,fun _=>by omega⟩
        have h8:=h6 (by omega)
        rw [hd,eF,if_pos h,if_neg (by rw [← List.length_eq_zero_iff,List.length_drop,List.length_take];omega)] at h8
        rw [e,List.append_assoc,List.singleton_append,show List.drop (i + 1) (List.take (i + 1) s)=[] by rw [List.drop_eq_nil_iff,List.length_take];omega]
        exact h8
      · simp -implicitDefEqProofs only [hT',w1,go_sem,seval]
        refine ⟨(out,i + 1,i + 1),by simp only;omega,⟨rfl,rfl,rfl⟩,by simp only;omega,by simp only;omega,h3,h4,by simp only;omega,fun _=>?_,fun _=>by simp only at *;omega⟩
        have h8:=h6 (by omega)
        have ea:(s.take i).drop a=[]:=by rw [List.drop_eq_nil_iff,List.length_take];omega
        rw [hd,eF,if_pos h,if_pos ea] at h8
        simp only
        rw [show List.drop (i + 1) (List.take (i + 1) s)=[] by rw [List.drop_eq_nil_iff,List.length_take];omega]
        exact h8
    · simp -implicitDefEqProofs only [hT,hne,w1,go_sem,seval]
      refine ⟨(out,a,i + 1),by simp only;omega,⟨rfl,rfl,rfl⟩,by simp only;omega,by simp only;omega,h3,h4,by simp only;omega,fun _=>?_,fun _=>by simp only at *;omega⟩
      have h8:=h6 (by omega)
      rw [hd,eF,if_neg h] at h8
      simp only
      rw [hacc]
      exact h8
  · have hne:((i:Int)=(s.length:Int))=True:=eq_true (by omega)
    have hil:i=s.length:=by omega
    have hbd:((out.length + 1) * 16 ≤ 140737488355328)=True:=eq_true (by omega)
    have hmx:max (out.length + 1) (out.length + 1)=out.length + 1:=Nat.max_self _
    have hai:(a ≤ i)=True:=eq_true h2
    have his:(i ≤ s.length)=True:=eq_true (by omega)
    have hsn:∀ x:Str,aj (out ++ [x])=aj out ++ [.str x]:=fun x=>by rw [aU];rfl
    have h8:=h6 (by omega)
    have e0:s.drop i=[]:=by rw [List.drop_eq_nil_iff];omega
    rw [e0,eF] at h8
    simp -implicitDefEqProofs only [hle,hne,go_sem,seval]
    refine fJ (fun h' hT'=>?_) (fun h' hT'=>?_)
    · simp -implicitDefEqProofs only [hT',hai,his,h4,hc,ht,hbd,hmx,m0,w1,go_sem,seval]
      refine ⟨(out ++ [(s.drop a).take (i - a)],i + 1,i + 1),by simp only;omega,?_⟩
      have e:(s.drop a).take (i - a)=(s.take i).drop a:=by rw [List.drop_take]
      simp only [List.length_append,List.length_cons,List.length_nil,hsn,Nat.zero_add,Nat.le_refl,and_true,true_and,eq_self]
      refine ⟨by omega,by omega,fun _=>by omega,fun _=>?_⟩
      rw [if_neg (by rw [← List.length_eq_zero_iff,List.length_drop,List.length_take];omega)] at h8
      rw [e];exact h8
    · simp -implicitDefEqProofs only [hT',w1,go_sem,seval]
      refine ⟨(out,i + 1,i + 1),by simp only;omega,⟨rfl,rfl,rfl⟩,by simp only;omega,by simp only;omega,h3,h4,by simp only;omega,fun _=>by simp only at *;omega,fun _=>?_⟩
      rw [if_pos (by rw [List.drop_eq_nil_iff,List.length_take];omega),List.append_nil] at h8
      exact h8
end W10K
/- Words of texts: the library's FieldsFunc. -/
namespace W10K
open W10 Go Go.AX Go.AX.Ty Go.Proofs
structure Sp where
  a:Nat
  b:Nat
instance:Enc Sp:=⟨2,fun x=>[.int .i64 x.a,.int .i64 x.b],fun x=>.agg [.int .i64 x.a,.int .i64 x.b],fun x=>True,fun _=>rfl,fun _=>rfl,fun _=>.inl rfl,fun _=>rfl⟩
theorem Sp.bY (x:Sp):Enc.cells x=[.int .i64 x.a,.int .i64 x.b]:=rfl
theorem Sp.jm (l:List Sp):(aj l).length=l.length * 2:=dh l
def kS (s:Str) (x:Sp):Str:=(s.drop x.a).take (x.b - x.a)
theorem YR {n:Int} (h0:0 ≤ n) (h1:n ≤ 9223372036854775807):Rt .i64 n = -1 - n:=by
  obtain ⟨k,rfl⟩:=Int.eq_ofNat_of_zero_le h0
  have e:(BitVec.ofInt 64 (-1) ^^^ BitVec.ofInt 64 (k:Int)) = ~~~ (BitVec.ofNat 64 k):=by
    have:BitVec.ofInt 64 (-1)=BitVec.allOnes 64:=rfl
    rw [this,BitVec.allOnes_xor];rfl
  show IntKind.i64.wrap ((BitVec.ofInt 64 (-1) ^^^ BitVec.ofInt 64 (k:Int)).toNat:Int)=_
  rw [e,BitVec.toNat_not,BitVec.toNat_ofNat]
  simp [IntKind.wrap,IntKind.bits,IntKind.signed];omega
theorem Md {c:UInt8} (h:aT c=true):c.toNat < 128:=by
  rw [AL] at h
  simp only [Bool.or_eq_true,decide_eq_true_eq] at h
  omega
theorem Ch (c:UInt8) (h:c.toNat < 128):jk (c.toNat:Int)=aT c:=by
  have h1:(c.toNat:Int) < 128:=by omega
  unfold jk;rw [Int.toNat_natCast,UInt8.ofNat_toNat];simp [h1]
theorem Cm {r:Int} (h:128 ≤ r):jk r=false:=by
  have h1:¬ r < 128:=by omega
  simp [jk,h1]
structure FF (s:Str) (sp:List Sp) (start:Int) (pos:Nat):Prop where
  le:pos ≤ s.length
  st:start < 0 ∨ (0 ≤ start ∧ start < pos)
  lo:-1000001 ≤ start
  len:sp.length ≤ pos
  ok:∀ x ∈ sp,x.a ≤ x.b ∧ x.b ≤ s.length
  sum:sp.map (kS s) ++ eF (s.drop pos) (if start < 0 then [] else (s.take pos).drop start.toNat)=jQ s
theorem FF.init (s:Str):FF s [] (-1) 0:=⟨by simp,.inl (by decide),by decide,by simp,by simp,by simp [jQ]⟩
theorem FF.skip {s:Str} {sp:List Sp} {start:Int} {pos:Nat} (h:FF s sp start pos) {c:UInt8} (hc:s[pos]? = some c) (hb:aT c=true) (h0:start < 0):FF s sp start (pos + 1):=by
  have hk:pos < s.length:=by
    rcases Nat.lt_or_ge pos s.length with h' | h'
    · exact h'
    · rw [List.getElem?_eq_none h'] at hc;simp at hc
  have hd:s.drop pos=c :: s.drop (pos + 1):=by
    rw [List.drop_eq_getElem_cons hk]
    rw [List.getElem?_eq_getElem hk] at hc;simp at hc;rw [hc]
  refine ⟨hk,.inl h0,h.lo,by have:=h.len;omega,h.ok,?_⟩
  have:=h.sum
  rw [hd,if_pos h0,eF,if_pos hb,if_pos rfl] at this
  rw [if_pos h0];exact this
theorem FF.cut {s:Str} {sp:List Sp} {a pos:Nat} (h:FF s sp (a:Int) pos) {c:UInt8} (hc:s[pos]? = some c) (hb:aT c=true) (hl:s.length ≤ 1000000):FF s (sp ++ [⟨a,pos⟩]) (-1 - (a:Int)) (pos + 1):=by
  have hk:pos < s.length:=by
    rcases Nat.lt_or_ge pos s.length with h' | h'
    · exact h'
    · rw [List.getElem?_eq_none h'] at hc;simp at hc
  have hd:s.drop pos=c :: s.drop (pos + 1):=by
    rw [List.drop_eq_getElem_cons hk]
    rw [List.getElem?_eq_getElem hk] at hc;simp at hc;rw [hc]
  have ha:=h.st
  have hlen:=h.len
  refine ⟨hk,.inl (by omega),by omega,by simp;omega,fun x hx=>?_,?_⟩
  · rcases List.mem_append.1 hx with hx | hx
    · exact h.ok x hx
    · simp at hx;subst hx;simp only;omega
  have:=h.sum
  rw [hd,if_neg (by omega),Int.toNat_natCast,eF,if_pos hb,if_neg (by rw [← List.length_eq_zero_iff,List.length_drop,List.length_take];omega)] at this
  rw [if_pos (by omega),List.map_append,List.append_assoc,List.map_singleton,List.singleton_append]
  have e:kS s ⟨a,pos⟩=(s.take pos).drop a:=by simp only [kS,List.drop_take]
  rw [e];exact this
theorem FF.run {s:Str} {sp:List Sp} {start:Int} {pos n:Nat} (h:FF s sp start pos) (hn:pos + n ≤ s.length) (hn1:1 ≤ n) (hb:∀ c ∈ (s.drop pos).take n,aT c=false):FF s sp (if start < 0 then (pos:Int) else start) (pos + n):=by
  have hlen:=h.len
  have hsum:=h.sum
  have e:s.drop pos=(s.drop pos).take n ++ s.drop (pos + n):=by rw [← List.drop_drop,List.take_append_drop]
  rw [e,wS _ _ _ hb] at hsum
  by_cases h0:start < 0
  · rw [if_pos h0]
    rw [if_pos h0,List.nil_append] at hsum
    refine ⟨hn,.inr (by omega),by omega,by omega,h.ok,?_⟩
    rw [if_neg (by omega),Int.toNat_natCast,List.drop_take,show pos + n - pos=n by omega]
    exact hsum
  · rw [if_neg h0]
    rw [if_neg h0] at hsum
    have hst:=h.st
    refine ⟨hn,.inr (by omega),h.lo,by omega,h.ok,?_⟩
    rw [if_neg h0]
    have e2:(s.take (pos + n)).drop start.toNat=(s.take pos).drop start.toNat ++ (s.drop pos).take n:=by
      rw [List.take_add,List.drop_append_of_le_length (by rw [List.length_take];omega)]
    rw [e2];exact hsum
theorem FF.ZA {s:Str} {sp:List Sp} {start:Int} {pos:Nat} (h:FF s sp start pos) (hp:pos=s.length) (h0:start < 0):sp.map (kS s)=jQ s:=by
  have:=h.sum
  rw [if_pos h0,show s.drop pos=[] by rw [List.drop_eq_nil_iff];omega,eF,if_pos rfl,List.append_nil] at this
  exact this
theorem FF.GV {s:Str} {sp:List Sp} {a pos:Nat} (h:FF s sp (a:Int) pos) (hp:pos=s.length):(sp ++ [(⟨a,s.length⟩:Sp)]).map (kS s)=jQ s:=by
  have:=h.sum
  have hst:=h.st
  rw [if_neg (by omega),show s.drop pos=[] by rw [List.drop_eq_nil_iff];omega,eF,Int.toNat_natCast,if_neg (by rw [← List.length_eq_zero_iff,List.length_drop,List.length_take];omega)] at this
  rw [List.map_append,List.map_singleton]
  have e:kS s ⟨a,s.length⟩=(s.take pos).drop a:=by simp only [kS,List.drop_take,hp]
  rw [e];exact this
theorem DT (s:Str) (hl:s.length ≤ 1000000):bB Tryz.prog 40 [Enc.av s,.fn (.func 41) [] []] (Enc.av (jQ s)):=by
  refine bf mix c40 (by kernel_rfl) (by kernel_rfl) (by simp [aI,au,Go.AX.flat]) (by first | exact au _ | simp [flat,aI,au]) ?_
  simp -implicitDefEqProofs only [F40,go_sem,seval]
  refine bA (fun p:List Sp × Int × Nat=>s.length - p.2.2) (fun p=>[(0,Enc.av s),(1,.fn (.func 41) [] []),(5,.sl 0 (2 * (p.1.length * 2) + 1) 0 p.1.length 2),(6,.int .i64 p.2.1),(14,.ptr 1 0 0)])
    (fun p st=>FF s p.1 p.2.1 p.2.2 ∧ 2 ≤ st.next ∧ AX.look 0 st.heap=some (.cells (2 * (p.1.length * 2) + 1) (aj p.1) false) ∧ AX.look 1 st.heap=some (.iter s p.2.2)) ([],-1,0) ?_ ?_
  · simp -implicitDefEqProofs only [aj,go_sem,seval]
    exact ⟨FF.init s,rfl⟩
  rintro ⟨sp,start,pos⟩ ρ ⟨g,m⟩ ⟨h1,h2,h3,h4⟩
  dsimp only at h1 h2 h3 h4
  have m0:(m=0)=False:=eq_false (by omega)
  have m1:(m=1)=False:=eq_false (by omega)
  have hc:(aj sp).length=sp.length * 2:=Sp.jm sp
  have ht:List.take (sp.length * 2) (aj sp)=aj sp:=List.take_of_length_le (by omega)
  have hbd:((sp.length + 1) * 16 ≤ 140737488355328)=True:=eq_true (by have:=h1.len;have:=h1.le;omega)
  have hmx:max (sp.length * 2 + 1) (sp.length * 2 + 2)=sp.length * 2 + 2:=by omega
  have hm2:(sp.length + 1) * 2=sp.length * 2 + 2:=by omega
  have hsn:∀ x:Sp,aj (sp ++ [x])=aj sp ++ [.int .i64 x.a,.int .i64 x.b]:=fun x=>by rw [aU];rfl
  rcases Nat.lt_or_ge pos s.length with hk | hk
  · obtain ⟨c,hx,hd,hm⟩:=aW hk
    have hlt:(pos < s.length)=True:=eq_true hk
    have hspec:=MF c (s.drop (pos + 1))
    rw [← hd] at hspec
    simp -implicitDefEqProofs only [h4,hlt,m0,m1,go_sem,seval]
    have hpl:=h1.le
    generalize iL (List.drop pos s)=d at hspec
    obtain ⟨r,n⟩:=d
    dsimp only at hspec
    have hv:0 ≤ (r:Int) ∧ Utf8.valid (r:Int)=true ∧ pos + n ≤ s.length ∧ 1 ≤ n ∧ ((jk (r:Int)=true ∧ aT c=true ∧ n=1) ∨ (jk (r:Int)=false ∧ ∀ x ∈ (s.drop pos).take n,aT x=false)):=by
      rcases hspec with ⟨a1,a2⟩ | ⟨a1,a2,a3,a4,a5,a6,a7⟩
      · simp only [Prod.mk.injEq] at a2
        obtain ⟨rfl,rfl⟩:=a2
        refine ⟨by omega,by simp only [Utf8.valid,Bool.or_eq_true,Bool.and_eq_true,decide_eq_true_eq];omega,by omega,by omega,?_⟩
        rw [Ch c a1]
        cases hb:aT c
        · right
          refine ⟨rfl,fun x hx'=>?_⟩
          rw [hd] at hx'
          simp at hx'
          rw [hx',hb]
        · left;exact ⟨rfl,rfl,rfl⟩
      · refine ⟨by omega,a4,?_,a5,.inr ⟨Cm (by omega),fun x hx'=>?_⟩⟩
        · rw [List.length_drop] at a6;omega
        · have:=a7 x hx'
          cases hb:aT x
          · rfl
          · have:=Md hb;omega
    obtain ⟨v1,v2,v3,v4,v5⟩:=hv
    have v6:=Ju r v1 v2
    rcases v5 with ⟨b1,b2,b3⟩ | ⟨b1,b2⟩
    · subst b3
      rw [b1] at v6
      refine ak v6 ?_
      simp -implicitDefEqProofs only [go_sem,seval]
      refine fJ (fun h hT=>?_) (fun h hT=>?_)
      · obtain ⟨a,rfl⟩:=Int.eq_ofNat_of_zero_le (show 0 ≤ start by omega)
        have hx64:Rt .i64 (a:Int) = -1 - (a:Int):=YR (by omega) (by have:=h1.st;omega)
        simp -implicitDefEqProofs only [h3,h4,hc,ht,hbd,hmx,m0,m1,hx64,go_sem,seval]
        refine ⟨(sp ++ [⟨a,pos⟩],-1 - (a:Int),pos + 1),by simp only;omega,?_⟩
        have el:(sp ++ [(⟨a,pos⟩:Sp)]).length=sp.length + 1:=by simp
        simp only [el,hsn,hm2,true_and,and_true]
        exact ⟨h1.cut hx b2 hl,by omega⟩
      · simp -implicitDefEqProofs only [h3,h4,go_sem,seval]
        refine ⟨(sp,start,pos + 1),by simp only;omega,?_⟩
        simp only [true_and,and_true]
        exact ⟨h1.skip hx b2 (by omega),h2⟩
    · have hrun:=h1.run v3 v4 b2
      rw [b1] at v6
      refine ak v6 ?_
      simp -implicitDefEqProofs only [go_sem,seval]
      refine fJ (fun h hT=>?_) (fun h hT=>?_)
      · rw [if_pos h] at hrun
        simp -implicitDefEqProofs only [h3,h4,go_sem,seval]
        refine ⟨(sp,(pos:Int),pos + n),by simp only;omega,?_⟩
        simp only [true_and,and_true]
        exact ⟨hrun,h2⟩
      · rw [if_neg h] at hrun
        simp -implicitDefEqProofs only [h3,h4,go_sem,seval]
        refine ⟨(sp,start,pos + n),by simp only;omega,?_⟩
        simp only [true_and,and_true]
        exact ⟨hrun,h2⟩
  · have hlt:(pos < s.length)=False:=eq_false (by omega)
    have hpl:=h1.le
    simp -implicitDefEqProofs only [h4,hlt,go_sem,seval]
    refine fJ (fun h hT=>?_) (fun h hT=>?_)
    · obtain ⟨a,rfl⟩:=Int.eq_ofNat_of_zero_le (show 0 ≤ start by omega)
      have hend:=h1.GV (by omega)
      have hok:∀ x ∈ sp ++ [(⟨a,s.length⟩:Sp)],x.a ≤ x.b ∧ x.b ≤ s.length:=fun x hx=>by
        rcases List.mem_append.1 hx with hx | hx
        · exact h1.ok x hx
        · simp at hx;subst hx;have:=h1.st;simp only;omega
      have hspl:=h1.len
      have el:(sp ++ [(⟨a,s.length⟩:Sp)]).length=sp.length + 1:=by simp
      have hsq:=hsn ⟨a,s.length⟩
      have hm3:sp.length * 2 + 2=(sp.length + 1) * 2:=by omega
      have m3:(m + 1=0)=False:=eq_false (by omega)
      have m4:(m + 1=1)=False:=eq_false (by omega)
      have m5:(0=m + 1)=False:=eq_false (by omega)
      have lsq:(⟨a,s.length⟩:Sp).a=a ∧ (⟨a,s.length⟩:Sp).b=s.length:=⟨rfl,rfl⟩
      simp only at hsq
      simp -implicitDefEqProofs only [h3,h4,hc,ht,hbd,hmx,m0,m1,m3,m4,m5,go_sem,seval]
      generalize hSQ:sp ++ [(⟨a,s.length⟩:Sp)]=SQ at hend hok el hsq
      rw [← hsq,hm3,← el]
      have hcap3:(sp.length ≤ 9223372036854775806)=True:=eq_true (by omega)
      have hcap1:((SQ).length * 16 ≤ 140737488355328 ∧ (SQ).length ≤ 9223372036854775807)=True:=eq_true (by omega)
      have hcap2:((SQ).length ≤ 9223372036854775806)=True:=eq_true (by omega)
      have rep:∀ q:Nat,(List.replicate q [AV.str []]).flatten=List.replicate q (.str []):=fun q=>by
        induction q with
        | zero=>rfl
        | succ q ih=>rw [List.replicate_succ,List.flatten_cons,ih];rfl
      simp -implicitDefEqProofs only [h3,h4,hT,hcap1,hcap2,rep,m0,m1,hc,ht,hbd,hmx,m3,m4,m5,hcap3,go_sem,seval]
      refine bA (fun k:Nat=>(SQ).length - k) (fun k=>[(0,Enc.av s),(9,.sl (m + 1) (2 * (SQ).length + 1) 0 (SQ).length 1),(47,.sl 0 (2 * ((SQ).length * 2) + 1) 0 (SQ).length 2),(48,.int .i64 (SQ).length),(49,.int .i64 k)])
        (fun k st=>k ≤ (SQ).length ∧ (m + 1) + 1 ≤ st.next ∧ AX.look 0 st.heap=some (.cells (2 * ((SQ).length * 2) + 1) (aj (SQ)) false) ∧ AX.look (m + 1) st.heap=some (.cells (2 * (SQ).length + 1) (aj (((SQ).take k).map (kS s)) ++ List.replicate ((SQ).length - k) (.str [])) false)) 0 ?_ ?_
      · simp -implicitDefEqProofs only [h3,h4,m0,m1,rep,hc,ht,hbd,hmx,m3,m4,m5,hcap3,go_sem,seval]
        try simp [aj]
      rintro k ρ ⟨g2,q⟩ ⟨j1,j2,j3,j4⟩
      dsimp only at j2 j3 j4
      have q0:(q=0)=False:=eq_false (by omega)
      have qm:(q=(m + 1))=False:=eq_false (by omega)
      have n0:(((m + 1))=0)=False:=eq_false (by omega)
      have i0:(0 < q)=True:=eq_true (by omega)
      have im:(((m + 1)) < q)=True:=eq_true (by omega)
      have cA:(aj (((SQ).take k).map (kS s))).length=k:=by rw [dh];simp [Enc.sz];omega
      have cC:(aj (((SQ).take k).map (kS s)) ++ List.replicate ((SQ).length - k) (AV.str [])).length=(SQ).length:=by rw [List.length_append,cA,List.length_replicate];omega
      rcases Nat.lt_or_ge k (SQ).length with hk2 | hk2
      · obtain ⟨y,hy,hd2,hm2'⟩:=aW hk2
        have yok:=hok y hm2'
        have hlt2:((k:Int) < ((SQ).length:Int))=True:=eq_true (by omega)
        have hltn:(k < (SQ).length)=True:=eq_true hk2
        have hle:(k * 2 ≤ (SQ).length * 2)=True:=eq_true (by omega)
        have hle1:(k + 1 ≤ (SQ).length)=True:=eq_true (by omega)
        have ya:(y.a ≤ y.b)=True:=eq_true yok.1
        have yb:(y.b ≤ s.length)=True:=eq_true yok.2
        have w1:IntKind.i64.wrap ((k:Int) + 1)=((k + 1:Nat):Int):=by rw [wrap64 (by omega) (by omega)];omega
        have hdr:List.drop (k * 2) (aj (SQ))=.int .i64 y.a :: .int .i64 y.b :: aj ((SQ).drop (k + 1)):=by
          have:=lD (SQ) k
          rw [hd2] at this
          exact this
        have hsl:(aj (SQ)).length=(SQ).length * 2:=Sp.jm (SQ)
        have tA:List.take k (aj (((SQ).take k).map (kS s)) ++ List.replicate ((SQ).length - k) (AV.str []))=aj (((SQ).take k).map (kS s)):=by rw [List.take_append_of_le_length (by omega),List.take_of_length_le (by omega)]
        have dA:List.drop (k + 1) (aj (((SQ).take k).map (kS s)) ++ List.replicate ((SQ).length - k) (AV.str []))=List.replicate ((SQ).length - (k + 1)) (.str []):=by
          rw [List.drop_append,List.drop_of_length_le (by omega),cA,List.nil_append,List.drop_replicate];congr 1;omega
        have hfin:aj (((SQ).take (k + 1)).map (kS s))=aj (((SQ).take k).map (kS s)) ++ [.str (kS s y)]:=by
          rw [List.take_add_one,hy]
          simp only [Option.toList_some,List.map_append,List.map_singleton,aU];rfl
        simp -implicitDefEqProofs only [hlt2,hltn,hle,hle1,hy,w1,j3,j4,hsl,hdr,q0,qm,n0,i0,im,ya,yb,cC,tA,dA,go_sem,seval]
        refine ⟨k + 1,by omega,?_⟩
        simp only [true_and,and_true,Nat.succ_le_of_lt hk2]
        rw [hfin,List.append_assoc]
        exact ⟨by omega,by simp only [kS,List.append_assoc,List.singleton_append]⟩
      · have hlt2:((k:Int) < ((SQ).length:Int))=False:=eq_false (by omega)
        simp -implicitDefEqProofs only [hlt2,go_sem,seval]
        have hkn:k=(SQ).length:=by omega
        subst hkn
        rw [List.take_length,Nat.sub_self,List.replicate_zero,List.append_nil] at j4
        rw [List.take_length] at cA
        rw [vY _ j4 (by omega),Nat.mul_one,List.take_of_length_le (by omega),hend]
        rw [← hend,List.length_map]
    · have hend:=h1.ZA (by omega) (by omega)
      have hok:=h1.ok
      have hspl:=h1.len
      have hcap1:((sp).length * 16 ≤ 140737488355328 ∧ (sp).length ≤ 9223372036854775807)=True:=eq_true (by omega)
      have hcap2:((sp).length ≤ 9223372036854775806)=True:=eq_true (by omega)
      have rep:∀ q:Nat,(List.replicate q [AV.str []]).flatten=List.replicate q (.str []):=fun q=>by
        induction q with
        | zero=>rfl
        | succ q ih=>rw [List.replicate_succ,List.flatten_cons,ih];rfl
      simp -implicitDefEqProofs only [h3,h4,hT,hcap1,hcap2,rep,m0,m1,hc,ht,go_sem,seval]
      refine bA (fun k:Nat=>(sp).length - k) (fun k=>[(0,Enc.av s),(9,.sl m (2 * (sp).length + 1) 0 (sp).length 1),(47,.sl 0 (2 * ((sp).length * 2) + 1) 0 (sp).length 2),(48,.int .i64 (sp).length),(49,.int .i64 k)])
        (fun k st=>k ≤ (sp).length ∧ m + 1 ≤ st.next ∧ AX.look 0 st.heap=some (.cells (2 * ((sp).length * 2) + 1) (aj (sp)) false) ∧ AX.look m st.heap=some (.cells (2 * (sp).length + 1) (aj (((sp).take k).map (kS s)) ++ List.replicate ((sp).length - k) (.str [])) false)) 0 ?_ ?_
      · simp -implicitDefEqProofs only [h3,h4,m0,m1,rep,hc,ht,go_sem,seval]
        try simp [aj]
      rintro k ρ ⟨g2,q⟩ ⟨j1,j2,j3,j4⟩
      dsimp only at j2 j3 j4
      have q0:(q=0)=False:=eq_false (by omega)
      have qm:(q=m)=False:=eq_false (by omega)
      have n0:((m)=0)=False:=eq_false (by omega)
      have i0:(0 < q)=True:=eq_true (by omega)
      have im:((m) < q)=True:=eq_true (by omega)
      have cA:(aj (((sp).take k).map (kS s))).length=k:=by rw [dh];simp [Enc.sz];omega
      have cC:(aj (((sp).take k).map (kS s)) ++ List.replicate ((sp).length - k) (AV.str [])).length=(sp).length:=by rw [List.length_append,cA,List.length_replicate];omega
      rcases Nat.lt_or_ge k (sp).length with hk2 | hk2
      · obtain ⟨y,hy,hd2,hm2'⟩:=aW hk2
        have yok:=hok y hm2'
        have hlt2:((k:Int) < ((sp).length:Int))=True:=eq_true (by omega)
        have hltn:(k < (sp).length)=True:=eq_true hk2
        have hle:(k * 2 ≤ (sp).length * 2)=True:=eq_true (by omega)
        have hle1:(k + 1 ≤ (sp).length)=True:=eq_true (by omega)
        have ya:(y.a ≤ y.b)=True:=eq_true yok.1
        have yb:(y.b ≤ s.length)=True:=eq_true yok.2
        have w1:IntKind.i64.wrap ((k:Int) + 1)=((k + 1:Nat):Int):=by rw [wrap64 (by omega) (by omega)];omega
        have hdr:List.drop (k * 2) (aj (sp))=.int .i64 y.a :: .int .i64 y.b :: aj ((sp).drop (k + 1)):=by
          have:=lD (sp) k
          rw [hd2] at this
          exact this
        have hsl:(aj (sp)).length=(sp).length * 2:=Sp.jm (sp)
        have tA:List.take k (aj (((sp).take k).map (kS s)) ++ List.replicate ((sp).length - k) (AV.str []))=aj (((sp).take k).map (kS s)):=by rw [List.take_append_of_le_length (by omega),List.take_of_length_le (by omega)]
        have dA:List.drop (k + 1) (aj (((sp).take k).map (kS s)) ++ List.replicate ((sp).length - k) (AV.str []))=List.replicate ((sp).length - (k + 1)) (.str []):=by
          rw [List.drop_append,List.drop_of_length_le (by omega),cA,List.nil_append,List.drop_replicate];congr 1;omega
        have hfin:aj (((sp).take (k + 1)).map (kS s))=aj (((sp).take k).map (kS s)) ++ [.str (kS s y)]:=by
          rw [List.take_add_one,hy]
          simp only [Option.toList_some,List.map_append,List.map_singleton,aU];rfl
        simp -implicitDefEqProofs only [hlt2,hltn,hle,hle1,hy,w1,j3,j4,hsl,hdr,q0,qm,n0,i0,im,ya,yb,cC,tA,dA,go_sem,seval]
        refine ⟨k + 1,by omega,?_⟩
        simp only [true_and,and_true,Nat.succ_le_of_lt hk2]
        rw [hfin,List.append_assoc]
        exact ⟨by omega,by simp only [kS,List.append_assoc,List.singleton_append]⟩
      · have hlt2:((k:Int) < ((sp).length:Int))=False:=eq_false (by omega)
        simp -implicitDefEqProofs only [hlt2,go_sem,seval]
        have hkn:k=(sp).length:=by omega
        subst hkn
        rw [List.take_length,Nat.sub_self,List.replicate_zero,List.append_nil] at j4
        rw [List.take_length] at cA
        rw [vY _ j4 (by omega),Nat.mul_one,List.take_of_length_le (by omega),hend]
        rw [← hend,List.length_map]
end W10K
/- Classes, kin. -/
namespace W10K
open W10 Go Go.AX Go.AX.Ty Go.Proofs
structure yI (p:iT):Prop where
  ok:Enc.ok p
  len:p.length ≤ 1000
  kids:∀ x ∈ p,x.kids.length ≤ 1000
  attrs:∀ x ∈ p,∀ a ∈ x.attrs,a.value.length ≤ 1000000
theorem AF {p:iT} {n:Int} {x:Ty.Node} (h:nodeAt p n=some x):x ∈ p:=by
  unfold nodeAt at h
  split at h
  · exact List.mem_of_getElem? h
  · simp at h
theorem mh {p:iT} (h:yI p) (n:Int) (v:Str):(bK p n v).1.length ≤ 1000000:=by
  unfold bK
  split
  · rename_i x hx
    split
    · simp
    · split
      · rename_i a ha
        exact h.attrs x (AF hx) a (List.mem_of_find?_eq_some ha)
      · simp
  · simp
abbrev iq:Str:=[99,108,97,115,115]
def uD (p:iT) (n:Int):List Str:=jQ (bK p n iq).1
theorem om (p:iT) (hp:yI p) (n:Int):bB Tryz.prog 19 [Enc.av p,Enc.av n] (Enc.av (uD p n)):=by
  refine bf mix c19 (by kernel_rfl) (by kernel_rfl) (by simp [aI,au,Go.AX.flat]) (by first | exact au _ | simp [flat,aI,au]) ?_
  simp -implicitDefEqProofs only [F19,go_sem,seval]
  refine ak (qK p hp.ok n iq) ?_
  simp -implicitDefEqProofs only [go_sem,seval]
  refine ak (DT _ (mh hp n iq)) ?_
  simp -implicitDefEqProofs only [go_sem,seval]
  rfl
theorem Vq (l:List Int) (hne:l ≠ []) (hl:l.length ≤ 1000000) (h:List (Nat × AX.Obj)) (m:Nat):aF Tryz.prog 36 [Enc.av l] ⟨h,m⟩ fun v s'=>v=.sl m (2 * l.length + 1) 0 l.length 1 ∧ s'=⟨(m,.cells (2 * l.length + 1) (aj l) false) :: h,m + 1⟩:=by
  refine bE mix (dx _) c36 (by kernel_rfl) (Nat.le_of_ble_eq_true (by kernel_rfl)) ?_
  have hc:(aj l).length=l.length:=by rw [dh];simp [Enc.sz]
  have ht:List.take l.length (aj l)=aj l:=List.take_of_length_le (by omega)
  have hb:(l.length * 8 ≤ 140737488355328)=True:=eq_true (by omega)
  have h0:0 < l.length:=List.length_pos_iff.2 hne
  have hT:(0 < l.length)=True:=eq_true h0
  have hz:(l.length=0)=False:=eq_false (by omega)
  have hmx:iC false 1 l.length=2 * l.length + 1:=by rw [show (1:Nat)=2 * 0 + 1 from rfl,vO];omega
  simp -implicitDefEqProofs only [F36,hT,hz,hc,ht,hb,hmx,go_sem,seval]
theorem WT (p:iT) (k:Int) {h:List (Nat × AX.Obj)} {m b:Nat} {sn:Bool} (hb:AX.look b h=some (.cells 1 [Enc.av p] sn)):aF Tryz.prog 37 [.int .i64 k,.ptr b 1 0] ⟨h,m⟩ fun v s'=>v=.bool (!eP p k) ∧ s'=⟨h,m⟩:=by
  refine bE mix (dx _) c37 (by kernel_rfl) (Nat.le_of_ble_eq_true (by kernel_rfl)) ?_
  simp -implicitDefEqProofs only [F37,hb,go_sem,seval]
  refine ak (gT p k) ?_
  simp -implicitDefEqProofs only [go_sem,seval]
theorem zP {g c:Nat} {q:Int → Bool} {l:List Int} {h:List (Nat × AX.Obj)} {m b:Nat} (hb:AX.look b h=some (.cells (2 * l.length + 1) (aj l) false)) (hl:l.length ≤ 1000000)
    (hp:∀ x ∈ l,aF Tryz.prog g [.int .i64 x,.ptr c 1 0] ⟨h,m⟩ (fun v s'=>v=.bool (q x) ∧ s'=⟨h,m⟩)) :
    aF Tryz.prog 53 [.sl b (2 * l.length + 1) 0 l.length 1,.fn (.func g) [] [.ptr c 1 0]] ⟨h,m⟩ fun v s'=>v=.int .i64 (idxOf q l) ∧ s'=⟨h,m⟩:=by
  refine bE mix (dx _) c53 (by kernel_rfl) (Nat.le_of_ble_eq_true (by kernel_rfl)) ?_
  simp -implicitDefEqProofs only [F53,go_sem,seval]
  refine bA (fun k:Nat=>l.length - k) (fun k=>[(0,.sl b (2 * l.length + 1) 0 l.length 1),(1,.fn (.func g) [] [.ptr c 1 0]),(7,.int .i64 l.length),(8,.int .i64 k)]) (fun k s=>s=⟨h,m⟩ ∧ k ≤ l.length ∧ Pre q l k) 0 ?_ ?_
  · simp -implicitDefEqProofs only [go_sem,seval]
    exact Pre.zero _ _
  rintro k ρ s ⟨rfl,h1,h2⟩
  rcases Nat.lt_or_ge k l.length with hk | hk
  · obtain ⟨x,hx,hd,hm⟩:=aW hk
    have hlt:((k:Int) < (l.length:Int))=True:=eq_true (by omega)
    have hltn:(k < l.length)=True:=eq_true hk
    have w1:IntKind.i64.wrap ((k:Int) + 1)=((k + 1:Nat):Int):=by rw [wrap64 (by omega) (by omega)];omega
    have hc:(aj l).length=l.length:=by rw [dh];simp [Enc.sz]
    have hle:(k ≤ l.length)=True:=eq_true (by omega)
    have hdr:List.drop k (aj l)=.int .i64 x :: aj (l.drop (k + 1)):=by
      have:=lD l k
      rw [hd] at this
      simp only [Enc.sz,Nat.mul_one] at this
      exact this
    simp -implicitDefEqProofs only [hlt,hltn,hx,w1,hb,hc,hle,hdr,go_sem,seval]
    refine eH (hp x hm) ?_
    simp -implicitDefEqProofs only [go_sem,seval]
    (refine fJ (fun h hT=>?_) (fun h hT=>?_) <;> try simp -implicitDefEqProofs only [hT,w1,go_sem,seval] <;> try clear hT)
    · rw [FP hx h h2]
    · exact ⟨k + 1,by omega,rfl,by omega,h2.next hx (by simpa using h)⟩
  · have hlt:((k:Int) < (l.length:Int))=False:=eq_false (by omega)
    simp -implicitDefEqProofs only [hlt,go_sem,seval]
    rw [yN (h2.all hk)]
theorem nK (b:Nat) (o o':AX.Obj):∀ h:List (Nat × AX.Obj),putAt b o (putAt b o' h)=putAt b o h
  | []=>rfl
  | (k, x) :: r => by
    simp only [putAt]
    split
    · rename_i e;simp [putAt,e]
    · rename_i e;simp [putAt,e,nK b o o' r]
theorem sO {b:Nat} {o:AX.Obj}:∀ {h:List (Nat × AX.Obj)},AX.look b h=some o → putAt b o h=h
  | [],e=>by simp [AX.look] at e
  | (k, x) :: r, e => by
    simp only [AX.look] at e
    simp only [putAt]
    split at e
    · rename_i e2;simp at e;subst e;rw [if_pos e2,e2]
    · rename_i e2;rw [if_neg e2,sO e]
theorem EW {c : Nat} {q : Int → Bool} {l : List Int} {h : List (Nat × AX.Obj)} {m b : Nat} (hb : AX.look b h = some (.cells (2 * l.length + 1) (aj l) false)) (hl : l.length ≤ 1000000)
    (hp:∀ (h':List (Nat × AX.Obj)) (x:Int),(∀ id,id ≠ b → AX.look id h'=AX.look id h) → aF Tryz.prog 37 [.int .i64 x,.ptr c 1 0] ⟨h',m⟩ (fun v s'=>v=.bool (q x) ∧ s'=⟨h',m⟩)) :
    aF Tryz.prog 35 [.sl b (2 * l.length + 1) 0 l.length 1,.fn (.func 37) [] [.ptr c 1 0]] ⟨h,m⟩ fun v s'=>v=.sl b (2 * l.length + 1) 0 (l.filter fun x=>!q x).length 1 ∧
      s'=⟨putAt b (.cells (2 * l.length + 1) (aj (l.filter fun x=>!q x) ++ List.replicate (l.length - (l.filter fun x=>!q x).length) (.int .i64 0)) false) h,m⟩:=by
  refine bE mix (dx _) c35 (by kernel_rfl) (Nat.le_of_ble_eq_true (by kernel_rfl)) ?_
  have cl:∀ l':List Int,(aj l').length=l'.length:=fun l'=>by rw [dh];simp [Enc.sz]
  have hc:=cl l
  have ht:List.take l.length (aj l)=aj l:=List.take_of_length_le (by omega)
  simp -implicitDefEqProofs only [F35,hb,hc,ht,go_sem,seval]
  refine eH (zP hb hl fun x _=>hp h x fun _ _=>rfl) ?_
  rcases Dq q l with ⟨e,hno⟩ | ⟨i,x,e,hi,hx,hqx,hpre⟩
  · rw [e]
    simp -implicitDefEqProofs only [go_sem,seval]
    have ef:l.filter (fun x=>!q x)=l:=List.filter_eq_self.2 fun a ha=>by simp [hno a ha]
    rw [ef,Nat.sub_self,List.replicate_zero,List.append_nil,sO hb]
    exact ⟨rfl,rfl⟩
  · rw [e]
    have e1:((i:Int) = -1)=False:=eq_false (by omega)
    have w1:IntKind.i64.wrap ((i:Int) + 1)=((i + 1:Nat):Int):=by rw [wrap64 (by omega) (by omega)];omega
    simp -implicitDefEqProofs only [e1,w1,go_sem,seval]
    have fst:∀ j,(l.take j).filter (fun x=>!q x)=((l.take j).filter (fun x=>!q x)):=fun _=>rfl
    have f0:(l.take i).filter (fun x=>!q x)=l.take i:=List.filter_eq_self.2 fun a ha=>by simp [hpre a ha]
    have f1:(l.take (i + 1)).filter (fun x=>!q x)=l.take i:=by
      rw [List.take_add_one,hx,List.filter_append,f0];simp [hqx]
    have hd0:l=l.take i ++ x :: l.drop (i + 1):=by
      have:l.drop i=x :: l.drop (i + 1):=by
        rw [List.drop_eq_getElem_cons hi]
        rw [List.getElem?_eq_getElem hi] at hx;simp at hx;rw [hx]
      rw [← this,List.take_append_drop]
    refine bA (fun p:Nat × Nat × List AV=>l.length - p.2.1) (fun p=>[(0,.sl b (2 * l.length + 1) 0 l.length 1),(1,.fn (.func 37) [] [.ptr c 1 0]),(5,.int .i64 p.1),(6,.int .i64 p.2.1)])
      (fun p s=>p.2.1 ≤ l.length ∧ p.1 < p.2.1 ∧ p.1=((l.take p.2.1).filter fun x=>!q x).length ∧ p.2.2.length=p.2.1 - p.1 ∧ s=⟨putAt b (.cells (2 * l.length + 1) (aj ((l.take p.2.1).filter fun x=>!q x) ++ (p.2.2 ++ aj (l.drop p.2.1))) false) h,m⟩) (i,i + 1,[.int .i64 x]) ?_ ?_
    · simp -implicitDefEqProofs only [f1,go_sem,seval]
      refine ⟨by omega,by rw [List.length_take];omega,by simp,?_⟩
      have:aj (l.take i) ++ (AV.int .i64 x :: aj (l.drop (i + 1)))=aj l:=by
        conv=>rhs;rw [hd0]
        rw [aU];rfl
      rw [this,sO hb]
    rintro ⟨i',j,X⟩ ρ s ⟨h1,h2,h3,h4,h5⟩
    dsimp only at h1 h2 h3 h4 h5
    subst h5
    generalize hF:(l.take j).filter (fun x=>!q x)=F at h3
    have cF:=cl F
    have e2:∀ D:List AV,List.drop j (aj F ++ (X ++ D))=D:=fun D=>by
      rw [← List.append_assoc,List.drop_left' (by rw [List.length_append,cF];omega)]
    have hcs:(aj F ++ (X ++ aj (l.drop j))).length=l.length:=by
      rw [List.length_append,List.length_append,cF,cl,List.length_drop];omega
    have htk:List.take i' (aj F ++ (X ++ aj (l.drop j)))=aj F:=by rw [List.take_left' (by rw [cF];omega)]
    have lk:AX.look b (putAt b (.cells (2 * l.length + 1) (aj F ++ (X ++ aj (l.drop j))) false) h)=some (.cells (2 * l.length + 1) (aj F ++ (X ++ aj (l.drop j))) false):=aS hb
    rcases Nat.lt_or_ge j l.length with hj | hj
    · obtain ⟨y,hy,hdy,hmy⟩:=aW hj
      have hlt:((j:Int) < (l.length:Int))=True:=eq_true (by omega)
      have hltn:(j < l.length)=True:=eq_true hj
      have hle:(j ≤ l.length)=True:=eq_true (by omega)
      have w2:IntKind.i64.wrap ((j:Int) + 1)=((j + 1:Nat):Int):=by rw [wrap64 (by omega) (by omega)];omega
      have w3:IntKind.i64.wrap ((i':Int) + 1)=((i' + 1:Nat):Int):=by rw [wrap64 (by omega) (by omega)];omega
      have hdr:List.drop j (aj F ++ (X ++ aj (l.drop j)))=.int .i64 y :: aj (l.drop (j + 1)):=by
        rw [e2,hdy];rfl
      have hcall:=hp (putAt b (.cells (2 * l.length + 1) (aj F ++ (X ++ aj (l.drop j))) false) h) y fun id hid=>ay (Ne.symm hid)
      simp -implicitDefEqProofs only [hlt,hltn,hle,w2,lk,hcs,hdr,go_sem,seval]
      refine eH hcall ?_
      simp -implicitDefEqProofs only [go_sem,seval]
      refine fJ (fun hq hT=>?_) (fun hq hT=>?_)
      · simp -implicitDefEqProofs only [w2,go_sem,seval]
        refine ⟨(i',j + 1,X ++ [.int .i64 y]),by simp only;omega,?_⟩
        have fn:(l.take (j + 1)).filter (fun x=>!q x)=F:=by
          rw [List.take_add_one,hy,List.filter_append,hF];simp [hq]
        rw [fn]
        simp only [true_and,and_true]
        refine ⟨by omega,by omega,h3,by simp;omega,?_⟩
        rw [hdy,List.append_assoc];rfl
      · have hq':q y=false:=by simpa using hq
        cases X with
        | nil=>simp at h4;omega
        | cons a X =>
          simp only [List.length_cons] at h4
          have hlt2:(i' < l.length)=True:=eq_true (by omega)
          have hle2:(i' + 1 ≤ l.length)=True:=eq_true (by omega)
          have hdi:List.drop (i' + 1) (aj F ++ (a :: X ++ aj (l.drop j)))=X ++ aj (l.drop j):=by
            rw [List.drop_append,List.drop_of_length_le (by rw [cF];omega),cF,List.nil_append,show i' + 1 - F.length=1 by omega];rfl
          simp only [List.cons_append] at lk hcs htk hdi
          simp -implicitDefEqProofs only [w2,w3,hlt2,hle2,lk,hb,hcs,htk,hdi,go_sem,seval]
          refine ⟨(i' + 1,j + 1,X ++ [.int .i64 y]),by simp only;omega,?_⟩
          have fn:(l.take (j + 1)).filter (fun x=>!q x)=F ++ [y]:=by
            rw [List.take_add_one,hy,List.filter_append,hF];simp [hq']
          rw [fn]
          simp only [true_and,and_true]
          refine ⟨by omega,by omega,by simp;omega,by simp;omega,?_⟩
          rw [nK,aU,hdy]
          simp only [List.append_assoc,List.singleton_append,aj,List.append_nil,List.nil_append,List.cons_append]
          rfl
    · have hlt:((j:Int) < (l.length:Int))=False:=eq_false (by omega)
      have hjl:j=l.length:=by omega
      have d0:l.drop j=[]:=by rw [List.drop_eq_nil_iff];omega
      rw [List.take_of_length_le (by omega)] at hF
      have hlt2:(i' < l.length)=True:=eq_true (by omega)
      have hle2:(i' ≤ l.length)=True:=eq_true (by omega)
      have cX:List.drop l.length (aj F ++ (X ++ aj (l.drop j)))=[]:=by rw [List.drop_eq_nil_iff];omega
      have hsum:i' + (l.length - i')=l.length:=by omega
      have hpos:(0 < l.length - i')=True:=eq_true (by omega)
      have rep:∀ q:Nat,(List.replicate q [AV.int .i64 0]).flatten=List.replicate q (.int .i64 0):=fun q=>by
        induction q with
        | zero=>rfl
        | succ q ih=>rw [List.replicate_succ,List.flatten_cons,ih];rfl
      rw [hF,← h3]
      by_cases hi0:i'=0
      · subst hi0
        have hpos:(0 < l.length)=True:=eq_true (by omega)
        have hF0:F=[]:=List.length_eq_zero_iff.1 h3.symm
        simp -implicitDefEqProofs only [hlt,hpos,lk,hb,hcs,htk,rep,cX,Nat.sub_zero,Nat.mul_one,go_sem,seval]
        rw [nK,hF0]
      · simp -implicitDefEqProofs only [hlt,hlt2,hle2,hi0,lk,hb,hcs,htk,hsum,hpos,rep,cX,Nat.mul_one,go_sem,seval]
        rw [nK]
end W10K
/- Kin: the program's, the document's. -/
namespace W10K
open W10 Go Go.AX Go.AX.Ty Go.Proofs
def iD (p:iT) (n:Int):List Int:=match nodeAt p n with
  | some x => if x.name = [] then [] else match nodeAt p x.up with
    | some y=>y.kids.filter (eP p)
    | none=>[]
  | none=>[]
theorem CV (p:iT) (hp:yI p) (n:Int) (hk:∀ x y,nodeAt p n=some x → nodeAt p x.up=some y → y.kids ≠ []):bB Tryz.prog 15 [Enc.av p,Enc.av n] (Enc.av (iD p n)):=by
  refine bf mix c15 (by kernel_rfl) (by kernel_rfl) (by simp [aI,au,Go.AX.flat]) (by first | exact au _ | simp [flat,aI,au]) ?_
  simp -implicitDefEqProofs only [F15,go_sem,seval]
  refine iR (gT p n) ?_
  simp -implicitDefEqProofs only [go_sem,seval]
  rcases mI p n with ⟨e,h⟩ | ⟨k,x,rfl,hkl,hx,e⟩
  · have e2:eP p n=false:=by simp [eP,e]
    have e3:iD p n=[]:=by simp [iD,e]
    rw [e3,e2]
    simp -implicitDefEqProofs only [go_sem,seval]
    refine aA (by kernel_rfl) ?_
    simp -implicitDefEqProofs only [aj,go_sem,seval]
  have e2:eP p k=decide (x.name ≠ []):=by simp [eP,e]
  by_cases hn:x.name=[]
  · have e3:iD p k=[]:=by simp [iD,e,hn]
    have e4:eP p k=false:=by rw [e2];simp [hn]
    rw [e3,e4]
    simp -implicitDefEqProofs only [go_sem,seval]
    refine aA (by kernel_rfl) ?_
    simp -implicitDefEqProofs only [aj,go_sem,seval]
  have e4:eP p k=true:=by rw [e2];simp [hn]
  rw [e4]
  simp -implicitDefEqProofs only [hx,go_sem,seval]
  rcases mI p x.up with ⟨f,h⟩ | ⟨u,y,hu,hul,hy,f⟩
  · have e3:iD p k=[]:=by simp [iD,e,hn,f]
    rw [e3]
    refine fJ (fun g hT=>?_) (fun g hT=>?_)
    · simp -implicitDefEqProofs only [hT,hx,go_sem,seval]
      refine aA (by kernel_rfl) ?_
      simp -implicitDefEqProofs only [aj,go_sem,seval]
    · have hge:(x.up ≥ (p.length:Int))=True:=eq_true (by omega)
      simp -implicitDefEqProofs only [hT,hx,hge,go_sem,seval]
      refine aA (by kernel_rfl) ?_
      simp -implicitDefEqProofs only [aj,go_sem,seval]
  have e3:iD p k=y.kids.filter (eP p):=by simp [iD,e,hn,f]
  rw [e3]
  have g1:((u:Int) < 0)=False:=eq_false (by omega)
  have g2:((u:Int) ≥ (p.length:Int))=False:=eq_false (by omega)
  have hkids:=hp.kids y (AF f)
  simp -implicitDefEqProofs only [hu,g1,g2,hx,hy,go_sem,seval]
  refine aA (by kernel_rfl) ?_
  simp -implicitDefEqProofs only [hu,g1,g2,hx,hy,go_sem,seval]
  refine tL (Vq y.kids (hk x y e f) (by omega) _ _) (VK (by kernel_rfl)) (by simp) (VK (by kernel_rfl)) ?_
  have hc:(aj y.kids).length=y.kids.length:=by rw [dh];simp [Enc.sz]
  have ht:List.take y.kids.length (aj y.kids)=aj y.kids:=List.take_of_length_le (by omega)
  simp -implicitDefEqProofs only [hc,ht,go_sem,seval]
  refine aA (by first | kernel_rfl | (first | omega | (simp [aM,aX,aY,Nat.testBit_eq_decide_div_mod_eq];done) | (simp [aM,aX,aY,Nat.testBit_eq_decide_div_mod_eq];omega) | kernel_rfl)) ?_
  simp -implicitDefEqProofs only [hc,ht,go_sem,seval]
  refine eH (EW (c:=0) (b:=1) (q:=fun k=>!eP p k) (l:=y.kids) rfl (by omega) fun h' x0 hid=>WT p x0 (by rw [hid 0 (by decide)];rfl)) ?_
  simp -implicitDefEqProofs only [hc,ht,go_sem,seval]
  simp only [Bool.not_not]
  generalize hF:y.kids.filter (eP p)=F
  have hFl:F.length ≤ y.kids.length:=by rw [← hF];exact List.length_filter_le _ _
  have cF:(aj F).length=F.length:=by rw [dh];simp [Enc.sz]
  have tF:List.take F.length (aj F ++ List.replicate (y.kids.length - F.length) (AV.int .i64 0))=aj F:=by rw [List.take_left' (by rw [cF])]
  have lF:(F.length ≤ (aj F ++ List.replicate (y.kids.length - F.length) (AV.int .i64 0)).length)=True:=eq_true (by rw [List.length_append,cF];omega)
  simp only [eT,view,St.get,AX.look,if_true,Nat.mul_one,Nat.zero_add,lF,List.drop_zero,tF,true_and,Option.map_some,if_false]
  try simp [eT,view,St.get,AX.look,putAt,lF,tF]
end W10K
/- Trees; who stands how. -/
namespace W10K
open W10 Go Go.AX Go.AX.Ty Go.Proofs
def GJ (p:iT) (k:Nat):Int:=match p[k]? with
  | some x=>x.up
  | none=>-1
def bC (p:iT) (m:Nat) (n:Nat):List Int:=((List.range m).filter fun k=>decide (1 ≤ k) && (GJ p k == (n:Int))).map fun k:Nat=>(k:Int)
structure iE (p:iT):Prop where
  ne:p ≠ []
  root:∀ x,p[0]? = some x → x.up = -1 ∧ x.name=[] ∧ x.text=[] ∧ x.attrs=[]
  up:∀ (k:Nat) x,1 ≤ k → p[k]? = some x → 0 ≤ x.up ∧ x.up < (k:Int)
  kids:∀ (n:Nat) x,p[n]? = some x → x.kids=bC p p.length n
theorem Au {p:iT} {m n:Nat} {a:Int}:a ∈ bC p m n ↔ ∃ k:Nat,a=k ∧ k < m ∧ 1 ≤ k ∧ GJ p k=n:=by
  simp only [bC,List.mem_map,List.mem_filter,List.mem_range,Bool.and_eq_true,decide_eq_true_eq,beq_iff_eq]
  exact ⟨fun ⟨k,⟨h1,h2,h3⟩,h4⟩=>⟨k,h4.symm,h1,h2,h3⟩,fun ⟨k,h4,h1,h2,h3⟩=>⟨k,⟨h1,h2,h3⟩,h4.symm⟩⟩
theorem uF {p:iT} {k:Nat} {x:Ty.Node} (h:p[k]? = some x):GJ p k=x.up:=by simp [GJ,h]
theorem nA {α:Type} {l:List α} {k:Nat} {x:α} (h:l[k]? = some x):k < l.length:=by
  rcases Nat.lt_or_ge k l.length with h' | h'
  · exact h'
  · rw [List.getElem?_eq_none h'] at h;simp at h
theorem iE.parent {p:iT} (t:iE p) {k:Nat} {x:Ty.Node} (hx:p[k]? = some x) (hn:x.name ≠ []):1 ≤ k ∧ ∃ (u:Nat) (y:Ty.Node),x.up=u ∧ u < k ∧ p[u]? = some y ∧ (k:Int) ∈ y.kids:=by
  have hk:1 ≤ k:=by
    rcases Nat.lt_or_ge k 1 with h | h
    · exfalso
      have:k=0:=by omega
      subst this
      exact hn (t.root x hx).2.1
    · exact h
  obtain ⟨h1,h2⟩:=t.up k x hk hx
  have hlt:=nA hx
  refine ⟨hk,x.up.toNat,p[x.up.toNat]'(by omega),by omega,by omega,by simp,?_⟩
  rw [t.kids x.up.toNat _ (List.getElem?_eq_getElem (by omega))]
  exact Au.2 ⟨k,rfl,hlt,hk,by rw [uF hx];omega⟩
theorem iE.kin {p:iT} (t:iE p) {k:Nat} {x:Ty.Node} (hx:p[k]? = some x) (hn:x.name ≠ []):(k:Int) ∈ iD p k:=by
  obtain ⟨hk,u,y,e,hu,hy,hm⟩:=t.parent hx hn
  have h1:nodeAt p (k:Int)=some x:=by rw [gy];exact hx
  have h2:nodeAt p x.up=some y:=by rw [e,gy];exact hy
  simp only [iD,h1,h2,if_neg hn,List.mem_filter]
  exact ⟨hm,by simp [eP,h1,hn]⟩
end W10K
/- Is a page a tree? The document's. -/
namespace W10K
open W10 Go Go.AX Go.AX.Ty Go.Proofs
open Classical in
noncomputable def mM (p:iT):Bool:=decide (iE p)
theorem jK {p:iT} (h:iE p):mM p=true:=by unfold mM;exact @decide_eq_true _ (Classical.propDecidable _) h
theorem iZ {p:iT} (h:¬ iE p):mM p=false:=by unfold mM;exact @decide_eq_false _ (Classical.propDecidable _) h
theorem rU {p:iT}:mM p=true ↔ iE p:=by unfold mM;exact @decide_eq_true_iff _ (Classical.propDecidable _)
theorem sS {α:Type} {a b:List α} {k:Nat} (h:a.take k=b.take k) (ha:k=a.length) (hb:a.length=b.length):a=b:=by
  rw [List.take_of_length_le (by omega),List.take_of_length_le (by omega)] at h;exact h
theorem eY (l:List Int):(aj l).length=l.length:=by rw [dh];simp [Enc.sz]
theorem wI (a b:List Int) (hl:a.length ≤ 140737488355328):bB Tryz.prog 17 [Enc.av a,Enc.av b] (.bool (decide (a=b))):=by
  refine bf mix c17 (by kernel_rfl) (by kernel_rfl) (by simp [aI,au,Go.AX.flat]) (by first | exact au _ | simp [flat,aI,au]) ?_
  by_cases hlen:a.length=b.length
  case neg=>
    have hne:((a.length:Int)=(b.length:Int))=False:=eq_false (by omega)
    rw [decide_eq_false (fun e=>hlen (by rw [e]))]
    simp -implicitDefEqProofs only [F17,hne,go_sem,seval]
  have hne:((a.length:Int)=(b.length:Int))=True:=eq_true (by omega)
  simp -implicitDefEqProofs only [F17,hne,go_sem,seval]
  refine bA (fun k:Nat=>a.length - k) (fun k=>[(0,Enc.av a),(1,Enc.av b),(5,.int .i64 k)]) (fun k s=>k ≤ a.length ∧ a.take k=b.take k) 0 ?_ ?_
  · simp -implicitDefEqProofs only [List.take_zero,go_sem,seval]
  rintro k ρ ⟨g,m⟩ ⟨h1,h2⟩
  rcases Nat.lt_or_ge k a.length with hk | hk
  · obtain ⟨x,hx,hd,hm⟩:=aW hk
    obtain ⟨y,hy,hd2,hm2⟩:=aW (show k < b.length by omega)
    have hlt:((k:Int) < (a.length:Int))=True:=eq_true (by omega)
    have w1:IntKind.i64.wrap ((k:Int) + 1)=((k + 1:Nat):Int):=by rw [wrap64 (by omega) (by omega)];omega
    simp -implicitDefEqProofs only [hlt,hx,hy,w1,go_sem,seval]
    refine aA (by kernel_rfl) ?_
    by_cases hxy:x=y
    · simp -implicitDefEqProofs only [hxy,w1,go_sem,seval]
      refine ⟨k + 1,by omega,rfl,by omega,?_⟩
      rw [List.take_add_one,List.take_add_one,h2,hx,hy,hxy]
    · simp -implicitDefEqProofs only [hxy,go_sem,seval]
      rw [decide_eq_false (fun e=>hxy (by rw [e,hy] at hx;simpa using hx.symm))]
  · have hlt:((k:Int) < (a.length:Int))=False:=eq_false (by omega)
    simp -implicitDefEqProofs only [hlt,go_sem,seval]
    rw [decide_eq_true (sS h2 (by omega) hlen)]
theorem DL (a b:List Int) (hl:a.length ≤ 140737488355328):bB Tryz.prog 34 [Enc.av a,Enc.av b] (.bool (decide (a=b))):=by
  refine bf mix c34 (by kernel_rfl) (by kernel_rfl) (by simp [aI,au,Go.AX.flat]) (by first | exact au _ | simp [flat,aI,au]) ?_
  by_cases hlen:a.length=b.length
  case neg=>
    have hne:((a.length:Int)=(b.length:Int))=False:=eq_false (by omega)
    rw [decide_eq_false (fun e=>hlen (by rw [e]))]
    simp -implicitDefEqProofs only [F34,hne,go_sem,seval]
  have hne:((a.length:Int)=(b.length:Int))=True:=eq_true (by omega)
  simp -implicitDefEqProofs only [F34,hne,go_sem,seval]
  refine bA (fun k:Nat=>a.length - k) (fun k=>[(0,Enc.av a),(1,Enc.av b),(12,.int .i64 a.length),(13,.int .i64 k)]) (fun k s=>k ≤ a.length ∧ a.take k=b.take k) 0 ?_ ?_
  · simp -implicitDefEqProofs only [List.take_zero,go_sem,seval]
  rintro k ρ ⟨g,m⟩ ⟨h1,h2⟩
  rcases Nat.lt_or_ge k a.length with hk | hk
  · obtain ⟨x,hx,hd,hm⟩:=aW hk
    obtain ⟨y,hy,hd2,hm2⟩:=aW (show k < b.length by omega)
    have hlt:((k:Int) < (a.length:Int))=True:=eq_true (by omega)
    have w1:IntKind.i64.wrap ((k:Int) + 1)=((k + 1:Nat):Int):=by rw [wrap64 (by omega) (by omega)];omega
    simp -implicitDefEqProofs only [hlt,hx,hy,w1,go_sem,seval]
    refine aA (by kernel_rfl) ?_
    by_cases hxy:x=y
    · simp -implicitDefEqProofs only [hxy,w1,go_sem,seval]
      refine ⟨k + 1,by omega,rfl,by omega,?_⟩
      rw [List.take_add_one,List.take_add_one,h2,hx,hy,hxy]
    · simp -implicitDefEqProofs only [hxy,go_sem,seval]
      rw [decide_eq_false (fun e=>hxy (by rw [e,hy] at hx;simpa using hx.symm))]
  · have hlt:((k:Int) < (a.length:Int))=False:=eq_false (by omega)
    simp -implicitDefEqProofs only [hlt,go_sem,seval]
    rw [decide_eq_true (sS h2 (by omega) hlen)]
theorem wV (p:iT) (m n:Nat) (hm:1 ≤ m):bC p (m + 1) n=bC p m n ++ (if GJ p m=n then [(m:Int)] else []):=by
  unfold bC
  rw [List.range_succ,List.filter_append,List.map_append]
  congr 1
  by_cases h:GJ p m=n <;> simp [h,hm]
theorem Al (p:iT) (n:Nat):bC p 1 n=[]:=by
  simp [bC,List.range_succ]
theorem BD (p:iT) (m n:Nat):(bC p m n).length ≤ m:=by
  unfold bC
  rw [List.length_map]
  exact Nat.le_trans (List.length_filter_le _ _) (by simp)
theorem KY (p:iT) (hp:yI p):bB Tryz.prog 14 [Enc.av p] (.bool (mM p)):=by
  refine bf mix c14 (by kernel_rfl) (by kernel_rfl) (by simp [aI,au,Go.AX.flat]) (by first | exact au _ | simp [flat,aI,au]) ?_
  have hpl:=hp.len
  cases hpe:p with
  | nil =>
    rw [iZ (fun t=>t.ne rfl)]
    simp -implicitDefEqProofs only [F14,go_sem,seval]
  | cons x r=>
  rw [← hpe]
  have h0:p[0]? = some x:=by rw [hpe];rfl
  have hl0:((p.length:Int)=0)=False:=eq_false (by rw [hpe];simp;omega)
  have nroot:∀ (P:Prop),(∀ t:iE p,P) → ¬ P → mM p=false:=fun P h1 h2=>iZ fun t=>h2 (h1 t)
  simp -implicitDefEqProofs only [F14,hl0,h0,go_sem,seval]
  by_cases r1:x.up = -1
  case neg=>
    rw [nroot _ (fun t=>(t.root x h0).1) r1]
    simp -implicitDefEqProofs only [r1,hl0,h0,go_sem,seval]
  by_cases r2:x.name=[]
  case neg=>
    rw [nroot _ (fun t=>(t.root x h0).2.1) r2]
    simp -implicitDefEqProofs only [r1,r2,hl0,h0,go_sem,seval]
  by_cases r3:x.text=[]
  case neg=>
    rw [nroot _ (fun t=>(t.root x h0).2.2.1) r3]
    simp -implicitDefEqProofs only [r1,r2,r3,hl0,h0,go_sem,seval]
  by_cases r4:x.attrs=[]
  case neg=>
    rw [nroot _ (fun t=>(t.root x h0).2.2.2) r4]
    have hg:((x.attrs.length:Int) > 0)=True:=eq_true (by have:=List.length_pos_iff.2 r4;omega)
    simp -implicitDefEqProofs only [r1,r2,r3,hg,hl0,h0,go_sem,seval]
  have hg:((x.attrs.length:Int) > 0)=False:=eq_false (by rw [r4];simp)
  simp -implicitDefEqProofs only [r1,r2,r3,hg,hl0,h0,go_sem,seval]
  refine bA (fun k:Nat=>p.length - k) (fun k=>[(0,Enc.av p),(3,.int .i64 k)]) (fun k s=>s=⟨[],0⟩ ∧ 1 ≤ k ∧ k ≤ p.length ∧ ∀ j y,1 ≤ j → j < k → p[j]? = some y → 0 ≤ y.up ∧ y.up < (j:Int)) 1 ?_ ?_
  · simp -implicitDefEqProofs only [go_sem,seval]
    refine ⟨by rw [hpe];simp,fun j y h1 h2=>by omega⟩
  rintro k ρ s ⟨rfl,h1,h2,h3⟩
  rcases Nat.lt_or_ge k p.length with hk | hk
  · obtain ⟨y,hy,hd,hm⟩:=aW hk
    have hlt:((k:Int) < (p.length:Int))=True:=eq_true (by omega)
    have w1:IntKind.i64.wrap ((k:Int) + 1)=((k + 1:Nat):Int):=by rw [wrap64 (by omega) (by omega)];omega
    simp -implicitDefEqProofs only [hlt,hy,go_sem,seval]
    by_cases u1:y.up < 0
    · rw [nroot _ (fun t=>(t.up k y h1 hy).1) (by omega)]
      simp -implicitDefEqProofs only [u1,hy,go_sem,seval]
    by_cases u2:y.up ≥ (k:Int)
    · rw [nroot _ (fun t=>(t.up k y h1 hy).2) (by omega)]
      simp -implicitDefEqProofs only [u1,u2,hy,go_sem,seval]
    simp -implicitDefEqProofs only [u1,u2,hy,w1,go_sem,seval]
    refine ⟨k + 1,by omega,rfl,by omega,by omega,fun j z h4 h5 hz=>?_⟩
    rcases Nat.lt_or_ge j k with h | h
    · exact h3 j z h4 h hz
    · have:j=k:=by omega
      subst this
      rw [hy] at hz
      simp only [Option.some.injEq] at hz
      subst hz;omega
  have hlt:((k:Int) < (p.length:Int))=False:=eq_false (by omega)
  have hup:∀ (j:Nat) y,1 ≤ j → p[j]? = some y → 0 ≤ y.up ∧ y.up < (j:Int):=fun j y a b=>h3 j y a (by have:=nA b;omega) b
  simp -implicitDefEqProofs only [hlt,go_sem,seval]
  refine bA (fun n:Nat=>p.length - n) (fun n=>[(0,Enc.av p),(4,.int .i64 n)]) (fun n s=>n ≤ p.length ∧ ∀ j y,j < n → p[j]? = some y → y.kids=bC p p.length j) 0 ?_ ?_
  · simp -implicitDefEqProofs only [go_sem,seval]
    exact fun j y h=>h.elim
  clear h1 h2 h3 hk hlt
  rintro n ρ ⟨g,m⟩ ⟨h1,h2⟩
  rcases Nat.lt_or_ge n p.length with hn | hn
  · obtain ⟨y,hy,hd,hm⟩:=aW hn
    have hlt:((n:Int) < (p.length:Int))=True:=eq_true (by omega)
    have wn:IntKind.i64.wrap ((n:Int) + 1)=((n + 1:Nat):Int):=by rw [wrap64 (by omega) (by omega)];omega
    simp -implicitDefEqProofs only [hlt,go_sem,seval]
    refine bA (fun k:Nat=>p.length - k) (fun k=>[(0,Enc.av p),(4,.int .i64 n),(5,.sl m (2 * (bC p k n).length + 1) 0 (bC p k n).length 1),(6,.int .i64 k)])
      (fun k s=>1 ≤ k ∧ k ≤ p.length ∧ m + 1 ≤ s.next ∧ AX.look m s.heap=some (.cells (2 * (bC p k n).length + 1) (aj (bC p k n)) false)) 1 ?_ ?_
    · simp -implicitDefEqProofs only [Al,aj,go_sem,seval]
      rw [hpe];simp
    rintro k ρ ⟨g2,q⟩ ⟨k1,k2,k3,k4⟩
    dsimp only at k3 k4
    have hF:=BD p k n
    have hfn:=wV p k n k1
    generalize hFd:bC p k n=F at k4 hF hfn
    have hc:(aj F).length=F.length:=eY F
    have ht:List.take F.length (aj F)=aj F:=List.take_of_length_le (by omega)
    have q0:(q=m)=False:=eq_false (by omega)
    rcases Nat.lt_or_ge k p.length with hk | hk
    · obtain ⟨z,hz,_,_⟩:=aW hk
      have hlt2:((k:Int) < (p.length:Int))=True:=eq_true (by omega)
      have w1:IntKind.i64.wrap ((k:Int) + 1)=((k + 1:Nat):Int):=by rw [wrap64 (by omega) (by omega)];omega
      have hbd:((F.length + 1) * 8 ≤ 140737488355328)=True:=eq_true (by omega)
      have hmx:max (F.length + 1) (F.length + 1)=F.length + 1:=Nat.max_self _
      rw [uF hz] at hfn
      by_cases hu:z.up=(n:Int)
      · rw [if_pos hu] at hfn
        have hu':(z.up=(n:Int))=True:=eq_true hu
        simp -implicitDefEqProofs only [hlt2,hz,hu',k4,hc,ht,hbd,hmx,q0,w1,go_sem,seval]
        refine ⟨k + 1,by omega,?_⟩
        rw [hfn,aU]
        simp only [List.length_append,List.length_cons,List.length_nil,Nat.zero_add,true_and,and_true]
        first | exact ⟨by omega,by omega,by omega,rfl⟩ | exact ⟨by omega,by omega,rfl⟩ | exact ⟨by omega,rfl⟩ | trace_state
      · rw [if_neg hu,List.append_nil] at hfn
        have hu':(z.up=(n:Int))=False:=eq_false hu
        simp -implicitDefEqProofs only [hlt2,hz,hu',k4,w1,go_sem,seval]
        refine ⟨k + 1,by omega,?_⟩
        rw [hfn]
        exact ⟨⟨rfl,rfl⟩,by omega,by omega,k3,rfl⟩
    · have hlt2:((k:Int) < (p.length:Int))=False:=eq_false (by omega)
      have hkl:k=p.length:=by omega
      subst hkl
      simp -implicitDefEqProofs only [hlt2,hy,k4,hc,ht,go_sem,seval]
      refine ak (wI F y.kids (by omega)) ?_
      simp -implicitDefEqProofs only [go_sem,seval]
      by_cases hFk:F=y.kids
      · simp -implicitDefEqProofs only [hFk,wn,go_sem,seval]
        refine ⟨n + 1,by omega,rfl,by omega,fun j z h3 hz=>?_⟩
        rcases Nat.lt_or_ge j n with h | h
        · exact h2 j z h hz
        · have:j=n:=by omega
          subst this
          rw [hy] at hz
          simp only [Option.some.injEq] at hz
          subst hz;rw [← hFk,← hFd]
      · simp -implicitDefEqProofs only [hFk,go_sem,seval]
        rw [nroot _ (fun t=>(t.kids n y hy)) (fun e=>hFk (by rw [e,← hFd]))]
  · have hlt:((n:Int) < (p.length:Int))=False:=eq_false (by omega)
    simp -implicitDefEqProofs only [hlt,go_sem,seval]
    rw [jK ⟨by rw [hpe];simp,fun a ha=>?_,hup,fun j y hy=>h2 j y (by have:=nA hy;omega) hy⟩]
    rw [h0] at ha
    simp only [Option.some.injEq] at ha
    subst ha
    exact ⟨r1,r2,r3,r4⟩
end W10K
/- Is a page a tree? The program's. -/
namespace W10K
open W10 Go Go.AX Go.AX.Ty Go.Proofs
structure Rows (h:List (Nat × AX.Obj)) (m:Nat) (cs:List AV) (N:Nat) (K:Nat → List Int) (ids:Nat → Nat):Prop where
  len:cs.length=N
  cell:∀ i,i < N → cs[i]? = some (if K i=[] then .nils else .sl (ids i) (2 * (K i).length + 1) 0 (K i).length 1)
  obj:∀ i,i < N → K i ≠ [] → AX.look (ids i) h=some (.cells (2 * (K i).length + 1) (aj (K i)) false)
  lo:∀ i,i < N → K i ≠ [] → 1 ≤ ids i ∧ ids i < m
  inj:∀ i j,i < N → j < N → K i ≠ [] → K j ≠ [] → ids i=ids j → i=j
theorem Rows.congr {h:List (Nat × AX.Obj)} {m:Nat} {cs:List AV} {N:Nat} {K K':Nat → List Int} {ids:Nat → Nat} (R:Rows h m cs N K ids) (e:∀ i,K i=K' i):Rows h m cs N K' ids:=by
  have:K=K':=funext e
  rw [← this];exact R
theorem Rows.push {h:List (Nat × AX.Obj)} {m:Nat} {cs:List AV} {N:Nat} {K:Nat → List Int} {ids:Nat → Nat} (R:Rows h m cs N K ids) (o:AX.Obj):Rows ((m,o) :: h) (m + 1) cs N K ids:=
  ⟨R.len,R.cell,fun i hi hk=>by
    have:=(R.lo i hi hk).2
    simp only [AX.look];rw [if_neg (by omega)];exact R.obj i hi hk,fun i hi hk=>by have:=R.lo i hi hk;omega,R.inj⟩
theorem Rows.YE {h:List (Nat × AX.Obj)} {m:Nat} {cs:List AV} {N:Nat} {K:Nat → List Int} {ids:Nat → Nat} (R:Rows h m cs N K ids) (o:AX.Obj):Rows (putAt 0 o h) m cs N K ids:=
  ⟨R.len,R.cell,fun i hi hk=>by
    have:=(R.lo i hi hk).1
    rw [ay (by omega)];exact R.obj i hi hk,R.lo,R.inj⟩
theorem K8 {cs:List AV} {u i:Nat} {v:AV} (hu:u < cs.length):(cs.take u ++ v :: cs.drop (u + 1))[i]? = if i=u then some v else cs[i]?:=by
  have e:cs.take u ++ v :: cs.drop (u + 1)=cs.set u v:=by rw [List.set_eq_take_append_cons_drop,if_pos hu]
  rw [e,List.getElem?_set]
  by_cases h:u=i
  · rw [if_pos h,if_pos h.symm,if_pos (by omega)]
  · rw [if_neg h,if_neg (Ne.symm h)]
theorem Rows.add0 {h:List (Nat × AX.Obj)} {m:Nat} {cs:List AV} {N:Nat} {K:Nat → List Int} {ids:Nat → Nat} (R:Rows h m cs N K ids) {u:Nat} (hu:u < N) (hK:K u=[]) (k:Int) {K':Nat → List Int} (hK':∀ i,K' i=if i=u then K u ++ [k] else K i) (hm:1 ≤ m) :
    Rows ((m,.cells 3 [.int .i64 k] false) :: h) (m + 1) (cs.take u ++ .sl m 3 0 1 1 :: cs.drop (u + 1)) N K' (fun i=>if i=u then m else ids i):=by
  have hl:=R.len
  refine ⟨?_,fun i hi=>?_,fun i hi hk=>?_,fun i hi hk=>?_,fun i j hi hj hki hkj he=>?_⟩
  · rw [List.length_append,List.length_take,List.length_cons,List.length_drop];omega
  · rw [K8 (by omega),hK' i]
    by_cases h:i=u
    · subst h;simp [hK]
    · rw [if_neg h,if_neg h];simp only [if_neg h];exact R.cell i hi
  · rw [hK' i] at hk ⊢
    by_cases h:i=u
    · subst h;simp [hK,AX.look,aj,Enc.cells]
    · rw [if_neg h] at hk
      simp only [if_neg h]
      have:=(R.lo i hi hk).2
      simp only [AX.look];rw [if_neg (by omega)];exact R.obj i hi hk
  · rw [hK' i] at hk
    by_cases h:i=u
    · simp only [if_pos h];omega
    · rw [if_neg h] at hk
      simp only [if_neg h]
      have:=R.lo i hi hk;omega
  · rw [hK' i] at hki
    rw [hK' j] at hkj
    by_cases h:i=u
    · by_cases h':j=u
      · omega
      · rw [if_neg h'] at hkj
        simp only [if_pos h,if_neg h'] at he
        have:=R.lo j hj hkj;omega
    · rw [if_neg h] at hki
      by_cases h':j=u
      · simp only [if_neg h,if_pos h'] at he
        have:=R.lo i hi hki;omega
      · rw [if_neg h'] at hkj
        simp only [if_neg h,if_neg h'] at he
        exact R.inj i j hi hj hki hkj he
theorem Rows.add1 {h:List (Nat × AX.Obj)} {m:Nat} {cs:List AV} {N:Nat} {K:Nat → List Int} {ids:Nat → Nat} (R:Rows h m cs N K ids) {u:Nat} (hu:u < N) (hK:K u ≠ []) (k:Int) {K':Nat → List Int} (hK':∀ i,K' i=if i=u then K u ++ [k] else K i) :
    Rows (putAt (ids u) (.cells (2 * ((K u).length + 1) + 1) (aj (K u) ++ [.int .i64 k]) false) h) m (cs.take u ++ .sl (ids u) (2 * ((K u).length + 1) + 1) 0 ((K u).length + 1) 1 :: cs.drop (u + 1)) N K' ids:=by
  have hl:=R.len
  have hne:∀ i,K' i ≠ [] → K i ≠ [] ∨ i=u:=fun i h=>by
    rw [hK' i] at h
    by_cases h':i=u
    · exact .inr h'
    · rw [if_neg h'] at h;exact .inl h
  refine ⟨?_,fun i hi=>?_,fun i hi hk=>?_,fun i hi hk=>?_,fun i j hi hj hki hkj he=>?_⟩
  · rw [List.length_append,List.length_take,List.length_cons,List.length_drop];omega
  · rw [K8 (by omega),hK' i]
    by_cases h:i=u
    · subst h;simp
    · rw [if_neg h,if_neg h];exact R.cell i hi
  · rw [hK' i] at hk ⊢
    by_cases h:i=u
    · subst h
      rw [if_pos rfl,aS (R.obj i hi hK),aU]
      simp;rfl
    · rw [if_neg h] at hk ⊢
      rw [ay (fun e=>h (R.inj i u hi hu hk hK e.symm))];exact R.obj i hi hk
  · rcases hne i hk with h | h
    · exact R.lo i hi h
    · subst h;exact R.lo i hi hK
  · have a:K i ≠ []:=by rcases hne i hki with h | h;exact h;subst h;exact hK
    have b:K j ≠ []:=by rcases hne j hkj with h | h;exact h;subst h;exact hK
    exact R.inj i j hi hj a b he
theorem XK (p:iT) (hp:yI p):bB Tryz.prog 28 [Enc.av p] (.bool (mM p)):=by
  refine bf mix c28 (by kernel_rfl) (by kernel_rfl) (by simp [aI,au,Go.AX.flat]) (by first | exact au _ | simp [flat,aI,au]) ?_
  have hpl:=hp.len
  cases hpe:p with
  | nil =>
    rw [iZ (fun t=>t.ne rfl)]
    simp -implicitDefEqProofs only [F28,go_sem,seval]
    refine aA (by kernel_rfl) ?_
    simp -implicitDefEqProofs only [go_sem,seval]
  | cons x r=>
  rw [← hpe]
  have h0:p[0]? = some x:=by rw [hpe];rfl
  have hl0:((p.length:Int)=0)=False:=eq_false (by rw [hpe];simp;omega)
  have nroot:∀ (P:Prop),(∀ t:iE p,P) → ¬ P → mM p=false:=fun P h1 h2=>iZ fun t=>h2 (h1 t)
  simp -implicitDefEqProofs only [F28,hl0,h0,go_sem,seval]
  have hxok:=(Node.oN x).1 (hp.ok.2 x (List.mem_of_getElem? h0))
  have hcat:(List.length x.name + List.length x.text ≤ 9223372036854775807)=True:=eq_true (by have h1:List.length x.name ≤ 140737488355328:=hxok.1;have h2:List.length x.text ≤ 140737488355328:=hxok.2.2.1;omega)
  by_cases r1:x.up = -1
  case neg=>
    rw [nroot _ (fun t=>(t.root x h0).1) r1]
    simp -implicitDefEqProofs only [r1,hl0,h0,go_sem,seval]
    refine aA (by kernel_rfl) ?_
    simp -implicitDefEqProofs only [go_sem,seval]
  by_cases r2:x.name ++ x.text=[]
  case neg=>
    rw [nroot (x.name ++ x.text=[]) (fun t=>by rw [(t.root x h0).2.1,(t.root x h0).2.2.1];rfl) r2]
    simp -implicitDefEqProofs only [r1,r2,hcat,hl0,h0,go_sem,seval]
    refine aA (by kernel_rfl) ?_
    simp -implicitDefEqProofs only [go_sem,seval]
  by_cases r4:x.attrs=[]
  case neg=>
    rw [nroot _ (fun t=>(t.root x h0).2.2.2) r4]
    have hg:((x.attrs.length:Int) > 0)=True:=eq_true (by have:=List.length_pos_iff.2 r4;omega)
    simp -implicitDefEqProofs only [r1,r2,hcat,hg,hl0,h0,go_sem,seval]
    refine aA (by kernel_rfl) ?_
    simp -implicitDefEqProofs only [go_sem,seval]
  have hg:((x.attrs.length:Int) > 0)=False:=eq_false (by rw [r4];simp)
  have hcap:(p.length * 24 ≤ 140737488355328 ∧ p.length ≤ 9223372036854775807)=True:=eq_true (by omega)
  have hcap2:(p.length * 24 ≤ 140737488355328)=True:=eq_true (by omega)
  have hcap3:(p.length ≤ 9223372036854775807)=True:=eq_true (by omega)
  have rep:∀ q:Nat,(List.replicate q [AV.nils]).flatten=List.replicate q .nils:=fun q=>by
    induction q with
    | zero=>rfl
    | succ q ih=>rw [List.replicate_succ,List.flatten_cons,ih];rfl
  simp -implicitDefEqProofs only [r1,r2,hcat,hg,hl0,h0,go_sem,seval]
  refine aA (by kernel_rfl) ?_
  simp -implicitDefEqProofs only [hcap,hcap2,hcap3,rep,go_sem,seval]
  refine bA (fun q:Nat × List AV × (Nat → Nat)=>p.length - q.1) (fun q=>[(0,Enc.av p),(3,.sl 0 (2 * p.length + 1) 0 p.length 1),(41,Enc.av p),(42,.int .i64 p.length),(43,.int .i64 q.1)])
    (fun q s=>q.1 ≤ p.length ∧ (∀ (j:Nat) y,1 ≤ j → j < q.1 → p[j]? = some y → 0 ≤ y.up ∧ y.up < (j:Int)) ∧ 1 ≤ s.next ∧ AX.look 0 s.heap=some (.cells (2 * p.length + 1) q.2.1 false) ∧ Rows s.heap s.next q.2.1 p.length (bC p q.1) q.2.2) (0,List.replicate p.length .nils,fun _=>0) ?_ ?_
  · simp -implicitDefEqProofs only [hcap,rep,go_sem,seval]
    refine ⟨fun j y _ h=>h.elim,by simp,fun i hi=>?_,fun i hi h=>(h (by simp [bC])).elim,fun i hi h=>(h (by simp [bC])).elim,fun i j _ _ h=>(h (by simp [bC])).elim⟩
    rw [if_pos (by simp [bC])];simp [hi]
  rintro ⟨k,cs,ids⟩ ρ ⟨g,m⟩ ⟨h1,h2,h3,h4,h5⟩
  dsimp only at h1 h2 h3 h4 h5
  rcases Nat.lt_or_ge k p.length with hk | hk
  · obtain ⟨y,hy,hd,hm⟩:=aW hk
    have hlt:((k:Int) < (p.length:Int))=True:=eq_true (by omega)
    have w1:IntKind.i64.wrap ((k:Int) + 1)=((k + 1:Nat):Int):=by rw [wrap64 (by omega) (by omega)];omega
    have m0:(m=0)=False:=eq_false (by omega)
    have i0:(0 < m)=True:=eq_true (by omega)
    have i1:(0 < m + 1)=True:=eq_true (by omega)
    have i2:(0 < m + 1 + 1)=True:=eq_true (by omega)
    simp -implicitDefEqProofs only [hlt,hy,h4,m0,i0,i1,i2,go_sem,seval]
    by_cases hk0:k=0
    · have z0:((k:Int)=0)=True:=eq_true (by omega)
      simp -implicitDefEqProofs only [z0,w1,go_sem,seval]
      refine ⟨(k + 1,cs,ids),by simp only;omega,rfl,by simp only;omega,fun j z a b hz=>by simp only at b;omega,?_⟩
      rw [if_neg (by omega)]
      refine ⟨h4,(h5.push _).congr fun i=>?_⟩
      subst hk0
      rw [Al];simp [bC]
    have z0:((k:Int)=0)=False:=eq_false (by omega)
    by_cases u1:y.up < 0
    · rw [nroot _ (fun t=>(t.up k y (by omega) hy).1) (by omega)]
      simp -implicitDefEqProofs only [z0,u1,hy,go_sem,seval]
    by_cases u2:y.up ≥ (k:Int)
    · rw [nroot _ (fun t=>(t.up k y (by omega) hy).2) (by omega)]
      simp -implicitDefEqProofs only [z0,u1,u2,hy,go_sem,seval]
    obtain ⟨u,hu⟩:=Int.eq_ofNat_of_zero_le (show 0 ≤ y.up by omega)
    have hul:(u < p.length)=True:=eq_true (by omega)
    have hcl:=h5.len
    have hle:(u ≤ cs.length)=True:=eq_true (by omega)
    rw [hu] at u1 u2
    have hcell:=h5.cell u (by omega)
    have hdr:List.drop u cs=(if bC p k u=[] then AV.nils else .sl (ids u) (2 * (bC p k u).length + 1) 0 (bC p k u).length 1) :: List.drop (u + 1) cs:=by
      rw [List.drop_eq_getElem_cons (by omega)]
      rw [List.getElem?_eq_getElem (by omega)] at hcell
      simp only [Option.some.injEq] at hcell
      rw [hcell]
    have hle':(u ≤ p.length)=True:=eq_true (by omega)
    have hle1:(u + 1 ≤ cs.length)=True:=eq_true (by omega)
    have hle2:(u + 1 ≤ p.length)=True:=eq_true (by omega)
    have hK':∀ i,bC p (k + 1) i=if i=u then bC p k u ++ [(k:Int)] else bC p k i:=fun i=>by
      rw [wV p k i (by omega),uF hy,hu]
      by_cases h:i=u
      · subst h;simp
      · rw [if_neg (by omega),if_neg h,List.append_nil]
    have hup':∀ (j:Nat) z,1 ≤ j → j < k + 1 → p[j]? = some z → 0 ≤ z.up ∧ z.up < (j:Int):=fun j z a b hz=>by
      rcases Nat.lt_or_ge j k with h | h
      · exact h2 j z a h hz
      · have:j=k:=by omega
        subst this
        rw [hy] at hz
        simp only [Option.some.injEq] at hz
        subst hz;omega
    have m1:(m + 1=0)=False:=eq_false (by omega)
    have m2:(m + 1 + 1=0)=False:=eq_false (by omega)
    have n1:(m + 1=m)=False:=eq_false (by omega)
    have n2:(m + 1 + 1=m)=False:=eq_false (by omega)
    have n3:(m + 1 + 1=m + 1)=False:=eq_false (by omega)
    have n4:(0=m)=False:=eq_false (by omega)
    have i3:(0 < m + 1 + 1 + 1)=True:=eq_true (by omega)
    have j1:(m < m + 1 + 1)=True:=eq_true (by omega)
    have j2:(m + 1 < m + 1 + 1)=True:=eq_true (by omega)
    have j3:(m < m + 1 + 1 + 1)=True:=eq_true (by omega)
    have j4:(m + 1 < m + 1 + 1 + 1)=True:=eq_true (by omega)
    by_cases hK:bC p k u=[]
    · rw [if_pos hK] at hdr
      simp -implicitDefEqProofs only [z0,u1,u2,hy,hu,hul,h4,m0,i0,i1,i2,i3,hle,hle',hdr,hle1,hle2,hcl,m1,m2,n1,n2,n3,n4,j1,j2,j3,j4,w1,go_sem,seval]
      refine aA (by (first | omega | (simp [aM,aX,aY,Nat.testBit_eq_decide_div_mod_eq];done) | (simp [aM,aX,aY,Nat.testBit_eq_decide_div_mod_eq];omega) | kernel_rfl)) ?_
      simp -implicitDefEqProofs only [z0,u1,u2,hy,hu,hul,h4,m0,i0,i1,i2,i3,hle,hle',hdr,hle1,hle2,hcl,m1,m2,n1,n2,n3,n4,j1,j2,j3,j4,w1,go_sem,seval]
      have e:List.take u cs ++ [AV.sl (m + 1 + 1) 3 0 1 1] ++ List.drop (u + 1) cs=List.take u cs ++ AV.sl (m + 1 + 1) 3 0 1 1 :: List.drop (u + 1) cs:=by simp
      rw [e]
      exact ⟨(k + 1,_,_),by simp only;omega,rfl,by simp only;omega,hup',rfl,(((h5.YE _).push _).push _).add0 (by omega) hK (k:Int) hK' (by omega)⟩
    · rw [if_neg hK] at hdr
      have hobj:=h5.obj u (by omega) hK
      have hlo:=h5.lo u (by omega) hK
      have hKl:=BD p k u
      have b0:(ids u=0)=False:=eq_false (by omega)
      have b1:(0=ids u)=False:=eq_false (by omega)
      have b2:(m=ids u)=False:=eq_false (by omega)
      have b3:(m + 1=ids u)=False:=eq_false (by omega)
      have b4:(ids u=m)=False:=eq_false (by omega)
      have b5:(ids u < m + 1 + 1)=True:=eq_true (by omega)
      have hc1:(aj (bC p k u)).length=(bC p k u).length:=eY _
      have ht:List.take (bC p k u).length (aj (bC p k u))=aj (bC p k u):=List.take_of_length_le (by omega)
      have hbd:(((bC p k u).length + 1) * 8 ≤ 140737488355328)=True:=eq_true (by omega)
      simp -implicitDefEqProofs only [z0,u1,u2,hy,hu,hul,h4,m0,i0,i1,i2,i3,hle,hle',hdr,hle1,hle2,hcl,m1,m2,n1,n2,n3,n4,j1,j2,j3,j4,w1,hobj,b0,b1,b2,b3,b4,b5,hc1,ht,hbd,Nat.max_self,go_sem,seval]
      refine aA (by (first | omega | (simp [aM,aX,aY,Nat.testBit_eq_decide_div_mod_eq];done) | (simp [aM,aX,aY,Nat.testBit_eq_decide_div_mod_eq];omega) | kernel_rfl)) ?_
      simp -implicitDefEqProofs only [z0,u1,u2,hy,hu,hul,h4,m0,i0,i1,i2,i3,hle,hle',hdr,hle1,hle2,hcl,m1,m2,n1,n2,n3,n4,j1,j2,j3,j4,w1,hobj,b0,b1,b2,b3,b4,b5,hc1,ht,hbd,Nat.max_self,go_sem,seval]
      have e:List.take u cs ++ [AV.sl (ids u) (2 * ((bC p k u).length + 1) + 1) 0 ((bC p k u).length + 1) 1] ++ List.drop (u + 1) cs=List.take u cs ++ AV.sl (ids u) (2 * ((bC p k u).length + 1) + 1) 0 ((bC p k u).length + 1) 1 :: List.drop (u + 1) cs:=by simp
      rw [e]
      exact ⟨(k + 1,_,ids),by simp only;omega,rfl,by simp only;omega,hup',rfl,((((h5.add1 (by omega) hK (k:Int) hK').YE _).push _).push _)⟩
  · have hlt:((k:Int) < (p.length:Int))=False:=eq_false (by omega)
    have hkl:k=p.length:=by omega
    subst hkl
    have hups:∀ (j:Nat) z,1 ≤ j → p[j]? = some z → 0 ≤ z.up ∧ z.up < (j:Int):=fun j z a hz=>h2 j z a (nA hz) hz
    simp -implicitDefEqProofs only [hlt,go_sem,seval]
    refine bA (fun n:Nat=>p.length - n) (fun n=>[(0,Enc.av p),(3,.sl 0 (2 * p.length + 1) 0 p.length 1),(72,Enc.av p),(73,.int .i64 p.length),(74,.int .i64 n)])
      (fun n s=>n ≤ p.length ∧ (∀ (j:Nat) z,j < n → p[j]? = some z → z.kids=bC p p.length j) ∧ 1 ≤ s.next ∧ AX.look 0 s.heap=some (.cells (2 * p.length + 1) cs false) ∧
        ∀ i,i < p.length → bC p p.length i ≠ [] → (1 ≤ ids i ∧ ids i < s.next) ∧ ∃ sn,AX.look (ids i) s.heap=some (.cells (2 * (bC p p.length i).length + 1) (aj (bC p p.length i)) sn)) 0 ?_ ?_
    · simp -implicitDefEqProofs only [go_sem,seval]
      exact ⟨fun j z h=>h.elim,h3,h4,fun i hi hk=>⟨h5.lo i hi hk,false,h5.obj i hi hk⟩⟩
    have hcs:=h5.cell
    have hcl:=h5.len
    have hinj:=h5.inj
    clear h1 h2 h3 h4 h5 hk hlt
    rintro n ρ ⟨g2,m⟩ ⟨h1,h2,h3,h4,h5⟩
    dsimp only at h3 h4 h5
    rcases Nat.lt_or_ge n p.length with hn | hn
    · obtain ⟨y,hy,hd,hm⟩:=aW hn
      have hlt:((n:Int) < (p.length:Int))=True:=eq_true (by omega)
      have w1:IntKind.i64.wrap ((n:Int) + 1)=((n + 1:Nat):Int):=by rw [wrap64 (by omega) (by omega)];omega
      have m0:(m=0)=False:=eq_false (by omega)
      have n4:(0=m)=False:=eq_false (by omega)
      have i0:(0 < m)=True:=eq_true (by omega)
      have i1:(0 < m + 1)=True:=eq_true (by omega)
      have hnl:(n < p.length)=True:=eq_true hn
      have hle:(n ≤ cs.length)=True:=eq_true (by omega)
      have hle':(n ≤ p.length)=True:=eq_true (by omega)
      have hyk:=hp.kids y hm
      have hcell:=hcs n hn
      have hdr:List.drop n cs=(if bC p p.length n=[] then AV.nils else .sl (ids n) (2 * (bC p p.length n).length + 1) 0 (bC p p.length n).length 1) :: List.drop (n + 1) cs:=by
        rw [List.drop_eq_getElem_cons (by omega)]
        rw [List.getElem?_eq_getElem (by omega)] at hcell
        simp only [Option.some.injEq] at hcell
        rw [hcell]
      have hnext:y.kids=bC p p.length n → ∀ (j:Nat) z,j < n + 1 → p[j]? = some z → z.kids=bC p p.length j:=fun e j z hj hz=>by
        rcases Nat.lt_or_ge j n with h | h
        · exact h2 j z h hz
        · have:j=n:=by omega
          subst this
          rw [hy] at hz
          simp only [Option.some.injEq] at hz
          subst hz;exact e
      have hno:¬ y.kids=bC p p.length n → mM p=false:=fun e=>nroot _ (fun t=>t.kids n y hy) e
      by_cases hK:bC p p.length n=[]
      · rw [if_pos hK] at hdr
        rw [hK] at hnext hno
        simp -implicitDefEqProofs only [hlt,hnl,hy,h4,m0,n4,i0,i1,hle,hle',hdr,hcl,go_sem,seval]
        refine aA (by (first | omega | (simp [aM,aX,aY,Nat.testBit_eq_decide_div_mod_eq];done) | (simp [aM,aX,aY,Nat.testBit_eq_decide_div_mod_eq];omega) | kernel_rfl)) ?_
        simp -implicitDefEqProofs only [hlt,hnl,hy,h4,m0,n4,i0,i1,hle,hle',hdr,hcl,go_sem,seval]
        refine ak (DL y.kids [] (by omega)) ?_
        by_cases e:y.kids=[]
        · simp -implicitDefEqProofs only [e,w1,h4,m0,n4,go_sem,seval]
          refine ⟨n + 1,by omega,rfl,by omega,hnext e,fun i hi hk=>?_⟩
          obtain ⟨a,sn,b⟩:=h5 i hi hk
          exact ⟨by omega,sn,by rw [if_neg (by omega)];exact b⟩
        · simp -implicitDefEqProofs only [e,go_sem,seval]
          rw [hno e]
      · rw [if_neg hK] at hdr
        obtain ⟨⟨a1,a2⟩,sn,hob⟩:=h5 n hn hK
        have b0:(ids n=0)=False:=eq_false (by omega)
        have b1:(m=ids n)=False:=eq_false (by omega)
        have b2:(ids n=m)=False:=eq_false (by omega)
        have b3:(ids n < m + 1)=True:=eq_true (by omega)
        have b4:(0=ids n)=False:=eq_false (by omega)
        have hc1:(aj (bC p p.length n)).length=(bC p p.length n).length:=eY _
        have ht:List.take (bC p p.length n).length (aj (bC p p.length n))=aj (bC p p.length n):=List.take_of_length_le (by omega)
        cases sn
        all_goals
          simp -implicitDefEqProofs only [hlt,hnl,hy,h4,m0,n4,i0,i1,hle,hle',hdr,hcl,hob,b0,b1,b2,b3,b4,hc1,ht,go_sem,seval]
          refine aA (by (first | omega | (simp [aM,aX,aY,Nat.testBit_eq_decide_div_mod_eq];done) | (simp [aM,aX,aY,Nat.testBit_eq_decide_div_mod_eq];omega) | kernel_rfl)) ?_
          simp -implicitDefEqProofs only [hlt,hnl,hy,h4,m0,n4,i0,i1,hle,hle',hdr,hcl,hob,b0,b1,b2,b3,b4,hc1,ht,go_sem,seval]
          refine ak (DL y.kids (bC p p.length n) (by omega)) ?_
          by_cases e:y.kids=bC p p.length n
          · simp -implicitDefEqProofs only [e,w1,h4,hob,b0,b1,b2,b3,b4,m0,n4,go_sem,seval]
            refine ⟨n + 1,by omega,rfl,by omega,hnext e,fun i hi hk=>?_⟩
            obtain ⟨a,sn,b⟩:=h5 i hi hk
            rw [if_neg (by omega)]
            by_cases hni:ids n=ids i
            · have:n=i:=hinj n i hn hi hK hk hni
              subst this
              exact ⟨by omega,true,by rw [if_pos rfl]⟩
            · exact ⟨by omega,sn,by rw [if_neg hni];exact b⟩
          · simp -implicitDefEqProofs only [e,go_sem,seval]
            rw [hno e]
    · have hlt:((n:Int) < (p.length:Int))=False:=eq_false (by omega)
      simp -implicitDefEqProofs only [hlt,go_sem,seval]
      have hne:=List.append_eq_nil_iff.1 r2
      rw [jK ⟨by rw [hpe];simp,fun a ha=>?_,hups,fun j y hy=>h2 j y (by have:=nA hy;omega) hy⟩]
      rw [h0] at ha
      simp only [Option.some.injEq] at ha
      subst ha
      exact ⟨r1,hne.1,hne.2,r4⟩
end W10K
/- Guards. -/
namespace W10K
open W10 Go Go.AX Go.AX.Ty Go.Proofs
def tu (m:Int) (x:Ty.Node):Bool:=decide ((x.name.length:Int) > 100) || (decide ((x.text.length:Int) > 300) || (decide ((x.attrs.length:Int) > 20) || (decide ((x.kids.length:Int) > m) || x.attrs.any fun a=>decide ((a.name.length:Int) > 100) || decide ((a.value.length:Int) > 100))))
def nH (m:Int) (p:iT):Bool:=decide ((p.length:Int) ≤ m) && !p.any (tu m)
theorem yZ {m:Int} {p:iT} (hm:m ≤ 1000) (hok:Enc.ok p) (h:nH m p=true):yI p:=by
  simp only [nH,Bool.and_eq_true,decide_eq_true_eq,Bool.not_eq_true',List.any_eq_false] at h
  refine ⟨hok,by omega,fun x hx=>?_,fun x hx a ha=>?_⟩
  · have:=h.2 x hx
    simp only [tu,Bool.or_eq_true,decide_eq_true_eq,not_or] at this
    omega
  · have:=h.2 x hx
    simp only [tu,Bool.or_eq_true,decide_eq_true_eq,not_or,List.any_eq_true,not_exists,not_and] at this
    have:=this.2.2.2.2 a ha
    omega
theorem Ct (m:Int) (p:iT) (hok:Enc.ok p):bB Tryz.prog 9 [Enc.av p,Enc.av m] (.bool (nH m p)):=by
  refine bf mix c9 (by kernel_rfl) (by kernel_rfl) (by simp [aI,au,Go.AX.flat]) (by first | exact au _ | simp [flat,aI,au]) ?_
  have hlen:=hok.1
  unfold nH
  by_cases hbig:(p.length:Int) ≤ m
  case neg=>
    have hb:((p.length:Int) ≤ m)=False:=eq_false hbig
    simp -implicitDefEqProofs only [F9,go_sem,seval]
    rw [iG]
    refine ⟨1,?_⟩
    by_cases h0:(0:Int) < (p.length:Int)
    · simp -implicitDefEqProofs only [hb,h0,go_sem,seval]
      simp [hbig]
    · simp -implicitDefEqProofs only [hb,h0,go_sem,seval]
      simp [hbig]
  have hb:((p.length:Int) ≤ m)=True:=eq_true hbig
  simp -implicitDefEqProofs only [F9,go_sem,seval]
  refine bA (fun k:Nat=>p.length - k) (fun k=>[(0,Enc.av p),(1,Enc.av m),(5,.int .i64 k)]) (fun k s=>k ≤ p.length ∧ Pre (tu m) p k) 0 ?_ ?_
  · simp -implicitDefEqProofs only [go_sem,seval]
    exact Pre.zero _ _
  rintro k ρ ⟨g,q⟩ ⟨h1,h2⟩
  rcases Nat.lt_or_ge k p.length with hk | hk
  · obtain ⟨x,hx,hd,hm⟩:=aW hk
    have hlt:((k:Int) < (p.length:Int))=True:=eq_true (by omega)
    have w1:IntKind.i64.wrap ((k:Int) + 1)=((k + 1:Nat):Int):=by rw [wrap64 (by omega) (by omega)];omega
    have hbad:tu m x=true → (decide ((p.length:Int) ≤ m) && !p.any (tu m))=false:=fun h=>by rw [AJ hm h];simp
    have hal:=((Node.oN x).1 (hok.2 x hm)).2.1.1
    simp -implicitDefEqProofs only [hlt,hb,hx,go_sem,seval]
    by_cases b1:(x.name.length:Int) > 100
    · rw [hbad (by simp [tu,b1])]
      simp -implicitDefEqProofs only [b1,go_sem,seval]
    by_cases b2:(x.text.length:Int) > 300
    · rw [hbad (by simp [tu,b2])]
      simp -implicitDefEqProofs only [b1,b2,go_sem,seval]
    by_cases b3:(x.attrs.length:Int) > 20
    · rw [hbad (by simp [tu,b3])]
      simp -implicitDefEqProofs only [b1,b2,b3,go_sem,seval]
    by_cases b4:(x.kids.length:Int) > m
    · rw [hbad (by simp [tu,b4])]
      simp -implicitDefEqProofs only [b1,b2,b3,b4,go_sem,seval]
    simp -implicitDefEqProofs only [b1,b2,b3,b4,go_sem,seval]
    refine bA (fun j:Nat=>x.attrs.length - j) (fun j=>[(0,Enc.av p),(1,Enc.av m),(5,.int .i64 k),(6,.ptr q 1 0),(7,.int .i64 j)])
      (fun j s=>j ≤ x.attrs.length ∧ q + 1 ≤ s.next ∧ AX.look q s.heap=some (.cells 1 (Enc.cells x) false) ∧ Pre (fun a:Attr=>decide ((a.name.length:Int) > 100) || decide ((a.value.length:Int) > 100)) x.attrs j) 0 ?_ ?_
    · simp -implicitDefEqProofs only [go_sem,seval]
      exact Pre.zero _ _
    rintro j ρ ⟨g2,q2⟩ ⟨j1,j2,j3,j4⟩
    dsimp only at j2 j3
    rw [Node.bY] at j3
    rcases Nat.lt_or_ge j x.attrs.length with hj | hj
    · obtain ⟨a,ha,_,ham⟩:=aW hj
      have hlt2:((j:Int) < (x.attrs.length:Int))=True:=eq_true (by omega)
      have w2:IntKind.i64.wrap ((j:Int) + 1)=((j + 1:Nat):Int):=by rw [wrap64 (by omega) (by omega)];omega
      by_cases a1:(a.name.length:Int) > 100
      · rw [hbad (by simp only [tu];rw [AJ ham (by simp [a1])];simp)]
        simp -implicitDefEqProofs only [hlt2,ha,j3,a1,go_sem,seval]
      by_cases a2:(a.value.length:Int) > 100
      · rw [hbad (by simp only [tu];rw [AJ ham (by simp [a2])];simp)]
        simp -implicitDefEqProofs only [hlt2,ha,j3,a1,a2,go_sem,seval]
      simp -implicitDefEqProofs only [hlt2,ha,j3,a1,a2,w2,go_sem,seval]
      refine ⟨j + 1,by omega,?_⟩
      exact ⟨rfl,by omega,j2,j4.next ha (by simp;omega)⟩
    · have hlt2:((j:Int) < (x.attrs.length:Int))=False:=eq_false (by omega)
      simp -implicitDefEqProofs only [hlt2,j3,w1,go_sem,seval]
      refine ⟨k + 1,by omega,rfl,by omega,h2.next hx ?_⟩
      simp only [tu,Bool.or_eq_false_iff,decide_eq_false_iff_not]
      exact ⟨b1,b2,b3,b4,Ro (j4.all hj)⟩
  · have hlt:((k:Int) < (p.length:Int))=False:=eq_false (by omega)
    simp -implicitDefEqProofs only [hlt,hb,go_sem,seval]
    rw [Ro (h2.all hk)];simp [hbig]
end W10K
