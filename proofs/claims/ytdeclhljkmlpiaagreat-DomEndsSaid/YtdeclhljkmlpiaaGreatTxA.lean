/- The table: what is asked of it. -/
import Derived.Test.YtdeclhljkmlpiaaGreatAxE
import Derived.Test.YtdeclhljkmlpiaaGreatTabB
set_option linter.unusedSimpArgs false
set_option linter.unusedVariables false
namespace W10
open Go Go.AX Go.Proofs
theorem mix:Tryz.prog.follows .mixedOrders=true:=by kernel_rfl
theorem Y4:Zd 8 T:=by
  have h:(kg.all fun o=>match o with | some tf=>RN 8 tf.af | none=>true)=true:=by kernel_rfl
  intro f tf hf
  have hf':kg.getD f none=some tf:=hf
  rw [List.getD_eq_getElem?_getD] at hf'
  have hm:some tf ∈ kg:=by
    cases ho:kg[f]? with
    | none=>rw [ho] at hf';simp at hf'
    | some o =>
      rw [ho] at hf'
      simp only [Option.getD_some] at hf'
      subst hf'
      exact List.mem_of_getElem? ho
  exact List.all_eq_true.1 h _ hm
end W10
/- strings.HasPrefix. -/
namespace W10
open Go Go.AX Go.AX.Ty Go.Proofs
def hasB (s p:Str):Bool:=decide (p.length ≤ s.length) && decide (s.take p.length=p)
theorem bS {s p:Str}:hasB s p=true ↔ ∃ r,s=p ++ r:=by
  simp only [hasB,Bool.and_eq_true,decide_eq_true_eq]
  constructor
  · rintro ⟨h1,h2⟩
    exact ⟨s.drop p.length,by conv=>lhs;rw [← List.take_append_drop p.length s,h2]⟩
  · rintro ⟨r,rfl⟩;simp
theorem Xu (s p:Str):bB Tryz.prog 90 [.str s,.str p] (.bool (hasB s p)):=by
  refine bf mix c90 (by kernel_rfl) (by kernel_rfl) (by simp [aI,au,Go.AX.flat]) (by first | exact au _ | simp [flat,aI,au]) ?_
  rcases Nat.lt_or_ge s.length p.length with h | h
  · have h1:((p.length:Int) ≤ (s.length:Int))=False:=eq_false (by omega)
    have e:hasB s p=false:=by simp only [hasB,Bool.and_eq_false_iff,decide_eq_false_iff_not];left;omega
    rw [e]
    simp -implicitDefEqProofs only [F90,h1,go_sem,seval]
  · have h1:((p.length:Int) ≤ (s.length:Int))=True:=eq_true (by omega)
    have h2:(p.length ≤ s.length)=True:=eq_true h
    have e:hasB s p=decide (s.take p.length=p):=by simp [hasB,h]
    rw [e]
    simp -implicitDefEqProofs only [F90,h1,h2,go_sem,seval]
    congr 1
    rw [Bool.eq_iff_iff];simp
theorem xq (s p:Str):bB Tryz.prog 72 [.str s,.str p] (.bool (hasB s p)):=by
  refine bf mix c72 (by kernel_rfl) (by kernel_rfl) (by simp [aI,au,Go.AX.flat]) (by first | exact au _ | simp [flat,aI,au]) ?_
  simp -implicitDefEqProofs only [F72,go_sem,seval]
  refine ak (Xu s p) ?_
  simp -implicitDefEqProofs only [go_sem,seval]
end W10
/- strings.Replacer: what is built. -/
namespace W10
open Go Go.AX Go.AX.Ty Go.Proofs
def MQ (i:Nat):Int:=
  if i=38 then 0 else if i=59 then 1 else if i=97 then 2 else if i=103 then 3 else if i=108 then 4 else if i=109 then 5 else if i=111 then 6 else if i=112 then 7 else if i=113 then 8 else if i=116 then 9 else if i=117 then 10 else 11
def BP:List AV:=(List.range 256).map fun i=>.int .u8 (MQ i)
def Db (v:Str) (p:Int):AV:=.vp [.str v,.int .i64 p,.str [],.nilp,.nils]
def Ab (pre:Str) (x:AV):AV:=.vp [.str [],.int .i64 0,.str pre,x,.nils]
def pQ:List AV:=[.nilp,.nilp,Ab [109,112,59] (Db [38] 8),Ab [116,59] (Db [62] 4),Ab [116,59] (Db [60] 6),.nilp,.nilp,.nilp,Ab [117,111,116,59] (Db [34] 2),.nilp,.nilp]
def node1:AV:=.vp [.str [],.int .i64 0,.str [],.nilp,.ps 11 pQ]
def r9:List AV:=[node1,.nilp,.nilp,.nilp,.nilp,.nilp,.nilp,.nilp,.nilp,.nilp,.nilp]
def KJ:List AV:=.str [] :: .int .i64 0 :: .str [] :: .nilp :: .ps 11 r9 :: .int .i64 11 :: BP
def GP:AV:=.vp KJ
def Wq (l:Str):List AV:=l.map fun b=>.int .u8 b.toNat
def Ul (i:Nat):AV:=if i=34 then .ps 6 (Wq [38,113,117,111,116,59]) else if i=38 then .ps 5 (Wq [38,97,109,112,59]) else if i=60 then .ps 4 (Wq [38,108,116,59]) else if i=62 then .ps 4 (Wq [38,103,116,59]) else .nils
def YN:List AV:=(List.range 256).map Ul
def VN:List AV:=YN ++ [.ps 4 [.str [34],.str [62],.str [60],.str [38]]]
def SG:AV:=.vp VN
def Wo:List AV:=[.str [38,97,109,112,59],.str [38],.str [38,108,116,59],.str [60],.str [38,103,116,59],.str [62],.str [38,113,117,111,116,59],.str [34]]
def EB:List AV:=[.str [38],.str [38,97,109,112,59],.str [60],.str [38,108,116,59],.str [62],.str [38,103,116,59],.str [34],.str [38,113,117,111,116,59]]
def H8 (m:Nat):List AV:=[.int .u32 0,.int .i32 1,.int .u32 0,.nili,.sl m 17 0 8 1]
def Cc (v:AV):List AV:=[.int .u32 0,.int .i32 1,.int .u32 0,v,.nils]
def TS (ss:List AV):List (Nat × AX.Obj):=[(1,.cells 1 (H8 0) false),(0,.cells 17 ss false)]
def Jp:pX → Option AV
  | .val (.tup []) s => match s.get 1 with
    | some (.cells 1 [.int .u32 0, .int .i32 1, .int .u32 0, v, .nils] false) => match gL s.get 12 v with
      | some (y,ps)=>if (ps.all fun p=>!(Nat.beq p.1 1))=true then some y else none
      | none=>none
    | _=>none
  | _=>none
noncomputable def OD (ss:List AV):pX:=vR 8 T 1000000 (.call 88 [.ptr 1 1 0]) .e ⟨TS ss,2⟩
set_option maxRecDepth 100000 in
theorem WW:Jp (OD Wo)=some (.ifc 147 GP):=by kernel_rfl
set_option maxRecDepth 100000 in
theorem XI:Jp (OD EB)=some (.ifc 155 SG):=by kernel_rfl
end W10
/- strings.Replacer of the signs: what it holds; lookup. -/
namespace W10
open Go Go.AX Go.AX.Ty Go.Proofs
def bZ (s:Str):Str × Nat × Bool:=
  if hasB s [38,97,109,112,59]=true then ([38],5,true) else if hasB s [38,108,116,59]=true then ([60],4,true) else
  if hasB s [38,103,116,59]=true then ([62],4,true) else if hasB s [38,113,117,111,116,59]=true then ([34],6,true) else ([],0,false)
theorem look_nil:bB Tryz.prog 156 [GP,.str [],.bool false] (.tup [.str [],.int .i64 0,.bool false]):=by
  refine bf mix c156 (by kernel_rfl) (by kernel_rfl) (by kernel_rfl) (by kernel_rfl) ?_
  simp -implicitDefEqProofs only [F156,GP,KJ,go_sem,seval]
  rw [iG]
  refine ⟨1,?_⟩
  simp -implicitDefEqProofs only [go_sem,seval]
theorem nR (b:Nat) (h:b < 256):BP.drop b=.int .u8 (MQ b) :: BP.drop (b + 1):=by
  have h':b < BP.length:=by simp [BP,h]
  rw [List.drop_eq_getElem_cons h']
  congr 1
  simp [BP]
theorem X7:bW 0 1 (.ps 11 r9)=some (.vp (node1 :: r9.drop 1)):=by simp [bW,r9]
set_option maxHeartbeats 1000000 in
theorem Sg:bB Tryz.prog 156 [GP,.str [38],.bool false] (.tup [.str [],.int .i64 0,.bool false]):=by
  refine bf mix c156 (by kernel_rfl) (by kernel_rfl) (by kernel_rfl) (by kernel_rfl) ?_
  have m38:BP.drop 38=.int .u8 0 :: BP.drop 39:=nR 38 (by omega)
  simp -implicitDefEqProofs only [F156,GP,KJ,go_sem,seval]
  rw [iG]
  refine ⟨2,?_⟩
  simp -implicitDefEqProofs only [m38,go_sem,seval]
  refine aA (by kernel_rfl) ?_
  simp -implicitDefEqProofs only [m38,X7,node1,go_sem,seval]
set_option maxHeartbeats 4000000 in
set_option maxRecDepth 20000 in
theorem rV {c:UInt8} {i:Nat} {pre v:Str} {p:Int} (q:Str) (hc:BP.drop c.toNat=.int .u8 i :: BP.drop (c.toNat + 1)) (hcl:(c.toNat < 256)=True) (hib:i < 11) (ht:bW i 1 (.ps 11 pQ)=some (.vp (Ab pre (Db v p) :: pQ.drop (i + 1)))) (hp:pre ≠ []) (hpl:pre.length ≤ 10) (hp0:0 < p) :
    bB Tryz.prog 156 [GP,.str (38 :: c :: q),.bool false] (.tup [.str (if hasB q pre=true then v else []),.int .i64 (if hasB q pre=true then 2 + pre.length else 0),.bool (hasB q pre)]):=by
  refine bf mix c156 (by kernel_rfl) (by kernel_rfl) (by simp [aI,flat];kernel_rfl) (by simp [flat,aI]) ?_
  have m38:BP.drop 38=.int .u8 0 :: BP.drop 39:=nR 38 (by omega)
  simp -implicitDefEqProofs only [F156,GP,KJ,go_sem,seval]
  rw [iG]
  refine ⟨4,?_⟩
  simp -implicitDefEqProofs only [m38,go_sem,seval]
  refine aA (by kernel_rfl) ?_
  simp -implicitDefEqProofs only [m38,X7,node1,hc,hcl,go_sem,seval]
  refine aA (by kernel_rfl) ?_
  have hi':((i:Int)=11)=False:=eq_false (by omega)
  have hwi:IntKind.i64.wrap (i:Int)=(i:Int):=wrap64 (by omega) (by omega)
  have hp':(pre=[])=False:=eq_false hp
  have hp0':((0:Int) < p)=True:=eq_true hp0
  simp -implicitDefEqProofs only [hc,ht,hi',hwi,Ab,Db,go_sem,seval]
  by_cases hq:q=[]
  · subst hq
    have e:hasB [] pre=false:=by
      cases hh:hasB [] pre with
      | false=>rfl
      | true =>
        obtain ⟨r,hr⟩:=bS.1 hh
        simp at hr;exact absurd hr.1 hp
    simp -implicitDefEqProofs only [e,go_sem,seval]
  have hq':(q=[])=False:=eq_false hq
  simp -implicitDefEqProofs only [hq',hp',go_sem,seval]
  refine ak (xq q pre) ?_
  cases hh:hasB q pre with
  | false =>
    simp -implicitDefEqProofs only [hp',go_sem,seval]
  | true =>
    obtain ⟨r,rfl⟩:=bS.1 hh
    have hle:(pre.length ≤ (pre ++ r).length)=True:=eq_true (by simp)
    have hw2:IntKind.i64.wrap ((2:Int) + (pre.length:Int))=((2 + pre.length:Nat):Int):=by rw [wrap64 (by omega) (by omega)];omega
    simp -implicitDefEqProofs only [hp',hle,hw2,hp0',List.drop_left,go_sem,seval]
    by_cases hr:r=[]
    · subst hr
      simp -implicitDefEqProofs only [hp0',go_sem,seval]
      simp
    · have hr':(r=[])=False:=eq_false hr
      simp -implicitDefEqProofs only [hr',hp0',go_sem,seval]
      simp
set_option maxHeartbeats 4000000 in
set_option maxRecDepth 20000 in
theorem Rp {c:UInt8} (q:Str) (hc:BP.drop c.toNat=.int .u8 11 :: BP.drop (c.toNat + 1)) (hcl:(c.toNat < 256)=True) :
    bB Tryz.prog 156 [GP,.str (38 :: c :: q),.bool false] (.tup [.str [],.int .i64 0,.bool false]):=by
  refine bf mix c156 (by kernel_rfl) (by kernel_rfl) (by simp [aI,flat];kernel_rfl) (by simp [flat,aI]) ?_
  have m38:BP.drop 38=.int .u8 0 :: BP.drop 39:=nR 38 (by omega)
  simp -implicitDefEqProofs only [F156,GP,KJ,go_sem,seval]
  rw [iG]
  refine ⟨4,?_⟩
  simp -implicitDefEqProofs only [m38,go_sem,seval]
  refine aA (by kernel_rfl) ?_
  simp -implicitDefEqProofs only [m38,X7,node1,hc,hcl,go_sem,seval]
  refine aA (by kernel_rfl) ?_
  simp -implicitDefEqProofs only [hc,go_sem,seval]
set_option maxHeartbeats 4000000 in
set_option maxRecDepth 20000 in
theorem MK {c:UInt8} {i:Nat} (q:Str) (hc:BP.drop c.toNat=.int .u8 i :: BP.drop (c.toNat + 1)) (hcl:(c.toNat < 256)=True) (hib:i < 11) (ht:bW i 1 (.ps 11 pQ)=some (.vp (.nilp :: pQ.drop (i + 1)))) :
    bB Tryz.prog 156 [GP,.str (38 :: c :: q),.bool false] (.tup [.str [],.int .i64 0,.bool false]):=by
  refine bf mix c156 (by kernel_rfl) (by kernel_rfl) (by simp [aI,flat];kernel_rfl) (by simp [flat,aI]) ?_
  have m38:BP.drop 38=.int .u8 0 :: BP.drop 39:=nR 38 (by omega)
  have hi':((i:Int)=11)=False:=eq_false (by omega)
  have hwi:IntKind.i64.wrap (i:Int)=(i:Int):=wrap64 (by omega) (by omega)
  simp -implicitDefEqProofs only [F156,GP,KJ,go_sem,seval]
  rw [iG]
  refine ⟨4,?_⟩
  simp -implicitDefEqProofs only [m38,go_sem,seval]
  refine aA (by kernel_rfl) ?_
  simp -implicitDefEqProofs only [m38,X7,node1,hc,hcl,go_sem,seval]
  refine aA (by kernel_rfl) ?_
  simp -implicitDefEqProofs only [hc,ht,hi',hwi,go_sem,seval]
theorem mF (a b:UInt8) (s p:Str):hasB (a :: s) (b :: p)=(decide (a=b) && hasB s p):=by
  rw [Bool.eq_iff_iff]
  simp only [bS,Bool.and_eq_true,decide_eq_true_eq,List.cons_append,List.cons.injEq]
  exact ⟨fun ⟨r,h1,h2⟩=>⟨h1,r,h2⟩,fun ⟨h1,r,h2⟩=>⟨r,h1,h2⟩⟩
theorem MB (n:Nat):n=97 ∨ n=103 ∨ n=108 ∨ n=113 ∨ MQ n=11 ∨ ∃ i:Nat,MQ n=i ∧ i < 11 ∧ bW i 1 (.ps 11 pQ)=some (.vp (.nilp :: pQ.drop (i + 1))):=by
  by_cases h:n=97 ∨ n=103 ∨ n=108 ∨ n=113
  · rcases h with h | h | h | h <;> simp [h]
  · simp only [not_or] at h
    obtain ⟨h1,h2,h3,h4⟩:=h
    right;right;right;right
    unfold MQ
    repeat' split
    all_goals first | (left;rfl) | omega | (right;exact ⟨0,rfl,by omega,by simp [bW,pQ]⟩) | (right;exact ⟨1,rfl,by omega,by simp [bW,pQ]⟩) | (right;exact ⟨5,rfl,by omega,by simp [bW,pQ]⟩) | (right;exact ⟨6,rfl,by omega,by simp [bW,pQ]⟩) | (right;exact ⟨7,rfl,by omega,by simp [bW,pQ]⟩) | (right;exact ⟨9,rfl,by omega,by simp [bW,pQ]⟩) | (right;exact ⟨10,rfl,by omega,by simp [bW,pQ]⟩)
theorem OU (r:Str):bB Tryz.prog 156 [GP,.str (38 :: r),.bool false] (.tup [.str (bZ (38 :: r)).1,.int .i64 (bZ (38 :: r)).2.1,.bool (bZ (38 :: r)).2.2]):=by
  cases r with
  | nil=>exact Sg
  | cons c q =>
    have hcl:c.toNat < 256:=c.toNat_lt
    have hd:=nR c.toNat hcl
    have bad:c ≠ 97 → c ≠ 103 → c ≠ 108 → c ≠ 113 → bZ (38 :: c :: q)=([],0,false):=fun h1 h2 h3 h4=>by
      simp [bZ,mF,h1,h2,h3,h4]
    have cn:∀ n:Nat,n < 256 → c.toNat=n → c=UInt8.ofNat n:=fun n hn h=>by rw [← h,UInt8.ofNat_toNat]
    rcases MB c.toNat with h | h | h | h | h | ⟨i,h,hi,ht⟩
    · have hc:=cn 97 (by omega) h
      subst hc
      refine (rV (i:=2) (pre:=[109,112,59]) (v:=[38]) (p:=8) q hd (eq_true hcl) (by omega) (by simp [bW,pQ]) (by simp) (by simp) (by omega)).at ?_
      have:bZ (38 :: UInt8.ofNat 97 :: q)=if hasB q [109,112,59]=true then ([38],5,true) else ([],0,false):=by
        simp [bZ,mF]
      rw [this]
      cases hasB q [109,112,59] <;> simp
    · have hc:=cn 103 (by omega) h
      subst hc
      refine (rV (i:=3) (pre:=[116,59]) (v:=[62]) (p:=4) q hd (eq_true hcl) (by omega) (by simp [bW,pQ]) (by simp) (by simp) (by omega)).at ?_
      have:bZ (38 :: UInt8.ofNat 103 :: q)=if hasB q [116,59]=true then ([62],4,true) else ([],0,false):=by
        simp [bZ,mF]
      rw [this]
      cases hasB q [116,59] <;> simp
    · have hc:=cn 108 (by omega) h
      subst hc
      refine (rV (i:=4) (pre:=[116,59]) (v:=[60]) (p:=6) q hd (eq_true hcl) (by omega) (by simp [bW,pQ]) (by simp) (by simp) (by omega)).at ?_
      have:bZ (38 :: UInt8.ofNat 108 :: q)=if hasB q [116,59]=true then ([60],4,true) else ([],0,false):=by
        simp [bZ,mF]
      rw [this]
      cases hasB q [116,59] <;> simp
    · have hc:=cn 113 (by omega) h
      subst hc
      refine (rV (i:=8) (pre:=[117,111,116,59]) (v:=[34]) (p:=2) q hd (eq_true hcl) (by omega) (by simp [bW,pQ]) (by simp) (by simp) (by omega)).at ?_
      have:bZ (38 :: UInt8.ofNat 113 :: q)=if hasB q [117,111,116,59]=true then ([34],6,true) else ([],0,false):=by
        simp [bZ,mF]
      rw [this]
      cases hasB q [117,111,116,59] <;> simp
    · rw [h] at hd
      have nb:∀ n:Nat,n < 256 → MQ n ≠ 11 → c ≠ UInt8.ofNat n:=fun n hn hm he=>by
        subst he
        rw [UInt8.toNat_ofNat',Nat.mod_eq_of_lt hn] at h;exact hm h
      refine (Rp q hd (eq_true hcl)).at ?_
      rw [bad (nb 97 (by omega) (by decide)) (nb 103 (by omega) (by decide)) (nb 108 (by omega) (by decide)) (nb 113 (by omega) (by decide))]
      rfl
    · rw [h] at hd
      have nb:∀ n:Nat,n < 256 → (MQ n=2 ∨ MQ n=3 ∨ MQ n=4 ∨ MQ n=8) → c ≠ UInt8.ofNat n:=fun n hn hm he=>by
        subst he
        rw [UInt8.toNat_ofNat',Nat.mod_eq_of_lt hn] at h
        have:i=2 ∨ i=3 ∨ i=4 ∨ i=8:=by omega
        rcases this with rfl | rfl | rfl | rfl <;> simp [bW,pQ,Ab] at ht
      refine (MK q hd (eq_true hcl) hi ht).at ?_
      rw [bad (nb 97 (by omega) (by decide)) (nb 103 (by omega) (by decide)) (nb 108 (by omega) (by decide)) (nb 113 (by omega) (by decide))]
      rfl
end W10
/- Bytes: what kinds there are. -/
namespace W10
open Go Go.AX Go.AX.Ty Go.Proofs
def kD (c:UInt8):Bool:=(decide (97 ≤ c) && decide (c ≤ 122)) || (decide (65 ≤ c) && decide (c ≤ 90))
def cB (c:UInt8):Bool:=kD c || (decide (48 ≤ c) && decide (c ≤ 57)) || c == 45
def aT (c:UInt8):Bool:=c == 32 || c == 10 || c == 9 || c == 12 || c == 13
def aN (c:UInt8):Bool:=!(aT c) && !(c == 61) && !(c == 62) && !(c == 47) && !(c == 34) && !(c == 39) && !(c == 60)
def jG (c:UInt8):Bool:=!(aT c) && !(c == 62)
def ZE:Option AV → Bool → Bool
  | some (.bool b),c=>b == c
  | _,_=>false
theorem Xj {o:Option AV} {b:Bool} (h:ZE o b=true):o=some (.bool b):=by
  unfold ZE at h
  split at h
  · simp at h;rw [h]
  · simp at h
noncomputable def bOut (f n:Nat):Option AV:=Xh (vR 8 T 1000 (.call f [.int .u8 n]) .e ⟨[],0⟩)
theorem He {f:Nat} (g:UInt8 → Bool) (h:(List.range 256).all (fun n=>ZE (bOut f n) (g (UInt8.ofNat n)))=true) (c:UInt8):bB Tryz.prog f [.int .u8 c.toNat] (.bool (g c)):=by
  have hc:=List.all_eq_true.1 h c.toNat (List.mem_range.2 c.toNat_lt)
  rw [UInt8.ofNat_toNat] at hc
  exact Ls mix Y7 Y4 (n:=1000) rfl rfl (Xj hc)
set_option maxRecDepth 100000 in
theorem NR (c:UInt8):bB Tryz.prog 74 [.int .u8 c.toNat] (.bool (kD c)):=He kD (by kernel_rfl) c
set_option maxRecDepth 100000 in
theorem PO (c:UInt8):bB Tryz.prog 75 [.int .u8 c.toNat] (.bool (cB c)):=He cB (by kernel_rfl) c
set_option maxRecDepth 100000 in
theorem EG (c:UInt8):bB Tryz.prog 81 [.int .u8 c.toNat] (.bool (aT c)):=He aT (by kernel_rfl) c
set_option maxRecDepth 100000 in
theorem FX (c:UInt8):bB Tryz.prog 76 [.int .u8 c.toNat] (.bool (aN c)):=He aN (by kernel_rfl) c
set_option maxRecDepth 100000 in
theorem Tk (c:UInt8):bB Tryz.prog 100 [.int .u8 c.toNat] (.bool (jG c)):=He jG (by kernel_rfl) c
end W10
/- The scanner: has, name, tag, take. -/
namespace W10
open Go Go.AX Go.AX.Ty Go.Proofs
def aC:Str → Nat
  | []=>0
  | c :: r=>if kD c=true then (r.takeWhile cB).length + 1 else 0
theorem oI (s p:Str):bB Tryz.prog 55 [.str s,.str p] (.bool (hasB s p)):=by
  refine bf mix c55 (by kernel_rfl) (by kernel_rfl) (by simp [aI,au,Go.AX.flat]) (by first | exact au _ | simp [flat,aI,au]) ?_
  simp -implicitDefEqProofs only [F55,go_sem,seval]
  refine ak (xq s p) ?_
  simp -implicitDefEqProofs only [go_sem,seval]
theorem EZ {p:UInt8 → Bool} (r:Str) (k:Nat) (h:∀ i,i < k → ∃ c,r[i]? = some c ∧ p c=true) (hk:k=r.length ∨ ∃ c,r[k]? = some c ∧ p c=false):(r.takeWhile p).length=k:=by
  induction r generalizing k with
  | nil =>
    rcases hk with h1 | ⟨c,h1,_⟩
    · simp at h1;simp [h1]
    · simp at h1
  | cons x r ih =>
    cases k with
    | zero =>
      rcases hk with h1 | ⟨c,h1,h2⟩
      · simp at h1
      · simp at h1;subst h1;simp [h2]
    | succ k =>
      obtain ⟨c,h1,h2⟩:=h 0 (by omega)
      simp at h1;subst h1
      have e:=ih k (fun i hi=>by
        obtain ⟨c,h3,h4⟩:=h (i + 1) (by omega)
        exact ⟨c,by simpa using h3,h4⟩) (by
        rcases hk with h1 | ⟨c,h1,h2⟩
        · left;simpa using h1
        · right;exact ⟨c,by simpa using h1,h2⟩)
      rw [List.takeWhile_cons,if_pos h2,List.length_cons,e]
theorem qW (s:Str) (k:Nat) (hs:s.length ≤ 1000000000) (hk:k ≤ 1000000000):bB Tryz.prog 58 [.str s,.int .i64 k] (.int .i64 (aC (s.drop k))):=by
  refine bf mix c58 (by kernel_rfl) (by kernel_rfl) (by simp [aI,au,Go.AX.flat]) (by first | exact au _ | simp [flat,aI,au]) ?_
  rcases Nat.lt_or_ge k s.length with h | h
  · obtain ⟨c,hc⟩:∃ c,s[k]? = some c:=⟨s[k],by simp [h]⟩
    have hd:s.drop k=c :: s.drop (k + 1):=by rw [List.drop_eq_getElem_cons h];congr 1;rw [List.getElem?_eq_getElem h] at hc;exact Option.some.inj hc
    have h1:((s.length:Int) ≤ (k:Int))=False:=eq_false (by omega)
    rw [hd]
    simp only [aC]
    simp -implicitDefEqProofs only [F58,h1,hc,go_sem,seval]
    refine ak (NR c) ?_
    cases hl:kD c with
    | false =>
      simp -implicitDefEqProofs only [go_sem,seval]
    | true =>
      simp -implicitDefEqProofs only [go_sem,seval]
      refine bA (fun n:Nat=>s.length - n) (fun n=>[(0,.str s),(1,.int .i64 k),(5,.int .i64 n)])
        (fun n st=>1 ≤ n ∧ k + n ≤ s.length ∧ ∀ i,i < n - 1 → ∃ c,(s.drop (k + 1))[i]? = some c ∧ cB c=true) 1 ?_ ?_
      · simp -implicitDefEqProofs only [go_sem,seval]
        exact ⟨by omega,fun i hi=>hi.elim⟩
      rintro n ρ ⟨g,m⟩ ⟨n1,n2,n3⟩
      have w0:IntKind.i64.wrap ((k:Int) + (n:Int))=((k + n:Nat):Int):=by rw [wrap64 (by omega) (by omega)];omega
      have w1:IntKind.i64.wrap ((n:Int) + 1)=((n + 1:Nat):Int):=by rw [wrap64 (by omega) (by omega)];omega
      rcases Nat.lt_or_ge (k + n) s.length with hn | hn
      · obtain ⟨x,hx⟩:∃ x,s[k + n]? = some x:=⟨s[k + n],by simp [hn]⟩
        have h2:(((k + n:Nat):Int) < (s.length:Int))=True:=eq_true (by omega)
        have hx':(s.drop (k + 1))[n - 1]? = some x:=by rw [List.getElem?_drop,← hx];congr 1;omega
        simp -implicitDefEqProofs only [w0,h2,hx,go_sem,seval]
        refine ak (PO x) ?_
        cases hi:cB x with
        | true =>
          simp -implicitDefEqProofs only [w1,go_sem,seval]
          refine ⟨n + 1,by omega,rfl,by omega,by omega,fun i hi'=>?_⟩
          rcases Nat.lt_or_ge i (n - 1) with hlt | hge
          · exact n3 i hlt
          · have:i=n - 1:=by omega
            subst this
            exact ⟨x,hx',hi⟩
        | false =>
          simp -implicitDefEqProofs only [go_sem,seval]
          have:=EZ (s.drop (k + 1)) (n - 1) n3 (.inr ⟨x,hx',hi⟩)
          rw [this];simp;omega
      · have h2:(((k + n:Nat):Int) < (s.length:Int))=False:=eq_false (by omega)
        simp -implicitDefEqProofs only [w0,h2,go_sem,seval]
        have:=EZ (s.drop (k + 1)) (n - 1) n3 (.inl (by rw [List.length_drop];omega))
        rw [this];simp;omega
  · have h1:((s.length:Int) ≤ (k:Int))=True:=eq_true (by omega)
    rw [List.drop_of_length_le h]
    simp -implicitDefEqProofs only [F58,h1,aC,go_sem,seval]
def pJ (s:Str):Bool:=hasB s [60,33] || hasB s [60,47] && decide (0 < aC (s.drop 2)) || hasB s [60] && decide (0 < aC (s.drop 1))
theorem YQ (s:Str) (hs:s.length ≤ 1000000000):bB Tryz.prog 82 [.str s] (.bool (pJ s)):=by
  refine bf mix c82 (by kernel_rfl) (by kernel_rfl) (by simp [aI,au,Go.AX.flat]) (by first | exact au _ | simp [flat,aI,au]) ?_
  simp -implicitDefEqProofs only [F82,go_sem,seval]
  unfold pJ
  refine ak (oI s [60,33]) ?_
  cases h1:hasB s [60,33] with
  | true =>
    simp -implicitDefEqProofs only [go_sem,seval]
    simp
  | false =>
    simp -implicitDefEqProofs only [go_sem,seval]
    refine ak (oI s [60,47]) ?_
    cases h2:hasB s [60,47] with
    | true =>
      simp -implicitDefEqProofs only [go_sem,seval]
      refine ak (qW s 2 hs (by omega)) ?_
      by_cases h3:0 < aC (s.drop 2)
      · have h3':((aC (s.drop 2):Int) > 0)=True:=eq_true (by omega)
        simp -implicitDefEqProofs only [h3',go_sem,seval]
        simp [h3]
      have h3':((aC (s.drop 2):Int) > 0)=False:=eq_false (by omega)
      simp -implicitDefEqProofs only [h3',go_sem,seval]
      refine ak (oI s [60]) ?_
      cases h5:hasB s [60] with
      | true =>
        simp -implicitDefEqProofs only [go_sem,seval]
        refine ak (qW s 1 hs (by omega)) ?_
        by_cases h4:0 < aC (s.drop 1)
        · have h4':((aC (s.drop 1):Int) > 0)=True:=eq_true (by omega)
          simp -implicitDefEqProofs only [h4',go_sem,seval]
          simp [h4,h3,-List.drop_one]
        · have h4':((aC (s.drop 1):Int) > 0)=False:=eq_false (by omega)
          simp -implicitDefEqProofs only [h4',go_sem,seval]
          simp [h4,h3,-List.drop_one]
      | false =>
        simp -implicitDefEqProofs only [go_sem,seval]
        simp [h3]
    | false =>
      simp -implicitDefEqProofs only [go_sem,seval]
      refine ak (oI s [60]) ?_
      cases h5:hasB s [60] with
      | true =>
        simp -implicitDefEqProofs only [go_sem,seval]
        refine ak (qW s 1 hs (by omega)) ?_
        by_cases h4:0 < aC (s.drop 1)
        · have h4':((aC (s.drop 1):Int) > 0)=True:=eq_true (by omega)
          simp -implicitDefEqProofs only [h4',go_sem,seval]
          simp [h4,-List.drop_one]
        · have h4':((aC (s.drop 1):Int) > 0)=False:=eq_false (by omega)
          simp -implicitDefEqProofs only [h4',go_sem,seval]
          simp [h4,-List.drop_one]
      | false =>
        simp -implicitDefEqProofs only [go_sem,seval]
        simp
theorem jH {s:St} {b e:Nat} {t:Str} {V:AV} (g:s.get b=some (.cells e [.str t,V] false)) (n:Nat) (hn:n ≤ 1000000000) (ht:t.length ≤ 1000000000) :
    aF Tryz.prog 56 [.ptr b e 0,.int .i64 n] s fun v s'=>v=.str (t.take n) ∧ s'=s.put b (.cells e [.str (t.drop n),V] false):=by
  obtain ⟨h,m⟩:=s
  refine bE mix (dx _) c56 (by kernel_rfl) (Nat.le_of_ble_eq_true (by kernel_rfl)) ?_
  have g':AX.look b h=some (.cells e [.str t,V] false):=g
  rcases Nat.lt_or_ge t.length n with hl | hl
  · have h1:((t.length:Int) < (n:Int))=True:=eq_true (by omega)
    have e1:t.take n=t:=List.take_of_length_le (by omega)
    have e2:t.drop n=[]:=List.drop_of_length_le (by omega)
    rw [e1,e2]
    simp -implicitDefEqProofs only [F56,g',h1,List.take_length,List.drop_length,Nat.le_refl,go_sem,seval]
  · have h1:((t.length:Int) < (n:Int))=False:=eq_false (by omega)
    have h2:(n ≤ t.length)=True:=eq_true hl
    simp -implicitDefEqProofs only [F56,g',h1,h2,go_sem,seval]
end W10
