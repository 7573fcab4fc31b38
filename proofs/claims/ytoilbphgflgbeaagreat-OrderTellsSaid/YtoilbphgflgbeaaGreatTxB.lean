/- What holds of a node: the program's, the document's. -/
import Derived.Test.YtoilbphgflgbeaaGreatTxA
set_option linter.unusedSimpArgs false
set_option linter.unusedVariables false
namespace W15
open Go Go.AX Go.AX.Ty Go.Proofs
mutual
def dM (p:bA) (st:List Ty.State) (n:Int):Simple → Bool
  | .mk kind name value a b l =>
    if kind=1 then true
    else if kind=2 then (match nodeAt p n with | some x=>decide (x.name=name) | none=>false)
    else if kind=3 then (dP p n [105,100]).2 && decide ((dP p n [105,100]).1=name)
    else if kind=4 then (oO p n).any fun x=>name == x
    else if kind=5 then (dP p n name).2
    else if kind=6 then (dP p n name).2 && decide ((dP p n name).1=value)
    else if kind=7 then st.any fun x=>n == x.node && name == x.name
    else if kind=8 then Cn a b (fQ p n)
    else if kind=9 then (match nodeAt p n with | some x=>decide (x.up=0) && decide (fQ p n=1) | none=>false)
    else if kind=10 then (match nodeAt p n with | some x=>decide (x.kids.length=0) | none=>false)
    else if kind=11 then !rF p st n l
    else false
def rF (p:bA) (st:List Ty.State) (n:Int):List Simple → Bool
  | []=>false
  | x :: r=>dM p st n x || rF p st n r
end
theorem og (p:bA) (st:List Ty.State) (n:Int):∀ l,rF p st n l=l.any (dM p st n)
  | []=>rfl
  | x :: r=>by rw [rF,og p st n r];rfl
theorem Af {x y:Simple} (h:y ∈ x.l):sizeOf y < sizeOf x:=by
  cases x
  simp only [Simple.l] at h
  have:=List.sizeOf_lt_of_mem h
  simp only [Simple.mk.sizeOf_spec];omega
theorem Qa (l:List Str) (v:Str):(l.any fun x=>x == v)=l.any fun x=>v == x:=by
  have:(fun x=>x == v)=fun x:Str=>v == x:=by funext x;rw [Bool.eq_iff_iff,beq_iff_eq,beq_iff_eq];exact ⟨Eq.symm,Eq.symm⟩
  rw [this]
theorem MO (s:Str):∀ acc:Str,(dI s acc).length ≤ s.length + 1:=by
  induction s with
  | nil=>intro acc;rw [dI];split <;> simp
  | cons c r ih =>
    intro acc
    rw [dI]
    split
    · split
      · have:=ih [];simp;omega
      · have:=ih [];simp;omega
    · have:=ih (acc ++ [c]);simp;omega
theorem uf {p:bA} (hp:gV p) (n:Int):(oO p n).length ≤ 140737488355328:=by
  have h1:=MO (dP p n qh).1 []
  have h2:=sP hp n qh
  unfold oO kG;omega
theorem qO {p:bA} (hp:gV p) (n:Int):0 ≤ fQ p n ∧ fQ p n ≤ 1001:=by
  have:=mW hp n
  unfold fQ
  rcases eT (fun x=>n == x) (d9 p n) with ⟨e,_⟩ | ⟨i,x,e,hi,_⟩ <;> omega
structure At (p:bA) (st:List Ty.State) (k:Nat) (x:Ty.Node):Prop where
  pg:gV p
  st:st.length ≤ 100000
  at':p[k]? = some x
  el:x.name ≠ []
  kin:∀ x y,nodeAt p k=some x → nodeAt p x.up=some y → y.kids ≠ []
theorem yU (g:Nat) (cs ds:List AV) (q:Simple → Bool) (hcs:ay cs=true) (hds:ay ds=true) (l:List Simple) (hp:∀ x ∈ l,aK Tryz.prog g [Enc.av x,.vp cs,.vp ds] (.bool (q x))) (hl:l.length ≤ 140737488355328) :
    aK Tryz.prog 174 [Enc.av l,.fn (.func g) [] [.vp cs,.vp ds]] (.int .i64 (idxOf q l)):=by
  refine aH mix c174 (by kernel_rfl) (by kernel_rfl) (by simp [ay,ak,Go.AX.flat,hcs,hds]) (by first | exact ak _ | simp [flat,ay,ak]) ?_
  simp -implicitDefEqProofs only [F174,go_sem,seval]
  refine aF (fun k:Nat=>l.length - k) (fun k=>[(0,Enc.av l),(1,.fn (.func g) [] [.vp cs,.vp ds]),(7,.int .i64 l.length),(8,.int .i64 k)]) (fun k s=>k ≤ l.length ∧ Pre q l k) 0 ?_ ?_
  · simp -implicitDefEqProofs only [go_sem,seval]
    exact Pre.zero _ _
  rintro k ρ ⟨hh,mm⟩ ⟨h1,h2⟩
  rcases Nat.lt_or_ge k l.length with hk | hk
  · obtain ⟨x,hx,hd,hm⟩:=aG hk
    have hlt:((k:Int) < (l.length:Int))=True:=eq_true (by omega)
    have w1:IntKind.i64.wrap ((k:Int) + 1)=((k + 1:Nat):Int):=by rw [wrap64 (by omega) (by omega)];omega
    simp -implicitDefEqProofs only [hlt,hx,w1,go_sem,seval]
    have hp':=hp x hm
    rw [Simple.fC] at hp'
    refine au hp' ?_
    simp -implicitDefEqProofs only [go_sem,seval]
    (refine bC (fun h hT=>?_) (fun h hT=>?_) <;> try simp -implicitDefEqProofs only [hT,w1,go_sem,seval] <;> try clear hT)
    · rw [iw hx h h2]
    · exact ⟨k + 1,by omega,rfl,by omega,h2.next hx (by simpa using h)⟩
  · have hlt:((k:Int) < (l.length:Int))=False:=eq_false (by omega)
    simp -implicitDefEqProofs only [hlt,go_sem,seval]
    rw [gX (h2.all hk)]
theorem zD (g:Nat) (cs ds:List AV) (q:Simple → Bool) (hcs:ay cs=true) (hds:ay ds=true) (l:List Simple) (hp:∀ x ∈ l,aK Tryz.prog g [Enc.av x,.vp cs,.vp ds] (.bool (q x))) (hl:l.length ≤ 140737488355328) :
    aK Tryz.prog 156 [Enc.av l,.fn (.func g) [] [.vp cs,.vp ds]] (.bool (l.any q)):=by
  refine aH mix c156 (by kernel_rfl) (by kernel_rfl) (by simp [ay,ak,Go.AX.flat,hcs,hds]) (by first | exact ak _ | simp [flat,ay,ak]) ?_
  simp -implicitDefEqProofs only [F156,go_sem,seval]
  refine au (yU g cs ds q hcs hds l hp hl) ?_
  simp -implicitDefEqProofs only [go_sem,seval]
  rw [oW]
theorem MH (p:bA) (st:List Ty.State) (n:Int) (x:Simple) (h:aK Tryz.prog 158 [.agg [Enc.av p,Enc.av st],Enc.av n,Enc.av x] (.bool (dM p st n x))) :
    aK Tryz.prog 180 [Enc.av x,.vp [Enc.av p,Enc.av st],.vp [Enc.av n]] (.bool (dM p st n x)):=by
  refine aH mix c180 (by kernel_rfl) (by kernel_rfl) (by simp [ay,ak,Go.AX.flat]) (by first | exact ak _ | simp [flat,ay,ak]) ?_
  rw [Simple.fC] at h
  simp -implicitDefEqProofs only [F180,go_sem,seval]
  repeat' first
    | (refine aJ h ?_;simp -implicitDefEqProofs only [go_sem,seval])
    | (refine au h ?_;simp -implicitDefEqProofs only [go_sem,seval])
    | (refine aA (by (first | omega | (simp [aB,aD,aC,Nat.testBit_eq_decide_div_mod_eq];done) | (simp [aB,aD,aC,Nat.testBit_eq_decide_div_mod_eq];omega) | kernel_rfl)) ?_;simp -implicitDefEqProofs only [go_sem,seval])
theorem QH {p:bA} {st:List Ty.State} {k:Nat} {nd:Ty.Node} (ha:At p st k nd):∀ (N:Nat) (x:Simple),sizeOf x ≤ N → Enc.ok x →
    aK Tryz.prog 158 [.agg [Enc.av p,Enc.av st],Enc.av (k:Int),Enc.av x] (.bool (dM p st k x)):=by
  intro N
  induction N with
  | zero=>intro x hx;cases x;simp only [Simple.mk.sizeOf_spec] at hx;omega
  | succ N ih=>
  intro x hN hok
  have hsub:∀ y ∈ x.l,aK Tryz.prog 180 [Enc.av y,.vp [Enc.av p,Enc.av st],.vp [Enc.av (k:Int)]] (.bool (dM p st k y)):=fun y hy=>
    MH p st k y (ih y (by have:=Af hy;omega) (((Simple.bH x).1 hok).2.2.2.2.2.2 y hy))
  have hxok:=(Simple.bH x).1 hok
  have hx:=ha.at'
  have hnode:nodeAt p (k:Int)=some nd:=by rw [dQ];exact hx
  have hpl:=qO ha.pg k
  obtain ⟨kind,name,value,a,b,l⟩:=x
  refine aH mix c158 (by kernel_rfl) (by kernel_rfl) (by simp [ay,ak,Go.AX.flat]) (by first | exact ak _ | simp [flat,ay,ak]) ?_
  simp only [Simple.kind,Simple.name,Simple.value,Simple.a,Simple.b,Simple.l] at hxok hsub
  simp only [Simple.fC,Simple.kind,Simple.name,Simple.value,Simple.a,Simple.b,Simple.l]
  rw [dM]
  by_cases g1:kind=1
  · have f1:(kind=1)=True:=eq_true g1
    rw [if_pos g1]
    simp -implicitDefEqProofs only [F158,f1,go_sem,seval]
  rw [if_neg g1]
  have f1:(kind=1)=False:=eq_false g1
  by_cases g2:kind=2
  · have f2:(kind=2)=True:=eq_true g2
    rw [if_pos g2]
    simp -implicitDefEqProofs only [F158,f1,f2,go_sem,seval]
    simp -implicitDefEqProofs only [hx,go_sem,seval]
    refine aA (by kernel_rfl) ?_
    simp -implicitDefEqProofs only [hx,go_sem,seval]
    rw [hnode]
    simp [Bool.beq_eq_decide_eq]
  rw [if_neg g2]
  have f2:(kind=2)=False:=eq_false g2
  by_cases g3:kind=3
  · have f3:(kind=3)=True:=eq_true g3
    rw [if_pos g3]
    simp -implicitDefEqProofs only [F158,f1,f2,f3,go_sem,seval]
    refine au (Ib p st ha.pg.ok k [105,100] [name] (by simp)) ?_
    simp -implicitDefEqProofs only [go_sem,seval]
    simp [Bool.beq_eq_decide_eq]
  rw [if_neg g3]
  have f3:(kind=3)=False:=eq_false g3
  by_cases g4:kind=4
  · have f4:(kind=4)=True:=eq_true g4
    rw [if_pos g4]
    simp -implicitDefEqProofs only [F158,f1,f2,f3,f4,go_sem,seval]
    refine aJ (Lc p ha.pg k) ?_
    simp -implicitDefEqProofs only [go_sem,seval]
    refine aJ (kY _ name (uf ha.pg k)) ?_
    simp -implicitDefEqProofs only [go_sem,seval]
    refine aA (by kernel_rfl) ?_
    simp -implicitDefEqProofs only [go_sem,seval]
  rw [if_neg g4]
  have f4:(kind=4)=False:=eq_false g4
  by_cases g5:kind=5
  · have f5:(kind=5)=True:=eq_true g5
    rw [if_pos g5]
    simp -implicitDefEqProofs only [F158,f1,f2,f3,f4,f5,go_sem,seval]
    refine au (Ib p st ha.pg.ok k name [] (by simp)) ?_
    simp -implicitDefEqProofs only [go_sem,seval]
    simp [Bool.beq_eq_decide_eq]
  rw [if_neg g5]
  have f5:(kind=5)=False:=eq_false g5
  by_cases g6:kind=6
  · have f6:(kind=6)=True:=eq_true g6
    rw [if_pos g6]
    simp -implicitDefEqProofs only [F158,f1,f2,f3,f4,f5,f6,go_sem,seval]
    refine au (Ib p st ha.pg.ok k name [value] (by simp)) ?_
    simp -implicitDefEqProofs only [go_sem,seval]
    simp [Bool.beq_eq_decide_eq]
  rw [if_neg g6]
  have f6:(kind=6)=False:=eq_false g6
  by_cases g7:kind=7
  · have f7:(kind=7)=True:=eq_true g7
    rw [if_pos g7]
    simp -implicitDefEqProofs only [F158,f1,f2,f3,f4,f5,f6,f7,go_sem,seval]
    refine au (tL st ⟨k,name⟩ (by have:=ha.st;omega)) ?_
    simp -implicitDefEqProofs only [go_sem,seval]
  rw [if_neg g7]
  have f7:(kind=7)=False:=eq_false g7
  by_cases g8:kind=8
  · have f8:(kind=8)=True:=eq_true g8
    rw [if_pos g8]
    simp -implicitDefEqProofs only [F158,f1,f2,f3,f4,f5,f6,f7,f8,go_sem,seval]
    refine aJ (IG p st ha.pg k ha.kin) ?_
    simp -implicitDefEqProofs only [go_sem,seval]
    refine aJ (UN a b (fQ p k)) ?_
    simp -implicitDefEqProofs only [go_sem,seval]
    refine aA (by kernel_rfl) ?_
    simp -implicitDefEqProofs only [go_sem,seval]
  rw [if_neg g8]
  have f8:(kind=8)=False:=eq_false g8
  by_cases g9:kind=9
  · have f9:(kind=9)=True:=eq_true g9
    rw [if_pos g9]
    simp -implicitDefEqProofs only [F158,f1,f2,f3,f4,f5,f6,f7,f8,f9,go_sem,seval]
    rw [hnode]
    by_cases u0:nd.up=0
    · simp -implicitDefEqProofs only [hx,u0,go_sem,seval]
      refine au (IG p st ha.pg k ha.kin) ?_
      simp -implicitDefEqProofs only [go_sem,seval]
      simp [Bool.beq_eq_decide_eq,u0]
    · simp -implicitDefEqProofs only [hx,u0,go_sem,seval]
      simp [u0]
  rw [if_neg g9]
  have f9:(kind=9)=False:=eq_false g9
  by_cases g10:kind=10
  · have f10:(kind=10)=True:=eq_true g10
    rw [if_pos g10]
    simp -implicitDefEqProofs only [F158,f1,f2,f3,f4,f5,f6,f7,f8,f9,f10,go_sem,seval]
    rw [hnode]
    simp -implicitDefEqProofs only [hx,go_sem,seval]
    congr 1;rw [Bool.eq_iff_iff,beq_iff_eq,decide_eq_true_eq];omega
  rw [if_neg g10]
  have f10:(kind=10)=False:=eq_false g10
  by_cases g11:kind=11
  · have f11:(kind=11)=True:=eq_true g11
    rw [if_pos g11]
    simp -implicitDefEqProofs only [F158,f1,f2,f3,f4,f5,f6,f7,f8,f9,f10,f11,go_sem,seval]
    refine vG (zD 180 [Enc.av p,Enc.av st] [Enc.av (k:Int)] (dM p st k) (by simp [ay,ak]) (by simp [ay,ak]) l hsub hxok.2.2.2.2.2.1) ?_
    simp -implicitDefEqProofs only [go_sem,seval]
    rw [og]
  rw [if_neg g11]
  have f11:(kind=11)=False:=eq_false g11
  simp -implicitDefEqProofs only [F158,f1,f2,f3,f4,f5,f6,f7,f8,f9,f10,f11,go_sem,seval]
end W15
/- What holds of a node: the document's. -/
namespace W15
open Go Go.AX Go.AX.Ty Go.Proofs
theorem NV {p:bA} {st:List Ty.State} {k:Nat} {nd:Ty.Node} (ha:At p st k nd):∀ (N:Nat) (x:Simple),sizeOf x ≤ N → Enc.ok x →
    aK Tryz.prog 139 [Enc.av p,Enc.av st,Enc.av (k:Int),Enc.av x] (.bool (dM p st k x)):=by
  intro N
  induction N with
  | zero=>intro x hx;cases x;simp only [Simple.mk.sizeOf_spec] at hx;omega
  | succ N ih=>
  intro x hN hok
  have hsub:∀ y ∈ x.l,aK Tryz.prog 139 [Enc.av p,Enc.av st,Enc.av (k:Int),Enc.av y] (.bool (dM p st k y)):=fun y hy=>
    ih y (by have:=Af hy;omega) (((Simple.bH x).1 hok).2.2.2.2.2.2 y hy)
  have hxok:=(Simple.bH x).1 hok
  have hx:=ha.at'
  have hnode:nodeAt p (k:Int)=some nd:=by rw [dQ];exact hx
  have hpl:=qO ha.pg k
  obtain ⟨kind,name,value,a,b,l⟩:=x
  refine aH mix c139 (by kernel_rfl) (by kernel_rfl) (by simp [ay,ak,Go.AX.flat]) (by first | exact ak _ | simp [flat,ay,ak]) ?_
  simp only [Simple.kind,Simple.name,Simple.value,Simple.a,Simple.b,Simple.l] at hxok hsub
  simp only [Simple.fC,Simple.kind,Simple.name,Simple.value,Simple.a,Simple.b,Simple.l]
  rw [dM]
  by_cases g1:kind=1
  · have f1:(kind=1)=True:=eq_true g1
    rw [if_pos g1]
    simp -implicitDefEqProofs only [F139,f1,go_sem,seval]
  rw [if_neg g1]
  have f1:(kind=1)=False:=eq_false g1
  by_cases g2:kind=2
  · have f2:(kind=2)=True:=eq_true g2
    rw [if_pos g2]
    simp -implicitDefEqProofs only [F139,f1,f2,go_sem,seval]
    simp -implicitDefEqProofs only [hx,go_sem,seval]
    refine aA (by kernel_rfl) ?_
    simp -implicitDefEqProofs only [hx,go_sem,seval]
    rw [hnode]
    simp [Bool.beq_eq_decide_eq]
  rw [if_neg g2]
  have f2:(kind=2)=False:=eq_false g2
  by_cases g3:kind=3
  · have f3:(kind=3)=True:=eq_true g3
    rw [if_pos g3]
    simp -implicitDefEqProofs only [F139,f1,f2,f3,go_sem,seval]
    refine au (vD p ha.pg.ok k [105,100]) ?_
    simp -implicitDefEqProofs only [go_sem,seval]
    generalize dP p k [105,100]=r
    obtain ⟨r1,r2⟩:=r
    cases r2
    · simp -implicitDefEqProofs only [go_sem,seval]
      try simp
    · simp -implicitDefEqProofs only [go_sem,seval]
      try simp [Bool.beq_eq_decide_eq]
  rw [if_neg g3]
  have f3:(kind=3)=False:=eq_false g3
  by_cases g4:kind=4
  · have f4:(kind=4)=True:=eq_true g4
    rw [if_pos g4]
    simp -implicitDefEqProofs only [F139,f1,f2,f3,f4,go_sem,seval]
    refine aJ (Ho p ha.pg k) ?_
    simp -implicitDefEqProofs only [go_sem,seval]
    refine aJ (UG name _ (uf ha.pg k)) ?_
    simp -implicitDefEqProofs only [go_sem,seval]
    refine aA (by kernel_rfl) ?_
    simp -implicitDefEqProofs only [go_sem,seval]
    rw [Qa]
  rw [if_neg g4]
  have f4:(kind=4)=False:=eq_false g4
  by_cases g5:kind=5
  · have f5:(kind=5)=True:=eq_true g5
    rw [if_pos g5]
    simp -implicitDefEqProofs only [F139,f1,f2,f3,f4,f5,go_sem,seval]
    refine au (vD p ha.pg.ok k name) ?_
    simp -implicitDefEqProofs only [go_sem,seval]
  rw [if_neg g5]
  have f5:(kind=5)=False:=eq_false g5
  by_cases g6:kind=6
  · have f6:(kind=6)=True:=eq_true g6
    rw [if_pos g6]
    simp -implicitDefEqProofs only [F139,f1,f2,f3,f4,f5,f6,go_sem,seval]
    refine au (vD p ha.pg.ok k name) ?_
    simp -implicitDefEqProofs only [go_sem,seval]
    generalize dP p k name=r
    obtain ⟨r1,r2⟩:=r
    cases r2
    · simp -implicitDefEqProofs only [go_sem,seval]
      try simp
    · simp -implicitDefEqProofs only [go_sem,seval]
      try simp [Bool.beq_eq_decide_eq]
  rw [if_neg g6]
  have f6:(kind=6)=False:=eq_false g6
  by_cases g7:kind=7
  · have f7:(kind=7)=True:=eq_true g7
    rw [if_pos g7]
    simp -implicitDefEqProofs only [F139,f1,f2,f3,f4,f5,f6,f7,go_sem,seval]
    refine au (Rv k name st (by have:=ha.st;omega)) ?_
    simp -implicitDefEqProofs only [go_sem,seval]
    congr 2
    funext y
    rw [Bool.eq_iff_iff];simp only [Bool.and_eq_true,beq_iff_eq]
    exact ⟨fun ⟨u,v⟩=>⟨u.symm,v.symm⟩,fun ⟨u,v⟩=>⟨u.symm,v.symm⟩⟩
  rw [if_neg g7]
  have f7:(kind=7)=False:=eq_false g7
  by_cases g8:kind=8
  · have f8:(kind=8)=True:=eq_true g8
    rw [if_pos g8]
    simp -implicitDefEqProofs only [F139,f1,f2,f3,f4,f5,f6,f7,f8,go_sem,seval]
    refine aJ (l7 p ha.pg k) ?_
    simp -implicitDefEqProofs only [go_sem,seval]
    refine aJ (TM a b (fQ p k) hxok.2.2.2.1 hxok.2.2.2.2.1 (by omega)) ?_
    simp -implicitDefEqProofs only [go_sem,seval]
    refine aA (by kernel_rfl) ?_
    simp -implicitDefEqProofs only [go_sem,seval]
  rw [if_neg g8]
  have f8:(kind=8)=False:=eq_false g8
  by_cases g9:kind=9
  · have f9:(kind=9)=True:=eq_true g9
    rw [if_pos g9]
    simp -implicitDefEqProofs only [F139,f1,f2,f3,f4,f5,f6,f7,f8,f9,go_sem,seval]
    rw [hnode]
    by_cases u0:nd.up=0
    · simp -implicitDefEqProofs only [hx,u0,go_sem,seval]
      refine au (l7 p ha.pg k) ?_
      simp -implicitDefEqProofs only [go_sem,seval]
      simp [Bool.beq_eq_decide_eq,u0]
    · simp -implicitDefEqProofs only [hx,u0,go_sem,seval]
      simp [u0]
  rw [if_neg g9]
  have f9:(kind=9)=False:=eq_false g9
  by_cases g10:kind=10
  · have f10:(kind=10)=True:=eq_true g10
    rw [if_pos g10]
    simp -implicitDefEqProofs only [F139,f1,f2,f3,f4,f5,f6,f7,f8,f9,f10,go_sem,seval]
    rw [hnode]
    simp -implicitDefEqProofs only [hx,go_sem,seval]
    congr 1;rw [Bool.eq_iff_iff,beq_iff_eq,decide_eq_true_eq];omega
  rw [if_neg g10]
  have f10:(kind=10)=False:=eq_false g10
  by_cases g11:kind=11
  · have f11:(kind=11)=True:=eq_true g11
    rw [if_pos g11]
    simp -implicitDefEqProofs only [F139,f1,f2,f3,f4,f5,f6,f7,f8,f9,f10,f11,go_sem,seval]
    rw [og]
    have hl:=hxok.2.2.2.2.2.1
    refine aF (fun i:Nat=>l.length - i) (fun i=>[(0,Enc.av p),(1,Enc.av st),(2,Enc.av (k:Int)),(7,.ptr 0 0 0),(15,.int .i64 i)])
      (fun i s=>i ≤ l.length ∧ 1 ≤ s.next ∧ AX.look 0 s.heap=some (.cells 0 [.int .i64 11,.str name,.str value,.int .i64 a,.int .i64 b,.ps l.length (aj l)] false) ∧ Pre (dM p st k) l i) 0 ?_ ?_
    · rw [g11]
      simp -implicitDefEqProofs only [go_sem,seval]
      exact Pre.zero _ _
    rintro i ρ ⟨g,m⟩ ⟨h1,h2,h3,h4⟩
    dsimp only at h2 h3
    have i0:(0 < m)=True:=eq_true (by omega)
    rcases Nat.lt_or_ge i l.length with hi | hi
    · obtain ⟨y,hy,hd,hm⟩:=aG hi
      have hlt:((i:Int) < (l.length:Int))=True:=eq_true (by omega)
      have w1:IntKind.i64.wrap ((i:Int) + 1)=((i + 1:Nat):Int):=by rw [wrap64 (by omega) (by omega)];omega
      have hy2:=hsub y hm
      rw [Simple.fC] at hy2
      simp -implicitDefEqProofs only [hlt,hy,h3,i0,go_sem,seval]
      refine au hy2 ?_
      simp -implicitDefEqProofs only [h3,i0,go_sem,seval]
      (refine bC (fun h hT=>?_) (fun h hT=>?_) <;> try simp -implicitDefEqProofs only [hT,w1,h3,i0,go_sem,seval] <;> try clear hT)
      · rw [iY hm h];rfl
      · refine ⟨i + 1,by omega,?_⟩
        exact ⟨rfl,by omega,h2,h4.next hy (by simpa using h)⟩
    · have hlt:((i:Int) < (l.length:Int))=False:=eq_false (by omega)
      simp -implicitDefEqProofs only [hlt,h3,go_sem,seval]
      rw [oN (h4.all hi)];rfl
  rw [if_neg g11]
  have f11:(kind=11)=False:=eq_false g11
  simp -implicitDefEqProofs only [F139,f1,f2,f3,f4,f5,f6,f7,f8,f9,f10,f11,go_sem,seval]
end W15
/- Trees; who stands how. -/
namespace W15
open Go Go.AX Go.AX.Ty Go.Proofs
def JY (p:bA) (k:Nat):Int:=match p[k]? with
  | some x=>x.up
  | none=>-1
def bD (p:bA) (m:Nat) (n:Nat):List Int:=((List.range m).filter fun k=>decide (1 ≤ k) && (JY p k == (n:Int))).map fun k:Nat=>(k:Int)
structure eO (p:bA):Prop where
  ne:p ≠ []
  root:∀ x,p[0]? = some x → x.up = -1 ∧ x.name=[] ∧ x.text=[] ∧ x.attrs=[]
  up:∀ (k:Nat) x,1 ≤ k → p[k]? = some x → 0 ≤ x.up ∧ x.up < (k:Int)
  kids:∀ (n:Nat) x,p[n]? = some x → x.kids=bD p p.length n
theorem ql {p:bA} {m n:Nat} {a:Int}:a ∈ bD p m n ↔ ∃ k:Nat,a=k ∧ k < m ∧ 1 ≤ k ∧ JY p k=n:=by
  simp only [bD,List.mem_map,List.mem_filter,List.mem_range,Bool.and_eq_true,decide_eq_true_eq,beq_iff_eq]
  exact ⟨fun ⟨k,⟨h1,h2,h3⟩,h4⟩=>⟨k,h4.symm,h1,h2,h3⟩,fun ⟨k,h4,h1,h2,h3⟩=>⟨k,⟨h1,h2,h3⟩,h4.symm⟩⟩
theorem vg {p:bA} {k:Nat} {x:Ty.Node} (h:p[k]? = some x):JY p k=x.up:=by simp [JY,h]
theorem dB {α:Type} {l:List α} {k:Nat} {x:α} (h:l[k]? = some x):k < l.length:=by
  rcases Nat.lt_or_ge k l.length with h' | h'
  · exact h'
  · rw [List.getElem?_eq_none h'] at h;simp at h
theorem eO.parent {p:bA} (t:eO p) {k:Nat} {x:Ty.Node} (hx:p[k]? = some x) (hn:x.name ≠ []):1 ≤ k ∧ ∃ (u:Nat) (y:Ty.Node),x.up=u ∧ u < k ∧ p[u]? = some y ∧ (k:Int) ∈ y.kids:=by
  have hk:1 ≤ k:=by
    rcases Nat.lt_or_ge k 1 with h | h
    · exfalso
      have:k=0:=by omega
      subst this
      exact hn (t.root x hx).2.1
    · exact h
  obtain ⟨h1,h2⟩:=t.up k x hk hx
  have hlt:=dB hx
  refine ⟨hk,x.up.toNat,p[x.up.toNat]'(by omega),by omega,by omega,by simp,?_⟩
  rw [t.kids x.up.toNat _ (List.getElem?_eq_getElem (by omega))]
  exact ql.2 ⟨k,rfl,hlt,hk,by rw [vg hx];omega⟩
theorem eO.at {p:bA} {st:List Ty.State} (t:eO p) (hp:gV p) (hs:st.length ≤ 100000) {k:Nat} {x:Ty.Node} (hx:p[k]? = some x) (hn:x.name ≠ []):At p st k x:=by
  refine ⟨hp,hs,hx,hn,fun a b h1 h2=>?_⟩
  rw [dQ,hx] at h1
  simp only [Option.some.injEq] at h1
  subst h1
  obtain ⟨hk,u,y,e,hu,hy,hm⟩:=t.parent hx hn
  rw [e,dQ,hy] at h2
  simp only [Option.some.injEq] at h2
  subst h2
  intro h0;rw [h0] at hm;simp at hm
theorem eO.kin {p:bA} (t:eO p) {k:Nat} {x:Ty.Node} (hx:p[k]? = some x) (hn:x.name ≠ []):(k:Int) ∈ d9 p k:=by
  obtain ⟨hk,u,y,e,hu,hy,hm⟩:=t.parent hx hn
  have h1:nodeAt p (k:Int)=some x:=by rw [dQ];exact hx
  have h2:nodeAt p x.up=some y:=by rw [e,dQ];exact hy
  simp only [d9,h1,h2,if_neg hn,List.mem_filter]
  exact ⟨hm,by simp [bE,h1,hn]⟩
def sK (p:bA):Nat → Int → List Int
  | 0,_=>[]
  | f + 1, n => match nodeAt p n with
    | some x=>if x.up > 0 then x.up :: sK p f x.up else []
    | none=>[]
def gq (p:bA) (n:Int):List Int:=sK p (n.toNat + 1) n
theorem uj {p:bA} (t:eO p):∀ (f g:Nat) (k:Nat),k < f → k < g → sK p f k=sK p g k
  | 0,_,_,h,_=>by omega
  | _ + 1,0,_,_,h=>by omega
  | f + 1, g + 1, k, h1, h2 => by
    simp only [sK,dQ]
    cases hx:p[k]? with
    | none=>rfl
    | some x =>
      simp only
      by_cases h0:x.up > 0
      · rw [if_pos h0,if_pos h0]
        have hk:1 ≤ k:=by
          rcases Nat.lt_or_ge k 1 with h | h
          · have:k=0:=by omega
            subst this
            have:=(t.root x hx).1;omega
          · exact h
        have:=t.up k x hk hx
        obtain ⟨u,hu⟩:=Int.eq_ofNat_of_zero_le this.1
        rw [hu]
        rw [uj t f g u (by omega) (by omega)]
      · rw [if_neg h0,if_neg h0]
theorem iB {p:bA} (t:eO p) {k:Nat} {x:Ty.Node} (hx:p[k]? = some x):gq p k=if x.up > 0 then x.up :: gq p x.up else []:=by
  unfold gq
  rw [sK,dQ,hx]
  simp only [Int.toNat_natCast]
  by_cases h0:x.up > 0
  · rw [if_pos h0,if_pos h0]
    have hk:1 ≤ k:=by
      rcases Nat.lt_or_ge k 1 with h | h
      · have:k=0:=by omega
        subst this
        have:=(t.root x hx).1;omega
      · exact h
    have:=t.up k x hk hx
    obtain ⟨u,hu⟩:=Int.eq_ofNat_of_zero_le this.1
    rw [hu,Int.toNat_natCast,uj t k (u + 1) u (by omega) (by omega)]
  · rw [if_neg h0,if_neg h0]
def Own (h:List (Nat × AX.Obj)) (m:Nat) (v:AV) (l:List Int):Prop:=(l=[] ∧ v=.nils) ∨ ∃ b,v=.sl b l.length 0 l.length 1 ∧ b < m ∧ b ≠ 0 ∧ AX.look b h=some (.cells l.length (aj l) false)
theorem IZ (p:bA) (st:List Ty.State) (hp:gV p) (t:eO p) {k:Nat} {x:Ty.Node} (hx:p[k]? = some x) :
    aK Tryz.prog 182 [.agg [Enc.av p,Enc.av st],Enc.av (k:Int)] (Enc.av (gq p k)):=by
  refine aH mix c182 (by kernel_rfl) (by kernel_rfl) (by simp [ay,ak,Go.AX.flat]) (by first | exact ak _ | simp [flat,ay,ak]) ?_
  simp -implicitDefEqProofs only [F182,hx,go_sem,seval]
  rw [iB t hx]
  have hxk:1 ≤ k ∨ x.up = -1:=by
    rcases Nat.lt_or_ge k 1 with h | h
    · have:k=0:=by omega
      subst this
      exact .inr (t.root x hx).1
    · exact .inl h
  have hlt:=dB hx
  refine aF (fun q:List Int × AV × Int=>(q.2.2 + 1).toNat) (fun q=>[(1,.int .i64 q.2.2),(2,.ptr 0 0 0),(5,q.2.1)])
    (fun q s=>1 ≤ s.next ∧ AX.look 0 s.heap=some (.cells 0 [Enc.av p,Enc.av st] false) ∧ Own s.heap s.next q.2.1 q.1 ∧ -1 ≤ q.2.2 ∧ q.2.2 < p.length ∧ q.1.length + q.2.2 ≤ 1000 ∧
      q.1 ++ (if q.2.2 > 0 then q.2.2 :: gq p q.2.2 else [])=(if x.up > 0 then x.up :: gq p x.up else [])) ([],.nils,x.up) ?_ ?_
  · simp -implicitDefEqProofs only [go_sem,seval]
    have hpl:=hp.len
    refine ⟨.inl ⟨rfl,rfl⟩,?_⟩
    rcases hxk with h | h
    · have:=t.up k x h hx
      simp;omega
    · rw [h];simp;omega
  rintro ⟨out,v,c⟩ ρ ⟨g,m⟩ ⟨h1,h2,h3,h4,h5,h6,h7⟩
  dsimp only at h1 h2 h3 h4 h5 h6 h7
  by_cases hc:c > 0
  · obtain ⟨j,rfl⟩:=Int.eq_ofNat_of_zero_le (show 0 ≤ c by omega)
    have hcT:((j:Int) > 0)=True:=eq_true hc
    obtain ⟨y,hy⟩:∃ y,p[j]? = some y:=⟨p[j]'(by omega),by simp⟩
    have hyup:=t.up j y (by omega) hy
    have m0:(m=0)=False:=eq_false (by omega)
    have m1:(m + 1=0)=False:=eq_false (by omega)
    have m2:(m + 1=m)=False:=eq_false (by omega)
    have i0:(0 < m)=True:=eq_true (by omega)
    rw [if_pos hc,iB t hy] at h7
    have hsn:aj (out ++ [(j:Int)])=aj out ++ [.int .i64 j]:=by rw [aW];rfl
    have hl2:(out ++ [(j:Int)]).length=out.length + 1:=by simp
    rcases h3 with ⟨rfl,rfl⟩ | ⟨b,rfl,hb1,hb2,hb3⟩
    · simp -implicitDefEqProofs only [hcT,hy,h2,m0,m1,m2,i0,go_sem,seval]
      refine ⟨([(j:Int)],.sl (m + 1) 1 0 1 1,y.up),by simp only;omega,?_⟩
      simp only [true_and]
      simp only [List.length_nil] at h6
      refine ⟨.inr ⟨m + 1,rfl,by omega,by omega,?_⟩,by omega,by omega,by simp;omega,h7⟩
      simp [AX.look,aj,Enc.cells]
    · have mb:(m=b)=False:=eq_false (by omega)
      have b0:(b=0)=False:=eq_false hb2
      have hc1:(aj out).length=out.length:=by rw [aT];simp [Enc.sz]
      have ht:List.take out.length (aj out)=aj out:=List.take_of_length_le (by omega)
      have hbd:((out.length + 1) * 8 ≤ 140737488355328)=True:=eq_true (by omega)
      simp -implicitDefEqProofs only [hcT,hy,h2,hb3,m0,m1,m2,i0,mb,b0,hc1,ht,hbd,go_sem,seval]
      refine ⟨(out ++ [(j:Int)],.sl b (out.length + 1) 0 (out.length + 1) 1,y.up),by simp only;omega,?_⟩
      simp only [true_and]
      refine ⟨.inr ⟨b,by rw [hl2],by omega,hb2,?_⟩,by omega,by omega,by rw [hl2];omega,?_⟩
      · rw [hl2,hsn]
        simp [AX.look,aS,mb,hb3]
      · rw [List.append_assoc];exact h7
  · have hcT:(c > 0)=False:=eq_false hc
    simp -implicitDefEqProofs only [hcT,go_sem,seval]
    rw [if_neg hc,List.append_nil] at h7
    rw [← h7]
    rcases h3 with ⟨rfl,rfl⟩ | ⟨b,rfl,hb1,hb2,hb3⟩
    · simp [cB,view,aj]
    · have hc1:(aj out).length=out.length:=by rw [aT];simp [Enc.sz]
      rw [jv _ hb3 (by omega),Nat.mul_one,List.take_of_length_le (by omega)]
end W15
/- Who stands how. -/
namespace W15
open Go Go.AX Go.AX.Ty Go.Proofs
theorem ig (l:List Int):(aj l).length=l.length:=by rw [aT];simp [Enc.sz]
theorem AB (l:List Int) (k:Nat):List.take k (aj l)=aj (l.take k):=by have:=iH l k;simpa [Enc.sz] using this
theorem J4 (l:List Int) (k:Nat):List.drop k (aj l)=aj (l.drop k):=by have:=fq l k;simpa [Enc.sz] using this
def jq (p:bA) (n:Int):List Int:=(d9 p n).take (idxOf (fun x=>n == x) (d9 p n)).toNat
theorem IC (p:bA) (st:List Ty.State) (hp:gV p) (t:eO p) {k:Nat} {x:Ty.Node} (ha:At p st k x) :
    aK Tryz.prog 183 [.agg [Enc.av p,Enc.av st],Enc.av (k:Int)] (Enc.av (jq p k)):=by
  refine aH mix c183 (by kernel_rfl) (by kernel_rfl) (by simp [ay,ak,Go.AX.flat]) (by first | exact ak _ | simp [flat,ay,ak]) ?_
  simp -implicitDefEqProofs only [F183,go_sem,seval]
  refine au (RP p hp k ha.kin) ?_
  simp -implicitDefEqProofs only [go_sem,seval]
  refine au (ou (k:Int) _ (by have:=mW hp k;omega)) ?_
  have hm:=t.kin ha.at' ha.el
  unfold jq
  generalize d9 p k=l at hm
  rcases eT (fun x=>(k:Int) == x) l with ⟨e,hno⟩ | ⟨i,y,e,hi,_⟩
  · have:=hno _ hm;simp at this
  rw [e]
  have h1:(i ≤ l.length)=True:=eq_true (by omega)
  simp -implicitDefEqProofs only [h1,Nat.zero_mul,Nat.sub_zero,Nat.mul_one,AB,ig,go_sem,seval]
  rw [List.length_take,Nat.min_eq_left (by omega)]
def dw (p:bA) (n:Int) (c:Int):List Int:=
  if c=1 then gq p n else if c=2 then (gq p n).take 1 else if c=3 then (jq p n).drop ((jq p n).length - 1) else if c=4 then jq p n else []
theorem zP {p:bA} (t:eO p):∀ (k:Nat),k < p.length → (gq p k).length ≤ k:=fun k=>by
  induction k using Nat.strongRecOn with
  | ind k ih=>
  intro hk
  rw [iB t (List.getElem?_eq_getElem hk)]
  split
  · rename_i h
    have hk1:1 ≤ k:=by
      rcases Nat.lt_or_ge k 1 with h' | h'
      · have:k=0:=by omega
        subst this
        have:=(t.root _ (List.getElem?_eq_getElem hk)).1;omega
      · exact h'
    have h2:=t.up k _ hk1 (List.getElem?_eq_getElem hk)
    obtain ⟨u,hu⟩:=Int.eq_ofNat_of_zero_le h2.1
    rw [hu]
    have:=ih u (by omega) (by omega)
    simp only [List.length_cons];omega
  · simp
theorem KZ (p:bA) (st:List Ty.State) (hp:gV p) (t:eO p) {k:Nat} {x:Ty.Node} (ha:At p st k x) (c:Int) :
    aK Tryz.prog 160 [.agg [Enc.av p,Enc.av st],Enc.av (k:Int),Enc.av c] (Enc.av (dw p k c)):=by
  refine aH mix c160 (by kernel_rfl) (by kernel_rfl) (by simp [ay,ak,Go.AX.flat]) (by first | exact ak _ | simp [flat,ay,ak]) ?_
  unfold dw
  have hk:=dB ha.at'
  have hal:(gq p k).length ≤ 1000:=by have:=zP t k hk;have:=hp.len;omega
  have hhl:(jq p k).length ≤ 1000:=by
    unfold jq
    have:=mW hp k
    rw [List.length_take];omega
  by_cases c1:c=1
  · have f1:(c=1)=True:=eq_true c1
    rw [if_pos c1]
    simp -implicitDefEqProofs only [F160,f1,go_sem,seval]
    refine au (IZ p st hp t ha.at') ?_
    simp -implicitDefEqProofs only [go_sem,seval]
  have f1:(c=1)=False:=eq_false c1
  rw [if_neg c1]
  by_cases c2:c=2
  · have f2:(c=2)=True:=eq_true c2
    rw [if_pos c2]
    simp -implicitDefEqProofs only [F160,f1,f2,go_sem,seval]
    refine au (IZ p st hp t ha.at') ?_
    generalize gq p k=l at hal
    cases l with
    | nil=>simp -implicitDefEqProofs only [ig,aj,go_sem,seval]
    | cons a r =>
      have e1:(((r.length + 1:Nat):Int) < 1)=False:=eq_false (by omega)
      have e2:(1 ≤ r.length + 1)=True:=eq_true (by omega)
      have e3:aj (List.take 1 (a :: r))=[.int .i64 a]:=rfl
      simp -implicitDefEqProofs only [e1,e2,ig,AB,e3,Nat.zero_mul,Nat.sub_zero,Nat.mul_one,go_sem,seval]
  have f2:(c=2)=False:=eq_false c2
  rw [if_neg c2]
  by_cases c3:c=3
  · have f3:(c=3)=True:=eq_true c3
    rw [if_pos c3]
    simp -implicitDefEqProofs only [F160,f1,f2,f3,go_sem,seval]
    refine au (IC p st hp t ha) ?_
    generalize jq p k=l at hhl
    cases l with
    | nil =>
      have e0:IntKind.i64.wrap (0 - 1) = -1:=rfl
      simp -implicitDefEqProofs only [ig,aj,e0,go_sem,seval]
    | cons a r =>
      have e0:IntKind.i64.wrap (((r.length + 1:Nat):Int) - 1)=(r.length:Int):=by rw [wrap64 (by omega) (by simp at hhl;omega)];omega
      have e1:(if ((r.length:Nat):Int) > 0 then ((r.length:Nat):Int) else 0)=(r.length:Int):=by split <;> omega
      have e2:(r.length ≤ r.length + 1)=True:=eq_true (by omega)
      have e3:r.length + 1 - r.length=1:=by omega
      have e4:(List.drop r.length (a :: r)).length=1:=by rw [List.length_drop];simp
      simp -implicitDefEqProofs only [e0,e1,e2,e3,ig,J4,Nat.mul_one,Nat.add_sub_cancel,e4,go_sem,seval]
  have f3:(c=3)=False:=eq_false c3
  rw [if_neg c3]
  by_cases c4:c=4
  · have f4:(c=4)=True:=eq_true c4
    rw [if_pos c4]
    simp -implicitDefEqProofs only [F160,f1,f2,f3,f4,go_sem,seval]
    refine au (IC p st hp t ha) ?_
    simp -implicitDefEqProofs only [go_sem,seval]
  have f4:(c=4)=False:=eq_false c4
  rw [if_neg c4]
  simp -implicitDefEqProofs only [F160,f1,f2,f3,f4,aj,go_sem,seval]
end W15
/- What is known of parts and nodes: the map. -/
namespace W15
open Go Go.AX Go.AX.Ty Go.Proofs
abbrev Kn:=List (Int × Int × Int)
def key (a b:Int):AV:=.agg [.int .i64 a,.int .i64 b]
def jl (L:Kn):List (AV × AV):=L.map fun t=>(key t.1 t.2.1,.int .i64 t.2.2)
def iQ:Kn → Int → Int → Int
  | [],_,_=>0
  | t :: r,a,b=>if t.1=a ∧ t.2.1=b then t.2.2 else iQ r a b
def kK:Kn → Int → Int → Int → Kn
  | [],a,b,v=>[(a,b,v)]
  | t :: r,a,b,v=>if t.1=a ∧ t.2.1=b then (a,b,v) :: r else t :: kK r a b v
abbrev TU:nN:=.node [(0,none,.int),(1,none,.int)]
theorem fU (a b v a' b':Int):∀ L:Kn,iQ (kK L a b v) a' b'=if a=a' ∧ b=b' then v else iQ L a' b'
  | []=>by simp [kK,iQ]
  | t :: r => by
    have ih:=fU a b v a' b' r
    simp only [kK]
    by_cases h:t.1=a ∧ t.2.1=b
    · rw [if_pos h]
      simp only [iQ]
      by_cases h2:a=a' ∧ b=b'
      · simp [h2]
      · rw [if_neg h2,if_neg h2,if_neg (by rw [h.1,h.2];exact h2)]
    · rw [if_neg h]
      simp only [iQ,ih]
      by_cases h2:a=a' ∧ b=b'
      · obtain ⟨rfl,rfl⟩:=h2;rw [if_neg h];simp
      · simp [h2]
theorem Pq (a b a' b':Int):eqv TU (key a b) (key a' b')=some (a == a' && b == b'):=by
  simp [eqv,eqvs,key,partOf]
theorem sI (a b:Int):∀ (L:Kn) (i:Nat),(pR TU (key a b) (jl L) i=some none ∧ iQ L a b=0 ∧ ∀ v,kK L a b v=L ++ [(a,b,v)]) ∨
    ∃ j,j < L.length ∧ pR TU (key a b) (jl L) i=some (some (i + j,key a b,.int .i64 (iQ L a b))) ∧ ∀ v,kK L a b v=L.set j (a,b,v)
  | [],i=>.inl ⟨rfl,rfl,fun _=>rfl⟩
  | t :: r, i => by
    obtain ⟨x,y,w⟩:=t
    simp only [jl,List.map_cons,pR,Pq]
    by_cases h:x=a ∧ y=b
    · obtain ⟨rfl,rfl⟩:=h
      right
      refine ⟨0,by simp,?_,fun v=>?_⟩
      · simp [iQ]
      · simp [kK]
    · have hb:(a == x && b == y)=false:=by
        rw [Bool.eq_false_iff];intro hh
        simp only [Bool.and_eq_true,beq_iff_eq] at hh
        exact h ⟨hh.1.symm,hh.2.symm⟩
      rw [hb]
      simp only
      rcases sI a b r (i + 1) with ⟨h1,h2,h3⟩ | ⟨j,h1,h2,h3⟩
      · left
        refine ⟨h1,?_,fun v=>?_⟩
        · simp only [iQ];rw [if_neg h];exact h2
        · simp only [kK];rw [if_neg h,h3 v];rfl
      · right
        refine ⟨j + 1,by simp;omega,?_,fun v=>?_⟩
        · rw [show i + (j + 1)=i + 1 + j by omega]
          simp only [iQ];rw [if_neg h];exact h2
        · simp only [kK];rw [if_neg h,h3 v];rfl
theorem Pw (L:Kn) (a b:Int):uV TU (.int .i64 0) false (key a b) (jl L)=some (.int .i64 (iQ L a b)):=by
  unfold uV
  rcases sI a b L 0 with ⟨h1,h2,_⟩ | ⟨j,_,h2,_⟩
  · rw [h1,h2];rfl
  · rw [h2];rfl
theorem QY (L:Kn) (a b v:Int):yY TU (key a b) (.int .i64 v) (jl L)=some (jl (kK L a b v)):=by
  unfold yY
  rcases sI a b L 0 with ⟨h1,_,h3⟩ | ⟨j,hj,h2,h3⟩
  · rw [h1,h3 v];simp [jl]
  · rw [h2,h3 v]
    have:CP (key a b) (key a b)=true:=by simp [CP,qj,xY,key]
    simp only [this,if_true,Nat.zero_add]
    simp [jl,List.map_set]
theorem iq (L:Kn) (a b:Int):uV TU (.int .i64 0) false (.agg [.int .i64 a,.int .i64 b]) (jl L)=some (.int .i64 (iQ L a b)):=Pw L a b
theorem iy (L:Kn) (a b v:Int):yY TU (.agg [.int .i64 a,.int .i64 b]) (.int .i64 v) (jl L)=some (jl (kK L a b v)):=QY L a b v
def dh (p:bA) (st:List Ty.State) (parts:List Part):Nat → Int → Bool
  | 0,n=>bE p n && (match parts[0]? with | some q=>q.l.all (dM p st n) | none=>false)
  | k + 1,n=>bE p n && (match parts[k + 1]? with | some q=>q.l.all (dM p st n) && (dw p n q.comb).any (dh p st parts k) | none=>false)
def pK (p:bA) (st:List Ty.State) (parts:List Part) (L:Kn) (k:Nat):Prop:=∀ (a:Int) (b:Nat),b < k → iQ L a b=0 ∨ iQ L a b=if dh p st parts b a=true then 1 else 2
def Hw (L L':Kn) (k:Nat):Prop:=∀ (a:Int) (b:Nat),k ≤ b → iQ L' a b=iQ L a b
theorem Hw.trans {L L' L'':Kn} {k:Nat} (h:Hw L L' k) (h':Hw L' L'' k):Hw L L'' k:=fun a b hb=>by rw [h' a b hb,h a b hb]
theorem RL (L:Kn) (m:Nat):FM m (.map (jl L)):=fun q hq=>by
  simp only [jl,List.mem_map] at hq
  obtain ⟨t,_,rfl⟩:=hq
  simp [key,Cl,Cls]
def anyM (f:Kn → Int → Kn) (q:Int → Bool):List Int → Kn → Kn
  | [],L=>L
  | x :: r,L=>if q x=true then f L x else anyM f q r (f L x)
def nV (p:bA) (st:List Ty.State) (parts:List Part) (k:Nat) (f:Kn → Int → Kn) (L:Kn) (n:Int):Kn:=match parts[k + 1]? with
  | some q=>if (bE p n && q.l.all (dM p st n))=true then anyM f (dh p st parts k) (dw p n q.comb) L else L
  | none=>L
def memo (p:bA) (st:List Ty.State) (parts:List Part) (k:Nat) (L3 L:Kn) (n:Int):Kn:=if iQ L n k=0 then (if dh p st parts k n=true then kK L3 n k 1 else L3) else L
def kM (p:bA) (st:List Ty.State) (parts:List Part):Nat → Kn → Int → Kn
  | 0=>fun L n=>memo p st parts 0 (kK L n 0 2) L n
  | k + 1=>fun L n=>memo p st parts (k + 1) (nV p st parts k (kM p st parts k) (kK L n ((k + 1:Nat):Int) 2) n) L n
def rP (p:bA) (st:List Ty.State) (parts:List Part):Nat → Kn → Int → Kn
  | 0=>fun L _=>L
  | k + 1=>fun L n=>nV p st parts k (kM p st parts k) L n
theorem DL (p:bA) (st:List Ty.State) (parts:List Part) (k:Nat) (L:Kn) (n:Int):kM p st parts k L n=memo p st parts k (rP p st parts k (kK L n k 2) n) L n:=by
  cases k <;> rfl
def Vf (p:bA) (st:List Ty.State) (parts:List Part) (k:Nat) (f:Kn → Int → Kn):Prop:=∀ L n,pK p st parts L k → pK p st parts (f L n) k ∧ Hw L (f L n) k
theorem EM {p:bA} {st:List Ty.State} {parts:List Part} {k:Nat} (hf:Vf p st parts k (rP p st parts k)):Vf p st parts (k + 1) (kM p st parts k):=by
  intro L n hL
  rw [DL]
  unfold memo
  by_cases h0:iQ L n k=0
  · rw [if_pos h0]
    have hlt:pK p st parts (kK L n k 2) k:=fun a b' hb=>by
      rw [fU,if_neg (by omega)]
      exact hL a b' (by omega)
    obtain ⟨e1,e2⟩:=hf (kK L n k 2) n hlt
    generalize rP p st parts k (kK L n k 2) n=L' at e1 e2
    have g1:iQ L' n k=2:=by rw [e2 n k (Nat.le_refl _),fU,if_pos ⟨rfl,rfl⟩]
    have g2:∀ a,a ≠ n → iQ L' a k=iQ L a k:=fun a ha=>by rw [e2 a k (Nat.le_refl _),fU,if_neg (by intro hh;exact ha hh.1.symm)]
    have g3:∀ a (b':Nat),k < b' → iQ L' a b'=iQ L a b':=fun a b' hb=>by rw [e2 a b' (by omega),fU,if_neg (by omega)]
    cases hfb:dh p st parts k n
    · rw [if_neg (by simp)]
      refine ⟨fun a b' hb=>?_,fun a b' hb=>g3 a b' (by omega)⟩
      rcases Nat.lt_or_ge b' k with hk | hk
      · exact e1 a b' hk
      · have:b'=k:=by omega
        subst this
        by_cases ha:a=n
        · subst ha;rw [g1,hfb];exact .inr rfl
        · rw [g2 a ha];exact hL a _ (by omega)
    · rw [if_pos rfl]
      refine ⟨fun a b' hb=>?_,fun a b' hb=>?_⟩
      · rw [fU]
        split
        · rename_i ha
          obtain ⟨rfl,ha2⟩:=ha
          have:k=b':=by omega
          subst this
          rw [hfb];exact .inr rfl
        · rename_i ha
          rcases Nat.lt_or_ge b' k with hk | hk
          · exact e1 a b' hk
          · have:b'=k:=by omega
            subst this
            rw [g2 a (by intro hh;exact ha ⟨hh.symm,rfl⟩)];exact hL a _ (by omega)
      · rw [fU,if_neg (by omega)]
        exact g3 a b' (by omega)
  · rw [if_neg h0];exact ⟨hL,fun _ _ _=>rfl⟩
theorem Ja {p:bA} {st:List Ty.State} {parts:List Part} {k:Nat} {f:Kn → Int → Kn} (hf:Vf p st parts k f) (q:Int → Bool):∀ (l:List Int) (L:Kn),pK p st parts L k → pK p st parts (anyM f q l L) k ∧ Hw L (anyM f q l L) k
  | [],L,h=>⟨h,fun _ _ _=>rfl⟩
  | x :: r, L, h => by
    obtain ⟨h1,h2⟩:=hf L x h
    simp only [anyM]
    split
    · exact ⟨h1,h2⟩
    · obtain ⟨h3,h4⟩:=Ja hf q r _ h1
      exact ⟨h3,h2.trans h4⟩
theorem xD (p:bA) (st:List Ty.State) (parts:List Part):∀ k,Vf p st parts k (rP p st parts k)
  | 0=>fun L n h=>⟨h,fun _ _ _=>rfl⟩
  | k + 1 => fun L n h => by
    show pK p st parts (nV p st parts k (kM p st parts k) L n) (k + 1) ∧ Hw L (nV p st parts k (kM p st parts k) L n) (k + 1)
    unfold nV
    split
    · split
      · exact Ja (EM (xD p st parts k)) _ _ _ h
      · exact ⟨h,fun _ _ _=>rfl⟩
    · exact ⟨h,fun _ _ _=>rfl⟩
theorem CY (p:bA) (st:List Ty.State) (parts:List Part) (k:Nat):Vf p st parts (k + 1) (kM p st parts k):=EM (xD p st parts k)
end W15
/- The matcher: what it knows, it keeps. -/
namespace W15
open Go Go.AX Go.AX.Ty Go.Proofs
structure Mt (p:bA) (st:List Ty.State) (parts:List Part) (h:List (Nat × AX.Obj)) (m b r:Nat) (L:Kn):Prop where
  obj:AX.look b h=some (.cells 0 [Enc.av p,Enc.av st,Enc.av parts,.map r] false)
  map:AX.look r h=some (.map (jl L))
  br:b ≠ r
  bm:b < m
  rm:r < m
  wf:Wf ⟨h,m⟩
theorem Mt.next {p:bA} {st:List Ty.State} {parts:List Part} {h:List (Nat × AX.Obj)} {m b r:Nat} {L:Kn} (M:Mt p st parts h m b r L) (o:AX.Obj) (L':Kn):Mt p st parts ((m,o) :: putAt r (.map (jl L')) h) (m + 1) b r L':=by
  have h1:=M.bm
  have h2:=M.rm
  refine ⟨?_,?_,M.br,by omega,by omega,pz (Ht M.wf)⟩
  · simp only [AX.look];rw [if_neg (by omega),fM (Ne.symm M.br)];exact M.obj
  · simp only [AX.look];rw [if_neg (by omega),jF M.map]
theorem Mt.put {p:bA} {st:List Ty.State} {parts:List Part} {h:List (Nat × AX.Obj)} {m b r:Nat} {L:Kn} (M:Mt p st parts h m b r L) (L':Kn):Mt p st parts (putAt r (.map (jl L')) h) m b r L':=
  ⟨by rw [fM (Ne.symm M.br)];exact M.obj,by rw [jF M.map],M.br,M.bm,M.rm,Ht M.wf⟩
def NI (p:bA) (st:List Ty.State) (parts:List Part) (k:Nat):Prop:=∀ (n:Int) (h:List (Nat × AX.Obj)) (m b r:Nat) (L:Kn),Mt p st parts h m b r L → pK p st parts L k →
  aR Tryz.prog 138 [.ptr b 0 0,.int .i64 n,.int .i64 k] ⟨h,m⟩ fun v s'=>v=.bool (dh p st parts k n) ∧ s'=⟨putAt r (.map (jl (rP p st parts k L n))) h,m⟩
def tO (p:bA) (st:List Ty.State) (parts:List Part) (k:Nat):Prop:=∀ (n:Int) (h:List (Nat × AX.Obj)) (m b r:Nat) (L:Kn),Mt p st parts h m b r L → pK p st parts L (k + 1) →
  aR Tryz.prog 123 [.ptr b 0 0,.int .i64 n,.int .i64 k] ⟨h,m⟩ fun v s'=>v=.bool (dh p st parts k n) ∧ s'=⟨putAt r (.map (jl (kM p st parts k L n))) h,m⟩
theorem Ih {f:Nat} {args:List AV} {h:List (Nat × AX.Obj)} {m r:Nat} {es:List (AV × AV)} {u:Bool} {L':Kn} (hr:AX.look r h=some (.map es)) (hrm:r < m)
    (H:aR Tryz.prog f args ⟨h,m⟩ fun v s'=>v=.bool u ∧ ∀ id,id < m → AX.look id s'.heap=if id=r then some (.map (jl L')) else AX.look id h) :
    aR Tryz.prog f args ⟨h,m⟩ fun v s'=>v=.bool u ∧ s'=⟨putAt r (.map (jl L')) h,m⟩:=by
  refine aR.fin (H.mono ?_)
  rintro v s' ⟨rfl,h3⟩
  refine ⟨trivial,⟨putAt r (.map (jl L')) h,m⟩,rfl,Md,fun id o hid ho=>?_,rfl,rfl⟩
  have h4:=h3 id hid
  simp only [St.get,aS] at ho ⊢
  by_cases he:r=id
  · subst he
    rw [if_pos rfl,hr] at ho
    simp only [Option.map_some,Option.some.injEq] at ho
    subst ho
    rw [if_pos rfl] at h4
    exact ⟨h4,.inr (RL L' _)⟩
  · rw [if_neg he] at ho
    rw [if_neg (Ne.symm he),ho] at h4
    exact ⟨h4,.inl ho⟩
theorem Pm {p:bA} {st:List Ty.State} {parts:List Part} {k:Nat} (hfind:NI p st parts k):tO p st parts k:=by
  intro n h m b r L hM hL
  refine Ih hM.map hM.rm (bT mix (fH _) c123 (by kernel_rfl) (Nat.le_of_ble_eq_true (by kernel_rfl)) ?_)
  rw [DL]
  unfold memo
  have hobj:=hM.obj
  have hmap:=hM.map
  have hbr:=hM.br
  have hbm:=hM.bm
  have hrm:=hM.rm
  have m1:(m=b)=False:=eq_false (by omega)
  have m2:(m=r)=False:=eq_false (by omega)
  have m3:(b=r)=False:=eq_false hbr
  have m4:(r=b)=False:=eq_false (Ne.symm hbr)
  have m5:(r=m)=False:=eq_false (by omega)
  have i1:(b < m)=True:=eq_true hbm
  have i2:(r < m)=True:=eq_true hrm
  have i3:(b < m + 1)=True:=eq_true (by omega)
  have i4:(r < m + 1)=True:=eq_true (by omega)
  simp -implicitDefEqProofs only [F123,hobj,hmap,m1,m2,m3,i1,i2,i3,i4,iq,iy,go_sem,seval]
  refine aA (by (first | omega | (simp [aB,aD,aC,Nat.testBit_eq_decide_div_mod_eq];done) | (simp [aB,aD,aC,Nat.testBit_eq_decide_div_mod_eq];omega) | kernel_rfl)) ?_
  by_cases h0:iQ L n k=0
  · have f0:(iQ L n k=0)=True:=eq_true h0
    rw [if_pos h0]
    simp -implicitDefEqProofs only [f0,hobj,hmap,m1,m2,m3,m4,m5,i1,i2,i3,i4,iq,iy,go_sem,seval]
    refine aA (by (first | omega | (simp [aB,aD,aC,Nat.testBit_eq_decide_div_mod_eq];done) | (simp [aB,aD,aC,Nat.testBit_eq_decide_div_mod_eq];omega) | kernel_rfl)) ?_
    simp -implicitDefEqProofs only [f0,hobj,hmap,m1,m2,m3,m4,m5,i1,i2,i3,i4,iq,iy,go_sem,seval]
    have hlt:pK p st parts (kK L n k 2) k:=fun a b' hb=>by
      rw [fU,if_neg (by omega)]
      exact hL a b' (by omega)
    refine eU (hfind n _ _ b r (kK L n k 2) (hM.next _ _) hlt) ?_
    obtain ⟨e1,e2⟩:=xD p st parts k (kK L n k 2) n hlt
    generalize rP p st parts k (kK L n k 2) n=L' at e1 e2
    have g1:iQ L' n k=2:=by rw [e2 n k (Nat.le_refl _),fU,if_pos ⟨rfl,rfl⟩]
    cases hfb:dh p st parts k n
    · simp -implicitDefEqProofs only [hobj,hmap,m1,m2,m3,m4,m5,i1,i2,i3,i4,iq,iy,g1,go_sem,seval]
      refine aA (by (first | omega | (simp [aB,aD,aC,Nat.testBit_eq_decide_div_mod_eq];done) | (simp [aB,aD,aC,Nat.testBit_eq_decide_div_mod_eq];omega) | kernel_rfl)) ?_
      simp -implicitDefEqProofs only [hobj,hmap,m1,m2,m3,m4,m5,i1,i2,i3,i4,iq,iy,g1,go_sem,seval]
      intro id hid
      have hm:(m=id)=False:=eq_false (by omega)
      by_cases hr:r=id
      · subst hr;simp [hm,hmap,aS,m5,m2]
      · simp [hm,hr,Ne.symm hr,aS]
    · have g5:iQ (kK L' n k 1) n k=1:=by rw [fU,if_pos ⟨rfl,rfl⟩]
      simp -implicitDefEqProofs only [hobj,hmap,m1,m2,m3,m4,m5,i1,i2,i3,i4,iq,iy,g1,g5,go_sem,seval]
      refine aA (by (first | omega | (simp [aB,aD,aC,Nat.testBit_eq_decide_div_mod_eq];done) | (simp [aB,aD,aC,Nat.testBit_eq_decide_div_mod_eq];omega) | kernel_rfl)) ?_
      simp -implicitDefEqProofs only [hobj,hmap,m1,m2,m3,m4,m5,i1,i2,i3,i4,iq,iy,g1,g5,go_sem,seval]
      refine aA (by (first | omega | (simp [aB,aD,aC,Nat.testBit_eq_decide_div_mod_eq];done) | (simp [aB,aD,aC,Nat.testBit_eq_decide_div_mod_eq];omega) | kernel_rfl)) ?_
      simp -implicitDefEqProofs only [hobj,hmap,m1,m2,m3,m4,m5,i1,i2,i3,i4,iq,iy,g1,g5,go_sem,seval]
      intro id hid
      have hm:(m=id)=False:=eq_false (by omega)
      by_cases hr:r=id
      · subst hr;simp [hm,hmap,aS,m5,m2]
      · simp [hm,hr,Ne.symm hr,aS]
  · have f0:(iQ L n k=0)=False:=eq_false h0
    rw [if_neg h0]
    simp -implicitDefEqProofs only [f0,hobj,hmap,m1,m2,m3,m4,m5,i1,i2,i3,i4,iq,iy,go_sem,seval]
    refine aA (by (first | omega | (simp [aB,aD,aC,Nat.testBit_eq_decide_div_mod_eq];done) | (simp [aB,aD,aC,Nat.testBit_eq_decide_div_mod_eq];omega) | kernel_rfl)) ?_
    simp -implicitDefEqProofs only [f0,hobj,hmap,m1,m2,m3,m4,m5,i1,i2,i3,i4,iq,iy,go_sem,seval]
    have g1:=(hL n k (by omega)).resolve_left h0
    refine ⟨?_,fun id hid=>?_⟩
    · rw [g1];cases dh p st parts k n <;> rfl
    · have hm:(m=id)=False:=eq_false (by omega)
      by_cases hr:r=id
      · subst hr;simp [hmap,m2]
      · simp [hm,Ne.symm hr]
end W15
/- The matcher: finding. -/
namespace W15
open Go Go.AX Go.AX.Ty Go.Proofs
theorem Rx {p:bA} {st:List Ty.State} {parts:List Part} {k:Nat} {nd:Ty.Node} (ha:At p st k nd) (x:Simple) (hok:Enc.ok x) {h:List (Nat × AX.Obj)} {m b r c d:Nat} {L:Kn} {s1 s2:Bool} (M:Mt p st parts h m b r L)
    (hc:AX.look c h=some (.cells 0 [.ptr b 0 0] s1)) (hd:AX.look d h=some (.cells 0 [.int .i64 k] s2)) (hcm:c < m) (hdm:d < m) :
    aR Tryz.prog 157 [Enc.av x,.ptr c 0 0,.ptr d 0 0] ⟨h,m⟩ fun v s'=>v=.bool (!dM p st k x) ∧ s'=⟨h,m⟩:=by
  refine xP mix c157 (by kernel_rfl) (by kernel_rfl) (by simp [Cl,Cls]) rfl (fun id o ho=>⟨o,ho⟩) ?_
  have hobj:=M.obj
  have hbm:=M.bm
  have m1:(m=b)=False:=eq_false (by omega)
  have m2:(m=c)=False:=eq_false (by omega)
  have m3:(m=d)=False:=eq_false (by omega)
  have i1:(b < m + 1)=True:=eq_true (by omega)
  have i2:(c < m + 1)=True:=eq_true (by omega)
  have i3:(d < m + 1)=True:=eq_true (by omega)
  have hh:=QH ha (sizeOf x) x (Nat.le_refl _) hok
  rw [Simple.fC] at hh ⊢
  simp -implicitDefEqProofs only [F157,hobj,hc,hd,m1,m2,m3,i1,i2,i3,go_sem,seval]
  refine aJ hh ?_
  simp -implicitDefEqProofs only [hobj,hc,hd,m1,m2,m3,i1,i2,i3,go_sem,seval]
  refine aA (by (first | omega | (simp [aB,aD,aC,Nat.testBit_eq_decide_div_mod_eq];done) | (simp [aB,aD,aC,Nat.testBit_eq_decide_div_mod_eq];omega) | kernel_rfl)) ?_
  simp -implicitDefEqProofs only [hobj,hc,hd,m1,m2,m3,i1,i2,i3,go_sem,seval]
  intro id o hid ho
  rw [if_neg (by omega)]
  exact ⟨ho,.inl ho⟩
theorem sH {g c d:Nat} {q:Simple → Bool} {l:List Simple} {h:List (Nat × AX.Obj)} {m:Nat} (hl:l.length ≤ 140737488355328)
    (hp:∀ x ∈ l,aR Tryz.prog g [Enc.av x,.ptr c 0 0,.ptr d 0 0] ⟨h,m⟩ (fun v s'=>v=.bool (q x) ∧ s'=⟨h,m⟩)) :
    aR Tryz.prog 174 [Enc.av l,.fn (.func g) [] [.ptr c 0 0,.ptr d 0 0]] ⟨h,m⟩ fun v s'=>v=.int .i64 (idxOf q l) ∧ s'=⟨h,m⟩:=by
  refine bT mix (fH _) c174 (by kernel_rfl) (Nat.le_of_ble_eq_true (by kernel_rfl)) ?_
  simp -implicitDefEqProofs only [F174,go_sem,seval]
  refine aF (fun k:Nat=>l.length - k) (fun k=>[(0,Enc.av l),(1,.fn (.func g) [] [.ptr c 0 0,.ptr d 0 0]),(7,.int .i64 l.length),(8,.int .i64 k)]) (fun k s=>s=⟨h,m⟩ ∧ k ≤ l.length ∧ Pre q l k) 0 ?_ ?_
  · simp -implicitDefEqProofs only [go_sem,seval]
    exact Pre.zero _ _
  rintro k ρ s ⟨rfl,h1,h2⟩
  rcases Nat.lt_or_ge k l.length with hk | hk
  · obtain ⟨x,hx,hd,hm⟩:=aG hk
    have hlt:((k:Int) < (l.length:Int))=True:=eq_true (by omega)
    have w1:IntKind.i64.wrap ((k:Int) + 1)=((k + 1:Nat):Int):=by rw [wrap64 (by omega) (by omega)];omega
    have hp':=hp x hm
    rw [Simple.fC] at hp'
    simp -implicitDefEqProofs only [hlt,hx,w1,go_sem,seval]
    refine eU hp' ?_
    simp -implicitDefEqProofs only [go_sem,seval]
    (refine bC (fun h hT=>?_) (fun h hT=>?_) <;> try simp -implicitDefEqProofs only [hT,w1,go_sem,seval] <;> try clear hT)
    · rw [iw hx h h2]
    · exact ⟨k + 1,by omega,rfl,by omega,h2.next hx (by simpa using h)⟩
  · have hlt:((k:Int) < (l.length:Int))=False:=eq_false (by omega)
    simp -implicitDefEqProofs only [hlt,go_sem,seval]
    rw [gX (h2.all hk)]
theorem sU {g c d:Nat} {q:Simple → Bool} {l:List Simple} {h:List (Nat × AX.Obj)} {m:Nat} (hl:l.length ≤ 140737488355328)
    (hp:∀ x ∈ l,aR Tryz.prog g [Enc.av x,.ptr c 0 0,.ptr d 0 0] ⟨h,m⟩ (fun v s'=>v=.bool (q x) ∧ s'=⟨h,m⟩)) :
    aR Tryz.prog 156 [Enc.av l,.fn (.func g) [] [.ptr c 0 0,.ptr d 0 0]] ⟨h,m⟩ fun v s'=>v=.bool (l.any q) ∧ s'=⟨h,m⟩:=by
  refine bT mix (fH _) c156 (by kernel_rfl) (Nat.le_of_ble_eq_true (by kernel_rfl)) ?_
  simp -implicitDefEqProofs only [F156,go_sem,seval]
  refine eU (sH hl hp) ?_
  simp -implicitDefEqProofs only [go_sem,seval]
  rw [oW]
theorem QV {p:bA} {st:List Ty.State} {parts:List Part} {k:Nat} (hf:tO p st parts k) (hk1:k ≤ 140737488355328) (n:Int) {h:List (Nat × AX.Obj)} {m b r c d:Nat} {L:Kn} {s1 s2:Bool} (M:Mt p st parts h m b r L) (hL:pK p st parts L (k + 1))
    (hc:AX.look c h=some (.cells 0 [.ptr b 0 0] s1)) (hd:AX.look d h=some (.cells 0 [.int .i64 ((k + 1:Nat):Int)] s2)) :
    aR Tryz.prog 161 [.int .i64 n,.ptr c 0 0,.ptr d 0 0] ⟨h,m⟩ fun v s'=>v=.bool (dh p st parts k n) ∧ s'=⟨putAt r (.map (jl (kM p st parts k L n))) h,m⟩:=by
  refine bT mix (fH _) c161 (by kernel_rfl) (Nat.le_of_ble_eq_true (by kernel_rfl)) ?_
  have w1:IntKind.i64.wrap (((k + 1:Nat):Int) - 1)=(k:Int):=by rw [wrap64 (by omega) (by omega)];omega
  simp -implicitDefEqProofs only [F161,hc,hd,w1,go_sem,seval]
  refine eU (hf n h m b r L M hL) ?_
  simp -implicitDefEqProofs only [go_sem,seval]
theorem Dw {p : bA} {st : List Ty.State} {parts : List Part} {k : Nat} (hf : tO p st parts k) (hk1 : k ≤ 140737488355328) {l : List Int} (hl : l.length ≤ 1000000) {h : List (Nat × AX.Obj)} {m b r c d : Nat} {L : Kn} {s1 s2 : Bool} (M : Mt p st parts h m b r L) (hL : pK p st parts L (k + 1))
    (hc:AX.look c h=some (.cells 0 [.ptr b 0 0] s1)) (hd:AX.look d h=some (.cells 0 [.int .i64 ((k + 1:Nat):Int)] s2)) (hcr:c ≠ r) (hdr:d ≠ r) :
    aR Tryz.prog 181 [Enc.av l,.fn (.func 161) [] [.ptr c 0 0,.ptr d 0 0]] ⟨h,m⟩ fun v s'=>v=.int .i64 (idxOf (dh p st parts k) l) ∧
      s'=⟨putAt r (.map (jl (anyM (kM p st parts k) (dh p st parts k) l L))) h,m⟩:=by
  refine bT mix (fH _) c181 (by kernel_rfl) (Nat.le_of_ble_eq_true (by kernel_rfl)) ?_
  simp -implicitDefEqProofs only [F181,go_sem,seval]
  refine aF (fun q:Nat × Kn=>l.length - q.1) (fun q=>[(0,Enc.av l),(1,.fn (.func 161) [] [.ptr c 0 0,.ptr d 0 0]),(7,.int .i64 l.length),(8,.int .i64 q.1)])
    (fun q s=>s=⟨putAt r (.map (jl q.2)) h,m⟩ ∧ q.1 ≤ l.length ∧ Pre (dh p st parts k) l q.1 ∧ pK p st parts q.2 (k + 1) ∧ anyM (kM p st parts k) (dh p st parts k) (l.drop q.1) q.2=anyM (kM p st parts k) (dh p st parts k) l L) (0,L) ?_ ?_
  · simp -implicitDefEqProofs only [go_sem,seval]
    exact ⟨by rw [jm M.map],Pre.zero _ _,hL⟩
  rintro ⟨i,Li⟩ ρ s ⟨h0,h1,h2,h3,h4⟩
  dsimp only at h0 h1 h2 h3 h4
  subst h0
  rcases Nat.lt_or_ge i l.length with hi | hi
  · obtain ⟨x,hx,hdx,hm⟩:=aG hi
    have hlt:((i:Int) < (l.length:Int))=True:=eq_true (by omega)
    have w1:IntKind.i64.wrap ((i:Int) + 1)=((i + 1:Nat):Int):=by rw [wrap64 (by omega) (by omega)];omega
    rw [hdx,anyM] at h4
    have hcall:=QV hf hk1 x (M.put Li) h3 (c:=c) (d:=d) (by rw [fM (Ne.symm hcr)];exact hc) (by rw [fM (Ne.symm hdr)];exact hd)
    simp -implicitDefEqProofs only [hlt,hx,w1,go_sem,seval]
    refine eU hcall ?_
    simp -implicitDefEqProofs only [go_sem,seval]
    refine bC (fun hq hT=>?_) (fun hq hT=>?_)
    · rw [if_pos hq] at h4
      simp -implicitDefEqProofs only [go_sem,seval]
      rw [iw hx hq h2,iJ,h4]
      exact ⟨rfl,rfl⟩
    · rw [if_neg hq] at h4
      simp -implicitDefEqProofs only [w1,go_sem,seval]
      exact ⟨(i + 1,kM p st parts k Li x),by simp only;omega,rfl,by rw [iJ],by simp only;omega,h2.next hx (by simpa using hq),(CY p st parts k Li x h3).1,h4⟩
  · have hlt:((i:Int) < (l.length:Int))=False:=eq_false (by omega)
    simp -implicitDefEqProofs only [hlt,go_sem,seval]
    rw [iO hi,anyM] at h4
    rw [gX (h2.all hi),h4]
    exact ⟨rfl,rfl⟩
theorem En {p : bA} {st : List Ty.State} {parts : List Part} {k : Nat} (hf : tO p st parts k) (hk1 : k ≤ 140737488355328) {l : List Int} (hl : l.length ≤ 1000000) {h : List (Nat × AX.Obj)} {m b r c d : Nat} {L : Kn} {s1 s2 : Bool} (M : Mt p st parts h m b r L) (hL : pK p st parts L (k + 1))
    (hc:AX.look c h=some (.cells 0 [.ptr b 0 0] s1)) (hd:AX.look d h=some (.cells 0 [.int .i64 ((k + 1:Nat):Int)] s2)) (hcr:c ≠ r) (hdr:d ≠ r) :
    aR Tryz.prog 159 [Enc.av l,.fn (.func 161) [] [.ptr c 0 0,.ptr d 0 0]] ⟨h,m⟩ fun v s'=>v=.bool (l.any (dh p st parts k)) ∧
      s'=⟨putAt r (.map (jl (anyM (kM p st parts k) (dh p st parts k) l L))) h,m⟩:=by
  refine bT mix (fH _) c159 (by kernel_rfl) (Nat.le_of_ble_eq_true (by kernel_rfl)) ?_
  simp -implicitDefEqProofs only [F159,go_sem,seval]
  refine eU (Dw hf hk1 hl M hL hc hd hcr hdr) ?_
  simp -implicitDefEqProofs only [go_sem,seval]
  rw [oW]
end W15
/- The matcher: finding, and fitting. -/
namespace W15
open Go Go.AX Go.AX.Ty Go.Proofs
def xk (p:bA) (st:List Ty.State) (parts:List Part) (n:Int) (q:Part):Nat → Bool
  | 0=>true
  | j + 1=>(dw p n q.comb).any (dh p st parts j)
theorem yI (p:bA) (st:List Ty.State) (parts:List Part) (k:Nat) (n:Int) (q:Part) (hq:parts[k]? = some q) :
    dh p st parts k n=(bE p n && (q.l.all (dM p st n) && xk p st parts n q k)):=by
  cases k with
  | zero=>simp [dh,hq,xk]
  | succ j=>simp [dh,hq,xk]
theorem uz (l:List Simple) (f:Simple → Bool):(l.any fun x=>!f x) = !l.all f:=by
  rw [Bool.eq_iff_iff];simp
theorem N8 {p:bA} {st:List Ty.State} {parts:List Part} (hp:gV p) (t:eO p) (hs:st.length ≤ 100000) (hparts:∀ q ∈ parts,Enc.ok q) (k:Nat) (hk:k < parts.length) (hk1:k ≤ 140737488355328)
    (hf:∀ j,k=j + 1 → tO p st parts j):NI p st parts k:=by
  intro n h m b r L hM hL
  obtain ⟨q,hq,_,hqm⟩:=aG hk
  have hqok:=(Part.bH q).1 (hparts q hqm)
  refine Ih hM.map hM.rm (bT mix (fH _) c138 (by kernel_rfl) (Nat.le_of_ble_eq_true (by kernel_rfl)) ?_)
  rw [yI p st parts k n q hq]
  have hobj:=hM.obj
  have hmap:=hM.map
  have hbr:=hM.br
  have hbm:=hM.bm
  have hrm:=hM.rm
  have m1:(m=b)=False:=eq_false (by omega)
  have m2:(m + 1=b)=False:=eq_false (by omega)
  have m3:(m + 2=b)=False:=eq_false (by omega)
  have m4:(m + 3=b)=False:=eq_false (by omega)
  have m1':(m + 1 + 1=b)=False:=eq_false (by omega)
  have m2':(m + 1 + 1 + 1=b)=False:=eq_false (by omega)
  have i1:(b < m + 1 + 1 + 1)=True:=eq_true (by omega)
  have i2:(b < m + 1 + 1 + 1 + 1)=True:=eq_true (by omega)
  have n1:(m + 1=m)=False:=eq_false (by omega)
  have n2:(m + 1 + 1=m)=False:=eq_false (by omega)
  have n3:(m + 1 + 1 + 1=m)=False:=eq_false (by omega)
  have n4:(m + 1 + 1=m + 1)=False:=eq_false (by omega)
  have n5:(m + 1 + 1 + 1=m + 1)=False:=eq_false (by omega)
  have n6:(m + 1 + 1 + 1=m + 1 + 1)=False:=eq_false (by omega)
  have j1:(m < m + 1 + 1 + 1)=True:=eq_true (by omega)
  have j2:(m + 1 < m + 1 + 1 + 1)=True:=eq_true (by omega)
  have j3:(m + 1 + 1 < m + 1 + 1 + 1)=True:=eq_true (by omega)
  have j4:(m < m + 1 + 1 + 1 + 1)=True:=eq_true (by omega)
  have j5:(m + 1 < m + 1 + 1 + 1 + 1)=True:=eq_true (by omega)
  have j6:(m + 1 + 1 < m + 1 + 1 + 1 + 1)=True:=eq_true (by omega)
  have j7:(m + 1 + 1 + 1 < m + 1 + 1 + 1 + 1)=True:=eq_true (by omega)
  simp -implicitDefEqProofs only [F138,hq,hobj,m1,m2,m3,m4,m1',m2',i1,i2,n1,n2,n3,n4,n5,n6,j1,j2,j3,j4,j5,j6,j7,go_sem,seval]
  refine aA (by (first | omega | (simp [aB,aD,aC,Nat.testBit_eq_decide_div_mod_eq];done) | (simp [aB,aD,aC,Nat.testBit_eq_decide_div_mod_eq];omega) | kernel_rfl)) ?_
  simp -implicitDefEqProofs only [hq,hobj,m1,m2,m3,m4,m1',m2',i1,i2,n1,n2,n3,n4,n5,n6,j1,j2,j3,j4,j5,j6,j7,go_sem,seval]
  refine aJ (kr p n) ?_
  simp -implicitDefEqProofs only [hq,hobj,m1,m2,m3,m4,m1',m2',i1,i2,n1,n2,n3,n4,n5,n6,j1,j2,j3,j4,j5,j6,j7,go_sem,seval]
  have same:∀ (o0 o1 o2 o3:AX.Obj) (L':Kn),L'=L → ∀ id,id < m → (if m + 1 + 1 + 1=id then some o3 else if m + 1 + 1=id then some o2 else if m + 1=id then some o1 else if m=id then some o0 else AX.look id h)=if id=r then some (.map (jl L')) else AX.look id h:=fun o0 o1 o2 o3 L' hL' id hid=>by
    subst hL'
    rw [if_neg (by omega),if_neg (by omega),if_neg (by omega),if_neg (by omega)]
    by_cases hr:id=r
    · rw [if_pos hr,hr,hmap]
    · rw [if_neg hr]
  have noel:bE p n=false → rP p st parts k L n=L:=fun e2=>by
    cases k with
    | zero=>rfl
    | succ j=>show nV p st parts j _ L n=L;simp [nV,hq,e2]
  cases hel:bE p n
  · rw [noel hel]
    simp -implicitDefEqProofs only [hq,hobj,m1,m2,m3,m4,m1',m2',i1,i2,n1,n2,n3,n4,n5,n6,j1,j2,j3,j4,j5,j6,j7,go_sem,seval]
    refine aA (by (first | omega | (simp [aB,aD,aC,Nat.testBit_eq_decide_div_mod_eq];done) | (simp [aB,aD,aC,Nat.testBit_eq_decide_div_mod_eq];omega) | kernel_rfl)) ?_
    simp -implicitDefEqProofs only [hq,hobj,m1,m2,m3,m4,m1',m2',i1,i2,n1,n2,n3,n4,n5,n6,j1,j2,j3,j4,j5,j6,j7,go_sem,seval]
    exact ⟨rfl,same _ _ _ _ _ rfl⟩
  obtain ⟨kn,nd,rfl,hx,hne⟩:∃ (kn:Nat) (nd:Ty.Node),n=kn ∧ p[kn]? = some nd ∧ nd.name ≠ []:=by
    rcases fB p n with ⟨e,hno⟩ | ⟨kn,nd,e1,hkl,hx,e⟩
    · simp [bE,e] at hel
    · simp only [bE,e,decide_eq_true_eq] at hel
      exact ⟨kn,nd,e1,hx,hel⟩
  have ha:=t.at hp hs hx hne
  have hMx:Mt p st parts ((m + 1 + 1 + 1,AX.Obj.cells 0 [AV.int IntKind.i64 q.comb,AV.ps q.l.length (aj q.l)] false) :: (m + 1 + 1,AX.Obj.cells 0 [AV.int IntKind.i64 k] false) :: (m + 1,AX.Obj.cells 0 [AV.int IntKind.i64 kn] false) :: (m,AX.Obj.cells 0 [AV.ptr b 0 0] false) :: h) (m + 1 + 1 + 1 + 1) b r L:=by
    refine ⟨?_,?_,hbr,by omega,by omega,pz (pz (pz (pz hM.wf)))⟩
    · simp only [AX.look];rw [if_neg (by omega),if_neg (by omega),if_neg (by omega),if_neg (by omega)];exact hobj
    · simp only [AX.look];rw [if_neg (by omega),if_neg (by omega),if_neg (by omega),if_neg (by omega)];exact hmap
  simp -implicitDefEqProofs only [hq,hobj,m1,m2,m3,m4,m1',m2',i1,i2,n1,n2,n3,n4,n5,n6,j1,j2,j3,j4,j5,j6,j7,go_sem,seval]
  have lk0:AX.look m ((m + 1 + 1 + 1,AX.Obj.cells 0 [AV.int IntKind.i64 q.comb,AV.ps q.l.length (aj q.l)] false) :: (m + 1 + 1,AX.Obj.cells 0 [AV.int IntKind.i64 k] false) :: (m + 1,AX.Obj.cells 0 [AV.int IntKind.i64 kn] false) :: (m,AX.Obj.cells 0 [AV.ptr b 0 0] false) :: h)=some (.cells 0 [.ptr b 0 0] false):=by
    simp only [AX.look];rw [if_neg (by omega),if_neg (by omega),if_neg (by omega),if_pos trivial]
  have lk1:AX.look (m + 1) ((m + 1 + 1 + 1,AX.Obj.cells 0 [AV.int IntKind.i64 q.comb,AV.ps q.l.length (aj q.l)] false) :: (m + 1 + 1,AX.Obj.cells 0 [AV.int IntKind.i64 k] false) :: (m + 1,AX.Obj.cells 0 [AV.int IntKind.i64 kn] false) :: (m,AX.Obj.cells 0 [AV.ptr b 0 0] false) :: h)=some (.cells 0 [.int .i64 kn] false):=by
    simp only [AX.look];rw [if_neg (by omega),if_neg (by omega),if_pos trivial]
  have lk2:AX.look (m + 1 + 1) ((m + 1 + 1 + 1,AX.Obj.cells 0 [AV.int IntKind.i64 q.comb,AV.ps q.l.length (aj q.l)] false) :: (m + 1 + 1,AX.Obj.cells 0 [AV.int IntKind.i64 k] false) :: (m + 1,AX.Obj.cells 0 [AV.int IntKind.i64 kn] false) :: (m,AX.Obj.cells 0 [AV.ptr b 0 0] false) :: h)=some (.cells 0 [.int .i64 k] false):=by
    simp only [AX.look];rw [if_neg (by omega),if_pos trivial]
  have hcon:=sU (g:=157) (c:=m) (d:=m + 1) (q:=fun x=>!dM p st kn x) (l:=q.l) hqok.2.1 fun x hxm=>Rx ha x (hqok.2.2 x hxm) hMx (c:=m) (d:=m + 1) (s1:=false) (s2:=false) lk0 lk1 (by omega) (by omega)
  rw [uz] at hcon
  have noall:q.l.all (dM p st kn)=false → rP p st parts k L kn=L:=fun e2=>by
    cases k with
    | zero=>rfl
    | succ j=>show nV p st parts j _ L kn=L;simp [nV,hq,e2]
  cases hall:q.l.all (dM p st kn)
  · rw [hall] at hcon
    rw [noall hall]
    refine kJ hcon hMx.wf (Nat.le_refl _) hMx.wf ?_
    simp -implicitDefEqProofs only [hq,hobj,m1,m2,m3,m4,m1',m2',i1,i2,n1,n2,n3,n4,n5,n6,j1,j2,j3,j4,j5,j6,j7,go_sem,seval]
    refine aA (by (first | omega | (simp [aB,aD,aC,Nat.testBit_eq_decide_div_mod_eq];done) | (simp [aB,aD,aC,Nat.testBit_eq_decide_div_mod_eq];omega) | kernel_rfl)) ?_
    simp -implicitDefEqProofs only [hq,hobj,m1,m2,m3,m4,m1',m2',i1,i2,n1,n2,n3,n4,n5,n6,j1,j2,j3,j4,j5,j6,j7,go_sem,seval]
    exact ⟨rfl,same _ _ _ _ _ rfl⟩
  rw [hall] at hcon
  refine kJ hcon hMx.wf (Nat.le_refl _) hMx.wf ?_
  simp -implicitDefEqProofs only [hq,hobj,m1,m2,m3,m4,m1',m2',i1,i2,n1,n2,n3,n4,n5,n6,j1,j2,j3,j4,j5,j6,j7,go_sem,seval]
  refine aA (by (first | omega | (simp [aB,aD,aC,Nat.testBit_eq_decide_div_mod_eq];done) | (simp [aB,aD,aC,Nat.testBit_eq_decide_div_mod_eq];omega) | kernel_rfl)) ?_
  simp -implicitDefEqProofs only [hq,hobj,m1,m2,m3,m4,m1',m2',i1,i2,n1,n2,n3,n4,n5,n6,j1,j2,j3,j4,j5,j6,j7,go_sem,seval]
  have hrl:(dw p kn q.comb).length ≤ 1000000:=by
    have hkn:=dB ha.at'
    have h1:=zP t kn hkn
    have h2:=mW hp kn
    have h3:(jq p kn).length ≤ 1000:=by unfold jq;rw [List.length_take];omega
    have h4:=hp.len
    unfold dw
    repeat' split
    all_goals (try rw [List.length_take]);(try rw [List.length_drop]);(try omega)
    all_goals simp
  cases k with
  | zero =>
    simp -implicitDefEqProofs only [hq,hobj,m1,m2,m3,m4,m1',m2',i1,i2,n1,n2,n3,n4,n5,n6,j1,j2,j3,j4,j5,j6,j7,go_sem,seval]
    refine aA (by (first | omega | (simp [aB,aD,aC,Nat.testBit_eq_decide_div_mod_eq];done) | (simp [aB,aD,aC,Nat.testBit_eq_decide_div_mod_eq];omega) | kernel_rfl)) ?_
    simp -implicitDefEqProofs only [hq,hobj,m1,m2,m3,m4,m1',m2',i1,i2,n1,n2,n3,n4,n5,n6,j1,j2,j3,j4,j5,j6,j7,go_sem,seval]
    exact ⟨rfl,same _ _ _ _ _ rfl⟩
  | succ j =>
    have z0:(((j + 1:Nat):Int)=0)=False:=eq_false (by omega)
    simp -implicitDefEqProofs only [hq,hobj,z0,m1,m2,m3,m4,m1',m2',i1,i2,n1,n2,n3,n4,n5,n6,j1,j2,j3,j4,j5,j6,j7,go_sem,seval]
    refine aJ (KZ p st hp t ha q.comb) ?_
    simp -implicitDefEqProofs only [hq,hobj,z0,m1,m2,m3,m4,m1',m2',i1,i2,n1,n2,n3,n4,n5,n6,j1,j2,j3,j4,j5,j6,j7,go_sem,seval]
    refine kJ (En (hf j rfl) (by omega) hrl hMx hL lk0 lk2 (by omega) (by omega)) hMx.wf (Nat.le_refl _) (Ht hMx.wf) ?_
    simp -implicitDefEqProofs only [hq,hobj,z0,m1,m2,m3,m4,m1',m2',i1,i2,n1,n2,n3,n4,n5,n6,j1,j2,j3,j4,j5,j6,j7,go_sem,seval]
    refine aA (by (first | omega | (simp [aB,aD,aC,Nat.testBit_eq_decide_div_mod_eq];done) | (simp [aB,aD,aC,Nat.testBit_eq_decide_div_mod_eq];omega) | kernel_rfl)) ?_
    simp -implicitDefEqProofs only [hq,hobj,z0,m1,m2,m3,m4,m1',m2',i1,i2,n1,n2,n3,n4,n5,n6,j1,j2,j3,j4,j5,j6,j7,go_sem,seval]
    have hfm:rP p st parts (j + 1) L kn=anyM (kM p st parts j) (dh p st parts j) (dw p kn q.comb) L:=by
      show nV p st parts j _ L kn=_
      simp [nV,hq,hel,hall]
    rw [hfm]
    refine ⟨rfl,fun id hid=>?_⟩
    rw [if_neg (by omega),if_neg (by omega),if_neg (by omega),if_neg (by omega)]
    simp only [AX.look]
    rw [if_neg (by omega),if_neg (by omega),if_neg (by omega),if_neg (by omega),aS]
    by_cases hr:r=id
    · rw [if_pos hr,if_pos hr.symm,hmap];rfl
    · rw [if_neg hr,if_neg (Ne.symm hr)]
theorem RU {p:bA} {st:List Ty.State} {parts:List Part} (hp:gV p) (t:eO p) (hs:st.length ≤ 100000) (hparts:∀ q ∈ parts,Enc.ok q):∀ k,k < parts.length → k ≤ 140737488355328 → tO p st parts k
  | 0=>fun h1 h2=>Pm (N8 hp t hs hparts 0 h1 h2 fun j hj=>by omega)
  | k + 1 => fun h1 h2 => Pm (N8 hp t hs hparts (k + 1) h1 h2 fun j hj => by
      have:j=k:=by omega
      subst this
      exact RU hp t hs hparts j (by omega) (by omega))
end W15
/- Is a page a tree? The document's. -/
namespace W15
open Go Go.AX Go.AX.Ty Go.Proofs
open Classical in
noncomputable def jS (p:bA):Bool:=decide (eO p)
theorem mX {p:bA} (h:eO p):jS p=true:=by unfold jS;exact @decide_eq_true _ (Classical.propDecidable _) h
theorem lQ {p:bA} (h:¬ eO p):jS p=false:=by unfold jS;exact @decide_eq_false _ (Classical.propDecidable _) h
theorem Au {p:bA}:jS p=true ↔ eO p:=by unfold jS;exact @decide_eq_true_iff _ (Classical.propDecidable _)
theorem xU {α:Type} {a b:List α} {k:Nat} (h:a.take k=b.take k) (ha:k=a.length) (hb:a.length=b.length):a=b:=by
  rw [List.take_of_length_le (by omega),List.take_of_length_le (by omega)] at h;exact h
theorem Sv (a b:List Int) (hl:a.length ≤ 140737488355328):aK Tryz.prog 125 [Enc.av a,Enc.av b] (.bool (decide (a=b))):=by
  refine aH mix c125 (by kernel_rfl) (by kernel_rfl) (by simp [ay,ak,Go.AX.flat]) (by first | exact ak _ | simp [flat,ay,ak]) ?_
  by_cases hlen:a.length=b.length
  case neg=>
    have hne:((a.length:Int)=(b.length:Int))=False:=eq_false (by omega)
    rw [decide_eq_false (fun e=>hlen (by rw [e]))]
    simp -implicitDefEqProofs only [F125,hne,go_sem,seval]
  have hne:((a.length:Int)=(b.length:Int))=True:=eq_true (by omega)
  simp -implicitDefEqProofs only [F125,hne,go_sem,seval]
  refine aF (fun k:Nat=>a.length - k) (fun k=>[(0,Enc.av a),(1,Enc.av b),(5,.int .i64 k)]) (fun k s=>k ≤ a.length ∧ a.take k=b.take k) 0 ?_ ?_
  · simp -implicitDefEqProofs only [List.take_zero,go_sem,seval]
  rintro k ρ ⟨g,m⟩ ⟨h1,h2⟩
  rcases Nat.lt_or_ge k a.length with hk | hk
  · obtain ⟨x,hx,hd,hm⟩:=aG hk
    obtain ⟨y,hy,hd2,hm2⟩:=aG (show k < b.length by omega)
    have hlt:((k:Int) < (a.length:Int))=True:=eq_true (by omega)
    have w1:IntKind.i64.wrap ((k:Int) + 1)=((k + 1:Nat):Int):=by rw [wrap64 (by omega) (by omega)];omega
    simp -implicitDefEqProofs only [hlt,hx,hy,w1,go_sem,seval]
    refine aA (by kernel_rfl) ?_
    by_cases hxy:x=y
    · simp -implicitDefEqProofs only [hxy,w1,go_sem,seval]
      refine ⟨k + 1,by omega,rfl,by omega,?_⟩
      rw [List.take_add_one,List.take_add_one,h2,hx,hy,hxy]
    · simp -implicitDefEqProofs only [hxy,go_sem,seval]
      rw [decide_eq_false (fun e=>hxy (by rw [e,hy] at hx;simpa using hx.symm))]
  · have hlt:((k:Int) < (a.length:Int))=False:=eq_false (by omega)
    simp -implicitDefEqProofs only [hlt,go_sem,seval]
    rw [decide_eq_true (xU h2 (by omega) hlen)]
theorem Iy (a b:List Int) (hl:a.length ≤ 140737488355328):aK Tryz.prog 137 [Enc.av a,Enc.av b] (.bool (decide (a=b))):=by
  refine aH mix c137 (by kernel_rfl) (by kernel_rfl) (by simp [ay,ak,Go.AX.flat]) (by first | exact ak _ | simp [flat,ay,ak]) ?_
  by_cases hlen:a.length=b.length
  case neg=>
    have hne:((a.length:Int)=(b.length:Int))=False:=eq_false (by omega)
    rw [decide_eq_false (fun e=>hlen (by rw [e]))]
    simp -implicitDefEqProofs only [F137,hne,go_sem,seval]
  have hne:((a.length:Int)=(b.length:Int))=True:=eq_true (by omega)
  simp -implicitDefEqProofs only [F137,hne,go_sem,seval]
  refine aF (fun k:Nat=>a.length - k) (fun k=>[(0,Enc.av a),(1,Enc.av b),(12,.int .i64 a.length),(13,.int .i64 k)]) (fun k s=>k ≤ a.length ∧ a.take k=b.take k) 0 ?_ ?_
  · simp -implicitDefEqProofs only [List.take_zero,go_sem,seval]
  rintro k ρ ⟨g,m⟩ ⟨h1,h2⟩
  rcases Nat.lt_or_ge k a.length with hk | hk
  · obtain ⟨x,hx,hd,hm⟩:=aG hk
    obtain ⟨y,hy,hd2,hm2⟩:=aG (show k < b.length by omega)
    have hlt:((k:Int) < (a.length:Int))=True:=eq_true (by omega)
    have w1:IntKind.i64.wrap ((k:Int) + 1)=((k + 1:Nat):Int):=by rw [wrap64 (by omega) (by omega)];omega
    simp -implicitDefEqProofs only [hlt,hx,hy,w1,go_sem,seval]
    refine aA (by kernel_rfl) ?_
    by_cases hxy:x=y
    · simp -implicitDefEqProofs only [hxy,w1,go_sem,seval]
      refine ⟨k + 1,by omega,rfl,by omega,?_⟩
      rw [List.take_add_one,List.take_add_one,h2,hx,hy,hxy]
    · simp -implicitDefEqProofs only [hxy,go_sem,seval]
      rw [decide_eq_false (fun e=>hxy (by rw [e,hy] at hx;simpa using hx.symm))]
  · have hlt:((k:Int) < (a.length:Int))=False:=eq_false (by omega)
    simp -implicitDefEqProofs only [hlt,go_sem,seval]
    rw [decide_eq_true (xU h2 (by omega) hlen)]
theorem uE (p:bA) (m n:Nat) (hm:1 ≤ m):bD p (m + 1) n=bD p m n ++ (if JY p m=n then [(m:Int)] else []):=by
  unfold bD
  rw [List.range_succ,List.filter_append,List.map_append]
  congr 1
  by_cases h:JY p m=n <;> simp [h,hm]
theorem xw (p:bA) (n:Nat):bD p 1 n=[]:=by
  simp [bD,List.range_succ]
theorem wM (p:bA) (m n:Nat):(bD p m n).length ≤ m:=by
  unfold bD
  rw [List.length_map]
  exact Nat.le_trans (List.length_filter_le _ _) (by simp)
theorem Q6 (p:bA) (hp:gV p):aK Tryz.prog 107 [Enc.av p] (.bool (jS p)):=by
  refine aH mix c107 (by kernel_rfl) (by kernel_rfl) (by simp [ay,ak,Go.AX.flat]) (by first | exact ak _ | simp [flat,ay,ak]) ?_
  have hpl:=hp.len
  cases hpe:p with
  | nil =>
    rw [lQ (fun t=>t.ne rfl)]
    simp -implicitDefEqProofs only [F107,go_sem,seval]
  | cons x r=>
  rw [← hpe]
  have h0:p[0]? = some x:=by rw [hpe];rfl
  have hl0:((p.length:Int)=0)=False:=eq_false (by rw [hpe];simp;omega)
  have nroot:∀ (P:Prop),(∀ t:eO p,P) → ¬ P → jS p=false:=fun P h1 h2=>lQ fun t=>h2 (h1 t)
  simp -implicitDefEqProofs only [F107,hl0,h0,go_sem,seval]
  by_cases r1:x.up = -1
  case neg=>
    rw [nroot _ (fun t=>(t.root x h0).1) r1]
    simp -implicitDefEqProofs only [r1,hl0,h0,go_sem,seval]
  by_cases r2:x.name=[]
  case neg=>
    rw [nroot _ (fun t=>(t.root x h0).2.1) r2]
    simp -implicitDefEqProofs only [r1,r2,hl0,h0,go_sem,seval]
  by_cases r3:x.text=[]
  case neg=>
    rw [nroot _ (fun t=>(t.root x h0).2.2.1) r3]
    simp -implicitDefEqProofs only [r1,r2,r3,hl0,h0,go_sem,seval]
  by_cases r4:x.attrs=[]
  case neg=>
    rw [nroot _ (fun t=>(t.root x h0).2.2.2) r4]
    have hg:((x.attrs.length:Int) > 0)=True:=eq_true (by have:=List.length_pos_iff.2 r4;omega)
    simp -implicitDefEqProofs only [r1,r2,r3,hg,hl0,h0,go_sem,seval]
  have hg:((x.attrs.length:Int) > 0)=False:=eq_false (by rw [r4];simp)
  simp -implicitDefEqProofs only [r1,r2,r3,hg,hl0,h0,go_sem,seval]
  refine aF (fun k:Nat=>p.length - k) (fun k=>[(0,Enc.av p),(3,.int .i64 k)]) (fun k s=>s=⟨[],0⟩ ∧ 1 ≤ k ∧ k ≤ p.length ∧ ∀ j y,1 ≤ j → j < k → p[j]? = some y → 0 ≤ y.up ∧ y.up < (j:Int)) 1 ?_ ?_
  · simp -implicitDefEqProofs only [go_sem,seval]
    refine ⟨by rw [hpe];simp,fun j y h1 h2=>by omega⟩
  rintro k ρ s ⟨rfl,h1,h2,h3⟩
  rcases Nat.lt_or_ge k p.length with hk | hk
  · obtain ⟨y,hy,hd,hm⟩:=aG hk
    have hlt:((k:Int) < (p.length:Int))=True:=eq_true (by omega)
    have w1:IntKind.i64.wrap ((k:Int) + 1)=((k + 1:Nat):Int):=by rw [wrap64 (by omega) (by omega)];omega
    simp -implicitDefEqProofs only [hlt,hy,go_sem,seval]
    by_cases u1:y.up < 0
    · rw [nroot _ (fun t=>(t.up k y h1 hy).1) (by omega)]
      simp -implicitDefEqProofs only [u1,hy,go_sem,seval]
    by_cases u2:y.up ≥ (k:Int)
    · rw [nroot _ (fun t=>(t.up k y h1 hy).2) (by omega)]
      simp -implicitDefEqProofs only [u1,u2,hy,go_sem,seval]
    simp -implicitDefEqProofs only [u1,u2,hy,w1,go_sem,seval]
    refine ⟨k + 1,by omega,rfl,by omega,by omega,fun j z h4 h5 hz=>?_⟩
    rcases Nat.lt_or_ge j k with h | h
    · exact h3 j z h4 h hz
    · have:j=k:=by omega
      subst this
      rw [hy] at hz
      simp only [Option.some.injEq] at hz
      subst hz;omega
  have hlt:((k:Int) < (p.length:Int))=False:=eq_false (by omega)
  have hup:∀ (j:Nat) y,1 ≤ j → p[j]? = some y → 0 ≤ y.up ∧ y.up < (j:Int):=fun j y a b=>h3 j y a (by have:=dB b;omega) b
  simp -implicitDefEqProofs only [hlt,go_sem,seval]
  refine aF (fun n:Nat=>p.length - n) (fun n=>[(0,Enc.av p),(4,.int .i64 n)]) (fun n s=>n ≤ p.length ∧ ∀ j y,j < n → p[j]? = some y → y.kids=bD p p.length j) 0 ?_ ?_
  · simp -implicitDefEqProofs only [go_sem,seval]
    exact fun j y h=>h.elim
  clear h1 h2 h3 hk hlt
  rintro n ρ ⟨g,m⟩ ⟨h1,h2⟩
  rcases Nat.lt_or_ge n p.length with hn | hn
  · obtain ⟨y,hy,hd,hm⟩:=aG hn
    have hlt:((n:Int) < (p.length:Int))=True:=eq_true (by omega)
    have wn:IntKind.i64.wrap ((n:Int) + 1)=((n + 1:Nat):Int):=by rw [wrap64 (by omega) (by omega)];omega
    simp -implicitDefEqProofs only [hlt,go_sem,seval]
    refine aF (fun k:Nat=>p.length - k) (fun k=>[(0,Enc.av p),(4,.int .i64 n),(5,.sl m (bD p k n).length 0 (bD p k n).length 1),(6,.int .i64 k)])
      (fun k s=>1 ≤ k ∧ k ≤ p.length ∧ m + 1 ≤ s.next ∧ AX.look m s.heap=some (.cells (bD p k n).length (aj (bD p k n)) false)) 1 ?_ ?_
    · simp -implicitDefEqProofs only [xw,aj,go_sem,seval]
      rw [hpe];simp
    rintro k ρ ⟨g2,q⟩ ⟨k1,k2,k3,k4⟩
    dsimp only at k3 k4
    have hF:=wM p k n
    have hfn:=uE p k n k1
    generalize hFd:bD p k n=F at k4 hF hfn
    have hc:(aj F).length=F.length:=ig F
    have ht:List.take F.length (aj F)=aj F:=List.take_of_length_le (by omega)
    have q0:(q=m)=False:=eq_false (by omega)
    rcases Nat.lt_or_ge k p.length with hk | hk
    · obtain ⟨z,hz,_,_⟩:=aG hk
      have hlt2:((k:Int) < (p.length:Int))=True:=eq_true (by omega)
      have w1:IntKind.i64.wrap ((k:Int) + 1)=((k + 1:Nat):Int):=by rw [wrap64 (by omega) (by omega)];omega
      have hbd:((F.length + 1) * 8 ≤ 140737488355328)=True:=eq_true (by omega)
      have hmx:(F.length ≤ F.length)=True:=eq_true (by omega)
      rw [vg hz] at hfn
      by_cases hu:z.up=(n:Int)
      · rw [if_pos hu] at hfn
        have hu':(z.up=(n:Int))=True:=eq_true hu
        simp -implicitDefEqProofs only [hlt2,hz,hu',k4,hc,ht,hbd,hmx,q0,w1,go_sem,seval]
        refine ⟨k + 1,by omega,?_⟩
        rw [hfn,aW]
        simp only [List.length_append,List.length_cons,List.length_nil,Nat.zero_add,true_and,and_true]
        first | exact ⟨by omega,by omega,by omega,rfl⟩ | exact ⟨by omega,by omega,rfl⟩ | exact ⟨by omega,rfl⟩ | trace_state
      · rw [if_neg hu,List.append_nil] at hfn
        have hu':(z.up=(n:Int))=False:=eq_false hu
        simp -implicitDefEqProofs only [hlt2,hz,hu',k4,w1,go_sem,seval]
        refine ⟨k + 1,by omega,?_⟩
        rw [hfn]
        exact ⟨⟨rfl,rfl⟩,by omega,by omega,k3,rfl⟩
    · have hlt2:((k:Int) < (p.length:Int))=False:=eq_false (by omega)
      have hkl:k=p.length:=by omega
      subst hkl
      simp -implicitDefEqProofs only [hlt2,hy,k4,hc,ht,go_sem,seval]
      refine au (Sv F y.kids (by omega)) ?_
      simp -implicitDefEqProofs only [go_sem,seval]
      by_cases hFk:F=y.kids
      · simp -implicitDefEqProofs only [hFk,wn,go_sem,seval]
        refine ⟨n + 1,by omega,rfl,by omega,fun j z h3 hz=>?_⟩
        rcases Nat.lt_or_ge j n with h | h
        · exact h2 j z h hz
        · have:j=n:=by omega
          subst this
          rw [hy] at hz
          simp only [Option.some.injEq] at hz
          subst hz;rw [← hFk,← hFd]
      · simp -implicitDefEqProofs only [hFk,go_sem,seval]
        rw [nroot _ (fun t=>(t.kids n y hy)) (fun e=>hFk (by rw [e,← hFd]))]
  · have hlt:((n:Int) < (p.length:Int))=False:=eq_false (by omega)
    simp -implicitDefEqProofs only [hlt,go_sem,seval]
    rw [mX ⟨by rw [hpe];simp,fun a ha=>?_,hup,fun j y hy=>h2 j y (by have:=dB hy;omega) hy⟩]
    rw [h0] at ha
    simp only [Option.some.injEq] at ha
    subst ha
    exact ⟨r1,r2,r3,r4⟩
end W15
/- Is a page a tree? The program's. -/
namespace W15
open Go Go.AX Go.AX.Ty Go.Proofs
structure Rows (h:List (Nat × AX.Obj)) (m:Nat) (cs:List AV) (N:Nat) (K:Nat → List Int) (ids:Nat → Nat):Prop where
  len:cs.length=N
  cell:∀ i,i < N → cs[i]? = some (if K i=[] then .nils else .sl (ids i) (K i).length 0 (K i).length 1)
  obj:∀ i,i < N → K i ≠ [] → AX.look (ids i) h=some (.cells (K i).length (aj (K i)) false)
  lo:∀ i,i < N → K i ≠ [] → 1 ≤ ids i ∧ ids i < m
  inj:∀ i j,i < N → j < N → K i ≠ [] → K j ≠ [] → ids i=ids j → i=j
theorem Rows.congr {h:List (Nat × AX.Obj)} {m:Nat} {cs:List AV} {N:Nat} {K K':Nat → List Int} {ids:Nat → Nat} (R:Rows h m cs N K ids) (e:∀ i,K i=K' i):Rows h m cs N K' ids:=by
  have:K=K':=funext e
  rw [← this];exact R
theorem Rows.push {h:List (Nat × AX.Obj)} {m:Nat} {cs:List AV} {N:Nat} {K:Nat → List Int} {ids:Nat → Nat} (R:Rows h m cs N K ids) (o:AX.Obj):Rows ((m,o) :: h) (m + 1) cs N K ids:=
  ⟨R.len,R.cell,fun i hi hk=>by
    have:=(R.lo i hi hk).2
    simp only [AX.look];rw [if_neg (by omega)];exact R.obj i hi hk,fun i hi hk=>by have:=R.lo i hi hk;omega,R.inj⟩
theorem Rows.Vh {h:List (Nat × AX.Obj)} {m:Nat} {cs:List AV} {N:Nat} {K:Nat → List Int} {ids:Nat → Nat} (R:Rows h m cs N K ids) (o:AX.Obj):Rows (putAt 0 o h) m cs N K ids:=
  ⟨R.len,R.cell,fun i hi hk=>by
    have:=(R.lo i hi hk).1
    rw [fM (by omega)];exact R.obj i hi hk,R.lo,R.inj⟩
theorem I7 {cs:List AV} {u i:Nat} {v:AV} (hu:u < cs.length):(cs.take u ++ v :: cs.drop (u + 1))[i]? = if i=u then some v else cs[i]?:=by
  have e:cs.take u ++ v :: cs.drop (u + 1)=cs.set u v:=by rw [List.set_eq_take_append_cons_drop,if_pos hu]
  rw [e,List.getElem?_set]
  by_cases h:u=i
  · rw [if_pos h,if_pos h.symm,if_pos (by omega)]
  · rw [if_neg h,if_neg (Ne.symm h)]
theorem Rows.add0 {h:List (Nat × AX.Obj)} {m:Nat} {cs:List AV} {N:Nat} {K:Nat → List Int} {ids:Nat → Nat} (R:Rows h m cs N K ids) {u:Nat} (hu:u < N) (hK:K u=[]) (k:Int) {K':Nat → List Int} (hK':∀ i,K' i=if i=u then K u ++ [k] else K i) (hm:1 ≤ m) :
    Rows ((m,.cells 1 [.int .i64 k] false) :: h) (m + 1) (cs.take u ++ .sl m 1 0 1 1 :: cs.drop (u + 1)) N K' (fun i=>if i=u then m else ids i):=by
  have hl:=R.len
  refine ⟨?_,fun i hi=>?_,fun i hi hk=>?_,fun i hi hk=>?_,fun i j hi hj hki hkj he=>?_⟩
  · rw [List.length_append,List.length_take,List.length_cons,List.length_drop];omega
  · rw [I7 (by omega),hK' i]
    by_cases h:i=u
    · subst h;simp [hK]
    · rw [if_neg h,if_neg h];simp only [if_neg h];exact R.cell i hi
  · rw [hK' i] at hk ⊢
    by_cases h:i=u
    · subst h;simp [hK,AX.look,aj,Enc.cells]
    · rw [if_neg h] at hk
      simp only [if_neg h]
      have:=(R.lo i hi hk).2
      simp only [AX.look];rw [if_neg (by omega)];exact R.obj i hi hk
  · rw [hK' i] at hk
    by_cases h:i=u
    · simp only [if_pos h];omega
    · rw [if_neg h] at hk
      simp only [if_neg h]
      have:=R.lo i hi hk;omega
  · rw [hK' i] at hki
    rw [hK' j] at hkj
    by_cases h:i=u
    · by_cases h':j=u
      · omega
      · rw [if_neg h'] at hkj
        simp only [if_pos h,if_neg h'] at he
        have:=R.lo j hj hkj;omega
    · rw [if_neg h] at hki
      by_cases h':j=u
      · simp only [if_neg h,if_pos h'] at he
        have:=R.lo i hi hki;omega
      · rw [if_neg h'] at hkj
        simp only [if_neg h,if_neg h'] at he
        exact R.inj i j hi hj hki hkj he
theorem Rows.add1 {h:List (Nat × AX.Obj)} {m:Nat} {cs:List AV} {N:Nat} {K:Nat → List Int} {ids:Nat → Nat} (R:Rows h m cs N K ids) {u:Nat} (hu:u < N) (hK:K u ≠ []) (k:Int) {K':Nat → List Int} (hK':∀ i,K' i=if i=u then K u ++ [k] else K i) :
    Rows (putAt (ids u) (.cells ((K u).length + 1) (aj (K u) ++ [.int .i64 k]) false) h) m (cs.take u ++ .sl (ids u) ((K u).length + 1) 0 ((K u).length + 1) 1 :: cs.drop (u + 1)) N K' ids:=by
  have hl:=R.len
  have hne:∀ i,K' i ≠ [] → K i ≠ [] ∨ i=u:=fun i h=>by
    rw [hK' i] at h
    by_cases h':i=u
    · exact .inr h'
    · rw [if_neg h'] at h;exact .inl h
  refine ⟨?_,fun i hi=>?_,fun i hi hk=>?_,fun i hi hk=>?_,fun i j hi hj hki hkj he=>?_⟩
  · rw [List.length_append,List.length_take,List.length_cons,List.length_drop];omega
  · rw [I7 (by omega),hK' i]
    by_cases h:i=u
    · subst h;simp
    · rw [if_neg h,if_neg h];exact R.cell i hi
  · rw [hK' i] at hk ⊢
    by_cases h:i=u
    · subst h
      rw [if_pos rfl,jF (R.obj i hi hK),aW]
      simp;rfl
    · rw [if_neg h] at hk ⊢
      rw [fM (fun e=>h (R.inj i u hi hu hk hK e.symm))];exact R.obj i hi hk
  · rcases hne i hk with h | h
    · exact R.lo i hi h
    · subst h;exact R.lo i hi hK
  · have a:K i ≠ []:=by rcases hne i hki with h | h;exact h;subst h;exact hK
    have b:K j ≠ []:=by rcases hne j hkj with h | h;exact h;subst h;exact hK
    exact R.inj i j hi hj a b he
theorem Uf (p:bA) (hp:gV p):aK Tryz.prog 121 [Enc.av p] (.bool (jS p)):=by
  refine aH mix c121 (by kernel_rfl) (by kernel_rfl) (by simp [ay,ak,Go.AX.flat]) (by first | exact ak _ | simp [flat,ay,ak]) ?_
  have hpl:=hp.len
  cases hpe:p with
  | nil =>
    rw [lQ (fun t=>t.ne rfl)]
    simp -implicitDefEqProofs only [F121,go_sem,seval]
    refine aA (by kernel_rfl) ?_
    simp -implicitDefEqProofs only [go_sem,seval]
  | cons x r=>
  rw [← hpe]
  have h0:p[0]? = some x:=by rw [hpe];rfl
  have hl0:((p.length:Int)=0)=False:=eq_false (by rw [hpe];simp;omega)
  have nroot:∀ (P:Prop),(∀ t:eO p,P) → ¬ P → jS p=false:=fun P h1 h2=>lQ fun t=>h2 (h1 t)
  simp -implicitDefEqProofs only [F121,hl0,h0,go_sem,seval]
  have hxok:=(Node.bH x).1 (hp.ok.2 x (List.mem_of_getElem? h0))
  have hcat:(List.length x.name + List.length x.text ≤ 9223372036854775807)=True:=eq_true (by have h1:List.length x.name ≤ 140737488355328:=hxok.1;have h2:List.length x.text ≤ 140737488355328:=hxok.2.2.1;omega)
  by_cases r1:x.up = -1
  case neg=>
    rw [nroot _ (fun t=>(t.root x h0).1) r1]
    simp -implicitDefEqProofs only [r1,hl0,h0,go_sem,seval]
    refine aA (by kernel_rfl) ?_
    simp -implicitDefEqProofs only [go_sem,seval]
  by_cases r2:x.name ++ x.text=[]
  case neg=>
    rw [nroot (x.name ++ x.text=[]) (fun t=>by rw [(t.root x h0).2.1,(t.root x h0).2.2.1];rfl) r2]
    simp -implicitDefEqProofs only [r1,r2,hcat,hl0,h0,go_sem,seval]
    refine aA (by kernel_rfl) ?_
    simp -implicitDefEqProofs only [go_sem,seval]
  by_cases r4:x.attrs=[]
  case neg=>
    rw [nroot _ (fun t=>(t.root x h0).2.2.2) r4]
    have hg:((x.attrs.length:Int) > 0)=True:=eq_true (by have:=List.length_pos_iff.2 r4;omega)
    simp -implicitDefEqProofs only [r1,r2,hcat,hg,hl0,h0,go_sem,seval]
    refine aA (by kernel_rfl) ?_
    simp -implicitDefEqProofs only [go_sem,seval]
  have hg:((x.attrs.length:Int) > 0)=False:=eq_false (by rw [r4];simp)
  have hcap:(p.length * 24 ≤ 140737488355328 ∧ p.length ≤ 9223372036854775807)=True:=eq_true (by omega)
  have hcap2:(p.length * 24 ≤ 140737488355328)=True:=eq_true (by omega)
  have hcap3:(p.length ≤ 9223372036854775807)=True:=eq_true (by omega)
  have rep:∀ q:Nat,(List.replicate q [AV.nils]).flatten=List.replicate q .nils:=fun q=>by
    induction q with
    | zero=>rfl
    | succ q ih=>rw [List.replicate_succ,List.flatten_cons,ih];rfl
  simp -implicitDefEqProofs only [r1,r2,hcat,hg,hl0,h0,go_sem,seval]
  refine aA (by kernel_rfl) ?_
  simp -implicitDefEqProofs only [hcap,hcap2,hcap3,rep,go_sem,seval]
  refine aF (fun q:Nat × List AV × (Nat → Nat)=>p.length - q.1) (fun q=>[(0,Enc.av p),(3,.sl 0 p.length 0 p.length 1),(41,Enc.av p),(42,.int .i64 p.length),(43,.int .i64 q.1)])
    (fun q s=>q.1 ≤ p.length ∧ (∀ (j:Nat) y,1 ≤ j → j < q.1 → p[j]? = some y → 0 ≤ y.up ∧ y.up < (j:Int)) ∧ 1 ≤ s.next ∧ AX.look 0 s.heap=some (.cells p.length q.2.1 false) ∧ Rows s.heap s.next q.2.1 p.length (bD p q.1) q.2.2) (0,List.replicate p.length .nils,fun _=>0) ?_ ?_
  · simp -implicitDefEqProofs only [hcap,rep,go_sem,seval]
    refine ⟨fun j y _ h=>h.elim,by simp,fun i hi=>?_,fun i hi h=>(h (by simp [bD])).elim,fun i hi h=>(h (by simp [bD])).elim,fun i j _ _ h=>(h (by simp [bD])).elim⟩
    rw [if_pos (by simp [bD])];simp [hi]
  rintro ⟨k,cs,ids⟩ ρ ⟨g,m⟩ ⟨h1,h2,h3,h4,h5⟩
  dsimp only at h1 h2 h3 h4 h5
  rcases Nat.lt_or_ge k p.length with hk | hk
  · obtain ⟨y,hy,hd,hm⟩:=aG hk
    have hlt:((k:Int) < (p.length:Int))=True:=eq_true (by omega)
    have w1:IntKind.i64.wrap ((k:Int) + 1)=((k + 1:Nat):Int):=by rw [wrap64 (by omega) (by omega)];omega
    have m0:(m=0)=False:=eq_false (by omega)
    have i0:(0 < m)=True:=eq_true (by omega)
    have i1:(0 < m + 1)=True:=eq_true (by omega)
    have i2:(0 < m + 1 + 1)=True:=eq_true (by omega)
    simp -implicitDefEqProofs only [hlt,hy,h4,m0,i0,i1,i2,go_sem,seval]
    by_cases hk0:k=0
    · have z0:((k:Int)=0)=True:=eq_true (by omega)
      simp -implicitDefEqProofs only [z0,w1,go_sem,seval]
      refine ⟨(k + 1,cs,ids),by simp only;omega,rfl,by simp only;omega,fun j z a b hz=>by simp only at b;omega,?_⟩
      rw [if_neg (by omega)]
      refine ⟨h4,(h5.push _).congr fun i=>?_⟩
      subst hk0
      rw [xw];simp [bD]
    have z0:((k:Int)=0)=False:=eq_false (by omega)
    by_cases u1:y.up < 0
    · rw [nroot _ (fun t=>(t.up k y (by omega) hy).1) (by omega)]
      simp -implicitDefEqProofs only [z0,u1,hy,go_sem,seval]
    by_cases u2:y.up ≥ (k:Int)
    · rw [nroot _ (fun t=>(t.up k y (by omega) hy).2) (by omega)]
      simp -implicitDefEqProofs only [z0,u1,u2,hy,go_sem,seval]
    obtain ⟨u,hu⟩:=Int.eq_ofNat_of_zero_le (show 0 ≤ y.up by omega)
    have hul:(u < p.length)=True:=eq_true (by omega)
    have hcl:=h5.len
    have hle:(u ≤ cs.length)=True:=eq_true (by omega)
    rw [hu] at u1 u2
    have hcell:=h5.cell u (by omega)
    have hdr:List.drop u cs=(if bD p k u=[] then AV.nils else .sl (ids u) (bD p k u).length 0 (bD p k u).length 1) :: List.drop (u + 1) cs:=by
      rw [List.drop_eq_getElem_cons (by omega)]
      rw [List.getElem?_eq_getElem (by omega)] at hcell
      simp only [Option.some.injEq] at hcell
      rw [hcell]
    have hle':(u ≤ p.length)=True:=eq_true (by omega)
    have hle1:(u + 1 ≤ cs.length)=True:=eq_true (by omega)
    have hle2:(u + 1 ≤ p.length)=True:=eq_true (by omega)
    have hK':∀ i,bD p (k + 1) i=if i=u then bD p k u ++ [(k:Int)] else bD p k i:=fun i=>by
      rw [uE p k i (by omega),vg hy,hu]
      by_cases h:i=u
      · subst h;simp
      · rw [if_neg (by omega),if_neg h,List.append_nil]
    have hup':∀ (j:Nat) z,1 ≤ j → j < k + 1 → p[j]? = some z → 0 ≤ z.up ∧ z.up < (j:Int):=fun j z a b hz=>by
      rcases Nat.lt_or_ge j k with h | h
      · exact h2 j z a h hz
      · have:j=k:=by omega
        subst this
        rw [hy] at hz
        simp only [Option.some.injEq] at hz
        subst hz;omega
    have m1:(m + 1=0)=False:=eq_false (by omega)
    have m2:(m + 1 + 1=0)=False:=eq_false (by omega)
    have n1:(m + 1=m)=False:=eq_false (by omega)
    have n2:(m + 1 + 1=m)=False:=eq_false (by omega)
    have n3:(m + 1 + 1=m + 1)=False:=eq_false (by omega)
    have n4:(0=m)=False:=eq_false (by omega)
    have i3:(0 < m + 1 + 1 + 1)=True:=eq_true (by omega)
    have j1:(m < m + 1 + 1)=True:=eq_true (by omega)
    have j2:(m + 1 < m + 1 + 1)=True:=eq_true (by omega)
    have j3:(m < m + 1 + 1 + 1)=True:=eq_true (by omega)
    have j4:(m + 1 < m + 1 + 1 + 1)=True:=eq_true (by omega)
    by_cases hK:bD p k u=[]
    · rw [if_pos hK] at hdr
      simp -implicitDefEqProofs only [z0,u1,u2,hy,hu,hul,h4,m0,i0,i1,i2,i3,hle,hle',hdr,hle1,hle2,hcl,m1,m2,n1,n2,n3,n4,j1,j2,j3,j4,w1,go_sem,seval]
      refine aA (by (first | omega | (simp [aB,aD,aC,Nat.testBit_eq_decide_div_mod_eq];done) | (simp [aB,aD,aC,Nat.testBit_eq_decide_div_mod_eq];omega) | kernel_rfl)) ?_
      simp -implicitDefEqProofs only [z0,u1,u2,hy,hu,hul,h4,m0,i0,i1,i2,i3,hle,hle',hdr,hle1,hle2,hcl,m1,m2,n1,n2,n3,n4,j1,j2,j3,j4,w1,go_sem,seval]
      have e:List.take u cs ++ [AV.sl (m + 1 + 1) 1 0 1 1] ++ List.drop (u + 1) cs=List.take u cs ++ AV.sl (m + 1 + 1) 1 0 1 1 :: List.drop (u + 1) cs:=by simp
      rw [e]
      exact ⟨(k + 1,_,_),by simp only;omega,rfl,by simp only;omega,hup',rfl,(((h5.Vh _).push _).push _).add0 (by omega) hK (k:Int) hK' (by omega)⟩
    · rw [if_neg hK] at hdr
      have hobj:=h5.obj u (by omega) hK
      have hlo:=h5.lo u (by omega) hK
      have hKl:=wM p k u
      have b0:(ids u=0)=False:=eq_false (by omega)
      have b1:(0=ids u)=False:=eq_false (by omega)
      have b2:(m=ids u)=False:=eq_false (by omega)
      have b3:(m + 1=ids u)=False:=eq_false (by omega)
      have b4:(ids u=m)=False:=eq_false (by omega)
      have b5:(ids u < m + 1 + 1)=True:=eq_true (by omega)
      have hc1:(aj (bD p k u)).length=(bD p k u).length:=ig _
      have ht:List.take (bD p k u).length (aj (bD p k u))=aj (bD p k u):=List.take_of_length_le (by omega)
      have hbd:(((bD p k u).length + 1) * 8 ≤ 140737488355328)=True:=eq_true (by omega)
      simp -implicitDefEqProofs only [z0,u1,u2,hy,hu,hul,h4,m0,i0,i1,i2,i3,hle,hle',hdr,hle1,hle2,hcl,m1,m2,n1,n2,n3,n4,j1,j2,j3,j4,w1,hobj,b0,b1,b2,b3,b4,b5,hc1,ht,hbd,go_sem,seval]
      refine aA (by (first | omega | (simp [aB,aD,aC,Nat.testBit_eq_decide_div_mod_eq];done) | (simp [aB,aD,aC,Nat.testBit_eq_decide_div_mod_eq];omega) | kernel_rfl)) ?_
      simp -implicitDefEqProofs only [z0,u1,u2,hy,hu,hul,h4,m0,i0,i1,i2,i3,hle,hle',hdr,hle1,hle2,hcl,m1,m2,n1,n2,n3,n4,j1,j2,j3,j4,w1,hobj,b0,b1,b2,b3,b4,b5,hc1,ht,hbd,go_sem,seval]
      have e:List.take u cs ++ [AV.sl (ids u) ((bD p k u).length + 1) 0 ((bD p k u).length + 1) 1] ++ List.drop (u + 1) cs=List.take u cs ++ AV.sl (ids u) ((bD p k u).length + 1) 0 ((bD p k u).length + 1) 1 :: List.drop (u + 1) cs:=by simp
      rw [e]
      exact ⟨(k + 1,_,ids),by simp only;omega,rfl,by simp only;omega,hup',rfl,((((h5.add1 (by omega) hK (k:Int) hK').Vh _).push _).push _)⟩
  · have hlt:((k:Int) < (p.length:Int))=False:=eq_false (by omega)
    have hkl:k=p.length:=by omega
    subst hkl
    have hups:∀ (j:Nat) z,1 ≤ j → p[j]? = some z → 0 ≤ z.up ∧ z.up < (j:Int):=fun j z a hz=>h2 j z a (dB hz) hz
    simp -implicitDefEqProofs only [hlt,go_sem,seval]
    refine aF (fun n:Nat=>p.length - n) (fun n=>[(0,Enc.av p),(3,.sl 0 p.length 0 p.length 1),(72,Enc.av p),(73,.int .i64 p.length),(74,.int .i64 n)])
      (fun n s=>n ≤ p.length ∧ (∀ (j:Nat) z,j < n → p[j]? = some z → z.kids=bD p p.length j) ∧ 1 ≤ s.next ∧ AX.look 0 s.heap=some (.cells p.length cs false) ∧
        ∀ i,i < p.length → bD p p.length i ≠ [] → (1 ≤ ids i ∧ ids i < s.next) ∧ ∃ sn,AX.look (ids i) s.heap=some (.cells (bD p p.length i).length (aj (bD p p.length i)) sn)) 0 ?_ ?_
    · simp -implicitDefEqProofs only [go_sem,seval]
      exact ⟨fun j z h=>h.elim,h3,h4,fun i hi hk=>⟨h5.lo i hi hk,false,h5.obj i hi hk⟩⟩
    have hcs:=h5.cell
    have hcl:=h5.len
    have hinj:=h5.inj
    clear h1 h2 h3 h4 h5 hk hlt
    rintro n ρ ⟨g2,m⟩ ⟨h1,h2,h3,h4,h5⟩
    dsimp only at h3 h4 h5
    rcases Nat.lt_or_ge n p.length with hn | hn
    · obtain ⟨y,hy,hd,hm⟩:=aG hn
      have hlt:((n:Int) < (p.length:Int))=True:=eq_true (by omega)
      have w1:IntKind.i64.wrap ((n:Int) + 1)=((n + 1:Nat):Int):=by rw [wrap64 (by omega) (by omega)];omega
      have m0:(m=0)=False:=eq_false (by omega)
      have n4:(0=m)=False:=eq_false (by omega)
      have i0:(0 < m)=True:=eq_true (by omega)
      have i1:(0 < m + 1)=True:=eq_true (by omega)
      have hnl:(n < p.length)=True:=eq_true hn
      have hle:(n ≤ cs.length)=True:=eq_true (by omega)
      have hle':(n ≤ p.length)=True:=eq_true (by omega)
      have hyk:=hp.kids y hm
      have hcell:=hcs n hn
      have hdr:List.drop n cs=(if bD p p.length n=[] then AV.nils else .sl (ids n) (bD p p.length n).length 0 (bD p p.length n).length 1) :: List.drop (n + 1) cs:=by
        rw [List.drop_eq_getElem_cons (by omega)]
        rw [List.getElem?_eq_getElem (by omega)] at hcell
        simp only [Option.some.injEq] at hcell
        rw [hcell]
      have hnext:y.kids=bD p p.length n → ∀ (j:Nat) z,j < n + 1 → p[j]? = some z → z.kids=bD p p.length j:=fun e j z hj hz=>by
        rcases Nat.lt_or_ge j n with h | h
        · exact h2 j z h hz
        · have:j=n:=by omega
          subst this
          rw [hy] at hz
          simp only [Option.some.injEq] at hz
          subst hz;exact e
      have hno:¬ y.kids=bD p p.length n → jS p=false:=fun e=>nroot _ (fun t=>t.kids n y hy) e
      by_cases hK:bD p p.length n=[]
      · rw [if_pos hK] at hdr
        rw [hK] at hnext hno
        simp -implicitDefEqProofs only [hlt,hnl,hy,h4,m0,n4,i0,i1,hle,hle',hdr,hcl,go_sem,seval]
        refine aJ (Iy y.kids [] (by omega)) ?_
        simp -implicitDefEqProofs only [hlt,hnl,hy,h4,m0,n4,i0,i1,hle,hle',hdr,hcl,go_sem,seval]
        refine aA (by (first | omega | (simp [aB,aD,aC,Nat.testBit_eq_decide_div_mod_eq];done) | (simp [aB,aD,aC,Nat.testBit_eq_decide_div_mod_eq];omega) | kernel_rfl)) ?_
        by_cases e:y.kids=[]
        · simp -implicitDefEqProofs only [e,w1,h4,m0,n4,go_sem,seval]
          refine ⟨n + 1,by omega,rfl,by omega,hnext e,fun i hi hk=>?_⟩
          obtain ⟨a,sn,b⟩:=h5 i hi hk
          exact ⟨by omega,sn,by rw [if_neg (by omega)];exact b⟩
        · simp -implicitDefEqProofs only [e,go_sem,seval]
          rw [hno e]
      · rw [if_neg hK] at hdr
        obtain ⟨⟨a1,a2⟩,sn,hob⟩:=h5 n hn hK
        have b0:(ids n=0)=False:=eq_false (by omega)
        have b1:(m=ids n)=False:=eq_false (by omega)
        have b2:(ids n=m)=False:=eq_false (by omega)
        have b3:(ids n < m + 1)=True:=eq_true (by omega)
        have b4:(0=ids n)=False:=eq_false (by omega)
        have hc1:(aj (bD p p.length n)).length=(bD p p.length n).length:=ig _
        have ht:List.take (bD p p.length n).length (aj (bD p p.length n))=aj (bD p p.length n):=List.take_of_length_le (by omega)
        cases sn
        all_goals
          simp -implicitDefEqProofs only [hlt,hnl,hy,h4,m0,n4,i0,i1,hle,hle',hdr,hcl,hob,b0,b1,b2,b3,b4,hc1,ht,go_sem,seval]
          refine aJ (Iy y.kids (bD p p.length n) (by omega)) ?_
          simp -implicitDefEqProofs only [hlt,hnl,hy,h4,m0,n4,i0,i1,hle,hle',hdr,hcl,hob,b0,b1,b2,b3,b4,hc1,ht,go_sem,seval]
          refine aA (by (first | omega | (simp [aB,aD,aC,Nat.testBit_eq_decide_div_mod_eq];done) | (simp [aB,aD,aC,Nat.testBit_eq_decide_div_mod_eq];omega) | kernel_rfl)) ?_
          by_cases e:y.kids=bD p p.length n
          · simp -implicitDefEqProofs only [e,w1,h4,hob,b0,b1,b2,b3,b4,m0,n4,go_sem,seval]
            refine ⟨n + 1,by omega,rfl,by omega,hnext e,fun i hi hk=>?_⟩
            obtain ⟨a,sn,b⟩:=h5 i hi hk
            rw [if_neg (by omega)]
            by_cases hni:ids n=ids i
            · have:n=i:=hinj n i hn hi hK hk hni
              subst this
              exact ⟨by omega,true,by rw [if_pos rfl]⟩
            · exact ⟨by omega,sn,by rw [if_neg hni];exact b⟩
          · simp -implicitDefEqProofs only [e,go_sem,seval]
            rw [hno e]
    · have hlt:((n:Int) < (p.length:Int))=False:=eq_false (by omega)
      simp -implicitDefEqProofs only [hlt,go_sem,seval]
      have hne:=List.append_eq_nil_iff.1 r2
      rw [mX ⟨by rw [hpe];simp,fun a ha=>?_,hups,fun j y hy=>h2 j y (by have:=dB hy;omega) hy⟩]
      rw [h0] at ha
      simp only [Option.some.injEq] at ha
      subst ha
      exact ⟨r1,hne.1,hne.2,r4⟩
end W15
/- The program's answers. -/
namespace W15
open Go Go.AX Go.AX.Ty Go.Proofs
theorem A8 {p:bA} {n:Int} (h:bE p n=true):∃ (k:Nat) (x:Ty.Node),n=k ∧ p[k]? = some x ∧ x.name ≠ []:=by
  rcases fB p n with ⟨e,_⟩ | ⟨k,x,e1,_,hx,e⟩
  · simp [bE,e] at h
  · simp only [bE,e,decide_eq_true_eq] at h
    exact ⟨k,x,e1,hx,h⟩
theorem VF (p : bA) (st : List Ty.State) (c : Complex) (hp : gV p) (h : List (Nat × AX.Obj)) (m : Nat) :
    aR Tryz.prog 104 [Enc.av p,Enc.av st,Enc.av c] ⟨h,m⟩ fun v s'=>v=.ptr (m + 1 + 1) 0 0 ∧
      s'=⟨(m + 1 + 1,.cells 0 [if jS p=true then Enc.av p else .nils,Enc.av st,Enc.av c.parts,.map (m + 1)] false) :: (m + 1,.map []) :: (m,.cells 0 [Enc.av c.parts,.str c.pseudo] false) :: h,m + 1 + 1 + 1⟩:=by
  refine bT mix (fH _) c104 (by kernel_rfl) (Nat.le_of_ble_eq_true (by kernel_rfl)) ?_
  have n1:(m + 1=m)=False:=eq_false (by omega)
  have n2:(m + 1 + 1=m)=False:=eq_false (by omega)
  simp -implicitDefEqProofs only [F104,n1,n2,go_sem,seval]
  refine au (Uf p hp) ?_
  cases ht:jS p
  · simp -implicitDefEqProofs only [n1,n2,go_sem,seval]
  · simp -implicitDefEqProofs only [n1,n2,go_sem,seval]
noncomputable def xF (p:bA) (st:List Ty.State) (n:Int) (parts:List Part):Bool:=jS p && (decide (parts ≠ []) && dh p st parts (parts.length - 1) n)
theorem nu {p:bA} {st:List Ty.State} {parts:List Part} {k:Nat} {n:Int} (h:bE p n=false):dh p st parts k n=false:=by
  cases k <;> simp [dh,h]
theorem Tz {p:bA} {st:List Ty.State} {parts:List Part} (hp:gV p) (t:eO p) (hs:st.length ≤ 100000) (hparts:Enc.ok parts) (n:Int) {h:List (Nat × AX.Obj)} {m b r:Nat} {L:Kn} (M:Mt p st parts h m b r L) (hL:pK p st parts L parts.length) :
    aR Tryz.prog 105 [.ptr b 0 0,.int .i64 n] ⟨h,m⟩ fun v s'=>v=.bool (xF p st n parts) ∧ ∃ L',s'=⟨putAt r (.map (jl L')) h,m⟩ ∧ pK p st parts L' parts.length:=by
  refine bT mix (fH _) c105 (by kernel_rfl) (Nat.le_of_ble_eq_true (by kernel_rfl)) ?_
  have hobj:=M.obj
  unfold xF
  rw [mX t]
  simp -implicitDefEqProofs only [F105,hobj,go_sem,seval]
  refine au (kr p n) ?_
  cases he:bE p n
  · simp -implicitDefEqProofs only [hobj,go_sem,seval]
    exact ⟨by rw [nu he];simp,L,by rw [jm M.map],hL⟩
  cases hpe:parts with
  | nil =>
    subst hpe
    simp -implicitDefEqProofs only [hobj,go_sem,seval]
    exact ⟨by simp,L,by rw [jm M.map],hL⟩
  | cons q qs =>
    rw [← hpe]
    have hpos:0 < parts.length:=by rw [hpe];simp
    have hg:((parts.length:Int) > 0)=True:=eq_true (by omega)
    have hl:=hparts.1
    have w1:IntKind.i64.wrap ((parts.length:Int) - 1)=((parts.length - 1:Nat):Int):=by rw [wrap64 (by omega) (by omega)];omega
    have hne:parts ≠ []:=by rw [hpe];simp
    simp -implicitDefEqProofs only [hobj,hg,w1,go_sem,seval]
    refine eU (RU hp t hs hparts.2 (parts.length - 1) (by omega) (by omega) n h m b r L M (by rw [show parts.length - 1 + 1=parts.length by omega];exact hL)) ?_
    simp -implicitDefEqProofs only [hobj,hg,w1,go_sem,seval]
    have hok:=(CY p st parts (parts.length - 1) L n (by rw [show parts.length - 1 + 1=parts.length by omega];exact hL)).1
    rw [show parts.length - 1 + 1=parts.length by omega] at hok
    exact ⟨by simp [hne],_,rfl,hok⟩
theorem Rf (st:List Ty.State) (parts:List Part) (n:Int) {h:List (Nat × AX.Obj)} {m b r:Nat} (hobj:AX.look b h=some (.cells 0 [.nils,Enc.av st,Enc.av parts,.map r] false)) :
    aR Tryz.prog 105 [.ptr b 0 0,.int .i64 n] ⟨h,m⟩ fun v s'=>v=.bool false ∧ s'=⟨h,m⟩:=by
  refine bT mix (fH _) c105 (by kernel_rfl) (Nat.le_of_ble_eq_true (by kernel_rfl)) ?_
  have he:bE [] n=false:=by
    unfold bE nodeAt
    split
    · rename_i x hx;split at hx <;> simp at hx
    · rfl
  simp -implicitDefEqProofs only [F105,hobj,go_sem,seval]
  refine au ((kr [] n).at (by rw [he])) ?_
  simp -implicitDefEqProofs only [hobj,go_sem,seval]
theorem Pj (p:bA) (st:List Ty.State) (parts:List Part) (k:Nat):pK p st parts [] k:=fun a b hb=>.inl rfl
theorem VK (p:bA) (st:List Ty.State) (hp:gV p) (hs:st.length ≤ 100000) (n:Int) (c:Complex) (hc:Enc.ok c) :
    aK Tryz.prog 78 [Enc.av p,Enc.av st,Enc.av n,Enc.av c] (.bool (xF p st n c.parts)):=by
  refine aH mix c78 (by kernel_rfl) (by kernel_rfl) (by simp [ay,ak,Go.AX.flat]) (by first | exact ak _ | simp [flat,ay,ak]) ?_
  simp -implicitDefEqProofs only [F78,go_sem,seval]
  refine eU (VF p st c hp _ _) ?_
  cases ht:jS p
  · have e:xF p st n c.parts=false:=by simp [xF,ht]
    rw [e]
    simp -implicitDefEqProofs only [go_sem,seval]
    refine eU (Rf st c.parts n (b:=3) (r:=2) rfl) ?_
    simp -implicitDefEqProofs only [go_sem,seval]
  · have t:=Au.1 ht
    simp -implicitDefEqProofs only [go_sem,seval]
    refine Lm ((Tz hp t hs ((Complex.bH c).1 hc).1 n (b:=3) (r:=2) (L:=[]) ⟨rfl,rfl,by decide,by decide,by decide,Eh rfl⟩ (Pj _ _ _ _)).mono ?_)
    rintro v s' ⟨rfl,L',rfl,_⟩
    simp -implicitDefEqProofs only [go_sem,seval]
theorem Mt.push {p:bA} {st:List Ty.State} {parts:List Part} {h:List (Nat × AX.Obj)} {m b r:Nat} {L:Kn} (M:Mt p st parts h m b r L) (o:AX.Obj):Mt p st parts ((m,o) :: h) (m + 1) b r L:=by
  have h1:=M.bm
  have h2:=M.rm
  refine ⟨?_,?_,M.br,by omega,by omega,pz M.wf⟩
  · simp only [AX.look];rw [if_neg (by omega)];exact M.obj
  · simp only [AX.look];rw [if_neg (by omega)];exact M.map
noncomputable def jT (p:bA) (st:List Ty.State) (parts:List Part) (k:Nat):List Int:=((List.range k).filter fun n:Nat=>xF p st n parts).map fun n:Nat=>(n:Int)
noncomputable def Bn (p:bA) (st:List Ty.State) (parts:List Part):List Int:=jT p st parts p.length
theorem Gx (p:bA) (st:List Ty.State) (parts:List Part) (k:Nat):jT p st parts (k + 1)=jT p st parts k ++ (if xF p st k parts=true then [(k:Int)] else []):=by
  unfold jT
  rw [List.range_succ,List.filter_append,List.map_append]
  congr 1
  by_cases h:xF p st k parts=true <;> simp [h]
theorem Aw (p:bA) (st:List Ty.State) (parts:List Part) (k:Nat):(jT p st parts k).length ≤ k:=by
  unfold jT
  rw [List.length_map]
  exact Nat.le_trans (List.length_filter_le _ _) (by simp)
end W15
/- Guards. -/
namespace W15
open Go Go.AX Go.AX.Ty Go.Proofs
mutual
def R7:Simple → Nat
  | .mk _ _ _ _ _ l=>1 + gB l
def gB:List Simple → Nat
  | []=>0
  | x :: r=>R7 x + gB r
end
theorem vY (x:Simple):R7 x=1 + gB x.l:=by cases x;simp only [R7,Simple.l]
theorem ru:∀ l:List Simple,l.length ≤ gB l
  | []=>by simp [gB]
  | x :: r=>by have:=ru r;have:=vY x;simp only [List.length_cons,gB];omega
def Gd (n v:Str):Bool:=decide (n.length > 100) || decide (v.length > 100)
mutual
def cu (m:Int):Simple → Int → Int
  | .mk _ nm v _ _ l,n=>if Gd nm v then m + 1 else CB m l (n + 1)
def CB (m:Int):List Simple → Int → Int
  | [],n=>n
  | x :: r,n=>if n ≤ m then CB m r (cu m x n) else n
end
theorem UE (m:Int) (x:Simple) (n:Int):cu m x n=if Gd x.name x.value then m + 1 else CB m x.l (n + 1):=by
  cases x;simp only [cu,Simple.name,Simple.value,Simple.l];rfl
theorem Cq (m:Int):∀ (l:List Simple) (n:Int),m < n → CB m l n=n
  | [],n,_=>by simp [CB]
  | x :: r,n,h=>by simp only [CB];rw [if_neg (by omega)]
mutual
def GU:Simple → Prop
  | .mk _ nm v _ _ l=>nm.length ≤ 100 ∧ v.length ≤ 100 ∧ sF l
def sF:List Simple → Prop
  | []=>True
  | x :: r=>GU x ∧ sF r
end
mutual
theorem U0 (m:Int):∀ (x:Simple) (n:Int),n ≤ m → (n ≤ cu m x n ∧ cu m x n ≤ m + 1) ∧ (cu m x n ≤ m → cu m x n=n + R7 x ∧ GU x)
  | .mk _ nm v _ _ l, n, hn => by
    simp only [cu,R7,GU]
    by_cases hb:Gd nm v=true
    · rw [if_pos hb];refine ⟨by omega,fun h=>by omega⟩
    · rw [if_neg hb]
      simp [Gd] at hb
      obtain ⟨h1,h2⟩:=yD m l (n + 1) (by omega)
      refine ⟨by omega,fun h=>?_⟩
      obtain ⟨h3,h4⟩:=h2 h
      exact ⟨by omega,by omega,by omega,h4⟩
theorem yD (m:Int):∀ (l:List Simple) (n:Int),n ≤ m + 1 → (n ≤ CB m l n ∧ CB m l n ≤ m + 1) ∧ (CB m l n ≤ m → CB m l n=n + gB l ∧ sF l)
  | [],n,hn=>by simp [CB,gB,sF];omega
  | x :: r, n, hn => by
    simp only [CB,gB,sF]
    by_cases h:n ≤ m
    · rw [if_pos h]
      obtain ⟨h1,h2⟩:=U0 m x n h
      obtain ⟨h3,h4⟩:=yD m r (cu m x n) (by omega)
      refine ⟨by omega,fun h'=>?_⟩
      obtain ⟨h5,h6⟩:=h4 h'
      obtain ⟨h7,h8⟩:=h2 (by omega)
      exact ⟨by omega,h8,h6⟩
    · rw [if_neg h];exact ⟨by omega,fun h'=>by omega⟩
end
theorem Rs (m:Int) (hm:0 ≤ m ∧ m ≤ 1000000):∀ (N:Nat) (l:List Simple),gB l ≤ N → Enc.ok l → ∀ n:Int,0 ≤ n → n ≤ m + 1 →
    aK Tryz.prog 129 [Enc.av l,Enc.av n,Enc.av m] (Enc.av (CB m l n)):=fun N=>by
  induction N using Nat.strongRecOn with
  | ind N ih=>
  intro l hN hok n hn0 hn1
  refine aH mix c129 (by kernel_rfl) (by kernel_rfl) (by simp [ay,ak,Go.AX.flat]) (by first | exact ak _ | simp [flat,ay,ak]) ?_
  simp -implicitDefEqProofs only [F129,go_sem,seval]
  refine aF (fun p:Nat × Int=>l.length - p.1) (fun p=>[(0,Enc.av l),(1,.int .i64 p.2),(2,.int .i64 m),(7,.int .i64 p.1)])
    (fun p s=>p.1 ≤ l.length ∧ 0 ≤ p.2 ∧ p.2 ≤ m + 1 ∧ CB m (l.drop p.1) p.2=CB m l n ∧ gB (l.drop p.1) ≤ N) (0,n) ?_ ?_
  · simp -implicitDefEqProofs only [go_sem,seval]
    (try simp);omega
  rintro ⟨k,q⟩ ρ ⟨hp,nx⟩ ⟨h1,h2,h3,h4,h5⟩
  dsimp only at h1 h2 h3 h4 h5
  rcases Nat.lt_or_ge k l.length with hk | hk
  · obtain ⟨x,hx,hd,hm'⟩:=aG hk
    have hlt:((k:Int) < (l.length:Int))=True:=eq_true (by omega)
    have hox:=hok.2 x hm'
    rw [Simple.bH] at hox
    simp only [hd,gB] at h5
    rw [vY] at h5
    have w1:IntKind.i64.wrap ((k:Int) + 1)=((k + 1:Nat):Int):=by have:=hok.1;rw [wrap64 (by omega) (by omega)];omega
    have w2:IntKind.i64.wrap (q + 1)=q + 1:=wrap64 (by omega) (by omega)
    have w3:IntKind.i64.wrap (m + 1)=m + 1:=wrap64 (by omega) (by omega)
    rcases Int.lt_or_le m q with hq | hq
    · have hT:(q ≤ m)=False:=eq_false (by omega)
      rw [Cq m _ _ hq] at h4
      simp -implicitDefEqProofs only [hlt,hT,hx,← h4,go_sem,seval]
    · have hT:(q ≤ m)=True:=eq_true hq
      rw [hd] at h4
      simp only [CB,if_pos hq,UE] at h4
      have ih':=ih (N - 1) (by omega) x.l (by omega) hox.2.2.2.2.2 (q + 1) (by omega) (by omega)
      have hbd:=(yD m x.l (q + 1) (by omega)).1
      simp -implicitDefEqProofs only [hlt,hT,hx,w1,w2,w3,go_sem,seval]
      repeat' (first
        | contradiction
        | (refine bC (fun h hT=>?_) (fun h hT=>?_) <;> try simp -implicitDefEqProofs only [hT,hx,w1,w2,w3,go_sem,seval] <;> try clear hT)
        | (refine au ih' ?_;simp -implicitDefEqProofs only [hx,w1,w2,w3,go_sem,seval]))
      · rw [if_pos (by simp [Gd];omega),Cq m _ _ (by omega)] at h4;rw [h4]
      · rw [if_pos (by simp [Gd];omega),Cq m _ _ (by omega)] at h4;rw [h4]
      · rw [if_neg (by simp [Gd];omega)] at h4
        refine ⟨(k + 1,_),by simp only;omega,⟨rfl,rfl⟩,?_⟩
        simp only;exact ⟨by omega,by omega,by omega,h4,by omega⟩
  · have hlt:((k:Int) < (l.length:Int))=False:=eq_false (by omega)
    rw [iO hk] at h4
    simp only [CB] at h4
    simp -implicitDefEqProofs only [hlt,h4,go_sem,seval]
def Jk (m:Int):List Part → Int → Int
  | [],n=>n
  | p :: r,n=>if n ≤ m then Jk m r (CB m p.l n) else n
def jN (m:Int):List Complex → Int → Bool
  | [],n=>decide (n ≤ m)
  | x :: r,n=>if n ≤ m then (if (x.pseudo.length:Int) > 100 then false else jN m r (Jk m x.parts (n + x.parts.length))) else false
theorem PE (m:Int):∀ (l:List Part) (n:Int),m < n → Jk m l n=n
  | [],n,_=>by simp [Jk]
  | x :: r,n,h=>by simp only [Jk];rw [if_neg (by omega)]
def xJ:List Part → Nat
  | []=>0
  | p :: r=>gB p.l + xJ r
def wm:List Part → Prop
  | []=>True
  | p :: r=>sF p.l ∧ wm r
theorem OB (m:Int):∀ (l:List Part) (n:Int),Jk m l n ≤ m → Jk m l n=n + xJ l ∧ wm l
  | [],n,h=>by simp [Jk,xJ,wm]
  | p :: r, n, h => by
    simp only [Jk,xJ,wm] at h ⊢
    by_cases hn:n ≤ m
    · rw [if_pos hn] at h ⊢
      obtain ⟨h1,h2⟩:=OB m r _ h
      have h3:=(yD m p.l n (by omega))
      obtain ⟨h4,h5⟩:=h3.2 (by omega)
      exact ⟨by omega,h5,h2⟩
    · rw [if_neg hn] at h;omega
theorem zO (m:Int):∀ (l:List Complex) (n:Int),jN m l n=true → n ≤ m ∧ ∀ x ∈ l,(n + x.parts.length + xJ x.parts ≤ m ∧ wm x.parts ∧ x.pseudo.length ≤ 100)
  | [],n,h=>by simp [jN] at h;simp [h]
  | x :: r, n, h => by
    simp only [jN] at h
    split at h
    · split at h
      · simp at h
      · rename_i h1 h2
        obtain ⟨h3,h4⟩:=zO m r _ h
        obtain ⟨h5,h6⟩:=OB m x.parts _ h3
        refine ⟨h1,fun y hy=>?_⟩
        rcases List.mem_cons.1 hy with rfl | hy
        · exact ⟨by omega,h6,by omega⟩
        · obtain ⟨h7,h8,h9⟩:=h4 y hy
          exact ⟨by omega,h8,h9⟩
    · simp at h
theorem ND (m:Int) (hm:0 ≤ m ∧ m ≤ 1000000) (l:List Complex) (hok:Enc.ok l):aK Tryz.prog 110 [Enc.av l,Enc.av m] (Enc.av (jN m l l.length)):=by
  refine aH mix c110 (by kernel_rfl) (by kernel_rfl) (by simp [ay,ak,Go.AX.flat]) (by first | exact ak _ | simp [flat,ay,ak]) ?_
  have hlen:=hok.1
  simp -implicitDefEqProofs only [F110,go_sem,seval]
  refine aF (fun p:Nat × Int=>l.length - p.1) (fun p=>[(0,Enc.av l),(1,.int .i64 m),(5,.int .i64 p.2),(6,.int .i64 p.1)])
    (fun p s=>p.1 ≤ l.length ∧ 0 ≤ p.2 ∧ p.2 ≤ 10000000000000000 ∧ jN m (l.drop p.1) p.2=jN m l l.length) (0,l.length) ?_ ?_
  · simp -implicitDefEqProofs only [go_sem,seval]
    (try simp);omega
  rintro ⟨k,q⟩ ρ ⟨hp,nx⟩ ⟨h1,h2,h3,h4⟩
  dsimp only at h1 h2 h3 h4
  rcases Nat.lt_or_ge k l.length with hk | hk
  · obtain ⟨x,hx,hd,hm'⟩:=aG hk
    have hlt:((k:Int) < (l.length:Int))=True:=eq_true (by omega)
    have hox:=hok.2 x hm'
    have hxl:=hox.1.1
    rw [hd] at h4
    have w1:IntKind.i64.wrap ((k:Int) + 1)=((k + 1:Nat):Int):=by rw [wrap64 (by omega) (by omega)];omega
    rcases Int.lt_or_le m q with hq | hq
    · have hT:(q ≤ m)=False:=eq_false (by omega)
      simp only [jN,if_neg (show ¬ q ≤ m by omega)] at h4
      simp -implicitDefEqProofs only [hlt,hT,hx,← h4,decide_false,go_sem,seval]
    · have hT:(q ≤ m)=True:=eq_true hq
      simp only [jN,if_pos hq] at h4
      have w2:IntKind.i64.wrap (q + (x.parts.length:Int))=q + x.parts.length:=wrap64 (by omega) (by omega)
      simp -implicitDefEqProofs only [hlt,hT,hx,w2,go_sem,seval]
      refine aF (fun p:Nat × Int=>x.parts.length - p.1) (fun p=>[(0,Enc.av l),(1,.int .i64 m),(5,.int .i64 p.2),(6,.int .i64 k),(7,.int .i64 p.1)])
        (fun p s=>p.1 ≤ x.parts.length ∧ 0 ≤ p.2 ∧ p.2 ≤ 10000000000000000 ∧ Jk m (x.parts.drop p.1) p.2=Jk m x.parts (q + x.parts.length)) (0,q + x.parts.length) ?_ ?_
      · simp -implicitDefEqProofs only [go_sem,seval]
        (try simp);omega
      rintro ⟨j,r⟩ ρ ⟨hp,nx⟩ ⟨g1,g2,g3,g4⟩
      dsimp only at g1 g2 g3 g4
      rcases Nat.lt_or_ge j x.parts.length with hj | hj
      · obtain ⟨y,hy,he,hn'⟩:=aG hj
        have hoy:=hox.1.2 y hn'
        have hlt2:((j:Int) < (x.parts.length:Int))=True:=eq_true (by omega)
        rw [he] at g4
        have w3:IntKind.i64.wrap ((j:Int) + 1)=((j + 1:Nat):Int):=by rw [wrap64 (by omega) (by omega)];omega
        rcases Int.lt_or_le m r with hr | hr
        · have hT2:(r ≤ m)=False:=eq_false (by omega)
          rw [PE m _ _ hr] at g4
          by_cases hps:(x.pseudo.length:Int) > 100
          · have hP:=eq_true hps
            rw [if_pos hps] at h4
            simp -implicitDefEqProofs only [hx,hlt2,hT2,hy,w1,hP,← h4,go_sem,seval]
          · have hP:=eq_false hps
            rw [if_neg hps] at h4
            simp -implicitDefEqProofs only [hx,hlt2,hT2,hy,w1,hP,go_sem,seval]
            refine ⟨(k + 1,_),by simp only;omega,⟨rfl,rfl⟩,?_⟩
            simp only
            rw [g4]
            exact ⟨by omega,by omega,by omega,h4⟩
        · have hT2:(r ≤ m)=True:=eq_true hr
          have hbd:=(yD m y.l r (by omega)).1
          simp only [Jk,if_pos hr] at g4
          simp -implicitDefEqProofs only [hx,hlt2,hT2,hy,w1,w3,go_sem,seval]
          refine au (Rs m hm _ y.l (Nat.le_refl _) hoy.2 r g2 (by omega)) ?_
          simp -implicitDefEqProofs only [hx,w3,go_sem,seval]
          refine ⟨(j + 1,_),by simp only;omega,⟨rfl,rfl⟩,?_⟩
          simp only
          exact ⟨by omega,by omega,by omega,g4⟩
      · have hlt2:((j:Int) < (x.parts.length:Int))=False:=eq_false (by omega)
        rw [iO hj] at g4
        simp only [Jk] at g4
        by_cases hps:(x.pseudo.length:Int) > 100
        · have hP:=eq_true hps
          rw [if_pos hps] at h4
          simp -implicitDefEqProofs only [hx,hlt2,w1,hP,← h4,go_sem,seval]
        · have hP:=eq_false hps
          rw [if_neg hps] at h4
          simp -implicitDefEqProofs only [hx,hlt2,w1,hP,go_sem,seval]
          refine ⟨(k + 1,_),by simp only;omega,⟨rfl,rfl⟩,?_⟩
          simp only
          rw [g4]
          exact ⟨by omega,by omega,by omega,h4⟩
  · have hlt:((k:Int) < (l.length:Int))=False:=eq_false (by omega)
    rw [iO hk] at h4
    simp only [jN] at h4
    simp -implicitDefEqProofs only [hlt,← h4,go_sem,seval]
def sD (m:Int) (x:Ty.Node):Bool:=decide ((x.name.length:Int) > 100) || (decide ((x.text.length:Int) > 300) || (decide ((x.attrs.length:Int) > 20) || (decide ((x.kids.length:Int) > m) || x.attrs.any fun a=>decide ((a.name.length:Int) > 100) || decide ((a.value.length:Int) > 100))))
def nG (m:Int) (p:bA):Bool:=decide ((p.length:Int) ≤ m) && !p.any (sD m)
theorem yE {m:Int} {p:bA} (hm:m ≤ 1000) (hok:Enc.ok p) (h:nG m p=true):gV p:=by
  simp only [nG,Bool.and_eq_true,decide_eq_true_eq,Bool.not_eq_true',List.any_eq_false] at h
  refine ⟨hok,by omega,fun x hx=>?_,fun x hx a ha=>?_⟩
  · have:=h.2 x hx
    simp only [sD,Bool.or_eq_true,decide_eq_true_eq,not_or] at this
    omega
  · have:=h.2 x hx
    simp only [sD,Bool.or_eq_true,decide_eq_true_eq,not_or,List.any_eq_true,not_exists,not_and] at this
    have:=this.2.2.2.2 a ha
    omega
theorem J3 (m:Int) (p:bA) (hok:Enc.ok p):aK Tryz.prog 34 [Enc.av p,Enc.av m] (.bool (nG m p)):=by
  refine aH mix c34 (by kernel_rfl) (by kernel_rfl) (by simp [ay,ak,Go.AX.flat]) (by first | exact ak _ | simp [flat,ay,ak]) ?_
  have hlen:=hok.1
  unfold nG
  by_cases hbig:(p.length:Int) ≤ m
  case neg=>
    have hb:((p.length:Int) ≤ m)=False:=eq_false hbig
    simp -implicitDefEqProofs only [F34,go_sem,seval]
    rw [kC]
    refine ⟨1,?_⟩
    by_cases h0:(0:Int) < (p.length:Int)
    · simp -implicitDefEqProofs only [hb,h0,go_sem,seval]
      simp [hbig]
    · simp -implicitDefEqProofs only [hb,h0,go_sem,seval]
      simp [hbig]
  have hb:((p.length:Int) ≤ m)=True:=eq_true hbig
  simp -implicitDefEqProofs only [F34,go_sem,seval]
  refine aF (fun k:Nat=>p.length - k) (fun k=>[(0,Enc.av p),(1,Enc.av m),(5,.int .i64 k)]) (fun k s=>k ≤ p.length ∧ Pre (sD m) p k) 0 ?_ ?_
  · simp -implicitDefEqProofs only [go_sem,seval]
    exact Pre.zero _ _
  rintro k ρ ⟨g,q⟩ ⟨h1,h2⟩
  rcases Nat.lt_or_ge k p.length with hk | hk
  · obtain ⟨x,hx,hd,hm⟩:=aG hk
    have hlt:((k:Int) < (p.length:Int))=True:=eq_true (by omega)
    have w1:IntKind.i64.wrap ((k:Int) + 1)=((k + 1:Nat):Int):=by rw [wrap64 (by omega) (by omega)];omega
    have hbad:sD m x=true → (decide ((p.length:Int) ≤ m) && !p.any (sD m))=false:=fun h=>by rw [iY hm h];simp
    have hal:=((Node.bH x).1 (hok.2 x hm)).2.1.1
    simp -implicitDefEqProofs only [hlt,hb,hx,go_sem,seval]
    by_cases b1:(x.name.length:Int) > 100
    · rw [hbad (by simp [sD,b1])]
      simp -implicitDefEqProofs only [b1,go_sem,seval]
    by_cases b2:(x.text.length:Int) > 300
    · rw [hbad (by simp [sD,b2])]
      simp -implicitDefEqProofs only [b1,b2,go_sem,seval]
    by_cases b3:(x.attrs.length:Int) > 20
    · rw [hbad (by simp [sD,b3])]
      simp -implicitDefEqProofs only [b1,b2,b3,go_sem,seval]
    by_cases b4:(x.kids.length:Int) > m
    · rw [hbad (by simp [sD,b4])]
      simp -implicitDefEqProofs only [b1,b2,b3,b4,go_sem,seval]
    simp -implicitDefEqProofs only [b1,b2,b3,b4,go_sem,seval]
    refine aF (fun j:Nat=>x.attrs.length - j) (fun j=>[(0,Enc.av p),(1,Enc.av m),(5,.int .i64 k),(6,.ptr q 0 0),(7,.int .i64 j)])
      (fun j s=>j ≤ x.attrs.length ∧ q + 1 ≤ s.next ∧ AX.look q s.heap=some (.cells 0 (Enc.cells x) false) ∧ Pre (fun a:Attr=>decide ((a.name.length:Int) > 100) || decide ((a.value.length:Int) > 100)) x.attrs j) 0 ?_ ?_
    · simp -implicitDefEqProofs only [go_sem,seval]
      exact Pre.zero _ _
    rintro j ρ ⟨g2,q2⟩ ⟨j1,j2,j3,j4⟩
    dsimp only at j2 j3
    rw [Node.aO] at j3
    rcases Nat.lt_or_ge j x.attrs.length with hj | hj
    · obtain ⟨a,ha,_,ham⟩:=aG hj
      have hlt2:((j:Int) < (x.attrs.length:Int))=True:=eq_true (by omega)
      have w2:IntKind.i64.wrap ((j:Int) + 1)=((j + 1:Nat):Int):=by rw [wrap64 (by omega) (by omega)];omega
      by_cases a1:(a.name.length:Int) > 100
      · rw [hbad (by simp only [sD];rw [iY ham (by simp [a1])];simp)]
        simp -implicitDefEqProofs only [hlt2,ha,j3,a1,go_sem,seval]
      by_cases a2:(a.value.length:Int) > 100
      · rw [hbad (by simp only [sD];rw [iY ham (by simp [a2])];simp)]
        simp -implicitDefEqProofs only [hlt2,ha,j3,a1,a2,go_sem,seval]
      simp -implicitDefEqProofs only [hlt2,ha,j3,a1,a2,w2,go_sem,seval]
      refine ⟨j + 1,by omega,?_⟩
      exact ⟨rfl,by omega,j2,j4.next ha (by simp;omega)⟩
    · have hlt2:((j:Int) < (x.attrs.length:Int))=False:=eq_false (by omega)
      simp -implicitDefEqProofs only [hlt2,j3,w1,go_sem,seval]
      refine ⟨k + 1,by omega,rfl,by omega,h2.next hx ?_⟩
      simp only [sD,Bool.or_eq_false_iff,decide_eq_false_iff_not]
      exact ⟨b1,b2,b3,b4,oN (j4.all hj)⟩
  · have hlt:((k:Int) < (p.length:Int))=False:=eq_false (by omega)
    simp -implicitDefEqProofs only [hlt,hb,go_sem,seval]
    rw [oN (h2.all hk)];simp [hbig]
def OC (st:List Ty.State):Bool:=decide (st.length ≤ 30) && !st.any fun x=>decide ((x.name.length:Int) > 100)
theorem Uy (st:List Ty.State) (hok:Enc.ok st):aK Tryz.prog 35 [Enc.av st] (.bool (OC st)):=by
  refine aH mix c35 (by kernel_rfl) (by kernel_rfl) (by simp [ay,ak,Go.AX.flat]) (by first | exact ak _ | simp [flat,ay,ak]) ?_
  have hlen:=hok.1
  unfold OC
  by_cases hbig:st.length ≤ 30
  case neg=>
    have hb:((st.length:Int) ≤ 30)=False:=eq_false (by omega)
    simp -implicitDefEqProofs only [F35,go_sem,seval]
    rw [kC]
    refine ⟨1,?_⟩
    have h0:((0:Int) < (st.length:Int))=True:=eq_true (by omega)
    simp -implicitDefEqProofs only [hb,h0,go_sem,seval]
    simp [hbig]
  have hb:((st.length:Int) ≤ 30)=True:=eq_true (by omega)
  simp -implicitDefEqProofs only [F35,go_sem,seval]
  refine aF (fun k:Nat=>st.length - k) (fun k=>[(0,Enc.av st),(3,.int .i64 k)]) (fun k s=>k ≤ st.length ∧ Pre (fun x:Ty.State=>decide ((x.name.length:Int) > 100)) st k) 0 ?_ ?_
  · simp -implicitDefEqProofs only [go_sem,seval]
    exact Pre.zero _ _
  rintro k ρ ⟨g,q⟩ ⟨h1,h2⟩
  rcases Nat.lt_or_ge k st.length with hk | hk
  · obtain ⟨x,hx,hd,hm⟩:=aG hk
    have hlt:((k:Int) < (st.length:Int))=True:=eq_true (by omega)
    have w1:IntKind.i64.wrap ((k:Int) + 1)=((k + 1:Nat):Int):=by rw [wrap64 (by omega) (by omega)];omega
    simp -implicitDefEqProofs only [hlt,hb,hx,go_sem,seval]
    (refine bC (fun h hT=>?_) (fun h hT=>?_) <;> try simp -implicitDefEqProofs only [hT,w1,go_sem,seval] <;> try clear hT)
    · rw [iY hm (by simpa using h)];simp
    · exact ⟨k + 1,by omega,rfl,by omega,h2.next hx (by simpa using h)⟩
  · have hlt:((k:Int) < (st.length:Int))=False:=eq_false (by omega)
    simp -implicitDefEqProofs only [hlt,hb,go_sem,seval]
    rw [oN (h2.all hk)];simp [hbig]
end W15
/- Who stands how: the document's. -/
namespace W15
open Go Go.AX Go.AX.Ty Go.Proofs
theorem KP {p:bA} (t:eO p) {k:Nat} {x:Ty.Node} (hx:p[k]? = some x) (h:¬ x.up > 0):gq p k=[]:=by
  rw [iB t hx,if_neg h]
theorem TF (p:bA) (hp:gV p) (t:eO p) {k:Nat} {x:Ty.Node} (hx:p[k]? = some x) (m:Int) (hm:1 ≤ m) :
    aK Tryz.prog 167 [Enc.av p,Enc.av (k:Int),Enc.av m] (.bool (decide (m ∈ gq p k))):=by
  refine aH mix c167 (by kernel_rfl) (by kernel_rfl) (by simp [ay,ak,Go.AX.flat]) (by first | exact ak _ | simp [flat,ay,ak]) ?_
  have hk:=dB hx
  simp -implicitDefEqProofs only [F167,go_sem,seval]
  refine aF (fun c:Int=>(c + 1).toNat) (fun c=>[(0,Enc.av p),(1,.int .i64 c),(2,Enc.av m)])
    (fun c s=>-1 ≤ c ∧ c < p.length ∧ (c > 0 → decide (m ∈ gq p c)=decide (m ∈ gq p k)) ∧ (¬ c > 0 → decide (m ∈ gq p k)=false)) (k:Int) ?_ ?_
  · simp -implicitDefEqProofs only [go_sem,seval]
    refine ⟨by omega,by omega,fun _=>trivial,fun h=>?_⟩
    have h0:k=0:=by omega
    have:=t.root x (by rw [← h0];exact hx)
    rw [KP t hx (by omega)];simp
  rintro c ρ ⟨g,q⟩ ⟨h1,h2,h3,h4⟩
  by_cases hc:c > 0
  · obtain ⟨j,rfl⟩:=Int.eq_ofNat_of_zero_le (show 0 ≤ c by omega)
    have hcT:((j:Int) > 0)=True:=eq_true hc
    obtain ⟨y,hy⟩:∃ y,p[j]? = some y:=⟨p[j]'(by omega),by simp⟩
    have hyup:=t.up j y (by omega) hy
    have h5:=h3 hc
    rw [iB t hy] at h5
    simp -implicitDefEqProofs only [hcT,hy,go_sem,seval]
    by_cases he:y.up=m
    · rw [if_pos (by omega)] at h5
      rw [← h5]
      simp -implicitDefEqProofs only [he,go_sem,seval]
      simp [he]
    · simp -implicitDefEqProofs only [he,go_sem,seval]
      refine ⟨y.up,by omega,rfl,by omega,by omega,fun h=>?_,fun h=>?_⟩
      · rw [if_pos h] at h5
        rw [← h5]
        simp [Ne.symm he]
      · rw [if_neg h] at h5
        have h6:=h5.symm
        simp at h6
        exact h6
  · have hcT:(c > 0)=False:=eq_false hc
    simp -implicitDefEqProofs only [hcT,go_sem,seval]
    rw [h4 hc]
def vK (p:bA) (k m:Nat) (x y:Ty.Node) (c:Int):Bool:=
  if c=1 then decide ((m:Int) ∈ gq p k) else if c=2 then decide (x.up=m) else if c=3 then decide (x.up=y.up) && decide (fQ p m=fQ p k - 1)
  else if c=4 then decide (x.up=y.up) && decide (fQ p m < fQ p k) else false
theorem NU (p:bA) (hp:gV p) (t:eO p) {k m:Nat} {x y:Ty.Node} (hx:p[k]? = some x) (hy:p[m]? = some y) (hm:1 ≤ m) (c:Int) :
    aK Tryz.prog 140 [Enc.av p,Enc.av (k:Int),Enc.av (m:Int),Enc.av c] (.bool (vK p k m x y c)):=by
  refine aH mix c140 (by kernel_rfl) (by kernel_rfl) (by simp [ay,ak,Go.AX.flat]) (by first | exact ak _ | simp [flat,ay,ak]) ?_
  unfold vK
  have b1:=qO hp k
  have b2:=qO hp m
  have w1:IntKind.i64.wrap (fQ p k - 1)=fQ p k - 1:=wrap64 (by omega) (by omega)
  simp -implicitDefEqProofs only [F140,hx,hy,go_sem,seval]
  refine aA (by kernel_rfl) ?_
  by_cases c1:c=1
  · rw [if_pos c1]
    simp -implicitDefEqProofs only [c1,hx,go_sem,seval]
    refine au (TF p hp t hx m (by omega)) ?_
    simp -implicitDefEqProofs only [go_sem,seval]
  rw [if_neg c1]
  by_cases c2:c=2
  · have f1:((2:Int)=1)=False:=eq_false (by decide)
    rw [if_pos c2]
    simp -implicitDefEqProofs only [c2,hx,go_sem,seval]
    simp [Bool.beq_eq_decide_eq]
  rw [if_neg c2]
  by_cases c3:c=3
  · rw [if_pos c3]
    by_cases hu:x.up=y.up
    · simp -implicitDefEqProofs only [c3,hx,hu,go_sem,seval]
      refine au (l7 p hp m) ?_
      simp -implicitDefEqProofs only [go_sem,seval]
      refine au (l7 p hp k) ?_
      simp -implicitDefEqProofs only [w1,go_sem,seval]
      simp [hu,Bool.beq_eq_decide_eq]
    · simp -implicitDefEqProofs only [c3,hx,hu,go_sem,seval]
      simp [hu]
  rw [if_neg c3]
  by_cases c4:c=4
  · rw [if_pos c4]
    by_cases hu:x.up=y.up
    · simp -implicitDefEqProofs only [c4,hx,hu,go_sem,seval]
      refine au (l7 p hp m) ?_
      simp -implicitDefEqProofs only [go_sem,seval]
      refine au (l7 p hp k) ?_
      simp -implicitDefEqProofs only [go_sem,seval]
      simp [hu]
    · simp -implicitDefEqProofs only [c4,hx,hu,go_sem,seval]
      simp [hu]
  rw [if_neg c4]
  simp -implicitDefEqProofs only [c1,c2,c3,c4,go_sem,seval]
theorem tK {p:bA} (t:eO p) {k:Nat} {x:Ty.Node} (hx:p[k]? = some x) (hn:x.name ≠ []):∃ (u:Nat) (z:Ty.Node),x.up=u ∧ p[u]? = some z ∧ d9 p k=(bD p p.length u).filter (bE p) ∧ (d9 p k).Nodup:=by
  obtain ⟨hk,u,z,e,hu,hz,hm⟩:=t.parent hx hn
  have h1:nodeAt p (k:Int)=some x:=by rw [dQ];exact hx
  have h2:nodeAt p x.up=some z:=by rw [e,dQ];exact hz
  have e1:d9 p k=(bD p p.length u).filter (bE p):=by
    simp only [d9,h1,h2,if_neg hn]
    rw [t.kids u z hz]
  refine ⟨u,z,e,hz,e1,?_⟩
  rw [e1]
  refine List.Pairwise.filter _ ?_
  unfold bD
  refine List.Pairwise.map _ ?_ (List.Pairwise.filter _ List.nodup_range)
  intro a b hab he
  exact hab (by omega)
theorem FU {l:List Int} (hd:l.Nodup) {j:Nat} {m:Int} (h:l[j]? = some m):idxOf (fun x=>m == x) l=j:=by
  have hj:=dB h
  rcases eT (fun x=>m == x) l with ⟨e,hno⟩ | ⟨i,y,e,hi,hy,hp,_⟩
  · have:=hno m (List.mem_of_getElem? h);simp at this
  · rw [e]
    simp only [beq_iff_eq] at hp
    subst hp
    have:i=j:=(List.getElem?_inj hi hd).1 (by rw [hy,h])
    omega
theorem AP {l:List Int} {m:Int} {i:Nat}:m ∈ l.take i ↔ (0 ≤ idxOf (fun x=>m == x) l ∧ idxOf (fun x=>m == x) l < i):=by
  rcases eT (fun x=>m == x) l with ⟨e,hno⟩ | ⟨j,y,e,hj,hy,hp,hpre⟩
  · rw [e]
    constructor
    · intro h;have:=hno m (List.mem_of_mem_take h);simp at this
    · omega
  · rw [e]
    simp only [beq_iff_eq] at hp
    subst hp
    constructor
    · intro h
      refine ⟨by omega,?_⟩
      rcases Nat.lt_or_ge j i with h' | h'
      · omega
      · exfalso
        have:m ∈ l.take j:=by
          have e2:l.take i=(l.take j).take i:=by rw [List.take_take,Nat.min_eq_left h']
          rw [e2] at h
          exact List.mem_of_mem_take h
        have:=hpre m this
        simp at this
    · intro h
      rw [List.mem_take_iff_getElem]
      refine ⟨j,by omega,?_⟩
      rw [List.getElem?_eq_getElem hj] at hy
      simpa using hy
theorem yC {p:bA} (t:eO p) {k m:Nat} {x y:Ty.Node} (hx:p[k]? = some x) (hxn:x.name ≠ []) (hy:p[m]? = some y) (hyn:y.name ≠ []) (c:Int) :
    vK p k m x y c=decide ((m:Int) ∈ dw p k c):=by
  obtain ⟨u,z,eu,hz,ek,hnd⟩:=tK t hx hxn
  obtain ⟨u',z',eu',hz',em,hnd'⟩:=tK t hy hyn
  have hm1:=(t.parent hy hyn).1
  have hkk:=t.kin hx hxn
  have hmm:=t.kin hy hyn
  have memup:(m:Int) ∈ d9 p k → x.up=y.up:=fun h=>by
    rw [ek,List.mem_filter] at h
    obtain ⟨j,h1,_,_,h4⟩:=ql.1 h.1
    have:j=m:=by omega
    subst this
    rw [vg hy] at h4
    omega
  have same:x.up=y.up → d9 p m=d9 p k:=fun h=>by
    have:u=u':=by omega
    subst this
    rw [ek,em]
  have ip:∀ (a:Nat) (w:Ty.Node),(a:Int) ∈ d9 p a → 0 ≤ idxOf (fun x=>(a:Int) == x) (d9 p a):=fun a w h=>by
    rcases eT (fun x=>(a:Int) == x) (d9 p a) with ⟨e,hno⟩ | ⟨j,y,e,hj,_⟩
    · have:=hno _ h;simp at this
    · omega
  have ik:=ip k x hkk
  have im:=ip m y hmm
  unfold vK dw
  by_cases c1:c=1
  · rw [if_pos c1,if_pos c1]
  rw [if_neg c1,if_neg c1]
  by_cases c2:c=2
  · rw [if_pos c2,if_pos c2,iB t hx]
    by_cases h:x.up > 0
    · rw [if_pos h]
      simp [eq_comm]
    · rw [if_neg h]
      simp;omega
  rw [if_neg c2,if_neg c2]
  by_cases c3:c=3
  · rw [if_pos c3,if_pos c3]
    unfold jq fQ
    generalize hi:idxOf (fun x=>(k:Int) == x) (d9 p k)=i at ik
    obtain ⟨i,rfl⟩:=Int.eq_ofNat_of_zero_le ik
    have hil:i < (d9 p k).length:=by
      rcases eT (fun x=>(k:Int) == x) (d9 p k) with ⟨e,hno⟩ | ⟨j,y,e,hj,_⟩ <;> omega
    rw [Int.toNat_natCast,List.length_take,Nat.min_eq_left (by omega)]
    rw [Bool.eq_iff_iff,Bool.and_eq_true,decide_eq_true_eq,decide_eq_true_eq,decide_eq_true_eq]
    constructor
    · rintro ⟨h1,h2⟩
      rw [same h1] at h2 im
      rcases eT (fun x=>(m:Int) == x) (d9 p k) with ⟨e,hno⟩ | ⟨j,w,e,hj,hw,hp,_⟩
      · omega
      · simp only [beq_iff_eq] at hp
        subst hp
        have hji:j=i - 1:=by omega
        have:(List.take i (d9 p k)).drop (i - 1)=[(m:Int)]:=by
          rw [List.drop_take,show i - (i - 1)=1 by omega,List.drop_eq_getElem_cons (by omega)]
          rw [List.getElem?_eq_getElem (by omega)] at hw
          simp only [Option.some.injEq] at hw
          subst hji
          simp [hw]
        rw [this];simp
    · intro h
      have h1:=memup (List.mem_of_mem_take (List.mem_of_mem_drop h))
      refine ⟨h1,?_⟩
      rw [same h1]
      rcases Nat.lt_or_ge 0 i with h0 | h0
      · rw [List.drop_take,show i - (i - 1)=1 by omega,List.drop_eq_getElem_cons (by omega)] at h
        simp only [List.take_succ_cons,List.take_zero,List.mem_singleton] at h
        rw [FU hnd (j:=i - 1) (by rw [List.getElem?_eq_getElem (by omega),h])]
        omega
      · have:i=0:=by omega
        subst this
        simp at h
  rw [if_neg c3,if_neg c3]
  by_cases c4:c=4
  · rw [if_pos c4,if_pos c4]
    unfold jq fQ
    rw [Bool.eq_iff_iff,Bool.and_eq_true,decide_eq_true_eq,decide_eq_true_eq,decide_eq_true_eq,AP]
    constructor
    · rintro ⟨h1,h2⟩
      rw [same h1] at h2 im
      exact ⟨im,by omega⟩
    · rintro ⟨h1,h2⟩
      have hmem:(m:Int) ∈ d9 p k:=by
        rcases eT (fun x=>(m:Int) == x) (d9 p k) with ⟨e,hno⟩ | ⟨j,w,e,hj,hw,hp,_⟩
        · omega
        · simp only [beq_iff_eq] at hp
          rw [hp];exact List.mem_of_getElem? hw
      have h3:=memup hmem
      refine ⟨h3,?_⟩
      rw [same h3];omega
  rw [if_neg c4,if_neg c4]
  simp
end W15
/- The document's answers. -/
namespace W15
open Go Go.AX Go.AX.Ty Go.Proofs
theorem Ui {p:bA} {st:List Ty.State} {k:Nat} {nd:Ty.Node} (ha:At p st k nd) (l:List Simple) (hok:Enc.ok l) :
    aK Tryz.prog 127 [Enc.av p,Enc.av st,Enc.av (k:Int),Enc.av l] (.bool (l.all (dM p st k))):=by
  refine aH mix c127 (by kernel_rfl) (by kernel_rfl) (by simp [ay,ak,Go.AX.flat]) (by first | exact ak _ | simp [flat,ay,ak]) ?_
  have hl:=hok.1
  have e:l.all (dM p st k) = !l.any fun x=>!dM p st k x:=by rw [uz];simp
  rw [e]
  simp -implicitDefEqProofs only [F127,go_sem,seval]
  refine aF (fun i:Nat=>l.length - i) (fun i=>[(0,Enc.av p),(1,Enc.av st),(2,Enc.av (k:Int)),(3,Enc.av l),(9,.int .i64 i)]) (fun i s=>i ≤ l.length ∧ Pre (fun x=>!dM p st k x) l i) 0 ?_ ?_
  · simp -implicitDefEqProofs only [go_sem,seval]
    exact Pre.zero _ _
  rintro i ρ ⟨g,m⟩ ⟨h1,h2⟩
  rcases Nat.lt_or_ge i l.length with hi | hi
  · obtain ⟨y,hy,hd,hm⟩:=aG hi
    have hlt:((i:Int) < (l.length:Int))=True:=eq_true (by omega)
    have w1:IntKind.i64.wrap ((i:Int) + 1)=((i + 1:Nat):Int):=by rw [wrap64 (by omega) (by omega)];omega
    have hh:=NV ha (sizeOf y) y (Nat.le_refl _) (hok.2 y hm)
    rw [Simple.fC] at hh
    simp -implicitDefEqProofs only [hlt,hy,go_sem,seval]
    refine au hh ?_
    cases hb:dM p st k y
    · simp -implicitDefEqProofs only [go_sem,seval]
      rw [iY hm (by simp [hb])];rfl
    · simp -implicitDefEqProofs only [w1,go_sem,seval]
      exact ⟨i + 1,by omega,rfl,by omega,h2.next hy (by simp [hb])⟩
  · have hlt:((i:Int) < (l.length:Int))=False:=eq_false (by omega)
    simp -implicitDefEqProofs only [hlt,go_sem,seval]
    rw [oN (h2.all hi)];rfl
def jV (p:bA) (st:List Ty.State) (parts:List Part) (j:Nat):List Bool:=(List.range p.length).map fun n:Nat=>dh p st parts j n
theorem vo {p:bA} {st:List Ty.State} {parts:List Part} {j m:Nat} (h:m < p.length):(jV p st parts j)[m]? = some (dh p st parts j m):=by
  simp [jV,h]
theorem Eo {p:bA} (t:eO p) {k:Nat} {x:Ty.Node} (hx:p[k]? = some x) (hn:x.name ≠ []) (c:Int) {a:Int} (h:a ∈ dw p k c):∃ m:Nat,a=m ∧ 1 ≤ m ∧ m < p.length:=by
  have hab:∀ (k:Nat),k < p.length → ∀ a ∈ gq p k,∃ m:Nat,a=m ∧ 1 ≤ m ∧ m < p.length:=fun k=>by
    induction k using Nat.strongRecOn with
    | ind k ih=>
    intro hk a ha
    rw [iB t (List.getElem?_eq_getElem hk)] at ha
    split at ha
    · rename_i h0
      have hk1:1 ≤ k:=by
        rcases Nat.lt_or_ge k 1 with h' | h'
        · have:k=0:=by omega
          subst this
          have:=(t.root _ (List.getElem?_eq_getElem hk)).1;omega
        · exact h'
      have h2:=t.up k _ hk1 (List.getElem?_eq_getElem hk)
      obtain ⟨u,hu⟩:=Int.eq_ofNat_of_zero_le h2.1
      rw [hu] at ha
      rcases List.mem_cons.1 ha with rfl | ha
      · exact ⟨u,rfl,by omega,by omega⟩
      · exact ih u (by omega) (by omega) a ha
    · simp at ha
  have hah:∀ a ∈ jq p k,∃ m:Nat,a=m ∧ 1 ≤ m ∧ m < p.length:=fun a ha=>by
    obtain ⟨u,z,_,_,ek,_⟩:=tK t hx hn
    have h1:=List.mem_of_mem_take ha
    rw [ek,List.mem_filter] at h1
    obtain ⟨j,h2,h3,h4,_⟩:=ql.1 h1.1
    exact ⟨j,h2,h4,h3⟩
  unfold dw at h
  split at h
  · exact hab k (dB hx) a h
  · split at h
    · exact hab k (dB hx) a (List.mem_of_mem_take h)
    · split at h
      · exact hah a (List.mem_of_mem_drop h)
      · split at h
        · exact hah a h
        · simp at h
theorem TT {p:bA} {st:List Ty.State} {parts:List Part} (hp:gV p) (t:eO p) (j:Nat) {k:Nat} {x:Ty.Node} (hx:p[k]? = some x) (hn:x.name ≠ []) (c:Int) :
    aK Tryz.prog 128 [Enc.av p,Enc.av (jV p st parts j),Enc.av (k:Int),Enc.av c] (.bool ((dw p k c).any (dh p st parts j))):=by
  refine aH mix c128 (by kernel_rfl) (by kernel_rfl) (by simp [ay,ak,Go.AX.flat]) (by first | exact ak _ | simp [flat,ay,ak]) ?_
  have hpl:=hp.len
  have hlr:(jV p st parts j).length=p.length:=by simp [jV]
  simp -implicitDefEqProofs only [F128,hlr,go_sem,seval]
  refine aF (fun m:Nat=>p.length - m) (fun m=>[(0,Enc.av p),(1,.ps p.length (aj (jV p st parts j))),(2,Enc.av (k:Int)),(3,Enc.av c),(9,.int .i64 m)])
    (fun m s=>1 ≤ m ∧ m ≤ p.length ∧ ∀ a:Nat,1 ≤ a → a < m → ¬ (dh p st parts j a=true ∧ (a:Int) ∈ dw p k c)) 1 ?_ ?_
  · simp -implicitDefEqProofs only [go_sem,seval]
    refine ⟨by have:=dB hx;omega,fun a h1 h2=>by omega⟩
  rintro m ρ ⟨g,q⟩ ⟨h1,h2,h3⟩
  rcases Nat.lt_or_ge m p.length with hm | hm
  · have hlt:((m:Int) < (p.length:Int))=True:=eq_true (by omega)
    have hltn:(m < p.length)=True:=eq_true hm
    have w1:IntKind.i64.wrap ((m:Int) + 1)=((m + 1:Nat):Int):=by rw [wrap64 (by omega) (by omega)];omega
    have hg:dH m 1 (.ps p.length (aj (jV p st parts j)))=some (.vp (Enc.cells (dh p st parts j m) ++ aj ((jV p st parts j).drop (m + 1)))):=by
      have:=qy (jV p st parts j) m
      rw [hlr,vo hm] at this
      exact this
    have next:¬ (dh p st parts j m=true ∧ (m:Int) ∈ dw p k c) → ∀ a:Nat,1 ≤ a → a < m + 1 → ¬ (dh p st parts j a=true ∧ (a:Int) ∈ dw p k c):=fun h a ha1 ha2=>by
      rcases Nat.lt_or_ge a m with h' | h'
      · exact h3 a ha1 h'
      · have:a=m:=by omega
        subst this;exact h
    cases hf:dh p st parts j m
    · rw [hf] at hg
      simp -implicitDefEqProofs only [hlt,hltn,hg,w1,go_sem,seval]
      exact ⟨m + 1,by omega,rfl,by omega,by omega,next (by simp [hf])⟩
    · rw [hf] at hg
      have hel:bE p m=true:=by
        cases he:bE p m
        · rw [nu he] at hf;simp at hf
        · rfl
      obtain ⟨m',y,e1,hy,hyn⟩:=A8 hel
      have:m'=m:=by omega
      subst this
      have hst:=NU p hp t hx hy h1 c
      rw [yC t hx hn hy hyn c] at hst
      simp -implicitDefEqProofs only [hlt,hltn,hg,go_sem,seval]
      refine au hst ?_
      by_cases hr:((m':Int) ∈ dw p k c)
      · simp -implicitDefEqProofs only [hr,go_sem,seval]
        rw [List.any_eq_true.2 ⟨_,hr,hf⟩]
      · simp -implicitDefEqProofs only [hr,w1,go_sem,seval]
        exact ⟨m' + 1,by omega,rfl,by omega,by omega,next (fun h=>hr h.2)⟩
  · have hlt:((m:Int) < (p.length:Int))=False:=eq_false (by omega)
    simp -implicitDefEqProofs only [hlt,go_sem,seval]
    have:(dw p k c).any (dh p st parts j)=false:=by
      rw [List.any_eq_false]
      intro a ha
      obtain ⟨b,rfl,hb1,hb2⟩:=Eo t hx hn c ha
      intro hf
      exact h3 b hb1 (by omega) ⟨hf,ha⟩
    rw [this]
end W15
/- The document's answers: which fit. -/
namespace W15
open Go Go.AX Go.AX.Ty Go.Proofs
def rowAt (p:bA) (st:List Ty.State) (parts:List Part):Nat → List Bool
  | 0=>List.replicate p.length false
  | j + 1=>jV p st parts j
theorem AJ (p:bA) (st:List Ty.State) (parts:List Part) (j:Nat):(rowAt p st parts j).length=p.length:=by
  cases j <;> simp [rowAt,jV]
theorem pF (l:List Bool):(aj l).length=l.length:=by rw [aT];simp [Enc.sz]
theorem LD (q:Nat):aj (List.replicate q false)=List.replicate q (AV.bool false):=by
  induction q with
  | zero=>rfl
  | succ q ih=>rw [List.replicate_succ,aj,ih];rfl
theorem Tj (p:bA) (st:List Ty.State) (c:Complex) (hp:gV p) (t:eO p) (hs:st.length ≤ 100000) (hc:Enc.ok c) :
    aK Tryz.prog 108 [Enc.av p,Enc.av st,Enc.av c] (Enc.av (rowAt p st c.parts c.parts.length)):=by
  refine aH mix c108 (by kernel_rfl) (by kernel_rfl) (by simp [ay,ak,Go.AX.flat]) (by first | exact ak _ | simp [flat,ay,ak]) ?_
  have hpl:=hp.len
  have hne:0 < p.length:=List.length_pos_iff.2 t.ne
  have hparts:=((Complex.bH c).1 hc).1
  have hpn:=hparts.1
  generalize hP:c.parts=parts at hparts hpn
  have hcap:(p.length * 1 ≤ 140737488355328 ∧ p.length ≤ 9223372036854775807)=True:=eq_true (by omega)
  have hcap2:(p.length ≤ 140737488355328)=True:=eq_true (by omega)
  have hcap3:(p.length ≤ 9223372036854775807)=True:=eq_true (by omega)
  have rep:∀ q:Nat,(List.replicate q [AV.bool false]).flatten=List.replicate q (.bool false):=fun q=>by
    induction q with
    | zero=>rfl
    | succ q ih=>rw [List.replicate_succ,List.flatten_cons,ih];rfl
  simp -implicitDefEqProofs only [F108,hP,hcap,hcap2,hcap3,rep,go_sem,seval]
  refine aF (fun q:Nat × Nat=>parts.length - q.1) (fun q=>[(0,Enc.av p),(1,Enc.av st),(5,.ptr 0 0 0),(7,.sl q.2 p.length 0 p.length 1),(8,.int .i64 q.1)])
    (fun q s=>q.1 ≤ parts.length ∧ (1 ≤ q.2 ∧ q.2 < s.next) ∧ AX.look 0 s.heap=some (.cells 0 [Enc.av parts,.str c.pseudo] false) ∧ ∃ sn,AX.look q.2 s.heap=some (.cells p.length (aj (rowAt p st parts q.1)) sn)) (0,1) ?_ ?_
  · simp -implicitDefEqProofs only [hcap,hcap2,hcap3,rep,go_sem,seval]
    refine ⟨false,?_⟩
    rw [rowAt,LD]
  rintro ⟨i,A⟩ ρ ⟨g,m⟩ ⟨h1,⟨h2,h3⟩,h4,sn,h5⟩
  dsimp only at h1 h2 h3 h4 h5
  have hlr:=AJ p st parts i
  rcases Nat.lt_or_ge i parts.length with hi | hi
  · obtain ⟨q,hq,hd,hqm⟩:=aG hi
    have hqok:=(Part.bH q).1 (hparts.2 q hqm)
    have hlt:((i:Int) < (parts.length:Int))=True:=eq_true (by omega)
    have wi:IntKind.i64.wrap ((i:Int) + 1)=((i + 1:Nat):Int):=by rw [wrap64 (by omega) (by omega)];omega
    have m0:(m=0)=False:=eq_false (by omega)
    have mA:(m=A)=False:=eq_false (by omega)
    simp -implicitDefEqProofs only [hlt,hcap,hcap2,hcap3,rep,h4,go_sem,seval]
    refine aF (fun n:Nat=>p.length - n) (fun n=>[(0,Enc.av p),(1,Enc.av st),(5,.ptr 0 0 0),(7,.sl A p.length 0 p.length 1),(8,.int .i64 i),(9,.sl m p.length 0 p.length 1),(10,.int .i64 n)])
      (fun n s=>1 ≤ n ∧ n ≤ p.length ∧ m + 1 ≤ s.next ∧ AX.look 0 s.heap=some (.cells 0 [Enc.av parts,.str c.pseudo] false) ∧ (∃ sn,AX.look A s.heap=some (.cells p.length (aj (rowAt p st parts i)) sn)) ∧
        AX.look m s.heap=some (.cells p.length (aj ((jV p st parts i).take n) ++ List.replicate (p.length - n) (.bool false)) false)) 1 ?_ ?_
    · simp -implicitDefEqProofs only [hcap,hcap2,hcap3,rep,m0,mA,h4,h5,go_sem,seval]
      have e0:dh p st parts i ((0:Nat):Int)=false:=by
        refine nu ?_
        have hx:p[0]? = some p[0]:=by simp [hne]
        have:=(t.root _ hx).2.1
        simp [bE,nodeAt,hx,this]
      have e1:(jV p st parts i).take 1=[false]:=by
        have:=vo (p:=p) (st:=st) (parts:=parts) (j:=i) hne
        rw [e0] at this
        cases hr:jV p st parts i with
        | nil=>rw [hr] at this;simp at this
        | cons a r=>rw [hr] at this;simp at this;simp [this]
      rw [e1]
      obtain ⟨pl,hpl'⟩:∃ pl,p.length=pl + 1:=⟨p.length - 1,by omega⟩
      rw [hpl']
      simp [List.replicate_succ,aj,Enc.cells]
    rintro n ρ ⟨g2,m2⟩ ⟨k1,k2,k3,k4,⟨sn2,k5⟩,k6⟩
    dsimp only at k3 k4 k5 k6
    have n0:(0=m)=False:=eq_false (by omega)
    have nA:(A=m)=False:=eq_false (by omega)
    have n0A:(A=0)=False:=eq_false (by omega)
    have n0A':(0=A)=False:=eq_false (by omega)
    have hcA:(aj (rowAt p st parts i)).length=p.length:=by rw [pF,hlr]
    have htA:List.take p.length (aj (rowAt p st parts i))=aj (rowAt p st parts i):=List.take_of_length_le (by omega)
    have hrl:(jV p st parts i).length=p.length:=by simp [jV]
    rcases Nat.lt_or_ge n p.length with hn | hn
    · have hltn:((n:Int) < (p.length:Int))=True:=eq_true (by omega)
      have hnl:(n < p.length)=True:=eq_true hn
      have hn1:(n + 1 ≤ p.length)=True:=eq_true (by omega)
      have w1:IntKind.i64.wrap ((n:Int) + 1)=((n + 1:Nat):Int):=by rw [wrap64 (by omega) (by omega)];omega
      have cN:(aj ((jV p st parts i).take n)).length=n:=by rw [pF,List.length_take,hrl];omega
      have cC:(aj ((jV p st parts i).take n) ++ List.replicate (p.length - n) (AV.bool false)).length=p.length:=by rw [List.length_append,cN,List.length_replicate];omega
      have tN:List.take n (aj ((jV p st parts i).take n) ++ List.replicate (p.length - n) (AV.bool false))=aj ((jV p st parts i).take n):=by rw [List.take_left' cN]
      have dN:List.drop (n + 1) (aj ((jV p st parts i).take n) ++ List.replicate (p.length - n) (AV.bool false))=List.replicate (p.length - (n + 1)) (.bool false):=by
        rw [List.drop_append,List.drop_of_length_le (by omega),cN,List.nil_append,List.drop_replicate];congr 1;omega
      have hfin:aj ((jV p st parts i).take (n + 1))=aj ((jV p st parts i).take n) ++ [.bool (dh p st parts i n)]:=by
        rw [List.take_add_one,vo hn]
        simp only [Option.toList_some,aW];rfl
      have hstep:=yI p st parts i n q hq
      simp -implicitDefEqProofs only [hltn,go_sem,seval]
      refine au (nD p n) ?_
      cases he:bE p n
      · simp -implicitDefEqProofs only [k4,k5,k6,n0,nA,n0A,n0A',hnl,hn1,cC,tN,dN,w1,go_sem,seval]
        have hb:dh p st parts i (n:Nat)=false:=by rw [hstep];simp [he,xk]
        refine ⟨n + 1,by omega,rfl,by omega,by omega,k3,?_,?_,?_⟩
        · rw [if_neg (by omega)]
        · first | (rw [if_neg (by omega)];exact ⟨_,rfl⟩) | exact ⟨_,rfl⟩
        · rw [hfin,hb]
      obtain ⟨n',x,e1,hx,hxn⟩:=A8 he
      have:n'=n:=by omega
      subst this
      have ha:=t.at hp hs hx hxn
      simp -implicitDefEqProofs only [k4,k5,k6,n0,nA,n0A,n0A',hq,go_sem,seval]
      refine au (Ui ha q.l hqok.2) ?_
      cases hall:q.l.all (dM p st n')
      · simp -implicitDefEqProofs only [k4,k5,k6,n0,nA,n0A,n0A',hq,hnl,hn1,cC,tN,dN,w1,go_sem,seval]
        have hb:dh p st parts i (n':Nat)=false:=by rw [hstep];simp [he,hall,xk]
        refine ⟨n' + 1,by omega,rfl,by omega,by omega,k3,?_,?_,?_⟩
        · rw [if_neg (by omega)]
        · first | (rw [if_neg (by omega)];exact ⟨_,rfl⟩) | exact ⟨_,rfl⟩
        · rw [hfin,hb]
      cases i with
      | zero =>
        simp -implicitDefEqProofs only [k4,k5,k6,n0,nA,n0A,n0A',hq,hnl,hn1,cC,tN,dN,w1,go_sem,seval]
        have hb:dh p st parts 0 (n':Nat)=true:=by rw [hstep];simp [he,hall,xk]
        refine ⟨n' + 1,by omega,rfl,by omega,by omega,k3,?_,?_,?_⟩
        · rw [if_neg (by omega)]
        · first | (rw [if_neg (by omega)];exact ⟨_,rfl⟩) | exact ⟨_,rfl⟩
        · rw [hfin,hb]
      | succ j =>
        have z0:(((j + 1:Nat):Int)=0)=False:=eq_false (by omega)
        have hsome:=TT (st:=st) (parts:=parts) hp t j hx hxn q.comb
        rw [R3 (jV p st parts j)] at hsome
        simp only [rowAt] at k5 hcA htA hlr
        rw [hlr] at hsome
        cases sn2
        all_goals
          simp -implicitDefEqProofs only [k4,k5,k6,n0,nA,n0A,n0A',hq,hnl,hn1,cC,tN,dN,w1,z0,hcA,htA,go_sem,seval]
          refine au hsome ?_
          simp -implicitDefEqProofs only [k4,k5,k6,n0,nA,n0A,n0A',hq,hnl,hn1,cC,tN,dN,w1,z0,hcA,htA,go_sem,seval]
          have hb:dh p st parts (j + 1) (n':Nat)=(dw p n' q.comb).any (dh p st parts j):=by rw [hstep];simp [he,hall,xk]
          refine ⟨n' + 1,by omega,rfl,by omega,by omega,k3,?_,?_,?_⟩
          · rw [if_neg (by omega)]
          · first | (rw [if_neg (by omega)];exact ⟨_,rfl⟩) | exact ⟨_,rfl⟩
          · rw [hfin,hb]
    · have hltn:((n:Int) < (p.length:Int))=False:=eq_false (by omega)
      have hnl:n=p.length:=by omega
      subst hnl
      simp -implicitDefEqProofs only [hltn,wi,go_sem,seval]
      refine ⟨(i + 1,m),by simp only;omega,⟨rfl,rfl⟩,by simp only;omega,by simp only;omega,k4,false,?_⟩
      rw [k6,List.take_of_length_le (by omega),Nat.sub_self,List.replicate_zero,List.append_nil];rfl
  · have hlt:((i:Int) < (parts.length:Int))=False:=eq_false (by omega)
    have hil:i=parts.length:=by omega
    subst hil
    simp -implicitDefEqProofs only [hlt,h4,go_sem,seval]
    rw [jv _ h5 (by rw [pF,hlr];omega),Nat.mul_one,List.take_of_length_le (by rw [pF,hlr];omega),hlr]
theorem TH (p:bA) (st:List Ty.State) (hp:gV p) (hs:st.length ≤ 100000) (c:Complex) (hc:Enc.ok c) :
    aK Tryz.prog 81 [Enc.av p,Enc.av st,Enc.av c] (Enc.av (Bn p st c.parts)):=by
  refine aH mix c81 (by kernel_rfl) (by kernel_rfl) (by simp [ay,ak,Go.AX.flat]) (by first | exact ak _ | simp [flat,ay,ak]) ?_
  have hpl:=hp.len
  have hcl:c.parts.length ≤ 140737488355328:=((Complex.bH c).1 hc).1.1
  have none':(∀ n:Int,xF p st n c.parts=false) → Bn p st c.parts=[]:=fun h=>by
    unfold Bn jT
    rw [List.filter_eq_nil_iff.2 (fun a _=>by simp [h])];rfl
  simp -implicitDefEqProofs only [F81,go_sem,seval]
  refine au (Q6 p hp) ?_
  cases ht:jS p
  · rw [none' fun n=>by simp [xF,ht]]
    simp -implicitDefEqProofs only [go_sem,seval]
    simp [cB,view,St.get,AX.look,aj]
  by_cases hpe:c.parts=[]
  · rw [none' fun n=>by simp [xF,hpe]]
    have h0:((c.parts.length:Int)=0)=True:=eq_true (by rw [hpe];rfl)
    simp -implicitDefEqProofs only [h0,go_sem,seval]
    simp [cB,view,St.get,AX.look,aj]
  have hlen:0 < c.parts.length:=List.length_pos_iff.2 hpe
  have h0:((c.parts.length:Int)=0)=False:=eq_false (by omega)
  have t:=Au.1 ht
  simp -implicitDefEqProofs only [h0,go_sem,seval]
  refine au (Tj p st c hp t hs hc) ?_
  have hrl:=AJ p st c.parts c.parts.length
  have hget:∀ n:Nat,n < p.length → (rowAt p st c.parts c.parts.length)[n]? = some (xF p st n c.parts):=fun n hn=>by
    obtain ⟨j,hj⟩:∃ j,c.parts.length=j + 1:=⟨c.parts.length - 1,by omega⟩
    rw [hj,rowAt,vo hn]
    simp [xF,ht,hpe,hj]
  generalize rowAt p st c.parts c.parts.length=R at hrl hget
  simp -implicitDefEqProofs only [hrl,go_sem,seval]
  unfold Bn
  refine aF (fun k:Nat=>p.length - k) (fun k=>[(7,.sl 1 (jT p st c.parts k).length 0 (jT p st c.parts k).length 1),(8,.ps p.length (aj R)),(9,.int .i64 k)])
    (fun k s=>k ≤ p.length ∧ 2 ≤ s.next ∧ AX.look 1 s.heap=some (.cells (jT p st c.parts k).length (aj (jT p st c.parts k)) false)) 0 ?_ ?_
  · simp -implicitDefEqProofs only [go_sem,seval]
    simp [jT,aj]
  rintro k ρ ⟨g,m⟩ ⟨h1,h2,h3⟩
  dsimp only at h2 h3
  have hsucc:=Gx p st c.parts k
  have hF:=Aw p st c.parts k
  have m1:(m=1)=False:=eq_false (by omega)
  rcases Nat.lt_or_ge k p.length with hk | hk
  · have hlt:((k:Int) < (p.length:Int))=True:=eq_true (by omega)
    have w1:IntKind.i64.wrap ((k:Int) + 1)=((k + 1:Nat):Int):=by rw [wrap64 (by omega) (by omega)];omega
    have hg:dH k 1 (.ps p.length (aj R))=some (.vp (Enc.cells (xF p st k c.parts) ++ aj (R.drop (k + 1)))):=by
      have:=qy R k
      rw [hrl,hget k hk] at this
      exact this
    generalize jT p st c.parts k=F at h3 hsucc hF
    cases hb:xF p st k c.parts
    · rw [hb] at hg
      rw [hb,if_neg (by simp),List.append_nil] at hsucc
      simp -implicitDefEqProofs only [hlt,hg,h3,w1,go_sem,seval]
      refine ⟨k + 1,by omega,?_⟩
      rw [hsucc]
      exact ⟨⟨rfl,rfl⟩,by omega,h2,rfl⟩
    · rw [hb] at hg
      rw [hb,if_pos rfl] at hsucc
      have hc1:=ig F
      have ht1:List.take F.length (aj F)=aj F:=List.take_of_length_le (by omega)
      have hbd:((F.length + 1) * 8 ≤ 140737488355328)=True:=eq_true (by omega)
      have hsn:aj (F ++ [(k:Int)])=aj F ++ [.int .i64 k]:=by rw [aW];rfl
      have hl2:(F ++ [(k:Int)]).length=F.length + 1:=by simp
      simp -implicitDefEqProofs only [hlt,hg,h3,w1,hc1,ht1,hbd,m1,go_sem,seval]
      refine ⟨k + 1,by omega,?_⟩
      rw [hsucc,hl2,hsn]
      exact ⟨⟨rfl,rfl⟩,by omega,by omega,rfl⟩
  · have hlt:((k:Int) < (p.length:Int))=False:=eq_false (by omega)
    have hkl:k=p.length:=by omega
    subst hkl
    simp -implicitDefEqProofs only [hlt,go_sem,seval]
    have hc1:=ig (jT p st c.parts p.length)
    rw [jv _ h3 (by omega),Nat.mul_one,List.take_of_length_le (by omega)]
theorem TB {p:bA} {st:List Ty.State} {n:Int} {parts:List Part} (h:xF p st n parts=true):∃ k:Nat,n=k ∧ k < p.length:=by
  simp only [xF,Bool.and_eq_true] at h
  have he:bE p n=true:=by
    cases he:bE p n
    · rw [nu he] at h;simp at h
    · rfl
  obtain ⟨k,x,e,hx,_⟩:=A8 he
  exact ⟨k,e,dB hx⟩
theorem Q5 {p:bA} {st:List Ty.State} {n:Int} {parts:List Part}:((Bn p st parts).any fun x=>x == n)=xF p st n parts:=by
  rw [Bool.eq_iff_iff,List.any_eq_true]
  constructor
  · rintro ⟨x,hx,hxn⟩
    simp only [beq_iff_eq] at hxn
    subst hxn
    simp only [Bn,jT,List.mem_map,List.mem_filter] at hx
    obtain ⟨k,⟨_,h2⟩,rfl⟩:=hx
    exact h2
  · intro h
    obtain ⟨k,rfl,hk⟩:=TB h
    refine ⟨k,?_,by simp⟩
    simp only [Bn,jT,List.mem_map,List.mem_filter,List.mem_range]
    exact ⟨k,⟨hk,h⟩,rfl⟩
theorem OL (p:bA) (st:List Ty.State) (parts:List Part):(Bn p st parts).length ≤ p.length:=Aw p st parts p.length
theorem UA (p:bA) (st:List Ty.State) (hp:gV p) (hs:st.length ≤ 100000) (n:Int) (c:Complex) (hc:Enc.ok c) :
    aK Tryz.prog 52 [Enc.av p,Enc.av st,Enc.av n,Enc.av c] (.bool (xF p st n c.parts)):=by
  refine aH mix c52 (by kernel_rfl) (by kernel_rfl) (by simp [ay,ak,Go.AX.flat]) (by first | exact ak _ | simp [flat,ay,ak]) ?_
  simp -implicitDefEqProofs only [F52,go_sem,seval]
  refine au (TH p st hp hs c hc) ?_
  simp -implicitDefEqProofs only [go_sem,seval]
  rw [← Q5]
  have hl:=OL p st c.parts
  have hpl:=hp.len
  generalize Bn p st c.parts=l at hl
  refine aF (fun i:Nat=>l.length - i) (fun i=>[(2,Enc.av n),(9,Enc.av l),(10,.int .i64 i)]) (fun i s=>i ≤ l.length ∧ Pre (fun x=>x == n) l i) 0 ?_ ?_
  · simp -implicitDefEqProofs only [go_sem,seval]
    exact Pre.zero _ _
  rintro i ρ ⟨g,m⟩ ⟨h1,h2⟩
  rcases Nat.lt_or_ge i l.length with hi | hi
  · obtain ⟨z,hz,hd,hm⟩:=aG hi
    have hlt:((i:Int) < (l.length:Int))=True:=eq_true (by omega)
    have w1:IntKind.i64.wrap ((i:Int) + 1)=((i + 1:Nat):Int):=by rw [wrap64 (by omega) (by omega)];omega
    simp -implicitDefEqProofs only [hlt,hz,go_sem,seval]
    (refine bC (fun h hT=>?_) (fun h hT=>?_) <;> try simp -implicitDefEqProofs only [hT,w1,go_sem,seval] <;> try clear hT)
    · rw [iY hm (by simpa using h)]
    · exact ⟨i + 1,by omega,rfl,by omega,h2.next hz (by simpa using h)⟩
  · have hlt:((i:Int) < (l.length:Int))=False:=eq_false (by omega)
    simp -implicitDefEqProofs only [hlt,go_sem,seval]
    rw [oN (h2.all hi)]
end W15
