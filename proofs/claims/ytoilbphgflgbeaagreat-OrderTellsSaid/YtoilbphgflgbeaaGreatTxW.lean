/- Weights: the small functions. -/
import Derived.Test.YtoilbphgflgbeaaGreatTxB
set_option linter.unusedSimpArgs false
set_option linter.unusedVariables false
namespace W15
open Go Go.AX Go.Proofs
theorem VG (a:Int):Pure Tryz.prog 84 [.int .i64 a] (.bool false):=by
  refine BF mix (fH _) c84 (by kernel_rfl) (by simp [F84]) ?_
  simp -implicitDefEqProofs only [F84,go_sem,seval]
def Vy:Known:=fun f xs=>if f=84 then match xs with | [.int .i64 a]=>some (.bool false) | _=>none else none
theorem Fq (a:Int):Vy 84 [.int .i64 a]=some (.bool false):=rfl
theorem Tn : iV Tryz.prog Vy := fun f xs v h => by
    simp only [Vy] at h
    split at h
    · rename_i hf;subst hf
      split at h
      · simp only [Option.some.injEq] at h;subst h;exact ⟨VG _,rfl,rfl⟩
      · simp at h
    · simp at h
def jM (a b:Int):Int:=if a < b then -1 else if b < a then 1 else 0
theorem Us (a b:Int):Pure Tryz.prog 56 [.int .i64 a,.int .i64 b] (.int .i64 (jM a b)):=by
  refine BF mix Tn c56 (by kernel_rfl) (by simp [F56]) ?_
  simp -implicitDefEqProofs only [F56,Fq,go_sem,seval]
  refine Ay (fun h=>?_) (fun h=>?_) <;> simp -implicitDefEqProofs only [h,Fq,go_sem,seval]
  · simp [jM,h]
  · refine Ay (fun h2=>?_) (fun h2=>?_) <;> simp -implicitDefEqProofs only [h2,Fq,go_sem,seval]
    · simp only [gt_iff_lt] at h2;simp [jM,h,h2]
    · simp only [gt_iff_lt] at h2;simp [jM,h,h2]
def PL (a b c:Int):Int:=if a ≠ 0 then a else if b ≠ 0 then b else c
theorem Uw (a b c:Int):Pure Tryz.prog 57 [.ps 3 [.int .i64 a,.int .i64 b,.int .i64 c]] (.int .i64 (PL a b c)):=by
  refine BF mix (fH _) c57 (by kernel_rfl) (by simp [F57]) ?_
  simp -implicitDefEqProofs only [F57,dH,go_sem,seval]
  rw [kC]
  refine ⟨4,?_⟩
  simp -implicitDefEqProofs only [dH,go_sem,seval]
  repeat' (refine bC (fun h hT=>?_) (fun h hT=>?_) <;> try simp -implicitDefEqProofs only [hT, *,dH,go_sem,seval] <;> try clear hT)
  all_goals simp_all [PL]
def Vj:Known
  | 56,[.int .i64 a,.int .i64 b]=>some (.int .i64 (jM a b))
  | 57,[.ps 3 [.int .i64 a,.int .i64 b,.int .i64 c]]=>some (.int .i64 (PL a b c))
  | _,_=>none
theorem SH (a b:Int):Vj 56 [.int .i64 a,.int .i64 b]=some (.int .i64 (jM a b)):=rfl
theorem SA (a b c:Int):Vj 57 [.ps 3 [.int .i64 a,.int .i64 b,.int .i64 c]]=some (.int .i64 (PL a b c)):=rfl
theorem T9:iV Tryz.prog Vj:=fun f xs v h=>by
  unfold Vj at h
  split at h
  · simp only [Option.some.injEq] at h;subst h;exact ⟨Us _ _,rfl,rfl⟩
  · simp only [Option.some.injEq] at h;subst h;exact ⟨Uw _ _ _,rfl,rfl⟩
  · simp at h
structure Wt where
  a:Int
  b:Int
  c:Int
def Wt.av (w:Wt):AV:=.agg [.int .i64 w.a,.int .i64 w.b,.int .i64 w.c]
def Wt.less (w v:Wt):Bool:=decide (PL (jM w.a v.a) (jM w.b v.b) (jM w.c v.c) < 0)
theorem VQ (w v:Wt):Pure Tryz.prog 85 [w.av,v.av] (.bool (w.less v)):=by
  refine BF mix T9 c85 (by kernel_rfl) (by simp [F85]) ?_
  simp -implicitDefEqProofs only [F85,Wt.av,SH,SA,go_sem,seval]
  refine aA (by kernel_rfl) ?_
  simp -implicitDefEqProofs only [Wt.less,go_sem,seval]
theorem MN (w v:Wt):w.less v=true ↔ w.a < v.a ∨ (w.a=v.a ∧ (w.b < v.b ∨ (w.b=v.b ∧ w.c < v.c))):=by
  simp only [Wt.less,PL,jM,decide_eq_true_eq]
  repeat' split
  all_goals (first | omega | (simp_all;omega) | simp_all)
end W15
/- Counting simple selectors. -/
namespace W15
open Go Go.AX Go.AX.Ty Go.Proofs
mutual
def Kg (a b:Int):Simple → Int
  | .mk k _ _ _ _ l=>(if a ≤ k ∧ k ≤ b then 1 else 0) + (if k=11 then gT a b l else 0)
def gT (a b:Int):List Simple → Int
  | []=>0
  | x :: r=>Kg a b x + gT a b r
end
theorem Pg (a b:Int) (x:Simple):Kg a b x=(if a ≤ x.kind ∧ x.kind ≤ b then 1 else 0) + (if x.kind=11 then gT a b x.l else 0):=by
  cases x;simp only [Kg,Simple.kind,Simple.l];rfl
mutual
theorem Tv (a b:Int):∀ x:Simple,0 ≤ Kg a b x ∧ Kg a b x ≤ R7 x
  | .mk k _ _ _ _ l => by
    have:=dJ a b l
    simp only [Kg,R7]
    split <;> split <;> omega
theorem dJ (a b:Int):∀ l:List Simple,0 ≤ gT a b l ∧ gT a b l ≤ gB l
  | []=>by simp [gT,gB]
  | x :: r => by
    have:=dJ a b r
    have:=Tv a b x
    simp only [gT,gB]
    omega
end
theorem Vx (a b:Int):∀ (N:Nat) (l:List Simple),gB l ≤ N → N ≤ 1000000 → aK Tryz.prog 82 [Enc.av l,Enc.av a,Enc.av b] (Enc.av (gT a b l)):=fun N=>by
  induction N using Nat.strongRecOn with
  | ind N ih=>
  intro l hN hM
  refine aH mix c82 (by kernel_rfl) (by kernel_rfl) (by simp [ay,ak]) (ak _) ?_
  simp -implicitDefEqProofs only [F82,go_sem,seval]
  refine aF (fun p:Nat × Int=>l.length - p.1) (fun p=>[(0,Enc.av l),(1,.int .i64 a),(2,.int .i64 b),(7,.int .i64 p.2),(8,.int .i64 p.1)])
    (fun p s=>p.1 ≤ l.length ∧ 0 ≤ p.2 ∧ p.2 + gT a b (l.drop p.1)=gT a b l ∧ gB (l.drop p.1) ≤ N ∧ p.2 ≤ N) (0,0) ?_ ?_
  · simp -implicitDefEqProofs only [go_sem,seval]
    simp [hN]
  rintro ⟨k,n⟩ ρ ⟨hp,nx⟩ ⟨h1,h2,h3,h4,h5⟩
  dsimp only at h1 h2 h3 h4 h5
  have hlen:=ru l
  rcases Nat.lt_or_ge k l.length with hk | hk
  · obtain ⟨x,hx,hd,hm⟩:=aG hk
    have hlt:((k:Int) < (l.length:Int))=True:=eq_true (by omega)
    simp only [hd,gT,gB] at h3 h4
    rw [Pg] at h3
    rw [vY] at h4
    have hb:=dJ a b x.l
    have hb2:=dJ a b (l.drop (k + 1))
    have hb3:=dJ a b l
    have w1:IntKind.i64.wrap ((k:Int) + 1)=((k + 1:Nat):Int):=by rw [wrap64 (by omega) (by omega)];omega
    simp -implicitDefEqProofs only [hlt,hx,w1,go_sem,seval]
    have ih':=ih (N - 1) (by omega) x.l (by omega) (by omega)
    have w2:IntKind.i64.wrap (n + 1)=n + 1:=wrap64 (by omega) (by omega)
    have w3:IntKind.i64.wrap (n + gT a b x.l)=n + gT a b x.l:=wrap64 (by omega) (by omega)
    have w4:IntKind.i64.wrap (n + 1 + gT a b x.l)=n + 1 + gT a b x.l:=wrap64 (by omega) (by omega)
    repeat' (first
      | (refine bC (fun h hT=>?_) (fun h hT=>?_) <;> try simp -implicitDefEqProofs only [hT,hx,w1,w2,w3,w4,go_sem,seval] <;> try clear hT)
      | (refine au ih' ?_;simp -implicitDefEqProofs only [hx,w1,w2,w3,w4,go_sem,seval]))
    all_goals
      refine ⟨(k + 1,_),by simp only;omega,⟨rfl,rfl⟩,?_⟩
      simp only
      repeat' split at h3
      all_goals omega
  · have hlt:((k:Int) < (l.length:Int))=False:=eq_false (by omega)
    rw [iO hk] at h3
    simp only [gT] at h3
    simp -implicitDefEqProofs only [hlt,go_sem,seval]
    simp;omega
end W15
/- What a selector weighs, by the reference. -/
namespace W15
open Go Go.AX Go.AX.Ty Go.Proofs
def kg (a b:Int):List Part → Int
  | []=>0
  | p :: r=>gT a b p.l + kg a b r
def mV:List Part → Nat
  | []=>0
  | p :: r=>1 + gB p.l + mV r
theorem gQ (a b:Int):∀ l:List Part,0 ≤ kg a b l ∧ kg a b l ≤ mV l
  | []=>by simp [kg,mV]
  | p :: r => by
    have:=gQ a b r
    have:=dJ a b p.l
    simp only [kg,mV];omega
theorem wh:∀ l:List Part,l.length ≤ mV l
  | []=>by simp [mV]
  | p :: r=>by have:=wh r;simp only [List.length_cons,mV];omega
def O9 (c:Complex):W3:=⟨kg 3 3 c.parts,kg 4 10 c.parts,kg 2 2 c.parts + if c.pseudo=[] then 0 else 1⟩
theorem VB (x:Complex) (hx:mV x.parts ≤ 100000):aK Tryz.prog 53 [Enc.av x] (Enc.av (O9 x)):=by
  refine aH mix c53 (by kernel_rfl) (by kernel_rfl) (by simp [ay,ak]) (ak _) ?_
  have hlen:=wh x.parts
  have b1:=gQ 3 3 x.parts
  have b2:=gQ 4 10 x.parts
  have b3:=gQ 2 2 x.parts
  simp -implicitDefEqProofs only [F53,go_sem,seval]
  refine aF (fun p:Nat × W3=>x.parts.length - p.1) (fun p=>[(1,.ptr 0 0 0),(2,.ptr 1 0 0),(3,.ptr 2 0 0),(4,.int .i64 p.1)])
    (fun p s=>s=⟨[(2,.cells 0 [.int .i64 p.2.a,.int .i64 p.2.b,.int .i64 p.2.c] false),(1,.cells 0 [.int .i64 0,.int .i64 0,.int .i64 0] false),(0,.cells 0 (Enc.cells x) false)],3⟩ ∧
      p.1 ≤ x.parts.length ∧ 0 ≤ p.2.a ∧ 0 ≤ p.2.b ∧ 0 ≤ p.2.c ∧ p.2.a + kg 3 3 (x.parts.drop p.1)=kg 3 3 x.parts ∧ p.2.b + kg 4 10 (x.parts.drop p.1)=kg 4 10 x.parts ∧ p.2.c + kg 2 2 (x.parts.drop p.1)=kg 2 2 x.parts ∧ mV (x.parts.drop p.1) ≤ 100000) (0,⟨0,0,0⟩) ?_ ?_
  · simp -implicitDefEqProofs only [go_sem,seval]
    simp [hx]
  rintro ⟨k,⟨a,b,c⟩⟩ ρ ⟨hp,nx⟩ ⟨hs,h1,h2,h3,h4,h5,h6,h7,h8⟩
  dsimp only at hs h1 h2 h3 h4 h5 h6 h7 h8
  obtain ⟨rfl,rfl⟩:=St.mk.inj hs
  rcases Nat.lt_or_ge k x.parts.length with hk | hk
  · obtain ⟨p,hpk,hd,hm⟩:=aG hk
    simp only [hd,kg,mV] at h5 h6 h7 h8
    have hlt:((k:Int) < (x.parts.length:Int))=True:=eq_true (by omega)
    have w1:IntKind.i64.wrap ((k:Int) + 1)=((k + 1:Nat):Int):=by rw [wrap64 (by omega) (by omega)];omega
    have d1:=dJ 3 3 p.l
    have d2:=dJ 4 10 p.l
    have d3:=dJ 2 2 p.l
    have e1:=gQ 3 3 (x.parts.drop (k + 1))
    have e2:=gQ 4 10 (x.parts.drop (k + 1))
    have e3:=gQ 2 2 (x.parts.drop (k + 1))
    have w2:IntKind.i64.wrap (a + gT 3 3 p.l)=a + gT 3 3 p.l:=wrap64 (by omega) (by omega)
    have w3:IntKind.i64.wrap (b + gT 4 10 p.l)=b + gT 4 10 p.l:=wrap64 (by omega) (by omega)
    have w4:IntKind.i64.wrap (c + gT 2 2 p.l)=c + gT 2 2 p.l:=wrap64 (by omega) (by omega)
    simp -implicitDefEqProofs only [hlt,hpk,w1,w2,w3,w4,go_sem,seval]
    repeat' (first
      | (refine aJ (Vx _ _ 100000 p.l (by omega) (by omega)) ?_;simp -implicitDefEqProofs only [w1,w2,w3,w4,go_sem,seval])
      | (refine aA (by (first | omega | (simp [aB,aD,aC,Nat.testBit_eq_decide_div_mod_eq];done) | (simp [aB,aD,aC,Nat.testBit_eq_decide_div_mod_eq];omega) | kernel_rfl)) ?_;simp -implicitDefEqProofs only [w1,w2,w3,w4,go_sem,seval]))
    refine ⟨(k + 1,⟨_,_,_⟩),by simp only;omega,rfl,rfl,?_⟩
    simp only;omega
  · have hlt:((k:Int) < (x.parts.length:Int))=False:=eq_false (by omega)
    rw [iO hk] at h5 h6 h7
    simp only [kg,Int.add_zero] at h5 h6 h7
    have w1:IntKind.i64.wrap (c + 1)=c + 1:=wrap64 (by omega) (by omega)
    simp -implicitDefEqProofs only [hlt,w1,go_sem,seval]
    repeat' (refine bC (fun h hT=>?_) (fun h hT=>?_) <;> try simp -implicitDefEqProofs only [hT,w1,go_sem,seval] <;> try clear hT)
    all_goals
      simp only [O9,h5,h6,h7,AV.agg.injEq,List.cons.injEq,AV.int.injEq,true_and,and_true]
      simp_all
end W15
/- What a selector weighs, by the program. -/
namespace W15
open Go Go.AX Go.AX.Ty Go.Proofs
def Sj (k:Int):Int:=if k=3 then 0 else if 4 ≤ k ∧ k ≤ 10 then 1 else if k=2 then 2 else 3
theorem Vq (k:Int):aK Tryz.prog 124 [Enc.av k] (Enc.av (Sj k)):=by
  refine aH mix c124 (by kernel_rfl) (by kernel_rfl) rfl rfl ?_
  simp -implicitDefEqProofs only [F124,go_sem,seval]
  repeat' (refine bC (fun h hT=>?_) (fun h hT=>?_) <;> try simp -implicitDefEqProofs only [hT,go_sem,seval] <;> try clear hT)
  all_goals
    simp only [AV.int.injEq,true_and,Sj]
    repeat' split
    all_goals omega
theorem Vp:∀ (N:Nat) (l:List Simple),gB l ≤ N → N ≤ 100000 → ∀ (h:List (Nat × AX.Obj)) (n b:Nat) (p q r:Int),b < n → AX.look b h=some (.cells 0 [.int .i64 p,.int .i64 q,.int .i64 r] false) →
    0 ≤ p ∧ p + gB l ≤ 10000000 → 0 ≤ q ∧ q + gB l ≤ 10000000 → 0 ≤ r ∧ r + gB l ≤ 10000000 →
    aR Tryz.prog 106 [.ptr b 0 0,Enc.av l] ⟨h,n⟩ fun v s'=>v=.tup [] ∧ s'=⟨putAt b (.cells 0 [.int .i64 (p + gT 3 3 l),.int .i64 (q + gT 4 10 l),.int .i64 (r + gT 2 2 l)] false) h,n⟩:=fun N=>by
  induction N using Nat.strongRecOn with
  | ind N ih=>
  intro l hN hM h n b p q r hb hl hp hq hr
  refine xP mix c106 (by kernel_rfl) (by kernel_rfl) (by simp [Cl,Cls]) rfl Md ?_
  have hlen:=ru l
  have bd1:=dJ 3 3 l
  have bd2:=dJ 4 10 l
  have bd3:=dJ 2 2 l
  simp -implicitDefEqProofs only [F106,go_sem,seval]
  refine aF (fun k:Nat=>l.length - k) (fun k=>[(0,.ptr b 0 0),(7,Enc.av l),(8,.int .i64 l.length),(9,.int .i64 k)])
    (fun k s=>k ≤ l.length ∧ n ≤ s.next ∧ (∀ id,id < n → id ≠ b → AX.look id s.heap=AX.look id h) ∧
      ∃ p' q' r', AX.look b s.heap = some (.cells 0 [.int .i64 p', .int .i64 q', .int .i64 r'] false) ∧ p' + gT 3 3 (l.drop k) = p + gT 3 3 l ∧ q' + gT 4 10 (l.drop k) = q + gT 4 10 l ∧ r' + gT 2 2 (l.drop k) = r + gT 2 2 l ∧
        (0 ≤ p' ∧ p' + gB (l.drop k) ≤ 10000000) ∧ (0 ≤ q' ∧ q' + gB (l.drop k) ≤ 10000000) ∧ (0 ≤ r' ∧ r' + gB (l.drop k) ≤ 10000000) ∧ gB (l.drop k) ≤ N) 0 ?_ ?_
  · simp -implicitDefEqProofs only [go_sem,seval]
    refine ⟨fun _ _ _=>trivial,p,q,r,?_⟩
    simp [hl];omega
  rintro k ρ ⟨g,m⟩ ⟨h1,h2,h3,p',q',r',h4,h5,h6,h7,h8,h9,h10,h11⟩
  dsimp only at h2 h3 h4
  rcases Nat.lt_or_ge k l.length with hk | hk
  · obtain ⟨x,hx,hd,hm⟩:=aG hk
    have hlt:((k:Int) < (l.length:Int))=True:=eq_true (by omega)
    simp only [hd,gT,gB] at h5 h6 h7 h8 h9 h10 h11
    rw [Pg] at h5 h6 h7
    rw [vY] at h8 h9 h10 h11
    have w1:IntKind.i64.wrap ((k:Int) + 1)=((k + 1:Nat):Int):=by rw [wrap64 (by omega) (by omega)];omega
    have hne:(m=b)=False:=eq_false (by omega)
    have a1:=dJ 3 3 x.l
    have a2:=dJ 4 10 x.l
    have a3:=dJ 2 2 x.l
    have a4:=dJ 3 3 (l.drop (k + 1))
    have a5:=dJ 4 10 (l.drop (k + 1))
    have a6:=dJ 2 2 (l.drop (k + 1))
    have w2:IntKind.i64.wrap (p' + 1)=p' + 1:=wrap64 (by omega) (by repeat' split at h5;all_goals omega)
    have w3:IntKind.i64.wrap (q' + 1)=q' + 1:=wrap64 (by omega) (by repeat' split at h6;all_goals omega)
    have w4:IntKind.i64.wrap (r' + 1)=r' + 1:=wrap64 (by omega) (by repeat' split at h7;all_goals omega)
    have hfr:∀ id,id < n → id ≠ b → ∀ o:AX.Obj,AX.look id ((m,o) :: g)=AX.look id h:=fun id i1 i2 o=>by
      simp only [AX.look];rw [if_neg (by omega)];exact h3 id i1 i2
    have hbl:∀ o:AX.Obj,AX.look b ((m,o) :: g)=some (.cells 0 [.int .i64 p',.int .i64 q',.int .i64 r'] false):=fun o=>by
      simp only [AX.look];rw [if_neg (by omega)];exact h4
    have hpr:∀ (o o':AX.Obj) (id:Nat),id < n → id ≠ b → AX.look id ((m,o) :: putAt b o' g)=AX.look id h:=fun o o' id i1 i2=>by
      simp only [AX.look];rw [if_neg (by omega),fM (Ne.symm i2)];exact h3 id i1 i2
    have hpb:∀ (o o':AX.Obj),AX.look b ((m,o) :: putAt b o' g)=some o':=fun o o'=>by
      simp only [AX.look];rw [if_neg (by omega)];exact jF h4
    by_cases h11':x.kind=11
    · have hT:=eq_true h11'
      have hr:=ih (N - 1) (by omega) x.l (by omega) (by omega)
      simp -implicitDefEqProofs only [hlt,hx,w1,hne,h4,hT,go_sem,seval]
      refine eU (hr _ _ b p' q' r' (by omega) (hbl _) (by omega) (by omega) (by omega)) ?_
      simp -implicitDefEqProofs only [w1,hne,h4,go_sem,seval]
      refine ⟨k + 1,by omega,rfl,by omega,by omega,fun id i1 i2=>?_,_,_,_,rfl,?_,?_,?_,by omega,by omega,by omega,by omega⟩
      · repeat rw [if_neg (by omega)]
        exact h3 id i1 i2
      · repeat' split at h5
        all_goals omega
      · repeat' split at h6
        all_goals omega
      · repeat' split at h7
        all_goals omega
    · have hT:=eq_false h11'
      simp -implicitDefEqProofs only [hlt,hx,w1,hne,h4,hT,go_sem,seval]
      refine au (Vq x.kind) ?_
      rw [if_neg h11'] at h5 h6 h7
      have hc:Sj x.kind=0 ∨ Sj x.kind=1 ∨ Sj x.kind=2 ∨ Sj x.kind=3:=by
        unfold Sj
        repeat' split
        all_goals simp
      rcases hc with hc | hc | hc | hc
      all_goals
        simp -implicitDefEqProofs only [hc,hne,h4,w1,w2,w3,w4,go_sem,seval]
        repeat' (first | (refine aA (by (first | omega | (simp [aB,aD,aC,Nat.testBit_eq_decide_div_mod_eq];done) | (simp [aB,aD,aC,Nat.testBit_eq_decide_div_mod_eq];omega) | kernel_rfl)) ?_;simp -implicitDefEqProofs only [hc,hne,h4,w1,w2,w3,w4,go_sem,seval]))
      all_goals unfold Sj at hc
      all_goals
        refine ⟨k + 1,by omega,rfl,by omega,by omega,fun id i1 i2=>?_,_,_,_,rfl,?_,?_,?_,?_,?_,?_,by omega⟩
        all_goals
          first
            | (repeat rw [if_neg (by omega)]
               exact h3 id i1 i2)
            | ((repeat' split at hc) <;> (repeat' split at h5) <;> (repeat' split at h6) <;> (repeat' split at h7) <;> omega)
  · have hlt:((k:Int) < (l.length:Int))=False:=eq_false (by omega)
    rw [iO hk] at h5 h6 h7
    simp only [gT,Int.add_zero] at h5 h6 h7
    subst h5;subst h6;subst h7
    simp -implicitDefEqProofs only [hlt,go_sem,seval]
    intro id o hid0 ho
    by_cases hid:id=b
    · subst hid
      rw [if_pos rfl,hl] at ho
      exact ⟨by rw [h4,← ho];rfl,.inr (by simp at ho;subst ho;simp [FM,Cls,Cl])⟩
    · rw [if_neg (Ne.symm hid)] at ho
      exact ⟨by rw [h3 id hid0 hid];exact ho,.inl ho⟩
end W15
/- What a selector weighs, by the program: the whole. -/
namespace W15
open Go Go.AX Go.AX.Ty Go.Proofs
theorem VI (x:Complex) (hx:mV x.parts ≤ 100000):aK Tryz.prog 79 [Enc.av x] (Enc.av (O9 x)):=by
  refine aH mix c79 (by kernel_rfl) (by kernel_rfl) (by simp [ay,ak]) (ak _) ?_
  have hlen:=wh x.parts
  have b1:=gQ 3 3 x.parts
  have b2:=gQ 4 10 x.parts
  have b3:=gQ 2 2 x.parts
  simp -implicitDefEqProofs only [F79,go_sem,seval]
  refine aF (fun k:Nat=>x.parts.length - k) (fun k=>[(1,.ptr 0 0 0),(2,.ptr 1 0 0),(3,.ptr 2 0 0),(7,Enc.av x.parts),(8,.int .i64 x.parts.length),(9,.int .i64 k)])
    (fun k s=>k ≤ x.parts.length ∧ 3 ≤ s.next ∧ AX.look 0 s.heap=some (.cells 0 (Enc.cells x) false) ∧ AX.look 1 s.heap=some (.cells 0 [.int .i64 0,.int .i64 0,.int .i64 0] false) ∧
      ∃ p q r, AX.look 2 s.heap = some (.cells 0 [.int .i64 p, .int .i64 q, .int .i64 r] false) ∧ p + kg 3 3 (x.parts.drop k) = kg 3 3 x.parts ∧ q + kg 4 10 (x.parts.drop k) = kg 4 10 x.parts ∧ r + kg 2 2 (x.parts.drop k) = kg 2 2 x.parts ∧
        0 ≤ p ∧ 0 ≤ q ∧ 0 ≤ r ∧ mV (x.parts.drop k) ≤ 100000) 0 ?_ ?_
  · simp -implicitDefEqProofs only [go_sem,seval]
    exact ⟨0,0,0,rfl,by simp,by simp,by simp,by simp,by simp,by simp,hx⟩
  rintro k ρ ⟨h,m⟩ ⟨h1,h2,h3,h4,p,q,r,h5,h6,h7,h8,h9,h10,h11,h12⟩
  dsimp only at h2 h3 h4 h5
  have n0:(m=0)=False:=eq_false (by omega)
  have n1:(m=1)=False:=eq_false (by omega)
  have n2:(m=2)=False:=eq_false (by omega)
  simp only [Complex.aO] at h3
  rcases Nat.lt_or_ge k x.parts.length with hk | hk
  · obtain ⟨y,hy,hd,hm⟩:=aG hk
    have hlt:((k:Int) < (x.parts.length:Int))=True:=eq_true (by omega)
    simp only [hd,kg,mV] at h6 h7 h8 h12
    have w1:IntKind.i64.wrap ((k:Int) + 1)=((k + 1:Nat):Int):=by rw [wrap64 (by omega) (by omega)];omega
    have d1:=dJ 3 3 y.l
    have d2:=dJ 4 10 y.l
    have d3:=dJ 2 2 y.l
    have e1:=gQ 3 3 (x.parts.drop (k + 1))
    have e2:=gQ 4 10 (x.parts.drop (k + 1))
    have e3:=gQ 2 2 (x.parts.drop (k + 1))
    simp -implicitDefEqProofs only [hlt,hy,w1,n0,n1,n2,h3,h4,h5,go_sem,seval]
    refine eU (Vp 100000 y.l (by omega) (by omega) _ _ 2 p q r (by omega) (by simp only [AX.look];rw [if_neg (by omega)];exact h5) (by omega) (by omega) (by omega)) ?_
    simp -implicitDefEqProofs only [w1,n0,n1,n2,h3,h4,h5,go_sem,seval]
    refine ⟨k + 1,by omega,rfl,by omega,by omega,_,_,_,rfl,?_⟩
    omega
  · have hlt:((k:Int) < (x.parts.length:Int))=False:=eq_false (by omega)
    rw [iO hk] at h6 h7 h8
    simp only [kg,Int.add_zero] at h6 h7 h8
    have w1:IntKind.i64.wrap (r + 1)=r + 1:=wrap64 (by omega) (by omega)
    simp -implicitDefEqProofs only [hlt,w1,n0,n1,n2,h3,h4,h5,go_sem,seval]
    repeat' (refine bC (fun h hT=>?_) (fun h hT=>?_) <;> try simp -implicitDefEqProofs only [hT,w1,h3,h4,h5,go_sem,seval] <;> try clear hT)
    all_goals
      simp only [O9,h6,h7,h8,AV.agg.injEq,List.cons.injEq,AV.int.injEq,true_and,and_true]
      simp_all
end W15
/- Less, Max, Nth, Small. -/
namespace W15
open Go Go.AX Go.AX.Ty Go.Proofs
def Gy (w v:W3):Bool:=decide (w.a < v.a ∨ (w.a=v.a ∧ (w.b < v.b ∨ (w.b=v.b ∧ w.c < v.c))))
theorem QA (w v:W3):Gy w v=true ↔ w.a < v.a ∨ (w.a=v.a ∧ (w.b < v.b ∨ (w.b=v.b ∧ w.c < v.c))):=by simp [Gy]
theorem Tw (w v:W3):aK Tryz.prog 85 [Enc.av w,Enc.av v] (Enc.av (Gy w v)):=by
  have h:=VQ ⟨w.a,w.b,w.c⟩ ⟨v.a,v.b,v.c⟩
  refine ⟨?_,rfl,rfl⟩
  have e:Wt.less ⟨w.a,w.b,w.c⟩ ⟨v.a,v.b,v.c⟩=Gy w v:=by rw [Bool.eq_iff_iff,MN,QA]
  rw [e] at h
  exact h
theorem VH (w v:W3):aK Tryz.prog 54 [Enc.av w,Enc.av v] (Enc.av (Gy w v)):=by
  refine aH mix c54 (by kernel_rfl) (by kernel_rfl) rfl rfl ?_
  simp -implicitDefEqProofs only [F54,go_sem,seval]
  repeat' (refine bC (fun h hT=>?_) (fun h hT=>?_) <;> try simp -implicitDefEqProofs only [hT,go_sem,seval] <;> try clear hT)
  all_goals
    simp only [AV.bool.injEq,Gy]
    first | (rw [decide_eq_decide];omega) | (simp_all;try omega)
def jW (t:W3):List W3 → W3
  | []=>t
  | x :: r=>jW (if Gy t x then x else t) r
def oJ:List W3 → W3
  | []=>⟨0,0,0⟩
  | x :: r=>jW x r
end W15
/- The greatest. -/
namespace W15
open Go Go.AX Go.AX.Ty Go.Proofs
theorem UL (l:List W3) (hl:l.length ≤ 1000000):aK Tryz.prog 80 [Enc.av l] (Enc.av (oJ l)):=by
  refine aH mix c80 (by kernel_rfl) (by kernel_rfl) (by simp [ay,ak]) (ak _) ?_
  simp -implicitDefEqProofs only [F80,go_sem,seval]
  refine aF (fun k:Nat=>l.length - k) (fun k=>[(2,.ptr 0 0 0),(3,.ptr 1 0 0),(6,Enc.av l),(7,.int .i64 l.length),(8,.int .i64 k)])
    (fun k s=>k ≤ l.length ∧ 2 ≤ s.next ∧ AX.look 0 s.heap=some (.cells 0 [.int .i64 0,.int .i64 0,.int .i64 0] false) ∧
      ∃ t:W3,AX.look 1 s.heap=some (.cells 0 (Enc.cells t) false) ∧ (0 < k → jW t (l.drop k)=oJ l) ∧ (k=0 → t=⟨0,0,0⟩)) 0 ?_ ?_
  · simp -implicitDefEqProofs only [go_sem,seval]
    exact ⟨⟨0,0,0⟩,rfl,by simp,by simp⟩
  rintro k ρ ⟨h,m⟩ ⟨h1,h2,h3,t,h4,h5,h6⟩
  dsimp only at h2 h3 h4
  have n0:(m=0)=False:=eq_false (by omega)
  have n1:(m=1)=False:=eq_false (by omega)
  simp only [W3.aO] at h4
  rcases Nat.lt_or_ge k l.length with hk | hk
  · obtain ⟨y,hy,hd,hm⟩:=aG hk
    have hlt:((k:Int) < (l.length:Int))=True:=eq_true (by omega)
    have w1:IntKind.i64.wrap ((k:Int) + 1)=((k + 1:Nat):Int):=by rw [wrap64 (by omega) (by omega)];omega
    simp -implicitDefEqProofs only [hlt,hy,w1,n0,n1,h3,h4,go_sem,seval]
    repeat' (first
      | contradiction
      | (refine bC (fun h hT=>?_) (fun h hT=>?_) <;> try simp -implicitDefEqProofs only [hT,w1,n0,n1,h3,h4,go_sem,seval] <;> try clear hT)
      | (refine au (Tw t y) ?_;simp -implicitDefEqProofs only [w1,n0,n1,h3,h4,go_sem,seval])
      | (refine aA (by (first | omega | (simp [aB,aD,aC,Nat.testBit_eq_decide_div_mod_eq];done) | (simp [aB,aD,aC,Nat.testBit_eq_decide_div_mod_eq];omega) | kernel_rfl)) ?_;simp -implicitDefEqProofs only [w1,n0,n1,h3,h4,go_sem,seval]))
    · refine ⟨k + 1,by omega,rfl,by omega,by omega,y,rfl,fun _=>?_,by omega⟩
      have:k=0:=by omega
      subst this
      cases l with
      | nil=>simp at hk
      | cons a r=>simp at hy;subst hy;rfl
    · refine ⟨k + 1,by omega,rfl,by omega,by omega,y,rfl,fun _=>?_,by omega⟩
      have h7:=h5 (by omega)
      rw [hd] at h7
      simp only [jW] at h7
      rw [if_pos (by assumption)] at h7
      exact h7
    · refine ⟨k + 1,by omega,rfl,by omega,by omega,t,rfl,fun _=>?_,by omega⟩
      have h7:=h5 (by omega)
      rw [hd] at h7
      simp only [jW] at h7
      rw [if_neg (by assumption)] at h7
      exact h7
  · have hlt:((k:Int) < (l.length:Int))=False:=eq_false (by omega)
    have ht:t=oJ l:=by
      by_cases hz:k=0
      · rw [h6 hz]
        cases l with
        | nil=>rfl
        | cons a r=>simp at hk;omega
      · have h7:=h5 (by omega)
        rw [iO hk] at h7
        exact h7
    subst ht
    simp -implicitDefEqProofs only [hlt,n0,n1,h3,h4,go_sem,seval]
end W15
