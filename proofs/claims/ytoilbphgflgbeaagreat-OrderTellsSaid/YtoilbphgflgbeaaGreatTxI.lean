/- The fixed calls. -/
import Derived.Test.YtoilbphgflgbeaaGreatTxG
import Derived.Test.YtoilbphgflgbeaaGreatTxH
set_option linter.unusedSimpArgs false
set_option linter.unusedVariables false
namespace W15
open Go Go.AX Go.AX.Ty Go.Proofs
theorem Pp:aK Tryz.prog 87 [.str Vm] (.tup [Enc.av UW,.int .i64 0]):=by
  refine aH mix c87 (by kernel_rfl) (by kernel_rfl) (by simp [ay,flat]) (by simp [flat,ay,ak]) ?_
  simp -implicitDefEqProofs only [F87,go_sem,seval]
  refine au TY ?_
  simp -implicitDefEqProofs only [go_sem,seval]
  refine au Tp ?_
  simp -implicitDefEqProofs only [go_sem,seval]
  refine au Qt ?_
  simp -implicitDefEqProofs only [go_sem,seval]
theorem OI:aK Tryz.prog 60 [.str Vm] (.tup [Enc.av mo,.int .i64 0]):=by
  refine aH mix c60 (by kernel_rfl) (by kernel_rfl) (by simp [ay,flat]) (by simp [flat,ay,ak]) ?_
  simp -implicitDefEqProofs only [F60,go_sem,seval]
  refine au Pp ?_
  simp -implicitDefEqProofs only [go_sem,seval]
  refine au M7 ?_
  simp -implicitDefEqProofs only [go_sem,seval]
theorem VN:aK Tryz.prog 36 [.str Vm] (Enc.av mo):=by
  refine aH mix c36 (by kernel_rfl) (by kernel_rfl) (by simp [ay,flat]) (by simp [flat,ay,ak]) ?_
  simp -implicitDefEqProofs only [F36,go_sem,seval]
  refine au OI ?_
  simp -implicitDefEqProofs only [go_sem,seval]
theorem Rp:Enc.ok [mo,uT]:=⟨by simp,fun x hx=>by
  simp only [List.mem_cons,List.not_mem_nil,or_false] at hx
  rcases hx with rfl | rfl
  · exact M8
  · exact SY⟩
theorem Ra:Enc.ok [mo]:=⟨by simp,fun x hx=>by
  simp only [List.mem_cons,List.not_mem_nil,or_false] at hx
  rw [hx];exact M8⟩
theorem oH (w:Int):nO w [mo,uT]:=Gm Rp MS w
theorem qd (w:Int):nO w [mo]:=Gm Ra Kq w
theorem wW (w n:Int) (ps:Str):aK Tryz.prog 24 [Enc.av (Lf w),.int .i64 n,.str ps] (Enc.av (gI (Lf w) n ps)):=
  BQ (Lf w) n ps (yE (by decide) Tq JR) (by simp [Lf]) (oH w).ok (by have:=(oH w).app;simp only [Lf];omega) (rT (oH w)) (by have:=jo (s:=Lf w) n ps (oH w);omega)
theorem Bl {w:Int} {sh:List (List Ty.Item)} (h:nO w sh):∀ p ∈ dG w sh,p.item.decls.length ≤ 1000000 ∧ ∀ d ∈ p.item.decls,d.l.length ≤ 1000000:=fun p hp=>by
  have g:=(h.it p hp).good.2.2.2.1
  refine ⟨by omega,fun d hd=>?_⟩
  have:=yj d.l
  have:=(g.2 d hd).1
  omega
set_option maxHeartbeats 6400000 in
set_option maxRecDepth 100000 in
theorem Bt:aK Tryz.prog 10 [] (.bool true):=by
  refine aH mix c10 (by kernel_rfl) (by kernel_rfl) rfl rfl ?_
  have c24:=wW 9 1 []
  rw [U3] at c24
  have c24m:=wW 8 1 []
  rw [VA] at c24m
  have c24n:=wW 8 1 [98,101,102,111,114,101]
  rw [VO] at c24n
  have wx:=xH CF (by rw [IB];omega) [120]
  have wy:=xH CF (by rw [IB];omega) [121]
  have wv:=xH CF (by rw [IB];omega) [118]
  have wk:=Et 9 [107] [mo,uT] (oH 9).ok
  have wf:=H9 0 [70] [mo] (qd 0).ok (Bl (qd 0))
  have wg:=H9 0 [71] [mo] (qd 0).ok (Bl (qd 0))
  have wl2:=rZ [mo,uT] (oH 0).ok.flat (oH 0).ok.len (oH 0).ok.names
  have wl1:=rZ [mo] (qd 0).ok.flat (qd 0).ok.len (qd 0).ok.names
  have wr:=BI 8 [mo,uT] (oH 8).ok (by have:=(oH 8).app;omega)
  have eS:∀ w:Int,Enc.av (Lf w)=.agg [.ps 2 [.ps mo.length (aj mo),.ps uT.length (aj uT)],.ps (List.length Iq) (aj Iq),.int .i64 w,.ps 0 []]:=fun w=>rfl
  have e2:Enc.av [mo,uT]=.ps 2 [.ps mo.length (aj mo),.ps uT.length (aj uT)]:=rfl
  have e1:Enc.av [mo]=.ps 1 [.ps mo.length (aj mo)]:=rfl
  rw [eS] at c24 c24m c24n
  rw [e2] at wk wl2 wr
  rw [e1] at wf wg wl1
  rw [Found.fC] at wx wy wv
  obtain ⟨x1,hx1,hy1⟩:∃ x1,CF[1]? = some x1 ∧ x1.decl=(Cu (l8 CF [121])).decl:=by
    have:=Vw
    cases h:CF[1]? with
    | none=>rw [h] at this;simp at this
    | some x=>rw [h] at this;simp at this;exact ⟨x,rfl,this⟩
  simp -implicitDefEqProofs only [F10,go_sem,seval]
  refine au VN ?_
  simp -implicitDefEqProofs only [go_sem,seval]
  refine au Vv ?_
  simp -implicitDefEqProofs only [go_sem,seval]
  refine au Vu ?_
  simp -implicitDefEqProofs only [go_sem,seval]
  refine au c24 ?_
  simp -implicitDefEqProofs only [go_sem,seval]
  refine au wx ?_
  simp -implicitDefEqProofs only [go_sem,seval]
  refine au wy ?_
  simp -implicitDefEqProofs only [go_sem,seval]
  refine au wv ?_
  simp -implicitDefEqProofs only [go_sem,seval]
  refine au wk ?_
  simp -implicitDefEqProofs only [go_sem,seval]
  refine au wf ?_
  simp -implicitDefEqProofs only [go_sem,seval]
  refine au wg ?_
  simp -implicitDefEqProofs only [go_sem,seval]
  refine au c24m ?_
  have f7:((CF.length:Int)=7)=True:=eq_true (by rw [IB];rfl)
  have fk1:(((kU (lastB (bP [107]) (dG 9 [mo,uT]))).vals.length:Int)=1)=True:=eq_true (by rw [U7];rfl)
  have ff2:(((kU (lastB (eG [70]) (dG 0 [mo]))).decls.length:Int)=2)=True:=eq_true (by rw [UU];rfl)
  have fm6:((Vt.length:Int)=6)=True:=eq_true (by rw [U8];rfl)
  have fl2:(((bQ [mo,uT]).length:Int)=2)=True:=eq_true (by rw [Um];rfl)
  have fr5:(((fu 8 [mo,uT]).length:Int)=5)=True:=eq_true (by rw [Va];rfl)
  obtain ⟨v0,hv0,hn0⟩:∃ v0:Ty.Val,(kU (lastB (bP [107]) (dG 9 [mo,uT]))).vals[0]? = some v0 ∧ v0.tok.n=5:=by
    have:=UZ
    cases h:(kU (lastB (bP [107]) (dG 9 [mo,uT]))).vals[0]? with
    | none=>rw [h] at this;simp at this
    | some x=>rw [h] at this;simp at this;exact ⟨x,rfl,this⟩
  have hsz:=yA (s:=Lf 9) 1 [] (oH 9)
  rw [U3] at hsz
  have w7:=vL [(Cu (l8 CF [121])).decl] (by simp) (fun d hd=>by
    simp only [List.mem_singleton] at hd
    rw [hd,← hy1]
    exact hsz x1 (List.mem_of_getElem? hx1))
  simp -implicitDefEqProofs only [f7,HY,yh,w9,vX,xX,FW,hx1,hy1,Fa,fk1,hv0,hn0,Fe,ff2,FE,fm6,fl2,yF,fr5,go_sem,seval]
  refine aJ w7 ?_
  simp -implicitDefEqProofs only [f7,HY,yh,w9,vX,xX,FW,hx1,hy1,Fa,fk1,hv0,hn0,Fe,ff2,FE,fm6,fl2,yF,fr5,go_sem,seval]
  refine aJ wl2 ?_
  simp -implicitDefEqProofs only [f7,HY,yh,w9,vX,xX,FW,hx1,hy1,Fa,fk1,hv0,hn0,Fe,ff2,FE,fm6,fl2,yF,fr5,go_sem,seval]
  refine aJ wl1 ?_
  simp -implicitDefEqProofs only [f7,HY,yh,w9,vX,xX,FW,hx1,hy1,Fa,fk1,hv0,hn0,Fe,ff2,FE,fm6,fl2,yF,fr5,go_sem,seval]
  refine aJ wr ?_
  simp -implicitDefEqProofs only [f7,HY,yh,w9,vX,xX,FW,hx1,hy1,Fa,fk1,hv0,hn0,Fe,ff2,FE,fm6,fl2,yF,fr5,go_sem,seval]
  refine aJ c24n ?_
  simp -implicitDefEqProofs only [f7,HY,yh,w9,vX,xX,FW,hx1,hy1,Fa,fk1,hv0,hn0,Fe,ff2,FE,fm6,fl2,yF,fr5,go_sem,seval]
  refine aA (by kernel_rfl) ?_
  simp -implicitDefEqProofs only [f7,HY,yh,w9,vX,xX,FW,hx1,hy1,Fa,fk1,hv0,hn0,Fe,ff2,FE,fm6,fl2,yF,fr5,go_sem,seval]
end W15
/- OrderWins. -/
namespace W15
open Go Go.AX Go.AX.Ty Go.Proofs
end W15
/- OrderWidth. -/
namespace W15
open Go Go.AX Go.AX.Ty Go.Proofs
theorem Jm {w:Int} {sh:List (List Ty.Item)} (h:nO w sh) {r:Rule} (hr:r ∈ fu w sh):aK Tryz.prog 16 [Enc.av r.bB,Enc.av r.bB] (.bool true) ∧ aK Tryz.prog 17 [Enc.av r.decls,Enc.av r.decls] (.bool true):=by
  obtain ⟨g1,g2,g3⟩:=vw h r hr
  refine ⟨QN r.bB (by omega) fun c hc=>⟨?_,fun p hp=>?_⟩,vL r.decls (by omega) fun d hd=>?_⟩
  · have:=(g3 c hc).2;omega
  · have:=(g3 c hc).2;have:=D7 hp;omega
  · have:=g1.2 d hd;omega
end W15
/- OrderTells. -/
namespace W15
open Go Go.AX Go.AX.Ty Go.Proofs
theorem Tc {c:Prop} [Decidable c] {α:Type} (a b:α):(if c then a else b)=a ∨ (if c then a else b)=b:=by split <;> simp
theorem El {f:Ty.Item → Bool}:∀ (l:List Placed) (top:Option Placed) (p:Placed),l.foldl (lastStep f) top=some p → top=some p ∨ p ∈ l
  | [],top,p,h=>.inl h
  | x :: r, top, p, h => by
    rw [List.foldl_cons] at h
    rcases El r _ p h with h | h
    · have h2:lastStep f top x=some x ∨ lastStep f top x=top:=by unfold lastStep;exact Tc _ _
      rcases h2 with h2 | h2
      · rw [h2] at h;cases h;exact .inr (by simp)
      · rw [h2] at h;exact .inl h
    · exact .inr (by simp [h])
theorem IL {w:Int} {sh:List (List Ty.Item)} (h:nO w sh) (f:Ty.Item → Bool):iZ (kU (lastB f (dG w sh))).vals ≤ 1000000 ∧ (kU (lastB f (dG w sh))).decls.length ≤ 1000000 ∧ ∀ d ∈ (kU (lastB f (dG w sh))).decls,iZ d.l ≤ 1000000:=by
  cases hl:lastB f (dG w sh) with
  | none=>simp [kU,R5,iZ,Ty.Item.vals,Ty.Item.decls]
  | some p =>
    rcases El _ _ p hl with h' | hm
    · cases h'
    · have g:=(h.it p hm).good
      simp only [kU]
      refine ⟨by have:=g.2.2.2.2.1;omega,by have:=g.2.2.2.1.1;omega,fun d hd=>?_⟩
      have:=(g.2.2.2.1.2 d hd).1;omega
theorem TV {s:bO} (hok:Enc.ok s) (h:Ev s=true):gy s.sheets=true ∧ gV s.p ∧ s.states.length ≤ 100000:=by
  unfold Ev at h
  simp only [Bool.and_eq_true] at h
  have hs:=(bO.bH s).1 hok
  refine ⟨h.1,yE (by decide) hs.2.1 h.2.1,?_⟩
  have:=h.2.2
  unfold OC at this
  simp only [Bool.and_eq_true,decide_eq_true_eq] at this
  omega
theorem GI {w:Int} {sh:List (List Ty.Item)} (h:nO w sh):(bQ sh).length ≤ 100000000:=by
  have:=jD sh.flatten [] h.ok.names
  have:=h.ok.flat
  unfold bQ;simp only [List.length_nil] at *;omega
set_option maxHeartbeats 6400000 in
theorem Ck (s:bO) (n:Int) (name:Str) (hok:Enc.ok s):aK Tryz.prog 3 [Enc.av s,Enc.av n,Enc.av name] (.bool true):=by
  refine aH mix c3 (by kernel_rfl) (by kernel_rfl) (by simp [ay,ak,Go.AX.flat]) (by first | exact ak _ | simp [flat,ay,ak]) ?_
  have cW:=SF s hok
  rw [bO.fC] at cW
  simp -implicitDefEqProofs only [F3,go_sem,seval]
  refine au cW ?_
  cases hf:Ev s
  · simp -implicitDefEqProofs only [go_sem,seval]
    refine au Bt ?_
    simp -implicitDefEqProofs only [go_sem,seval]
  by_cases hn:name.length > 100
  · have fn:((name.length:Int) > 100)=True:=eq_true (by omega)
    simp -implicitDefEqProofs only [fn,go_sem,seval]
    refine au Bt ?_
    simp -implicitDefEqProofs only [go_sem,seval]
  have fn:((name.length:Int) > 100)=False:=eq_false (by omega)
  obtain ⟨hs,hp,hst⟩:=TV hok hf
  have hA:=Gm ((bO.bH s).1 hok).1 hs s.width
  have happ:=hA.app
  have cL:=rZ s.sheets hA.ok.flat hA.ok.len hA.ok.names
  have cRL:=zK s.sheets hA.ok.flat hA.ok.len hA.ok.names
  have cR:=BI s.width s.sheets hA.ok (by omega)
  have cRR:=Dx s.width s.sheets hA.ok (by omega) hA.ii
  have cF:=Et s.width name s.sheets hA.ok
  have cRF:=KM s.width name s.sheets hA.ok (by omega) hA.ii
  have cO:=H9 s.width name s.sheets hA.ok (Bl hA)
  have cRO:=QT s.width name s.sheets hA.ok (by omega) hA.ii (Bl hA)
  have c1:=BQ s n [] hp hst hA.ok (by omega) (rT hA) (by have:=jo n [] hA;omega)
  have c2:=EP s n [] hp hst hA.ok (by omega) hA.ii (rT hA) (by have:=jo n [] hA;omega)
  have c3:=BQ s n [98,101,102,111,114,101] hp hst hA.ok (by omega) (rT hA) (by have:=jo n [98,101,102,111,114,101] hA;omega)
  have c4:=EP s n [98,101,102,111,114,101] hp hst hA.ok (by omega) hA.ii (rT hA) (by have:=jo n [98,101,102,111,114,101] hA;omega)
  have d1:=I9 (gI s n []) (by have:=jo n [] hA;omega) (yA n [] hA)
  have d2:=I9 (gI s n [98,101,102,111,114,101]) (by have:=jo n [98,101,102,111,114,101] hA;omega) (yA n _ hA)
  rw [bO.fC] at c1 c2 c3 c4
  have k1:=IL hA (bP name)
  have k2:=IL hA (eG name)
  have e1:=Iw _ (kU (lastB (bP name) (dG s.width s.sheets))).vals (Nat.le_refl _) k1.1
  have e2:=vL (kU (lastB (eG name) (dG s.width s.sheets))).decls k2.2.1 k2.2.2
  have cT:=Ro (bQ s.sheets)
  have hTl:=GI hA
  have hrl:=zS hA
  have hrs:=fun r (hr:r ∈ fu s.width s.sheets)=>Jm hA hr
  generalize fu s.width s.sheets=rs at *
  simp -implicitDefEqProofs only [fn,go_sem,seval]
  refine aJ cL ?_
  simp -implicitDefEqProofs only [go_sem,seval]
  refine aJ cRL ?_
  simp -implicitDefEqProofs only [go_sem,seval]
  refine aA (by (first | omega | (simp [aB,aD,aC,Nat.testBit_eq_decide_div_mod_eq];done) | (simp [aB,aD,aC,Nat.testBit_eq_decide_div_mod_eq];omega) | kernel_rfl)) ?_
  simp -implicitDefEqProofs only [go_sem,seval]
  refine aJ cR ?_
  simp -implicitDefEqProofs only [go_sem,seval]
  refine aJ cRR ?_
  simp -implicitDefEqProofs only [go_sem,seval]
  refine aA (by (first | omega | (simp [aB,aD,aC,Nat.testBit_eq_decide_div_mod_eq];done) | (simp [aB,aD,aC,Nat.testBit_eq_decide_div_mod_eq];omega) | kernel_rfl)) ?_
  simp -implicitDefEqProofs only [go_sem,seval]
  refine au (cT (by
    have:=jD s.sheets.flatten [] fun x hx=>by have:=((yw ((bO.bH s).1 hok).1 hs).2.1 x hx).good.1;omega
    have:=hA.ok.flat
    have h60:iX s.sheets.flatten ≤ 60:=by
      have h3:=(yw ((bO.bH s).1 hok).1 hs)
      have:=xQ (fun _=>0) iX vP rfl 15 s.sheets h3.2.2
      omega
    have:=oo s.sheets.flatten
    unfold bQ;simp only [List.length_nil] at *;omega)) ?_
  simp -implicitDefEqProofs only [go_sem,seval]
  refine aF (fun k:Nat=>rs.length - k) (fun k=>[(1,.int .i64 n),(2,.str name),(3,.ptr 0 0 0),(9,Enc.av rs),(10,Enc.av rs),(11,.int .i64 k)]) (fun k t=>k ≤ rs.length ∧ 0 < t.next ∧ AX.look 0 t.heap=some (.cells 0 (Enc.cells s) false)) 0 ?_ ?_
  · simp -implicitDefEqProofs only [go_sem,seval]
    try rfl
  rintro j ρ ⟨g2,q⟩ ⟨j1,j3,j2⟩
  dsimp only at j2 j3
  simp only [bO.aO] at j2
  rcases Nat.lt_or_ge j rs.length with hj | hj
  · obtain ⟨r,hx,hdj,hmj⟩:=aG hj
    have hltj:((j:Int) < (rs.length:Int))=True:=eq_true (by omega)
    have wj:IntKind.i64.wrap ((j:Int) + 1)=((j + 1:Nat):Int):=by rw [wrap64 (by omega) (by omega)];omega
    obtain ⟨s4,s7⟩:=hrs r hmj
    simp -implicitDefEqProofs only [hltj,hx,go_sem,seval]
    refine aJ s4 ?_
    simp -implicitDefEqProofs only [hx,go_sem,seval]
    refine aJ s7 ?_
    simp -implicitDefEqProofs only [hx,wj,go_sem,seval]
    refine aA (by (first | omega | (simp [aB,aD,aC,Nat.testBit_eq_decide_div_mod_eq];done) | (simp [aB,aD,aC,Nat.testBit_eq_decide_div_mod_eq];omega) | kernel_rfl)) ?_
    simp -implicitDefEqProofs only [wj,go_sem,seval]
    exact ⟨j + 1,by omega,rfl,by omega,j3,j2⟩
  have hltj:((j:Int) < (rs.length:Int))=False:=eq_false (by omega)
  simp -implicitDefEqProofs only [hltj,j2,go_sem,seval]
  refine au cF ?_
  simp -implicitDefEqProofs only [j2,go_sem,seval]
  refine au cRF ?_
  simp -implicitDefEqProofs only [j2,go_sem,seval]
  refine au cO ?_
  simp -implicitDefEqProofs only [j2,go_sem,seval]
  refine au cRO ?_
  simp -implicitDefEqProofs only [j2,go_sem,seval]
  refine aJ Bt ?_
  simp -implicitDefEqProofs only [j2,go_sem,seval]
  repeat (refine aA (by (first | omega | (simp [aB,aD,aC,Nat.testBit_eq_decide_div_mod_eq];done) | (simp [aB,aD,aC,Nat.testBit_eq_decide_div_mod_eq];omega) | kernel_rfl)) ?_;simp -implicitDefEqProofs only [j2,go_sem,seval])
  refine aJ e1 ?_
  simp -implicitDefEqProofs only [j2,go_sem,seval]
  repeat (refine aA (by (first | omega | (simp [aB,aD,aC,Nat.testBit_eq_decide_div_mod_eq];done) | (simp [aB,aD,aC,Nat.testBit_eq_decide_div_mod_eq];omega) | kernel_rfl)) ?_;simp -implicitDefEqProofs only [j2,go_sem,seval])
  refine aJ e2 ?_
  simp -implicitDefEqProofs only [j2,go_sem,seval]
  repeat (refine aA (by (first | omega | (simp [aB,aD,aC,Nat.testBit_eq_decide_div_mod_eq];done) | (simp [aB,aD,aC,Nat.testBit_eq_decide_div_mod_eq];omega) | kernel_rfl)) ?_;simp -implicitDefEqProofs only [j2,go_sem,seval])
  refine aJ c1 ?_
  simp -implicitDefEqProofs only [j2,go_sem,seval]
  repeat (refine aA (by (first | omega | (simp [aB,aD,aC,Nat.testBit_eq_decide_div_mod_eq];done) | (simp [aB,aD,aC,Nat.testBit_eq_decide_div_mod_eq];omega) | kernel_rfl)) ?_;simp -implicitDefEqProofs only [j2,go_sem,seval])
  refine aJ c2 ?_
  simp -implicitDefEqProofs only [j2,go_sem,seval]
  repeat (refine aA (by (first | omega | (simp [aB,aD,aC,Nat.testBit_eq_decide_div_mod_eq];done) | (simp [aB,aD,aC,Nat.testBit_eq_decide_div_mod_eq];omega) | kernel_rfl)) ?_;simp -implicitDefEqProofs only [j2,go_sem,seval])
  refine aJ d1 ?_
  simp -implicitDefEqProofs only [j2,go_sem,seval]
  repeat (refine aA (by (first | omega | (simp [aB,aD,aC,Nat.testBit_eq_decide_div_mod_eq];done) | (simp [aB,aD,aC,Nat.testBit_eq_decide_div_mod_eq];omega) | kernel_rfl)) ?_;simp -implicitDefEqProofs only [j2,go_sem,seval])
  refine aJ c3 ?_
  simp -implicitDefEqProofs only [j2,go_sem,seval]
  repeat (refine aA (by (first | omega | (simp [aB,aD,aC,Nat.testBit_eq_decide_div_mod_eq];done) | (simp [aB,aD,aC,Nat.testBit_eq_decide_div_mod_eq];omega) | kernel_rfl)) ?_;simp -implicitDefEqProofs only [j2,go_sem,seval])
  refine aJ c4 ?_
  simp -implicitDefEqProofs only [j2,go_sem,seval]
  repeat (refine aA (by (first | omega | (simp [aB,aD,aC,Nat.testBit_eq_decide_div_mod_eq];done) | (simp [aB,aD,aC,Nat.testBit_eq_decide_div_mod_eq];omega) | kernel_rfl)) ?_;simp -implicitDefEqProofs only [j2,go_sem,seval])
  refine aJ d2 ?_
  simp -implicitDefEqProofs only [j2,go_sem,seval]
  repeat (refine aA (by (first | omega | (simp [aB,aD,aC,Nat.testBit_eq_decide_div_mod_eq];done) | (simp [aB,aD,aC,Nat.testBit_eq_decide_div_mod_eq];omega) | kernel_rfl)) ?_;simp -implicitDefEqProofs only [j2,go_sem,seval])
end W15
