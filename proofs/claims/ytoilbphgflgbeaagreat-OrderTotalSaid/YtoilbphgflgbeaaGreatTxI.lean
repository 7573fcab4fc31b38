/- The fixed calls. -/
import Derived.Test.YtoilbphgflgbeaaGreatTxG
import Derived.Test.YtoilbphgflgbeaaGreatTxH
set_option linter.unusedSimpArgs false
set_option linter.unusedVariables false
namespace W15
open Go Go.AX Go.AX.Ty Go.Proofs
theorem fx_read : PureF Tryz.prog 87 [.str txA] (.tup [Enc.av fxV, .int .i64 0]) := by
  refine pureF_W mix c87 (by kernel_rfl) (by kernel_rfl) (by simp [flats, flat]) (by simp [flat, flats, flat_av]) ?_
  simp -implicitDefEqProofs only [F87, go_sem, reduceCtorEq, ↓reduceIte]
  refine callI_pure fx_tok ?_
  simp -implicitDefEqProofs only [go_sem, ↓reduceIte]
  refine callI_pure fx_val ?_
  simp -implicitDefEqProofs only [go_sem, Nat.reduceEqDiff, ↓reduceIte]
  refine callI_pure fx_trim ?_
  simp -implicitDefEqProofs only [go_sem, Nat.reduceEqDiff, ↓reduceIte]
theorem fx_parse : PureF Tryz.prog 60 [.str txA] (.tup [Enc.av fxA, .int .i64 0]) := by
  refine pureF_W mix c60 (by kernel_rfl) (by kernel_rfl) (by simp [flats, flat]) (by simp [flat, flats, flat_av]) ?_
  simp -implicitDefEqProofs only [F60, go_sem, reduceCtorEq, ↓reduceIte]
  refine callI_pure fx_read ?_
  simp -implicitDefEqProofs only [go_sem, Nat.reduceEqDiff, ↓reduceIte]
  refine callI_pure fx_items ?_
  simp -implicitDefEqProofs only [go_sem, Nat.reduceEqDiff, ↓reduceIte]
theorem fx_a : PureF Tryz.prog 36 [.str txA] (Enc.av fxA) := by
  refine pureF_W mix c36 (by kernel_rfl) (by kernel_rfl) (by simp [flats, flat]) (by simp [flat, flats, flat_av]) ?_
  simp -implicitDefEqProofs only [F36, go_sem, reduceCtorEq, ↓reduceIte]
  refine callI_pure fx_parse ?_
  simp -implicitDefEqProofs only [go_sem, Nat.reduceEqDiff, ↓reduceIte]
theorem fxAB_ok : Enc.ok [fxA, fxB] := ⟨by simp, fun x hx => by
  simp only [List.mem_cons, List.not_mem_nil, or_false] at hx
  rcases hx with rfl | rfl
  · exact fxA_ok
  · exact fxB_ok⟩
theorem fxA1_ok : Enc.ok [fxA] := ⟨by simp, fun x hx => by
  simp only [List.mem_cons, List.not_mem_nil, or_false] at hx
  rw [hx]; exact fxA_ok⟩
theorem fx_sh (w : Int) : ShAll w [fxA, fxB] := sh_all fxAB_ok fx_small w
theorem fx_sh1 (w : Int) : ShAll w [fxA] := sh_all fxA1_ok fx_small1 w
theorem fx_found (w n : Int) (ps : Str) : PureF Tryz.prog 24 [Enc.av (fxS w), .int .i64 n, .str ps] (Enc.av (foundB (fxS w) n ps)) :=
  w_Found (fxS w) n ps (smallPg_ok (by decide) fxP_ok fx_smallP) (by simp [fxS]) (fx_sh w).ok (by have := (fx_sh w).app; simp only [fxS]; omega) (rule_ok (fx_sh w)) (by have := found_len (s := fxS w) n ps (fx_sh w); omega)
theorem fx_dec {w : Int} {sh : List (List Ty.Item)} (h : ShAll w sh) : ∀ p ∈ appB w sh, p.item.decls.length ≤ 1000000 ∧ ∀ d ∈ p.item.decls, d.l.length ≤ 1000000 := fun p hp => by
  have g := (h.it p hp).good.2.2.2.1
  refine ⟨by omega, fun d hd => ?_⟩
  have := len_szVL d.l
  have := (g.2 d hd).1
  omega
set_option maxHeartbeats 6400000 in
set_option maxRecDepth 100000 in
theorem w_fixed : PureF Tryz.prog 10 [] (.bool true) := by
  refine pureF_W mix c10 (by kernel_rfl) (by kernel_rfl) rfl rfl ?_
  have c24 := fx_found 9 1 []
  rw [fx_L] at c24
  have c24m := fx_found 8 1 []
  rw [fx_M] at c24m
  have c24n := fx_found 8 1 [98, 101, 102, 111, 114, 101]
  rw [fx_N] at c24n
  have wx := w_Winner fxL (by rw [fx_L7]; omega) [120]
  have wy := w_Winner fxL (by rw [fx_L7]; omega) [121]
  have wv := w_Winner fxL (by rw [fx_L7]; omega) [118]
  have wk := w_Frames 9 [107] [fxA, fxB] (fx_sh 9).ok
  have wf := w_Font 0 [70] [fxA] (fx_sh1 0).ok (fx_dec (fx_sh1 0))
  have wg := w_Font 0 [71] [fxA] (fx_sh1 0).ok (fx_dec (fx_sh1 0))
  have wl2 := w_Layers [fxA, fxB] (fx_sh 0).ok.flat (fx_sh 0).ok.len (fx_sh 0).ok.names
  have wl1 := w_Layers [fxA] (fx_sh1 0).ok.flat (fx_sh1 0).ok.len (fx_sh1 0).ok.names
  have wr := w_Rules 8 [fxA, fxB] (fx_sh 8).ok (by have := (fx_sh 8).app; omega)
  have eS : ∀ w : Int, Enc.av (fxS w) = .agg [.ps 2 [.ps fxA.length (cellsL fxA), .ps fxB.length (cellsL fxB)], .ps (List.length fxP) (cellsL fxP), .int .i64 w, .ps 0 []] := fun w => rfl
  have e2 : Enc.av [fxA, fxB] = .ps 2 [.ps fxA.length (cellsL fxA), .ps fxB.length (cellsL fxB)] := rfl
  have e1 : Enc.av [fxA] = .ps 1 [.ps fxA.length (cellsL fxA)] := rfl
  rw [eS] at c24 c24m c24n
  rw [e2] at wk wl2 wr
  rw [e1] at wf wg wl1
  rw [Found.eav] at wx wy wv
  obtain ⟨x1, hx1, hy1⟩ : ∃ x1, fxL[1]? = some x1 ∧ x1.decl = (topF (winB fxL [121])).decl := by
    have := fx_y
    cases h : fxL[1]? with
    | none => rw [h] at this; simp at this
    | some x => rw [h] at this; simp at this; exact ⟨x, rfl, this⟩
  simp -implicitDefEqProofs only [F10, go_sem]
  refine callI_pure fx_a ?_
  simp -implicitDefEqProofs only [go_sem, ↓reduceIte]
  refine callI_pure fx_b ?_
  simp -implicitDefEqProofs only [go_sem, ↓reduceIte]
  refine callI_pure fx_p ?_
  simp -implicitDefEqProofs only [go_sem, Nat.reduceAdd, Nat.reduceEqDiff, Nat.reduceLeDiff, reduceCtorEq, ↓reduceIte]
  refine callI_pure c24 ?_
  simp -implicitDefEqProofs only [go_sem, ↓reduceIte]
  refine callI_pure wx ?_
  simp -implicitDefEqProofs only [go_sem, Nat.reduceAdd, Nat.reduceEqDiff, ↓reduceIte]
  refine callI_pure wy ?_
  simp -implicitDefEqProofs only [go_sem, Nat.reduceAdd, Nat.reduceEqDiff, ↓reduceIte]
  refine callI_pure wv ?_
  simp -implicitDefEqProofs only [go_sem, Nat.reduceAdd, Nat.reduceEqDiff, Nat.reduceLeDiff, ↓reduceIte]
  refine callI_pure wk ?_
  simp -implicitDefEqProofs only [go_sem, Nat.reduceAdd, Nat.reduceEqDiff, ↓reduceIte]
  refine callI_pure wf ?_
  simp -implicitDefEqProofs only [go_sem, Nat.reduceAdd, Nat.reduceEqDiff, ↓reduceIte]
  refine callI_pure wg ?_
  simp -implicitDefEqProofs only [go_sem, Nat.reduceAdd, Nat.reduceEqDiff, Nat.reduceLeDiff, reduceCtorEq, ↓reduceIte]
  refine callI_pure c24m ?_
  have f7 : ((fxL.length : Int) = 7) = True := eq_true (by rw [fx_L7]; rfl)
  have fk1 : (((topI (lastB (framesB [107]) (appB 9 [fxA, fxB]))).vals.length : Int) = 1) = True := eq_true (by rw [fx_k1]; rfl)
  have ff2 : (((topI (lastB (fontB [70]) (appB 0 [fxA]))).decls.length : Int) = 2) = True := eq_true (by rw [fx_f2]; rfl)
  have fm6 : ((fxM.length : Int) = 6) = True := eq_true (by rw [fx_M6]; rfl)
  have fl2 : (((layersB [fxA, fxB]).length : Int) = 2) = True := eq_true (by rw [fx_l2]; rfl)
  have fr5 : (((rulesB 8 [fxA, fxB]).length : Int) = 5) = True := eq_true (by rw [fx_r5]; rfl)
  obtain ⟨v0, hv0, hn0⟩ : ∃ v0 : Ty.Val, (topI (lastB (framesB [107]) (appB 9 [fxA, fxB]))).vals[0]? = some v0 ∧ v0.tok.n = 5 := by
    have := fx_k5
    cases h : (topI (lastB (framesB [107]) (appB 9 [fxA, fxB]))).vals[0]? with
    | none => rw [h] at this; simp at this
    | some x => rw [h] at this; simp at this; exact ⟨x, rfl, this⟩
  have hsz := found_sz (s := fxS 9) 1 [] (fx_sh 9)
  rw [fx_L] at hsz
  have w7 := w_same7 [(topF (winB fxL [121])).decl] (by simp) (fun d hd => by
    simp only [List.mem_singleton] at hd
    rw [hd, ← hy1]
    exact hsz x1 (List.mem_of_getElem? hx1))
  simp -implicitDefEqProofs only [f7, fx_x, fx_xa, fx_xb, fx_xc, fx_xl, fx_v, hx1, hy1, fx_k, fk1, hv0, hn0, fx_f, ff2, fx_g, fm6, fl2, fx_l1, fr5, go_sem, Int.reduceLE, Int.reduceToNat, Nat.reduceAdd, Nat.reduceEqDiff, Nat.reduceLT, Nat.reduceLeDiff, ↓reduceIte]
  refine dcallI_pure w7 ?_
  simp -implicitDefEqProofs only [f7, fx_x, fx_xa, fx_xb, fx_xc, fx_xl, fx_v, hx1, hy1, fx_k, fk1, hv0, hn0, fx_f, ff2, fx_g, fm6, fl2, fx_l1, fr5, go_sem, Int.reduceToNat, Nat.reduceAdd, Nat.reduceEqDiff, Nat.reduceLeDiff, ↓reduceIte]
  refine dcallI_pure wl2 ?_
  simp -implicitDefEqProofs only [f7, fx_x, fx_xa, fx_xb, fx_xc, fx_xl, fx_v, hx1, hy1, fx_k, fk1, hv0, hn0, fx_f, ff2, fx_g, fm6, fl2, fx_l1, fr5, go_sem, Nat.reduceAdd, Nat.reduceEqDiff, ↓reduceIte]
  refine dcallI_pure wl1 ?_
  simp -implicitDefEqProofs only [f7, fx_x, fx_xa, fx_xb, fx_xc, fx_xl, fx_v, hx1, hy1, fx_k, fk1, hv0, hn0, fx_f, ff2, fx_g, fm6, fl2, fx_l1, fr5, go_sem, Int.reduceToNat, Nat.reduceAdd, Nat.reduceEqDiff, Nat.reduceLeDiff, ↓reduceIte]
  refine dcallI_pure wr ?_
  simp -implicitDefEqProofs only [f7, fx_x, fx_xa, fx_xb, fx_xc, fx_xl, fx_v, hx1, hy1, fx_k, fk1, hv0, hn0, fx_f, ff2, fx_g, fm6, fl2, fx_l1, fr5, go_sem, Nat.reduceAdd, Nat.reduceEqDiff, Nat.reduceLT, reduceCtorEq, ↓reduceIte]
  refine dcallI_pure c24n ?_
  simp -implicitDefEqProofs only [f7, fx_x, fx_xa, fx_xb, fx_xc, fx_xl, fx_v, hx1, hy1, fx_k, fk1, hv0, hn0, fx_f, ff2, fx_g, fm6, fl2, fx_l1, fr5, go_sem, Nat.reduceEqDiff, ↓reduceIte]
  refine andI_intro (by kernel_rfl) ?_
  simp -implicitDefEqProofs only [f7, fx_x, fx_xa, fx_xb, fx_xc, fx_xl, fx_v, hx1, hy1, fx_k, fk1, hv0, hn0, fx_f, ff2, fx_g, fm6, fl2, fx_l1, fr5, go_sem, ↓reduceIte]
end W15
/- OrderWins. -/
set_option linter.unusedSimpArgs false
set_option linter.unusedVariables false
namespace W15
open Go Go.AX Go.AX.Ty Go.Proofs
theorem top_sz7 {l : List Ty.Found} (h : ∀ x ∈ l, szVL x.decl.l ≤ 40) (name : Str) : szVL (topF (winB l name)).decl.l ≤ 1000000 := by
  rcases win_cases l name with ⟨e, _⟩ | ⟨w, e, hw⟩
  · rw [e]; simp [topF, zFound, szVL]
  · rw [e]; have := h w hw.mem; simp only [topF, Option.getD_some]; omega
set_option maxHeartbeats 3200000 in
theorem w_OrderWins (l : List Ty.Found) (name : Str) (hok : Enc.ok l) : PureF Tryz.prog 4 [Enc.av l, Enc.av name] (.bool true) := by
  refine pureF_W mix c4 (by kernel_rfl) (by kernel_rfl) (by simp [flats, flat_av, Go.AX.flat]) (by first | exact flat_av _ | simp [flat, flats, flat_av]) ?_
  simp -implicitDefEqProofs only [F4, go_sem, reduceCtorEq, ↓reduceIte]
  refine callI_pure (w_fitsF l hok) ?_
  cases hs : fitsF l
  · simp -implicitDefEqProofs only [go_sem, Nat.reduceEqDiff, reduceCtorEq, ↓reduceIte]
    refine callI_pure w_fixed ?_
    simp -implicitDefEqProofs only [go_sem, ↓reduceIte]
  obtain ⟨hl, hsz⟩ := fits_ok hs
  by_cases hn : name.length > 100
  · have fn : ((name.length : Int) > 100) = True := eq_true (by omega)
    simp -implicitDefEqProofs only [fn, go_sem, Nat.reduceEqDiff, ↓reduceIte]
    refine callI_pure w_fixed ?_
    simp -implicitDefEqProofs only [go_sem, ↓reduceIte]
  have fn : ((name.length : Int) > 100) = False := eq_false (by omega)
  simp -implicitDefEqProofs only [fn, go_sem, Nat.reduceEqDiff, ↓reduceIte]
  refine LoopI_sl (fun k : Nat => l.length - k) (fun k => [(0, Enc.av l), (1, .str name), (5, .int .i64 k)]) (fun k s => k ≤ l.length) 0 ?_ ?_
  · simp -implicitDefEqProofs only [go_sem, Nat.reduceEqDiff, reduceCtorEq, ↓reduceIte]
  rintro k ρ ⟨g, m⟩ k1
  rcases Nat.lt_or_ge k l.length with hk | hk
  · obtain ⟨x, hx, hdr, hm⟩ := get_drop hk
    obtain ⟨y, hy, _, _⟩ := get_drop (l := l) (k := 0) (by omega)
    have hlt : ((k : Int) < (l.length : Int)) = True := eq_true (by omega)
    have w1 : IntKind.i64.wrap ((k : Int) + 1) = ((k + 1 : Nat) : Int) := by rw [wrap64 (by omega) (by omega)]; omega
    have c1 := w_Better x y
    have c2 := w_rBetter x y
    have c3 := w_Better y x
    have c4 := w_rBetter y x
    rw [Found.eav, Found.eav] at c1 c2 c3 c4
    simp -implicitDefEqProofs only [hlt, hx, hy, go_sem, Int.reduceToNat, Nat.reduceEqDiff, Nat.reduceLeDiff, reduceCtorEq, ↓reduceIte]
    refine dcallI_pure c1 ?_
    simp -implicitDefEqProofs only [hx, hy, go_sem, Int.reduceToNat, Nat.reduceEqDiff, Nat.reduceLeDiff, reduceCtorEq, ↓reduceIte]
    refine dcallI_pure c2 ?_
    cases betterB x y
    · simp -implicitDefEqProofs only [hx, hy, go_sem, Int.reduceToNat, Nat.reduceEqDiff, Nat.reduceLeDiff, reduceCtorEq, ↓reduceIte]
      refine dcallI_pure c3 ?_
      simp -implicitDefEqProofs only [hx, hy, go_sem, Int.reduceToNat, Nat.reduceEqDiff, Nat.reduceLeDiff, reduceCtorEq, ↓reduceIte]
      refine dcallI_pure c4 ?_
      cases betterB y x
      · simp -implicitDefEqProofs only [go_sem, Nat.reduceEqDiff, ↓reduceIte]
        refine andI_intro (by (first | omega | (simp [indepB, indep1, apart1, Nat.testBit_eq_decide_div_mod_eq]; done) | (simp [indepB, indep1, apart1, Nat.testBit_eq_decide_div_mod_eq]; omega) | kernel_rfl)) ?_
        simp -implicitDefEqProofs only [w1, go_sem, Nat.reduceEqDiff, reduceCtorEq, ↓reduceIte]
        exact ⟨k + 1, by omega, rfl, by omega⟩
      · simp -implicitDefEqProofs only [go_sem, Nat.reduceEqDiff, ↓reduceIte]
        refine andI_intro (by (first | omega | (simp [indepB, indep1, apart1, Nat.testBit_eq_decide_div_mod_eq]; done) | (simp [indepB, indep1, apart1, Nat.testBit_eq_decide_div_mod_eq]; omega) | kernel_rfl)) ?_
        simp -implicitDefEqProofs only [w1, go_sem, Nat.reduceEqDiff, reduceCtorEq, ↓reduceIte]
        exact ⟨k + 1, by omega, rfl, by omega⟩
    · simp -implicitDefEqProofs only [hx, hy, go_sem, Int.reduceToNat, Nat.reduceEqDiff, Nat.reduceLeDiff, reduceCtorEq, ↓reduceIte]
      refine dcallI_pure c3 ?_
      simp -implicitDefEqProofs only [hx, hy, go_sem, Int.reduceToNat, Nat.reduceEqDiff, Nat.reduceLeDiff, reduceCtorEq, ↓reduceIte]
      refine dcallI_pure c4 ?_
      cases betterB y x
      · simp -implicitDefEqProofs only [go_sem, Nat.reduceEqDiff, ↓reduceIte]
        refine andI_intro (by (first | omega | (simp [indepB, indep1, apart1, Nat.testBit_eq_decide_div_mod_eq]; done) | (simp [indepB, indep1, apart1, Nat.testBit_eq_decide_div_mod_eq]; omega) | kernel_rfl)) ?_
        simp -implicitDefEqProofs only [w1, go_sem, Nat.reduceEqDiff, reduceCtorEq, ↓reduceIte]
        exact ⟨k + 1, by omega, rfl, by omega⟩
      · simp -implicitDefEqProofs only [go_sem, Nat.reduceEqDiff, ↓reduceIte]
        refine andI_intro (by (first | omega | (simp [indepB, indep1, apart1, Nat.testBit_eq_decide_div_mod_eq]; done) | (simp [indepB, indep1, apart1, Nat.testBit_eq_decide_div_mod_eq]; omega) | kernel_rfl)) ?_
        simp -implicitDefEqProofs only [w1, go_sem, Nat.reduceEqDiff, reduceCtorEq, ↓reduceIte]
        exact ⟨k + 1, by omega, rfl, by omega⟩
  have hlt : ((k : Int) < (l.length : Int)) = False := eq_false (by omega)
  have c1 := w_Winner l (by omega) name
  have c2 := w_rWinner l (by omega) name
  have c3 := w_One (topF (winB l name)) (top_sz7 hsz name)
  rw [Found.eav] at c1 c2 c3
  simp -implicitDefEqProofs only [hlt, go_sem, Nat.reduceEqDiff, reduceCtorEq, ↓reduceIte]
  refine callI_pure c1 ?_
  simp -implicitDefEqProofs only [go_sem, Nat.reduceAdd, Nat.reduceEqDiff, reduceCtorEq, ↓reduceIte]
  refine callI_pure c2 ?_
  have m1 : (m + 1 = m) = False := eq_false (by omega)
  have m2 : (m = m + 1) = False := eq_false (by omega)
  simp -implicitDefEqProofs only [m1, m2, go_sem, Nat.reduceAdd, Nat.reduceEqDiff, ↓reduceIte]
  refine callI_pure w_fixed ?_
  simp -implicitDefEqProofs only [m1, m2, go_sem, Nat.reduceAdd, Nat.reduceEqDiff, ↓reduceIte]
  refine callI_pure c3 ?_
  simp -implicitDefEqProofs only [m1, m2, go_sem, Nat.reduceEqDiff, ↓reduceIte]
end W15
/- OrderWidth. -/
set_option linter.unusedSimpArgs false
set_option linter.unusedVariables false
namespace W15
open Go Go.AX Go.AX.Ty Go.Proofs
theorem rule_same {w : Int} {sh : List (List Ty.Item)} (h : ShAll w sh) {r : Rule} (hr : r ∈ rulesB w sh) : PureF Tryz.prog 16 [Enc.av r.sels, Enc.av r.sels] (.bool true) ∧ PureF Tryz.prog 17 [Enc.av r.decls, Enc.av r.decls] (.bool true) := by
  obtain ⟨g1, g2, g3⟩ := rule_of h r hr
  refine ⟨w_same4 r.sels (by omega) fun c hc => ⟨?_, fun p hp => ?_⟩, w_same7 r.decls (by omega) fun d hd => ?_⟩
  · have := (g3 c hc).2; omega
  · have := (g3 c hc).2; have := sizN_mem hp; omega
  · have := g1.2 d hd; omega
set_option maxHeartbeats 3200000 in
theorem w_OrderWidth (sh : List (List Ty.Item)) (a b : Int) (hok : Enc.ok sh) : PureF Tryz.prog 8 [Enc.av sh, Enc.av a, Enc.av b] (.bool true) := by
  refine pureF_W mix c8 (by kernel_rfl) (by kernel_rfl) (by simp [flats, flat_av, Go.AX.flat]) (by first | exact flat_av _ | simp [flat, flats, flat_av]) ?_
  simp -implicitDefEqProofs only [F8, go_sem]
  refine callI_pure w_fixed ?_
  simp -implicitDefEqProofs only [go_sem, Nat.reduceEqDiff, reduceCtorEq, ↓reduceIte]
  refine callI_pure (w_small sh hok) ?_
  cases hs : smallSh sh
  · simp -implicitDefEqProofs only [go_sem, Nat.reduceEqDiff, ↓reduceIte]
    refine callI_pure w_fixed ?_
    simp -implicitDefEqProofs only [go_sem, ↓reduceIte]
  have hA := sh_all hok hs a
  have hB := sh_all hok hs b
  have hl4 : sh.length ≤ 4 := (small_it hok hs).1
  simp -implicitDefEqProofs only [go_sem, Nat.reduceEqDiff, ↓reduceIte]
  refine LoopI_sl (fun k : Nat => sh.length - k) (fun k => [(0, Enc.av sh), (1, .int .i64 a), (2, .int .i64 b), (7, .int .i64 k)]) (fun k s => k ≤ sh.length ∧ ∀ s ∈ sh.take k, ∀ x ∈ s, mediaIn x = false) 0 ?_ ?_
  · simp -implicitDefEqProofs only [go_sem, Nat.reduceEqDiff, reduceCtorEq, ↓reduceIte]
    simp
  rintro k ρ ⟨g, m⟩ ⟨k1, k2⟩
  rcases Nat.lt_or_ge k sh.length with hk | hk
  · obtain ⟨xs, hxs, hdr, hm⟩ := get_drop hk
    have hlt : ((k : Int) < (sh.length : Int)) = True := eq_true (by omega)
    have w1 : IntKind.i64.wrap ((k : Int) + 1) = ((k + 1 : Nat) : Int) := by rw [wrap64 (by omega) (by omega)]; omega
    have hxl : xs.length ≤ 140737488355328 := (hok.2 xs hm).1
    simp -implicitDefEqProofs only [hlt, go_sem, Nat.reduceEqDiff, reduceCtorEq, ↓reduceIte]
    refine LoopI_sl (fun j : Nat => xs.length - j) (fun j => [(0, Enc.av sh), (1, .int .i64 a), (2, .int .i64 b), (7, .int .i64 k), (8, .int .i64 j)]) (fun j s => j ≤ xs.length ∧ ∀ x ∈ xs.take j, mediaIn x = false) 0 ?_ ?_
    · simp -implicitDefEqProofs only [go_sem, Nat.reduceEqDiff, reduceCtorEq, ↓reduceIte]
      simp
    rintro j ρ ⟨g2, q⟩ ⟨j1, j2⟩
    rcases Nat.lt_or_ge j xs.length with hj | hj
    · obtain ⟨x, hx, hdj, hmj⟩ := get_drop hj
      have hltj : ((j : Int) < (xs.length : Int)) = True := eq_true (by omega)
      have wj : IntKind.i64.wrap ((j : Int) + 1) = ((j + 1 : Nat) : Int) := by rw [wrap64 (by omega) (by omega)]; omega
      have hw := w_mediaIn x ((hok.2 xs hm).2 x hmj)
      rw [Item.eav] at hw
      simp -implicitDefEqProofs only [hlt, hxs, hltj, hx, go_sem, Nat.reduceEqDiff, Nat.reduceLeDiff, reduceCtorEq, ↓reduceIte]
      refine callI_pure hw ?_
      cases hb : mediaIn x
      · simp -implicitDefEqProofs only [wj, go_sem, Nat.reduceEqDiff, reduceCtorEq, ↓reduceIte]
        refine ⟨j + 1, by omega, rfl, by omega, fun z hz => ?_⟩
        rw [List.take_add_one, hx] at hz
        simp only [Option.toList_some, List.mem_append, List.mem_singleton] at hz
        rcases hz with hz | rfl
        · exact j2 z hz
        · exact hb
      · simp -implicitDefEqProofs only [go_sem, ↓reduceIte]
    · have hltj : ((j : Int) < (xs.length : Int)) = False := eq_false (by omega)
      rw [List.take_of_length_le hj] at j2
      simp -implicitDefEqProofs only [hlt, hxs, hltj, w1, go_sem, Nat.reduceEqDiff, reduceCtorEq, ↓reduceIte]
      refine ⟨k + 1, by omega, rfl, by omega, fun z hz => ?_⟩
      rw [List.take_add_one, hxs] at hz
      simp only [Option.toList_some, List.mem_append, List.mem_singleton] at hz
      rcases hz with hz | rfl
      · exact k2 z hz
      · exact j2
  have hlt : ((k : Int) < (sh.length : Int)) = False := eq_false (by omega)
  rw [List.take_of_length_le hk] at k2
  have e := rules_width a b k2
  have c1 := w_Rules a sh hA.ok (by have := hA.app; omega)
  have c2 := w_Rules b sh hB.ok (by have := hB.app; omega)
  rw [← e] at c2
  have hrl := rules_len hA
  simp -implicitDefEqProofs only [hlt, go_sem, Nat.reduceEqDiff, reduceCtorEq, ↓reduceIte]
  refine callI_pure c1 ?_
  simp -implicitDefEqProofs only [go_sem, Nat.reduceEqDiff, reduceCtorEq, ↓reduceIte]
  refine callI_pure c2 ?_
  have hrs := fun r (hr : r ∈ rulesB a sh) => rule_same hA hr
  generalize rulesB a sh = rs at *
  simp -implicitDefEqProofs only [go_sem, Nat.reduceEqDiff, ↓reduceIte]
  refine LoopI_sl (fun k : Nat => rs.length - k) (fun k => [(9, Enc.av rs), (10, Enc.av rs), (11, .int .i64 k)]) (fun k s => k ≤ rs.length) 0 ?_ ?_
  · simp -implicitDefEqProofs only [go_sem, Nat.reduceEqDiff, ↓reduceIte]
  rintro j ρ ⟨g2, q⟩ j1
  rcases Nat.lt_or_ge j rs.length with hj | hj
  · obtain ⟨r, hx, hdj, hmj⟩ := get_drop hj
    have hltj : ((j : Int) < (rs.length : Int)) = True := eq_true (by omega)
    have wj : IntKind.i64.wrap ((j : Int) + 1) = ((j + 1 : Nat) : Int) := by rw [wrap64 (by omega) (by omega)]; omega
    obtain ⟨s4, s7⟩ := hrs r hmj
    simp -implicitDefEqProofs only [hltj, hx, go_sem, Nat.reduceEqDiff, ↓reduceIte]
    refine dcallI_pure s4 ?_
    simp -implicitDefEqProofs only [hx, go_sem, Nat.reduceEqDiff, ↓reduceIte]
    refine dcallI_pure s7 ?_
    simp -implicitDefEqProofs only [wj, go_sem, Nat.reduceEqDiff, ↓reduceIte]
    refine andI_intro (by (first | omega | (simp [indepB, indep1, apart1, Nat.testBit_eq_decide_div_mod_eq]; done) | (simp [indepB, indep1, apart1, Nat.testBit_eq_decide_div_mod_eq]; omega) | kernel_rfl)) ?_
    simp -implicitDefEqProofs only [wj, go_sem, Nat.reduceEqDiff, ↓reduceIte]
    exact ⟨j + 1, by omega, rfl, by omega⟩
  · have hltj : ((j : Int) < (rs.length : Int)) = False := eq_false (by omega)
    simp -implicitDefEqProofs only [hltj, go_sem, Nat.reduceEqDiff, ↓reduceIte]
end W15
