/- The fixed calls. -/
import Derived.Test.YtoilbphgflgbeaaGreatTxG
import Derived.Test.YtoilbphgflgbeaaGreatTxH
set_option linter.unusedSimpArgs false
set_option linter.unusedVariables false
namespace W15
open Go Go.AX Go.AX.Ty Go.Proofs
theorem fx_read : PureF Tryz.prog 87 [.str txA] (.tup [Enc.av fxV, .int .i64 0]) := by
  refine pureF_W mix c87 (by kernel_rfl) (by kernel_rfl) (by simp [flats, flat]) (by simp [flat, flats, flat_av]) ?_
  simp -implicitDefEqProofs only [F87, go_sem, seval]
  refine callI_pure fx_tok ?_
  simp -implicitDefEqProofs only [go_sem, seval]
  refine callI_pure fx_val ?_
  simp -implicitDefEqProofs only [go_sem, seval]
  refine callI_pure fx_trim ?_
  simp -implicitDefEqProofs only [go_sem, seval]
theorem fx_parse : PureF Tryz.prog 60 [.str txA] (.tup [Enc.av fxA, .int .i64 0]) := by
  refine pureF_W mix c60 (by kernel_rfl) (by kernel_rfl) (by simp [flats, flat]) (by simp [flat, flats, flat_av]) ?_
  simp -implicitDefEqProofs only [F60, go_sem, seval]
  refine callI_pure fx_read ?_
  simp -implicitDefEqProofs only [go_sem, seval]
  refine callI_pure fx_items ?_
  simp -implicitDefEqProofs only [go_sem, seval]
theorem fx_a : PureF Tryz.prog 36 [.str txA] (Enc.av fxA) := by
  refine pureF_W mix c36 (by kernel_rfl) (by kernel_rfl) (by simp [flats, flat]) (by simp [flat, flats, flat_av]) ?_
  simp -implicitDefEqProofs only [F36, go_sem, seval]
  refine callI_pure fx_parse ?_
  simp -implicitDefEqProofs only [go_sem, seval]
theorem fxAB_ok : Enc.ok [fxA, fxB] := ⟨by simp, fun x hx => by
  simp only [List.mem_cons, List.not_mem_nil, or_false] at hx
  rcases hx with rfl | rfl
  · exact fxA_ok
  · exact fxB_ok⟩
theorem fxA1_ok : Enc.ok [fxA] := ⟨by simp, fun x hx => by
  simp only [List.mem_cons, List.not_mem_nil, or_false] at hx
  rw [hx]; exact fxA_ok⟩
theorem fx_sh (w : Int) : ShAll w [fxA, fxB] := sh_all fxAB_ok fx_small w
theorem fx_sh1 (w : Int) : ShAll w [fxA] := sh_all fxA1_ok fx_small1 w
theorem fx_found (w n : Int) (ps : Str) : PureF Tryz.prog 24 [Enc.av (fxS w), .int .i64 n, .str ps] (Enc.av (foundB (fxS w) n ps)) :=
  w_Found (fxS w) n ps (smallPg_ok (by decide) fxP_ok fx_smallP) (by simp [fxS]) (fx_sh w).ok (by have := (fx_sh w).app; simp only [fxS]; omega) (rule_ok (fx_sh w)) (by have := found_len (s := fxS w) n ps (fx_sh w); omega)
theorem fx_dec {w : Int} {sh : List (List Ty.Item)} (h : ShAll w sh) : ∀ p ∈ appB w sh, p.item.decls.length ≤ 1000000 ∧ ∀ d ∈ p.item.decls, d.l.length ≤ 1000000 := fun p hp => by
  have g := (h.it p hp).good.2.2.2.1
  refine ⟨by omega, fun d hd => ?_⟩
  have := len_szVL d.l
  have := (g.2 d hd).1
  omega
set_option maxHeartbeats 6400000 in
set_option maxRecDepth 100000 in
theorem w_fixed : PureF Tryz.prog 10 [] (.bool true) := by
  refine pureF_W mix c10 (by kernel_rfl) (by kernel_rfl) rfl rfl ?_
  have c24 := fx_found 9 1 []
  rw [fx_L] at c24
  have c24m := fx_found 8 1 []
  rw [fx_M] at c24m
  have c24n := fx_found 8 1 [98, 101, 102, 111, 114, 101]
  rw [fx_N] at c24n
  have wx := w_Winner fxL (by rw [fx_L7]; omega) [120]
  have wy := w_Winner fxL (by rw [fx_L7]; omega) [121]
  have wv := w_Winner fxL (by rw [fx_L7]; omega) [118]
  have wk := w_Frames 9 [107] [fxA, fxB] (fx_sh 9).ok
  have wf := w_Font 0 [70] [fxA] (fx_sh1 0).ok (fx_dec (fx_sh1 0))
  have wg := w_Font 0 [71] [fxA] (fx_sh1 0).ok (fx_dec (fx_sh1 0))
  have wl2 := w_Layers [fxA, fxB] (fx_sh 0).ok.flat (fx_sh 0).ok.len (fx_sh 0).ok.names
  have wl1 := w_Layers [fxA] (fx_sh1 0).ok.flat (fx_sh1 0).ok.len (fx_sh1 0).ok.names
  have wr := w_Rules 8 [fxA, fxB] (fx_sh 8).ok (by have := (fx_sh 8).app; omega)
  have eS : ∀ w : Int, Enc.av (fxS w) = .agg [.ps 2 [.ps fxA.length (cellsL fxA), .ps fxB.length (cellsL fxB)], .ps (List.length fxP) (cellsL fxP), .int .i64 w, .ps 0 []] := fun w => rfl
  have e2 : Enc.av [fxA, fxB] = .ps 2 [.ps fxA.length (cellsL fxA), .ps fxB.length (cellsL fxB)] := rfl
  have e1 : Enc.av [fxA] = .ps 1 [.ps fxA.length (cellsL fxA)] := rfl
  rw [eS] at c24 c24m c24n
  rw [e2] at wk wl2 wr
  rw [e1] at wf wg wl1
  rw [Found.eav] at wx wy wv
  obtain ⟨x1, hx1, hy1⟩ : ∃ x1, fxL[1]? = some x1 ∧ x1.decl = (topF (winB fxL [121])).decl := by
    have := fx_y
    cases h : fxL[1]? with
    | none => rw [h] at this; simp at this
    | some x => rw [h] at this; simp at this; exact ⟨x, rfl, this⟩
  simp -implicitDefEqProofs only [F10, go_sem, seval]
  refine callI_pure fx_a ?_
  simp -implicitDefEqProofs only [go_sem, seval]
  refine callI_pure fx_b ?_
  simp -implicitDefEqProofs only [go_sem, seval]
  refine callI_pure fx_p ?_
  simp -implicitDefEqProofs only [go_sem, seval]
  refine callI_pure c24 ?_
  simp -implicitDefEqProofs only [go_sem, seval]
  refine callI_pure wx ?_
  simp -implicitDefEqProofs only [go_sem, seval]
  refine callI_pure wy ?_
  simp -implicitDefEqProofs only [go_sem, seval]
  refine callI_pure wv ?_
  simp -implicitDefEqProofs only [go_sem, seval]
  refine callI_pure wk ?_
  simp -implicitDefEqProofs only [go_sem, seval]
  refine callI_pure wf ?_
  simp -implicitDefEqProofs only [go_sem, seval]
  refine callI_pure wg ?_
  simp -implicitDefEqProofs only [go_sem, seval]
  refine callI_pure c24m ?_
  have f7 : ((fxL.length : Int) = 7) = True := eq_true (by rw [fx_L7]; rfl)
  have fk1 : (((topI (lastB (framesB [107]) (appB 9 [fxA, fxB]))).vals.length : Int) = 1) = True := eq_true (by rw [fx_k1]; rfl)
  have ff2 : (((topI (lastB (fontB [70]) (appB 0 [fxA]))).decls.length : Int) = 2) = True := eq_true (by rw [fx_f2]; rfl)
  have fm6 : ((fxM.length : Int) = 6) = True := eq_true (by rw [fx_M6]; rfl)
  have fl2 : (((layersB [fxA, fxB]).length : Int) = 2) = True := eq_true (by rw [fx_l2]; rfl)
  have fr5 : (((rulesB 8 [fxA, fxB]).length : Int) = 5) = True := eq_true (by rw [fx_r5]; rfl)
  obtain ⟨v0, hv0, hn0⟩ : ∃ v0 : Ty.Val, (topI (lastB (framesB [107]) (appB 9 [fxA, fxB]))).vals[0]? = some v0 ∧ v0.tok.n = 5 := by
    have := fx_k5
    cases h : (topI (lastB (framesB [107]) (appB 9 [fxA, fxB]))).vals[0]? with
    | none => rw [h] at this; simp at this
    | some x => rw [h] at this; simp at this; exact ⟨x, rfl, this⟩
  have hsz := found_sz (s := fxS 9) 1 [] (fx_sh 9)
  rw [fx_L] at hsz
  have w7 := w_same7 [(topF (winB fxL [121])).decl] (by simp) (fun d hd => by
    simp only [List.mem_singleton] at hd
    rw [hd, ← hy1]
    exact hsz x1 (List.mem_of_getElem? hx1))
  simp -implicitDefEqProofs only [f7, fx_x, fx_xa, fx_xb, fx_xc, fx_xl, fx_v, hx1, hy1, fx_k, fk1, hv0, hn0, fx_f, ff2, fx_g, fm6, fl2, fx_l1, fr5, go_sem, seval]
  refine dcallI_pure w7 ?_
  simp -implicitDefEqProofs only [f7, fx_x, fx_xa, fx_xb, fx_xc, fx_xl, fx_v, hx1, hy1, fx_k, fk1, hv0, hn0, fx_f, ff2, fx_g, fm6, fl2, fx_l1, fr5, go_sem, seval]
  refine dcallI_pure wl2 ?_
  simp -implicitDefEqProofs only [f7, fx_x, fx_xa, fx_xb, fx_xc, fx_xl, fx_v, hx1, hy1, fx_k, fk1, hv0, hn0, fx_f, ff2, fx_g, fm6, fl2, fx_l1, fr5, go_sem, seval]
  refine dcallI_pure wl1 ?_
  simp -implicitDefEqProofs only [f7, fx_x, fx_xa, fx_xb, fx_xc, fx_xl, fx_v, hx1, hy1, fx_k, fk1, hv0, hn0, fx_f, ff2, fx_g, fm6, fl2, fx_l1, fr5, go_sem, seval]
  refine dcallI_pure wr ?_
  simp -implicitDefEqProofs only [f7, fx_x, fx_xa, fx_xb, fx_xc, fx_xl, fx_v, hx1, hy1, fx_k, fk1, hv0, hn0, fx_f, ff2, fx_g, fm6, fl2, fx_l1, fr5, go_sem, seval]
  refine dcallI_pure c24n ?_
  simp -implicitDefEqProofs only [f7, fx_x, fx_xa, fx_xb, fx_xc, fx_xl, fx_v, hx1, hy1, fx_k, fk1, hv0, hn0, fx_f, ff2, fx_g, fm6, fl2, fx_l1, fr5, go_sem, seval]
  refine andI_intro (by kernel_rfl) ?_
  simp -implicitDefEqProofs only [f7, fx_x, fx_xa, fx_xb, fx_xc, fx_xl, fx_v, hx1, hy1, fx_k, fk1, hv0, hn0, fx_f, ff2, fx_g, fm6, fl2, fx_l1, fr5, go_sem, seval]
end W15
/- OrderWins. -/
set_option linter.unusedSimpArgs false
set_option linter.unusedVariables false
namespace W15
open Go Go.AX Go.AX.Ty Go.Proofs
end W15
/- OrderWidth. -/
set_option linter.unusedSimpArgs false
set_option linter.unusedVariables false
namespace W15
open Go Go.AX Go.AX.Ty Go.Proofs
end W15
/- OrderTells. -/
set_option linter.unusedSimpArgs false
set_option linter.unusedVariables false
namespace W15
open Go Go.AX Go.AX.Ty Go.Proofs
theorem few_ok {s : Scene} (hok : Enc.ok s) (h : fewSc s = true) : smallSh s.sheets = true ∧ PgOk s.p ∧ s.states.length ≤ 100000 := by
  unfold fewSc at h
  simp only [Bool.and_eq_true] at h
  have hs := (Scene.ok_iff s).1 hok
  refine ⟨h.1, smallPg_ok (by decide) hs.2.1 h.2.1, ?_⟩
  have := h.2.2
  unfold fewB at this
  simp only [Bool.and_eq_true, decide_eq_true_eq] at this
  omega
theorem layers_len {w : Int} {sh : List (List Ty.Item)} (h : ShAll w sh) : (layersB sh).length ≤ 100000000 := by
  have := lays_len sh.flatten [] h.ok.names
  have := h.ok.flat
  unfold layersB; simp only [List.length_nil] at *; omega
end W15
/- OrderTwice. -/
set_option linter.unusedSimpArgs false
set_option linter.unusedVariables false
namespace W15
open Go Go.AX Go.AX.Ty Go.Proofs
def twS (s : Scene) : Scene := ⟨s.sheets ++ s.sheets, s.p, s.width, s.states⟩
theorem found_twice (s : Scene) (n : Int) (ps : Str) : ∃ R : List Ty.Found, foundB s n ps = numb 0 R ∧ foundB (twS s) n ps = numb 0 R ++ numb R.length R := by
  refine ⟨(rulesB s.width s.sheets).flatMap (rawF s n ps), rfl, ?_⟩
  show numb 0 ((rulesB s.width (s.sheets ++ s.sheets)).flatMap (rawF s n ps)) = _
  rw [rules_twice, List.flatMap_append, numb_app, Nat.zero_add]
theorem few_two {s : Scene} (hok : Enc.ok s) (h : smallSh s.sheets = true) (h2 : s.sheets.length ≤ 2) : smallSh (s.sheets ++ s.sheets) = true ∧ Enc.ok (s.sheets ++ s.sheets) := by
  have hs := ((Scene.ok_iff s).1 hok).1
  unfold smallSh at h ⊢
  rw [Bool.and_eq_true, decide_eq_true_eq, List.all_eq_true] at h ⊢
  refine ⟨⟨by rw [List.length_append]; omega, fun x hx => h.2 x (by simpa using hx)⟩, ⟨by rw [List.length_append]; omega, fun x hx => hs.2 x (by simpa using hx)⟩⟩
set_option maxHeartbeats 6400000 in
theorem w_OrderTwice (s : Scene) (n : Int) (name : Str) (hok : Enc.ok s) : PureF Tryz.prog 7 [Enc.av s, Enc.av n, Enc.av name] (.bool true) := by
  refine pureF_W mix c7 (by kernel_rfl) (by kernel_rfl) (by simp [flats, flat_av, Go.AX.flat]) (by first | exact flat_av _ | simp [flat, flats, flat_av]) ?_
  have cW := w_fewS s hok
  rw [Scene.eav] at cW
  simp -implicitDefEqProofs only [F7, go_sem, seval]
  refine callI_pure w_fixed ?_
  simp -implicitDefEqProofs only [go_sem, seval]
  by_cases h2 : s.sheets.length > 2
  · have f2 := eq_true (show ((s.sheets.length : Int) > 2) by omega)
    simp -implicitDefEqProofs only [f2, go_sem, seval]
    refine callI_pure w_fixed ?_
    simp -implicitDefEqProofs only [go_sem, seval]
  have f2 := eq_false (show ¬ ((s.sheets.length : Int) > 2) by omega)
  simp -implicitDefEqProofs only [f2, go_sem, seval]
  refine callI_pure cW ?_
  cases hf : fewSc s
  · simp -implicitDefEqProofs only [f2, go_sem, seval]
    refine callI_pure w_fixed ?_
    simp -implicitDefEqProofs only [go_sem, seval]
  by_cases hn : name.length > 100
  · have fn : ((name.length : Int) > 100) = True := eq_true (by omega)
    simp -implicitDefEqProofs only [fn, f2, go_sem, seval]
    refine callI_pure w_fixed ?_
    simp -implicitDefEqProofs only [go_sem, seval]
  have fn : ((name.length : Int) > 100) = False := eq_false (by omega)
  obtain ⟨hs, hp, hst⟩ := few_ok hok hf
  obtain ⟨hs2, hok2⟩ := few_two hok hs (by omega)
  have hA := sh_all ((Scene.ok_iff s).1 hok).1 hs s.width
  have hB := sh_all hok2 hs2 s.width
  have aA := hA.app
  have aB := hB.app
  have c1 := w_Found s n [] hp hst hA.ok (by omega) (rule_ok hA) (by have := found_len n [] hA; omega)
  have c2 := w_Found (twS s) n [] hp hst hB.ok (by simp only [twS]; omega) (rule_ok hB) (by have := found_len (s := twS s) n [] hB; omega)
  obtain ⟨R, e1, e2⟩ := found_twice s n []
  have hRl := found_len n [] hA
  have hRz := found_sz n [] hA
  rw [e1] at c1 hRl hRz
  rw [e2] at c2
  rw [numb_len] at hRl
  rw [Scene.eav] at c1
  have w1 := w_Winner (numb 0 R) (by rw [numb_len]; omega) name
  have w2 := w_Winner (numb 0 R ++ numb R.length R) (by rw [List.length_append, numb_len, numb_len]; omega) name
  have wt := win_twice (name := name) (l := R) (k := 0)
  rw [Nat.zero_add] at wt
  rw [wt] at w2
  have l1 := w_Layers s.sheets hA.ok.flat hA.ok.len hA.ok.names
  have l2 := w_Layers (s.sheets ++ s.sheets) hB.ok.flat hB.ok.len hB.ok.names
  rw [layersB_twice] at l2
  have r1 := w_Rules s.width s.sheets hA.ok (by omega)
  have r2 := w_Rules s.width (s.sheets ++ s.sheets) hB.ok (by omega)
  rw [rules_twice] at r2
  have hz : (s.sheets.length = 0) = True ∨ (s.sheets.length = 0) = False := by
    rcases Nat.eq_zero_or_pos s.sheets.length with h | h
    · exact .inl (eq_true h)
    · exact .inr (eq_false (by omega))
  have kl : (cellsL s.sheets).length = s.sheets.length := by rw [cellsL_len]; simp [Enc.sz]
  have kapp : cellsL s.sheets ++ cellsL s.sheets = cellsL (s.sheets ++ s.sheets) := (cellsL_append _ _).symm
  have lapp : s.sheets.length + s.sheets.length = (s.sheets ++ s.sheets).length := List.length_append.symm
  have kl2 : (cellsL (s.sheets ++ s.sheets)).length = (s.sheets ++ s.sheets).length := by rw [cellsL_len]; simp [Enc.sz]
  have bd1 : (s.sheets.length * 24 ≤ 140737488355328) = True := eq_true (by omega)
  have bd2 : ((s.sheets.length + s.sheets.length) * 24 ≤ 140737488355328) = True := eq_true (by omega)
  by_cases hz0 : s.sheets = []
  · have eD : Enc.av (s.sheets ++ s.sheets) = .ps 0 [] := by rw [hz0]; rfl
    have eS : Enc.av s.sheets = .ps 0 [] := by rw [hz0]; rfl
    have eN : s.sheets.length = 0 := by rw [hz0]; rfl
    have eC : cellsL s.sheets = [] := by rw [hz0]; rfl
    rw [eD] at l2 r2
    rw [eS] at l1 r1
    rw [Scene.eav] at c2
    simp only [twS, List.length_append, cellsL_append, eN, eC, List.append_nil, Nat.add_zero] at c2
    simp only [eN, eC] at c1
    simp -implicitDefEqProofs only [f2, fn, eN, eC, List.length_nil, go_sem, seval]
    refine andI_intro (by kernel_rfl) ?_
    simp -implicitDefEqProofs only [f2, fn, eN, eC, List.length_nil, go_sem, seval]
    refine dcallI_pure c1 ?_
    simp -implicitDefEqProofs only [List.take_nil, List.length_nil, go_sem, seval]
    refine dcallI_pure c2 ?_
    simp -implicitDefEqProofs only [go_sem, seval]
    repeat (refine andI_intro (by (first | omega | (simp [indepB, indep1, apart1, Nat.testBit_eq_decide_div_mod_eq]; done) | (simp [indepB, indep1, apart1, Nat.testBit_eq_decide_div_mod_eq]; omega) | kernel_rfl)) ?_; simp -implicitDefEqProofs only [go_sem, seval])
    obtain ⟨hd, hly, hwt, hps, his⟩ : (topF ((winB (numb 0 R) name).map (moveF R.length))).decl = (topF (winB (numb 0 R) name)).decl ∧ (topF ((winB (numb 0 R) name).map (moveF R.length))).layer = (topF (winB (numb 0 R) name)).layer ∧ (topF ((winB (numb 0 R) name).map (moveF R.length))).weight = (topF (winB (numb 0 R) name)).weight ∧ ((winB (numb 0 R) name).isSome = true → (topF ((winB (numb 0 R) name).map (moveF R.length))).pos = (topF (winB (numb 0 R) name)).pos + (R.length : Int) ∧ 0 ≤ (topF (winB (numb 0 R) name)).pos ∧ (topF (winB (numb 0 R) name)).pos < (R.length : Int)) ∧ ((winB (numb 0 R) name).map (moveF R.length)).isSome = (winB (numb 0 R) name).isSome := by
      rcases win_cases (numb 0 R) name with ⟨e, _⟩ | ⟨x, e, hb⟩
      · rw [e]; exact ⟨rfl, rfl, rfl, fun h => by simp at h, rfl⟩
      · rw [e]
        have := numb_pos 0 R x hb.mem
        exact ⟨rfl, rfl, rfl, fun _ => ⟨rfl, by simp only [topF, Option.getD_some]; omega, by simp only [topF, Option.getD_some]; omega⟩, rfl⟩
    have hsz : szVL (topF (winB (numb 0 R) name)).decl.l ≤ 1000000 := by
      rcases win_cases (numb 0 R) name with ⟨e, _⟩ | ⟨x, e, hb⟩
      · rw [e]; simp [topF, zFound, szVL]
      · rw [e]; simp only [topF, Option.getD_some]; exact hRz x hb.mem
    rw [his] at w2
    have la : (numb 0 R).length = R.length := numb_len 0 R
    have lb : (numb 0 R ++ numb R.length R).length = R.length + R.length := by rw [List.length_append, numb_len, numb_len]
    generalize topF ((winB (numb 0 R) name).map (moveF R.length)) = Y at *
    generalize topF (winB (numb 0 R) name) = X at *
    generalize (winB (numb 0 R) name).isSome = is at *
    rw [Found.eav] at w1 w2
    obtain ⟨yd, yl, yw, yp⟩ := Y
    simp only at hd hly hwt hps w2
    subst hd hly hwt
    have w7 := w_same7 [X.decl] (by simp) (fun d hd => by simp only [List.mem_singleton] at hd; rw [hd]; exact hsz)
    have hTl := layers_len hA
    have cT := w_Texts (layersB s.sheets) (by
      have h3 := small_it ((Scene.ok_iff s).1 hok).1 hs
      have := lays_len s.sheets.flatten [] fun x hx => by have := (h3.2.1 x hx).good.1; omega
      have h60 : szIL s.sheets.flatten ≤ 60 := by
        have := flat_sum (fun _ => 0) szIL szIL_app rfl 15 s.sheets h3.2.2
        omega
      have := len_szIL s.sheets.flatten
      unfold layersB; simp only [List.length_nil] at *; omega)
    have hrl := rules_len hA
    have m1 : IntKind.i64.wrap (2 * (R.length : Int)) = ((R.length + R.length : Nat) : Int) := by rw [wrap64 (by omega) (by omega)]; omega
    have m2 : IntKind.i64.wrap (2 * ((rulesB s.width s.sheets).length : Int)) = (((rulesB s.width s.sheets).length + (rulesB s.width s.sheets).length : Nat) : Int) := by rw [wrap64 (by omega) (by omega)]; omega
    generalize rulesB s.width s.sheets = rs at *
    refine callI_pure w1 ?_
    simp -implicitDefEqProofs only [List.take_nil, go_sem, seval]
    refine callI_pure w2 ?_
    simp -implicitDefEqProofs only [List.take_nil, go_sem, seval]
    refine dcallI_pure l1 ?_
    simp -implicitDefEqProofs only [List.take_nil, go_sem, seval]
    refine dcallI_pure l2 ?_
    simp -implicitDefEqProofs only [List.take_nil, go_sem, seval]
    refine dcallI_pure cT ?_
    simp -implicitDefEqProofs only [la, lb, m1, List.take_nil, go_sem, seval]
    refine dcallI_pure r1 ?_
    simp -implicitDefEqProofs only [la, lb, m1, List.take_nil, go_sem, seval]
    refine dcallI_pure r2 ?_
    simp -implicitDefEqProofs only [la, lb, m1, m2, List.length_append, List.take_nil, go_sem, seval]
    repeat (refine andI_intro (by (first | omega | (simp [indepB, indep1, apart1, Nat.testBit_eq_decide_div_mod_eq]; done) | (simp [indepB, indep1, apart1, Nat.testBit_eq_decide_div_mod_eq]; omega) | kernel_rfl)) ?_; simp -implicitDefEqProofs only [la, lb, m1, m2, List.length_append, go_sem, seval])
    refine callI_pure w7 ?_
    cases his2 : is
    · simp -implicitDefEqProofs only [go_sem, seval]
    · rw [his2] at hps
      obtain ⟨p1, p2, p3⟩ := hps rfl
      have m3 : IntKind.i64.wrap (X.pos + (R.length : Int)) = X.pos + (R.length : Int) := wrap64 (by omega) (by omega)
      simp -implicitDefEqProofs only [la, m3, p1, go_sem, seval]
  · have hzl : 0 < s.sheets.length := List.length_pos_iff.2 hz0
    have z0 : (s.sheets.length = 0) = False := eq_false (by omega)
    have z1 : (1 ≤ s.sheets.length) = True := eq_true (by omega)
    have z2 : (0 < s.sheets.length) = True := eq_true (by omega)
    have zt : List.take s.sheets.length (cellsL s.sheets) = cellsL s.sheets := List.take_of_length_le (by omega)
    simp -implicitDefEqProofs only [f2, fn, kl, z0, z1, z2, bd1, bd2, zt, go_sem, seval]
    have z3 : (s.sheets.length + 1 ≤ s.sheets.length + s.sheets.length) = True := eq_true (by omega)
    have eD : Enc.av (s.sheets ++ s.sheets) = .ps (s.sheets.length + s.sheets.length) (cellsL s.sheets ++ cellsL s.sheets) := by
      show AV.ps _ _ = _
      rw [List.length_append, cellsL_append]
    have kl2 : (cellsL s.sheets ++ cellsL s.sheets).length = s.sheets.length + s.sheets.length := by rw [List.length_append, kl]
    have zt2 : List.take (s.sheets.length + s.sheets.length) (cellsL s.sheets ++ cellsL s.sheets) = cellsL s.sheets ++ cellsL s.sheets := List.take_of_length_le (by omega)
    rw [eD] at l2 r2
    rw [Scene.eav] at c2
    simp only [twS, List.length_append, cellsL_append] at c2
    refine andI_intro (by kernel_rfl) ?_
    simp -implicitDefEqProofs only [f2, fn, z3, go_sem, seval]
    refine dcallI_pure c1 ?_
    simp -implicitDefEqProofs only [kl2, zt2, z3, go_sem, seval]
    refine dcallI_pure c2 ?_
    simp -implicitDefEqProofs only [kl2, zt2, z3, go_sem, seval]
    repeat (refine andI_intro (by (first | omega | (simp [indepB, indep1, apart1, Nat.testBit_eq_decide_div_mod_eq]; done) | (simp [indepB, indep1, apart1, Nat.testBit_eq_decide_div_mod_eq]; omega) | kernel_rfl)) ?_; simp -implicitDefEqProofs only [kl2, zt2, z3, go_sem, seval])
    obtain ⟨hd, hly, hwt, hps, his⟩ : (topF ((winB (numb 0 R) name).map (moveF R.length))).decl = (topF (winB (numb 0 R) name)).decl ∧ (topF ((winB (numb 0 R) name).map (moveF R.length))).layer = (topF (winB (numb 0 R) name)).layer ∧ (topF ((winB (numb 0 R) name).map (moveF R.length))).weight = (topF (winB (numb 0 R) name)).weight ∧ ((winB (numb 0 R) name).isSome = true → (topF ((winB (numb 0 R) name).map (moveF R.length))).pos = (topF (winB (numb 0 R) name)).pos + (R.length : Int) ∧ 0 ≤ (topF (winB (numb 0 R) name)).pos ∧ (topF (winB (numb 0 R) name)).pos < (R.length : Int)) ∧ ((winB (numb 0 R) name).map (moveF R.length)).isSome = (winB (numb 0 R) name).isSome := by
      rcases win_cases (numb 0 R) name with ⟨e, _⟩ | ⟨x, e, hb⟩
      · rw [e]; exact ⟨rfl, rfl, rfl, fun h => by simp at h, rfl⟩
      · rw [e]
        have := numb_pos 0 R x hb.mem
        exact ⟨rfl, rfl, rfl, fun _ => ⟨rfl, by simp only [topF, Option.getD_some]; omega, by simp only [topF, Option.getD_some]; omega⟩, rfl⟩
    have hsz : szVL (topF (winB (numb 0 R) name)).decl.l ≤ 1000000 := by
      rcases win_cases (numb 0 R) name with ⟨e, _⟩ | ⟨x, e, hb⟩
      · rw [e]; simp [topF, zFound, szVL]
      · rw [e]; simp only [topF, Option.getD_some]; exact hRz x hb.mem
    rw [his] at w2
    have la : (numb 0 R).length = R.length := numb_len 0 R
    have lb : (numb 0 R ++ numb R.length R).length = R.length + R.length := by rw [List.length_append, numb_len, numb_len]
    generalize topF ((winB (numb 0 R) name).map (moveF R.length)) = Y at *
    generalize topF (winB (numb 0 R) name) = X at *
    generalize (winB (numb 0 R) name).isSome = is at *
    rw [Found.eav] at w1 w2
    obtain ⟨yd, yl, yw, yp⟩ := Y
    simp only at hd hly hwt hps w2
    subst hd hly hwt
    have w7 := w_same7 [X.decl] (by simp) (fun d hd => by simp only [List.mem_singleton] at hd; rw [hd]; exact hsz)
    have hTl := layers_len hA
    have cT := w_Texts (layersB s.sheets) (by
      have h3 := small_it ((Scene.ok_iff s).1 hok).1 hs
      have := lays_len s.sheets.flatten [] fun x hx => by have := (h3.2.1 x hx).good.1; omega
      have h60 : szIL s.sheets.flatten ≤ 60 := by
        have := flat_sum (fun _ => 0) szIL szIL_app rfl 15 s.sheets h3.2.2
        omega
      have := len_szIL s.sheets.flatten
      unfold layersB; simp only [List.length_nil] at *; omega)
    have hrl := rules_len hA
    have m1 : IntKind.i64.wrap (2 * (R.length : Int)) = ((R.length + R.length : Nat) : Int) := by rw [wrap64 (by omega) (by omega)]; omega
    have m2 : IntKind.i64.wrap (2 * ((rulesB s.width s.sheets).length : Int)) = (((rulesB s.width s.sheets).length + (rulesB s.width s.sheets).length : Nat) : Int) := by rw [wrap64 (by omega) (by omega)]; omega
    generalize rulesB s.width s.sheets = rs at *
    refine callI_pure w1 ?_
    simp -implicitDefEqProofs only [kl2, zt2, z3, go_sem, seval]
    refine callI_pure w2 ?_
    simp -implicitDefEqProofs only [kl2, zt2, z3, go_sem, seval]
    refine dcallI_pure l1 ?_
    simp -implicitDefEqProofs only [kl2, zt2, z3, go_sem, seval]
    refine dcallI_pure l2 ?_
    simp -implicitDefEqProofs only [kl2, zt2, z3, go_sem, seval]
    refine dcallI_pure cT ?_
    simp -implicitDefEqProofs only [la, lb, m1, kl2, zt2, z3, go_sem, seval]
    refine dcallI_pure r1 ?_
    simp -implicitDefEqProofs only [la, lb, m1, kl2, zt2, z3, go_sem, seval]
    refine dcallI_pure r2 ?_
    simp -implicitDefEqProofs only [la, lb, m1, m2, List.length_append, kl2, zt2, z3, go_sem, seval]
    repeat (refine andI_intro (by (first | omega | (simp [indepB, indep1, apart1, Nat.testBit_eq_decide_div_mod_eq]; done) | (simp [indepB, indep1, apart1, Nat.testBit_eq_decide_div_mod_eq]; omega) | kernel_rfl)) ?_; simp -implicitDefEqProofs only [la, lb, m1, m2, List.length_append, go_sem, seval])
    refine callI_pure w7 ?_
    cases his2 : is
    · simp -implicitDefEqProofs only [go_sem, seval]
    · rw [his2] at hps
      obtain ⟨p1, p2, p3⟩ := hps rfl
      have m3 : IntKind.i64.wrap (X.pos + (R.length : Int)) = X.pos + (R.length : Int) := wrap64 (by omega) (by omega)
      simp -implicitDefEqProofs only [la, m3, p1, go_sem, seval]
end W15
