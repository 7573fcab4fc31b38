/- MaybeKleene. -/
import Derived.Test.YtdbcomcockkkbaaGreatMaC
set_option linter.unusedSimpArgs false
set_option linter.unusedVariables false
namespace W14
open Go Go.AX Go.AX.Ty Go.Proofs

theorem w_MaybeKleene (l : List Int) (a : Int) (hl : Enc.ok l) : PureF Tryz.prog 7 [Enc.av l, Enc.av a] (.bool true) := by
  refine pureF_W mix c7 (by kernel_rfl) (by kernel_rfl) (by simp [flats, flat_av, Go.AX.flat]) (by first | exact flat_av _ | simp [flat, flats, flat_av]) ?_
  simp -implicitDefEqProofs only [F7, go_sem]
  refine callI_pure w_fixed ?_
  simp -implicitDefEqProofs only [go_sem, Nat.reduceEqDiff, reduceCtorEq, ↓reduceIte]
  by_cases hbig : (l.length : Int) > 20
  · have hb : ((l.length : Int) > 20) = True := eq_true hbig
    simp -implicitDefEqProofs only [hb, go_sem]
    refine callI_pure w_fixed ?_
    simp -implicitDefEqProofs only [go_sem, ↓reduceIte]
  have hb : ((l.length : Int) > 20) = False := eq_false hbig
  simp -implicitDefEqProofs only [hb, go_sem, Nat.reduceAdd, Nat.reduceEqDiff, ↓reduceIte]
  refine LoopI_sl (fun q : Nat × Nat => l.length - q.1) (fun q => [(0, Enc.av l), (1, Enc.av a), (5, .sl 0 q.1 0 q.1 1), (6, .sl q.2 q.1 0 q.1 1), (7, .int .i64 q.1)])
    (fun q st => q.1 ≤ l.length ∧ 1 ≤ q.2 ∧ q.2 < st.next ∧ AX.look 0 st.heap = some (.cells q.1 (cellsL ((l.take q.1).map kNot)) false) ∧ AX.look q.2 st.heap = some (.cells q.1 (cellsL (l.take q.1).reverse) false)) (0, 1) ?_ ?_
  · simp -implicitDefEqProofs only [cellsL, go_sem, Nat.reduceEqDiff, reduceCtorEq, ↓reduceIte]
    try rfl
  rintro ⟨i, B⟩ ρ ⟨g, m⟩ ⟨h1, h2, h3, h4, h5⟩
  dsimp only at h1 h2 h3 h4 h5
  have m0 : (m = 0) = False := eq_false (by omega)
  have n0 : (0 = m) = False := eq_false (by omega)
  have mB : (m = B) = False := eq_false (by omega)
  have nB : (B = m) = False := eq_false (by omega)
  have B0 : (B = 0) = False := eq_false (by omega)
  have B0' : (0 = B) = False := eq_false (by omega)
  have m1 : (m + 1 = 0) = False := eq_false (by omega)
  have mB1 : (m + 1 = B) = False := eq_false (by omega)
  have nB1 : (B = m + 1) = False := eq_false (by omega)
  have mm1 : (m + 1 = m) = False := eq_false (by omega)
  have mm2 : (m = m + 1) = False := eq_false (by omega)
  have n01 : (0 = m + 1) = False := eq_false (by omega)
  have hln : ((l.take i).map kNot).length = i := by rw [List.length_map, List.length_take]; omega
  have hlr : (l.take i).reverse.length = i := by rw [List.length_reverse, List.length_take]; omega
  have c1 : (cellsL ((l.take i).map kNot)).length = i := by rw [ints_len, hln]
  have c2 : (cellsL (l.take i).reverse).length = i := by rw [ints_len, hlr]
  have t1 : List.take i (cellsL ((l.take i).map kNot)) = cellsL ((l.take i).map kNot) := List.take_of_length_le (by omega)
  have t2 : List.take i (cellsL (l.take i).reverse) = cellsL (l.take i).reverse := List.take_of_length_le (by omega)
  have hle : (i ≤ i) = True := eq_true (Nat.le_refl _)
  rcases Nat.lt_or_ge i l.length with hi | hi
  · obtain ⟨x, hx, hd, hm⟩ := get_drop hi
    have hlt : ((i : Int) < (l.length : Int)) = True := eq_true (by omega)
    have w1 : IntKind.i64.wrap ((i : Int) + 1) = ((i + 1 : Nat) : Int) := by rw [wrap64 (by omega) (by omega)]; omega
    have bd1 : ((i + 1) * 8 ≤ 140737488355328) = True := eq_true (by omega)
    have bd2 : ((1 + i) * 8 ≤ 140737488355328) = True := eq_true (by omega)
    have s1 : cellsL ((l.take (i + 1)).map kNot) = cellsL ((l.take i).map kNot) ++ [.int .i64 (kNot x)] := by rw [take_snoc hx, List.map_append, cellsL_append]; rfl
    have s2 : cellsL (l.take (i + 1)).reverse = .int .i64 x :: cellsL (l.take i).reverse := by rw [take_snoc hx, List.reverse_append]; rfl
    simp -implicitDefEqProofs only [hlt, hx, w1, h4, h5, go_sem, Nat.reduceEqDiff, reduceCtorEq, ↓reduceIte]
    refine callI_pure (w_Not x) ?_
    rcases Nat.eq_zero_or_pos i with hi0 | hi0
    · subst hi0
      simp -implicitDefEqProofs only [hlt, hx, w1, h4, h5, m0, n0, mB, nB, B0, B0', m1, mB1, nB1, mm1, mm2, n01, c1, c2, t1, t2, hle, bd1, bd2, go_sem, Int.reduceAdd, Int.reduceLE, Int.reduceNeg, Int.reduceToNat, Nat.reduceEqDiff, reduceCtorEq, ↓reduceIte]
      refine ⟨(0 + 1, m + 1), by simp only; omega, ⟨rfl, rfl, rfl⟩, by simp only; omega, by simp only; omega, by simp only; omega, ?_, ?_⟩
      · rw [s1]; simp [cellsL]
      · rw [s2]; simp [cellsL]
    · have f1 : (i = 0) = False := eq_false (by omega)
      have f2 : (2 ≤ 1 + i) = True := eq_true (by omega)
      have f3 : 1 + i = i + 1 := by omega
      have f4 : (2 ≤ i + 1) = True := eq_true (by omega)
      rw [f3] at bd2
      simp -implicitDefEqProofs only [hlt, hx, w1, h4, h5, m0, n0, mB, nB, B0, B0', m1, mB1, nB1, mm1, mm2, n01, c1, c2, t1, t2, hle, bd1, bd2, f1, f2, f3, f4, go_sem, Nat.reduceAdd, Nat.reduceEqDiff, reduceCtorEq, ↓reduceIte]
      refine ⟨(i + 1, m + 1), by simp only; omega, ⟨rfl, rfl, rfl⟩, by simp only; omega, by simp only; omega, by simp only; omega, ?_, ?_⟩
      · simp only; rw [s1]
      · simp only; rw [s2]; simp
  · have hlt : ((i : Int) < (l.length : Int)) = False := eq_false (by omega)
    have hil : i = l.length := by omega
    have htl : l.take i = l := List.take_of_length_le (by omega)
    rw [htl] at h4 h5 c1 c2 t1 t2 hln hlr
    have hlb : l.length ≤ 140737488355328 := by omega
    have a1 := w_And l hlb
    have a2 := w_Or l hlb
    have a3 := w_Or (l.map kNot) (by rw [List.length_map]; omega)
    have a4 := w_And (l.map kNot) (by rw [List.length_map]; omega)
    have a5 := w_And l.reverse (by rw [List.length_reverse]; omega)
    have a6 := w_Or l.reverse (by rw [List.length_reverse]; omega)
    rw [eav_L, hln] at a3 a4
    rw [eav_L, hlr] at a5 a6
    obtain ⟨e1, e2⟩ := kNot_nots l
    rw [e1] at a3
    rw [e2] at a4
    rw [kAnd_reverse] at a5
    rw [kOr_reverse] at a6
    have ba := kAnd_bd l
    have bo := kOr_bd l
    have k1 : (kAnd l ≥ 0) = True := eq_true ba.1
    have k2 : (kOr l ≤ 2) = True := eq_true bo.2
    simp -implicitDefEqProofs only [hlt, go_sem, Nat.reduceEqDiff, reduceCtorEq, ↓reduceIte]
    refine callI_pure a1 ?_
    simp -implicitDefEqProofs only [go_sem, reduceCtorEq, ↓reduceIte]
    refine callI_pure a2 ?_
    simp -implicitDefEqProofs only [go_sem, Nat.reduceEqDiff, ↓reduceIte]
    refine callI_pure (w_Not _) ?_
    simp -implicitDefEqProofs only [h4, h5, c1, c2, t1, t2, hle, go_sem, Nat.reduceEqDiff, reduceCtorEq, ↓reduceIte]
    refine callI_pure a3 ?_
    simp -implicitDefEqProofs only [h4, h5, c1, c2, t1, t2, hle, go_sem, Nat.reduceEqDiff, ↓reduceIte]
    refine callI_pure (w_Not _) ?_
    simp -implicitDefEqProofs only [h4, h5, c1, c2, t1, t2, hle, go_sem, Nat.reduceEqDiff, reduceCtorEq, ↓reduceIte]
    refine callI_pure a4 ?_
    simp -implicitDefEqProofs only [h4, h5, c1, c2, t1, t2, hle, B0', B0, go_sem, Nat.reduceEqDiff, reduceCtorEq, ↓reduceIte]
    refine callI_pure a5 ?_
    simp -implicitDefEqProofs only [h4, h5, c1, c2, t1, t2, hle, B0', B0, go_sem, Nat.reduceEqDiff, reduceCtorEq, ↓reduceIte]
    refine callI_pure a6 ?_
    simp -implicitDefEqProofs only [h4, h5, c1, c2, t1, t2, hle, B0', B0, go_sem, Nat.reduceEqDiff, reduceCtorEq, ↓reduceIte]
    refine callI_pure (w_Not _) ?_
    simp -implicitDefEqProofs only [go_sem, Nat.reduceEqDiff, ↓reduceIte]
    refine callI_pure (w_Not _) ?_
    simp -implicitDefEqProofs only [go_sem, Nat.reduceEqDiff, ↓reduceIte]
    refine callI_pure (w_Not _) ?_
    simp -implicitDefEqProofs only [go_sem, Nat.reduceEqDiff, reduceCtorEq, ↓reduceIte]
    refine callI_pure (w_Not _) ?_
    simp -implicitDefEqProofs only [kNot_thrice, go_sem, Nat.reduceAdd, Nat.reduceEqDiff, Nat.reduceLeDiff, ↓reduceIte]
    refine callI_pure (w_And2 _ _) ?_
    simp -implicitDefEqProofs only [go_sem, Nat.reduceAdd, Nat.reduceEqDiff, Nat.reduceLeDiff, ↓reduceIte]
    refine callI_pure (w_And2 _ _) ?_
    rw [kAnd_comm (kOr l) (kAnd l)]
    by_cases hz : (l.length : Int) = 0
    · have z : ((l.length : Int) = 0) = True := eq_true hz
      simp -implicitDefEqProofs only [k1, k2, z, go_sem, Nat.reduceEqDiff, reduceCtorEq, ↓reduceIte]
    · have z : ((l.length : Int) = 0) = False := eq_false hz
      have hne : l ≠ [] := fun e => hz (by rw [e]; rfl)
      have k3 : (kAnd l ≤ kOr l) = True := eq_true (kAnd_le_kOr hne)
      simp -implicitDefEqProofs only [k1, k2, z, k3, go_sem, Nat.reduceEqDiff, reduceCtorEq, ↓reduceIte]
end W14
