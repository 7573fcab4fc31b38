/- The laws: what is fixed. -/
import Derived.Test.YtaapijjdmbolbaaGreatTxF
import Derived.Test.YtaapijjdmbolbaaGreatTxP
set_option linter.unusedSimpArgs false
set_option linter.unusedVariables false
namespace W09
open Go Go.AX Go.AX.Ty Go.Proofs
def fxS : Str := [60, 33, 100, 111, 99, 116, 121, 112, 101, 32, 120, 62, 60, 80, 32, 67, 108, 97, 115, 115, 61, 97, 32, 105, 100, 32, 61, 32, 39, 98, 38, 97, 109, 112, 59, 39, 32, 88, 47, 62, 120, 32, 38, 108, 116, 59, 32, 121, 60, 33, 45, 45, 32, 60, 122, 62, 32, 45, 45, 62, 60, 47, 112, 62, 60, 115, 116, 121, 108, 101, 62, 97, 60, 47, 115, 116, 121, 108, 101, 120, 60, 98, 62, 60, 47, 83, 84, 89, 76, 69, 32, 62, 60, 98, 114, 62, 49, 60, 50]
def fxT : Str := [60, 112, 32, 99, 108, 97, 115, 115, 61, 34, 97, 34, 32, 105, 100, 61, 34, 98, 38, 97, 109, 112, 59, 34, 32, 120, 61, 34, 34, 62, 120, 32, 38, 108, 116, 59, 32, 121, 60, 47, 112, 62, 60, 115, 116, 121, 108, 101, 62, 97, 60, 47, 115, 116, 121, 108, 101, 120, 60, 98, 62, 60, 47, 115, 116, 121, 108, 101, 62, 60, 98, 114, 62, 49, 38, 108, 116, 59, 50]
def fxL : List Tag := [⟨1, [112], [⟨[99, 108, 97, 115, 115], [97]⟩, ⟨[105, 100], [98, 38]⟩, ⟨[120], []⟩], []⟩, ⟨3, [], [], [120, 32, 60, 32, 121]⟩, ⟨2, [112], [], []⟩, ⟨1, sStyle, [], []⟩, ⟨3, [], [], [97, 60, 47, 115, 116, 121, 108, 101, 120, 60, 98, 62]⟩, ⟨2, sStyle, [], []⟩, ⟨1, [98, 114], [], []⟩, ⟨3, [], [], [49, 60, 50]⟩]
def fxM : List Tag := [⟨3, [], [], [97]⟩, ⟨3, [], [], [34]⟩]
theorem fx1 : allB fxS = fxL := by decide +kernel
theorem fx2 : textB fxL = fxT := by decide +kernel
theorem fx3 : textB fxM = [97, 60, 33, 45, 45, 45, 45, 62, 38, 113, 117, 111, 116, 59] := by decide +kernel
theorem fx4 : oneB ⟨2, [112], [], []⟩ = [60, 47, 112, 62] := by decide +kernel
theorem fx5 : mayB ⟨1, sStyle, [], []⟩ = true := by decide +kernel
theorem fx6 : mayB ⟨2, [80], [], []⟩ = false := by decide +kernel
theorem fx7 : mayB ⟨0, [], [], []⟩ = false := by decide +kernel
theorem attrs_few {s : Str} {x : Tag} (hx : x ∈ allB s) : x.attrs.length ≤ 100000 := by
  rcases wf_mem (read_wf _ s noTag (Nat.le_refl _) not_no) hx with ⟨_, _, h, _⟩ | ⟨_, _, h, _⟩ | ⟨_, _, h, _⟩
  · have := h.len; omega
  · rw [h]; simp
  · rw [h]; simp
theorem may_all {t : Tag} (ht : wtT t ≤ 10000) : PureF Tryz.prog 18 [Enc.av t] (.bool (mayB t)) := by
  have h1 := mayL_wt (t := t) (by omega)
  have h2 := all_wt' (textB (mayL t))
  have h3 := wtTs_len (allB (textB (mayL t)))
  have h4 := textB_wt (mayL t)
  exact w_May t (wt_sz ht) h1 (by omega) fun x hx => attrs_few hx
theorem w_fixed : PureF Tryz.prog 10 [] (.bool true) := by
  refine pureF_W mix c10 (by kernel_rfl) (by kernel_rfl) (by simp [flats, flat_av, Go.AX.flat]) (by first | exact flat_av _ | simp [flat, flats, flat_av]) ?_
  simp -implicitDefEqProofs only [F10, go_sem, seval]
  refine callI_pure (w_All fxS (by decide)) ?_
  rw [fx1]
  have h2 : wtTs fxL ≤ 10000 := by decide +kernel
  have h3 : wtTs fxM ≤ 10000 := by decide +kernel
  have hz : ∀ t ∈ fxL, TSz t := fun t ht => wt_sz (Nat.le_trans (wtTs_mem ht) h2)
  have hz2 : ∀ t ∈ fxM, TSz t := fun t ht => wt_sz (Nat.le_trans (wtTs_mem ht) h3)
  have d1 : decide (fxL = fxL) = true := by simp
  have el2 : elemA 2 4 (.ps fxL.length (cellsL fxL)) = some (.vp (Enc.cells (⟨2, [112], [], []⟩ : Tag) ++ cellsL (fxL.drop 3))) := Tag.elem fxL 2
  have el3 : elemA 3 4 (.ps fxL.length (cellsL fxL)) = some (.vp (Enc.cells (⟨1, sStyle, [], []⟩ : Tag) ++ cellsL (fxL.drop 4))) := Tag.elem fxL 3
  simp -implicitDefEqProofs only [go_sem, seval]
  refine callI_pure (w_rSame fxL fxL (by decide) (fun t ht => by have := (hz t ht).2.2.1; omega)) ?_
  rw [d1]
  simp -implicitDefEqProofs only [go_sem, seval]
  refine callI_pure (w_Text fxL (by decide) hz) ?_
  rw [fx2]
  simp -implicitDefEqProofs only [fxT, go_sem, seval]
  refine callI_pure (w_Text fxM (by decide) hz2) ?_
  rw [fx3]
  simp -implicitDefEqProofs only [go_sem, seval]
  refine callI_pure (w_Void [98, 114]) ?_
  rw [show voidB [98, 114] = true by decide]
  simp -implicitDefEqProofs only [go_sem, seval]
  refine callI_pure (w_Void [112]) ?_
  rw [show voidB [112] = false by decide]
  simp -implicitDefEqProofs only [el2, Tag.ecells, List.cons_append, List.nil_append, go_sem, seval]
  refine callI_pure (w_One ⟨2, [112], [], []⟩ ⟨by decide, by decide, by decide, by simp⟩) ?_
  rw [fx4]
  simp -implicitDefEqProofs only [el3, Tag.ecells, List.cons_append, List.nil_append, go_sem, seval]
  refine callI_pure (may_all (t := ⟨1, sStyle, [], []⟩) (by decide)) ?_
  rw [fx5]
  simp -implicitDefEqProofs only [go_sem, seval]
  refine callI_pure (may_all (t := ⟨2, [80], [], []⟩) (by decide)) ?_
  rw [fx6]
  simp -implicitDefEqProofs only [go_sem, seval]
  refine callI_pure (may_all (t := ⟨0, [], [], []⟩) (by decide)) ?_
  rw [fx7]
  simp -implicitDefEqProofs only [go_sem, seval]
end W09
/- The laws: Lost, Both, Plain. -/
namespace W09
open Go Go.AX Go.AX.Ty Go.Proofs
theorem all_n {s : Str} (h : s.length ≤ 400000) : (allB s).length ≤ 1000000 := by
  have h1 := all_wt' s
  have h2 := wtTs_len (allB s)
  omega
theorem all_n2 (s : Str) : (allB s).length ≤ 2 * s.length := Nat.le_trans (wtTs_len _) (all_wt' s)
theorem law_Lost (s : Str) : PureF Tryz.prog 7 [.str s] (.bool true) := by
  refine pureF_W mix c7 (by kernel_rfl) (by kernel_rfl) (by simp [flats, flat_av, Go.AX.flat]) (by first | exact flat_av _ | simp [flat, flats, flat_av]) ?_
  simp -implicitDefEqProofs only [F7, go_sem, seval]
  refine callI_pure w_fixed ?_
  rcases Nat.lt_or_ge 1000 s.length with hs | hs
  · have h1 : ((s.length : Int) > 1000) = True := eq_true (by omega)
    simp -implicitDefEqProofs only [h1, go_sem, seval]
    refine callI_pure w_fixed ?_
    simp -implicitDefEqProofs only [go_sem, seval]
  have h1 : ((s.length : Int) > 1000) = False := eq_false (by omega)
  have d1 : decide (allB s = allB s) = true := by simp
  have k1 : (s.length ≤ 9223372036854775000) = True := eq_true (by omega)
  simp -implicitDefEqProofs only [h1, go_sem, seval]
  refine callI_pure (w_All s (by omega)) ?_
  have k2 : (24 + s.length ≤ 9223372036854775807) = True := eq_true (by omega)
  have k3 : (7 + s.length ≤ 9223372036854775807) = True := eq_true (by omega)
  have k4 : (3 + s.length ≤ 9223372036854775807) = True := eq_true (by omega)
  have a1 := w_All (lost1 ++ (lost2 ++ s)) (by simp [lost1, lost2]; omega)
  have a2 := w_All (sApart ++ s) (by simp [sApart]; omega)
  have a3 := w_All ([60, 33, 62] ++ s) (by simp; omega)
  rw [lost_a, lost_b] at a1
  rw [apart_read] at a2
  rw [lost_c] at a3
  have sm := w_rSame (allB s) (allB s) (all_n (by omega)) (fun t ht => attrs_few ht)
  rw [d1] at sm
  simp -implicitDefEqProofs only [k2, k3, k4, go_sem, seval]
  refine callI_pure a1 ?_
  simp -implicitDefEqProofs only [k2, k3, k4, go_sem, seval]
  refine callI_pure sm ?_
  simp -implicitDefEqProofs only [k2, k3, k4, go_sem, seval]
  refine callI_pure a2 ?_
  simp -implicitDefEqProofs only [k2, k3, k4, go_sem, seval]
  refine callI_pure sm ?_
  simp -implicitDefEqProofs only [k2, k3, k4, go_sem, seval]
  refine callI_pure a3 ?_
  simp -implicitDefEqProofs only [k2, k3, k4, go_sem, seval]
  refine callI_pure sm ?_
  simp -implicitDefEqProofs only [k2, k3, k4, go_sem, seval]
theorem law_Both (s t : Str) : PureF Tryz.prog 6 [.str s, .str t] (.bool true) := by
  refine pureF_W mix c6 (by kernel_rfl) (by kernel_rfl) (by simp [flats, flat_av, Go.AX.flat]) (by first | exact flat_av _ | simp [flat, flats, flat_av]) ?_
  simp -implicitDefEqProofs only [F6, go_sem, seval]
  refine callI_pure w_fixed ?_
  rcases Nat.lt_or_ge 700 s.length with hs | hs
  · have h1 : ((s.length : Int) > 700) = True := eq_true (by omega)
    simp -implicitDefEqProofs only [h1, go_sem, seval]
    refine callI_pure w_fixed ?_
    simp -implicitDefEqProofs only [go_sem, seval]
  have h1 : ((s.length : Int) > 700) = False := eq_false (by omega)
  rcases Nat.lt_or_ge 700 t.length with ht | ht
  · have h2 : ((t.length : Int) > 700) = True := eq_true (by omega)
    simp -implicitDefEqProofs only [h1, h2, go_sem, seval]
    refine callI_pure w_fixed ?_
    simp -implicitDefEqProofs only [go_sem, seval]
  have h2 : ((t.length : Int) > 700) = False := eq_false (by omega)
  have k1 : (s.length ≤ 9223372036854775787) = True := eq_true (by omega)
  have hl : (s ++ eE).length = s.length + 20 := by rw [List.length_append]; rfl
  have k2 : ((s ++ eE).length + t.length ≤ 9223372036854775807) = True := eq_true (by omega)
  have k2' := k2
  have a1 := w_All (s ++ eE ++ t) (by rw [List.length_append]; omega)
  have a2 := w_All (s ++ eE) (by omega)
  have a3 := w_All t (by omega)
  rw [both t _ s (Nat.le_refl _)] at a1
  unfold eE at k2'
  simp -implicitDefEqProofs only [h1, h2, k1, k2, k2', go_sem, seval]
  refine callI_pure a1 ?_
  simp -implicitDefEqProofs only [go_sem, seval]
  refine callI_pure a2 ?_
  have n2 := all_n2 (s ++ eE)
  have n3 := all_n2 t
  have f2 := fun x hx => attrs_few (s := s ++ eE) (x := x) hx
  have f3 := fun x hx => attrs_few (s := t) (x := x) hx
  generalize allB (s ++ eE) = A at *
  generalize allB t = B at *
  have cA := Tag.clen A
  have cB := Tag.clen B
  have zA : (A.length * 64 ≤ 140737488355328) = True := eq_true (by omega)
  have zB : (B.length * 64 ≤ 140737488355328) = True := eq_true (by omega)
  have zAB : ((A.length + B.length) * 64 ≤ 140737488355328) = True := eq_true (by omega)
  have sm := w_rSame (A ++ B) (A ++ B) (by rw [List.length_append]; omega) (fun x hx => by
    rcases List.mem_append.1 hx with h | h
    · exact f2 x h
    · exact f3 x h)
  rw [show decide (A ++ B = A ++ B) = true by simp] at sm
  have ecl : cellsL (A ++ B) = cellsL A ++ cellsL B := cellsL_append A B
  have eln : (A ++ B).length = A.length + B.length := List.length_append
  have c0 : (cellsL ([] : List Tag)).length = 0 := rfl
  by_cases hA : A.length = 0
  · have eA : A = [] := List.eq_nil_of_length_eq_zero hA
    subst eA
    simp -implicitDefEqProofs only [c0, go_sem, seval]
    refine callI_pure a3 ?_
    by_cases hB : B.length = 0
    · have eB : B = [] := List.eq_nil_of_length_eq_zero hB
      subst eB
      simp -implicitDefEqProofs only [c0, go_sem, seval]
      refine callI_pure sm ?_
      simp -implicitDefEqProofs only [go_sem, seval]
    · have hB' := eq_false hB
      have tk : List.take (B.length * 4) (cellsL B) = cellsL B := List.take_of_length_le (by rw [cB]; exact Nat.le_refl _)
      simp -implicitDefEqProofs only [hB', cB, zB, Nat.le_refl, tk, go_sem, seval]
      refine callI_pure sm ?_
      simp -implicitDefEqProofs only [go_sem, seval]
  · have hA' := eq_false hA
    have tkA : List.take (A.length * 4) (cellsL A) = cellsL A := List.take_of_length_le (by rw [cA]; exact Nat.le_refl _)
    simp -implicitDefEqProofs only [hA', cA, zA, go_sem, seval]
    refine callI_pure a3 ?_
    by_cases hB : B.length = 0
    · have eB : B = [] := List.eq_nil_of_length_eq_zero hB
      subst eB
      rw [List.append_nil] at sm
      simp -implicitDefEqProofs only [c0, cA, Nat.le_refl, tkA, go_sem, seval]
      refine callI_pure sm ?_
      simp -implicitDefEqProofs only [go_sem, seval]
    · have hB' := eq_false hB
      have lAB : ((A.length + B.length) * 4 ≤ (cellsL A ++ cellsL B).length) = True := eq_true (by rw [List.length_append, cA, cB]; omega)
      have tkAB : List.take ((A.length + B.length) * 4) (cellsL A ++ cellsL B) = cellsL A ++ cellsL B := List.take_of_length_le (by rw [List.length_append, cA, cB]; omega)
      rw [show Enc.av (A ++ B) = .ps (A.length + B.length) (cellsL A ++ cellsL B) by rw [← ecl, ← eln]; rfl] at sm
      rw [show Enc.av (A ++ B) = .ps (A.length + B.length) (cellsL A ++ cellsL B) by rw [← ecl, ← eln]; rfl]
      simp -implicitDefEqProofs only [hB', cA, cB, zAB, Nat.le_refl, tkA, lAB, tkAB, go_sem, seval]
      refine callI_pure sm ?_
      simp -implicitDefEqProofs only [go_sem, seval]
theorem law_Plain (s : Str) : PureF Tryz.prog 5 [.str s] (.bool true) := by
  refine pureF_W mix c5 (by kernel_rfl) (by kernel_rfl) (by simp [flats, flat_av, Go.AX.flat]) (by first | exact flat_av _ | simp [flat, flats, flat_av]) ?_
  simp -implicitDefEqProofs only [F5, go_sem, seval]
  refine callI_pure w_fixed ?_
  rcases Nat.lt_or_ge 200 s.length with hs | hs
  · have h1 : ((s.length : Int) > 200) = True := eq_true (by omega)
    simp -implicitDefEqProofs only [h1, go_sem, seval]
    refine callI_pure w_fixed ?_
    simp -implicitDefEqProofs only [go_sem, seval]
  have h1 : ((s.length : Int) > 200) = False := eq_false (by omega)
  have y : Tag := ⟨1, [97], [⟨[98], s⟩], []⟩
  simp -implicitDefEqProofs only [h1, go_sem, seval]
  refine dcallI_pure (w_One (textT s) ⟨by simp [textT], by show s.length ≤ _; omega, by simp [textT], by simp [textT]⟩) ?_
  have e1 : oneB (textT s) = signsB s := rfl
  have hs5 := signs_len s
  rw [e1]
  simp -implicitDefEqProofs only [go_sem, seval]
  refine dcallI_pure (w_All (signsB s) (by omega)) ?_
  have hy : TSz ⟨1, [97], [⟨[98], s⟩], []⟩ := ⟨by simp, by simp, by simp, by simp; omega⟩
  have e2 : (oneB ⟨1, [97], [⟨[98], s⟩], []⟩).length ≤ 3000 := by simp [oneB, attrsS, attrS]; omega
  simp -implicitDefEqProofs only [go_sem, seval]
  refine dcallI_pure (w_One ⟨1, [97], [⟨[98], s⟩], []⟩ hy) ?_
  simp -implicitDefEqProofs only [go_sem, seval]
  refine andI_intro (by (first | omega | (simp [indepB, indep1, apart1, Nat.testBit_eq_decide_div_mod_eq]; done) | (simp [indepB, indep1, apart1, Nat.testBit_eq_decide_div_mod_eq]; omega) | kernel_rfl)) ?_
  simp -implicitDefEqProofs only [go_sem, seval]
  refine callI_pure (w_All _ (by omega)) ?_
  by_cases h0 : s = []
  · subst h0
    have r1 : allB (signsB []) = [] := rfl
    have r2 : allB (oneB ⟨1, [97], [⟨[98], []⟩], []⟩) = [⟨1, [97], [⟨[98], []⟩], []⟩] := by decide +kernel
    rw [r1, r2]
    simp -implicitDefEqProofs only [go_sem, seval]
  have h0' := eq_false h0
  have t1 : TgOk (textT s) := .inr (.inr ⟨rfl, rfl, rfl, h0⟩)
  have t2 : TgOk ⟨1, [97], [⟨[98], s⟩], []⟩ := .inl ⟨rfl, ⟨by simp, rfl, rfl⟩, ⟨by simp [AtOk, inAttrB, blankB, smallB, smB], by simp, by simp⟩, rfl⟩
  have r1 : allB (signsB s) = [textT s] := by rw [← e1]; exact one_back t1 (not_text s)
  have r2 := one_back t2 (fun h => by have := h.2; simp [sStyle] at this)
  have m1 := may_all (t := textT s) (by simp [wtT, textT, wtL]; omega)
  have m2 := may_all (t := ⟨1, [97], [⟨[98], s⟩], []⟩) (by simp [wtT, wtL, wtA]; omega)
  rw [may_ok t1] at m1
  rw [may_ok t2] at m2
  have s1 := w_rSame [textT s] [textT s] (by show 1 ≤ _; omega) (fun t ht => by simp at ht; subst ht; simp [textT])
  have s2 := w_rSame [⟨1, [97], [⟨[98], s⟩], []⟩] [⟨1, [97], [⟨[98], s⟩], []⟩] (by show 1 ≤ _; omega) (fun t ht => by simp at ht; subst ht; simp)
  rw [show decide ([textT s] = [textT s]) = true by simp] at s1
  rw [show decide (([⟨1, [97], [⟨[98], s⟩], []⟩] : List Tag) = [⟨1, [97], [⟨[98], s⟩], []⟩]) = true by simp] at s2
  rw [r1, r2]
  simp -implicitDefEqProofs only [h0', go_sem, seval]
  refine callI_pure s1 ?_
  simp -implicitDefEqProofs only [go_sem, seval]
  refine callI_pure s2 ?_
  simp -implicitDefEqProofs only [go_sem, seval]
  refine callI_pure m1 ?_
  simp -implicitDefEqProofs only [go_sem, seval]
  refine callI_pure m2 ?_
  simp -implicitDefEqProofs only [go_sem, seval]
end W09
/- The laws: Back, Tell. -/
namespace W09
open Go Go.AX Go.AX.Ty Go.Proofs
theorem law_Back (s : Str) : PureF Tryz.prog 4 [.str s] (.bool true) := by
  refine pureF_W mix c4 (by kernel_rfl) (by kernel_rfl) (by simp [flats, flat_av, Go.AX.flat]) (by first | exact flat_av _ | simp [flat, flats, flat_av]) ?_
  simp -implicitDefEqProofs only [F4, go_sem, seval]
  refine callI_pure w_fixed ?_
  rcases Nat.lt_or_ge 1500 s.length with hs | hs
  · have h1 : ((s.length : Int) > 1500) = True := eq_true (by omega)
    simp -implicitDefEqProofs only [h1, go_sem, seval]
    refine callI_pure w_fixed ?_
    simp -implicitDefEqProofs only [go_sem, seval]
  have h1 : ((s.length : Int) > 1500) = False := eq_false (by omega)
  have hbk := back s
  have hwt := all_wt' s
  have hln := wtTs_len (allB s)
  have htx := textB_wt (allB s)
  have hz : ∀ t ∈ allB s, TSz t := fun t ht => sz_all (by omega) ht
  have hok : ∀ t ∈ allB s, mayB t = true := fun t ht => may_ok (wf_mem (read_wf _ s noTag (Nat.le_refl _) not_no) ht)
  have hm : ∀ t ∈ allB s, PureF Tryz.prog 18 [Enc.av t] (.bool true) := fun t ht => by
    have := may_all (t := t) (by have := wtTs_mem ht; omega)
    rwa [hok t ht] at this
  have sm := w_rSame (allB s) (allB s) (by omega) (fun t ht => attrs_few ht)
  rw [show decide (allB s = allB s) = true by simp] at sm
  have a1 := w_All s (by omega)
  have a2 := w_All (textB (allB s)) (by omega)
  have tx := w_Text (allB s) (by omega) hz
  rw [hbk] at a2
  simp -implicitDefEqProofs only [h1, go_sem, seval]
  refine callI_pure a1 ?_
  generalize hL : allB s = l at *
  simp -implicitDefEqProofs only [go_sem, seval]
  refine callI_pure tx ?_
  simp -implicitDefEqProofs only [go_sem, seval]
  refine callI_pure a2 ?_
  simp -implicitDefEqProofs only [go_sem, seval]
  refine LoopI_sl (fun k : Nat => l.length - k) (fun k => [(0, .str s), (3, Enc.av l), (4, .str (textB l)), (5, Enc.av l), (6, .int .i64 k)])
    (fun k st => st = ⟨[], 0⟩ ∧ k ≤ l.length) 0 ?_ ?_
  · simp -implicitDefEqProofs only [go_sem, seval]
  rintro k ρ st ⟨rfl, n1⟩
  have w1 : IntKind.i64.wrap ((k : Int) + 1) = ((k + 1 : Nat) : Int) := by rw [wrap64 (by omega) (by omega)]; omega
  rcases Nat.lt_or_ge k l.length with hk | hk
  · obtain ⟨t, hx, hd, hmm⟩ := get_drop hk
    have h2 : ((k : Int) < (l.length : Int)) = True := eq_true (by omega)
    rcases Nat.eq_zero_or_pos k with rfl | hk0
    · have h0 : ((0 : Int) < (l.length : Int)) = True := eq_true (by omega)
      have h3 : ((0 : Int) > 0) = False := eq_false (by omega)
      have w1' : IntKind.i64.wrap ((0 : Int) + 1) = 1 := w1
      have hx' : elemA 0 4 (.ps l.length (cellsL l)) = some (.vp (Enc.cells t ++ cellsL (l.drop (0 + 1)))) := by have := Tag.elem l 0; rw [hx] at this; exact this
      simp -implicitDefEqProofs only [h0, h3, hx, hx', Tag.ecells, w1, w1', List.cons_append, List.nil_append, go_sem, seval]
      refine callI_pure (hm t hmm) ?_
      simp -implicitDefEqProofs only [h0, h3, w1, w1', go_sem, seval]
      exact ⟨1, by omega, rfl, hk⟩
    · have h3 : ((k : Int) > 0) = True := eq_true (by omega)
      have w2 : IntKind.i64.wrap ((k : Int) - 1) = ((k - 1 : Nat) : Int) := by rw [wrap64 (by omega) (by omega)]; omega
      obtain ⟨p, hp, hdp, _⟩ := get_drop (l := l) (k := k - 1) (by omega)
      by_cases p1 : p.kind = 1
      · by_cases pn : p.name = sStyle
        · have pn' : (p.name = [115, 116, 121, 108, 101]) = True := eq_true pn
          simp -implicitDefEqProofs only [h2, h3, hx, hp, Tag.ecells, Tag.elem, eq_true p1, pn', w1, w2, go_sem, seval]
          exact ⟨k + 1, by omega, rfl, hk⟩
        · have pn' : (p.name = [115, 116, 121, 108, 101]) = False := eq_false pn
          simp -implicitDefEqProofs only [h2, h3, hx, hp, Tag.ecells, Tag.elem, eq_true p1, pn', w1, w2, go_sem, seval]
          refine callI_pure (hm t hmm) ?_
          simp -implicitDefEqProofs only [w1, pn', eq_true p1, go_sem, seval]
          exact ⟨k + 1, by omega, rfl, hk⟩
      · simp -implicitDefEqProofs only [h2, h3, hx, hp, Tag.ecells, Tag.elem, eq_false p1, w1, w2, go_sem, seval]
        refine callI_pure (hm t hmm) ?_
        simp -implicitDefEqProofs only [w1, go_sem, seval]
        exact ⟨k + 1, by omega, rfl, hk⟩
  · have h2 : ((k : Int) < (l.length : Int)) = False := eq_false (by omega)
    simp -implicitDefEqProofs only [h2, go_sem, seval]
    refine callI_pure sm ?_
    simp -implicitDefEqProofs only [go_sem, seval]
    refine callI_pure tx ?_
    simp -implicitDefEqProofs only [go_sem, seval]
theorem law_Tell (s : Str) (l : List Tag) (t : Tag) (hl : l.length ≤ 4611686018427387904) : PureF Tryz.prog 3 [.str s, Enc.av l, Enc.av t] (.bool true) := by
  have S1 := w_rSmall l 100 hl (by omega)
  have S2 := w_rSmall [t] 1 (by show 1 ≤ _; omega) (by omega)
  refine pureF_W mix c3 (by kernel_rfl) (by kernel_rfl) (by simp [flats, flat_av, Go.AX.flat]) (by first | exact flat_av _ | simp [flat, flats, flat_av]) ?_
  rcases Nat.lt_or_ge 1500 s.length with hs | hs
  · have h1 : ((s.length : Int) > 1500) = True := eq_true (by omega)
    simp -implicitDefEqProofs only [F3, Tag.eav, h1, go_sem, seval]
    refine callI_pure w_fixed ?_
    simp -implicitDefEqProofs only [go_sem, seval]
  have h1 : ((s.length : Int) > 1500) = False := eq_false (by omega)
  simp -implicitDefEqProofs only [F3, Tag.eav, h1, go_sem, seval]
  refine callI_pure S1 ?_
  cases q1 : smL l 100 with
  | false =>
    simp -implicitDefEqProofs only [go_sem, seval]
    refine callI_pure w_fixed ?_
    simp -implicitDefEqProofs only [go_sem, seval]
  | true =>
  simp -implicitDefEqProofs only [go_sem, seval]
  refine callI_pure S2 ?_
  cases q2 : smL [t] 1 with
  | false =>
    simp -implicitDefEqProofs only [go_sem, seval]
    refine callI_pure w_fixed ?_
    simp -implicitDefEqProofs only [go_sem, seval]
  | true =>
  simp -implicitDefEqProofs only [go_sem, seval]
  obtain ⟨zl, z2⟩ : l.length ≤ 100 ∧ ∀ x ∈ l, smT x = true := by
    unfold smL at q1
    simp only [Bool.and_eq_true, decide_eq_true_eq, List.all_eq_true] at q1
    exact q1
  have z3 : smT t = true := by
    unfold smL at q2
    simp only [Bool.and_eq_true, decide_eq_true_eq, List.all_eq_true] at q2
    exact q2.2 t (by simp)
  have sz : ∀ x : Tag, smT x = true → TSz x ∧ wtT x ≤ 10000 := fun x hx => by
    unfold smT at hx
    simp only [Bool.and_eq_true, decide_eq_true_eq, List.all_eq_true] at hx
    obtain ⟨⟨⟨x1, x2⟩, x3⟩, x4⟩ := hx
    have x5 : wtL x.attrs ≤ 401 * x.attrs.length := by
      have : ∀ al : List Ty.Attr, (∀ a ∈ al, smA a = true) → wtL al ≤ 401 * al.length := fun al => by
        induction al with
        | nil => intro _; simp [wtL]
        | cons a r ih =>
          intro h
          have h1 := ih fun b hb => h b (by simp [hb])
          have h2 := h a (by simp)
          unfold smA at h2
          simp only [Bool.and_eq_true, decide_eq_true_eq] at h2
          simp only [wtL, List.map_cons, List.sum_cons, wtA, List.length_cons] at h1 ⊢
          omega
      exact this x.attrs x4
    have x6 : wtT x ≤ 10000 := by unfold wtT; omega
    exact ⟨wt_sz x6, x6⟩
  have hz : ∀ x ∈ l, TSz x := fun x hx => (sz x (z2 x hx)).1
  obtain ⟨tz, tw⟩ := sz t z3
  have sm := w_rSame (allB s) (allB s) (Nat.le_trans (wtTs_len _) (Nat.le_trans (all_wt' s) (by omega))) (fun t ht => attrs_few ht)
  rw [show decide (allB s = allB s) = true by simp] at sm
  have rmay : PureF Tryz.prog 19 [Enc.av t] (.bool (mayB t)) := by
    have h1 := mayL_wt (t := t) (by omega)
    have h2 := all_wt' (textB (mayL t))
    have h3 := wtTs_len (allB (textB (mayL t)))
    exact w_rMay t tz h1 (by omega) fun x hx => attrs_few hx
  have may := may_all tw
  have eb : ∀ b : Bool, (b == b) = true := fun b => by simp
  refine dcallI_pure w_fixed ?_
  simp -implicitDefEqProofs only [go_sem, seval]
  refine dcallI_pure (w_All s (by omega)) ?_
  simp -implicitDefEqProofs only [go_sem, seval]
  refine dcallI_pure (w_rAll s (by omega)) ?_
  simp -implicitDefEqProofs only [go_sem, seval]
  refine dcallI_pure sm ?_
  simp -implicitDefEqProofs only [go_sem, seval]
  refine dcallI_pure (w_Text l (by omega) hz) ?_
  simp -implicitDefEqProofs only [go_sem, seval]
  refine dcallI_pure (w_rText l (by omega) hz) ?_
  simp -implicitDefEqProofs only [go_sem, seval]
  refine dcallI_pure (w_One t tz) ?_
  simp -implicitDefEqProofs only [go_sem, seval]
  refine dcallI_pure (w_rOne t tz) ?_
  simp -implicitDefEqProofs only [go_sem, seval]
  refine dcallI_pure may ?_
  simp -implicitDefEqProofs only [go_sem, seval]
  refine dcallI_pure rmay ?_
  simp -implicitDefEqProofs only [eb, go_sem, seval]
  refine dcallI_pure (w_Void t.name) ?_
  simp -implicitDefEqProofs only [eb, go_sem, seval]
  refine andI_intro (by kernel_rfl) ?_
  simp -implicitDefEqProofs only [eb, go_sem, seval]
  refine callI_pure (w_rVoid t.name) ?_
  simp -implicitDefEqProofs only [eb, go_sem, seval]
end W09
/- The laws: Texts. -/
namespace W09
open Go Go.AX Go.AX.Ty Go.Proofs
theorem nt_at : ∀ {l : List Tag} {p : Tag}, NT p l → ∀ (k : Nat) (a b : Tag), l[k]? = some a → l[k + 1]? = some b → ¬ (a.kind = 3 ∧ b.kind = 3)
  | [], _, _, k, a, b, h, _ => by simp at h
  | t :: r, p, h, k, a, b, h1, h2 => by
    cases k with
    | zero =>
      simp only [List.getElem?_cons_zero, Option.some.injEq] at h1; subst h1
      cases r with
      | nil => simp at h2
      | cons u r => simp at h2; subst h2; exact h.2.1
    | succ k => exact nt_at h.2 k a b (by simpa using h1) (by simpa using h2)
theorem wf_at : ∀ {l : List Tag} {p : Tag}, WF p l → ∀ (k : Nat) (a b : Tag), l[k]? = some a → l[k + 1]? = some b → isSty a → b.kind ≠ 3 → b = shutT sStyle
  | [], _, _, k, a, b, h, _ => by simp at h
  | t :: r, p, h, k, a, b, h1, h2 => by
    cases k with
    | zero =>
      simp only [List.getElem?_cons_zero, Option.some.injEq] at h1; subst h1
      cases r with
      | nil => simp at h2
      | cons u r => simp at h2; subst h2; exact fun hs => (h.2.2.2.1 hs).2
    | succ k => exact wf_at h.2.2 k a b (by simpa using h1) (by simpa using h2)
set_option maxRecDepth 100000 in
theorem law_Texts (s : Str) : PureF Tryz.prog 8 [.str s] (.bool true) := by
  refine pureF_W mix c8 (by kernel_rfl) (by kernel_rfl) (by simp [flats, flat_av, Go.AX.flat]) (by first | exact flat_av _ | simp [flat, flats, flat_av]) ?_
  simp -implicitDefEqProofs only [F8, go_sem, seval]
  refine callI_pure w_fixed ?_
  rcases Nat.lt_or_ge 1500 s.length with hs | hs
  · have h1 : ((s.length : Int) > 1500) = True := eq_true (by omega)
    simp -implicitDefEqProofs only [h1, go_sem, seval]
    refine callI_pure w_fixed ?_
    simp -implicitDefEqProofs only [go_sem, seval]
  have h1 : ((s.length : Int) > 1500) = False := eq_false (by omega)
  simp -implicitDefEqProofs only [h1, go_sem, seval]
  refine LoopI_sl (fun i : Nat => s.length - i) (fun i => [(0, .str s), (3, .int .i64 i)])
    (fun i st => st = ⟨[], 0⟩ ∧ i ≤ s.length ∧ ∀ j, j < i → s[j]? = some (60 : UInt8) → s[j + 1]? = some (33 : UInt8) → False) 0 ?_ ?_
  · simp -implicitDefEqProofs only [go_sem, seval]
    exact fun j hj => hj.elim
  rintro i ρ st ⟨rfl, n1, n2⟩
  have w1 : IntKind.i64.wrap ((i : Int) + 1) = ((i + 1 : Nat) : Int) := by rw [wrap64 (by omega) (by omega)]; omega
  rcases Nat.lt_or_ge (i + 1) s.length with hi | hi
  · have h2 : (((i + 1 : Nat) : Int) < (s.length : Int)) = True := eq_true (by omega)
    obtain ⟨c, hc, hd, _⟩ := get_drop (show i < s.length by omega)
    obtain ⟨e, he, _, _⟩ := get_drop hi
    by_cases c60 : c = 60
    · subst c60
      by_cases e33 : e = 33
      · subst e33
        simp -implicitDefEqProofs only [w1, h2, hc, he, go_sem, seval]
      · have q : ((e.toNat : Int) = 33) = False := byte_ne (n := 33) (by omega) e33
        simp -implicitDefEqProofs only [w1, h2, hc, he, q, go_sem, seval]
        refine ⟨i + 1, by omega, rfl, by omega, fun j hj g1 g2 => ?_⟩
        rcases Nat.lt_or_ge j i with h | h
        · exact n2 j h g1 g2
        · have : j = i := by omega
          subst this
          rw [he] at g2; exact e33 (Option.some.inj g2)
    · have q : ((c.toNat : Int) = 60) = False := byte_ne (n := 60) (by omega) c60
      simp -implicitDefEqProofs only [w1, h2, hc, q, go_sem, seval]
      refine ⟨i + 1, by omega, rfl, by omega, fun j hj g1 g2 => ?_⟩
      rcases Nat.lt_or_ge j i with h | h
      · exact n2 j h g1 g2
      · have : j = i := by omega
        subst this
        rw [hc] at g1; exact c60 (Option.some.inj g1)
  have h2 : (((i + 1 : Nat) : Int) < (s.length : Int)) = False := eq_false (by omega)
  have hNB : NB s := fun j g1 g2 => by
    rcases Nat.lt_or_ge j i with h | h
    · exact n2 j h g1 g2
    · rw [List.getElem?_eq_none (by omega)] at g2; simp at g2
  have hNT := texts_apart _ s noTag (Nat.le_refl _) hNB (fun h => by simp [noTag] at h)
  have hWF := read_wf _ s noTag (Nat.le_refl _) not_no
  have hwt := all_wt' s
  have hln := wtTs_len (allB s)
  have a1 := w_All s (by omega)
  simp -implicitDefEqProofs only [w1, h2, go_sem, seval]
  refine callI_pure a1 ?_
  generalize hL : allB s = l at *
  simp -implicitDefEqProofs only [go_sem, seval]
  refine LoopI_sl (fun k : Nat => l.length - k) (fun k => [(4, Enc.av l), (5, .int .i64 k)])
    (fun k st => st = ⟨[], 0⟩ ∧ k ≤ l.length) 0 ?_ ?_
  · simp -implicitDefEqProofs only [go_sem, seval]
  rintro k ρ st ⟨rfl, m1⟩
  have v1 : IntKind.i64.wrap ((k : Int) + 1) = ((k + 1 : Nat) : Int) := by rw [wrap64 (by omega) (by omega)]; omega
  rcases Nat.lt_or_ge k l.length with hk | hk
  · obtain ⟨t, hx, hd, hmm⟩ := get_drop hk
    have h3 : ((k : Int) < (l.length : Int)) = True := eq_true (by omega)
    have htx : t.kind = 3 → t.text ≠ [] := fun h => by
      rcases wf_mem hWF hmm with ⟨g, _⟩ | ⟨g, _⟩ | ⟨_, _, _, g⟩
      · omega
      · omega
      · exact g
    rcases Nat.eq_zero_or_pos k with rfl | hk0
    · have h0 : ((0 : Int) < (l.length : Int)) = True := eq_true (by omega)
      have h4 : ((0 : Int) > 0) = False := eq_false (by omega)
      have v1' : IntKind.i64.wrap ((0 : Int) + 1) = 1 := v1
      have hx' : elemA 0 4 (.ps l.length (cellsL l)) = some (.vp (Enc.cells t ++ cellsL (l.drop (0 + 1)))) := by have := Tag.elem l 0; rw [hx] at this; exact this
      by_cases k3 : t.kind = 3
      · simp -implicitDefEqProofs only [h0, h4, hx, hx', Tag.ecells, v1, v1', List.cons_append, List.nil_append, eq_true k3, eq_false (htx k3), go_sem, seval]
        exact ⟨1, by omega, rfl, hk⟩
      · simp -implicitDefEqProofs only [h0, h4, hx, hx', Tag.ecells, v1, v1', List.cons_append, List.nil_append, eq_false k3, go_sem, seval]
        exact ⟨1, by omega, rfl, hk⟩
    · have h4 : ((k : Int) > 0) = True := eq_true (by omega)
      have v2 : IntKind.i64.wrap ((k : Int) - 1) = ((k - 1 : Nat) : Int) := by rw [wrap64 (by omega) (by omega)]; omega
      obtain ⟨p, hp, hdp, _⟩ := get_drop (l := l) (k := k - 1) (by omega)
      have hx2 : l[k - 1 + 1]? = some t := by rw [show k - 1 + 1 = k by omega]; exact hx
      have hnt := nt_at hNT (k - 1) p t hp hx2
      have hwf := wf_at hWF (k - 1) p t hp hx2
      by_cases k3 : t.kind = 3
      · have p3 : ¬ p.kind = 3 := fun h => hnt ⟨h, k3⟩
        by_cases p1 : p.kind = 1
        · by_cases pn : p.name = sStyle
          · have pn' : (p.name = [115, 116, 121, 108, 101]) = True := eq_true pn
            simp -implicitDefEqProofs only [h3, h4, hx, hp, Tag.ecells, Tag.elem, eq_true k3, eq_false (htx k3), eq_false p3, eq_true p1, pn', v1, v2, go_sem, seval]
            exact ⟨k + 1, by omega, rfl, hk⟩
          · have pn' : (p.name = [115, 116, 121, 108, 101]) = False := eq_false pn
            simp -implicitDefEqProofs only [h3, h4, hx, hp, Tag.ecells, Tag.elem, eq_true k3, eq_false (htx k3), eq_false p3, eq_true p1, pn', v1, v2, go_sem, seval]
            exact ⟨k + 1, by omega, rfl, hk⟩
        · simp -implicitDefEqProofs only [h3, h4, hx, hp, Tag.ecells, Tag.elem, eq_true k3, eq_false (htx k3), eq_false p3, eq_false p1, v1, v2, go_sem, seval]
          exact ⟨k + 1, by omega, rfl, hk⟩
      · by_cases p1 : p.kind = 1
        · by_cases pn : p.name = sStyle
          · have et := hwf ⟨p1, pn⟩ k3
            have pn' : (p.name = [115, 116, 121, 108, 101]) = True := eq_true pn
            have k2 : (t.kind = 2) = True := eq_true (by rw [et]; rfl)
            have tn : (t.name = [115, 116, 121, 108, 101]) = True := eq_true (by rw [et]; rfl)
            simp -implicitDefEqProofs only [h3, h4, hx, hp, Tag.ecells, Tag.elem, eq_false k3, eq_true p1, pn', k2, tn, v1, v2, go_sem, seval]
            exact ⟨k + 1, by omega, rfl, hk⟩
          · have pn' : (p.name = [115, 116, 121, 108, 101]) = False := eq_false pn
            simp -implicitDefEqProofs only [h3, h4, hx, hp, Tag.ecells, Tag.elem, eq_false k3, eq_true p1, pn', v1, v2, go_sem, seval]
            exact ⟨k + 1, by omega, rfl, hk⟩
        · simp -implicitDefEqProofs only [h3, h4, hx, hp, Tag.ecells, Tag.elem, eq_false k3, eq_false p1, v1, v2, go_sem, seval]
          exact ⟨k + 1, by omega, rfl, hk⟩
  · have h3 : ((k : Int) < (l.length : Int)) = False := eq_false (by omega)
    simp -implicitDefEqProofs only [h3, go_sem, seval]
end W09
