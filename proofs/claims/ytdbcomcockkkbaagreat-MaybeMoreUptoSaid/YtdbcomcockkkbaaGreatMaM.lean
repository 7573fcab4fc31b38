/- MaybeMore. -/
import Derived.Test.YtdbcomcockkkbaaGreatMaC
set_option linter.unusedSimpArgs false
set_option linter.unusedVariables false
namespace W14
open Go Go.AX Go.AX.Ty Go.Proofs

set_option maxHeartbeats 4000000 in
theorem w_MaybeMore (w : WorldS) (s' : Safe) (c : Complex) (hw : Enc.ok w) (hs' : Enc.ok s') (hc : Enc.ok c) (hb1 : w.s.classes.length ≤ 1048576) (hb2 : w.s.attrs.length ≤ 1048576) (hb3 : s'.classes.length ≤ 1048576) (hb4 : s'.attrs.length ≤ 1048576) :
    PureF Tryz.prog 6 [Enc.av w, Enc.av s', Enc.av c] (.bool true) := by
  refine pureF_W mix c6 (by kernel_rfl) (by kernel_rfl) (by simp [flats, flat_av, Go.AX.flat]) (by first | exact flat_av _ | simp [flat, flats, flat_av]) ?_
  have hw' := (WorldS.ok_iff w).1 hw
  have hws := (Safe.ok_iff w.s).1 hw'.2
  have hss := (Safe.ok_iff s').1 hs'
  have hsm := w_small w c hw hc hb1 hb2
  have hfew := w_rFew s' hs' hb3 hb4
  rw [WorldS.eav, Complex.eav] at hsm
  rw [Safe.eav] at hfew
  rw [WorldS.eav, Complex.eav, Safe.eav]
  simp -implicitDefEqProofs only [F6, go_sem, Nat.reduceAdd, Nat.reduceEqDiff, ↓reduceIte]
  refine callI_pure w_fixed ?_
  simp -implicitDefEqProofs only [go_sem, Nat.reduceAdd, Nat.reduceEqDiff, reduceCtorEq, ↓reduceIte]
  refine callI_pure hsm ?_
  cases hs : smallW w.p w.s c
  · simp -implicitDefEqProofs only [go_sem, Nat.reduceEqDiff, reduceCtorEq, ↓reduceIte]
    refine callI_pure w_fixed ?_
    simp -implicitDefEqProofs only [go_sem, ↓reduceIte]
  obtain ⟨hp, hcl, hsel, hsh⟩ := small_ok hw'.1 hc hs
  have hpl := hp.len
  simp -implicitDefEqProofs only [go_sem, Nat.reduceAdd, Nat.reduceEqDiff, ↓reduceIte]
  refine callI_pure hfew ?_
  cases hf : fewS s'
  · simp -implicitDefEqProofs only [go_sem, Nat.reduceEqDiff, ↓reduceIte]
    refine callI_pure w_fixed ?_
    simp -implicitDefEqProofs only [go_sem, ↓reduceIte]
  have hboth : Enc.ok (Safe.mk (w.s.classes ++ s'.classes) (w.s.attrs ++ s'.attrs)) := (Safe.ok_iff _).2 ⟨⟨by show (w.s.classes ++ s'.classes).length ≤ _; rw [List.length_append]; omega, fun v hv => (List.mem_append.1 hv).elim (hws.1.2 v) (hss.1.2 v)⟩, ⟨by show (w.s.attrs ++ s'.attrs).length ≤ _; rw [List.length_append]; omega, fun v hv => (List.mem_append.1 hv).elim (hws.2.2 v) (hss.2.2 v)⟩⟩
  have of1 := fun n : Int => w_Of w.s hw'.2 w.p hp n c hsel
  have of2 := fun n : Int => w_Of ⟨w.s.classes ++ s'.classes, w.s.attrs ++ s'.attrs⟩ hboth w.p hp n c hsel
  simp only [Complex.eav, Safe.eav, List.length_append, cellsL_append] at of1 of2
  have hless : ∀ n, lessI (ofS w.s w.p n c.parts) (ofS ⟨w.s.classes ++ s'.classes, w.s.attrs ++ s'.attrs⟩ w.p n c.parts) := fun n => ofS_less fun x h => mayS_more h
  have k1 : (cellsL w.s.classes).length = w.s.classes.length := strs_len _
  have k2 : (cellsL w.s.attrs).length = w.s.attrs.length := strs_len _
  have k3 : (cellsL s'.classes).length = s'.classes.length := strs_len _
  have k4 : (cellsL s'.attrs).length = s'.attrs.length := strs_len _
  have t1 : List.take w.s.classes.length (cellsL w.s.classes) = cellsL w.s.classes := List.take_of_length_le (by omega)
  have t2 : List.take w.s.attrs.length (cellsL w.s.attrs) = cellsL w.s.attrs := List.take_of_length_le (by omega)
  have t3 : List.take s'.classes.length (cellsL s'.classes) = cellsL s'.classes := List.take_of_length_le (by omega)
  have t4 : List.take s'.attrs.length (cellsL s'.attrs) = cellsL s'.attrs := List.take_of_length_le (by omega)
  have b1 : (w.s.classes.length * 16 ≤ 140737488355328) = True := eq_true (by omega)
  have b2 : (w.s.attrs.length * 16 ≤ 140737488355328) = True := eq_true (by omega)
  have b3 : (s'.classes.length * 16 ≤ 140737488355328) = True := eq_true (by omega)
  have b4 : (s'.attrs.length * 16 ≤ 140737488355328) = True := eq_true (by omega)
  have b5 : ((w.s.classes.length + s'.classes.length) * 16 ≤ 140737488355328) = True := eq_true (by omega)
  have b6 : ((w.s.attrs.length + s'.attrs.length) * 16 ≤ 140737488355328) = True := eq_true (by omega)
  have hcell : ∀ l : List Str, l.length = 0 → cellsL l = [] := fun l h => by rw [List.eq_nil_of_length_eq_zero h]; rfl
  generalize w.s.classes = A at *
  generalize s'.classes = B at *
  generalize w.s.attrs = C at *
  generalize s'.attrs = D at *
  have q1 : (cellsL A ++ cellsL B).length = A.length + B.length := by rw [List.length_append, k1, k3]
  have q2 : (cellsL C ++ cellsL D).length = C.length + D.length := by rw [List.length_append, k2, k4]
  have u1 : List.take (A.length + B.length) (cellsL A ++ cellsL B) = cellsL A ++ cellsL B := List.take_of_length_le (by omega)
  have u2 : List.take (C.length + D.length) (cellsL C ++ cellsL D) = cellsL C ++ cellsL D := List.take_of_length_le (by omega)
  rcases Nat.eq_zero_or_pos A.length with z1 | z1
  case' inl => have lA := z1; have cA := hcell A z1; have dA := trivial
  case' inr => have lA : (A.length = 0) = False := eq_false (by omega); have cA : (1 ≤ A.length) = True := eq_true (by omega); have dA := trivial
  all_goals (rcases Nat.eq_zero_or_pos B.length with z2 | z2)
  all_goals (first | (have lB : B.length = 0 := z2; have cB := hcell B z2; have dB := trivial) | (have lB : (B.length = 0) = False := eq_false (by omega); have cB : (A.length + 1 ≤ A.length + B.length) = True := eq_true (by omega); have dB : (1 ≤ B.length) = True := eq_true (by omega)))
  all_goals (rcases Nat.eq_zero_or_pos C.length with z3 | z3)
  all_goals (first | (have lC : C.length = 0 := z3; have cC := hcell C z3; have dC := trivial) | (have lC : (C.length = 0) = False := eq_false (by omega); have cC : (1 ≤ C.length) = True := eq_true (by omega); have dC := trivial))
  all_goals (rcases Nat.eq_zero_or_pos D.length with z4 | z4)
  all_goals (first | (have lD : D.length = 0 := z4; have cD := hcell D z4; have dD := trivial) | (have lD : (D.length = 0) = False := eq_false (by omega); have cD : (C.length + 1 ≤ C.length + D.length) = True := eq_true (by omega); have dD : (1 ≤ D.length) = True := eq_true (by omega)))
  all_goals
    simp -implicitDefEqProofs only [lA, cA, lB, cB, dB, lC, cC, lD, cD, dD, k1, k2, k3, k4, t1, t2, t3, t4, b1, b2, b3, b4, b5, b6, go_sem, Nat.reduceAdd, Nat.reduceEqDiff, Nat.reduceLT, Nat.reduceLeDiff, reduceCtorEq, ↓reduceIte]
    refine andI_intro (by kernel_rfl) ?_
    simp -implicitDefEqProofs only [go_sem]
    refine LoopI_sl (fun n : Nat => w.p.length - n) (fun n => [(3, .ptr 0 0 0), (5, .ptr 2 0 0), (7, .ptr 5 0 0), (8, .int .i64 n)])
      (fun n st => n ≤ w.p.length ∧ ∃ sn, st = ⟨[(5, .cells 0 [.sl 3 (A.length + B.length) 0 (A.length + B.length) 1, .sl 4 (C.length + D.length) 0 (C.length + D.length) 1] false), (4, .cells (C.length + D.length) (cellsL C ++ cellsL D) sn), (3, .cells (A.length + B.length) (cellsL A ++ cellsL B) sn), (2, .cells 0 [.ps c.parts.length (cellsL c.parts), .str c.pseudo] false), (1, .cells 0 [.ps B.length (cellsL B), .ps D.length (cellsL D)] false), (0, .cells 0 [.ps w.p.length (cellsL w.p), .ps A.length (cellsL A), .ps C.length (cellsL C)] false)], 6⟩) 0 ?_ ?_
    · simp -implicitDefEqProofs only [go_sem, Nat.reduceEqDiff, ↓reduceIte]
      exact ⟨false, by simp only [lA, cA, lB, cB, lC, cC, lD, cD, Nat.add_zero, Nat.zero_add, List.nil_append, List.append_nil]⟩
    clear lA cA lB cB dB lC cC lD cD dD
    rintro n ρ st ⟨h1, sn, rfl⟩
    rcases Nat.lt_or_ge n w.p.length with hn | hn
    · have hlt : ((n : Int) < (w.p.length : Int)) = True := eq_true (by omega)
      have w1 : IntKind.i64.wrap ((n : Int) + 1) = ((n + 1 : Nat) : Int) := by rw [wrap64 (by omega) (by omega)]; omega
      have p1 := of1 n
      have p2 := of2 n
      have hl := hless n
      generalize ofS w.s w.p n c.parts = x at p1 hl
      generalize ofS ⟨A ++ B, C ++ D⟩ w.p n c.parts = y at p2 hl
      cases sn
      all_goals
        simp -implicitDefEqProofs only [hlt, w1, go_sem, Nat.reduceAdd, Nat.reduceEqDiff, Nat.reduceLT, Nat.reduceLeDiff, reduceCtorEq, ↓reduceIte]
        refine dcallI_pure p1 ?_
        simp -implicitDefEqProofs only [q1, q2, u1, u2, go_sem, Nat.reduceAdd, Nat.reduceEqDiff, Nat.reduceLT, reduceCtorEq, ↓reduceIte]
        refine dcallI_pure p2 ?_
        simp -implicitDefEqProofs only [go_sem, Nat.reduceEqDiff, Nat.reduceLT, ↓reduceIte]
        refine andI_intro (by kernel_rfl) ?_
        rcases hl with rfl | rfl
        · simp -implicitDefEqProofs only [w1, go_sem, Nat.reduceEqDiff, ↓reduceIte]
          exact ⟨n + 1, by omega, rfl, by omega, true, rfl⟩
        · by_cases hx1 : x = 1
          · have f1 : (x = 1) = True := eq_true hx1
            simp -implicitDefEqProofs only [w1, f1, go_sem, Nat.reduceEqDiff, ↓reduceIte]
            exact ⟨n + 1, by omega, rfl, by omega, true, rfl⟩
          · have f1 : (x = 1) = False := eq_false hx1
            simp -implicitDefEqProofs only [w1, f1, go_sem, Nat.reduceEqDiff, ↓reduceIte]
            exact ⟨n + 1, by omega, rfl, by omega, true, rfl⟩
    · have hlt : ((n : Int) < (w.p.length : Int)) = False := eq_false (by omega)
      simp -implicitDefEqProofs only [hlt, go_sem, Nat.reduceAdd, Nat.reduceEqDiff, reduceCtorEq, ↓reduceIte]
end W14
