/- MaybeTurns. -/
import Derived.Test.YtdbcomcockkkbaaGreatMbC
import Derived.Test.YtdbcomcockkkbaaGreatMbR
set_option linter.unusedSimpArgs false
set_option linter.unusedVariables false
namespace W14
open Go Go.AX Go.AX.Ty Go.Proofs

theorem pgB_of {p : Page} (hok : Enc.ok p) (h : smallPg 40 p = true) : PgB 20 1000 p := by
  have hp := smallPg_ok (by decide) hok h
  simp only [smallPg, Bool.and_eq_true, decide_eq_true_eq, Bool.not_eq_true', List.any_eq_false] at h
  refine ⟨hp.ok, hp.len, hp.kids, fun x hx => ?_, fun x hx a ha => ?_⟩
  · have := h.2 x hx
    simp only [badN, Bool.or_eq_true, decide_eq_true_eq, not_or] at this
    omega
  · have := h.2 x hx
    simp only [badN, Bool.or_eq_true, decide_eq_true_eq, not_or, List.any_eq_true, not_exists, not_and] at this
    have := this.2.2.2.2 a ha
    omega
theorem smallT_of {l : List Turn} (h : smallT l = true) : l.length ≤ 20 ∧ ∀ t ∈ l, t.name.length ≤ 100 ∧ t.value.length ≤ 100 := by
  simp only [smallT, Bool.and_eq_true, decide_eq_true_eq, Bool.not_eq_true', List.any_eq_false] at h
  refine ⟨h.1, fun t ht => ?_⟩
  have := h.2 t ht
  simp only [badT, Bool.or_eq_true, decide_eq_true_eq, not_or] at this
  omega
theorem w_MaybeTurns (w : WorldS) (c : Complex) (l : List Turn) (hw : Enc.ok w) (hc : Enc.ok c) (hl : Enc.ok l) (hb1 : w.s.classes.length ≤ 1048576) (hb2 : w.s.attrs.length ≤ 1048576) : PureF Tryz.prog 8 [Enc.av w, Enc.av c, Enc.av l] (.bool true) := by
  refine pureF_W mix c8 (by kernel_rfl) (by kernel_rfl) (by simp [flats, flat_av, Go.AX.flat]) (by first | exact flat_av _ | simp [flat, flats, flat_av]) ?_
  have hw' := (WorldS.ok_iff w).1 hw
  have hsm := w_small w c hw hc hb1 hb2
  rw [WorldS.eav, Complex.eav] at hsm
  rw [WorldS.eav, Complex.eav]
  simp -implicitDefEqProofs only [F8, go_sem, Nat.reduceAdd, Nat.reduceEqDiff, ↓reduceIte]
  refine callI_pure w_fixed ?_
  simp -implicitDefEqProofs only [go_sem, Nat.reduceAdd, Nat.reduceEqDiff, reduceCtorEq, ↓reduceIte]
  refine callI_pure hsm ?_
  cases hs : smallW w.p w.s c
  · simp -implicitDefEqProofs only [go_sem, Nat.reduceEqDiff, reduceCtorEq, ↓reduceIte]
    refine callI_pure w_fixed ?_
    simp -implicitDefEqProofs only [go_sem, ↓reduceIte]
  obtain ⟨hp, hcl, hsel, hsh⟩ := small_ok hw'.1 hc hs
  have hpB : PgB 20 1000 w.p := pgB_of hw'.1 (by simp only [smallW, Bool.and_eq_true] at hs; exact hs.1)
  simp -implicitDefEqProofs only [go_sem, Nat.reduceEqDiff, ↓reduceIte]
  refine callI_pure (w_rSmallT l hl) ?_
  cases hst : smallT l
  · simp -implicitDefEqProofs only [go_sem, Nat.reduceEqDiff, ↓reduceIte]
    refine callI_pure w_fixed ?_
    simp -implicitDefEqProofs only [go_sem, ↓reduceIte]
  obtain ⟨hl20, hlt⟩ := smallT_of hst
  have hAll := w_rAllT w.s hw'.2 w.p hpB l (by omega) (by omega) (by omega) hl.2 hlt
  rw [Safe.eav] at hAll
  simp -implicitDefEqProofs only [go_sem, Nat.reduceAdd, Nat.reduceEqDiff, Nat.reduceLeDiff, reduceCtorEq, ↓reduceIte]
  refine callI_pure hAll ?_
  cases hall : l.all (mayT w.s w.p)
  · simp -implicitDefEqProofs only [go_sem, Nat.reduceEqDiff, ↓reduceIte]
  have hq := (PgB.turns l hpB (by omega) (by omega) hlt).pg (by omega)
  have hT : Turned w.s w.p (doB w.p l) := turned_all l hall
  generalize doB w.p l = q at hq hT
  have of1 := fun n : Int => w_Of w.s hw'.2 w.p hp n c hsel
  have of2 := fun n : Int => w_Of w.s hw'.2 q hq n c hsel
  have any1 := w_Any w.s hw'.2 w.p hp c hsel
  have any2 := w_Any w.s hw'.2 q hq c hsel
  rw [turned_any hT, Complex.eav, Safe.eav] at any2
  rw [Complex.eav, Safe.eav] at any1
  simp only [turned_of hT, Complex.eav, Safe.eav] at of2
  simp only [Complex.eav, Safe.eav] at of1
  have hpl := hp.len
  simp -implicitDefEqProofs only [go_sem, Nat.reduceEqDiff, ↓reduceIte]
  refine LoopI_sl (fun n : Nat => w.p.length - n) (fun n => [(3, .ptr 0 0 0), (4, .ptr 1 0 0), (7, Enc.av q), (9, .int .i64 n)])
    (fun n st => n ≤ w.p.length ∧ st = ⟨[(1, .cells 0 [.ps c.parts.length (cellsL c.parts), .str c.pseudo] false), (0, .cells 0 [.ps w.p.length (cellsL w.p), .ps w.s.classes.length (cellsL w.s.classes), .ps w.s.attrs.length (cellsL w.s.attrs)] false)], 2⟩) 0 ?_ ?_
  · simp -implicitDefEqProofs only [go_sem, Nat.reduceEqDiff, ↓reduceIte]
  rintro n ρ st ⟨h1, rfl⟩
  rcases Nat.lt_or_ge n w.p.length with hn | hn
  · have hltn : ((n : Int) < (w.p.length : Int)) = True := eq_true (by omega)
    have w1 : IntKind.i64.wrap ((n : Int) + 1) = ((n + 1 : Nat) : Int) := by rw [wrap64 (by omega) (by omega)]; omega
    have p1 := of1 n
    have p2 := of2 n
    simp -implicitDefEqProofs only [hltn, go_sem, Nat.reduceAdd, Nat.reduceEqDiff, Nat.reduceLeDiff, reduceCtorEq, ↓reduceIte]
    refine dcallI_pure p1 ?_
    simp -implicitDefEqProofs only [go_sem, Nat.reduceAdd, Nat.reduceEqDiff, Nat.reduceLeDiff, reduceCtorEq, ↓reduceIte]
    refine dcallI_pure p2 ?_
    simp -implicitDefEqProofs only [go_sem, Nat.reduceEqDiff, ↓reduceIte]
    refine andI_intro (by kernel_rfl) ?_
    simp -implicitDefEqProofs only [w1, go_sem, Nat.reduceEqDiff, ↓reduceIte]
    exact ⟨n + 1, by omega, rfl, by omega⟩
  · have hltn : ((n : Int) < (w.p.length : Int)) = False := eq_false (by omega)
    simp -implicitDefEqProofs only [hltn, go_sem, Nat.reduceAdd, Nat.reduceEqDiff, Nat.reduceLeDiff, reduceCtorEq, ↓reduceIte]
    refine dcallI_pure any1 ?_
    simp -implicitDefEqProofs only [go_sem, Nat.reduceAdd, Nat.reduceEqDiff, Nat.reduceLeDiff, reduceCtorEq, ↓reduceIte]
    refine dcallI_pure any2 ?_
    simp -implicitDefEqProofs only [go_sem, Nat.reduceEqDiff, ↓reduceIte]
    refine andI_intro (by kernel_rfl) ?_
    simp -implicitDefEqProofs only [go_sem, ↓reduceIte]
end W14
