/- MatchPlain. -/
import Derived.Test.YtjfknmjdkdcfjaaGreatMtC
set_option linter.unusedSimpArgs false
set_option linter.unusedVariables false
namespace W12
open Go Go.AX Go.AX.Ty Go.Proofs

theorem simple_ok {k : Int} {nm v : Str} {a b : Int} {l : List Simple} (h1 : Enc.ok k) (h2 : Enc.ok nm) (h3 : Enc.ok v) (h4 : Enc.ok a) (h5 : Enc.ok b) (h6 : Enc.ok l) : Enc.ok (Simple.mk k nm v a b l) :=
  (Simple.ok_iff _).2 ⟨h1, h2, h3, h4, h5, h6⟩
theorem nil_ok : Enc.ok ([] : Str) := by show (0 : Nat) ≤ _; omega
theorem nils_ok : Enc.ok ([] : List Simple) := ⟨by simp, by simp⟩
theorem int_ok {k : Int} (h : 0 ≤ k ∧ k ≤ 1000) : Enc.ok k := by show -9223372036854775808 ≤ k ∧ k ≤ 9223372036854775807; omega
/-- the selector of one simple one -/
abbrev one (k : Int) (nm : Str) : Complex := .mk [.mk 0 [.mk k nm [] 0 1 []]] []
theorem one_ok {k : Int} {nm : Str} (hk : 0 ≤ k ∧ k ≤ 1000) (hn : Enc.ok nm) : Enc.ok (one k nm) :=
  (Complex.ok_iff _).2 ⟨⟨by show (1 : Nat) ≤ _; omega, fun q hq => by
    simp [Complex.parts] at hq
    subst hq
    exact (Part.ok_iff _).2 ⟨int_ok (k := 0) (by omega), ⟨by show (1 : Nat) ≤ _; omega, fun x hx => by
      simp at hx
      subst hx
      exact simple_ok (int_ok hk) hn nil_ok (int_ok (k := 0) (by omega)) (int_ok (k := 1) (by omega)) nils_ok⟩⟩⟩, nil_ok⟩
theorem is_one {p : Page} (t : TreeP p) (k : Int) (nm : Str) (n : Int) : isB p [] n (one k nm).parts = (elemB p n && holdsB p [] n (.mk k nm [] 0 1 [])) := by
  simp [isB, treeB_true t, Complex.parts, fitsB]
theorem nth_first (i : Int) (h : 1 ≤ i ∧ i ≤ 1001) : nthB 0 1 i = decide (i = 1) := by
  unfold nthB
  rw [if_neg (by omega), if_neg (by omega), if_neg (by omega), if_pos rfl]
theorem place_first {p : Page} (t : TreeP p) {k : Nat} {x : Ty.Node} (hx : p[k]? = some x) (hn : x.name ≠ []) : ∃ a r, kinB p k = a :: r ∧ (decide (placeB p k = 1) = (a == (k : Int))) ∧ 1 ≤ placeB p k := by
  have hm := t.kin hx hn
  unfold placeB
  cases hk : kinB p k with
  | nil => rw [hk] at hm; simp at hm
  | cons a r =>
    rw [hk] at hm
    refine ⟨a, r, rfl, ?_, ?_⟩
    · by_cases h : (k : Int) = a
      · have : idxOf (fun x => (k : Int) == x) (a :: r) = 0 := by simp [idxOf, List.findIdx?_cons, h]
        rw [this]; simp [h]
      · rcases idx_cases (fun x => (k : Int) == x) (a :: r) with ⟨e, hno⟩ | ⟨j, y, e, hj, hy, hp, hpre⟩
        · have := hno _ hm; simp at this
        · rw [e]
          have : j ≠ 0 := fun h0 => by
            subst h0
            simp at hy hp
            omega
          rw [Bool.eq_iff_iff, decide_eq_true_eq, beq_iff_eq]
          omega
    · rcases idx_cases (fun x => (k : Int) == x) (a :: r) with ⟨e, hno⟩ | ⟨j, y, e, hj, hy, hp, hpre⟩
      · have := hno _ hm; simp at this
      · rw [e]; omega
/-- what is wanted of a node, by the law -/
def wantB (p : Page) (name : Str) (k : Nat) : List Bool :=
  [true, (match p[k]? with | some x => x.name == name | none => false), (attrB p k [105, 100]).2 && ((attrB p k [105, 100]).1 == name), (classesB p k).any (fun x => x == name), (attrB p k name).2,
    (match kinB p k with | [] => false | a :: _ => a == (k : Int))]
theorem want_is {p : Page} (t : TreeP p) (hp : PgOk p) (name : Str) {k : Nat} {x : Ty.Node} (hx : p[k]? = some x) : ∀ (i : Nat) (kd : Int) (b : Bool), ([1, 2, 3, 4, 5, 8] : List Int)[i]? = some kd → (wantB p name k)[i]? = some b → isB p [] k (one kd name).parts = (b && elemB p k) := by
  intro i kd b h1 h2
  rw [is_one t]
  cases he : elemB p k
  · simp
  have hxn : x.name ≠ [] := by
    have h := he
    rw [elemB, nodeAt_nat, hx] at h
    simpa using h
  obtain ⟨a, r, ek, ep, ep1⟩ := place_first t hx hxn
  have hbd := place_bd hp k
  have hn : nodeAt p (k : Int) = some x := by rw [nodeAt_nat]; exact hx
  unfold wantB at h2
  match i, h1, h2 with
  | 0, h1, h2 => simp at h1 h2; subst h1; subst h2; simp [holdsB]
  | 1, h1, h2 => simp [hx] at h1 h2; subst h1; subst h2; simp [holdsB, hn, Bool.beq_eq_decide_eq]
  | 2, h1, h2 => simp at h1 h2; subst h1; subst h2; simp [holdsB, Bool.beq_eq_decide_eq]
  | 3, h1, h2 => simp only [List.getElem?_cons_succ, List.getElem?_cons_zero, Option.some.injEq] at h1 h2; subst h1; subst h2; rw [sym_any]; simp [holdsB]
  | 4, h1, h2 => simp at h1 h2; subst h1; subst h2; simp [holdsB]
  | 5, h1, h2 =>
    rw [ek] at h2
    simp only [List.getElem?_cons_succ, List.getElem?_cons_zero, Option.some.injEq] at h1 h2
    subst h1; subst h2
    rw [← ep, ← nth_first (placeB p k) (by omega)]; simp [holdsB]
  | i + 6, h1, h2 => simp at h1

set_option maxHeartbeats 4000000 in
theorem w_MatchPlain (p : Page) (name : Str) (hp0 : Enc.ok p) (hn : Enc.ok name) : PureF Tryz.prog 8 [Enc.av p, Enc.av name] (.bool true) := by
  refine pureF_W mix c8 (by kernel_rfl) (by kernel_rfl) (by simp [flats, flat_av, Go.AX.flat]) (by first | exact flat_av _ | simp [flat, flats, flat_av]) ?_
  simp -implicitDefEqProofs only [F8, go_sem]
  refine callI_pure w_fixed ?_
  simp -implicitDefEqProofs only [go_sem, Nat.reduceEqDiff, reduceCtorEq, ↓reduceIte]
  refine callI_pure (w_Small10 40 p hp0) ?_
  cases hs : smallPg 40 p
  · simp -implicitDefEqProofs only [go_sem, Nat.reduceEqDiff, reduceCtorEq, ↓reduceIte]
    refine callI_pure w_fixed ?_
    simp -implicitDefEqProofs only [go_sem, ↓reduceIte]
  have hp := smallPg_ok (by decide) hp0 hs
  have hpl := hp.len
  simp -implicitDefEqProofs only [go_sem, Nat.reduceEqDiff, ↓reduceIte]
  by_cases hnl : ((name.length : Int) > 100)
  · have hT := eq_true hnl
    simp -implicitDefEqProofs only [hT, go_sem, Nat.reduceEqDiff, ↓reduceIte]
    refine callI_pure w_fixed ?_
    simp -implicitDefEqProofs only [go_sem, ↓reduceIte]
  have hT := eq_false hnl
  simp -implicitDefEqProofs only [hT, go_sem, Nat.reduceEqDiff, reduceCtorEq, ↓reduceIte]
  refine callI_pure (w_rTree p hp) ?_
  cases ht : treeB p
  · simp -implicitDefEqProofs only [hT, go_sem, Nat.reduceEqDiff, ↓reduceIte]
    refine callI_pure w_fixed ?_
    simp -implicitDefEqProofs only [go_sem, ↓reduceIte]
  have t := treeB_iff.1 ht
  simp -implicitDefEqProofs only [hT, go_sem, Nat.reduceAdd, Nat.reduceEqDiff, Nat.reduceLeDiff, ↓reduceIte]
  refine LoopI_sl (fun k : Nat => p.length - k) (fun k => [(0, Enc.av p), (1, Enc.av name), (5, .sl 0 6 0 6 1), (6, .int .i64 k)])
    (fun k s => k ≤ p.length ∧ 1 ≤ s.next ∧ Wf s ∧ AX.look 0 s.heap = some (.cells 6 [.int .i64 1, .int .i64 2, .int .i64 3, .int .i64 4, .int .i64 5, .int .i64 8] false)) 0 ?_ ?_
  · simp -implicitDefEqProofs only [go_sem, Nat.reduceEqDiff, reduceCtorEq, ↓reduceIte]
    exact wf_of (by kernel_rfl)
  rintro k ρ ⟨g, m⟩ ⟨h1, h2, hwf, h3⟩
  dsimp only at h2 h3
  rcases Nat.lt_or_ge k p.length with hk | hk
  · obtain ⟨x, hx, _, hxm⟩ := get_drop hk
    have hlt : ((k : Int) < (p.length : Int)) = True := eq_true (by omega)
    have wk : IntKind.i64.wrap ((k : Int) + 1) = ((k + 1 : Nat) : Int) := by rw [wrap64 (by omega) (by omega)]; omega
    have a1 := w_rAttr p hp.ok k [105, 100]
    have a2 := w_rAttr p hp.ok k name
    have a3 := w_rKin p hp k
    have a4 := w_rClasses p hp k
    have a5 := w_in2 name (classesB p k) (classes_len hp k)
    have hwant := want_is t hp name hx
    unfold wantB at hwant
    rw [hx] at hwant
    simp -implicitDefEqProofs only [hlt, go_sem, Nat.reduceEqDiff, reduceCtorEq, ↓reduceIte]
    refine callI_pure a1 ?_
    simp -implicitDefEqProofs only [go_sem, Nat.reduceEqDiff, reduceCtorEq, ↓reduceIte]
    refine callI_pure a2 ?_
    simp -implicitDefEqProofs only [go_sem, Nat.reduceEqDiff, reduceCtorEq, ↓reduceIte]
    refine callI_pure a3 ?_
    simp -implicitDefEqProofs only [hx, go_sem, Nat.reduceEqDiff, reduceCtorEq, ↓reduceIte]
    generalize attrB p k [105, 100] = r1 at hwant
    generalize attrB p k name = r2 at hwant
    generalize kinB p k = kn at hwant
    obtain ⟨i1, i2⟩ := r1
    obtain ⟨j1, j2⟩ := r2
    have m0 : (m = 0) = False := eq_false (by omega)
    have i0 : (0 < m) = True := eq_true (by omega)
    simp only at hwant
    generalize hB1 : (x.name == name) = B1 at hwant
    generalize hB2 : (i1 == name) = B2 at hwant
    generalize hB3 : (classesB p k).any (fun x => x == name) = B3 at hwant a5
    have pos : ∀ q : Nat, (((q + 1 : Nat) : Int) > 0) = True := fun q => eq_true (by omega)
    have el0 : ∀ (a0 : Int) (r0 : List Int), elemA 0 1 (.ps (r0.length + 1) (cellsL (a0 :: r0))) = some (.vp (.int .i64 a0 :: cellsL r0)) := fun a0 r0 => rfl
    rcases kn with _ | ⟨a0, r0⟩ <;> cases i2
    · simp only [Bool.false_and, Bool.true_and] at hwant
      simp -implicitDefEqProofs only [hx, go_sem, Nat.reduceEqDiff, reduceCtorEq, ↓reduceIte]
      refine dcallI_pure a4 ?_
      simp -implicitDefEqProofs only [hx, go_sem, Nat.reduceEqDiff, reduceCtorEq, ↓reduceIte]
      refine dcallI_pure a5 ?_
      simp -implicitDefEqProofs only [hx, hB1, hB2, pos, el0, go_sem, Int.reduceGT, Nat.reduceAdd, Nat.reduceEqDiff, Nat.reduceLeDiff, ↓reduceIte]
      refine andI_intro (by (first | omega | (simp [indepB, indep1, apart1, Nat.testBit_eq_decide_div_mod_eq]; done) | (simp [indepB, indep1, apart1, Nat.testBit_eq_decide_div_mod_eq]; omega) | kernel_rfl)) ?_
      simp -implicitDefEqProofs only [hx, h3, hB1, hB2, pos, el0, go_sem]
      refine LoopI_sl (fun i : Nat => 6 - i) (fun i => [(0, Enc.av p), (1, Enc.av name), (5, .sl 0 6 0 6 1), (6, .int .i64 k), (12, .sl m 6 0 6 1), (13, .int .i64 i)])
        (fun i s => i ≤ 6 ∧ m + 1 ≤ s.next ∧ Wf s ∧ AX.look 0 s.heap = some (.cells 6 [.int .i64 1, .int .i64 2, .int .i64 3, .int .i64 4, .int .i64 5, .int .i64 8] false) ∧ AX.look m s.heap = some (.cells 6 [.bool true, .bool B1, .bool false, .bool B3, .bool j2, .bool false] false)) 0 ?_ ?_
      · simp -implicitDefEqProofs only [h3, m0, go_sem, Nat.reduceEqDiff, reduceCtorEq, ↓reduceIte]
        exact wf_push hwf
      rintro i ρ ⟨g2, q⟩ ⟨q1, q2, q3, q4, q5⟩
      dsimp only at q2 q4 q5
      have n0 : (q = 0) = False := eq_false (by omega)
      have n1 : (q = m) = False := eq_false (by omega)
      have n2 : (q + 1 = 0) = False := eq_false (by omega)
      have n3 : (q + 1 = m) = False := eq_false (by omega)
      have n4 : (q + 1 = q) = False := eq_false (by omega)
      have n5 : (q + 1 + 1 = 0) = False := eq_false (by omega)
      have n6 : (q + 1 + 1 = m) = False := eq_false (by omega)
      have n7 : (q + 1 + 1 = q) = False := eq_false (by omega)
      have n8 : (q + 1 + 1 = q + 1) = False := eq_false (by omega)
      have n9 : (q + 1 + 1 + 1 = 0) = False := eq_false (by omega)
      have n10 : (q + 1 + 1 + 1 = m) = False := eq_false (by omega)
      have n11 : (q + 1 + 1 + 1 = q) = False := eq_false (by omega)
      have n12 : (q + 1 + 1 + 1 = q + 1) = False := eq_false (by omega)
      have n13 : (q + 1 + 1 + 1 = q + 1 + 1) = False := eq_false (by omega)
      have l0 : (0 < q + 1 + 1 + 1 + 1) = True := eq_true (by omega)
      have l1 : (m < q + 1 + 1 + 1 + 1) = True := eq_true (by omega)
      have l2 : (q < q + 1 + 1 + 1 + 1) = True := eq_true (by omega)
      have l3 : (q + 1 < q + 1 + 1 + 1 + 1) = True := eq_true (by omega)
      have l4 : (q + 1 + 1 < q + 1 + 1 + 1 + 1) = True := eq_true (by omega)
      have l5 : (q + 1 + 1 + 1 < q + 1 + 1 + 1 + 1) = True := eq_true (by omega)
      rcases (by omega : i = 0 ∨ i = 1 ∨ i = 2 ∨ i = 3 ∨ i = 4 ∨ i = 5 ∨ i = 6) with rfl | rfl | rfl | rfl | rfl | rfl | rfl
      · skip
        have hI := hwant 0 1 true rfl rfl
        have a6 := (w_Is p [] hp (by simp) k (one 1 name) (one_ok (by omega) hn)).at (v' := .bool (true && elemB p k)) (by rw [show (one 1 name).parts = _ from rfl, hI])
        simp -implicitDefEqProofs only [q4, q5, n0, n1, n2, n3, n4, n5, n6, n7, n8, n9, n10, n11, n12, n13, l0, l1, l2, l3, l4, l5, Bool.false_and, go_sem, Int.reduceLT, Int.reduceToNat, Nat.reduceAdd, Nat.reduceEqDiff, Nat.reduceLeDiff, reduceCtorEq, ↓reduceIte]
        refine dcallI_d a6 (wf_push (wf_push (wf_push (wf_push q3)))) ?_
        simp -implicitDefEqProofs only [q4, q5, n0, n1, n2, n3, n4, n5, n6, n7, n8, n9, n10, n11, n12, n13, l0, l1, l2, l3, l4, l5, Bool.false_and, Complex.parts, Complex.pseudo, Part.comb, Part.l, Simple.kind, Simple.name, Simple.value, Simple.a, Simple.b, Simple.l, cellsL, go_sem, Int.reduceToNat, Nat.reduceAdd, Nat.reduceEqDiff, reduceCtorEq, ↓reduceIte]
        refine dcallI_pure (w_rElement p k) ?_
        simp -implicitDefEqProofs only [q4, q5, n0, n1, n2, n3, n4, n5, n6, n7, n8, n9, n10, n11, n12, n13, l0, l1, l2, l3, l4, l5, Bool.false_and, go_sem, Nat.reduceEqDiff, ↓reduceIte]
        refine andI_intro (by (simp [indepB, indep1, apart1, Nat.testBit_eq_decide_div_mod_eq]; repeat' (first | omega | (intro x hx; omega) | refine And.intro ?_ ?_))) ?_
        simp -implicitDefEqProofs only [q4, q5, n0, n1, n2, n3, n4, n5, n6, n7, n8, n9, n10, n11, n12, n13, l0, l1, l2, l3, l4, l5, Bool.false_and, go_sem, Int.reduceAdd, Int.reduceLE, Int.reduceNeg, Nat.reduceEqDiff, Nat.reduceLeDiff, Nat.reduceSub, reduceCtorEq, ↓reduceIte]
        exact ⟨1, by omega, rfl, by omega, by omega, wf_push (wf_push (wf_push (wf_push q3)))⟩
      · cases B1
        · skip
          have hI := hwant 1 2 false rfl rfl
          have a6 := (w_Is p [] hp (by simp) k (one 2 name) (one_ok (by omega) hn)).at (v' := .bool (false && elemB p k)) (by rw [show (one 2 name).parts = _ from rfl, hI])
          simp -implicitDefEqProofs only [q4, q5, n0, n1, n2, n3, n4, n5, n6, n7, n8, n9, n10, n11, n12, n13, l0, l1, l2, l3, l4, l5, Bool.false_and, go_sem, Int.reduceLE, Int.reduceLT, Int.reduceToNat, Nat.reduceAdd, Nat.reduceEqDiff, Nat.reduceLT, Nat.reduceLeDiff, reduceCtorEq, ↓reduceIte]
          refine dcallI_d a6 (wf_push (wf_push (wf_push (wf_push q3)))) ?_
          simp -implicitDefEqProofs only [q4, q5, n0, n1, n2, n3, n4, n5, n6, n7, n8, n9, n10, n11, n12, n13, l0, l1, l2, l3, l4, l5, Bool.false_and, Complex.parts, Complex.pseudo, Part.comb, Part.l, Simple.kind, Simple.name, Simple.value, Simple.a, Simple.b, Simple.l, cellsL, go_sem, Int.reduceLE, Int.reduceToNat, Nat.reduceAdd, Nat.reduceEqDiff, Nat.reduceLT, Nat.reduceLeDiff, reduceCtorEq, ↓reduceIte]
          refine andI_intro (by (simp [indepB, indep1, apart1, Nat.testBit_eq_decide_div_mod_eq]; repeat' (first | omega | (intro x hx; omega) | refine And.intro ?_ ?_))) ?_
          simp -implicitDefEqProofs only [q4, q5, n0, n1, n2, n3, n4, n5, n6, n7, n8, n9, n10, n11, n12, n13, l0, l1, l2, l3, l4, l5, Bool.false_and, go_sem, Int.reduceAdd, Int.reduceLE, Int.reduceNeg, Nat.reduceEqDiff, Nat.reduceLeDiff, Nat.reduceSub, reduceCtorEq, ↓reduceIte]
          exact ⟨2, by omega, rfl, by omega, by omega, wf_push (wf_push (wf_push (wf_push q3)))⟩
        · skip
          have hI := hwant 1 2 true rfl rfl
          have a6 := (w_Is p [] hp (by simp) k (one 2 name) (one_ok (by omega) hn)).at (v' := .bool (true && elemB p k)) (by rw [show (one 2 name).parts = _ from rfl, hI])
          simp -implicitDefEqProofs only [q4, q5, n0, n1, n2, n3, n4, n5, n6, n7, n8, n9, n10, n11, n12, n13, l0, l1, l2, l3, l4, l5, Bool.false_and, go_sem, Int.reduceLE, Int.reduceLT, Int.reduceToNat, Nat.reduceAdd, Nat.reduceEqDiff, Nat.reduceLT, Nat.reduceLeDiff, reduceCtorEq, ↓reduceIte]
          refine dcallI_d a6 (wf_push (wf_push (wf_push (wf_push q3)))) ?_
          simp -implicitDefEqProofs only [q4, q5, n0, n1, n2, n3, n4, n5, n6, n7, n8, n9, n10, n11, n12, n13, l0, l1, l2, l3, l4, l5, Bool.false_and, Complex.parts, Complex.pseudo, Part.comb, Part.l, Simple.kind, Simple.name, Simple.value, Simple.a, Simple.b, Simple.l, cellsL, go_sem, Int.reduceLE, Int.reduceToNat, Nat.reduceAdd, Nat.reduceEqDiff, Nat.reduceLT, Nat.reduceLeDiff, reduceCtorEq, ↓reduceIte]
          refine dcallI_pure (w_rElement p k) ?_
          simp -implicitDefEqProofs only [q4, q5, n0, n1, n2, n3, n4, n5, n6, n7, n8, n9, n10, n11, n12, n13, l0, l1, l2, l3, l4, l5, Bool.false_and, go_sem, Nat.reduceEqDiff, ↓reduceIte]
          refine andI_intro (by (simp [indepB, indep1, apart1, Nat.testBit_eq_decide_div_mod_eq]; repeat' (first | omega | (intro x hx; omega) | refine And.intro ?_ ?_))) ?_
          simp -implicitDefEqProofs only [q4, q5, n0, n1, n2, n3, n4, n5, n6, n7, n8, n9, n10, n11, n12, n13, l0, l1, l2, l3, l4, l5, Bool.false_and, go_sem, Int.reduceAdd, Int.reduceLE, Int.reduceNeg, Nat.reduceEqDiff, Nat.reduceLeDiff, Nat.reduceSub, reduceCtorEq, ↓reduceIte]
          exact ⟨2, by omega, rfl, by omega, by omega, wf_push (wf_push (wf_push (wf_push q3)))⟩
      · skip
        have hI := hwant 2 3 false rfl rfl
        have a6 := (w_Is p [] hp (by simp) k (one 3 name) (one_ok (by omega) hn)).at (v' := .bool (false && elemB p k)) (by rw [show (one 3 name).parts = _ from rfl, hI])
        simp -implicitDefEqProofs only [q4, q5, n0, n1, n2, n3, n4, n5, n6, n7, n8, n9, n10, n11, n12, n13, l0, l1, l2, l3, l4, l5, Bool.false_and, go_sem, Int.reduceLE, Int.reduceLT, Int.reduceToNat, Nat.reduceAdd, Nat.reduceEqDiff, Nat.reduceLT, Nat.reduceLeDiff, reduceCtorEq, ↓reduceIte]
        refine dcallI_d a6 (wf_push (wf_push (wf_push (wf_push q3)))) ?_
        simp -implicitDefEqProofs only [q4, q5, n0, n1, n2, n3, n4, n5, n6, n7, n8, n9, n10, n11, n12, n13, l0, l1, l2, l3, l4, l5, Bool.false_and, Complex.parts, Complex.pseudo, Part.comb, Part.l, Simple.kind, Simple.name, Simple.value, Simple.a, Simple.b, Simple.l, cellsL, go_sem, Int.reduceLE, Int.reduceToNat, Nat.reduceAdd, Nat.reduceEqDiff, Nat.reduceLT, Nat.reduceLeDiff, reduceCtorEq, ↓reduceIte]
        refine andI_intro (by (simp [indepB, indep1, apart1, Nat.testBit_eq_decide_div_mod_eq]; repeat' (first | omega | (intro x hx; omega) | refine And.intro ?_ ?_))) ?_
        simp -implicitDefEqProofs only [q4, q5, n0, n1, n2, n3, n4, n5, n6, n7, n8, n9, n10, n11, n12, n13, l0, l1, l2, l3, l4, l5, Bool.false_and, go_sem, Int.reduceAdd, Int.reduceLE, Int.reduceNeg, Nat.reduceEqDiff, Nat.reduceLeDiff, Nat.reduceSub, reduceCtorEq, ↓reduceIte]
        exact ⟨3, by omega, rfl, by omega, by omega, wf_push (wf_push (wf_push (wf_push q3)))⟩
      · cases B3
        · skip
          have hI := hwant 3 4 false rfl rfl
          have a6 := (w_Is p [] hp (by simp) k (one 4 name) (one_ok (by omega) hn)).at (v' := .bool (false && elemB p k)) (by rw [show (one 4 name).parts = _ from rfl, hI])
          simp -implicitDefEqProofs only [q4, q5, n0, n1, n2, n3, n4, n5, n6, n7, n8, n9, n10, n11, n12, n13, l0, l1, l2, l3, l4, l5, Bool.false_and, go_sem, Int.reduceLE, Int.reduceLT, Int.reduceToNat, Nat.reduceAdd, Nat.reduceEqDiff, Nat.reduceLT, Nat.reduceLeDiff, reduceCtorEq, ↓reduceIte]
          refine dcallI_d a6 (wf_push (wf_push (wf_push (wf_push q3)))) ?_
          simp -implicitDefEqProofs only [q4, q5, n0, n1, n2, n3, n4, n5, n6, n7, n8, n9, n10, n11, n12, n13, l0, l1, l2, l3, l4, l5, Bool.false_and, Complex.parts, Complex.pseudo, Part.comb, Part.l, Simple.kind, Simple.name, Simple.value, Simple.a, Simple.b, Simple.l, cellsL, go_sem, Int.reduceLE, Int.reduceToNat, Nat.reduceAdd, Nat.reduceEqDiff, Nat.reduceLT, Nat.reduceLeDiff, reduceCtorEq, ↓reduceIte]
          refine andI_intro (by (simp [indepB, indep1, apart1, Nat.testBit_eq_decide_div_mod_eq]; repeat' (first | omega | (intro x hx; omega) | refine And.intro ?_ ?_))) ?_
          simp -implicitDefEqProofs only [q4, q5, n0, n1, n2, n3, n4, n5, n6, n7, n8, n9, n10, n11, n12, n13, l0, l1, l2, l3, l4, l5, Bool.false_and, go_sem, Int.reduceAdd, Int.reduceLE, Int.reduceNeg, Nat.reduceEqDiff, Nat.reduceLeDiff, Nat.reduceSub, reduceCtorEq, ↓reduceIte]
          exact ⟨4, by omega, rfl, by omega, by omega, wf_push (wf_push (wf_push (wf_push q3)))⟩
        · skip
          have hI := hwant 3 4 true rfl rfl
          have a6 := (w_Is p [] hp (by simp) k (one 4 name) (one_ok (by omega) hn)).at (v' := .bool (true && elemB p k)) (by rw [show (one 4 name).parts = _ from rfl, hI])
          simp -implicitDefEqProofs only [q4, q5, n0, n1, n2, n3, n4, n5, n6, n7, n8, n9, n10, n11, n12, n13, l0, l1, l2, l3, l4, l5, Bool.false_and, go_sem, Int.reduceLE, Int.reduceLT, Int.reduceToNat, Nat.reduceAdd, Nat.reduceEqDiff, Nat.reduceLT, Nat.reduceLeDiff, reduceCtorEq, ↓reduceIte]
          refine dcallI_d a6 (wf_push (wf_push (wf_push (wf_push q3)))) ?_
          simp -implicitDefEqProofs only [q4, q5, n0, n1, n2, n3, n4, n5, n6, n7, n8, n9, n10, n11, n12, n13, l0, l1, l2, l3, l4, l5, Bool.false_and, Complex.parts, Complex.pseudo, Part.comb, Part.l, Simple.kind, Simple.name, Simple.value, Simple.a, Simple.b, Simple.l, cellsL, go_sem, Int.reduceLE, Int.reduceToNat, Nat.reduceAdd, Nat.reduceEqDiff, Nat.reduceLT, Nat.reduceLeDiff, reduceCtorEq, ↓reduceIte]
          refine dcallI_pure (w_rElement p k) ?_
          simp -implicitDefEqProofs only [q4, q5, n0, n1, n2, n3, n4, n5, n6, n7, n8, n9, n10, n11, n12, n13, l0, l1, l2, l3, l4, l5, Bool.false_and, go_sem, Nat.reduceEqDiff, ↓reduceIte]
          refine andI_intro (by (simp [indepB, indep1, apart1, Nat.testBit_eq_decide_div_mod_eq]; repeat' (first | omega | (intro x hx; omega) | refine And.intro ?_ ?_))) ?_
          simp -implicitDefEqProofs only [q4, q5, n0, n1, n2, n3, n4, n5, n6, n7, n8, n9, n10, n11, n12, n13, l0, l1, l2, l3, l4, l5, Bool.false_and, go_sem, Int.reduceAdd, Int.reduceLE, Int.reduceNeg, Nat.reduceEqDiff, Nat.reduceLeDiff, Nat.reduceSub, reduceCtorEq, ↓reduceIte]
          exact ⟨4, by omega, rfl, by omega, by omega, wf_push (wf_push (wf_push (wf_push q3)))⟩
      · cases j2
        · skip
          have hI := hwant 4 5 false rfl rfl
          have a6 := (w_Is p [] hp (by simp) k (one 5 name) (one_ok (by omega) hn)).at (v' := .bool (false && elemB p k)) (by rw [show (one 5 name).parts = _ from rfl, hI])
          simp -implicitDefEqProofs only [q4, q5, n0, n1, n2, n3, n4, n5, n6, n7, n8, n9, n10, n11, n12, n13, l0, l1, l2, l3, l4, l5, Bool.false_and, go_sem, Int.reduceLE, Int.reduceLT, Int.reduceToNat, Nat.reduceAdd, Nat.reduceEqDiff, Nat.reduceLT, Nat.reduceLeDiff, reduceCtorEq, ↓reduceIte]
          refine dcallI_d a6 (wf_push (wf_push (wf_push (wf_push q3)))) ?_
          simp -implicitDefEqProofs only [q4, q5, n0, n1, n2, n3, n4, n5, n6, n7, n8, n9, n10, n11, n12, n13, l0, l1, l2, l3, l4, l5, Bool.false_and, Complex.parts, Complex.pseudo, Part.comb, Part.l, Simple.kind, Simple.name, Simple.value, Simple.a, Simple.b, Simple.l, cellsL, go_sem, Int.reduceLE, Int.reduceToNat, Nat.reduceAdd, Nat.reduceEqDiff, Nat.reduceLT, Nat.reduceLeDiff, reduceCtorEq, ↓reduceIte]
          refine andI_intro (by (simp [indepB, indep1, apart1, Nat.testBit_eq_decide_div_mod_eq]; repeat' (first | omega | (intro x hx; omega) | refine And.intro ?_ ?_))) ?_
          simp -implicitDefEqProofs only [q4, q5, n0, n1, n2, n3, n4, n5, n6, n7, n8, n9, n10, n11, n12, n13, l0, l1, l2, l3, l4, l5, Bool.false_and, go_sem, Int.reduceAdd, Int.reduceLE, Int.reduceNeg, Nat.reduceEqDiff, Nat.reduceLeDiff, Nat.reduceSub, reduceCtorEq, ↓reduceIte]
          exact ⟨5, by omega, rfl, by omega, by omega, wf_push (wf_push (wf_push (wf_push q3)))⟩
        · skip
          have hI := hwant 4 5 true rfl rfl
          have a6 := (w_Is p [] hp (by simp) k (one 5 name) (one_ok (by omega) hn)).at (v' := .bool (true && elemB p k)) (by rw [show (one 5 name).parts = _ from rfl, hI])
          simp -implicitDefEqProofs only [q4, q5, n0, n1, n2, n3, n4, n5, n6, n7, n8, n9, n10, n11, n12, n13, l0, l1, l2, l3, l4, l5, Bool.false_and, go_sem, Int.reduceLE, Int.reduceLT, Int.reduceToNat, Nat.reduceAdd, Nat.reduceEqDiff, Nat.reduceLT, Nat.reduceLeDiff, reduceCtorEq, ↓reduceIte]
          refine dcallI_d a6 (wf_push (wf_push (wf_push (wf_push q3)))) ?_
          simp -implicitDefEqProofs only [q4, q5, n0, n1, n2, n3, n4, n5, n6, n7, n8, n9, n10, n11, n12, n13, l0, l1, l2, l3, l4, l5, Bool.false_and, Complex.parts, Complex.pseudo, Part.comb, Part.l, Simple.kind, Simple.name, Simple.value, Simple.a, Simple.b, Simple.l, cellsL, go_sem, Int.reduceLE, Int.reduceToNat, Nat.reduceAdd, Nat.reduceEqDiff, Nat.reduceLT, Nat.reduceLeDiff, reduceCtorEq, ↓reduceIte]
          refine dcallI_pure (w_rElement p k) ?_
          simp -implicitDefEqProofs only [q4, q5, n0, n1, n2, n3, n4, n5, n6, n7, n8, n9, n10, n11, n12, n13, l0, l1, l2, l3, l4, l5, Bool.false_and, go_sem, Nat.reduceEqDiff, ↓reduceIte]
          refine andI_intro (by (simp [indepB, indep1, apart1, Nat.testBit_eq_decide_div_mod_eq]; repeat' (first | omega | (intro x hx; omega) | refine And.intro ?_ ?_))) ?_
          simp -implicitDefEqProofs only [q4, q5, n0, n1, n2, n3, n4, n5, n6, n7, n8, n9, n10, n11, n12, n13, l0, l1, l2, l3, l4, l5, Bool.false_and, go_sem, Int.reduceAdd, Int.reduceLE, Int.reduceNeg, Nat.reduceEqDiff, Nat.reduceLeDiff, Nat.reduceSub, reduceCtorEq, ↓reduceIte]
          exact ⟨5, by omega, rfl, by omega, by omega, wf_push (wf_push (wf_push (wf_push q3)))⟩
      · skip
        have hI := hwant 5 8 false rfl rfl
        have a6 := (w_Is p [] hp (by simp) k (one 8 name) (one_ok (by omega) hn)).at (v' := .bool (false && elemB p k)) (by rw [show (one 8 name).parts = _ from rfl, hI])
        simp -implicitDefEqProofs only [q4, q5, n0, n1, n2, n3, n4, n5, n6, n7, n8, n9, n10, n11, n12, n13, l0, l1, l2, l3, l4, l5, Bool.false_and, go_sem, Int.reduceLE, Int.reduceLT, Int.reduceToNat, Nat.reduceAdd, Nat.reduceEqDiff, Nat.reduceLeDiff, reduceCtorEq, ↓reduceIte]
        refine dcallI_d a6 (wf_push (wf_push (wf_push (wf_push q3)))) ?_
        simp -implicitDefEqProofs only [q4, q5, n0, n1, n2, n3, n4, n5, n6, n7, n8, n9, n10, n11, n12, n13, l0, l1, l2, l3, l4, l5, Bool.false_and, Complex.parts, Complex.pseudo, Part.comb, Part.l, Simple.kind, Simple.name, Simple.value, Simple.a, Simple.b, Simple.l, cellsL, go_sem, Int.reduceLE, Int.reduceToNat, Nat.reduceAdd, Nat.reduceEqDiff, Nat.reduceLeDiff, reduceCtorEq, ↓reduceIte]
        refine andI_intro (by (simp [indepB, indep1, apart1, Nat.testBit_eq_decide_div_mod_eq]; repeat' (first | omega | (intro x hx; omega) | refine And.intro ?_ ?_))) ?_
        simp -implicitDefEqProofs only [q4, q5, n0, n1, n2, n3, n4, n5, n6, n7, n8, n9, n10, n11, n12, n13, l0, l1, l2, l3, l4, l5, Bool.false_and, go_sem, Int.reduceAdd, Int.reduceLE, Int.reduceNeg, Nat.reduceEqDiff, Nat.reduceLeDiff, Nat.reduceSub, reduceCtorEq, ↓reduceIte]
        exact ⟨6, by omega, rfl, by omega, by omega, wf_push (wf_push (wf_push (wf_push q3)))⟩
      · simp -implicitDefEqProofs only [q4, wk, go_sem, Int.reduceLT, Nat.reduceEqDiff, reduceCtorEq, ↓reduceIte]
        exact ⟨k + 1, by omega, rfl, by omega, by omega, q3⟩
    · simp only [Bool.false_and, Bool.true_and] at hwant
      simp -implicitDefEqProofs only [hx, go_sem, Nat.reduceEqDiff, reduceCtorEq, ↓reduceIte]
      refine dcallI_pure a4 ?_
      simp -implicitDefEqProofs only [hx, go_sem, Nat.reduceEqDiff, reduceCtorEq, ↓reduceIte]
      refine dcallI_pure a5 ?_
      simp -implicitDefEqProofs only [hx, hB1, hB2, pos, el0, go_sem, Int.reduceGT, Nat.reduceAdd, Nat.reduceEqDiff, Nat.reduceLeDiff, ↓reduceIte]
      refine andI_intro (by (first | omega | (simp [indepB, indep1, apart1, Nat.testBit_eq_decide_div_mod_eq]; done) | (simp [indepB, indep1, apart1, Nat.testBit_eq_decide_div_mod_eq]; omega) | kernel_rfl)) ?_
      simp -implicitDefEqProofs only [hx, h3, hB1, hB2, pos, el0, go_sem]
      refine LoopI_sl (fun i : Nat => 6 - i) (fun i => [(0, Enc.av p), (1, Enc.av name), (5, .sl 0 6 0 6 1), (6, .int .i64 k), (12, .sl m 6 0 6 1), (13, .int .i64 i)])
        (fun i s => i ≤ 6 ∧ m + 1 ≤ s.next ∧ Wf s ∧ AX.look 0 s.heap = some (.cells 6 [.int .i64 1, .int .i64 2, .int .i64 3, .int .i64 4, .int .i64 5, .int .i64 8] false) ∧ AX.look m s.heap = some (.cells 6 [.bool true, .bool B1, .bool B2, .bool B3, .bool j2, .bool false] false)) 0 ?_ ?_
      · simp -implicitDefEqProofs only [h3, m0, go_sem, Nat.reduceEqDiff, reduceCtorEq, ↓reduceIte]
        exact wf_push hwf
      rintro i ρ ⟨g2, q⟩ ⟨q1, q2, q3, q4, q5⟩
      dsimp only at q2 q4 q5
      have n0 : (q = 0) = False := eq_false (by omega)
      have n1 : (q = m) = False := eq_false (by omega)
      have n2 : (q + 1 = 0) = False := eq_false (by omega)
      have n3 : (q + 1 = m) = False := eq_false (by omega)
      have n4 : (q + 1 = q) = False := eq_false (by omega)
      have n5 : (q + 1 + 1 = 0) = False := eq_false (by omega)
      have n6 : (q + 1 + 1 = m) = False := eq_false (by omega)
      have n7 : (q + 1 + 1 = q) = False := eq_false (by omega)
      have n8 : (q + 1 + 1 = q + 1) = False := eq_false (by omega)
      have n9 : (q + 1 + 1 + 1 = 0) = False := eq_false (by omega)
      have n10 : (q + 1 + 1 + 1 = m) = False := eq_false (by omega)
      have n11 : (q + 1 + 1 + 1 = q) = False := eq_false (by omega)
      have n12 : (q + 1 + 1 + 1 = q + 1) = False := eq_false (by omega)
      have n13 : (q + 1 + 1 + 1 = q + 1 + 1) = False := eq_false (by omega)
      have l0 : (0 < q + 1 + 1 + 1 + 1) = True := eq_true (by omega)
      have l1 : (m < q + 1 + 1 + 1 + 1) = True := eq_true (by omega)
      have l2 : (q < q + 1 + 1 + 1 + 1) = True := eq_true (by omega)
      have l3 : (q + 1 < q + 1 + 1 + 1 + 1) = True := eq_true (by omega)
      have l4 : (q + 1 + 1 < q + 1 + 1 + 1 + 1) = True := eq_true (by omega)
      have l5 : (q + 1 + 1 + 1 < q + 1 + 1 + 1 + 1) = True := eq_true (by omega)
      rcases (by omega : i = 0 ∨ i = 1 ∨ i = 2 ∨ i = 3 ∨ i = 4 ∨ i = 5 ∨ i = 6) with rfl | rfl | rfl | rfl | rfl | rfl | rfl
      · skip
        have hI := hwant 0 1 true rfl rfl
        have a6 := (w_Is p [] hp (by simp) k (one 1 name) (one_ok (by omega) hn)).at (v' := .bool (true && elemB p k)) (by rw [show (one 1 name).parts = _ from rfl, hI])
        simp -implicitDefEqProofs only [q4, q5, n0, n1, n2, n3, n4, n5, n6, n7, n8, n9, n10, n11, n12, n13, l0, l1, l2, l3, l4, l5, Bool.false_and, go_sem, Int.reduceLT, Int.reduceToNat, Nat.reduceAdd, Nat.reduceEqDiff, Nat.reduceLeDiff, reduceCtorEq, ↓reduceIte]
        refine dcallI_d a6 (wf_push (wf_push (wf_push (wf_push q3)))) ?_
        simp -implicitDefEqProofs only [q4, q5, n0, n1, n2, n3, n4, n5, n6, n7, n8, n9, n10, n11, n12, n13, l0, l1, l2, l3, l4, l5, Bool.false_and, Complex.parts, Complex.pseudo, Part.comb, Part.l, Simple.kind, Simple.name, Simple.value, Simple.a, Simple.b, Simple.l, cellsL, go_sem, Int.reduceToNat, Nat.reduceAdd, Nat.reduceEqDiff, reduceCtorEq, ↓reduceIte]
        refine dcallI_pure (w_rElement p k) ?_
        simp -implicitDefEqProofs only [q4, q5, n0, n1, n2, n3, n4, n5, n6, n7, n8, n9, n10, n11, n12, n13, l0, l1, l2, l3, l4, l5, Bool.false_and, go_sem, Nat.reduceEqDiff, ↓reduceIte]
        refine andI_intro (by (simp [indepB, indep1, apart1, Nat.testBit_eq_decide_div_mod_eq]; repeat' (first | omega | (intro x hx; omega) | refine And.intro ?_ ?_))) ?_
        simp -implicitDefEqProofs only [q4, q5, n0, n1, n2, n3, n4, n5, n6, n7, n8, n9, n10, n11, n12, n13, l0, l1, l2, l3, l4, l5, Bool.false_and, go_sem, Int.reduceAdd, Int.reduceLE, Int.reduceNeg, Nat.reduceEqDiff, Nat.reduceLeDiff, Nat.reduceSub, reduceCtorEq, ↓reduceIte]
        exact ⟨1, by omega, rfl, by omega, by omega, wf_push (wf_push (wf_push (wf_push q3)))⟩
      · cases B1
        · skip
          have hI := hwant 1 2 false rfl rfl
          have a6 := (w_Is p [] hp (by simp) k (one 2 name) (one_ok (by omega) hn)).at (v' := .bool (false && elemB p k)) (by rw [show (one 2 name).parts = _ from rfl, hI])
          simp -implicitDefEqProofs only [q4, q5, n0, n1, n2, n3, n4, n5, n6, n7, n8, n9, n10, n11, n12, n13, l0, l1, l2, l3, l4, l5, Bool.false_and, go_sem, Int.reduceLE, Int.reduceLT, Int.reduceToNat, Nat.reduceAdd, Nat.reduceEqDiff, Nat.reduceLT, Nat.reduceLeDiff, reduceCtorEq, ↓reduceIte]
          refine dcallI_d a6 (wf_push (wf_push (wf_push (wf_push q3)))) ?_
          simp -implicitDefEqProofs only [q4, q5, n0, n1, n2, n3, n4, n5, n6, n7, n8, n9, n10, n11, n12, n13, l0, l1, l2, l3, l4, l5, Bool.false_and, Complex.parts, Complex.pseudo, Part.comb, Part.l, Simple.kind, Simple.name, Simple.value, Simple.a, Simple.b, Simple.l, cellsL, go_sem, Int.reduceLE, Int.reduceToNat, Nat.reduceAdd, Nat.reduceEqDiff, Nat.reduceLT, Nat.reduceLeDiff, reduceCtorEq, ↓reduceIte]
          refine andI_intro (by (simp [indepB, indep1, apart1, Nat.testBit_eq_decide_div_mod_eq]; repeat' (first | omega | (intro x hx; omega) | refine And.intro ?_ ?_))) ?_
          simp -implicitDefEqProofs only [q4, q5, n0, n1, n2, n3, n4, n5, n6, n7, n8, n9, n10, n11, n12, n13, l0, l1, l2, l3, l4, l5, Bool.false_and, go_sem, Int.reduceAdd, Int.reduceLE, Int.reduceNeg, Nat.reduceEqDiff, Nat.reduceLeDiff, Nat.reduceSub, reduceCtorEq, ↓reduceIte]
          exact ⟨2, by omega, rfl, by omega, by omega, wf_push (wf_push (wf_push (wf_push q3)))⟩
        · skip
          have hI := hwant 1 2 true rfl rfl
          have a6 := (w_Is p [] hp (by simp) k (one 2 name) (one_ok (by omega) hn)).at (v' := .bool (true && elemB p k)) (by rw [show (one 2 name).parts = _ from rfl, hI])
          simp -implicitDefEqProofs only [q4, q5, n0, n1, n2, n3, n4, n5, n6, n7, n8, n9, n10, n11, n12, n13, l0, l1, l2, l3, l4, l5, Bool.false_and, go_sem, Int.reduceLE, Int.reduceLT, Int.reduceToNat, Nat.reduceAdd, Nat.reduceEqDiff, Nat.reduceLT, Nat.reduceLeDiff, reduceCtorEq, ↓reduceIte]
          refine dcallI_d a6 (wf_push (wf_push (wf_push (wf_push q3)))) ?_
          simp -implicitDefEqProofs only [q4, q5, n0, n1, n2, n3, n4, n5, n6, n7, n8, n9, n10, n11, n12, n13, l0, l1, l2, l3, l4, l5, Bool.false_and, Complex.parts, Complex.pseudo, Part.comb, Part.l, Simple.kind, Simple.name, Simple.value, Simple.a, Simple.b, Simple.l, cellsL, go_sem, Int.reduceLE, Int.reduceToNat, Nat.reduceAdd, Nat.reduceEqDiff, Nat.reduceLT, Nat.reduceLeDiff, reduceCtorEq, ↓reduceIte]
          refine dcallI_pure (w_rElement p k) ?_
          simp -implicitDefEqProofs only [q4, q5, n0, n1, n2, n3, n4, n5, n6, n7, n8, n9, n10, n11, n12, n13, l0, l1, l2, l3, l4, l5, Bool.false_and, go_sem, Nat.reduceEqDiff, ↓reduceIte]
          refine andI_intro (by (simp [indepB, indep1, apart1, Nat.testBit_eq_decide_div_mod_eq]; repeat' (first | omega | (intro x hx; omega) | refine And.intro ?_ ?_))) ?_
          simp -implicitDefEqProofs only [q4, q5, n0, n1, n2, n3, n4, n5, n6, n7, n8, n9, n10, n11, n12, n13, l0, l1, l2, l3, l4, l5, Bool.false_and, go_sem, Int.reduceAdd, Int.reduceLE, Int.reduceNeg, Nat.reduceEqDiff, Nat.reduceLeDiff, Nat.reduceSub, reduceCtorEq, ↓reduceIte]
          exact ⟨2, by omega, rfl, by omega, by omega, wf_push (wf_push (wf_push (wf_push q3)))⟩
      · cases B2
        · skip
          have hI := hwant 2 3 false rfl rfl
          have a6 := (w_Is p [] hp (by simp) k (one 3 name) (one_ok (by omega) hn)).at (v' := .bool (false && elemB p k)) (by rw [show (one 3 name).parts = _ from rfl, hI])
          simp -implicitDefEqProofs only [q4, q5, n0, n1, n2, n3, n4, n5, n6, n7, n8, n9, n10, n11, n12, n13, l0, l1, l2, l3, l4, l5, Bool.false_and, go_sem, Int.reduceLE, Int.reduceLT, Int.reduceToNat, Nat.reduceAdd, Nat.reduceEqDiff, Nat.reduceLT, Nat.reduceLeDiff, reduceCtorEq, ↓reduceIte]
          refine dcallI_d a6 (wf_push (wf_push (wf_push (wf_push q3)))) ?_
          simp -implicitDefEqProofs only [q4, q5, n0, n1, n2, n3, n4, n5, n6, n7, n8, n9, n10, n11, n12, n13, l0, l1, l2, l3, l4, l5, Bool.false_and, Complex.parts, Complex.pseudo, Part.comb, Part.l, Simple.kind, Simple.name, Simple.value, Simple.a, Simple.b, Simple.l, cellsL, go_sem, Int.reduceLE, Int.reduceToNat, Nat.reduceAdd, Nat.reduceEqDiff, Nat.reduceLT, Nat.reduceLeDiff, reduceCtorEq, ↓reduceIte]
          refine andI_intro (by (simp [indepB, indep1, apart1, Nat.testBit_eq_decide_div_mod_eq]; repeat' (first | omega | (intro x hx; omega) | refine And.intro ?_ ?_))) ?_
          simp -implicitDefEqProofs only [q4, q5, n0, n1, n2, n3, n4, n5, n6, n7, n8, n9, n10, n11, n12, n13, l0, l1, l2, l3, l4, l5, Bool.false_and, go_sem, Int.reduceAdd, Int.reduceLE, Int.reduceNeg, Nat.reduceEqDiff, Nat.reduceLeDiff, Nat.reduceSub, reduceCtorEq, ↓reduceIte]
          exact ⟨3, by omega, rfl, by omega, by omega, wf_push (wf_push (wf_push (wf_push q3)))⟩
        · skip
          have hI := hwant 2 3 true rfl rfl
          have a6 := (w_Is p [] hp (by simp) k (one 3 name) (one_ok (by omega) hn)).at (v' := .bool (true && elemB p k)) (by rw [show (one 3 name).parts = _ from rfl, hI])
          simp -implicitDefEqProofs only [q4, q5, n0, n1, n2, n3, n4, n5, n6, n7, n8, n9, n10, n11, n12, n13, l0, l1, l2, l3, l4, l5, Bool.false_and, go_sem, Int.reduceLE, Int.reduceLT, Int.reduceToNat, Nat.reduceAdd, Nat.reduceEqDiff, Nat.reduceLT, Nat.reduceLeDiff, reduceCtorEq, ↓reduceIte]
          refine dcallI_d a6 (wf_push (wf_push (wf_push (wf_push q3)))) ?_
          simp -implicitDefEqProofs only [q4, q5, n0, n1, n2, n3, n4, n5, n6, n7, n8, n9, n10, n11, n12, n13, l0, l1, l2, l3, l4, l5, Bool.false_and, Complex.parts, Complex.pseudo, Part.comb, Part.l, Simple.kind, Simple.name, Simple.value, Simple.a, Simple.b, Simple.l, cellsL, go_sem, Int.reduceLE, Int.reduceToNat, Nat.reduceAdd, Nat.reduceEqDiff, Nat.reduceLT, Nat.reduceLeDiff, reduceCtorEq, ↓reduceIte]
          refine dcallI_pure (w_rElement p k) ?_
          simp -implicitDefEqProofs only [q4, q5, n0, n1, n2, n3, n4, n5, n6, n7, n8, n9, n10, n11, n12, n13, l0, l1, l2, l3, l4, l5, Bool.false_and, go_sem, Nat.reduceEqDiff, ↓reduceIte]
          refine andI_intro (by (simp [indepB, indep1, apart1, Nat.testBit_eq_decide_div_mod_eq]; repeat' (first | omega | (intro x hx; omega) | refine And.intro ?_ ?_))) ?_
          simp -implicitDefEqProofs only [q4, q5, n0, n1, n2, n3, n4, n5, n6, n7, n8, n9, n10, n11, n12, n13, l0, l1, l2, l3, l4, l5, Bool.false_and, go_sem, Int.reduceAdd, Int.reduceLE, Int.reduceNeg, Nat.reduceEqDiff, Nat.reduceLeDiff, Nat.reduceSub, reduceCtorEq, ↓reduceIte]
          exact ⟨3, by omega, rfl, by omega, by omega, wf_push (wf_push (wf_push (wf_push q3)))⟩
      · cases B3
        · skip
          have hI := hwant 3 4 false rfl rfl
          have a6 := (w_Is p [] hp (by simp) k (one 4 name) (one_ok (by omega) hn)).at (v' := .bool (false && elemB p k)) (by rw [show (one 4 name).parts = _ from rfl, hI])
          simp -implicitDefEqProofs only [q4, q5, n0, n1, n2, n3, n4, n5, n6, n7, n8, n9, n10, n11, n12, n13, l0, l1, l2, l3, l4, l5, Bool.false_and, go_sem, Int.reduceLE, Int.reduceLT, Int.reduceToNat, Nat.reduceAdd, Nat.reduceEqDiff, Nat.reduceLT, Nat.reduceLeDiff, reduceCtorEq, ↓reduceIte]
          refine dcallI_d a6 (wf_push (wf_push (wf_push (wf_push q3)))) ?_
          simp -implicitDefEqProofs only [q4, q5, n0, n1, n2, n3, n4, n5, n6, n7, n8, n9, n10, n11, n12, n13, l0, l1, l2, l3, l4, l5, Bool.false_and, Complex.parts, Complex.pseudo, Part.comb, Part.l, Simple.kind, Simple.name, Simple.value, Simple.a, Simple.b, Simple.l, cellsL, go_sem, Int.reduceLE, Int.reduceToNat, Nat.reduceAdd, Nat.reduceEqDiff, Nat.reduceLT, Nat.reduceLeDiff, reduceCtorEq, ↓reduceIte]
          refine andI_intro (by (simp [indepB, indep1, apart1, Nat.testBit_eq_decide_div_mod_eq]; repeat' (first | omega | (intro x hx; omega) | refine And.intro ?_ ?_))) ?_
          simp -implicitDefEqProofs only [q4, q5, n0, n1, n2, n3, n4, n5, n6, n7, n8, n9, n10, n11, n12, n13, l0, l1, l2, l3, l4, l5, Bool.false_and, go_sem, Int.reduceAdd, Int.reduceLE, Int.reduceNeg, Nat.reduceEqDiff, Nat.reduceLeDiff, Nat.reduceSub, reduceCtorEq, ↓reduceIte]
          exact ⟨4, by omega, rfl, by omega, by omega, wf_push (wf_push (wf_push (wf_push q3)))⟩
        · skip
          have hI := hwant 3 4 true rfl rfl
          have a6 := (w_Is p [] hp (by simp) k (one 4 name) (one_ok (by omega) hn)).at (v' := .bool (true && elemB p k)) (by rw [show (one 4 name).parts = _ from rfl, hI])
          simp -implicitDefEqProofs only [q4, q5, n0, n1, n2, n3, n4, n5, n6, n7, n8, n9, n10, n11, n12, n13, l0, l1, l2, l3, l4, l5, Bool.false_and, go_sem, Int.reduceLE, Int.reduceLT, Int.reduceToNat, Nat.reduceAdd, Nat.reduceEqDiff, Nat.reduceLT, Nat.reduceLeDiff, reduceCtorEq, ↓reduceIte]
          refine dcallI_d a6 (wf_push (wf_push (wf_push (wf_push q3)))) ?_
          simp -implicitDefEqProofs only [q4, q5, n0, n1, n2, n3, n4, n5, n6, n7, n8, n9, n10, n11, n12, n13, l0, l1, l2, l3, l4, l5, Bool.false_and, Complex.parts, Complex.pseudo, Part.comb, Part.l, Simple.kind, Simple.name, Simple.value, Simple.a, Simple.b, Simple.l, cellsL, go_sem, Int.reduceLE, Int.reduceToNat, Nat.reduceAdd, Nat.reduceEqDiff, Nat.reduceLT, Nat.reduceLeDiff, reduceCtorEq, ↓reduceIte]
          refine dcallI_pure (w_rElement p k) ?_
          simp -implicitDefEqProofs only [q4, q5, n0, n1, n2, n3, n4, n5, n6, n7, n8, n9, n10, n11, n12, n13, l0, l1, l2, l3, l4, l5, Bool.false_and, go_sem, Nat.reduceEqDiff, ↓reduceIte]
          refine andI_intro (by (simp [indepB, indep1, apart1, Nat.testBit_eq_decide_div_mod_eq]; repeat' (first | omega | (intro x hx; omega) | refine And.intro ?_ ?_))) ?_
          simp -implicitDefEqProofs only [q4, q5, n0, n1, n2, n3, n4, n5, n6, n7, n8, n9, n10, n11, n12, n13, l0, l1, l2, l3, l4, l5, Bool.false_and, go_sem, Int.reduceAdd, Int.reduceLE, Int.reduceNeg, Nat.reduceEqDiff, Nat.reduceLeDiff, Nat.reduceSub, reduceCtorEq, ↓reduceIte]
          exact ⟨4, by omega, rfl, by omega, by omega, wf_push (wf_push (wf_push (wf_push q3)))⟩
      · cases j2
        · skip
          have hI := hwant 4 5 false rfl rfl
          have a6 := (w_Is p [] hp (by simp) k (one 5 name) (one_ok (by omega) hn)).at (v' := .bool (false && elemB p k)) (by rw [show (one 5 name).parts = _ from rfl, hI])
          simp -implicitDefEqProofs only [q4, q5, n0, n1, n2, n3, n4, n5, n6, n7, n8, n9, n10, n11, n12, n13, l0, l1, l2, l3, l4, l5, Bool.false_and, go_sem, Int.reduceLE, Int.reduceLT, Int.reduceToNat, Nat.reduceAdd, Nat.reduceEqDiff, Nat.reduceLT, Nat.reduceLeDiff, reduceCtorEq, ↓reduceIte]
          refine dcallI_d a6 (wf_push (wf_push (wf_push (wf_push q3)))) ?_
          simp -implicitDefEqProofs only [q4, q5, n0, n1, n2, n3, n4, n5, n6, n7, n8, n9, n10, n11, n12, n13, l0, l1, l2, l3, l4, l5, Bool.false_and, Complex.parts, Complex.pseudo, Part.comb, Part.l, Simple.kind, Simple.name, Simple.value, Simple.a, Simple.b, Simple.l, cellsL, go_sem, Int.reduceLE, Int.reduceToNat, Nat.reduceAdd, Nat.reduceEqDiff, Nat.reduceLT, Nat.reduceLeDiff, reduceCtorEq, ↓reduceIte]
          refine andI_intro (by (simp [indepB, indep1, apart1, Nat.testBit_eq_decide_div_mod_eq]; repeat' (first | omega | (intro x hx; omega) | refine And.intro ?_ ?_))) ?_
          simp -implicitDefEqProofs only [q4, q5, n0, n1, n2, n3, n4, n5, n6, n7, n8, n9, n10, n11, n12, n13, l0, l1, l2, l3, l4, l5, Bool.false_and, go_sem, Int.reduceAdd, Int.reduceLE, Int.reduceNeg, Nat.reduceEqDiff, Nat.reduceLeDiff, Nat.reduceSub, reduceCtorEq, ↓reduceIte]
          exact ⟨5, by omega, rfl, by omega, by omega, wf_push (wf_push (wf_push (wf_push q3)))⟩
        · skip
          have hI := hwant 4 5 true rfl rfl
          have a6 := (w_Is p [] hp (by simp) k (one 5 name) (one_ok (by omega) hn)).at (v' := .bool (true && elemB p k)) (by rw [show (one 5 name).parts = _ from rfl, hI])
          simp -implicitDefEqProofs only [q4, q5, n0, n1, n2, n3, n4, n5, n6, n7, n8, n9, n10, n11, n12, n13, l0, l1, l2, l3, l4, l5, Bool.false_and, go_sem, Int.reduceLE, Int.reduceLT, Int.reduceToNat, Nat.reduceAdd, Nat.reduceEqDiff, Nat.reduceLT, Nat.reduceLeDiff, reduceCtorEq, ↓reduceIte]
          refine dcallI_d a6 (wf_push (wf_push (wf_push (wf_push q3)))) ?_
          simp -implicitDefEqProofs only [q4, q5, n0, n1, n2, n3, n4, n5, n6, n7, n8, n9, n10, n11, n12, n13, l0, l1, l2, l3, l4, l5, Bool.false_and, Complex.parts, Complex.pseudo, Part.comb, Part.l, Simple.kind, Simple.name, Simple.value, Simple.a, Simple.b, Simple.l, cellsL, go_sem, Int.reduceLE, Int.reduceToNat, Nat.reduceAdd, Nat.reduceEqDiff, Nat.reduceLT, Nat.reduceLeDiff, reduceCtorEq, ↓reduceIte]
          refine dcallI_pure (w_rElement p k) ?_
          simp -implicitDefEqProofs only [q4, q5, n0, n1, n2, n3, n4, n5, n6, n7, n8, n9, n10, n11, n12, n13, l0, l1, l2, l3, l4, l5, Bool.false_and, go_sem, Nat.reduceEqDiff, ↓reduceIte]
          refine andI_intro (by (simp [indepB, indep1, apart1, Nat.testBit_eq_decide_div_mod_eq]; repeat' (first | omega | (intro x hx; omega) | refine And.intro ?_ ?_))) ?_
          simp -implicitDefEqProofs only [q4, q5, n0, n1, n2, n3, n4, n5, n6, n7, n8, n9, n10, n11, n12, n13, l0, l1, l2, l3, l4, l5, Bool.false_and, go_sem, Int.reduceAdd, Int.reduceLE, Int.reduceNeg, Nat.reduceEqDiff, Nat.reduceLeDiff, Nat.reduceSub, reduceCtorEq, ↓reduceIte]
          exact ⟨5, by omega, rfl, by omega, by omega, wf_push (wf_push (wf_push (wf_push q3)))⟩
      · skip
        have hI := hwant 5 8 false rfl rfl
        have a6 := (w_Is p [] hp (by simp) k (one 8 name) (one_ok (by omega) hn)).at (v' := .bool (false && elemB p k)) (by rw [show (one 8 name).parts = _ from rfl, hI])
        simp -implicitDefEqProofs only [q4, q5, n0, n1, n2, n3, n4, n5, n6, n7, n8, n9, n10, n11, n12, n13, l0, l1, l2, l3, l4, l5, Bool.false_and, go_sem, Int.reduceLE, Int.reduceLT, Int.reduceToNat, Nat.reduceAdd, Nat.reduceEqDiff, Nat.reduceLeDiff, reduceCtorEq, ↓reduceIte]
        refine dcallI_d a6 (wf_push (wf_push (wf_push (wf_push q3)))) ?_
        simp -implicitDefEqProofs only [q4, q5, n0, n1, n2, n3, n4, n5, n6, n7, n8, n9, n10, n11, n12, n13, l0, l1, l2, l3, l4, l5, Bool.false_and, Complex.parts, Complex.pseudo, Part.comb, Part.l, Simple.kind, Simple.name, Simple.value, Simple.a, Simple.b, Simple.l, cellsL, go_sem, Int.reduceLE, Int.reduceToNat, Nat.reduceAdd, Nat.reduceEqDiff, Nat.reduceLeDiff, reduceCtorEq, ↓reduceIte]
        refine andI_intro (by (simp [indepB, indep1, apart1, Nat.testBit_eq_decide_div_mod_eq]; repeat' (first | omega | (intro x hx; omega) | refine And.intro ?_ ?_))) ?_
        simp -implicitDefEqProofs only [q4, q5, n0, n1, n2, n3, n4, n5, n6, n7, n8, n9, n10, n11, n12, n13, l0, l1, l2, l3, l4, l5, Bool.false_and, go_sem, Int.reduceAdd, Int.reduceLE, Int.reduceNeg, Nat.reduceEqDiff, Nat.reduceLeDiff, Nat.reduceSub, reduceCtorEq, ↓reduceIte]
        exact ⟨6, by omega, rfl, by omega, by omega, wf_push (wf_push (wf_push (wf_push q3)))⟩
      · simp -implicitDefEqProofs only [q4, wk, go_sem, Int.reduceLT, Nat.reduceEqDiff, reduceCtorEq, ↓reduceIte]
        exact ⟨k + 1, by omega, rfl, by omega, by omega, q3⟩
    · simp only [Bool.false_and, Bool.true_and] at hwant
      simp -implicitDefEqProofs only [hx, go_sem, Nat.reduceEqDiff, reduceCtorEq, ↓reduceIte]
      refine dcallI_pure a4 ?_
      simp -implicitDefEqProofs only [hx, go_sem, Nat.reduceEqDiff, reduceCtorEq, ↓reduceIte]
      refine dcallI_pure a5 ?_
      simp -implicitDefEqProofs only [hx, hB1, hB2, pos, el0, go_sem, Int.reduceToNat, Nat.reduceAdd, Nat.reduceEqDiff, Nat.reduceLeDiff, reduceCtorEq, ↓reduceIte]
      refine andI_intro (by (first | omega | (simp [indepB, indep1, apart1, Nat.testBit_eq_decide_div_mod_eq]; done) | (simp [indepB, indep1, apart1, Nat.testBit_eq_decide_div_mod_eq]; omega) | kernel_rfl)) ?_
      simp -implicitDefEqProofs only [hx, h3, hB1, hB2, pos, el0, go_sem]
      generalize (a0 == (k : Int)) = B5 at hwant
      refine LoopI_sl (fun i : Nat => 6 - i) (fun i => [(0, Enc.av p), (1, Enc.av name), (5, .sl 0 6 0 6 1), (6, .int .i64 k), (12, .sl m 6 0 6 1), (13, .int .i64 i)])
        (fun i s => i ≤ 6 ∧ m + 1 ≤ s.next ∧ Wf s ∧ AX.look 0 s.heap = some (.cells 6 [.int .i64 1, .int .i64 2, .int .i64 3, .int .i64 4, .int .i64 5, .int .i64 8] false) ∧ AX.look m s.heap = some (.cells 6 [.bool true, .bool B1, .bool false, .bool B3, .bool j2, .bool B5] false)) 0 ?_ ?_
      · simp -implicitDefEqProofs only [h3, m0, go_sem, Nat.reduceEqDiff, reduceCtorEq, ↓reduceIte]
        exact wf_push hwf
      rintro i ρ ⟨g2, q⟩ ⟨q1, q2, q3, q4, q5⟩
      dsimp only at q2 q4 q5
      have n0 : (q = 0) = False := eq_false (by omega)
      have n1 : (q = m) = False := eq_false (by omega)
      have n2 : (q + 1 = 0) = False := eq_false (by omega)
      have n3 : (q + 1 = m) = False := eq_false (by omega)
      have n4 : (q + 1 = q) = False := eq_false (by omega)
      have n5 : (q + 1 + 1 = 0) = False := eq_false (by omega)
      have n6 : (q + 1 + 1 = m) = False := eq_false (by omega)
      have n7 : (q + 1 + 1 = q) = False := eq_false (by omega)
      have n8 : (q + 1 + 1 = q + 1) = False := eq_false (by omega)
      have n9 : (q + 1 + 1 + 1 = 0) = False := eq_false (by omega)
      have n10 : (q + 1 + 1 + 1 = m) = False := eq_false (by omega)
      have n11 : (q + 1 + 1 + 1 = q) = False := eq_false (by omega)
      have n12 : (q + 1 + 1 + 1 = q + 1) = False := eq_false (by omega)
      have n13 : (q + 1 + 1 + 1 = q + 1 + 1) = False := eq_false (by omega)
      have l0 : (0 < q + 1 + 1 + 1 + 1) = True := eq_true (by omega)
      have l1 : (m < q + 1 + 1 + 1 + 1) = True := eq_true (by omega)
      have l2 : (q < q + 1 + 1 + 1 + 1) = True := eq_true (by omega)
      have l3 : (q + 1 < q + 1 + 1 + 1 + 1) = True := eq_true (by omega)
      have l4 : (q + 1 + 1 < q + 1 + 1 + 1 + 1) = True := eq_true (by omega)
      have l5 : (q + 1 + 1 + 1 < q + 1 + 1 + 1 + 1) = True := eq_true (by omega)
      rcases (by omega : i = 0 ∨ i = 1 ∨ i = 2 ∨ i = 3 ∨ i = 4 ∨ i = 5 ∨ i = 6) with rfl | rfl | rfl | rfl | rfl | rfl | rfl
      · skip
        have hI := hwant 0 1 true rfl rfl
        have a6 := (w_Is p [] hp (by simp) k (one 1 name) (one_ok (by omega) hn)).at (v' := .bool (true && elemB p k)) (by rw [show (one 1 name).parts = _ from rfl, hI])
        simp -implicitDefEqProofs only [q4, q5, n0, n1, n2, n3, n4, n5, n6, n7, n8, n9, n10, n11, n12, n13, l0, l1, l2, l3, l4, l5, Bool.false_and, go_sem, Int.reduceLT, Int.reduceToNat, Nat.reduceAdd, Nat.reduceEqDiff, Nat.reduceLeDiff, reduceCtorEq, ↓reduceIte]
        refine dcallI_d a6 (wf_push (wf_push (wf_push (wf_push q3)))) ?_
        simp -implicitDefEqProofs only [q4, q5, n0, n1, n2, n3, n4, n5, n6, n7, n8, n9, n10, n11, n12, n13, l0, l1, l2, l3, l4, l5, Bool.false_and, Complex.parts, Complex.pseudo, Part.comb, Part.l, Simple.kind, Simple.name, Simple.value, Simple.a, Simple.b, Simple.l, cellsL, go_sem, Int.reduceToNat, Nat.reduceAdd, Nat.reduceEqDiff, reduceCtorEq, ↓reduceIte]
        refine dcallI_pure (w_rElement p k) ?_
        simp -implicitDefEqProofs only [q4, q5, n0, n1, n2, n3, n4, n5, n6, n7, n8, n9, n10, n11, n12, n13, l0, l1, l2, l3, l4, l5, Bool.false_and, go_sem, Nat.reduceEqDiff, ↓reduceIte]
        refine andI_intro (by (simp [indepB, indep1, apart1, Nat.testBit_eq_decide_div_mod_eq]; repeat' (first | omega | (intro x hx; omega) | refine And.intro ?_ ?_))) ?_
        simp -implicitDefEqProofs only [q4, q5, n0, n1, n2, n3, n4, n5, n6, n7, n8, n9, n10, n11, n12, n13, l0, l1, l2, l3, l4, l5, Bool.false_and, go_sem, Int.reduceAdd, Int.reduceLE, Int.reduceNeg, Nat.reduceEqDiff, Nat.reduceLeDiff, Nat.reduceSub, reduceCtorEq, ↓reduceIte]
        exact ⟨1, by omega, rfl, by omega, by omega, wf_push (wf_push (wf_push (wf_push q3)))⟩
      · cases B1
        · skip
          have hI := hwant 1 2 false rfl rfl
          have a6 := (w_Is p [] hp (by simp) k (one 2 name) (one_ok (by omega) hn)).at (v' := .bool (false && elemB p k)) (by rw [show (one 2 name).parts = _ from rfl, hI])
          simp -implicitDefEqProofs only [q4, q5, n0, n1, n2, n3, n4, n5, n6, n7, n8, n9, n10, n11, n12, n13, l0, l1, l2, l3, l4, l5, Bool.false_and, go_sem, Int.reduceLE, Int.reduceLT, Int.reduceToNat, Nat.reduceAdd, Nat.reduceEqDiff, Nat.reduceLT, Nat.reduceLeDiff, reduceCtorEq, ↓reduceIte]
          refine dcallI_d a6 (wf_push (wf_push (wf_push (wf_push q3)))) ?_
          simp -implicitDefEqProofs only [q4, q5, n0, n1, n2, n3, n4, n5, n6, n7, n8, n9, n10, n11, n12, n13, l0, l1, l2, l3, l4, l5, Bool.false_and, Complex.parts, Complex.pseudo, Part.comb, Part.l, Simple.kind, Simple.name, Simple.value, Simple.a, Simple.b, Simple.l, cellsL, go_sem, Int.reduceLE, Int.reduceToNat, Nat.reduceAdd, Nat.reduceEqDiff, Nat.reduceLT, Nat.reduceLeDiff, reduceCtorEq, ↓reduceIte]
          refine andI_intro (by (simp [indepB, indep1, apart1, Nat.testBit_eq_decide_div_mod_eq]; repeat' (first | omega | (intro x hx; omega) | refine And.intro ?_ ?_))) ?_
          simp -implicitDefEqProofs only [q4, q5, n0, n1, n2, n3, n4, n5, n6, n7, n8, n9, n10, n11, n12, n13, l0, l1, l2, l3, l4, l5, Bool.false_and, go_sem, Int.reduceAdd, Int.reduceLE, Int.reduceNeg, Nat.reduceEqDiff, Nat.reduceLeDiff, Nat.reduceSub, reduceCtorEq, ↓reduceIte]
          exact ⟨2, by omega, rfl, by omega, by omega, wf_push (wf_push (wf_push (wf_push q3)))⟩
        · skip
          have hI := hwant 1 2 true rfl rfl
          have a6 := (w_Is p [] hp (by simp) k (one 2 name) (one_ok (by omega) hn)).at (v' := .bool (true && elemB p k)) (by rw [show (one 2 name).parts = _ from rfl, hI])
          simp -implicitDefEqProofs only [q4, q5, n0, n1, n2, n3, n4, n5, n6, n7, n8, n9, n10, n11, n12, n13, l0, l1, l2, l3, l4, l5, Bool.false_and, go_sem, Int.reduceLE, Int.reduceLT, Int.reduceToNat, Nat.reduceAdd, Nat.reduceEqDiff, Nat.reduceLT, Nat.reduceLeDiff, reduceCtorEq, ↓reduceIte]
          refine dcallI_d a6 (wf_push (wf_push (wf_push (wf_push q3)))) ?_
          simp -implicitDefEqProofs only [q4, q5, n0, n1, n2, n3, n4, n5, n6, n7, n8, n9, n10, n11, n12, n13, l0, l1, l2, l3, l4, l5, Bool.false_and, Complex.parts, Complex.pseudo, Part.comb, Part.l, Simple.kind, Simple.name, Simple.value, Simple.a, Simple.b, Simple.l, cellsL, go_sem, Int.reduceLE, Int.reduceToNat, Nat.reduceAdd, Nat.reduceEqDiff, Nat.reduceLT, Nat.reduceLeDiff, reduceCtorEq, ↓reduceIte]
          refine dcallI_pure (w_rElement p k) ?_
          simp -implicitDefEqProofs only [q4, q5, n0, n1, n2, n3, n4, n5, n6, n7, n8, n9, n10, n11, n12, n13, l0, l1, l2, l3, l4, l5, Bool.false_and, go_sem, Nat.reduceEqDiff, ↓reduceIte]
          refine andI_intro (by (simp [indepB, indep1, apart1, Nat.testBit_eq_decide_div_mod_eq]; repeat' (first | omega | (intro x hx; omega) | refine And.intro ?_ ?_))) ?_
          simp -implicitDefEqProofs only [q4, q5, n0, n1, n2, n3, n4, n5, n6, n7, n8, n9, n10, n11, n12, n13, l0, l1, l2, l3, l4, l5, Bool.false_and, go_sem, Int.reduceAdd, Int.reduceLE, Int.reduceNeg, Nat.reduceEqDiff, Nat.reduceLeDiff, Nat.reduceSub, reduceCtorEq, ↓reduceIte]
          exact ⟨2, by omega, rfl, by omega, by omega, wf_push (wf_push (wf_push (wf_push q3)))⟩
      · skip
        have hI := hwant 2 3 false rfl rfl
        have a6 := (w_Is p [] hp (by simp) k (one 3 name) (one_ok (by omega) hn)).at (v' := .bool (false && elemB p k)) (by rw [show (one 3 name).parts = _ from rfl, hI])
        simp -implicitDefEqProofs only [q4, q5, n0, n1, n2, n3, n4, n5, n6, n7, n8, n9, n10, n11, n12, n13, l0, l1, l2, l3, l4, l5, Bool.false_and, go_sem, Int.reduceLE, Int.reduceLT, Int.reduceToNat, Nat.reduceAdd, Nat.reduceEqDiff, Nat.reduceLT, Nat.reduceLeDiff, reduceCtorEq, ↓reduceIte]
        refine dcallI_d a6 (wf_push (wf_push (wf_push (wf_push q3)))) ?_
        simp -implicitDefEqProofs only [q4, q5, n0, n1, n2, n3, n4, n5, n6, n7, n8, n9, n10, n11, n12, n13, l0, l1, l2, l3, l4, l5, Bool.false_and, Complex.parts, Complex.pseudo, Part.comb, Part.l, Simple.kind, Simple.name, Simple.value, Simple.a, Simple.b, Simple.l, cellsL, go_sem, Int.reduceLE, Int.reduceToNat, Nat.reduceAdd, Nat.reduceEqDiff, Nat.reduceLT, Nat.reduceLeDiff, reduceCtorEq, ↓reduceIte]
        refine andI_intro (by (simp [indepB, indep1, apart1, Nat.testBit_eq_decide_div_mod_eq]; repeat' (first | omega | (intro x hx; omega) | refine And.intro ?_ ?_))) ?_
        simp -implicitDefEqProofs only [q4, q5, n0, n1, n2, n3, n4, n5, n6, n7, n8, n9, n10, n11, n12, n13, l0, l1, l2, l3, l4, l5, Bool.false_and, go_sem, Int.reduceAdd, Int.reduceLE, Int.reduceNeg, Nat.reduceEqDiff, Nat.reduceLeDiff, Nat.reduceSub, reduceCtorEq, ↓reduceIte]
        exact ⟨3, by omega, rfl, by omega, by omega, wf_push (wf_push (wf_push (wf_push q3)))⟩
      · cases B3
        · skip
          have hI := hwant 3 4 false rfl rfl
          have a6 := (w_Is p [] hp (by simp) k (one 4 name) (one_ok (by omega) hn)).at (v' := .bool (false && elemB p k)) (by rw [show (one 4 name).parts = _ from rfl, hI])
          simp -implicitDefEqProofs only [q4, q5, n0, n1, n2, n3, n4, n5, n6, n7, n8, n9, n10, n11, n12, n13, l0, l1, l2, l3, l4, l5, Bool.false_and, go_sem, Int.reduceLE, Int.reduceLT, Int.reduceToNat, Nat.reduceAdd, Nat.reduceEqDiff, Nat.reduceLT, Nat.reduceLeDiff, reduceCtorEq, ↓reduceIte]
          refine dcallI_d a6 (wf_push (wf_push (wf_push (wf_push q3)))) ?_
          simp -implicitDefEqProofs only [q4, q5, n0, n1, n2, n3, n4, n5, n6, n7, n8, n9, n10, n11, n12, n13, l0, l1, l2, l3, l4, l5, Bool.false_and, Complex.parts, Complex.pseudo, Part.comb, Part.l, Simple.kind, Simple.name, Simple.value, Simple.a, Simple.b, Simple.l, cellsL, go_sem, Int.reduceLE, Int.reduceToNat, Nat.reduceAdd, Nat.reduceEqDiff, Nat.reduceLT, Nat.reduceLeDiff, reduceCtorEq, ↓reduceIte]
          refine andI_intro (by (simp [indepB, indep1, apart1, Nat.testBit_eq_decide_div_mod_eq]; repeat' (first | omega | (intro x hx; omega) | refine And.intro ?_ ?_))) ?_
          simp -implicitDefEqProofs only [q4, q5, n0, n1, n2, n3, n4, n5, n6, n7, n8, n9, n10, n11, n12, n13, l0, l1, l2, l3, l4, l5, Bool.false_and, go_sem, Int.reduceAdd, Int.reduceLE, Int.reduceNeg, Nat.reduceEqDiff, Nat.reduceLeDiff, Nat.reduceSub, reduceCtorEq, ↓reduceIte]
          exact ⟨4, by omega, rfl, by omega, by omega, wf_push (wf_push (wf_push (wf_push q3)))⟩
        · skip
          have hI := hwant 3 4 true rfl rfl
          have a6 := (w_Is p [] hp (by simp) k (one 4 name) (one_ok (by omega) hn)).at (v' := .bool (true && elemB p k)) (by rw [show (one 4 name).parts = _ from rfl, hI])
          simp -implicitDefEqProofs only [q4, q5, n0, n1, n2, n3, n4, n5, n6, n7, n8, n9, n10, n11, n12, n13, l0, l1, l2, l3, l4, l5, Bool.false_and, go_sem, Int.reduceLE, Int.reduceLT, Int.reduceToNat, Nat.reduceAdd, Nat.reduceEqDiff, Nat.reduceLT, Nat.reduceLeDiff, reduceCtorEq, ↓reduceIte]
          refine dcallI_d a6 (wf_push (wf_push (wf_push (wf_push q3)))) ?_
          simp -implicitDefEqProofs only [q4, q5, n0, n1, n2, n3, n4, n5, n6, n7, n8, n9, n10, n11, n12, n13, l0, l1, l2, l3, l4, l5, Bool.false_and, Complex.parts, Complex.pseudo, Part.comb, Part.l, Simple.kind, Simple.name, Simple.value, Simple.a, Simple.b, Simple.l, cellsL, go_sem, Int.reduceLE, Int.reduceToNat, Nat.reduceAdd, Nat.reduceEqDiff, Nat.reduceLT, Nat.reduceLeDiff, reduceCtorEq, ↓reduceIte]
          refine dcallI_pure (w_rElement p k) ?_
          simp -implicitDefEqProofs only [q4, q5, n0, n1, n2, n3, n4, n5, n6, n7, n8, n9, n10, n11, n12, n13, l0, l1, l2, l3, l4, l5, Bool.false_and, go_sem, Nat.reduceEqDiff, ↓reduceIte]
          refine andI_intro (by (simp [indepB, indep1, apart1, Nat.testBit_eq_decide_div_mod_eq]; repeat' (first | omega | (intro x hx; omega) | refine And.intro ?_ ?_))) ?_
          simp -implicitDefEqProofs only [q4, q5, n0, n1, n2, n3, n4, n5, n6, n7, n8, n9, n10, n11, n12, n13, l0, l1, l2, l3, l4, l5, Bool.false_and, go_sem, Int.reduceAdd, Int.reduceLE, Int.reduceNeg, Nat.reduceEqDiff, Nat.reduceLeDiff, Nat.reduceSub, reduceCtorEq, ↓reduceIte]
          exact ⟨4, by omega, rfl, by omega, by omega, wf_push (wf_push (wf_push (wf_push q3)))⟩
      · cases j2
        · skip
          have hI := hwant 4 5 false rfl rfl
          have a6 := (w_Is p [] hp (by simp) k (one 5 name) (one_ok (by omega) hn)).at (v' := .bool (false && elemB p k)) (by rw [show (one 5 name).parts = _ from rfl, hI])
          simp -implicitDefEqProofs only [q4, q5, n0, n1, n2, n3, n4, n5, n6, n7, n8, n9, n10, n11, n12, n13, l0, l1, l2, l3, l4, l5, Bool.false_and, go_sem, Int.reduceLE, Int.reduceLT, Int.reduceToNat, Nat.reduceAdd, Nat.reduceEqDiff, Nat.reduceLT, Nat.reduceLeDiff, reduceCtorEq, ↓reduceIte]
          refine dcallI_d a6 (wf_push (wf_push (wf_push (wf_push q3)))) ?_
          simp -implicitDefEqProofs only [q4, q5, n0, n1, n2, n3, n4, n5, n6, n7, n8, n9, n10, n11, n12, n13, l0, l1, l2, l3, l4, l5, Bool.false_and, Complex.parts, Complex.pseudo, Part.comb, Part.l, Simple.kind, Simple.name, Simple.value, Simple.a, Simple.b, Simple.l, cellsL, go_sem, Int.reduceLE, Int.reduceToNat, Nat.reduceAdd, Nat.reduceEqDiff, Nat.reduceLT, Nat.reduceLeDiff, reduceCtorEq, ↓reduceIte]
          refine andI_intro (by (simp [indepB, indep1, apart1, Nat.testBit_eq_decide_div_mod_eq]; repeat' (first | omega | (intro x hx; omega) | refine And.intro ?_ ?_))) ?_
          simp -implicitDefEqProofs only [q4, q5, n0, n1, n2, n3, n4, n5, n6, n7, n8, n9, n10, n11, n12, n13, l0, l1, l2, l3, l4, l5, Bool.false_and, go_sem, Int.reduceAdd, Int.reduceLE, Int.reduceNeg, Nat.reduceEqDiff, Nat.reduceLeDiff, Nat.reduceSub, reduceCtorEq, ↓reduceIte]
          exact ⟨5, by omega, rfl, by omega, by omega, wf_push (wf_push (wf_push (wf_push q3)))⟩
        · skip
          have hI := hwant 4 5 true rfl rfl
          have a6 := (w_Is p [] hp (by simp) k (one 5 name) (one_ok (by omega) hn)).at (v' := .bool (true && elemB p k)) (by rw [show (one 5 name).parts = _ from rfl, hI])
          simp -implicitDefEqProofs only [q4, q5, n0, n1, n2, n3, n4, n5, n6, n7, n8, n9, n10, n11, n12, n13, l0, l1, l2, l3, l4, l5, Bool.false_and, go_sem, Int.reduceLE, Int.reduceLT, Int.reduceToNat, Nat.reduceAdd, Nat.reduceEqDiff, Nat.reduceLT, Nat.reduceLeDiff, reduceCtorEq, ↓reduceIte]
          refine dcallI_d a6 (wf_push (wf_push (wf_push (wf_push q3)))) ?_
          simp -implicitDefEqProofs only [q4, q5, n0, n1, n2, n3, n4, n5, n6, n7, n8, n9, n10, n11, n12, n13, l0, l1, l2, l3, l4, l5, Bool.false_and, Complex.parts, Complex.pseudo, Part.comb, Part.l, Simple.kind, Simple.name, Simple.value, Simple.a, Simple.b, Simple.l, cellsL, go_sem, Int.reduceLE, Int.reduceToNat, Nat.reduceAdd, Nat.reduceEqDiff, Nat.reduceLT, Nat.reduceLeDiff, reduceCtorEq, ↓reduceIte]
          refine dcallI_pure (w_rElement p k) ?_
          simp -implicitDefEqProofs only [q4, q5, n0, n1, n2, n3, n4, n5, n6, n7, n8, n9, n10, n11, n12, n13, l0, l1, l2, l3, l4, l5, Bool.false_and, go_sem, Nat.reduceEqDiff, ↓reduceIte]
          refine andI_intro (by (simp [indepB, indep1, apart1, Nat.testBit_eq_decide_div_mod_eq]; repeat' (first | omega | (intro x hx; omega) | refine And.intro ?_ ?_))) ?_
          simp -implicitDefEqProofs only [q4, q5, n0, n1, n2, n3, n4, n5, n6, n7, n8, n9, n10, n11, n12, n13, l0, l1, l2, l3, l4, l5, Bool.false_and, go_sem, Int.reduceAdd, Int.reduceLE, Int.reduceNeg, Nat.reduceEqDiff, Nat.reduceLeDiff, Nat.reduceSub, reduceCtorEq, ↓reduceIte]
          exact ⟨5, by omega, rfl, by omega, by omega, wf_push (wf_push (wf_push (wf_push q3)))⟩
      · cases B5
        · skip
          have hI := hwant 5 8 false rfl rfl
          have a6 := (w_Is p [] hp (by simp) k (one 8 name) (one_ok (by omega) hn)).at (v' := .bool (false && elemB p k)) (by rw [show (one 8 name).parts = _ from rfl, hI])
          simp -implicitDefEqProofs only [q4, q5, n0, n1, n2, n3, n4, n5, n6, n7, n8, n9, n10, n11, n12, n13, l0, l1, l2, l3, l4, l5, Bool.false_and, go_sem, Int.reduceLE, Int.reduceLT, Int.reduceToNat, Nat.reduceAdd, Nat.reduceEqDiff, Nat.reduceLeDiff, reduceCtorEq, ↓reduceIte]
          refine dcallI_d a6 (wf_push (wf_push (wf_push (wf_push q3)))) ?_
          simp -implicitDefEqProofs only [q4, q5, n0, n1, n2, n3, n4, n5, n6, n7, n8, n9, n10, n11, n12, n13, l0, l1, l2, l3, l4, l5, Bool.false_and, Complex.parts, Complex.pseudo, Part.comb, Part.l, Simple.kind, Simple.name, Simple.value, Simple.a, Simple.b, Simple.l, cellsL, go_sem, Int.reduceLE, Int.reduceToNat, Nat.reduceAdd, Nat.reduceEqDiff, Nat.reduceLeDiff, reduceCtorEq, ↓reduceIte]
          refine andI_intro (by (simp [indepB, indep1, apart1, Nat.testBit_eq_decide_div_mod_eq]; repeat' (first | omega | (intro x hx; omega) | refine And.intro ?_ ?_))) ?_
          simp -implicitDefEqProofs only [q4, q5, n0, n1, n2, n3, n4, n5, n6, n7, n8, n9, n10, n11, n12, n13, l0, l1, l2, l3, l4, l5, Bool.false_and, go_sem, Int.reduceAdd, Int.reduceLE, Int.reduceNeg, Nat.reduceEqDiff, Nat.reduceLeDiff, Nat.reduceSub, reduceCtorEq, ↓reduceIte]
          exact ⟨6, by omega, rfl, by omega, by omega, wf_push (wf_push (wf_push (wf_push q3)))⟩
        · skip
          have hI := hwant 5 8 true rfl rfl
          have a6 := (w_Is p [] hp (by simp) k (one 8 name) (one_ok (by omega) hn)).at (v' := .bool (true && elemB p k)) (by rw [show (one 8 name).parts = _ from rfl, hI])
          simp -implicitDefEqProofs only [q4, q5, n0, n1, n2, n3, n4, n5, n6, n7, n8, n9, n10, n11, n12, n13, l0, l1, l2, l3, l4, l5, Bool.false_and, go_sem, Int.reduceLE, Int.reduceLT, Int.reduceToNat, Nat.reduceAdd, Nat.reduceEqDiff, Nat.reduceLeDiff, reduceCtorEq, ↓reduceIte]
          refine dcallI_d a6 (wf_push (wf_push (wf_push (wf_push q3)))) ?_
          simp -implicitDefEqProofs only [q4, q5, n0, n1, n2, n3, n4, n5, n6, n7, n8, n9, n10, n11, n12, n13, l0, l1, l2, l3, l4, l5, Bool.false_and, Complex.parts, Complex.pseudo, Part.comb, Part.l, Simple.kind, Simple.name, Simple.value, Simple.a, Simple.b, Simple.l, cellsL, go_sem, Int.reduceLE, Int.reduceToNat, Nat.reduceAdd, Nat.reduceEqDiff, Nat.reduceLeDiff, reduceCtorEq, ↓reduceIte]
          refine dcallI_pure (w_rElement p k) ?_
          simp -implicitDefEqProofs only [q4, q5, n0, n1, n2, n3, n4, n5, n6, n7, n8, n9, n10, n11, n12, n13, l0, l1, l2, l3, l4, l5, Bool.false_and, go_sem, Nat.reduceEqDiff, ↓reduceIte]
          refine andI_intro (by (simp [indepB, indep1, apart1, Nat.testBit_eq_decide_div_mod_eq]; repeat' (first | omega | (intro x hx; omega) | refine And.intro ?_ ?_))) ?_
          simp -implicitDefEqProofs only [q4, q5, n0, n1, n2, n3, n4, n5, n6, n7, n8, n9, n10, n11, n12, n13, l0, l1, l2, l3, l4, l5, Bool.false_and, go_sem, Int.reduceAdd, Int.reduceLE, Int.reduceNeg, Nat.reduceEqDiff, Nat.reduceLeDiff, Nat.reduceSub, reduceCtorEq, ↓reduceIte]
          exact ⟨6, by omega, rfl, by omega, by omega, wf_push (wf_push (wf_push (wf_push q3)))⟩
      · simp -implicitDefEqProofs only [q4, wk, go_sem, Int.reduceLT, Nat.reduceEqDiff, reduceCtorEq, ↓reduceIte]
        exact ⟨k + 1, by omega, rfl, by omega, by omega, q3⟩
    · simp only [Bool.false_and, Bool.true_and] at hwant
      simp -implicitDefEqProofs only [hx, go_sem, Nat.reduceEqDiff, reduceCtorEq, ↓reduceIte]
      refine dcallI_pure a4 ?_
      simp -implicitDefEqProofs only [hx, go_sem, Nat.reduceEqDiff, reduceCtorEq, ↓reduceIte]
      refine dcallI_pure a5 ?_
      simp -implicitDefEqProofs only [hx, hB1, hB2, pos, el0, go_sem, Int.reduceToNat, Nat.reduceAdd, Nat.reduceEqDiff, Nat.reduceLeDiff, reduceCtorEq, ↓reduceIte]
      refine andI_intro (by (first | omega | (simp [indepB, indep1, apart1, Nat.testBit_eq_decide_div_mod_eq]; done) | (simp [indepB, indep1, apart1, Nat.testBit_eq_decide_div_mod_eq]; omega) | kernel_rfl)) ?_
      simp -implicitDefEqProofs only [hx, h3, hB1, hB2, pos, el0, go_sem]
      generalize (a0 == (k : Int)) = B5 at hwant
      refine LoopI_sl (fun i : Nat => 6 - i) (fun i => [(0, Enc.av p), (1, Enc.av name), (5, .sl 0 6 0 6 1), (6, .int .i64 k), (12, .sl m 6 0 6 1), (13, .int .i64 i)])
        (fun i s => i ≤ 6 ∧ m + 1 ≤ s.next ∧ Wf s ∧ AX.look 0 s.heap = some (.cells 6 [.int .i64 1, .int .i64 2, .int .i64 3, .int .i64 4, .int .i64 5, .int .i64 8] false) ∧ AX.look m s.heap = some (.cells 6 [.bool true, .bool B1, .bool B2, .bool B3, .bool j2, .bool B5] false)) 0 ?_ ?_
      · simp -implicitDefEqProofs only [h3, m0, go_sem, Nat.reduceEqDiff, reduceCtorEq, ↓reduceIte]
        exact wf_push hwf
      rintro i ρ ⟨g2, q⟩ ⟨q1, q2, q3, q4, q5⟩
      dsimp only at q2 q4 q5
      have n0 : (q = 0) = False := eq_false (by omega)
      have n1 : (q = m) = False := eq_false (by omega)
      have n2 : (q + 1 = 0) = False := eq_false (by omega)
      have n3 : (q + 1 = m) = False := eq_false (by omega)
      have n4 : (q + 1 = q) = False := eq_false (by omega)
      have n5 : (q + 1 + 1 = 0) = False := eq_false (by omega)
      have n6 : (q + 1 + 1 = m) = False := eq_false (by omega)
      have n7 : (q + 1 + 1 = q) = False := eq_false (by omega)
      have n8 : (q + 1 + 1 = q + 1) = False := eq_false (by omega)
      have n9 : (q + 1 + 1 + 1 = 0) = False := eq_false (by omega)
      have n10 : (q + 1 + 1 + 1 = m) = False := eq_false (by omega)
      have n11 : (q + 1 + 1 + 1 = q) = False := eq_false (by omega)
      have n12 : (q + 1 + 1 + 1 = q + 1) = False := eq_false (by omega)
      have n13 : (q + 1 + 1 + 1 = q + 1 + 1) = False := eq_false (by omega)
      have l0 : (0 < q + 1 + 1 + 1 + 1) = True := eq_true (by omega)
      have l1 : (m < q + 1 + 1 + 1 + 1) = True := eq_true (by omega)
      have l2 : (q < q + 1 + 1 + 1 + 1) = True := eq_true (by omega)
      have l3 : (q + 1 < q + 1 + 1 + 1 + 1) = True := eq_true (by omega)
      have l4 : (q + 1 + 1 < q + 1 + 1 + 1 + 1) = True := eq_true (by omega)
      have l5 : (q + 1 + 1 + 1 < q + 1 + 1 + 1 + 1) = True := eq_true (by omega)
      rcases (by omega : i = 0 ∨ i = 1 ∨ i = 2 ∨ i = 3 ∨ i = 4 ∨ i = 5 ∨ i = 6) with rfl | rfl | rfl | rfl | rfl | rfl | rfl
      · skip
        have hI := hwant 0 1 true rfl rfl
        have a6 := (w_Is p [] hp (by simp) k (one 1 name) (one_ok (by omega) hn)).at (v' := .bool (true && elemB p k)) (by rw [show (one 1 name).parts = _ from rfl, hI])
        simp -implicitDefEqProofs only [q4, q5, n0, n1, n2, n3, n4, n5, n6, n7, n8, n9, n10, n11, n12, n13, l0, l1, l2, l3, l4, l5, Bool.false_and, go_sem, Int.reduceLT, Int.reduceToNat, Nat.reduceAdd, Nat.reduceEqDiff, Nat.reduceLeDiff, reduceCtorEq, ↓reduceIte]
        refine dcallI_d a6 (wf_push (wf_push (wf_push (wf_push q3)))) ?_
        simp -implicitDefEqProofs only [q4, q5, n0, n1, n2, n3, n4, n5, n6, n7, n8, n9, n10, n11, n12, n13, l0, l1, l2, l3, l4, l5, Bool.false_and, Complex.parts, Complex.pseudo, Part.comb, Part.l, Simple.kind, Simple.name, Simple.value, Simple.a, Simple.b, Simple.l, cellsL, go_sem, Int.reduceToNat, Nat.reduceAdd, Nat.reduceEqDiff, reduceCtorEq, ↓reduceIte]
        refine dcallI_pure (w_rElement p k) ?_
        simp -implicitDefEqProofs only [q4, q5, n0, n1, n2, n3, n4, n5, n6, n7, n8, n9, n10, n11, n12, n13, l0, l1, l2, l3, l4, l5, Bool.false_and, go_sem, Nat.reduceEqDiff, ↓reduceIte]
        refine andI_intro (by (simp [indepB, indep1, apart1, Nat.testBit_eq_decide_div_mod_eq]; repeat' (first | omega | (intro x hx; omega) | refine And.intro ?_ ?_))) ?_
        simp -implicitDefEqProofs only [q4, q5, n0, n1, n2, n3, n4, n5, n6, n7, n8, n9, n10, n11, n12, n13, l0, l1, l2, l3, l4, l5, Bool.false_and, go_sem, Int.reduceAdd, Int.reduceLE, Int.reduceNeg, Nat.reduceEqDiff, Nat.reduceLeDiff, Nat.reduceSub, reduceCtorEq, ↓reduceIte]
        exact ⟨1, by omega, rfl, by omega, by omega, wf_push (wf_push (wf_push (wf_push q3)))⟩
      · cases B1
        · skip
          have hI := hwant 1 2 false rfl rfl
          have a6 := (w_Is p [] hp (by simp) k (one 2 name) (one_ok (by omega) hn)).at (v' := .bool (false && elemB p k)) (by rw [show (one 2 name).parts = _ from rfl, hI])
          simp -implicitDefEqProofs only [q4, q5, n0, n1, n2, n3, n4, n5, n6, n7, n8, n9, n10, n11, n12, n13, l0, l1, l2, l3, l4, l5, Bool.false_and, go_sem, Int.reduceLE, Int.reduceLT, Int.reduceToNat, Nat.reduceAdd, Nat.reduceEqDiff, Nat.reduceLT, Nat.reduceLeDiff, reduceCtorEq, ↓reduceIte]
          refine dcallI_d a6 (wf_push (wf_push (wf_push (wf_push q3)))) ?_
          simp -implicitDefEqProofs only [q4, q5, n0, n1, n2, n3, n4, n5, n6, n7, n8, n9, n10, n11, n12, n13, l0, l1, l2, l3, l4, l5, Bool.false_and, Complex.parts, Complex.pseudo, Part.comb, Part.l, Simple.kind, Simple.name, Simple.value, Simple.a, Simple.b, Simple.l, cellsL, go_sem, Int.reduceLE, Int.reduceToNat, Nat.reduceAdd, Nat.reduceEqDiff, Nat.reduceLT, Nat.reduceLeDiff, reduceCtorEq, ↓reduceIte]
          refine andI_intro (by (simp [indepB, indep1, apart1, Nat.testBit_eq_decide_div_mod_eq]; repeat' (first | omega | (intro x hx; omega) | refine And.intro ?_ ?_))) ?_
          simp -implicitDefEqProofs only [q4, q5, n0, n1, n2, n3, n4, n5, n6, n7, n8, n9, n10, n11, n12, n13, l0, l1, l2, l3, l4, l5, Bool.false_and, go_sem, Int.reduceAdd, Int.reduceLE, Int.reduceNeg, Nat.reduceEqDiff, Nat.reduceLeDiff, Nat.reduceSub, reduceCtorEq, ↓reduceIte]
          exact ⟨2, by omega, rfl, by omega, by omega, wf_push (wf_push (wf_push (wf_push q3)))⟩
        · skip
          have hI := hwant 1 2 true rfl rfl
          have a6 := (w_Is p [] hp (by simp) k (one 2 name) (one_ok (by omega) hn)).at (v' := .bool (true && elemB p k)) (by rw [show (one 2 name).parts = _ from rfl, hI])
          simp -implicitDefEqProofs only [q4, q5, n0, n1, n2, n3, n4, n5, n6, n7, n8, n9, n10, n11, n12, n13, l0, l1, l2, l3, l4, l5, Bool.false_and, go_sem, Int.reduceLE, Int.reduceLT, Int.reduceToNat, Nat.reduceAdd, Nat.reduceEqDiff, Nat.reduceLT, Nat.reduceLeDiff, reduceCtorEq, ↓reduceIte]
          refine dcallI_d a6 (wf_push (wf_push (wf_push (wf_push q3)))) ?_
          simp -implicitDefEqProofs only [q4, q5, n0, n1, n2, n3, n4, n5, n6, n7, n8, n9, n10, n11, n12, n13, l0, l1, l2, l3, l4, l5, Bool.false_and, Complex.parts, Complex.pseudo, Part.comb, Part.l, Simple.kind, Simple.name, Simple.value, Simple.a, Simple.b, Simple.l, cellsL, go_sem, Int.reduceLE, Int.reduceToNat, Nat.reduceAdd, Nat.reduceEqDiff, Nat.reduceLT, Nat.reduceLeDiff, reduceCtorEq, ↓reduceIte]
          refine dcallI_pure (w_rElement p k) ?_
          simp -implicitDefEqProofs only [q4, q5, n0, n1, n2, n3, n4, n5, n6, n7, n8, n9, n10, n11, n12, n13, l0, l1, l2, l3, l4, l5, Bool.false_and, go_sem, Nat.reduceEqDiff, ↓reduceIte]
          refine andI_intro (by (simp [indepB, indep1, apart1, Nat.testBit_eq_decide_div_mod_eq]; repeat' (first | omega | (intro x hx; omega) | refine And.intro ?_ ?_))) ?_
          simp -implicitDefEqProofs only [q4, q5, n0, n1, n2, n3, n4, n5, n6, n7, n8, n9, n10, n11, n12, n13, l0, l1, l2, l3, l4, l5, Bool.false_and, go_sem, Int.reduceAdd, Int.reduceLE, Int.reduceNeg, Nat.reduceEqDiff, Nat.reduceLeDiff, Nat.reduceSub, reduceCtorEq, ↓reduceIte]
          exact ⟨2, by omega, rfl, by omega, by omega, wf_push (wf_push (wf_push (wf_push q3)))⟩
      · cases B2
        · skip
          have hI := hwant 2 3 false rfl rfl
          have a6 := (w_Is p [] hp (by simp) k (one 3 name) (one_ok (by omega) hn)).at (v' := .bool (false && elemB p k)) (by rw [show (one 3 name).parts = _ from rfl, hI])
          simp -implicitDefEqProofs only [q4, q5, n0, n1, n2, n3, n4, n5, n6, n7, n8, n9, n10, n11, n12, n13, l0, l1, l2, l3, l4, l5, Bool.false_and, go_sem, Int.reduceLE, Int.reduceLT, Int.reduceToNat, Nat.reduceAdd, Nat.reduceEqDiff, Nat.reduceLT, Nat.reduceLeDiff, reduceCtorEq, ↓reduceIte]
          refine dcallI_d a6 (wf_push (wf_push (wf_push (wf_push q3)))) ?_
          simp -implicitDefEqProofs only [q4, q5, n0, n1, n2, n3, n4, n5, n6, n7, n8, n9, n10, n11, n12, n13, l0, l1, l2, l3, l4, l5, Bool.false_and, Complex.parts, Complex.pseudo, Part.comb, Part.l, Simple.kind, Simple.name, Simple.value, Simple.a, Simple.b, Simple.l, cellsL, go_sem, Int.reduceLE, Int.reduceToNat, Nat.reduceAdd, Nat.reduceEqDiff, Nat.reduceLT, Nat.reduceLeDiff, reduceCtorEq, ↓reduceIte]
          refine andI_intro (by (simp [indepB, indep1, apart1, Nat.testBit_eq_decide_div_mod_eq]; repeat' (first | omega | (intro x hx; omega) | refine And.intro ?_ ?_))) ?_
          simp -implicitDefEqProofs only [q4, q5, n0, n1, n2, n3, n4, n5, n6, n7, n8, n9, n10, n11, n12, n13, l0, l1, l2, l3, l4, l5, Bool.false_and, go_sem, Int.reduceAdd, Int.reduceLE, Int.reduceNeg, Nat.reduceEqDiff, Nat.reduceLeDiff, Nat.reduceSub, reduceCtorEq, ↓reduceIte]
          exact ⟨3, by omega, rfl, by omega, by omega, wf_push (wf_push (wf_push (wf_push q3)))⟩
        · skip
          have hI := hwant 2 3 true rfl rfl
          have a6 := (w_Is p [] hp (by simp) k (one 3 name) (one_ok (by omega) hn)).at (v' := .bool (true && elemB p k)) (by rw [show (one 3 name).parts = _ from rfl, hI])
          simp -implicitDefEqProofs only [q4, q5, n0, n1, n2, n3, n4, n5, n6, n7, n8, n9, n10, n11, n12, n13, l0, l1, l2, l3, l4, l5, Bool.false_and, go_sem, Int.reduceLE, Int.reduceLT, Int.reduceToNat, Nat.reduceAdd, Nat.reduceEqDiff, Nat.reduceLT, Nat.reduceLeDiff, reduceCtorEq, ↓reduceIte]
          refine dcallI_d a6 (wf_push (wf_push (wf_push (wf_push q3)))) ?_
          simp -implicitDefEqProofs only [q4, q5, n0, n1, n2, n3, n4, n5, n6, n7, n8, n9, n10, n11, n12, n13, l0, l1, l2, l3, l4, l5, Bool.false_and, Complex.parts, Complex.pseudo, Part.comb, Part.l, Simple.kind, Simple.name, Simple.value, Simple.a, Simple.b, Simple.l, cellsL, go_sem, Int.reduceLE, Int.reduceToNat, Nat.reduceAdd, Nat.reduceEqDiff, Nat.reduceLT, Nat.reduceLeDiff, reduceCtorEq, ↓reduceIte]
          refine dcallI_pure (w_rElement p k) ?_
          simp -implicitDefEqProofs only [q4, q5, n0, n1, n2, n3, n4, n5, n6, n7, n8, n9, n10, n11, n12, n13, l0, l1, l2, l3, l4, l5, Bool.false_and, go_sem, Nat.reduceEqDiff, ↓reduceIte]
          refine andI_intro (by (simp [indepB, indep1, apart1, Nat.testBit_eq_decide_div_mod_eq]; repeat' (first | omega | (intro x hx; omega) | refine And.intro ?_ ?_))) ?_
          simp -implicitDefEqProofs only [q4, q5, n0, n1, n2, n3, n4, n5, n6, n7, n8, n9, n10, n11, n12, n13, l0, l1, l2, l3, l4, l5, Bool.false_and, go_sem, Int.reduceAdd, Int.reduceLE, Int.reduceNeg, Nat.reduceEqDiff, Nat.reduceLeDiff, Nat.reduceSub, reduceCtorEq, ↓reduceIte]
          exact ⟨3, by omega, rfl, by omega, by omega, wf_push (wf_push (wf_push (wf_push q3)))⟩
      · cases B3
        · skip
          have hI := hwant 3 4 false rfl rfl
          have a6 := (w_Is p [] hp (by simp) k (one 4 name) (one_ok (by omega) hn)).at (v' := .bool (false && elemB p k)) (by rw [show (one 4 name).parts = _ from rfl, hI])
          simp -implicitDefEqProofs only [q4, q5, n0, n1, n2, n3, n4, n5, n6, n7, n8, n9, n10, n11, n12, n13, l0, l1, l2, l3, l4, l5, Bool.false_and, go_sem, Int.reduceLE, Int.reduceLT, Int.reduceToNat, Nat.reduceAdd, Nat.reduceEqDiff, Nat.reduceLT, Nat.reduceLeDiff, reduceCtorEq, ↓reduceIte]
          refine dcallI_d a6 (wf_push (wf_push (wf_push (wf_push q3)))) ?_
          simp -implicitDefEqProofs only [q4, q5, n0, n1, n2, n3, n4, n5, n6, n7, n8, n9, n10, n11, n12, n13, l0, l1, l2, l3, l4, l5, Bool.false_and, Complex.parts, Complex.pseudo, Part.comb, Part.l, Simple.kind, Simple.name, Simple.value, Simple.a, Simple.b, Simple.l, cellsL, go_sem, Int.reduceLE, Int.reduceToNat, Nat.reduceAdd, Nat.reduceEqDiff, Nat.reduceLT, Nat.reduceLeDiff, reduceCtorEq, ↓reduceIte]
          refine andI_intro (by (simp [indepB, indep1, apart1, Nat.testBit_eq_decide_div_mod_eq]; repeat' (first | omega | (intro x hx; omega) | refine And.intro ?_ ?_))) ?_
          simp -implicitDefEqProofs only [q4, q5, n0, n1, n2, n3, n4, n5, n6, n7, n8, n9, n10, n11, n12, n13, l0, l1, l2, l3, l4, l5, Bool.false_and, go_sem, Int.reduceAdd, Int.reduceLE, Int.reduceNeg, Nat.reduceEqDiff, Nat.reduceLeDiff, Nat.reduceSub, reduceCtorEq, ↓reduceIte]
          exact ⟨4, by omega, rfl, by omega, by omega, wf_push (wf_push (wf_push (wf_push q3)))⟩
        · skip
          have hI := hwant 3 4 true rfl rfl
          have a6 := (w_Is p [] hp (by simp) k (one 4 name) (one_ok (by omega) hn)).at (v' := .bool (true && elemB p k)) (by rw [show (one 4 name).parts = _ from rfl, hI])
          simp -implicitDefEqProofs only [q4, q5, n0, n1, n2, n3, n4, n5, n6, n7, n8, n9, n10, n11, n12, n13, l0, l1, l2, l3, l4, l5, Bool.false_and, go_sem, Int.reduceLE, Int.reduceLT, Int.reduceToNat, Nat.reduceAdd, Nat.reduceEqDiff, Nat.reduceLT, Nat.reduceLeDiff, reduceCtorEq, ↓reduceIte]
          refine dcallI_d a6 (wf_push (wf_push (wf_push (wf_push q3)))) ?_
          simp -implicitDefEqProofs only [q4, q5, n0, n1, n2, n3, n4, n5, n6, n7, n8, n9, n10, n11, n12, n13, l0, l1, l2, l3, l4, l5, Bool.false_and, Complex.parts, Complex.pseudo, Part.comb, Part.l, Simple.kind, Simple.name, Simple.value, Simple.a, Simple.b, Simple.l, cellsL, go_sem, Int.reduceLE, Int.reduceToNat, Nat.reduceAdd, Nat.reduceEqDiff, Nat.reduceLT, Nat.reduceLeDiff, reduceCtorEq, ↓reduceIte]
          refine dcallI_pure (w_rElement p k) ?_
          simp -implicitDefEqProofs only [q4, q5, n0, n1, n2, n3, n4, n5, n6, n7, n8, n9, n10, n11, n12, n13, l0, l1, l2, l3, l4, l5, Bool.false_and, go_sem, Nat.reduceEqDiff, ↓reduceIte]
          refine andI_intro (by (simp [indepB, indep1, apart1, Nat.testBit_eq_decide_div_mod_eq]; repeat' (first | omega | (intro x hx; omega) | refine And.intro ?_ ?_))) ?_
          simp -implicitDefEqProofs only [q4, q5, n0, n1, n2, n3, n4, n5, n6, n7, n8, n9, n10, n11, n12, n13, l0, l1, l2, l3, l4, l5, Bool.false_and, go_sem, Int.reduceAdd, Int.reduceLE, Int.reduceNeg, Nat.reduceEqDiff, Nat.reduceLeDiff, Nat.reduceSub, reduceCtorEq, ↓reduceIte]
          exact ⟨4, by omega, rfl, by omega, by omega, wf_push (wf_push (wf_push (wf_push q3)))⟩
      · cases j2
        · skip
          have hI := hwant 4 5 false rfl rfl
          have a6 := (w_Is p [] hp (by simp) k (one 5 name) (one_ok (by omega) hn)).at (v' := .bool (false && elemB p k)) (by rw [show (one 5 name).parts = _ from rfl, hI])
          simp -implicitDefEqProofs only [q4, q5, n0, n1, n2, n3, n4, n5, n6, n7, n8, n9, n10, n11, n12, n13, l0, l1, l2, l3, l4, l5, Bool.false_and, go_sem, Int.reduceLE, Int.reduceLT, Int.reduceToNat, Nat.reduceAdd, Nat.reduceEqDiff, Nat.reduceLT, Nat.reduceLeDiff, reduceCtorEq, ↓reduceIte]
          refine dcallI_d a6 (wf_push (wf_push (wf_push (wf_push q3)))) ?_
          simp -implicitDefEqProofs only [q4, q5, n0, n1, n2, n3, n4, n5, n6, n7, n8, n9, n10, n11, n12, n13, l0, l1, l2, l3, l4, l5, Bool.false_and, Complex.parts, Complex.pseudo, Part.comb, Part.l, Simple.kind, Simple.name, Simple.value, Simple.a, Simple.b, Simple.l, cellsL, go_sem, Int.reduceLE, Int.reduceToNat, Nat.reduceAdd, Nat.reduceEqDiff, Nat.reduceLT, Nat.reduceLeDiff, reduceCtorEq, ↓reduceIte]
          refine andI_intro (by (simp [indepB, indep1, apart1, Nat.testBit_eq_decide_div_mod_eq]; repeat' (first | omega | (intro x hx; omega) | refine And.intro ?_ ?_))) ?_
          simp -implicitDefEqProofs only [q4, q5, n0, n1, n2, n3, n4, n5, n6, n7, n8, n9, n10, n11, n12, n13, l0, l1, l2, l3, l4, l5, Bool.false_and, go_sem, Int.reduceAdd, Int.reduceLE, Int.reduceNeg, Nat.reduceEqDiff, Nat.reduceLeDiff, Nat.reduceSub, reduceCtorEq, ↓reduceIte]
          exact ⟨5, by omega, rfl, by omega, by omega, wf_push (wf_push (wf_push (wf_push q3)))⟩
        · skip
          have hI := hwant 4 5 true rfl rfl
          have a6 := (w_Is p [] hp (by simp) k (one 5 name) (one_ok (by omega) hn)).at (v' := .bool (true && elemB p k)) (by rw [show (one 5 name).parts = _ from rfl, hI])
          simp -implicitDefEqProofs only [q4, q5, n0, n1, n2, n3, n4, n5, n6, n7, n8, n9, n10, n11, n12, n13, l0, l1, l2, l3, l4, l5, Bool.false_and, go_sem, Int.reduceLE, Int.reduceLT, Int.reduceToNat, Nat.reduceAdd, Nat.reduceEqDiff, Nat.reduceLT, Nat.reduceLeDiff, reduceCtorEq, ↓reduceIte]
          refine dcallI_d a6 (wf_push (wf_push (wf_push (wf_push q3)))) ?_
          simp -implicitDefEqProofs only [q4, q5, n0, n1, n2, n3, n4, n5, n6, n7, n8, n9, n10, n11, n12, n13, l0, l1, l2, l3, l4, l5, Bool.false_and, Complex.parts, Complex.pseudo, Part.comb, Part.l, Simple.kind, Simple.name, Simple.value, Simple.a, Simple.b, Simple.l, cellsL, go_sem, Int.reduceLE, Int.reduceToNat, Nat.reduceAdd, Nat.reduceEqDiff, Nat.reduceLT, Nat.reduceLeDiff, reduceCtorEq, ↓reduceIte]
          refine dcallI_pure (w_rElement p k) ?_
          simp -implicitDefEqProofs only [q4, q5, n0, n1, n2, n3, n4, n5, n6, n7, n8, n9, n10, n11, n12, n13, l0, l1, l2, l3, l4, l5, Bool.false_and, go_sem, Nat.reduceEqDiff, ↓reduceIte]
          refine andI_intro (by (simp [indepB, indep1, apart1, Nat.testBit_eq_decide_div_mod_eq]; repeat' (first | omega | (intro x hx; omega) | refine And.intro ?_ ?_))) ?_
          simp -implicitDefEqProofs only [q4, q5, n0, n1, n2, n3, n4, n5, n6, n7, n8, n9, n10, n11, n12, n13, l0, l1, l2, l3, l4, l5, Bool.false_and, go_sem, Int.reduceAdd, Int.reduceLE, Int.reduceNeg, Nat.reduceEqDiff, Nat.reduceLeDiff, Nat.reduceSub, reduceCtorEq, ↓reduceIte]
          exact ⟨5, by omega, rfl, by omega, by omega, wf_push (wf_push (wf_push (wf_push q3)))⟩
      · cases B5
        · skip
          have hI := hwant 5 8 false rfl rfl
          have a6 := (w_Is p [] hp (by simp) k (one 8 name) (one_ok (by omega) hn)).at (v' := .bool (false && elemB p k)) (by rw [show (one 8 name).parts = _ from rfl, hI])
          simp -implicitDefEqProofs only [q4, q5, n0, n1, n2, n3, n4, n5, n6, n7, n8, n9, n10, n11, n12, n13, l0, l1, l2, l3, l4, l5, Bool.false_and, go_sem, Int.reduceLE, Int.reduceLT, Int.reduceToNat, Nat.reduceAdd, Nat.reduceEqDiff, Nat.reduceLeDiff, reduceCtorEq, ↓reduceIte]
          refine dcallI_d a6 (wf_push (wf_push (wf_push (wf_push q3)))) ?_
          simp -implicitDefEqProofs only [q4, q5, n0, n1, n2, n3, n4, n5, n6, n7, n8, n9, n10, n11, n12, n13, l0, l1, l2, l3, l4, l5, Bool.false_and, Complex.parts, Complex.pseudo, Part.comb, Part.l, Simple.kind, Simple.name, Simple.value, Simple.a, Simple.b, Simple.l, cellsL, go_sem, Int.reduceLE, Int.reduceToNat, Nat.reduceAdd, Nat.reduceEqDiff, Nat.reduceLeDiff, reduceCtorEq, ↓reduceIte]
          refine andI_intro (by (simp [indepB, indep1, apart1, Nat.testBit_eq_decide_div_mod_eq]; repeat' (first | omega | (intro x hx; omega) | refine And.intro ?_ ?_))) ?_
          simp -implicitDefEqProofs only [q4, q5, n0, n1, n2, n3, n4, n5, n6, n7, n8, n9, n10, n11, n12, n13, l0, l1, l2, l3, l4, l5, Bool.false_and, go_sem, Int.reduceAdd, Int.reduceLE, Int.reduceNeg, Nat.reduceEqDiff, Nat.reduceLeDiff, Nat.reduceSub, reduceCtorEq, ↓reduceIte]
          exact ⟨6, by omega, rfl, by omega, by omega, wf_push (wf_push (wf_push (wf_push q3)))⟩
        · skip
          have hI := hwant 5 8 true rfl rfl
          have a6 := (w_Is p [] hp (by simp) k (one 8 name) (one_ok (by omega) hn)).at (v' := .bool (true && elemB p k)) (by rw [show (one 8 name).parts = _ from rfl, hI])
          simp -implicitDefEqProofs only [q4, q5, n0, n1, n2, n3, n4, n5, n6, n7, n8, n9, n10, n11, n12, n13, l0, l1, l2, l3, l4, l5, Bool.false_and, go_sem, Int.reduceLE, Int.reduceLT, Int.reduceToNat, Nat.reduceAdd, Nat.reduceEqDiff, Nat.reduceLeDiff, reduceCtorEq, ↓reduceIte]
          refine dcallI_d a6 (wf_push (wf_push (wf_push (wf_push q3)))) ?_
          simp -implicitDefEqProofs only [q4, q5, n0, n1, n2, n3, n4, n5, n6, n7, n8, n9, n10, n11, n12, n13, l0, l1, l2, l3, l4, l5, Bool.false_and, Complex.parts, Complex.pseudo, Part.comb, Part.l, Simple.kind, Simple.name, Simple.value, Simple.a, Simple.b, Simple.l, cellsL, go_sem, Int.reduceLE, Int.reduceToNat, Nat.reduceAdd, Nat.reduceEqDiff, Nat.reduceLeDiff, reduceCtorEq, ↓reduceIte]
          refine dcallI_pure (w_rElement p k) ?_
          simp -implicitDefEqProofs only [q4, q5, n0, n1, n2, n3, n4, n5, n6, n7, n8, n9, n10, n11, n12, n13, l0, l1, l2, l3, l4, l5, Bool.false_and, go_sem, Nat.reduceEqDiff, ↓reduceIte]
          refine andI_intro (by (simp [indepB, indep1, apart1, Nat.testBit_eq_decide_div_mod_eq]; repeat' (first | omega | (intro x hx; omega) | refine And.intro ?_ ?_))) ?_
          simp -implicitDefEqProofs only [q4, q5, n0, n1, n2, n3, n4, n5, n6, n7, n8, n9, n10, n11, n12, n13, l0, l1, l2, l3, l4, l5, Bool.false_and, go_sem, Int.reduceAdd, Int.reduceLE, Int.reduceNeg, Nat.reduceEqDiff, Nat.reduceLeDiff, Nat.reduceSub, reduceCtorEq, ↓reduceIte]
          exact ⟨6, by omega, rfl, by omega, by omega, wf_push (wf_push (wf_push (wf_push q3)))⟩
      · simp -implicitDefEqProofs only [q4, wk, go_sem, Int.reduceLT, Nat.reduceEqDiff, reduceCtorEq, ↓reduceIte]
        exact ⟨k + 1, by omega, rfl, by omega, by omega, q3⟩
  · have hlt : ((k : Int) < (p.length : Int)) = False := eq_false (by omega)
    simp -implicitDefEqProofs only [hlt, go_sem, Nat.reduceEqDiff, reduceCtorEq, ↓reduceIte]
end W12
