/- TurnsBack. -/
import Derived.Test.YtaaobfeieelolaaTxE
import Derived.Test.YtaaobfeieelolaaTxB
set_option linter.unusedSimpArgs false
set_option linter.unusedVariables false
namespace W11
open Go Go.AX Go.AX.Ty Go.Proofs

theorem wsum_ge : ∀ l : List Str, l.length ≤ wsum l
  | [] => by simp [wsum]
  | x :: r => by
    have := wsum_ge r
    have h3 : wsum (x :: r) = (1 + x.length) + wsum r := by simp [wsum]
    simp only [List.length_cons]; omega
theorem classes_len {q : Page} (hq : PgOk q) (n : Int) : (classesB q n).length ≤ 1000001 := Nat.le_trans (wsum_ge _) (classes_sum hq n)
theorem w_rIn (l : List Str) (v : Str) (hl : l.length ≤ 140737488355328) : PureF Try.prog 24 [Enc.av l, Enc.av v] (.bool (inB l v)) := w_In v l hl
theorem w_proper (s : Str) (hl : s.length ≤ 1000000) : PureF Try.prog 19 [Enc.av s] (.bool (decide (wordsB s = [s]))) := by
  refine pureF_W mix c19 (by kernel_rfl) (by kernel_rfl) (by simp [flats, flat_av, Go.AX.flat]) (by first | exact flat_av _ | simp [flat, flats, flat_av]) ?_
  simp -implicitDefEqProofs only [F19, go_sem, reduceCtorEq, ↓reduceIte]
  refine callI_pure (w_Words s hl) ?_
  generalize wordsB s = ws
  by_cases hw : ws.length = 1
  · have hq : ((ws.length : Int) = 1) = True := eq_true (by omega)
    obtain ⟨x, hx⟩ := List.length_eq_one_iff.1 hw
    have h0 : ws[0]? = some x := by rw [hx]; rfl
    simp -implicitDefEqProofs only [hq, h0, go_sem, Int.reduceToNat, Nat.reduceEqDiff, reduceCtorEq, ↓reduceIte]
    by_cases e : x = s
    · rw [decide_eq_true (show ws = [s] by rw [hx, e])]
      simp -implicitDefEqProofs only [e, go_sem]
      try simp
    · have e' : (x == s) = false := by simpa using e
      rw [decide_eq_false (fun h => e (by rw [hx] at h; simpa using h))]
      try simp -implicitDefEqProofs only [e, go_sem, ↓reduceIte, Nat.reduceEqDiff, Nat.reduceAdd, Nat.reduceMul, Nat.reduceLeDiff, Nat.reduceSub, Nat.reduceLT, Int.reduceAdd, Int.reduceLE, Int.reduceLT, Int.reduceToNat, Int.reduceNeg, Int.reduceNegSucc, Int.reduceEq, Int.reduceNe, Int.reduceGT, Int.reduceGE, Int.reduceSub, Int.reduceMul, Int.reduceBEq, Int.reduceBNe, Nat.reduceBEq, Nat.reduceGT, reduceCtorEq]
      try simp [e]
  · have hq : ((ws.length : Int) = 1) = False := eq_false (by omega)
    rw [decide_eq_false (fun h => hw (by rw [h]; rfl))]
    simp -implicitDefEqProofs only [hq, go_sem, Nat.reduceEqDiff, ↓reduceIte]
    try rfl
end W11
/- TurnsBack: the walk. -/
set_option linter.unusedSimpArgs false
set_option linter.unusedVariables false
namespace W11
open Go Go.AX Go.AX.Ty Go.Proofs

theorem Turn.mk_ok {k n : Int} {a b : Str} (h1 : Enc.ok k) (h2 : Enc.ok n) (h3 : a.length ≤ 100) (h4 : b.length ≤ 100) : Enc.ok (⟨k, n, a, b⟩ : Turn) :=
  (Turn.ok_iff _).2 ⟨h1, h2, by show a.length ≤ _; omega, by show b.length ≤ _; omega⟩
theorem w_TurnsBack (p : Page) (n : Int) (name : Str) (hp : Enc.ok p) (hn : Enc.ok n) : PureF Try.prog 6 [Enc.av p, Enc.av n, Enc.av name] (.bool true) := by
  refine pureF_W mix c6 (by kernel_rfl) (by kernel_rfl) (by simp [flats, flat_av, Go.AX.flat]) (by first | exact flat_av _ | simp [flat, flats, flat_av]) ?_
  simp -implicitDefEqProofs only [F6, go_sem]
  refine callI_pure w_fixed ?_
  simp -implicitDefEqProofs only [go_sem, Nat.reduceEqDiff, reduceCtorEq, ↓reduceIte]
  refine callI_pure (w_Small10 60 p hp) ?_
  cases h1 : smallPg 60 p
  · simp -implicitDefEqProofs only [go_sem, Nat.reduceEqDiff, reduceCtorEq, ↓reduceIte]
    refine callI_pure w_fixed ?_
    simp -implicitDefEqProofs only [go_sem, ↓reduceIte]
  simp -implicitDefEqProofs only [go_sem, Nat.reduceEqDiff, reduceCtorEq, ↓reduceIte]
  refine callI_pure (w_rElement p n) ?_
  cases h2 : elemB p n
  · simp -implicitDefEqProofs only [go_sem, Nat.reduceEqDiff, reduceCtorEq, ↓reduceIte]
    refine callI_pure w_fixed ?_
    simp -implicitDefEqProofs only [go_sem, ↓reduceIte]
  by_cases h3 : (name.length : Int) > 100
  · have h3' := eq_true h3
    simp -implicitDefEqProofs only [h3', go_sem, Nat.reduceEqDiff, ↓reduceIte]
    refine callI_pure w_fixed ?_
    simp -implicitDefEqProofs only [go_sem, ↓reduceIte]
  have h3' := eq_false h3
  have hB := pgB_of hp h1
  have hP := hB.pg (by omega)
  have o : ∀ k : Int, Enc.ok k → ∀ v : Str, v.length ≤ 100 → Enc.ok (⟨k, n, name, v⟩ : Turn) := fun k hk v hv => Turn.mk_ok hk hn (by omega) hv
  have lenv : ∀ (k : Int) (v : Str), v.length ≤ 100 → (⟨k, n, name, v⟩ : Turn).name.length ≤ 100 ∧ (⟨k, n, name, v⟩ : Turn).value.length ≤ 100 := fun k v hv => ⟨by show name.length ≤ 100; omega, hv⟩
  have hD1 := w_Do p hB [⟨1, n, name, []⟩, ⟨2, n, name, []⟩] (by simp) (by omega) (by omega) (by simp only [List.mem_cons, List.not_mem_nil, or_false, forall_eq_or_imp, forall_eq]; exact ⟨o 1 (by simp [Enc.ok]) [] (by simp), o 2 (by simp [Enc.ok]) [] (by simp)⟩) (by simp; omega)
  have hD2 := w_Do p hB [⟨3, n, name, [118, 32, 119]⟩, ⟨4, n, name, []⟩] (by simp) (by omega) (by omega) (by simp only [List.mem_cons, List.not_mem_nil, or_false, forall_eq_or_imp, forall_eq]; exact ⟨o 3 (by simp [Enc.ok]) [118, 32, 119] (by simp), o 4 (by simp [Enc.ok]) [] (by simp)⟩) (by simp; omega)
  have hB1 := PgB.turns [⟨1, n, name, []⟩, ⟨2, n, name, []⟩] hB (by simp) (by simp) (by simp; omega)
  have hq1 := hB1.pg (by simp)
  have hb1 : elemB p n = true → wordsB name = [name] → inB (classesB p n) name = false → classesB (doB p [⟨1, n, name, []⟩, ⟨2, n, name, []⟩]) n = classesB p n := fun a b c => back_cls (a := ⟨1, n, name, []⟩) (b := ⟨2, n, name, []⟩) rfl rfl a rfl rfl b c
  have hb2 : (attrB p n name).2 = false → doB p [⟨3, n, name, [118, 32, 119]⟩, ⟨4, n, name, []⟩] = p := fun h => back_attr (a := ⟨3, n, name, [118, 32, 119]⟩) (b := ⟨4, n, name, []⟩) rfl rfl rfl rfl h
  generalize doB p [⟨1, n, name, []⟩, ⟨2, n, name, []⟩] = q1 at hD1 hq1 hb1
  generalize doB p [⟨3, n, name, [118, 32, 119]⟩, ⟨4, n, name, []⟩] = q2 at hD2 hb2
  have hc := classes_len hP n
  have hc1 := classes_len hq1 n
  have fin : ∀ (X : Prop), True := fun _ => trivial
  have rest : ∀ {X : Prop}, X → X := fun h => h
  simp -implicitDefEqProofs only [h3', go_sem, Nat.reduceEqDiff, reduceCtorEq, ↓reduceIte]
  refine callI_pure (w_rClasses p hP n) ?_
  simp -implicitDefEqProofs only [h3', go_sem, Nat.reduceEqDiff, ↓reduceIte]
  refine callI_pure (w_proper name (by omega)) ?_
  have i0 := w_rIn (classesB p n) name (by omega)
  by_cases h4 : wordsB name = [name]
  · rw [decide_eq_true h4]
    simp -implicitDefEqProofs only [h3', go_sem, Nat.reduceEqDiff, ↓reduceIte]
    refine callI_pure i0 ?_
    cases h5 : inB (classesB p n) name
    · have hb := hb1 h2 h4 h5
      simp -implicitDefEqProofs only [h3', go_sem, Nat.reduceAdd, Nat.reduceEqDiff, Nat.reduceLeDiff, Nat.reduceMul, reduceCtorEq, ↓reduceIte]
      refine callI_pure hD1 ?_
      simp -implicitDefEqProofs only [h3', go_sem, Nat.reduceEqDiff, ↓reduceIte]
      refine callI_pure (w_rClasses q1 hq1 n) ?_
      have hT := w_rTexts (classesB q1 n) (classesB p n) (by omega)
      rw [decide_eq_true hb] at hT
      simp -implicitDefEqProofs only [h3', go_sem, Nat.reduceEqDiff, ↓reduceIte]
      refine callI_pure hT ?_
      simp -implicitDefEqProofs only [h3', go_sem, Nat.reduceEqDiff, reduceCtorEq, ↓reduceIte]
      refine callI_pure (w_rAttr p hp n name) ?_
      simp -implicitDefEqProofs only [h3', go_sem, Nat.reduceAdd, Nat.reduceEqDiff, Nat.reduceLeDiff, Nat.reduceMul, reduceCtorEq, ↓reduceIte]
      refine callI_pure hD2 ?_
      cases h6 : (attrB p n name).2
      · rw [hb2 h6]
        simp -implicitDefEqProofs only [h3', go_sem, Nat.reduceEqDiff, reduceCtorEq, ↓reduceIte]
        refine callI_pure (w_same_self p hp) ?_
        simp -implicitDefEqProofs only [h3', go_sem, Nat.reduceEqDiff, ↓reduceIte]
        try rfl
      · simp -implicitDefEqProofs only [h3', go_sem, Nat.reduceEqDiff, reduceCtorEq, ↓reduceIte]
        try rfl
    · simp -implicitDefEqProofs only [h3', go_sem, Nat.reduceEqDiff, reduceCtorEq, ↓reduceIte]
      refine callI_pure (w_rAttr p hp n name) ?_
      simp -implicitDefEqProofs only [h3', go_sem, Nat.reduceAdd, Nat.reduceEqDiff, Nat.reduceLeDiff, Nat.reduceMul, reduceCtorEq, ↓reduceIte]
      refine callI_pure hD2 ?_
      cases h6 : (attrB p n name).2
      · rw [hb2 h6]
        simp -implicitDefEqProofs only [h3', go_sem, Nat.reduceEqDiff, reduceCtorEq, ↓reduceIte]
        refine callI_pure (w_same_self p hp) ?_
        simp -implicitDefEqProofs only [h3', go_sem, Nat.reduceEqDiff, ↓reduceIte]
        try rfl
      · simp -implicitDefEqProofs only [h3', go_sem, Nat.reduceEqDiff, reduceCtorEq, ↓reduceIte]
        try rfl
  · rw [decide_eq_false h4]
    simp -implicitDefEqProofs only [h3', go_sem, Nat.reduceEqDiff, reduceCtorEq, ↓reduceIte]
    refine callI_pure (w_rAttr p hp n name) ?_
    simp -implicitDefEqProofs only [h3', go_sem, Nat.reduceAdd, Nat.reduceEqDiff, Nat.reduceLeDiff, Nat.reduceMul, reduceCtorEq, ↓reduceIte]
    refine callI_pure hD2 ?_
    cases h6 : (attrB p n name).2
    · rw [hb2 h6]
      simp -implicitDefEqProofs only [h3', go_sem, Nat.reduceEqDiff, reduceCtorEq, ↓reduceIte]
      refine callI_pure (w_same_self p hp) ?_
      simp -implicitDefEqProofs only [h3', go_sem, Nat.reduceEqDiff, ↓reduceIte]
      try rfl
    · simp -implicitDefEqProofs only [h3', go_sem, Nat.reduceEqDiff, reduceCtorEq, ↓reduceIte]
      try rfl
end W11
/- TurnsApart. -/
set_option linter.unusedSimpArgs false
set_option linter.unusedVariables false
namespace W11
open Go Go.AX Go.AX.Ty Go.Proofs

theorem smallT_two {a b : Turn} (h : smallT [a, b] = true) : (a.name.length ≤ 100 ∧ a.value.length ≤ 100) ∧ b.name.length ≤ 100 ∧ b.value.length ≤ 100 := by
  have := (smallT_of h).2
  exact ⟨this a (by simp), this b (by simp)⟩
theorem w_TurnsApart (p : Page) (a b : Turn) (hp : Enc.ok p) (ha : Enc.ok a) (hb : Enc.ok b) : PureF Try.prog 5 [Enc.av p, Enc.av a, Enc.av b] (.bool true) := by
  refine pureF_W mix c5 (by kernel_rfl) (by kernel_rfl) (by simp [flats, flat_av, Go.AX.flat]) (by first | exact flat_av _ | simp [flat, flats, flat_av]) ?_
  have hS := w_rSmallT [a, b] ⟨by simp, by simp [ha, hb]⟩
  simp -implicitDefEqProofs only [F5, go_sem, Nat.reduceAdd, Nat.reduceEqDiff, ↓reduceIte]
  refine callI_pure w_fixed ?_
  simp -implicitDefEqProofs only [go_sem, Nat.reduceEqDiff, reduceCtorEq, ↓reduceIte]
  refine callI_pure (w_Small10 60 p hp) ?_
  cases h1 : smallPg 60 p
  · simp -implicitDefEqProofs only [go_sem, Nat.reduceEqDiff, reduceCtorEq, ↓reduceIte]
    refine callI_pure w_fixed ?_
    simp -implicitDefEqProofs only [go_sem, ↓reduceIte]
  simp -implicitDefEqProofs only [go_sem, Nat.reduceAdd, Nat.reduceEqDiff, Nat.reduceLeDiff, Nat.reduceMul, reduceCtorEq, ↓reduceIte]
  refine callI_pure hS ?_
  cases h2 : smallT [a, b]
  · simp -implicitDefEqProofs only [go_sem, Nat.reduceEqDiff, reduceCtorEq, ↓reduceIte]
    refine callI_pure w_fixed ?_
    simp -implicitDefEqProofs only [go_sem, ↓reduceIte]
  simp -implicitDefEqProofs only [go_sem, Nat.reduceAdd, Nat.reduceEqDiff, Nat.reduceLeDiff, reduceCtorEq, ↓reduceIte]
  refine callI_pure (w_rElement p a.node) ?_
  cases h3 : elemB p a.node
  · simp -implicitDefEqProofs only [go_sem, Nat.reduceEqDiff, reduceCtorEq, ↓reduceIte]
    refine callI_pure w_fixed ?_
    simp -implicitDefEqProofs only [go_sem, ↓reduceIte]
  simp -implicitDefEqProofs only [go_sem, Nat.reduceAdd, Nat.reduceEqDiff, Nat.reduceLeDiff, reduceCtorEq, ↓reduceIte]
  refine callI_pure (w_rElement p b.node) ?_
  cases h4 : elemB p b.node
  · simp -implicitDefEqProofs only [go_sem, Nat.reduceEqDiff, ↓reduceIte]
    refine callI_pure w_fixed ?_
    simp -implicitDefEqProofs only [go_sem, ↓reduceIte]
  obtain ⟨la, lb⟩ := smallT_two h2
  have hB := pgB_of hp h1
  have hP := hB.pg (by omega)
  have hD1 := w_Do p hB [a, b] (by simp) (by omega) (by omega) (by simp [ha, hb]) (by simp [la, lb])
  have hD2 := w_Do p hB [b] (by simp) (by omega) (by omega) (by simp [hb]) (by simp [lb])
  have hB1 := PgB.turns [a, b] hB (by simp) (by simp) (by simp [la, lb])
  have hB2 := PgB.turns [b] hB (by simp) (by simp) (by simp [lb])
  have hD3 := w_Do (doB p [b]) hB2 [a] (by simp) (by simp) (by simp) (by simp [ha]) (by simp [la])
  have hB3 := PgB.turns [a] hB2 (by simp) (by simp) (by simp [la])
  have e3 : doB (doB p [b]) [a] = stepT (stepT p b) a := rfl
  have e1 : doB p [a, b] = stepT (stepT p a) b := rfl
  have e2 : doB p [b] = stepT p b := rfl
  rw [e3] at hD3 hB3
  rw [e1] at hD1 hB1
  rw [e2] at hD2 hD3 hB2
  have hX := hB1.pg (by simp)
  have hY := hB3.pg (by simp)
  have hne := apart_two (p := p) (a := a) (b := b)
  have hcl := apart_cls (p := p) (a := a) (b := b)
  generalize stepT (stepT p a) b = x at hD1 hX hne hcl
  generalize stepT (stepT p b) a = y at hD3 hY hne hcl
  generalize stepT p b = z at hD2 hD3
  clear hB1 hB2 hB3 e1 e2 e3
  simp -implicitDefEqProofs only [go_sem, Nat.reduceAdd, Nat.reduceEqDiff, Nat.reduceLeDiff, Nat.reduceMul, reduceCtorEq, ↓reduceIte]
  refine dcallI_pure hD1 ?_
  simp -implicitDefEqProofs only [go_sem, Nat.reduceAdd, Nat.reduceEqDiff, reduceCtorEq, ↓reduceIte]
  refine dcallI_pure hD2 ?_
  simp -implicitDefEqProofs only [go_sem, Nat.reduceAdd, Nat.reduceEqDiff, reduceCtorEq, ↓reduceIte]
  refine dcallI_pure hD3 ?_
  simp -implicitDefEqProofs only [go_sem, Nat.reduceEqDiff, ↓reduceIte]
  refine andI_intro (by (first | omega | (simp [indepB, indep1, apart1, Nat.testBit_eq_decide_div_mod_eq]; done) | (simp [indepB, indep1, apart1, Nat.testBit_eq_decide_div_mod_eq]; omega) | kernel_rfl)) ?_
  simp -implicitDefEqProofs only [go_sem, Nat.reduceAdd, Nat.reduceEqDiff, Nat.reduceLeDiff, reduceCtorEq, ↓reduceIte]
  by_cases hn : a.node = b.node
  case neg =>
    have hnF := eq_false hn
    simp -implicitDefEqProofs only [hnF, go_sem, Nat.reduceEqDiff, ↓reduceIte]
    have hs := w_rSame x y hX.ok
    rw [decide_eq_true (hne hn)] at hs
    refine callI_pure hs ?_
    simp -implicitDefEqProofs only [go_sem, ↓reduceIte]
    try rfl
  have hnN := eq_true hn
  have side : ∀ {P : Prop}, P → P := fun h => h
  by_cases a1 : a.kind = 1
  · have fa1 := eq_true a1
    by_cases b1 : b.kind = 1
    · have fb1 := eq_true b1
      simp -implicitDefEqProofs only [hnN, fa1, fb1, go_sem, Nat.reduceAdd, Nat.reduceEqDiff, Nat.reduceLeDiff, reduceCtorEq, ↓reduceIte]
      by_cases hnm : a.name = b.name
      · have hnT := eq_true hnm
        simp -implicitDefEqProofs only [hnT, fa1, fb1, go_sem, Nat.reduceEqDiff, reduceCtorEq, ↓reduceIte]
        try rfl
      have hnT := eq_false hnm
      simp -implicitDefEqProofs only [hnT, fa1, fb1, go_sem, Nat.reduceAdd, Nat.reduceEqDiff, Nat.reduceLeDiff, reduceCtorEq, ↓reduceIte]
      refine callI_pure (w_proper a.name (by omega)) ?_
      by_cases hwa : wordsB a.name = [a.name]
      case neg =>
        rw [decide_eq_false hwa]
        simp -implicitDefEqProofs only [hnT, fa1, fb1, go_sem, Nat.reduceEqDiff, reduceCtorEq, ↓reduceIte]
        try rfl
      rw [decide_eq_true hwa]
      simp -implicitDefEqProofs only [hnT, fa1, fb1, go_sem, Nat.reduceAdd, Nat.reduceEqDiff, Nat.reduceLeDiff, ↓reduceIte]
      refine callI_pure (w_proper b.name (by omega)) ?_
      by_cases hwb : wordsB b.name = [b.name]
      case neg =>
        rw [decide_eq_false hwb]
        simp -implicitDefEqProofs only [hnT, fa1, fb1, go_sem, Nat.reduceEqDiff, ↓reduceIte]
        try rfl
      rw [decide_eq_true hwb]
      obtain ⟨g1, g2⟩ := hcl hn h3 (by omega) (by omega) hwa hwb hnm
      have l1 := classes_len hX a.node
      have l2 := classes_len hY a.node
      simp -implicitDefEqProofs only [hnT, fa1, fb1, go_sem, Nat.reduceAdd, Nat.reduceEqDiff, Nat.reduceLeDiff, reduceCtorEq, ↓reduceIte]
      refine dcallI_pure (w_rClasses x hX a.node) ?_
      simp -implicitDefEqProofs only [hnT, fa1, fb1, go_sem, Nat.reduceAdd, Nat.reduceEqDiff, Nat.reduceLeDiff, reduceCtorEq, ↓reduceIte]
      refine dcallI_pure (w_rClasses y hY a.node) ?_
      simp -implicitDefEqProofs only [hnT, fa1, fb1, go_sem, Nat.reduceEqDiff, ↓reduceIte]
      refine andI_intro (by (first | omega | (simp [indepB, indep1, apart1, Nat.testBit_eq_decide_div_mod_eq]; done) | (simp [indepB, indep1, apart1, Nat.testBit_eq_decide_div_mod_eq]; omega) | kernel_rfl)) ?_
      simp -implicitDefEqProofs only [hnT, fa1, fb1, go_sem]
      generalize classesB x a.node = cx at g1 g2 l1
      generalize classesB y a.node = cy at g1 g2 l2
      refine LoopI_sl (fun i : Nat => cx.length - i) (fun i => [(9, Enc.av cx), (10, Enc.av cy), (11, .int .i64 i)]) (fun i st => i ≤ cx.length) 0 ?_ ?_
      · simp -implicitDefEqProofs only [go_sem, Nat.reduceEqDiff, ↓reduceIte]
      rintro i ρ ⟨g, m⟩ k1
      rcases Nat.lt_or_ge i cx.length with hi | hi
      · obtain ⟨v, hv, hd, hm⟩ := get_drop hi
        have hlt' : ((i : Int) < (cx.length : Int)) = True := eq_true (by omega)
        have w1 : IntKind.i64.wrap ((i : Int) + 1) = ((i + 1 : Nat) : Int) := by rw [wrap64 (by omega) (by omega)]; omega
        have i1 := w_rIn cy v (by omega)
        rw [inB_mem.2 (g1 v hm)] at i1
        simp -implicitDefEqProofs only [hlt', hv, go_sem, Nat.reduceEqDiff, ↓reduceIte]
        refine callI_pure i1 ?_
        simp -implicitDefEqProofs only [w1, go_sem, Nat.reduceEqDiff, ↓reduceIte]
        exact ⟨i + 1, by omega, rfl, by omega⟩
      · have hlt' : ((i : Int) < (cx.length : Int)) = False := eq_false (by omega)
        have hle : ((cx.length : Int) = (cy.length : Int)) = True := eq_true (by omega)
        simp -implicitDefEqProofs only [hlt', hle, go_sem, Nat.reduceEqDiff, ↓reduceIte]
        simp [g2]
    have fb1 := eq_false b1
    by_cases b2 : b.kind = 2
    · have fb2 := eq_true b2
      simp -implicitDefEqProofs only [hnN, fa1, fb1, fb2, go_sem, Nat.reduceAdd, Nat.reduceEqDiff, Nat.reduceLeDiff, reduceCtorEq, ↓reduceIte]
      by_cases hnm : a.name = b.name
      · have hnT := eq_true hnm
        simp -implicitDefEqProofs only [hnT, fa1, fb1, fb2, go_sem, Nat.reduceEqDiff, reduceCtorEq, ↓reduceIte]
        try rfl
      have hnT := eq_false hnm
      simp -implicitDefEqProofs only [hnT, fa1, fb1, fb2, go_sem, Nat.reduceAdd, Nat.reduceEqDiff, Nat.reduceLeDiff, reduceCtorEq, ↓reduceIte]
      refine callI_pure (w_proper a.name (by omega)) ?_
      by_cases hwa : wordsB a.name = [a.name]
      case neg =>
        rw [decide_eq_false hwa]
        simp -implicitDefEqProofs only [hnT, fa1, fb1, fb2, go_sem, Nat.reduceEqDiff, reduceCtorEq, ↓reduceIte]
        try rfl
      rw [decide_eq_true hwa]
      simp -implicitDefEqProofs only [hnT, fa1, fb1, fb2, go_sem, Nat.reduceAdd, Nat.reduceEqDiff, Nat.reduceLeDiff, ↓reduceIte]
      refine callI_pure (w_proper b.name (by omega)) ?_
      by_cases hwb : wordsB b.name = [b.name]
      case neg =>
        rw [decide_eq_false hwb]
        simp -implicitDefEqProofs only [hnT, fa1, fb1, fb2, go_sem, Nat.reduceEqDiff, ↓reduceIte]
        try rfl
      rw [decide_eq_true hwb]
      obtain ⟨g1, g2⟩ := hcl hn h3 (by omega) (by omega) hwa hwb hnm
      have l1 := classes_len hX a.node
      have l2 := classes_len hY a.node
      simp -implicitDefEqProofs only [hnT, fa1, fb1, fb2, go_sem, Nat.reduceAdd, Nat.reduceEqDiff, Nat.reduceLeDiff, reduceCtorEq, ↓reduceIte]
      refine dcallI_pure (w_rClasses x hX a.node) ?_
      simp -implicitDefEqProofs only [hnT, fa1, fb1, fb2, go_sem, Nat.reduceAdd, Nat.reduceEqDiff, Nat.reduceLeDiff, reduceCtorEq, ↓reduceIte]
      refine dcallI_pure (w_rClasses y hY a.node) ?_
      simp -implicitDefEqProofs only [hnT, fa1, fb1, fb2, go_sem, Nat.reduceEqDiff, ↓reduceIte]
      refine andI_intro (by (first | omega | (simp [indepB, indep1, apart1, Nat.testBit_eq_decide_div_mod_eq]; done) | (simp [indepB, indep1, apart1, Nat.testBit_eq_decide_div_mod_eq]; omega) | kernel_rfl)) ?_
      simp -implicitDefEqProofs only [hnT, fa1, fb1, fb2, go_sem]
      generalize classesB x a.node = cx at g1 g2 l1
      generalize classesB y a.node = cy at g1 g2 l2
      refine LoopI_sl (fun i : Nat => cx.length - i) (fun i => [(9, Enc.av cx), (10, Enc.av cy), (11, .int .i64 i)]) (fun i st => i ≤ cx.length) 0 ?_ ?_
      · simp -implicitDefEqProofs only [go_sem, Nat.reduceEqDiff, ↓reduceIte]
      rintro i ρ ⟨g, m⟩ k1
      rcases Nat.lt_or_ge i cx.length with hi | hi
      · obtain ⟨v, hv, hd, hm⟩ := get_drop hi
        have hlt' : ((i : Int) < (cx.length : Int)) = True := eq_true (by omega)
        have w1 : IntKind.i64.wrap ((i : Int) + 1) = ((i + 1 : Nat) : Int) := by rw [wrap64 (by omega) (by omega)]; omega
        have i1 := w_rIn cy v (by omega)
        rw [inB_mem.2 (g1 v hm)] at i1
        simp -implicitDefEqProofs only [hlt', hv, go_sem, Nat.reduceEqDiff, ↓reduceIte]
        refine callI_pure i1 ?_
        simp -implicitDefEqProofs only [w1, go_sem, Nat.reduceEqDiff, ↓reduceIte]
        exact ⟨i + 1, by omega, rfl, by omega⟩
      · have hlt' : ((i : Int) < (cx.length : Int)) = False := eq_false (by omega)
        have hle : ((cx.length : Int) = (cy.length : Int)) = True := eq_true (by omega)
        simp -implicitDefEqProofs only [hlt', hle, go_sem, Nat.reduceEqDiff, ↓reduceIte]
        simp [g2]
    have fb2 := eq_false b2
    simp -implicitDefEqProofs only [hnN, fa1, fb1, fb2, go_sem, Nat.reduceAdd, Nat.reduceEqDiff, reduceCtorEq, ↓reduceIte]
    try rfl
  have fa1 := eq_false a1
  by_cases a2 : a.kind = 2
  · have fa2 := eq_true a2
    by_cases b1 : b.kind = 1
    · have fb1 := eq_true b1
      simp -implicitDefEqProofs only [hnN, fa1, fa2, fb1, go_sem, Nat.reduceAdd, Nat.reduceEqDiff, Nat.reduceLeDiff, reduceCtorEq, ↓reduceIte]
      by_cases hnm : a.name = b.name
      · have hnT := eq_true hnm
        simp -implicitDefEqProofs only [hnT, fa1, fa2, fb1, go_sem, Nat.reduceEqDiff, reduceCtorEq, ↓reduceIte]
        try rfl
      have hnT := eq_false hnm
      simp -implicitDefEqProofs only [hnT, fa1, fa2, fb1, go_sem, Nat.reduceAdd, Nat.reduceEqDiff, Nat.reduceLeDiff, reduceCtorEq, ↓reduceIte]
      refine callI_pure (w_proper a.name (by omega)) ?_
      by_cases hwa : wordsB a.name = [a.name]
      case neg =>
        rw [decide_eq_false hwa]
        simp -implicitDefEqProofs only [hnT, fa1, fa2, fb1, go_sem, Nat.reduceEqDiff, reduceCtorEq, ↓reduceIte]
        try rfl
      rw [decide_eq_true hwa]
      simp -implicitDefEqProofs only [hnT, fa1, fa2, fb1, go_sem, Nat.reduceAdd, Nat.reduceEqDiff, Nat.reduceLeDiff, ↓reduceIte]
      refine callI_pure (w_proper b.name (by omega)) ?_
      by_cases hwb : wordsB b.name = [b.name]
      case neg =>
        rw [decide_eq_false hwb]
        simp -implicitDefEqProofs only [hnT, fa1, fa2, fb1, go_sem, Nat.reduceEqDiff, ↓reduceIte]
        try rfl
      rw [decide_eq_true hwb]
      obtain ⟨g1, g2⟩ := hcl hn h3 (by omega) (by omega) hwa hwb hnm
      have l1 := classes_len hX a.node
      have l2 := classes_len hY a.node
      simp -implicitDefEqProofs only [hnT, fa1, fa2, fb1, go_sem, Nat.reduceAdd, Nat.reduceEqDiff, Nat.reduceLeDiff, reduceCtorEq, ↓reduceIte]
      refine dcallI_pure (w_rClasses x hX a.node) ?_
      simp -implicitDefEqProofs only [hnT, fa1, fa2, fb1, go_sem, Nat.reduceAdd, Nat.reduceEqDiff, Nat.reduceLeDiff, reduceCtorEq, ↓reduceIte]
      refine dcallI_pure (w_rClasses y hY a.node) ?_
      simp -implicitDefEqProofs only [hnT, fa1, fa2, fb1, go_sem, Nat.reduceEqDiff, ↓reduceIte]
      refine andI_intro (by (first | omega | (simp [indepB, indep1, apart1, Nat.testBit_eq_decide_div_mod_eq]; done) | (simp [indepB, indep1, apart1, Nat.testBit_eq_decide_div_mod_eq]; omega) | kernel_rfl)) ?_
      simp -implicitDefEqProofs only [hnT, fa1, fa2, fb1, go_sem]
      generalize classesB x a.node = cx at g1 g2 l1
      generalize classesB y a.node = cy at g1 g2 l2
      refine LoopI_sl (fun i : Nat => cx.length - i) (fun i => [(9, Enc.av cx), (10, Enc.av cy), (11, .int .i64 i)]) (fun i st => i ≤ cx.length) 0 ?_ ?_
      · simp -implicitDefEqProofs only [go_sem, Nat.reduceEqDiff, ↓reduceIte]
      rintro i ρ ⟨g, m⟩ k1
      rcases Nat.lt_or_ge i cx.length with hi | hi
      · obtain ⟨v, hv, hd, hm⟩ := get_drop hi
        have hlt' : ((i : Int) < (cx.length : Int)) = True := eq_true (by omega)
        have w1 : IntKind.i64.wrap ((i : Int) + 1) = ((i + 1 : Nat) : Int) := by rw [wrap64 (by omega) (by omega)]; omega
        have i1 := w_rIn cy v (by omega)
        rw [inB_mem.2 (g1 v hm)] at i1
        simp -implicitDefEqProofs only [hlt', hv, go_sem, Nat.reduceEqDiff, ↓reduceIte]
        refine callI_pure i1 ?_
        simp -implicitDefEqProofs only [w1, go_sem, Nat.reduceEqDiff, ↓reduceIte]
        exact ⟨i + 1, by omega, rfl, by omega⟩
      · have hlt' : ((i : Int) < (cx.length : Int)) = False := eq_false (by omega)
        have hle : ((cx.length : Int) = (cy.length : Int)) = True := eq_true (by omega)
        simp -implicitDefEqProofs only [hlt', hle, go_sem, Nat.reduceEqDiff, ↓reduceIte]
        simp [g2]
    have fb1 := eq_false b1
    by_cases b2 : b.kind = 2
    · have fb2 := eq_true b2
      simp -implicitDefEqProofs only [hnN, fa1, fa2, fb1, fb2, go_sem, Nat.reduceAdd, Nat.reduceEqDiff, Nat.reduceLeDiff, reduceCtorEq, ↓reduceIte]
      by_cases hnm : a.name = b.name
      · have hnT := eq_true hnm
        simp -implicitDefEqProofs only [hnT, fa1, fa2, fb1, fb2, go_sem, Nat.reduceEqDiff, reduceCtorEq, ↓reduceIte]
        try rfl
      have hnT := eq_false hnm
      simp -implicitDefEqProofs only [hnT, fa1, fa2, fb1, fb2, go_sem, Nat.reduceAdd, Nat.reduceEqDiff, Nat.reduceLeDiff, reduceCtorEq, ↓reduceIte]
      refine callI_pure (w_proper a.name (by omega)) ?_
      by_cases hwa : wordsB a.name = [a.name]
      case neg =>
        rw [decide_eq_false hwa]
        simp -implicitDefEqProofs only [hnT, fa1, fa2, fb1, fb2, go_sem, Nat.reduceEqDiff, reduceCtorEq, ↓reduceIte]
        try rfl
      rw [decide_eq_true hwa]
      simp -implicitDefEqProofs only [hnT, fa1, fa2, fb1, fb2, go_sem, Nat.reduceAdd, Nat.reduceEqDiff, Nat.reduceLeDiff, ↓reduceIte]
      refine callI_pure (w_proper b.name (by omega)) ?_
      by_cases hwb : wordsB b.name = [b.name]
      case neg =>
        rw [decide_eq_false hwb]
        simp -implicitDefEqProofs only [hnT, fa1, fa2, fb1, fb2, go_sem, Nat.reduceEqDiff, ↓reduceIte]
        try rfl
      rw [decide_eq_true hwb]
      obtain ⟨g1, g2⟩ := hcl hn h3 (by omega) (by omega) hwa hwb hnm
      have l1 := classes_len hX a.node
      have l2 := classes_len hY a.node
      simp -implicitDefEqProofs only [hnT, fa1, fa2, fb1, fb2, go_sem, Nat.reduceAdd, Nat.reduceEqDiff, Nat.reduceLeDiff, reduceCtorEq, ↓reduceIte]
      refine dcallI_pure (w_rClasses x hX a.node) ?_
      simp -implicitDefEqProofs only [hnT, fa1, fa2, fb1, fb2, go_sem, Nat.reduceAdd, Nat.reduceEqDiff, Nat.reduceLeDiff, reduceCtorEq, ↓reduceIte]
      refine dcallI_pure (w_rClasses y hY a.node) ?_
      simp -implicitDefEqProofs only [hnT, fa1, fa2, fb1, fb2, go_sem, Nat.reduceEqDiff, ↓reduceIte]
      refine andI_intro (by (first | omega | (simp [indepB, indep1, apart1, Nat.testBit_eq_decide_div_mod_eq]; done) | (simp [indepB, indep1, apart1, Nat.testBit_eq_decide_div_mod_eq]; omega) | kernel_rfl)) ?_
      simp -implicitDefEqProofs only [hnT, fa1, fa2, fb1, fb2, go_sem]
      generalize classesB x a.node = cx at g1 g2 l1
      generalize classesB y a.node = cy at g1 g2 l2
      refine LoopI_sl (fun i : Nat => cx.length - i) (fun i => [(9, Enc.av cx), (10, Enc.av cy), (11, .int .i64 i)]) (fun i st => i ≤ cx.length) 0 ?_ ?_
      · simp -implicitDefEqProofs only [go_sem, Nat.reduceEqDiff, ↓reduceIte]
      rintro i ρ ⟨g, m⟩ k1
      rcases Nat.lt_or_ge i cx.length with hi | hi
      · obtain ⟨v, hv, hd, hm⟩ := get_drop hi
        have hlt' : ((i : Int) < (cx.length : Int)) = True := eq_true (by omega)
        have w1 : IntKind.i64.wrap ((i : Int) + 1) = ((i + 1 : Nat) : Int) := by rw [wrap64 (by omega) (by omega)]; omega
        have i1 := w_rIn cy v (by omega)
        rw [inB_mem.2 (g1 v hm)] at i1
        simp -implicitDefEqProofs only [hlt', hv, go_sem, Nat.reduceEqDiff, ↓reduceIte]
        refine callI_pure i1 ?_
        simp -implicitDefEqProofs only [w1, go_sem, Nat.reduceEqDiff, ↓reduceIte]
        exact ⟨i + 1, by omega, rfl, by omega⟩
      · have hlt' : ((i : Int) < (cx.length : Int)) = False := eq_false (by omega)
        have hle : ((cx.length : Int) = (cy.length : Int)) = True := eq_true (by omega)
        simp -implicitDefEqProofs only [hlt', hle, go_sem, Nat.reduceEqDiff, ↓reduceIte]
        simp [g2]
    have fb2 := eq_false b2
    simp -implicitDefEqProofs only [hnN, fa1, fa2, fb1, fb2, go_sem, Nat.reduceAdd, Nat.reduceEqDiff, reduceCtorEq, ↓reduceIte]
    try rfl
  have fa2 := eq_false a2
  simp -implicitDefEqProofs only [hnN, fa1, fa2, go_sem, Nat.reduceAdd, Nat.reduceEqDiff, reduceCtorEq, ↓reduceIte]
  try rfl
end W11
/- TurnsKeep. -/
set_option linter.unusedSimpArgs false
set_option linter.unusedVariables false
namespace W11
open Go Go.AX Go.AX.Ty Go.Proofs

theorem step_other {p : Page} {t : Turn} {i : Nat} (h : ¬ (i : Int) = t.node) : (stepT p t)[i]? = p[i]? := by
  cases he : elemB p t.node
  · rw [stepT_no he]
  · obtain ⟨x, hx, hn⟩ := elem_node he
    have := node_step hx hn i
    rw [if_neg h, nodeAt_nat, nodeAt_nat] at this
    exact this
theorem step_strip {p : Page} {t : Turn} {i : Nat} {x y : Ty.Node} (hx : p[i]? = some x) (hy : (stepT p t)[i]? = some y) : y.name = x.name ∧ y.text = x.text ∧ y.up = x.up ∧ y.kids = x.kids := by
  obtain ⟨z, hz, e⟩ := (step_same p t).get hx
  rw [hy] at hz
  cases hz
  obtain ⟨h1, h2, h3, h4, _⟩ := strip_eq e
  exact ⟨h1.symm, h2.symm, h3.symm, h4.symm⟩
theorem cut_cells {r : Page} {i : Nat} {x : Ty.Node} (h : r[i]? = some x) : List.take ((i + 1) * 5 - i * 5) (List.drop (i * 5) (cellsL r)) = cellsL [x] := by
  have h1 : (cellsL r).drop (i * 5) = cellsL (r.drop i) := cellsL_drop r i
  have h2 : (cellsL (r.drop i)).take (1 * 5) = cellsL ((r.drop i).take 1) := cellsL_take (r.drop i) 1
  rw [h1, show (i + 1) * 5 - i * 5 = 1 * 5 by omega, h2]
  obtain ⟨x', hx', hd, _⟩ := get_drop (getElem_lt h)
  rw [h] at hx'; cases hx'
  rw [hd]; rfl
theorem cut_same {p q : Page} {i : Nat} {x : Ty.Node} (hx : Enc.ok x) (h : p[i]? = some x) (h2 : q[i]? = some x) :
    PureF Try.prog 16 [.ps (i + 1 - i) (List.take ((i + 1) * 5 - i * 5) (List.drop (i * 5) (cellsL p))), .ps (i + 1 - i) (List.take ((i + 1) * 5 - i * 5) (List.drop (i * 5) (cellsL q)))] (.bool true) := by
  rw [cut_cells h, cut_cells h2, show i + 1 - i = 1 by omega]
  exact w_same_self [x] ⟨by simp, by simpa using hx⟩
set_option maxHeartbeats 4000000 in
theorem w_TurnsKeep (p : Page) (t : Turn) (o : Str) (hp : Enc.ok p) (ht : Enc.ok t) : PureF Try.prog 4 [Enc.av p, Enc.av t, Enc.av o] (.bool true) := by
  refine pureF_W mix c4 (by kernel_rfl) (by kernel_rfl) (by simp [flats, flat_av, Go.AX.flat]) (by first | exact flat_av _ | simp [flat, flats, flat_av]) ?_
  have hS := w_rSmallT [t] ⟨by simp, by simp [ht]⟩
  simp -implicitDefEqProofs only [F4, go_sem]
  refine callI_pure w_fixed ?_
  simp -implicitDefEqProofs only [go_sem, Nat.reduceEqDiff, reduceCtorEq, ↓reduceIte]
  refine callI_pure (w_Small10 60 p hp) ?_
  cases h1 : smallPg 60 p
  · simp -implicitDefEqProofs only [go_sem, Nat.reduceEqDiff, reduceCtorEq, ↓reduceIte]
    refine callI_pure w_fixed ?_
    simp -implicitDefEqProofs only [go_sem, ↓reduceIte]
  simp -implicitDefEqProofs only [go_sem, Nat.reduceAdd, Nat.reduceEqDiff, ↓reduceIte]
  refine callI_pure hS ?_
  cases h2 : smallT [t]
  · simp -implicitDefEqProofs only [go_sem, Nat.reduceEqDiff, reduceCtorEq, ↓reduceIte]
    refine callI_pure w_fixed ?_
    simp -implicitDefEqProofs only [go_sem, ↓reduceIte]
  by_cases h3 : (o.length : Int) > 100
  · have h3' := eq_true h3
    simp -implicitDefEqProofs only [h3', go_sem, Nat.reduceEqDiff, ↓reduceIte]
    refine callI_pure w_fixed ?_
    simp -implicitDefEqProofs only [go_sem, ↓reduceIte]
  have h3' := eq_false h3
  have ltt := (smallT_of h2).2 t (by simp)
  have hB := pgB_of hp h1
  have hP := hB.pg (by omega)
  have hD1 := w_Do p hB [t] (by simp) (by omega) (by omega) (by simp [ht]) (by simp [ltt])
  have hD2 := w_Do p hB [t, t] (by simp) (by omega) (by omega) (by simp [ht]) (by simp [ltt])
  have hB1 := PgB.turns [t] hB (by simp) (by simp) (by simp [ltt])
  have e1 : doB p [t] = stepT p t := rfl
  have e2 : doB p [t, t] = stepT (stepT p t) t := rfl
  rw [e1] at hD1 hB1
  rw [e2] at hD2
  clear e1 e2
  have hQ := hB1.pg (by simp)
  have hlen : (stepT p t).length = p.length := stepT_len p t
  have htw := step_twice (p := p) (t := t)
  have htr : treeB (stepT p t) = treeB p := (step_same p t).tree.symm
  have hot : ∀ i : Nat, ¬ (i : Int) = t.node → (stepT p t)[i]? = p[i]? := fun i h => step_other h
  have hst : ∀ (i : Nat) (x y : Ty.Node), p[i]? = some x → (stepT p t)[i]? = some y → y.name = x.name ∧ y.text = x.text ∧ y.up = x.up ∧ y.kids = x.kids := fun i x y h h' => step_strip h h'
  have hno : elemB p t.node = false → stepT p t = p := stepT_no
  have hki := keep_in (p := p) (t := t)
  have hko := fun a b c => keep_other (p := p) (t := t) a b c (o := o)
  have hks := keep_set (p := p) (t := t)
  have hku := keep_unset (p := p) (t := t)
  have hka := fun a b => keep_attr (p := p) (t := t) a b (o := o)
  generalize stepT p t = q at *
  have hlq : ((q.length : Int) = (p.length : Int)) = True := eq_true (by omega)
  have hpl := hP.len
  have hrt := w_rTree q hQ
  have hrt2 := w_rTree p hP
  rw [htr] at hrt
  simp -implicitDefEqProofs only [h3', go_sem, Nat.reduceAdd, Nat.reduceEqDiff, reduceCtorEq, ↓reduceIte]
  refine callI_pure hD1 ?_
  simp -implicitDefEqProofs only [hlq, go_sem, Nat.reduceAdd, Nat.reduceEqDiff, reduceCtorEq, ↓reduceIte]
  by_cases c1 : t.kind = 1
  · have f1 := eq_true c1
    simp -implicitDefEqProofs only [f1, hlq, go_sem, Nat.reduceAdd, Nat.reduceEqDiff, Nat.reduceLeDiff, reduceCtorEq, ↓reduceIte]
    refine callI_pure (w_proper t.name (by omega)) ?_
    by_cases hw : wordsB t.name = [t.name]
    · rw [decide_eq_true hw]
      have hs := w_same_self q hQ.ok
      rw [htw (.inr hw)] at hD2
      simp -implicitDefEqProofs only [f1, hlq, go_sem, Nat.reduceAdd, Nat.reduceEqDiff, Nat.reduceLeDiff, Nat.reduceMul, reduceCtorEq, ↓reduceIte]
      refine callI_pure hD2 ?_
      simp -implicitDefEqProofs only [f1, hlq, go_sem, Nat.reduceEqDiff, ↓reduceIte]
      refine callI_pure hs ?_
      simp -implicitDefEqProofs only [f1, hlq, go_sem, Nat.reduceEqDiff, ↓reduceIte]
      refine callI_pure hrt ?_
      simp -implicitDefEqProofs only [h3', hlq, f1, go_sem, Nat.reduceEqDiff, reduceCtorEq, ↓reduceIte]
      refine callI_pure hrt2 ?_
      simp -implicitDefEqProofs only [h3', hlq, f1, go_sem, Nat.reduceEqDiff, ↓reduceIte]
      refine LoopI_sl (fun i : Nat => p.length - i) (fun i => [(0, Enc.av p), (2, Enc.av o), (4, .ptr 0 0 0), (7, Enc.av q), (8, .int .i64 i)])
        (fun i st => i ≤ p.length ∧ 1 ≤ st.next ∧ AX.look 0 st.heap = some (.cells 0 [.int .i64 t.kind, .int .i64 t.node, .str t.name, .str t.value] false)) 0 ?_ ?_
      · simp -implicitDefEqProofs only [go_sem, Nat.reduceEqDiff, Nat.reduceLeDiff, reduceCtorEq, ↓reduceIte]
      rintro i ρ ⟨g, m⟩ ⟨k1, k2, k3⟩
      dsimp only at k2 k3
      have m0 : (m = 0) = False := eq_false (by omega)
      have m0' : (0 = m) = False := eq_false (by omega)
      have m1 : (m + 1 = 0) = False := eq_false (by omega)
      have m1' : (0 = m + 1) = False := eq_false (by omega)
      have m2 : (m + 1 = m) = False := eq_false (by omega)
      have m2' : (m = m + 1) = False := eq_false (by omega)
      rcases Nat.lt_or_ge i p.length with hi | hi
      · obtain ⟨x, hx, hd, hm⟩ := get_drop hi
        obtain ⟨y, hy, hd2, hm2⟩ := get_drop (show i < q.length by omega)
        obtain ⟨s1, s2, s3, s4⟩ := hst i x y hx hy
        have hlt' : ((i : Int) < (p.length : Int)) = True := eq_true (by omega)
        have w1 : IntKind.i64.wrap ((i : Int) + 1) = ((i + 1 : Nat) : Int) := by rw [wrap64 (by omega) (by omega)]; omega
        have hxo := (Node.ok_iff x).1 (hp.2 x hm)
        have i2 := w_Ints x.kids y.kids hxo.2.2.2.2.1
        rw [decide_eq_true s4.symm] at i2
        have e1 := s1.symm
        have e2 := s2.symm
        have e3 := s3.symm
        clear s1 s2 s3 s4
        simp -implicitDefEqProofs only [hlt', hx, hy, m0, m0', m1, m1', m2, m2', go_sem, Nat.reduceAdd, Nat.reduceEqDiff, Nat.reduceLeDiff, reduceCtorEq, ↓reduceIte]
        refine andI_intro (by (first | omega | (simp [indepB, indep1, apart1, Nat.testBit_eq_decide_div_mod_eq]; done) | (simp [indepB, indep1, apart1, Nat.testBit_eq_decide_div_mod_eq]; omega) | kernel_rfl)) ?_
        simp -implicitDefEqProofs only [hlt', hx, hy, m0, m0', m1, m1', m2, m2', e1, e2, e3, go_sem, Nat.reduceAdd, Nat.reduceEqDiff, Nat.reduceLeDiff, ↓reduceIte]
        refine dcallI_pure i2 ?_
        simp -implicitDefEqProofs only [hlt', hx, hy, m0, m0', m1, m1', m2, m2', k3, e1, e2, e3, go_sem, Nat.reduceAdd, Nat.reduceEqDiff, Nat.reduceLeDiff, reduceCtorEq, ↓reduceIte]
        by_cases hn : (i : Int) = t.node
        · have hnT := eq_true hn
          simp -implicitDefEqProofs only [hlt', hx, hy, m0, m0', m1, m1', m2, m2', k3, e1, e2, e3, hnT, w1, go_sem, Nat.reduceEqDiff, ↓reduceIte]
          refine andI_intro (by (first | omega | (simp [indepB, indep1, apart1, Nat.testBit_eq_decide_div_mod_eq]; done) | (simp [indepB, indep1, apart1, Nat.testBit_eq_decide_div_mod_eq]; omega) | kernel_rfl)) ?_
          simp -implicitDefEqProofs only [hlt', hx, hy, m0, m0', m1, m1', m2, m2', k3, e1, e2, e3, hnT, w1, go_sem, Nat.reduceEqDiff, Nat.reduceLeDiff, reduceCtorEq, ↓reduceIte]
          exact ⟨i + 1, by omega, rfl, by omega⟩
        have hnF := eq_false hn
        have b1 : (i ≤ i + 1 ∧ i + 1 ≤ p.length ∧ (cellsL p).length = p.length * 5) = True := eq_true ⟨by omega, by omega, nodes_len p⟩
        have b2 : (i ≤ i + 1 ∧ i + 1 ≤ q.length ∧ (cellsL q).length = q.length * 5) = True := eq_true ⟨by omega, by omega, nodes_len q⟩
        have hyx : y = x := by have := hot i hn; rw [hx, hy] at this; cases this; rfl
        have hSS := cut_same (p := p) (q := q) (hp.2 x hm) hx (by rw [hy, hyx])
        simp -implicitDefEqProofs only [hlt', hx, hy, m0, m0', m1, m1', m2, m2', k3, e1, e2, e3, hnF, w1, b1, b2, go_sem, Nat.reduceEqDiff, reduceCtorEq, ↓reduceIte]
        refine dcallI_pure hSS ?_
        simp -implicitDefEqProofs only [hlt', hx, hy, m0, m0', m1, m1', m2, m2', k3, e1, e2, e3, hnF, w1, b1, b2, go_sem, Nat.reduceEqDiff, ↓reduceIte]
        refine andI_intro (by (first | omega | (simp [indepB, indep1, apart1, Nat.testBit_eq_decide_div_mod_eq]; done) | (simp [indepB, indep1, apart1, Nat.testBit_eq_decide_div_mod_eq]; omega) | kernel_rfl)) ?_
        simp -implicitDefEqProofs only [hlt', hx, hy, m0, m0', m1, m1', m2, m2', k3, e1, e2, e3, hnF, w1, b1, b2, go_sem, Nat.reduceEqDiff, Nat.reduceLeDiff, reduceCtorEq, ↓reduceIte]
        exact ⟨i + 1, by omega, rfl, by omega⟩
      have hlt' : ((i : Int) < (p.length : Int)) = False := eq_false (by omega)
      have pm : (0 < m) = True := eq_true (by omega)
      simp -implicitDefEqProofs only [hlt', k3, pm, go_sem, Nat.reduceAdd, Nat.reduceEqDiff, Nat.reduceLeDiff, reduceCtorEq, ↓reduceIte]
      refine callI_pure (w_rElement p t.node) ?_
      cases he : elemB p t.node
      · rw [hno he]
        simp -implicitDefEqProofs only [hlt', k3, pm, go_sem, Nat.reduceEqDiff, reduceCtorEq, ↓reduceIte]
        refine callI_pure (w_same_self p hp) ?_
        simp -implicitDefEqProofs only [k3, pm, go_sem, ↓reduceIte]
        try rfl
      have l1 := classes_len hP t.node
      have l2 := classes_len hQ t.node
      simp -implicitDefEqProofs only [hlt', k3, pm, go_sem, Nat.reduceAdd, Nat.reduceEqDiff, Nat.reduceLeDiff, reduceCtorEq, ↓reduceIte]
      refine dcallI_pure (w_rClasses p hP t.node) ?_
      simp -implicitDefEqProofs only [hlt', k3, pm, go_sem, Nat.reduceAdd, Nat.reduceEqDiff, Nat.reduceLeDiff, reduceCtorEq, ↓reduceIte]
      refine dcallI_pure (w_rClasses q hQ t.node) ?_
      simp -implicitDefEqProofs only [hlt', k3, pm, go_sem, Nat.reduceEqDiff, ↓reduceIte]
      refine andI_intro (by (first | omega | (simp [indepB, indep1, apart1, Nat.testBit_eq_decide_div_mod_eq]; done) | (simp [indepB, indep1, apart1, Nat.testBit_eq_decide_div_mod_eq]; omega) | kernel_rfl)) ?_
      simp -implicitDefEqProofs only [hlt', k3, pm, go_sem, Nat.reduceAdd, Nat.reduceEqDiff, reduceCtorEq, ↓reduceIte]
      have vT : decide (t.kind = 1) = true := decide_eq_true c1
      have kk : (t.kind == (1 : Int)) = true := by simp [c1]
      simp -implicitDefEqProofs only [k3, pm, kk, f1, go_sem, Nat.reduceAdd, Nat.reduceEqDiff, Nat.reduceLeDiff, reduceCtorEq, ↓reduceIte]
      refine callI_pure (w_proper t.name (by omega)) ?_
      by_cases hw : wordsB t.name = [t.name]
      case neg =>
        rw [decide_eq_false hw]
        simp -implicitDefEqProofs only [k3, pm, kk, f1, go_sem, ↓reduceIte]
        try rfl
      rw [decide_eq_true hw]
      have i1 := w_rIn (classesB q t.node) t.name (by omega)
      rw [hki he (by omega) hw, vT] at i1
      simp -implicitDefEqProofs only [k3, pm, kk, f1, go_sem, Nat.reduceAdd, Nat.reduceEqDiff, Nat.reduceLeDiff, reduceCtorEq, ↓reduceIte]
      refine dcallI_pure i1 ?_
      by_cases ho : o = t.name
      · have hoT := eq_true ho
        simp -implicitDefEqProofs only [k3, pm, kk, f1, hoT, go_sem, Nat.reduceAdd, Nat.reduceEqDiff, Nat.reduceLeDiff, reduceCtorEq, ↓reduceIte]
        refine andI_intro (by (first | omega | (simp [indepB, indep1, apart1, Nat.testBit_eq_decide_div_mod_eq]; done) | (simp [indepB, indep1, apart1, Nat.testBit_eq_decide_div_mod_eq]; omega) | kernel_rfl)) ?_
        simp -implicitDefEqProofs only [k3, pm, kk, f1, hoT, go_sem, ↓reduceIte]
        try rfl
      have hoF := eq_false ho
      have i2 := w_rIn (classesB p t.node) o (by omega)
      have i3 := w_rIn (classesB q t.node) o (by omega)
      rw [← hko he (by omega) hw ho] at i3
      simp -implicitDefEqProofs only [k3, pm, kk, f1, hoF, go_sem, Nat.reduceAdd, Nat.reduceEqDiff, Nat.reduceLeDiff, reduceCtorEq, ↓reduceIte]
      refine dcallI_pure i2 ?_
      simp -implicitDefEqProofs only [k3, pm, kk, f1, hoF, go_sem, Nat.reduceEqDiff, reduceCtorEq, ↓reduceIte]
      refine dcallI_pure i3 ?_
      simp -implicitDefEqProofs only [k3, pm, kk, f1, hoF, go_sem, Nat.reduceEqDiff, ↓reduceIte]
      refine andI_intro (by (first | omega | (simp [indepB, indep1, apart1, Nat.testBit_eq_decide_div_mod_eq]; done) | (simp [indepB, indep1, apart1, Nat.testBit_eq_decide_div_mod_eq]; omega) | kernel_rfl)) ?_
      simp -implicitDefEqProofs only [k3, pm, kk, f1, hoF, go_sem, ↓reduceIte]
      try simp
    · rw [decide_eq_false hw]
      simp -implicitDefEqProofs only [f1, hlq, go_sem, Nat.reduceEqDiff, ↓reduceIte]
      refine callI_pure hrt ?_
      simp -implicitDefEqProofs only [h3', hlq, f1, go_sem, Nat.reduceEqDiff, reduceCtorEq, ↓reduceIte]
      refine callI_pure hrt2 ?_
      simp -implicitDefEqProofs only [h3', hlq, f1, go_sem, Nat.reduceEqDiff, ↓reduceIte]
      refine LoopI_sl (fun i : Nat => p.length - i) (fun i => [(0, Enc.av p), (2, Enc.av o), (4, .ptr 0 0 0), (7, Enc.av q), (8, .int .i64 i)])
        (fun i st => i ≤ p.length ∧ 1 ≤ st.next ∧ AX.look 0 st.heap = some (.cells 0 [.int .i64 t.kind, .int .i64 t.node, .str t.name, .str t.value] false)) 0 ?_ ?_
      · simp -implicitDefEqProofs only [go_sem, Nat.reduceEqDiff, Nat.reduceLeDiff, reduceCtorEq, ↓reduceIte]
      rintro i ρ ⟨g, m⟩ ⟨k1, k2, k3⟩
      dsimp only at k2 k3
      have m0 : (m = 0) = False := eq_false (by omega)
      have m0' : (0 = m) = False := eq_false (by omega)
      have m1 : (m + 1 = 0) = False := eq_false (by omega)
      have m1' : (0 = m + 1) = False := eq_false (by omega)
      have m2 : (m + 1 = m) = False := eq_false (by omega)
      have m2' : (m = m + 1) = False := eq_false (by omega)
      rcases Nat.lt_or_ge i p.length with hi | hi
      · obtain ⟨x, hx, hd, hm⟩ := get_drop hi
        obtain ⟨y, hy, hd2, hm2⟩ := get_drop (show i < q.length by omega)
        obtain ⟨s1, s2, s3, s4⟩ := hst i x y hx hy
        have hlt' : ((i : Int) < (p.length : Int)) = True := eq_true (by omega)
        have w1 : IntKind.i64.wrap ((i : Int) + 1) = ((i + 1 : Nat) : Int) := by rw [wrap64 (by omega) (by omega)]; omega
        have hxo := (Node.ok_iff x).1 (hp.2 x hm)
        have i2 := w_Ints x.kids y.kids hxo.2.2.2.2.1
        rw [decide_eq_true s4.symm] at i2
        have e1 := s1.symm
        have e2 := s2.symm
        have e3 := s3.symm
        clear s1 s2 s3 s4
        simp -implicitDefEqProofs only [hlt', hx, hy, m0, m0', m1, m1', m2, m2', go_sem, Nat.reduceAdd, Nat.reduceEqDiff, Nat.reduceLeDiff, reduceCtorEq, ↓reduceIte]
        refine andI_intro (by (first | omega | (simp [indepB, indep1, apart1, Nat.testBit_eq_decide_div_mod_eq]; done) | (simp [indepB, indep1, apart1, Nat.testBit_eq_decide_div_mod_eq]; omega) | kernel_rfl)) ?_
        simp -implicitDefEqProofs only [hlt', hx, hy, m0, m0', m1, m1', m2, m2', e1, e2, e3, go_sem, Nat.reduceAdd, Nat.reduceEqDiff, Nat.reduceLeDiff, ↓reduceIte]
        refine dcallI_pure i2 ?_
        simp -implicitDefEqProofs only [hlt', hx, hy, m0, m0', m1, m1', m2, m2', k3, e1, e2, e3, go_sem, Nat.reduceAdd, Nat.reduceEqDiff, Nat.reduceLeDiff, reduceCtorEq, ↓reduceIte]
        by_cases hn : (i : Int) = t.node
        · have hnT := eq_true hn
          simp -implicitDefEqProofs only [hlt', hx, hy, m0, m0', m1, m1', m2, m2', k3, e1, e2, e3, hnT, w1, go_sem, Nat.reduceEqDiff, ↓reduceIte]
          refine andI_intro (by (first | omega | (simp [indepB, indep1, apart1, Nat.testBit_eq_decide_div_mod_eq]; done) | (simp [indepB, indep1, apart1, Nat.testBit_eq_decide_div_mod_eq]; omega) | kernel_rfl)) ?_
          simp -implicitDefEqProofs only [hlt', hx, hy, m0, m0', m1, m1', m2, m2', k3, e1, e2, e3, hnT, w1, go_sem, Nat.reduceEqDiff, Nat.reduceLeDiff, reduceCtorEq, ↓reduceIte]
          exact ⟨i + 1, by omega, rfl, by omega⟩
        have hnF := eq_false hn
        have b1 : (i ≤ i + 1 ∧ i + 1 ≤ p.length ∧ (cellsL p).length = p.length * 5) = True := eq_true ⟨by omega, by omega, nodes_len p⟩
        have b2 : (i ≤ i + 1 ∧ i + 1 ≤ q.length ∧ (cellsL q).length = q.length * 5) = True := eq_true ⟨by omega, by omega, nodes_len q⟩
        have hyx : y = x := by have := hot i hn; rw [hx, hy] at this; cases this; rfl
        have hSS := cut_same (p := p) (q := q) (hp.2 x hm) hx (by rw [hy, hyx])
        simp -implicitDefEqProofs only [hlt', hx, hy, m0, m0', m1, m1', m2, m2', k3, e1, e2, e3, hnF, w1, b1, b2, go_sem, Nat.reduceEqDiff, reduceCtorEq, ↓reduceIte]
        refine dcallI_pure hSS ?_
        simp -implicitDefEqProofs only [hlt', hx, hy, m0, m0', m1, m1', m2, m2', k3, e1, e2, e3, hnF, w1, b1, b2, go_sem, Nat.reduceEqDiff, ↓reduceIte]
        refine andI_intro (by (first | omega | (simp [indepB, indep1, apart1, Nat.testBit_eq_decide_div_mod_eq]; done) | (simp [indepB, indep1, apart1, Nat.testBit_eq_decide_div_mod_eq]; omega) | kernel_rfl)) ?_
        simp -implicitDefEqProofs only [hlt', hx, hy, m0, m0', m1, m1', m2, m2', k3, e1, e2, e3, hnF, w1, b1, b2, go_sem, Nat.reduceEqDiff, Nat.reduceLeDiff, reduceCtorEq, ↓reduceIte]
        exact ⟨i + 1, by omega, rfl, by omega⟩
      have hlt' : ((i : Int) < (p.length : Int)) = False := eq_false (by omega)
      have pm : (0 < m) = True := eq_true (by omega)
      simp -implicitDefEqProofs only [hlt', k3, pm, go_sem, Nat.reduceAdd, Nat.reduceEqDiff, Nat.reduceLeDiff, reduceCtorEq, ↓reduceIte]
      refine callI_pure (w_rElement p t.node) ?_
      cases he : elemB p t.node
      · rw [hno he]
        simp -implicitDefEqProofs only [hlt', k3, pm, go_sem, Nat.reduceEqDiff, reduceCtorEq, ↓reduceIte]
        refine callI_pure (w_same_self p hp) ?_
        simp -implicitDefEqProofs only [k3, pm, go_sem, ↓reduceIte]
        try rfl
      have l1 := classes_len hP t.node
      have l2 := classes_len hQ t.node
      simp -implicitDefEqProofs only [hlt', k3, pm, go_sem, Nat.reduceAdd, Nat.reduceEqDiff, Nat.reduceLeDiff, reduceCtorEq, ↓reduceIte]
      refine dcallI_pure (w_rClasses p hP t.node) ?_
      simp -implicitDefEqProofs only [hlt', k3, pm, go_sem, Nat.reduceAdd, Nat.reduceEqDiff, Nat.reduceLeDiff, reduceCtorEq, ↓reduceIte]
      refine dcallI_pure (w_rClasses q hQ t.node) ?_
      simp -implicitDefEqProofs only [hlt', k3, pm, go_sem, Nat.reduceEqDiff, ↓reduceIte]
      refine andI_intro (by (first | omega | (simp [indepB, indep1, apart1, Nat.testBit_eq_decide_div_mod_eq]; done) | (simp [indepB, indep1, apart1, Nat.testBit_eq_decide_div_mod_eq]; omega) | kernel_rfl)) ?_
      simp -implicitDefEqProofs only [hlt', k3, pm, go_sem, Nat.reduceAdd, Nat.reduceEqDiff, reduceCtorEq, ↓reduceIte]
      have vT : decide (t.kind = 1) = true := decide_eq_true c1
      have kk : (t.kind == (1 : Int)) = true := by simp [c1]
      simp -implicitDefEqProofs only [k3, pm, kk, f1, go_sem, Nat.reduceAdd, Nat.reduceEqDiff, Nat.reduceLeDiff, reduceCtorEq, ↓reduceIte]
      refine callI_pure (w_proper t.name (by omega)) ?_
      by_cases hw : wordsB t.name = [t.name]
      case neg =>
        rw [decide_eq_false hw]
        simp -implicitDefEqProofs only [k3, pm, kk, f1, go_sem, ↓reduceIte]
        try rfl
      rw [decide_eq_true hw]
      have i1 := w_rIn (classesB q t.node) t.name (by omega)
      rw [hki he (by omega) hw, vT] at i1
      simp -implicitDefEqProofs only [k3, pm, kk, f1, go_sem, Nat.reduceAdd, Nat.reduceEqDiff, Nat.reduceLeDiff, reduceCtorEq, ↓reduceIte]
      refine dcallI_pure i1 ?_
      by_cases ho : o = t.name
      · have hoT := eq_true ho
        simp -implicitDefEqProofs only [k3, pm, kk, f1, hoT, go_sem, Nat.reduceAdd, Nat.reduceEqDiff, Nat.reduceLeDiff, reduceCtorEq, ↓reduceIte]
        refine andI_intro (by (first | omega | (simp [indepB, indep1, apart1, Nat.testBit_eq_decide_div_mod_eq]; done) | (simp [indepB, indep1, apart1, Nat.testBit_eq_decide_div_mod_eq]; omega) | kernel_rfl)) ?_
        simp -implicitDefEqProofs only [k3, pm, kk, f1, hoT, go_sem, ↓reduceIte]
        try rfl
      have hoF := eq_false ho
      have i2 := w_rIn (classesB p t.node) o (by omega)
      have i3 := w_rIn (classesB q t.node) o (by omega)
      rw [← hko he (by omega) hw ho] at i3
      simp -implicitDefEqProofs only [k3, pm, kk, f1, hoF, go_sem, Nat.reduceAdd, Nat.reduceEqDiff, Nat.reduceLeDiff, reduceCtorEq, ↓reduceIte]
      refine dcallI_pure i2 ?_
      simp -implicitDefEqProofs only [k3, pm, kk, f1, hoF, go_sem, Nat.reduceEqDiff, reduceCtorEq, ↓reduceIte]
      refine dcallI_pure i3 ?_
      simp -implicitDefEqProofs only [k3, pm, kk, f1, hoF, go_sem, Nat.reduceEqDiff, ↓reduceIte]
      refine andI_intro (by (first | omega | (simp [indepB, indep1, apart1, Nat.testBit_eq_decide_div_mod_eq]; done) | (simp [indepB, indep1, apart1, Nat.testBit_eq_decide_div_mod_eq]; omega) | kernel_rfl)) ?_
      simp -implicitDefEqProofs only [k3, pm, kk, f1, hoF, go_sem, ↓reduceIte]
      try simp
  have f1 := eq_false c1
  have hs := w_same_self q hQ.ok
  rw [htw (.inl c1)] at hD2
  simp -implicitDefEqProofs only [f1, hlq, go_sem, Nat.reduceAdd, Nat.reduceEqDiff, Nat.reduceLeDiff, Nat.reduceMul, reduceCtorEq, ↓reduceIte]
  refine callI_pure hD2 ?_
  simp -implicitDefEqProofs only [f1, hlq, go_sem, Nat.reduceEqDiff, ↓reduceIte]
  refine callI_pure hs ?_
  simp -implicitDefEqProofs only [f1, hlq, go_sem, Nat.reduceEqDiff, ↓reduceIte]
  refine callI_pure hrt ?_
  simp -implicitDefEqProofs only [h3', hlq, f1, go_sem, Nat.reduceEqDiff, reduceCtorEq, ↓reduceIte]
  refine callI_pure hrt2 ?_
  simp -implicitDefEqProofs only [h3', hlq, f1, go_sem, Nat.reduceEqDiff, ↓reduceIte]
  refine LoopI_sl (fun i : Nat => p.length - i) (fun i => [(0, Enc.av p), (2, Enc.av o), (4, .ptr 0 0 0), (7, Enc.av q), (8, .int .i64 i)])
    (fun i st => i ≤ p.length ∧ 1 ≤ st.next ∧ AX.look 0 st.heap = some (.cells 0 [.int .i64 t.kind, .int .i64 t.node, .str t.name, .str t.value] false)) 0 ?_ ?_
  · simp -implicitDefEqProofs only [go_sem, Nat.reduceEqDiff, Nat.reduceLeDiff, reduceCtorEq, ↓reduceIte]
  rintro i ρ ⟨g, m⟩ ⟨k1, k2, k3⟩
  dsimp only at k2 k3
  have m0 : (m = 0) = False := eq_false (by omega)
  have m0' : (0 = m) = False := eq_false (by omega)
  have m1 : (m + 1 = 0) = False := eq_false (by omega)
  have m1' : (0 = m + 1) = False := eq_false (by omega)
  have m2 : (m + 1 = m) = False := eq_false (by omega)
  have m2' : (m = m + 1) = False := eq_false (by omega)
  rcases Nat.lt_or_ge i p.length with hi | hi
  · obtain ⟨x, hx, hd, hm⟩ := get_drop hi
    obtain ⟨y, hy, hd2, hm2⟩ := get_drop (show i < q.length by omega)
    obtain ⟨s1, s2, s3, s4⟩ := hst i x y hx hy
    have hlt' : ((i : Int) < (p.length : Int)) = True := eq_true (by omega)
    have w1 : IntKind.i64.wrap ((i : Int) + 1) = ((i + 1 : Nat) : Int) := by rw [wrap64 (by omega) (by omega)]; omega
    have hxo := (Node.ok_iff x).1 (hp.2 x hm)
    have i2 := w_Ints x.kids y.kids hxo.2.2.2.2.1
    rw [decide_eq_true s4.symm] at i2
    have e1 := s1.symm
    have e2 := s2.symm
    have e3 := s3.symm
    clear s1 s2 s3 s4
    simp -implicitDefEqProofs only [hlt', hx, hy, m0, m0', m1, m1', m2, m2', go_sem, Nat.reduceAdd, Nat.reduceEqDiff, Nat.reduceLeDiff, reduceCtorEq, ↓reduceIte]
    refine andI_intro (by (first | omega | (simp [indepB, indep1, apart1, Nat.testBit_eq_decide_div_mod_eq]; done) | (simp [indepB, indep1, apart1, Nat.testBit_eq_decide_div_mod_eq]; omega) | kernel_rfl)) ?_
    simp -implicitDefEqProofs only [hlt', hx, hy, m0, m0', m1, m1', m2, m2', e1, e2, e3, go_sem, Nat.reduceAdd, Nat.reduceEqDiff, Nat.reduceLeDiff, ↓reduceIte]
    refine dcallI_pure i2 ?_
    simp -implicitDefEqProofs only [hlt', hx, hy, m0, m0', m1, m1', m2, m2', k3, e1, e2, e3, go_sem, Nat.reduceAdd, Nat.reduceEqDiff, Nat.reduceLeDiff, reduceCtorEq, ↓reduceIte]
    by_cases hn : (i : Int) = t.node
    · have hnT := eq_true hn
      simp -implicitDefEqProofs only [hlt', hx, hy, m0, m0', m1, m1', m2, m2', k3, e1, e2, e3, hnT, w1, go_sem, Nat.reduceEqDiff, ↓reduceIte]
      refine andI_intro (by (first | omega | (simp [indepB, indep1, apart1, Nat.testBit_eq_decide_div_mod_eq]; done) | (simp [indepB, indep1, apart1, Nat.testBit_eq_decide_div_mod_eq]; omega) | kernel_rfl)) ?_
      simp -implicitDefEqProofs only [hlt', hx, hy, m0, m0', m1, m1', m2, m2', k3, e1, e2, e3, hnT, w1, go_sem, Nat.reduceEqDiff, Nat.reduceLeDiff, reduceCtorEq, ↓reduceIte]
      exact ⟨i + 1, by omega, rfl, by omega⟩
    have hnF := eq_false hn
    have b1 : (i ≤ i + 1 ∧ i + 1 ≤ p.length ∧ (cellsL p).length = p.length * 5) = True := eq_true ⟨by omega, by omega, nodes_len p⟩
    have b2 : (i ≤ i + 1 ∧ i + 1 ≤ q.length ∧ (cellsL q).length = q.length * 5) = True := eq_true ⟨by omega, by omega, nodes_len q⟩
    have hyx : y = x := by have := hot i hn; rw [hx, hy] at this; cases this; rfl
    have hSS := cut_same (p := p) (q := q) (hp.2 x hm) hx (by rw [hy, hyx])
    simp -implicitDefEqProofs only [hlt', hx, hy, m0, m0', m1, m1', m2, m2', k3, e1, e2, e3, hnF, w1, b1, b2, go_sem, Nat.reduceEqDiff, reduceCtorEq, ↓reduceIte]
    refine dcallI_pure hSS ?_
    simp -implicitDefEqProofs only [hlt', hx, hy, m0, m0', m1, m1', m2, m2', k3, e1, e2, e3, hnF, w1, b1, b2, go_sem, Nat.reduceEqDiff, ↓reduceIte]
    refine andI_intro (by (first | omega | (simp [indepB, indep1, apart1, Nat.testBit_eq_decide_div_mod_eq]; done) | (simp [indepB, indep1, apart1, Nat.testBit_eq_decide_div_mod_eq]; omega) | kernel_rfl)) ?_
    simp -implicitDefEqProofs only [hlt', hx, hy, m0, m0', m1, m1', m2, m2', k3, e1, e2, e3, hnF, w1, b1, b2, go_sem, Nat.reduceEqDiff, Nat.reduceLeDiff, reduceCtorEq, ↓reduceIte]
    exact ⟨i + 1, by omega, rfl, by omega⟩
  have hlt' : ((i : Int) < (p.length : Int)) = False := eq_false (by omega)
  have pm : (0 < m) = True := eq_true (by omega)
  simp -implicitDefEqProofs only [hlt', k3, pm, go_sem, Nat.reduceAdd, Nat.reduceEqDiff, Nat.reduceLeDiff, reduceCtorEq, ↓reduceIte]
  refine callI_pure (w_rElement p t.node) ?_
  cases he : elemB p t.node
  · rw [hno he]
    simp -implicitDefEqProofs only [hlt', k3, pm, go_sem, Nat.reduceEqDiff, reduceCtorEq, ↓reduceIte]
    refine callI_pure (w_same_self p hp) ?_
    simp -implicitDefEqProofs only [k3, pm, go_sem, ↓reduceIte]
    try rfl
  have l1 := classes_len hP t.node
  have l2 := classes_len hQ t.node
  simp -implicitDefEqProofs only [hlt', k3, pm, go_sem, Nat.reduceAdd, Nat.reduceEqDiff, Nat.reduceLeDiff, reduceCtorEq, ↓reduceIte]
  refine dcallI_pure (w_rClasses p hP t.node) ?_
  simp -implicitDefEqProofs only [hlt', k3, pm, go_sem, Nat.reduceAdd, Nat.reduceEqDiff, Nat.reduceLeDiff, reduceCtorEq, ↓reduceIte]
  refine dcallI_pure (w_rClasses q hQ t.node) ?_
  simp -implicitDefEqProofs only [hlt', k3, pm, go_sem, Nat.reduceEqDiff, ↓reduceIte]
  refine andI_intro (by (first | omega | (simp [indepB, indep1, apart1, Nat.testBit_eq_decide_div_mod_eq]; done) | (simp [indepB, indep1, apart1, Nat.testBit_eq_decide_div_mod_eq]; omega) | kernel_rfl)) ?_
  simp -implicitDefEqProofs only [hlt', k3, pm, go_sem, Nat.reduceAdd, Nat.reduceEqDiff, reduceCtorEq, ↓reduceIte]
  by_cases c2 : t.kind = 2
  · have f2 := eq_true c2
    have vF : decide (t.kind = 1) = false := decide_eq_false c1
    have kk : (t.kind == (1 : Int)) = false := by simp [c1]
    simp -implicitDefEqProofs only [k3, pm, kk, f1, f2, go_sem, Nat.reduceAdd, Nat.reduceEqDiff, Nat.reduceLeDiff, reduceCtorEq, ↓reduceIte]
    refine callI_pure (w_proper t.name (by omega)) ?_
    by_cases hw : wordsB t.name = [t.name]
    case neg =>
      rw [decide_eq_false hw]
      simp -implicitDefEqProofs only [k3, pm, kk, f1, f2, go_sem, ↓reduceIte]
      try rfl
    rw [decide_eq_true hw]
    have i1 := w_rIn (classesB q t.node) t.name (by omega)
    rw [hki he (by omega) hw, vF] at i1
    simp -implicitDefEqProofs only [k3, pm, kk, f1, f2, go_sem, Nat.reduceAdd, Nat.reduceEqDiff, Nat.reduceLeDiff, reduceCtorEq, ↓reduceIte]
    refine dcallI_pure i1 ?_
    by_cases ho : o = t.name
    · have hoT := eq_true ho
      simp -implicitDefEqProofs only [k3, pm, kk, f1, f2, hoT, go_sem, Nat.reduceAdd, Nat.reduceEqDiff, Nat.reduceLeDiff, reduceCtorEq, ↓reduceIte]
      refine andI_intro (by (first | omega | (simp [indepB, indep1, apart1, Nat.testBit_eq_decide_div_mod_eq]; done) | (simp [indepB, indep1, apart1, Nat.testBit_eq_decide_div_mod_eq]; omega) | kernel_rfl)) ?_
      simp -implicitDefEqProofs only [k3, pm, kk, f1, f2, hoT, go_sem, ↓reduceIte]
      try rfl
    have hoF := eq_false ho
    have i2 := w_rIn (classesB p t.node) o (by omega)
    have i3 := w_rIn (classesB q t.node) o (by omega)
    rw [← hko he (by omega) hw ho] at i3
    simp -implicitDefEqProofs only [k3, pm, kk, f1, f2, hoF, go_sem, Nat.reduceAdd, Nat.reduceEqDiff, Nat.reduceLeDiff, reduceCtorEq, ↓reduceIte]
    refine dcallI_pure i2 ?_
    simp -implicitDefEqProofs only [k3, pm, kk, f1, f2, hoF, go_sem, Nat.reduceEqDiff, reduceCtorEq, ↓reduceIte]
    refine dcallI_pure i3 ?_
    simp -implicitDefEqProofs only [k3, pm, kk, f1, f2, hoF, go_sem, Nat.reduceEqDiff, ↓reduceIte]
    refine andI_intro (by (first | omega | (simp [indepB, indep1, apart1, Nat.testBit_eq_decide_div_mod_eq]; done) | (simp [indepB, indep1, apart1, Nat.testBit_eq_decide_div_mod_eq]; omega) | kernel_rfl)) ?_
    simp -implicitDefEqProofs only [k3, pm, kk, f1, f2, hoF, go_sem, ↓reduceIte]
    try simp
  have f2 := eq_false c2
  have A1 := w_rAttr q hQ.ok t.node t.name
  by_cases c3 : t.kind = 3
  · have f3 := eq_true c3
    have f4 : (t.kind = 4) = False := eq_false (by omega)
    rw [hks he c3] at A1
    have A2 := w_rAttr q hQ.ok t.node o
    have A3 := w_rAttr p hp t.node o
    simp -implicitDefEqProofs only [k3, pm, f1, f2, f3, f4, go_sem, Nat.reduceAdd, Nat.reduceEqDiff, Nat.reduceLeDiff, reduceCtorEq, ↓reduceIte]
    refine callI_pure A1 ?_
    simp -implicitDefEqProofs only [k3, pm, f1, f2, f3, f4, go_sem, Nat.reduceAdd, Nat.reduceEqDiff, Nat.reduceLeDiff, reduceCtorEq, ↓reduceIte]
    refine callI_pure A2 ?_
    simp -implicitDefEqProofs only [k3, pm, f1, f2, f3, f4, go_sem, Nat.reduceAdd, Nat.reduceEqDiff, Nat.reduceLeDiff, reduceCtorEq, ↓reduceIte]
    refine callI_pure A3 ?_
    simp -implicitDefEqProofs only [k3, pm, f1, f2, f3, f4, go_sem, Nat.reduceAdd, Nat.reduceEqDiff, Nat.reduceLeDiff, reduceCtorEq, ↓reduceIte]
    by_cases ho : o = t.name
    · have hoT := eq_true ho
      simp -implicitDefEqProofs only [k3, pm, f1, f2, f3, f4, hoT, go_sem, Nat.reduceEqDiff, ↓reduceIte]
      try rfl
    have hoF := eq_false ho
    rw [hka he (by omega) ho]
    simp -implicitDefEqProofs only [k3, pm, f1, f2, f3, f4, hoF, go_sem, Nat.reduceEqDiff, ↓reduceIte]
    try simp
  have f3 := eq_false c3
  by_cases c4 : t.kind = 4
  · have f4 := eq_true c4
    rw [hku he c4] at A1
    have A2 := w_rAttr q hQ.ok t.node o
    have A3 := w_rAttr p hp t.node o
    simp -implicitDefEqProofs only [k3, pm, f1, f2, f3, f4, go_sem, Nat.reduceAdd, Nat.reduceEqDiff, Nat.reduceLeDiff, reduceCtorEq, ↓reduceIte]
    refine callI_pure A1 ?_
    simp -implicitDefEqProofs only [k3, pm, f1, f2, f3, f4, go_sem, Nat.reduceAdd, Nat.reduceEqDiff, Nat.reduceLeDiff, reduceCtorEq, ↓reduceIte]
    refine callI_pure A2 ?_
    simp -implicitDefEqProofs only [k3, pm, f1, f2, f3, f4, go_sem, Nat.reduceAdd, Nat.reduceEqDiff, Nat.reduceLeDiff, reduceCtorEq, ↓reduceIte]
    refine callI_pure A3 ?_
    simp -implicitDefEqProofs only [k3, pm, f1, f2, f3, f4, go_sem, Nat.reduceAdd, Nat.reduceEqDiff, Nat.reduceLeDiff, reduceCtorEq, ↓reduceIte]
    by_cases ho : o = t.name
    · have hoT := eq_true ho
      simp -implicitDefEqProofs only [k3, pm, f1, f2, f3, f4, hoT, go_sem, Nat.reduceEqDiff, ↓reduceIte]
      try rfl
    have hoF := eq_false ho
    rw [hka he (by omega) ho]
    simp -implicitDefEqProofs only [k3, pm, f1, f2, f3, f4, hoF, go_sem, Nat.reduceEqDiff, ↓reduceIte]
    try simp
  have f4 := eq_false c4
  have A2 := w_rAttr q hQ.ok t.node o
  have A3 := w_rAttr p hp t.node o
  simp -implicitDefEqProofs only [k3, pm, f1, f2, f3, f4, go_sem, Nat.reduceAdd, Nat.reduceEqDiff, Nat.reduceLeDiff, reduceCtorEq, ↓reduceIte]
  refine callI_pure A1 ?_
  simp -implicitDefEqProofs only [k3, pm, f1, f2, f3, f4, go_sem, Nat.reduceAdd, Nat.reduceEqDiff, Nat.reduceLeDiff, reduceCtorEq, ↓reduceIte]
  refine callI_pure A2 ?_
  simp -implicitDefEqProofs only [k3, pm, f1, f2, f3, f4, go_sem, Nat.reduceAdd, Nat.reduceEqDiff, Nat.reduceLeDiff, reduceCtorEq, ↓reduceIte]
  refine callI_pure A3 ?_
  simp -implicitDefEqProofs only [k3, pm, f1, f2, f3, f4, go_sem, Nat.reduceAdd, Nat.reduceEqDiff, Nat.reduceLeDiff, reduceCtorEq, ↓reduceIte]
  by_cases ho : o = t.name
  · have hoT := eq_true ho
    simp -implicitDefEqProofs only [k3, pm, f1, f2, f3, f4, hoT, go_sem, Nat.reduceEqDiff, ↓reduceIte]
    try rfl
  have hoF := eq_false ho
  rw [hka he (by omega) ho]
  simp -implicitDefEqProofs only [k3, pm, f1, f2, f3, f4, hoF, go_sem, Nat.reduceEqDiff, ↓reduceIte]
  try simp
end W11
