/- TurnsTell. -/
import Derived.Test.YtaaobfeieelolaaTxD
set_option linter.unusedSimpArgs false
set_option linter.unusedVariables false
namespace W11
open Go Go.AX Go.AX.Ty Go.Proofs

theorem pgB_of {p : Page} (hok : Enc.ok p) (h : smallPg 60 p = true) : PgB 20 1000 p := by
  have hp := smallPg_ok (by decide) hok h
  simp only [smallPg, Bool.and_eq_true, decide_eq_true_eq, Bool.not_eq_true', List.any_eq_false] at h
  refine ⟨hp.ok, hp.len, hp.kids, fun x hx => ?_, fun x hx a ha => ?_⟩
  · have := h.2 x hx
    simp only [badN, Bool.or_eq_true, decide_eq_true_eq, not_or] at this
    omega
  · have := h.2 x hx
    simp only [badN, Bool.or_eq_true, decide_eq_true_eq, not_or, List.any_eq_true, not_exists, not_and] at this
    have := this.2.2.2.2 a ha
    omega
theorem smallT_of {l : List Turn} (h : smallT l = true) : l.length ≤ 20 ∧ ∀ t ∈ l, t.name.length ≤ 100 ∧ t.value.length ≤ 100 := by
  simp only [smallT, Bool.and_eq_true, decide_eq_true_eq, Bool.not_eq_true', List.any_eq_false] at h
  refine ⟨h.1, fun t ht => ?_⟩
  have := h.2 t ht
  simp only [badT, Bool.or_eq_true, decide_eq_true_eq, not_or] at this
  omega
theorem w_same_self (q : Page) (h : Enc.ok q) : PureF Try.prog 16 [Enc.av q, Enc.av q] (.bool true) := by
  have := w_rSame q q h
  rw [decide_eq_true rfl] at this; exact this
theorem w_TurnsTell (s : Safe) (p : Page) (l : List Turn) (hs : Enc.ok s) (hp : Enc.ok p) (hl : Enc.ok l) (hb1 : s.classes.length ≤ 1048576) (hb2 : s.attrs.length ≤ 1048576) : PureF Try.prog 3 [Enc.av s, Enc.av p, Enc.av l] (.bool true) := by
  refine pureF_W mix c3 (by kernel_rfl) (by kernel_rfl) (by simp [flats, flat_av, Go.AX.flat]) (by first | exact flat_av _ | simp [flat, flats, flat_av]) ?_
  have hfew := w_rFew s hs hb1 hb2
  rw [Safe.eav] at hfew
  rw [Safe.eav]
  simp -implicitDefEqProofs only [F3, go_sem, Nat.reduceEqDiff, ↓reduceIte]
  refine callI_pure (w_Small10 60 p hp) ?_
  cases h1 : smallPg 60 p
  · simp -implicitDefEqProofs only [go_sem, Nat.reduceEqDiff, reduceCtorEq, ↓reduceIte]
    refine callI_pure w_fixed ?_
    simp -implicitDefEqProofs only [go_sem, ↓reduceIte]
  simp -implicitDefEqProofs only [go_sem, Nat.reduceEqDiff, ↓reduceIte]
  refine callI_pure (w_rSmallT l hl) ?_
  cases h2 : smallT l
  · simp -implicitDefEqProofs only [go_sem, Nat.reduceEqDiff, reduceCtorEq, ↓reduceIte]
    refine callI_pure w_fixed ?_
    simp -implicitDefEqProofs only [go_sem, ↓reduceIte]
  simp -implicitDefEqProofs only [go_sem, Nat.reduceAdd, Nat.reduceEqDiff, ↓reduceIte]
  refine callI_pure hfew ?_
  cases h3 : fewS s
  · simp -implicitDefEqProofs only [go_sem, Nat.reduceEqDiff, ↓reduceIte]
    refine callI_pure w_fixed ?_
    simp -implicitDefEqProofs only [go_sem, ↓reduceIte]
  obtain ⟨hl20, hlt⟩ := smallT_of h2
  have hB := pgB_of hp h1
  have hAll := w_All s hs p hB l (by omega) (by omega) (by omega) hl.2 hlt
  have hrAll := w_rAllT s hs p hB l (by omega) (by omega) (by omega) hl.2 hlt
  have hDo := w_Do p hB l (by omega) (by omega) (by omega) hl.2 hlt
  have hrDo := w_rDo p hB l (by omega) (by omega) (by omega) hl.2 hlt
  have hqok := (PgB.turns l hB (by omega) (by omega) hlt).ok
  have hSame := w_same_self (doB p l) hqok
  have hSame2 := w_same_self (if l.all (mayT s p) = true then doB p l else p) (by split; exact hqok; exact hp)
  rw [Safe.eav] at hAll hrAll
  generalize doB p l = q at hDo hrDo hAll hrAll hSame hSame2
  generalize (if l.all (mayT s p) = true then q else p) = q2 at hAll hrAll hSame2
  generalize hal : l.all (mayT s p) = al at hAll hrAll
  simp -implicitDefEqProofs only [go_sem, Nat.reduceEqDiff, ↓reduceIte]
  refine LoopI_sl (fun i : Nat => l.length - i) (fun i => [(1, Enc.av p), (2, Enc.av l), (3, .ptr 0 0 0), (7, .int .i64 i)])
    (fun i st => i ≤ l.length ∧ st = ⟨[(0, .cells 0 [.ps s.classes.length (cellsL s.classes), .ps s.attrs.length (cellsL s.attrs)] false)], 1⟩) 0 ?_ ?_
  · simp -implicitDefEqProofs only [go_sem, Nat.reduceEqDiff, ↓reduceIte]
  rintro i ρ st ⟨k1, rfl⟩
  rcases Nat.lt_or_ge i l.length with hi | hi
  · obtain ⟨t, hx, hdr, hm⟩ := get_drop hi
    have hlt' : ((i : Int) < (l.length : Int)) = True := eq_true (by omega)
    have w1 : IntKind.i64.wrap ((i : Int) + 1) = ((i + 1 : Nat) : Int) := by rw [wrap64 (by omega) (by omega)]; omega
    have m1 := w_May s hs p t (hl.2 t hm)
    have m2 := w_rMay s hs p t (hl.2 t hm)
    rw [Safe.eav, Turn.eav] at m1 m2
    simp -implicitDefEqProofs only [hlt', hx, go_sem, Nat.reduceAdd, Nat.reduceEqDiff, Nat.reduceLeDiff, ↓reduceIte]
    refine dcallI_pure m1 ?_
    simp -implicitDefEqProofs only [hlt', hx, go_sem, Nat.reduceAdd, Nat.reduceEqDiff, Nat.reduceLeDiff, ↓reduceIte]
    refine dcallI_pure m2 ?_
    simp -implicitDefEqProofs only [go_sem, Nat.reduceEqDiff, ↓reduceIte]
    refine andI_intro (by kernel_rfl) ?_
    simp -implicitDefEqProofs only [w1, go_sem, Nat.reduceEqDiff, ↓reduceIte]
    exact ⟨i + 1, by omega, rfl, by omega⟩
  · have hlt' : ((i : Int) < (l.length : Int)) = False := eq_false (by omega)
    simp -implicitDefEqProofs only [hlt', go_sem, Nat.reduceAdd, Nat.reduceEqDiff, ↓reduceIte]
    refine callI_pure hAll ?_
    simp -implicitDefEqProofs only [go_sem, Nat.reduceAdd, Nat.reduceEqDiff, ↓reduceIte]
    refine callI_pure hrAll ?_
    simp -implicitDefEqProofs only [go_sem, Nat.reduceEqDiff, ↓reduceIte]
    refine callI_pure w_fixed ?_
    simp -implicitDefEqProofs only [go_sem, Nat.reduceEqDiff, ↓reduceIte]
    refine callI_pure hDo ?_
    simp -implicitDefEqProofs only [go_sem, Nat.reduceEqDiff, ↓reduceIte]
    refine callI_pure hrDo ?_
    simp -implicitDefEqProofs only [go_sem, Nat.reduceEqDiff, ↓reduceIte]
    refine callI_pure hSame ?_
    simp -implicitDefEqProofs only [go_sem, Nat.reduceEqDiff, ↓reduceIte]
    refine callI_pure hSame2 ?_
    simp -implicitDefEqProofs only [go_sem, Nat.reduceEqDiff, ↓reduceIte]
    try rfl
end W11
/- TurnsEach. -/
set_option linter.unusedSimpArgs false
set_option linter.unusedVariables false
namespace W11
open Go Go.AX Go.AX.Ty Go.Proofs

theorem view_agg2 {g : Nat → Option AX.Obj} {d : Nat} {a b a' b' : AV} {p q : List (Nat × AX.Obj)} (h1 : viewN g (d + 1) a = some (a', p)) (h2 : viewN g (d + 1) b = some (b', q)) : viewN g (d + 2) (.agg [a, b]) = some (.agg [a', b'], p ++ q) := by
  show wrapV .agg (viewList (viewN g (d + 1)) [a, b]) = _
  simp only [viewList, h1, h2, wrapV, List.append_nil]
theorem inB_cons {l : List Str} {x y : Str} (h : inB l x = true) : inB (y :: l) x = true := by
  rw [inB_mem] at h ⊢; exact List.mem_cons_of_mem _ h
theorem w_TurnsEach (s : Safe) (p : Page) (l : List Turn) (hs : Enc.ok s) (hp : Enc.ok p) (hl : Enc.ok l) (hb1 : s.classes.length ≤ 1048576) (hb2 : s.attrs.length ≤ 1048576) : PureF Try.prog 7 [Enc.av s, Enc.av p, Enc.av l] (.bool true) := by
  refine pureF_W mix c7 (by kernel_rfl) (by kernel_rfl) (by simp [flats, flat_av, Go.AX.flat]) (by first | exact flat_av _ | simp [flat, flats, flat_av]) ?_
  have hfew := w_rFew s hs hb1 hb2
  rw [Safe.eav] at hfew
  rw [Safe.eav]
  simp -implicitDefEqProofs only [F7, go_sem]
  refine callI_pure w_fixed ?_
  simp -implicitDefEqProofs only [go_sem, Nat.reduceEqDiff, ↓reduceIte]
  refine callI_pure (w_Small10 60 p hp) ?_
  cases h1 : smallPg 60 p
  · simp -implicitDefEqProofs only [go_sem, Nat.reduceEqDiff, reduceCtorEq, ↓reduceIte]
    refine callI_pure w_fixed ?_
    simp -implicitDefEqProofs only [go_sem, ↓reduceIte]
  simp -implicitDefEqProofs only [go_sem, Nat.reduceEqDiff, ↓reduceIte]
  refine callI_pure (w_rSmallT l hl) ?_
  cases h2 : smallT l
  · simp -implicitDefEqProofs only [go_sem, Nat.reduceEqDiff, reduceCtorEq, ↓reduceIte]
    refine callI_pure w_fixed ?_
    simp -implicitDefEqProofs only [go_sem, ↓reduceIte]
  simp -implicitDefEqProofs only [go_sem, Nat.reduceAdd, Nat.reduceEqDiff, ↓reduceIte]
  refine callI_pure hfew ?_
  cases h3 : fewS s
  · simp -implicitDefEqProofs only [go_sem, Nat.reduceEqDiff, ↓reduceIte]
    refine callI_pure w_fixed ?_
    simp -implicitDefEqProofs only [go_sem, ↓reduceIte]
  obtain ⟨hl20, hlt⟩ := smallT_of h2
  have hB := pgB_of hp h1
  have hAll := w_All s hs p hB l (by omega) (by omega) (by omega) hl.2 hlt
  have hDo := w_Do p hB l (by omega) (by omega) (by omega) hl.2 hlt
  have hqok := (PgB.turns l hB (by omega) (by omega) hlt).ok
  have hSame := w_same_self (doB p l) hqok
  have hSame2 := w_same_self p hp
  rw [Safe.eav] at hAll
  have hc1 : (cellsL s.classes).length = s.classes.length := strs_len _
  have hc2 : (cellsL s.attrs).length = s.attrs.length := strs_len _
  have bd1 : ((1 + s.classes.length) * 16 ≤ 140737488355328) = True := eq_true (by omega)
  have bd2 : ((1 + s.attrs.length) * 16 ≤ 140737488355328) = True := eq_true (by omega)
  have hs' := (Safe.ok_iff s).1 hs
  have hmok : Enc.ok (⟨[109] :: s.classes, [109] :: s.attrs⟩ : Safe) := by
    have k1 := hs'.1
    have k2 := hs'.2
    refine (Safe.ok_iff _).2 ⟨⟨by show s.classes.length + 1 ≤ _; omega, fun x hx => ?_⟩, ⟨by show s.attrs.length + 1 ≤ _; omega, fun x hx => ?_⟩⟩
    · rcases List.mem_cons.1 hx with rfl | hx
      · show _ ≤ _; simp
      · exact k1.2 x hx
    · rcases List.mem_cons.1 hx with rfl | hx
      · show _ ≤ _; simp
      · exact k2.2 x hx
  have hnok : Enc.ok (⟨[], []⟩ : Safe) := by simp [Safe.ok_iff, Enc.ok]
  have hmore : ∀ t, mayT s p t = true → mayT ⟨[109] :: s.classes, [109] :: s.attrs⟩ p t = true := fun t h => mayT_more (fun x hx => inB_cons hx) (fun x hx => inB_cons hx) h
  have m1 := fun t (ht : Enc.ok t) => w_May s hs p t ht
  have m2 := fun t (ht : Enc.ok t) => w_May ⟨[], []⟩ hnok p t ht
  have m3 := fun t (ht : Enc.ok t) => w_May ⟨[109] :: s.classes, [109] :: s.attrs⟩ hmok p t ht
  simp only [mayT_none] at m2
  simp only [Safe.eav, Turn.eav, List.length_cons] at m1 m2 m3
  by_cases z1 : s.classes.length = 0
  · by_cases z2 : s.attrs.length = 0
    · have e1 : cellsL s.classes = [] := List.eq_nil_of_length_eq_zero (by omega)
      have e2 : cellsL s.attrs = [] := List.eq_nil_of_length_eq_zero (by omega)
      have k1 : s.classes.length + 1 = 1 := by omega
      have k2 : s.attrs.length + 1 = 1 := by omega
      have q3 : ∀ t, Enc.ok t → PureF Try.prog 12 [.agg [.ps 1 [.str [109]], .ps 1 [.str [109]]], Enc.av p, Enc.av t] (.bool (mayT ⟨[109] :: s.classes, [109] :: s.attrs⟩ p t)) := fun t ht => by
        have := w_May ⟨[109] :: s.classes, [109] :: s.attrs⟩ hmok p t ht
        rw [Safe.eav] at this
        simp only [List.length_cons, k1, k2] at this
        have g1 : cellsL ([109] :: s.classes) = [.str [109]] := by show AV.str [109] :: cellsL s.classes = _; rw [e1]
        have g2 : cellsL ([109] :: s.attrs) = [.str [109]] := by show AV.str [109] :: cellsL s.attrs = _; rw [e2]
        rw [g1, g2] at this
        exact this
      clear m3
      simp only [z1, e1, z2, e2] at m1 hAll
      simp -implicitDefEqProofs only [z1, e1, z2, e2, go_sem, Nat.reduceAdd, Nat.reduceEqDiff, Nat.reduceLeDiff, reduceCtorEq, ↓reduceIte]
      refine andI_intro (by kernel_rfl) ?_
      simp -implicitDefEqProofs only [z1, e1, z2, e2, go_sem]
      refine LoopI_sl (fun i : Nat => l.length - i) (fun i => [(1, Enc.av p), (2, Enc.av l), (3, .ptr 0 0 0), (7, .ptr 3 0 0), (8, .bool ((l.take i).all (mayT s p))), (9, .int .i64 i)])
        (fun i st => i ≤ l.length ∧ st = ⟨[(3, .cells 0 [.sl 1 1 0 1 1, .sl 2 1 0 1 1] false), (2, .cells 1 [.str [109]] false), (1, .cells 1 [.str [109]] false), (0, .cells 0 [.ps 0 [], .ps 0 []] false)], 4⟩) 0 ?_ ?_
      · simp -implicitDefEqProofs only [List.take_zero, List.all_nil, go_sem, Nat.reduceEqDiff, ↓reduceIte]
      rintro i ρ st ⟨j1, rfl⟩
      rcases Nat.lt_or_ge i l.length with hi | hi
      · obtain ⟨t, hx, hdr, hm⟩ := get_drop hi
        have hlt' : ((i : Int) < (l.length : Int)) = True := eq_true (by omega)
        have w1 : IntKind.i64.wrap ((i : Int) + 1) = ((i + 1 : Nat) : Int) := by rw [wrap64 (by omega) (by omega)]; omega
        have p1 := m1 t (hl.2 t hm)
        have p2 := m2 t (hl.2 t hm)
        have p3 := q3 t (hl.2 t hm)
        rw [Turn.eav] at p3
        have hsn : (l.take (i + 1)).all (mayT s p) = ((l.take i).all (mayT s p) && mayT s p t) := by rw [take_snoc hx, List.all_append]; simp
        generalize (l.take i).all (mayT s p) = al at hsn
        simp -implicitDefEqProofs only [hlt', hx, go_sem, Nat.reduceAdd, Nat.reduceEqDiff, Nat.reduceLeDiff, reduceCtorEq, ↓reduceIte]
        refine dcallI_pure p1 ?_
        simp -implicitDefEqProofs only [hlt', hx, go_sem, ↓reduceIte]
        refine andI_intro (by kernel_rfl) ?_
        cases hmt : mayT s p t
        · have hsn2 : (l.take (i + 1)).all (mayT s p) = false := by rw [hsn, hmt, Bool.and_false]
          cases al
          all_goals
            simp -implicitDefEqProofs only [hlt', hx, go_sem, Nat.reduceEqDiff, Nat.reduceLeDiff, ↓reduceIte]
            refine dcallI_uv p2 rfl (wf_of (by kernel_rfl)) (view_three (x' := .agg [.ps 0 [], .ps 0 []]) (p := []) rfl (y' := Enc.av p) (q := []) (viewN_ps_flat _ _ _ _ (flats_cellsL _)) (z' := .agg [.int .i64 t.kind, .int .i64 t.node, .str t.name, .str t.value]) (r := []) rfl) ?_
            simp -implicitDefEqProofs only [hlt', hx, go_sem, Nat.reduceEqDiff, ↓reduceIte]
            refine andI_intro (by kernel_rfl) ?_
            simp -implicitDefEqProofs only [w1, go_sem, Nat.reduceEqDiff, ↓reduceIte]
            exact ⟨i + 1, by omega, ⟨by rw [hsn2], rfl⟩, by omega⟩
        · have hsn2 : (l.take (i + 1)).all (mayT s p) = al := by rw [hsn, hmt, Bool.and_true]
          rw [hmore t hmt] at p3
          cases al
          all_goals
            simp -implicitDefEqProofs only [hlt', hx, go_sem, Nat.reduceEqDiff, Nat.reduceLeDiff, ↓reduceIte]
            refine dcallI_uv p2 rfl (wf_of (by kernel_rfl)) (view_three (x' := .agg [.ps 0 [], .ps 0 []]) (p := []) rfl (y' := Enc.av p) (q := []) (viewN_ps_flat _ _ _ _ (flats_cellsL _)) (z' := .agg [.int .i64 t.kind, .int .i64 t.node, .str t.name, .str t.value]) (r := []) rfl) ?_
            simp -implicitDefEqProofs only [hlt', hx, go_sem, Nat.reduceAdd, Nat.reduceEqDiff, Nat.reduceLeDiff, ↓reduceIte]
            refine dcallI_uv p3 rfl (wf_of (by kernel_rfl)) (view_three (view_agg2 (view_sl (z := 1) (C := [.str [109]]) (cs := [.str [109]]) (sn := false) rfl (by decide) (by rfl) (by rfl)) (view_sl (z := 1) (C := [.str [109]]) (cs := [.str [109]]) (sn := false) rfl (by decide) (by rfl) (by rfl))) (y' := Enc.av p) (q := []) (viewN_ps_flat _ _ _ _ (flats_cellsL _)) (z' := .agg [.int .i64 t.kind, .int .i64 t.node, .str t.name, .str t.value]) (r := []) (by rfl)) ?_
            simp -implicitDefEqProofs only [hlt', hx, go_sem, Nat.reduceEqDiff, ↓reduceIte]
            refine andI_intro (by kernel_rfl) ?_
            simp -implicitDefEqProofs only [w1, go_sem, Nat.reduceEqDiff, ↓reduceIte]
            exact ⟨i + 1, by omega, ⟨by rw [hsn2], rfl⟩, by omega⟩
      · have hlt' : ((i : Int) < (l.length : Int)) = False := eq_false (by omega)
        rw [List.take_of_length_le (by omega)]
        simp -implicitDefEqProofs only [hlt', go_sem, Nat.reduceAdd, Nat.reduceEqDiff, reduceCtorEq, ↓reduceIte]
        refine callI_pure hAll ?_
        cases hal : l.all (mayT s p)
        · rw [if_neg (by decide)]
          simp -implicitDefEqProofs only [go_sem, Nat.reduceEqDiff, ↓reduceIte]
          refine callI_pure hSame2 ?_
          simp -implicitDefEqProofs only [go_sem, Nat.reduceEqDiff, ↓reduceIte]
        · rw [if_pos rfl]
          simp -implicitDefEqProofs only [go_sem, Nat.reduceEqDiff, ↓reduceIte]
          refine callI_pure hDo ?_
          simp -implicitDefEqProofs only [go_sem, Nat.reduceEqDiff, ↓reduceIte]
          refine callI_pure hSame ?_
          simp -implicitDefEqProofs only [go_sem, Nat.reduceEqDiff, ↓reduceIte]
    · have e1 : cellsL s.classes = [] := List.eq_nil_of_length_eq_zero (by omega)
      have y2 : (s.attrs.length = 0) = False := eq_false z2
      have x2 : (2 ≤ 1 + s.attrs.length) = True := eq_true (by omega)
      have v2 : (1 + s.attrs.length ≤ (cellsL s.attrs).length + 1) = True := eq_true (by omega)
      have u2 : List.take (1 + s.attrs.length) (AV.str [109] :: cellsL s.attrs) = AV.str [109] :: cellsL s.attrs := List.take_of_length_le (by rw [List.length_cons, hc2]; omega)
      have k1 : s.classes.length + 1 = 1 := by omega
      have k2 : s.attrs.length + 1 = (1 + s.attrs.length) := by omega
      have q3 : ∀ t, Enc.ok t → PureF Try.prog 12 [.agg [.ps 1 [.str [109]], .ps (1 + s.attrs.length) (.str [109] :: cellsL s.attrs)], Enc.av p, Enc.av t] (.bool (mayT ⟨[109] :: s.classes, [109] :: s.attrs⟩ p t)) := fun t ht => by
        have := w_May ⟨[109] :: s.classes, [109] :: s.attrs⟩ hmok p t ht
        rw [Safe.eav] at this
        simp only [List.length_cons, k1, k2] at this
        have g1 : cellsL ([109] :: s.classes) = [.str [109]] := by show AV.str [109] :: cellsL s.classes = _; rw [e1]
        have g2 : cellsL ([109] :: s.attrs) = (.str [109] :: cellsL s.attrs) := by show AV.str [109] :: cellsL s.attrs = _; rfl
        rw [g1, g2] at this
        exact this
      clear m3
      simp only [z1, e1] at m1 hAll
      simp -implicitDefEqProofs only [z1, e1, y2, x2, hc2, bd2, go_sem, Nat.reduceAdd, Nat.reduceEqDiff, Nat.reduceLeDiff, reduceCtorEq, ↓reduceIte]
      refine andI_intro (by kernel_rfl) ?_
      simp -implicitDefEqProofs only [z1, e1, y2, x2, hc2, bd2, go_sem]
      refine LoopI_sl (fun i : Nat => l.length - i) (fun i => [(1, Enc.av p), (2, Enc.av l), (3, .ptr 0 0 0), (7, .ptr 3 0 0), (8, .bool ((l.take i).all (mayT s p))), (9, .int .i64 i)])
        (fun i st => i ≤ l.length ∧ st = ⟨[(3, .cells 0 [.sl 1 1 0 1 1, .sl 2 (1 + s.attrs.length) 0 (1 + s.attrs.length) 1] false), (2, .cells (1 + s.attrs.length) (.str [109] :: cellsL s.attrs) false), (1, .cells 1 [.str [109]] false), (0, .cells 0 [.ps 0 [], .ps s.attrs.length (cellsL s.attrs)] false)], 4⟩) 0 ?_ ?_
      · simp -implicitDefEqProofs only [List.take_zero, List.all_nil, go_sem, Nat.reduceEqDiff, ↓reduceIte]
      rintro i ρ st ⟨j1, rfl⟩
      rcases Nat.lt_or_ge i l.length with hi | hi
      · obtain ⟨t, hx, hdr, hm⟩ := get_drop hi
        have hlt' : ((i : Int) < (l.length : Int)) = True := eq_true (by omega)
        have w1 : IntKind.i64.wrap ((i : Int) + 1) = ((i + 1 : Nat) : Int) := by rw [wrap64 (by omega) (by omega)]; omega
        have p1 := m1 t (hl.2 t hm)
        have p2 := m2 t (hl.2 t hm)
        have p3 := q3 t (hl.2 t hm)
        rw [Turn.eav] at p3
        have hsn : (l.take (i + 1)).all (mayT s p) = ((l.take i).all (mayT s p) && mayT s p t) := by rw [take_snoc hx, List.all_append]; simp
        generalize (l.take i).all (mayT s p) = al at hsn
        simp -implicitDefEqProofs only [hlt', hx, v2, u2, go_sem, Nat.reduceAdd, Nat.reduceEqDiff, Nat.reduceLeDiff, reduceCtorEq, ↓reduceIte]
        refine dcallI_pure p1 ?_
        simp -implicitDefEqProofs only [hlt', hx, v2, u2, go_sem, ↓reduceIte]
        refine andI_intro (by kernel_rfl) ?_
        cases hmt : mayT s p t
        · have hsn2 : (l.take (i + 1)).all (mayT s p) = false := by rw [hsn, hmt, Bool.and_false]
          cases al
          all_goals
            simp -implicitDefEqProofs only [hlt', hx, v2, u2, go_sem, Nat.reduceEqDiff, Nat.reduceLeDiff, ↓reduceIte]
            refine dcallI_uv p2 rfl (wf_of (by kernel_rfl)) (view_three (x' := .agg [.ps 0 [], .ps 0 []]) (p := []) rfl (y' := Enc.av p) (q := []) (viewN_ps_flat _ _ _ _ (flats_cellsL _)) (z' := .agg [.int .i64 t.kind, .int .i64 t.node, .str t.name, .str t.value]) (r := []) rfl) ?_
            simp -implicitDefEqProofs only [hlt', hx, v2, u2, go_sem, Nat.reduceEqDiff, ↓reduceIte]
            refine andI_intro (by kernel_rfl) ?_
            simp -implicitDefEqProofs only [w1, go_sem, Nat.reduceEqDiff, ↓reduceIte]
            exact ⟨i + 1, by omega, ⟨by rw [hsn2], rfl⟩, by omega⟩
        · have hsn2 : (l.take (i + 1)).all (mayT s p) = al := by rw [hsn, hmt, Bool.and_true]
          rw [hmore t hmt] at p3
          cases al
          all_goals
            simp -implicitDefEqProofs only [hlt', hx, v2, u2, go_sem, Nat.reduceEqDiff, Nat.reduceLeDiff, ↓reduceIte]
            refine dcallI_uv p2 rfl (wf_of (by kernel_rfl)) (view_three (x' := .agg [.ps 0 [], .ps 0 []]) (p := []) rfl (y' := Enc.av p) (q := []) (viewN_ps_flat _ _ _ _ (flats_cellsL _)) (z' := .agg [.int .i64 t.kind, .int .i64 t.node, .str t.name, .str t.value]) (r := []) rfl) ?_
            simp -implicitDefEqProofs only [hlt', hx, v2, u2, go_sem, Nat.reduceAdd, Nat.reduceEqDiff, Nat.reduceLeDiff, ↓reduceIte]
            refine dcallI_uv p3 rfl (wf_of (by kernel_rfl)) (view_three (view_agg2 (view_sl (z := 1) (C := [.str [109]]) (cs := [.str [109]]) (sn := false) rfl (by decide) (by rfl) (by rfl)) (view_sl (z := 1) (C := (.str [109] :: cellsL s.attrs)) (cs := (.str [109] :: cellsL s.attrs)) (sn := false) rfl (by rw [List.length_cons, hc2]; omega) (by exact List.take_of_length_le (by rw [List.length_cons, hc2]; omega)) (by exact strs_lit ([109] :: s.attrs)))) (y' := Enc.av p) (q := []) (viewN_ps_flat _ _ _ _ (flats_cellsL _)) (z' := .agg [.int .i64 t.kind, .int .i64 t.node, .str t.name, .str t.value]) (r := []) (by rfl)) ?_
            simp -implicitDefEqProofs only [hlt', hx, v2, u2, go_sem, Nat.reduceEqDiff, ↓reduceIte]
            refine andI_intro (by kernel_rfl) ?_
            simp -implicitDefEqProofs only [w1, go_sem, Nat.reduceEqDiff, ↓reduceIte]
            exact ⟨i + 1, by omega, ⟨by rw [hsn2], rfl⟩, by omega⟩
      · have hlt' : ((i : Int) < (l.length : Int)) = False := eq_false (by omega)
        rw [List.take_of_length_le (by omega)]
        simp -implicitDefEqProofs only [hlt', go_sem, Nat.reduceAdd, Nat.reduceEqDiff, reduceCtorEq, ↓reduceIte]
        refine callI_pure hAll ?_
        cases hal : l.all (mayT s p)
        · rw [if_neg (by decide)]
          simp -implicitDefEqProofs only [go_sem, Nat.reduceEqDiff, ↓reduceIte]
          refine callI_pure hSame2 ?_
          simp -implicitDefEqProofs only [go_sem, Nat.reduceEqDiff, ↓reduceIte]
        · rw [if_pos rfl]
          simp -implicitDefEqProofs only [go_sem, Nat.reduceEqDiff, ↓reduceIte]
          refine callI_pure hDo ?_
          simp -implicitDefEqProofs only [go_sem, Nat.reduceEqDiff, ↓reduceIte]
          refine callI_pure hSame ?_
          simp -implicitDefEqProofs only [go_sem, Nat.reduceEqDiff, ↓reduceIte]
  · by_cases z2 : s.attrs.length = 0
    · have y1 : (s.classes.length = 0) = False := eq_false z1
      have x1 : (2 ≤ 1 + s.classes.length) = True := eq_true (by omega)
      have v1 : (1 + s.classes.length ≤ (cellsL s.classes).length + 1) = True := eq_true (by omega)
      have u1 : List.take (1 + s.classes.length) (AV.str [109] :: cellsL s.classes) = AV.str [109] :: cellsL s.classes := List.take_of_length_le (by rw [List.length_cons, hc1]; omega)
      have e2 : cellsL s.attrs = [] := List.eq_nil_of_length_eq_zero (by omega)
      have k1 : s.classes.length + 1 = (1 + s.classes.length) := by omega
      have k2 : s.attrs.length + 1 = 1 := by omega
      have q3 : ∀ t, Enc.ok t → PureF Try.prog 12 [.agg [.ps (1 + s.classes.length) (.str [109] :: cellsL s.classes), .ps 1 [.str [109]]], Enc.av p, Enc.av t] (.bool (mayT ⟨[109] :: s.classes, [109] :: s.attrs⟩ p t)) := fun t ht => by
        have := w_May ⟨[109] :: s.classes, [109] :: s.attrs⟩ hmok p t ht
        rw [Safe.eav] at this
        simp only [List.length_cons, k1, k2] at this
        have g1 : cellsL ([109] :: s.classes) = (.str [109] :: cellsL s.classes) := by show AV.str [109] :: cellsL s.classes = _; rfl
        have g2 : cellsL ([109] :: s.attrs) = [.str [109]] := by show AV.str [109] :: cellsL s.attrs = _; rw [e2]
        rw [g1, g2] at this
        exact this
      clear m3
      simp only [z2, e2] at m1 hAll
      simp -implicitDefEqProofs only [y1, x1, hc1, bd1, z2, e2, go_sem, Nat.reduceAdd, Nat.reduceEqDiff, Nat.reduceLeDiff, reduceCtorEq, ↓reduceIte]
      refine andI_intro (by kernel_rfl) ?_
      simp -implicitDefEqProofs only [y1, x1, hc1, bd1, z2, e2, go_sem]
      refine LoopI_sl (fun i : Nat => l.length - i) (fun i => [(1, Enc.av p), (2, Enc.av l), (3, .ptr 0 0 0), (7, .ptr 3 0 0), (8, .bool ((l.take i).all (mayT s p))), (9, .int .i64 i)])
        (fun i st => i ≤ l.length ∧ st = ⟨[(3, .cells 0 [.sl 1 (1 + s.classes.length) 0 (1 + s.classes.length) 1, .sl 2 1 0 1 1] false), (2, .cells 1 [.str [109]] false), (1, .cells (1 + s.classes.length) (.str [109] :: cellsL s.classes) false), (0, .cells 0 [.ps s.classes.length (cellsL s.classes), .ps 0 []] false)], 4⟩) 0 ?_ ?_
      · simp -implicitDefEqProofs only [List.take_zero, List.all_nil, go_sem, Nat.reduceEqDiff, ↓reduceIte]
      rintro i ρ st ⟨j1, rfl⟩
      rcases Nat.lt_or_ge i l.length with hi | hi
      · obtain ⟨t, hx, hdr, hm⟩ := get_drop hi
        have hlt' : ((i : Int) < (l.length : Int)) = True := eq_true (by omega)
        have w1 : IntKind.i64.wrap ((i : Int) + 1) = ((i + 1 : Nat) : Int) := by rw [wrap64 (by omega) (by omega)]; omega
        have p1 := m1 t (hl.2 t hm)
        have p2 := m2 t (hl.2 t hm)
        have p3 := q3 t (hl.2 t hm)
        rw [Turn.eav] at p3
        have hsn : (l.take (i + 1)).all (mayT s p) = ((l.take i).all (mayT s p) && mayT s p t) := by rw [take_snoc hx, List.all_append]; simp
        generalize (l.take i).all (mayT s p) = al at hsn
        simp -implicitDefEqProofs only [hlt', hx, v1, u1, go_sem, Nat.reduceAdd, Nat.reduceEqDiff, Nat.reduceLeDiff, reduceCtorEq, ↓reduceIte]
        refine dcallI_pure p1 ?_
        simp -implicitDefEqProofs only [hlt', hx, v1, u1, go_sem, ↓reduceIte]
        refine andI_intro (by kernel_rfl) ?_
        cases hmt : mayT s p t
        · have hsn2 : (l.take (i + 1)).all (mayT s p) = false := by rw [hsn, hmt, Bool.and_false]
          cases al
          all_goals
            simp -implicitDefEqProofs only [hlt', hx, v1, u1, go_sem, Nat.reduceEqDiff, Nat.reduceLeDiff, ↓reduceIte]
            refine dcallI_uv p2 rfl (wf_of (by kernel_rfl)) (view_three (x' := .agg [.ps 0 [], .ps 0 []]) (p := []) rfl (y' := Enc.av p) (q := []) (viewN_ps_flat _ _ _ _ (flats_cellsL _)) (z' := .agg [.int .i64 t.kind, .int .i64 t.node, .str t.name, .str t.value]) (r := []) rfl) ?_
            simp -implicitDefEqProofs only [hlt', hx, v1, u1, go_sem, Nat.reduceEqDiff, ↓reduceIte]
            refine andI_intro (by kernel_rfl) ?_
            simp -implicitDefEqProofs only [w1, go_sem, Nat.reduceEqDiff, ↓reduceIte]
            exact ⟨i + 1, by omega, ⟨by rw [hsn2], rfl⟩, by omega⟩
        · have hsn2 : (l.take (i + 1)).all (mayT s p) = al := by rw [hsn, hmt, Bool.and_true]
          rw [hmore t hmt] at p3
          cases al
          all_goals
            simp -implicitDefEqProofs only [hlt', hx, v1, u1, go_sem, Nat.reduceEqDiff, Nat.reduceLeDiff, ↓reduceIte]
            refine dcallI_uv p2 rfl (wf_of (by kernel_rfl)) (view_three (x' := .agg [.ps 0 [], .ps 0 []]) (p := []) rfl (y' := Enc.av p) (q := []) (viewN_ps_flat _ _ _ _ (flats_cellsL _)) (z' := .agg [.int .i64 t.kind, .int .i64 t.node, .str t.name, .str t.value]) (r := []) rfl) ?_
            simp -implicitDefEqProofs only [hlt', hx, v1, u1, go_sem, Nat.reduceAdd, Nat.reduceEqDiff, Nat.reduceLeDiff, ↓reduceIte]
            refine dcallI_uv p3 rfl (wf_of (by kernel_rfl)) (view_three (view_agg2 (view_sl (z := 1) (C := (.str [109] :: cellsL s.classes)) (cs := (.str [109] :: cellsL s.classes)) (sn := false) rfl (by rw [List.length_cons, hc1]; omega) (by exact List.take_of_length_le (by rw [List.length_cons, hc1]; omega)) (by exact strs_lit ([109] :: s.classes))) (view_sl (z := 1) (C := [.str [109]]) (cs := [.str [109]]) (sn := false) rfl (by decide) (by rfl) (by rfl))) (y' := Enc.av p) (q := []) (viewN_ps_flat _ _ _ _ (flats_cellsL _)) (z' := .agg [.int .i64 t.kind, .int .i64 t.node, .str t.name, .str t.value]) (r := []) (by rfl)) ?_
            simp -implicitDefEqProofs only [hlt', hx, v1, u1, go_sem, Nat.reduceEqDiff, ↓reduceIte]
            refine andI_intro (by kernel_rfl) ?_
            simp -implicitDefEqProofs only [w1, go_sem, Nat.reduceEqDiff, ↓reduceIte]
            exact ⟨i + 1, by omega, ⟨by rw [hsn2], rfl⟩, by omega⟩
      · have hlt' : ((i : Int) < (l.length : Int)) = False := eq_false (by omega)
        rw [List.take_of_length_le (by omega)]
        simp -implicitDefEqProofs only [hlt', go_sem, Nat.reduceAdd, Nat.reduceEqDiff, reduceCtorEq, ↓reduceIte]
        refine callI_pure hAll ?_
        cases hal : l.all (mayT s p)
        · rw [if_neg (by decide)]
          simp -implicitDefEqProofs only [go_sem, Nat.reduceEqDiff, ↓reduceIte]
          refine callI_pure hSame2 ?_
          simp -implicitDefEqProofs only [go_sem, Nat.reduceEqDiff, ↓reduceIte]
        · rw [if_pos rfl]
          simp -implicitDefEqProofs only [go_sem, Nat.reduceEqDiff, ↓reduceIte]
          refine callI_pure hDo ?_
          simp -implicitDefEqProofs only [go_sem, Nat.reduceEqDiff, ↓reduceIte]
          refine callI_pure hSame ?_
          simp -implicitDefEqProofs only [go_sem, Nat.reduceEqDiff, ↓reduceIte]
    · have y1 : (s.classes.length = 0) = False := eq_false z1
      have x1 : (2 ≤ 1 + s.classes.length) = True := eq_true (by omega)
      have v1 : (1 + s.classes.length ≤ (cellsL s.classes).length + 1) = True := eq_true (by omega)
      have u1 : List.take (1 + s.classes.length) (AV.str [109] :: cellsL s.classes) = AV.str [109] :: cellsL s.classes := List.take_of_length_le (by rw [List.length_cons, hc1]; omega)
      have y2 : (s.attrs.length = 0) = False := eq_false z2
      have x2 : (2 ≤ 1 + s.attrs.length) = True := eq_true (by omega)
      have v2 : (1 + s.attrs.length ≤ (cellsL s.attrs).length + 1) = True := eq_true (by omega)
      have u2 : List.take (1 + s.attrs.length) (AV.str [109] :: cellsL s.attrs) = AV.str [109] :: cellsL s.attrs := List.take_of_length_le (by rw [List.length_cons, hc2]; omega)
      have k1 : s.classes.length + 1 = (1 + s.classes.length) := by omega
      have k2 : s.attrs.length + 1 = (1 + s.attrs.length) := by omega
      have q3 : ∀ t, Enc.ok t → PureF Try.prog 12 [.agg [.ps (1 + s.classes.length) (.str [109] :: cellsL s.classes), .ps (1 + s.attrs.length) (.str [109] :: cellsL s.attrs)], Enc.av p, Enc.av t] (.bool (mayT ⟨[109] :: s.classes, [109] :: s.attrs⟩ p t)) := fun t ht => by
        have := w_May ⟨[109] :: s.classes, [109] :: s.attrs⟩ hmok p t ht
        rw [Safe.eav] at this
        simp only [List.length_cons, k1, k2] at this
        have g1 : cellsL ([109] :: s.classes) = (.str [109] :: cellsL s.classes) := by show AV.str [109] :: cellsL s.classes = _; rfl
        have g2 : cellsL ([109] :: s.attrs) = (.str [109] :: cellsL s.attrs) := by show AV.str [109] :: cellsL s.attrs = _; rfl
        rw [g1, g2] at this
        exact this
      clear m3
      simp -implicitDefEqProofs only [y1, x1, hc1, bd1, y2, x2, hc2, bd2, go_sem, Nat.reduceAdd, Nat.reduceEqDiff, Nat.reduceLeDiff, reduceCtorEq, ↓reduceIte]
      refine andI_intro (by kernel_rfl) ?_
      simp -implicitDefEqProofs only [y1, x1, hc1, bd1, y2, x2, hc2, bd2, go_sem]
      refine LoopI_sl (fun i : Nat => l.length - i) (fun i => [(1, Enc.av p), (2, Enc.av l), (3, .ptr 0 0 0), (7, .ptr 3 0 0), (8, .bool ((l.take i).all (mayT s p))), (9, .int .i64 i)])
        (fun i st => i ≤ l.length ∧ st = ⟨[(3, .cells 0 [.sl 1 (1 + s.classes.length) 0 (1 + s.classes.length) 1, .sl 2 (1 + s.attrs.length) 0 (1 + s.attrs.length) 1] false), (2, .cells (1 + s.attrs.length) (.str [109] :: cellsL s.attrs) false), (1, .cells (1 + s.classes.length) (.str [109] :: cellsL s.classes) false), (0, .cells 0 [.ps s.classes.length (cellsL s.classes), .ps s.attrs.length (cellsL s.attrs)] false)], 4⟩) 0 ?_ ?_
      · simp -implicitDefEqProofs only [List.take_zero, List.all_nil, go_sem, Nat.reduceEqDiff, ↓reduceIte]
      rintro i ρ st ⟨j1, rfl⟩
      rcases Nat.lt_or_ge i l.length with hi | hi
      · obtain ⟨t, hx, hdr, hm⟩ := get_drop hi
        have hlt' : ((i : Int) < (l.length : Int)) = True := eq_true (by omega)
        have w1 : IntKind.i64.wrap ((i : Int) + 1) = ((i + 1 : Nat) : Int) := by rw [wrap64 (by omega) (by omega)]; omega
        have p1 := m1 t (hl.2 t hm)
        have p2 := m2 t (hl.2 t hm)
        have p3 := q3 t (hl.2 t hm)
        rw [Turn.eav] at p3
        have hsn : (l.take (i + 1)).all (mayT s p) = ((l.take i).all (mayT s p) && mayT s p t) := by rw [take_snoc hx, List.all_append]; simp
        generalize (l.take i).all (mayT s p) = al at hsn
        simp -implicitDefEqProofs only [hlt', hx, v1, u1, v2, u2, go_sem, Nat.reduceAdd, Nat.reduceEqDiff, Nat.reduceLeDiff, reduceCtorEq, ↓reduceIte]
        refine dcallI_pure p1 ?_
        simp -implicitDefEqProofs only [hlt', hx, v1, u1, v2, u2, go_sem, ↓reduceIte]
        refine andI_intro (by kernel_rfl) ?_
        cases hmt : mayT s p t
        · have hsn2 : (l.take (i + 1)).all (mayT s p) = false := by rw [hsn, hmt, Bool.and_false]
          cases al
          all_goals
            simp -implicitDefEqProofs only [hlt', hx, v1, u1, v2, u2, go_sem, Nat.reduceEqDiff, Nat.reduceLeDiff, ↓reduceIte]
            refine dcallI_uv p2 rfl (wf_of (by kernel_rfl)) (view_three (x' := .agg [.ps 0 [], .ps 0 []]) (p := []) rfl (y' := Enc.av p) (q := []) (viewN_ps_flat _ _ _ _ (flats_cellsL _)) (z' := .agg [.int .i64 t.kind, .int .i64 t.node, .str t.name, .str t.value]) (r := []) rfl) ?_
            simp -implicitDefEqProofs only [hlt', hx, v1, u1, v2, u2, go_sem, Nat.reduceEqDiff, ↓reduceIte]
            refine andI_intro (by kernel_rfl) ?_
            simp -implicitDefEqProofs only [w1, go_sem, Nat.reduceEqDiff, ↓reduceIte]
            exact ⟨i + 1, by omega, ⟨by rw [hsn2], rfl⟩, by omega⟩
        · have hsn2 : (l.take (i + 1)).all (mayT s p) = al := by rw [hsn, hmt, Bool.and_true]
          rw [hmore t hmt] at p3
          cases al
          all_goals
            simp -implicitDefEqProofs only [hlt', hx, v1, u1, v2, u2, go_sem, Nat.reduceEqDiff, Nat.reduceLeDiff, ↓reduceIte]
            refine dcallI_uv p2 rfl (wf_of (by kernel_rfl)) (view_three (x' := .agg [.ps 0 [], .ps 0 []]) (p := []) rfl (y' := Enc.av p) (q := []) (viewN_ps_flat _ _ _ _ (flats_cellsL _)) (z' := .agg [.int .i64 t.kind, .int .i64 t.node, .str t.name, .str t.value]) (r := []) rfl) ?_
            simp -implicitDefEqProofs only [hlt', hx, v1, u1, v2, u2, go_sem, Nat.reduceAdd, Nat.reduceEqDiff, Nat.reduceLeDiff, ↓reduceIte]
            refine dcallI_uv p3 rfl (wf_of (by kernel_rfl)) (view_three (view_agg2 (view_sl (z := 1) (C := (.str [109] :: cellsL s.classes)) (cs := (.str [109] :: cellsL s.classes)) (sn := false) rfl (by rw [List.length_cons, hc1]; omega) (by exact List.take_of_length_le (by rw [List.length_cons, hc1]; omega)) (by exact strs_lit ([109] :: s.classes))) (view_sl (z := 1) (C := (.str [109] :: cellsL s.attrs)) (cs := (.str [109] :: cellsL s.attrs)) (sn := false) rfl (by rw [List.length_cons, hc2]; omega) (by exact List.take_of_length_le (by rw [List.length_cons, hc2]; omega)) (by exact strs_lit ([109] :: s.attrs)))) (y' := Enc.av p) (q := []) (viewN_ps_flat _ _ _ _ (flats_cellsL _)) (z' := .agg [.int .i64 t.kind, .int .i64 t.node, .str t.name, .str t.value]) (r := []) (by rfl)) ?_
            simp -implicitDefEqProofs only [hlt', hx, v1, u1, v2, u2, go_sem, Nat.reduceEqDiff, ↓reduceIte]
            refine andI_intro (by kernel_rfl) ?_
            simp -implicitDefEqProofs only [w1, go_sem, Nat.reduceEqDiff, ↓reduceIte]
            exact ⟨i + 1, by omega, ⟨by rw [hsn2], rfl⟩, by omega⟩
      · have hlt' : ((i : Int) < (l.length : Int)) = False := eq_false (by omega)
        rw [List.take_of_length_le (by omega)]
        simp -implicitDefEqProofs only [hlt', go_sem, Nat.reduceAdd, Nat.reduceEqDiff, reduceCtorEq, ↓reduceIte]
        refine callI_pure hAll ?_
        cases hal : l.all (mayT s p)
        · rw [if_neg (by decide)]
          simp -implicitDefEqProofs only [go_sem, Nat.reduceEqDiff, ↓reduceIte]
          refine callI_pure hSame2 ?_
          simp -implicitDefEqProofs only [go_sem, Nat.reduceEqDiff, ↓reduceIte]
        · rw [if_pos rfl]
          simp -implicitDefEqProofs only [go_sem, Nat.reduceEqDiff, ↓reduceIte]
          refine callI_pure hDo ?_
          simp -implicitDefEqProofs only [go_sem, Nat.reduceEqDiff, ↓reduceIte]
          refine callI_pure hSame ?_
          simp -implicitDefEqProofs only [go_sem, Nat.reduceEqDiff, ↓reduceIte]
end W11
