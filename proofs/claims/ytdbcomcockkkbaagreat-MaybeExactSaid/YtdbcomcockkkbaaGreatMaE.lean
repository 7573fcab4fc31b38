/- MaybeExact. -/
import Derived.Test.YtdbcomcockkkbaaGreatMaC
set_option linter.unusedSimpArgs false
set_option linter.unusedVariables false
namespace W14
open Go Go.AX Go.AX.Ty Go.Proofs

theorem w_stateful : ∀ (N : Nat) (l : List Simple), sizL l ≤ N → l.length ≤ 1000000 → (∀ x ∈ l, siz x ≤ 1000000) → PureF Tryz.prog 24 [Enc.av l] (.bool (l.any asksS)) := by
  intro N
  induction N with
  | zero =>
    intro l hN _ _
    cases l with
    | nil =>
      refine pureF_W mix c24 (by kernel_rfl) (by kernel_rfl) (by simp [flats, flat_av, Go.AX.flat]) (by first | exact flat_av _ | simp [flat, flats, flat_av]) ?_
      simp -implicitDefEqProofs only [F24, go_sem]
      rw [LoopI_def]
      refine ⟨1, ?_⟩
      simp -implicitDefEqProofs only [go_sem, Int.reduceLT, Nat.reduceEqDiff, reduceCtorEq, ↓reduceIte]
      rfl
    | cons x r => simp only [sizL] at hN; have := siz_eq x; omega
  | succ N ih =>
    intro l hN hl hz
    refine pureF_W mix c24 (by kernel_rfl) (by kernel_rfl) (by simp [flats, flat_av, Go.AX.flat]) (by first | exact flat_av _ | simp [flat, flats, flat_av]) ?_
    simp -implicitDefEqProofs only [F24, go_sem]
    refine LoopI_sl (fun k : Nat => l.length - k) (fun k => [(0, Enc.av l), (3, .int .i64 k)]) (fun k st => k ≤ l.length ∧ Pre asksS l k) 0 ?_ ?_
    · simp -implicitDefEqProofs only [go_sem, reduceCtorEq, ↓reduceIte]
      exact Pre.zero _ _
    rintro k ρ ⟨g, m⟩ ⟨h1, h2⟩
    rcases Nat.lt_or_ge k l.length with hk | hk
    · obtain ⟨x, hx, hd, hm⟩ := get_drop hk
      have hlt : ((k : Int) < (l.length : Int)) = True := eq_true (by omega)
      have w1 : IntKind.i64.wrap ((k : Int) + 1) = ((k + 1 : Nat) : Int) := by rw [wrap64 (by omega) (by omega)]; omega
      have hxz := hz x hm
      have hxe := siz_eq x
      have hle := len_sizL x.l
      have hmem := siz_memL hm
      have hsub := ih x.l (by omega) (by omega) (fun y hy => by have := siz_memL hy; omega)
      by_cases h7 : x.kind = 7
      · have f7 : (x.kind = 7) = True := eq_true h7
        have ha : asksS x = true := by rw [asksS_eq]; simp [h7]
        simp -implicitDefEqProofs only [hlt, hx, w1, f7, go_sem, Nat.reduceEqDiff, reduceCtorEq, ↓reduceIte]
        rw [any_here hm ha]
      · have f7 : (x.kind = 7) = False := eq_false h7
        simp -implicitDefEqProofs only [hlt, hx, w1, f7, go_sem, Nat.reduceEqDiff, reduceCtorEq, ↓reduceIte]
        refine callI_pure hsub ?_
        have ha : asksS x = x.l.any asksS := by rw [asksS_eq]; simp [h7]
        cases hq : x.l.any asksS
        · rw [hq] at ha
          simp -implicitDefEqProofs only [hlt, hx, w1, f7, go_sem, Nat.reduceEqDiff, reduceCtorEq, ↓reduceIte]
          exact ⟨k + 1, by omega, rfl, by omega, h2.next hx ha⟩
        · rw [hq] at ha
          simp -implicitDefEqProofs only [hlt, hx, w1, f7, go_sem, Nat.reduceEqDiff, ↓reduceIte]
          rw [any_here hm ha]
    · have hlt : ((k : Int) < (l.length : Int)) = False := eq_false (by omega)
      simp -implicitDefEqProofs only [hlt, go_sem, Nat.reduceEqDiff, reduceCtorEq, ↓reduceIte]
      rw [any_no (h2.all hk)]
theorem w_inL (l : List Int) (n : Int) (hl : l.length ≤ 1000000) : PureF Tryz.prog 23 [Enc.av l, Enc.av n] (.bool (l.any fun x => x == n)) := by
  refine pureF_W mix c23 (by kernel_rfl) (by kernel_rfl) (by simp [flats, flat_av, Go.AX.flat]) (by first | exact flat_av _ | simp [flat, flats, flat_av]) ?_
  simp -implicitDefEqProofs only [F23, go_sem]
  refine LoopI_sl (fun k : Nat => l.length - k) (fun k => [(0, Enc.av l), (1, Enc.av n), (5, .int .i64 k)]) (fun k st => k ≤ l.length ∧ Pre (fun x => x == n) l k) 0 ?_ ?_
  · simp -implicitDefEqProofs only [go_sem, Nat.reduceEqDiff, reduceCtorEq, ↓reduceIte]
    exact Pre.zero _ _
  rintro k ρ ⟨g, m⟩ ⟨h1, h2⟩
  rcases Nat.lt_or_ge k l.length with hk | hk
  · obtain ⟨x, hx, hd, hm⟩ := get_drop hk
    have hlt : ((k : Int) < (l.length : Int)) = True := eq_true (by omega)
    have w1 : IntKind.i64.wrap ((k : Int) + 1) = ((k + 1 : Nat) : Int) := by rw [wrap64 (by omega) (by omega)]; omega
    by_cases he : x = n
    · have f : (x = n) = True := eq_true he
      simp -implicitDefEqProofs only [hlt, hx, w1, f, go_sem, Nat.reduceEqDiff, reduceCtorEq, ↓reduceIte]
      rw [any_here hm (by simp [he])]
    · have f : (x = n) = False := eq_false he
      simp -implicitDefEqProofs only [hlt, hx, w1, f, go_sem, Nat.reduceEqDiff, reduceCtorEq, ↓reduceIte]
      exact ⟨k + 1, by omega, rfl, by omega, h2.next hx (by simp [he])⟩
  · have hlt : ((k : Int) < (l.length : Int)) = False := eq_false (by omega)
    simp -implicitDefEqProofs only [hlt, go_sem, Nat.reduceEqDiff, reduceCtorEq, ↓reduceIte]
    rw [any_no (h2.all hk)]
abbrev noSafe : Safe := ⟨[], []⟩
theorem noSafe_may (x : Simple) : mayS noSafe x = decide (x.kind = 7) := by
  have c : ∀ v, classS noSafe v = false := fun v => by simp [classS]
  have a : ∀ v, attrS noSafe v = false := fun v => by unfold attrS; split <;> simp
  unfold mayS
  rw [c, a, a]
  split
  · rename_i h; simp [h]
  · split
    · rename_i h; simp [h]
    · split
      · rename_i h; rcases h with h | h <;> simp [h]
      · rfl
theorem exact_of {p : Page} {n : Int} {parts : List Part} (ha : ∀ q ∈ parts, q.l.any asksS = false) : ofS noSafe p n parts = if isB p [] n parts = true then 2 else 0 := by
  unfold ofS isB
  by_cases hpe : parts = []
  · simp [hpe]
  by_cases ht : treeB p = true
  · by_cases he : elemB p n = true
    · rw [if_pos ⟨ht, he, hpe⟩, mFit_exact noSafe_may ha]
      simp [ht, hpe]
    · have : fitsB p [] parts (parts.length - 1) n = false := fitsB_elem (by simpa using he)
      simp [he, this]
  · simp [ht]
theorem exact_any {p : Page} {parts : List Part} (ha : ∀ q ∈ parts, q.l.any asksS = false) : anyS noSafe p parts = if (allB p [] parts).length > 0 then 2 else 0 := by
  unfold anyS
  by_cases hpe : parts = []
  · have : allB p [] parts = [] := by
      unfold allB allTo
      rw [List.map_eq_nil_iff, List.filter_eq_nil_iff]
      intro a _; simp [isB, hpe]
    rw [this]; simp [hpe]
  by_cases ht : treeB p = true
  · rw [if_pos ⟨ht, hpe⟩]
    have e : rowM noSafe p parts (parts.length - 1) = (List.range p.length).map fun n : Nat => if isB p [] n parts = true then 2 else 0 := by
      unfold rowM
      refine List.map_congr_left fun n _ => ?_
      rw [mFit_exact noSafe_may ha]
      simp [isB, ht, hpe]
    rw [e, kOr_two' (f := fun n : Nat => isB p [] n parts)]
    unfold allB allTo
    rw [List.length_map]
    by_cases h : (List.range p.length).any (fun n : Nat => isB p [] n parts) = true
    · rw [if_pos h, if_pos]
      obtain ⟨x, h1, h2⟩ := List.any_eq_true.1 h
      exact List.length_pos_of_mem (List.mem_filter.2 ⟨h1, h2⟩)
    · rw [if_neg h, if_neg]
      intro hl
      obtain ⟨x, hx⟩ := List.exists_mem_of_length_pos hl
      exact h (List.any_eq_true.2 ⟨x, (List.mem_filter.1 hx).1, (List.mem_filter.1 hx).2⟩)
  · have : allB p [] parts = [] := by
      unfold allB allTo
      rw [List.map_eq_nil_iff, List.filter_eq_nil_iff]
      intro a _; simp [isB, ht]
    rw [this]; simp [ht]
theorem w_MaybeExact (p : Page) (c : Complex) (hp : Enc.ok p) (hc : Enc.ok c) : PureF Tryz.prog 5 [Enc.av p, Enc.av c] (.bool true) := by
  refine pureF_W mix c5 (by kernel_rfl) (by kernel_rfl) (by simp [flats, flat_av, Go.AX.flat]) (by first | exact flat_av _ | simp [flat, flats, flat_av]) ?_
  have hs0 : Enc.ok noSafe := (Safe.ok_iff _).2 ⟨by simp [Enc.ok], by simp [Enc.ok]⟩
  have hsm := w_small ⟨p, noSafe⟩ c ((WorldS.ok_iff _).2 ⟨hp, hs0⟩) hc (by simp) (by simp)
  rw [WorldS.eav, Complex.eav] at hsm
  simp only [cellsL, List.length_nil] at hsm
  rw [Complex.eav]
  simp -implicitDefEqProofs only [F5, go_sem, Nat.reduceAdd, Nat.reduceEqDiff, Nat.reduceLeDiff, reduceCtorEq, ↓reduceIte]
  refine callI_pure w_fixed ?_
  simp -implicitDefEqProofs only [go_sem, Nat.reduceAdd, Nat.reduceEqDiff, reduceCtorEq, ↓reduceIte]
  refine callI_pure hsm ?_
  cases hs : smallW p noSafe c
  · simp -implicitDefEqProofs only [go_sem, Nat.reduceEqDiff, ↓reduceIte]
    refine callI_pure w_fixed ?_
    simp -implicitDefEqProofs only [go_sem, ↓reduceIte]
  obtain ⟨hpg, hcl, hsel, hsh⟩ := small_ok hp hc hs
  have hpl := hsel.len
  simp -implicitDefEqProofs only [go_sem, Nat.reduceEqDiff, ↓reduceIte]
  refine LoopI_sl (fun i : Nat => c.parts.length - i) (fun i => [(0, Enc.av p), (3, .ptr 0 0 0), (5, .ptr 1 0 0), (6, .int .i64 i)])
    (fun i st => i ≤ c.parts.length ∧ Pre (fun q : Part => q.l.any asksS) c.parts i ∧ st = ⟨[(1, .cells 0 [Enc.av p, .nils, .nils] false), (0, .cells 0 [Enc.av c.parts, .str c.pseudo] false)], 2⟩) 0 ?_ ?_
  · simp -implicitDefEqProofs only [go_sem, Nat.reduceEqDiff, reduceCtorEq, ↓reduceIte]
    exact Pre.zero _ _
  rintro i ρ st ⟨h1, h2, rfl⟩
  rcases Nat.lt_or_ge i c.parts.length with hi | hi
  · obtain ⟨q, hq, hd, hqm⟩ := get_drop hi
    have hlt : ((i : Int) < (c.parts.length : Int)) = True := eq_true (by omega)
    have wi : IntKind.i64.wrap ((i : Int) + 1) = ((i + 1 : Nat) : Int) := by rw [wrap64 (by omega) (by omega)]; omega
    have hst := w_stateful _ q.l (Nat.le_refl _) (hsel.num q hqm) (hsel.siz q hqm)
    simp -implicitDefEqProofs only [hlt, hq, go_sem, Nat.reduceAdd, Nat.reduceEqDiff, reduceCtorEq, ↓reduceIte]
    refine callI_pure hst ?_
    cases ha : q.l.any asksS
    · simp -implicitDefEqProofs only [wi, go_sem, Nat.reduceEqDiff, reduceCtorEq, ↓reduceIte]
      exact ⟨i + 1, by omega, rfl, by omega, h2.next hq ha⟩
    · simp -implicitDefEqProofs only [go_sem, ↓reduceIte]
  · have hlt : ((i : Int) < (c.parts.length : Int)) = False := eq_false (by omega)
    have ha : ∀ q ∈ c.parts, q.l.any asksS = false := h2.all hi
    have a1 := w_rAll p [] hpg (by simp) c hc
    have a2 := fun n : Int => w_Of noSafe hs0 p hpg n c hsel
    have a3 := w_Any noSafe hs0 p hpg c hsel
    rw [exact_any ha] at a3
    simp only [exact_of ha] at a2
    have hal := allB_len p [] c.parts
    have hpl2 := hpg.len
    have hin := fun n : Int => w_inL (allB p [] c.parts) n (by omega)
    simp only [all_any] at hin
    rw [Complex.eav] at a1 a3
    rw [Safe.eav] at a3
    simp only [Complex.eav, Safe.eav] at a2
    simp only [cellsL, List.length_nil] at a3 a2
    generalize allB p [] c.parts = A at a1 a3 hal hin
    simp -implicitDefEqProofs only [hlt, go_sem, Nat.reduceAdd, Nat.reduceEqDiff, reduceCtorEq, ↓reduceIte]
    refine callI_pure a1 ?_
    simp -implicitDefEqProofs only [go_sem, ↓reduceIte]
    refine LoopI_sl (fun n : Nat => p.length - n) (fun n => [(0, Enc.av p), (3, .ptr 0 0 0), (5, .ptr 1 0 0), (7, Enc.av A), (8, .int .i64 n)])
      (fun n st => n ≤ p.length ∧ st = ⟨[(1, .cells 0 [Enc.av p, .nils, .nils] false), (0, .cells 0 [Enc.av c.parts, .str c.pseudo] false)], 2⟩) 0 ?_ ?_
    · simp -implicitDefEqProofs only [go_sem, Nat.reduceEqDiff, reduceCtorEq, ↓reduceIte]
    rintro n ρ st ⟨k1, rfl⟩
    rcases Nat.lt_or_ge n p.length with hn | hn
    · have hltn : ((n : Int) < (p.length : Int)) = True := eq_true (by omega)
      have wn : IntKind.i64.wrap ((n : Int) + 1) = ((n + 1 : Nat) : Int) := by rw [wrap64 (by omega) (by omega)]; omega
      have h3 := hin n
      have h4 := a2 n
      simp -implicitDefEqProofs only [hltn, go_sem, Nat.reduceEqDiff, reduceCtorEq, ↓reduceIte]
      refine callI_pure h3 ?_
      cases hb : isB p [] n c.parts
      · rw [hb, if_neg (by simp)] at h4
        simp -implicitDefEqProofs only [go_sem, Nat.reduceAdd, Nat.reduceEqDiff, Nat.reduceLeDiff, reduceCtorEq, ↓reduceIte]
        refine callI_pure h4 ?_
        simp -implicitDefEqProofs only [wn, go_sem, Nat.reduceEqDiff, reduceCtorEq, ↓reduceIte]
        exact ⟨n + 1, by omega, rfl, by omega⟩
      · rw [hb, if_pos rfl] at h4
        simp -implicitDefEqProofs only [go_sem, Nat.reduceAdd, Nat.reduceEqDiff, Nat.reduceLeDiff, reduceCtorEq, ↓reduceIte]
        refine callI_pure h4 ?_
        simp -implicitDefEqProofs only [wn, go_sem, Nat.reduceEqDiff, reduceCtorEq, ↓reduceIte]
        exact ⟨n + 1, by omega, rfl, by omega⟩
    · have hltn : ((n : Int) < (p.length : Int)) = False := eq_false (by omega)
      simp -implicitDefEqProofs only [hltn, go_sem, Nat.reduceAdd, Nat.reduceEqDiff, Nat.reduceLeDiff, reduceCtorEq, ↓reduceIte]
      refine callI_pure a3 ?_
      by_cases hA : A.length > 0
      · have z : ((A.length : Int) > 0) = True := eq_true (by omega)
        have z2 : (A.length > 0) = True := eq_true hA
        simp -implicitDefEqProofs only [z, z2, go_sem, Nat.reduceEqDiff, reduceCtorEq, ↓reduceIte]
      · have z : ((A.length : Int) > 0) = False := eq_false (by omega)
        have z2 : (A.length > 0) = False := eq_false hA
        simp -implicitDefEqProofs only [z, z2, go_sem, Int.reduceBEq, Nat.reduceEqDiff, reduceCtorEq, ↓reduceIte]
        try rfl
end W14
