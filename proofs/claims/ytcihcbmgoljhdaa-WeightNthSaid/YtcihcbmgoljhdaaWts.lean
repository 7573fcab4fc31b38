/- Weights: the small functions. -/
import Derived.Test.YtcihcbmgoljhdaaAxE
import Derived.Test.YtcihcbmgoljhdaaTab
import Derived.Test.YtcihcbmgoljhdaaFix
set_option linter.unusedSimpArgs false
set_option linter.unusedVariables false
namespace W06
open Go Go.AX Go.Proofs
theorem mix : Try.prog.follows .mixedOrders = true := by kernel_rfl
def C0 : Known := fun _ _ => none
theorem C0_ok : KnownOk Try.prog C0 := fun f xs v h => by simp [C0] at h
theorem w28 (a : Int) : Pure Try.prog 28 [.int .i64 a] (.bool false) := by
  refine pure_W mix C0_ok c28 (by kernel_rfl) (by simp [F28]) ?_
  simp -implicitDefEqProofs only [F28, go_sem, ↓reduceIte, Nat.reduceEqDiff, Nat.reduceAdd, Nat.reduceMul, Nat.reduceLeDiff, Nat.reduceSub, Nat.reduceLT, Int.reduceAdd, Int.reduceLE, Int.reduceLT, Int.reduceToNat, Int.reduceNeg, Int.reduceNegSucc, reduceCtorEq]

def C28 : Known := fun f xs => if f = 28 then match xs with | [.int .i64 a] => some (.bool false) | _ => none else none
theorem C28_28 (a : Int) : C28 28 [.int .i64 a] = some (.bool false) := rfl
theorem C28_ok : KnownOk Try.prog C28 := fun f xs v h => by
    simp only [C28] at h
    split at h
    · rename_i hf; subst hf
      split at h
      · simp only [Option.some.injEq] at h; subst h; exact ⟨w28 _, rfl, rfl⟩
      · simp at h
    · simp at h
def cmpI (a b : Int) : Int := if a < b then -1 else if b < a then 1 else 0
theorem w24 (a b : Int) : Pure Try.prog 24 [.int .i64 a, .int .i64 b] (.int .i64 (cmpI a b)) := by
  refine pure_W mix C28_ok c24 (by kernel_rfl) (by simp [F24]) ?_
  simp -implicitDefEqProofs only [F24, C28_28, go_sem, ↓reduceIte, Nat.reduceEqDiff, Nat.reduceAdd, Nat.reduceMul, Nat.reduceLeDiff, Nat.reduceSub, Nat.reduceLT, Int.reduceAdd, Int.reduceLE, Int.reduceLT, Int.reduceToNat, Int.reduceNeg, Int.reduceNegSucc, reduceCtorEq]
  refine brI_intro (fun h => ?_) (fun h => ?_) <;> simp -implicitDefEqProofs only [h, C28_28, go_sem, ↓reduceIte, Nat.reduceEqDiff, Nat.reduceAdd, Nat.reduceMul, Nat.reduceLeDiff, Nat.reduceSub, Nat.reduceLT, Int.reduceAdd, Int.reduceLE, Int.reduceLT, Int.reduceToNat, Int.reduceNeg, Int.reduceNegSucc, reduceCtorEq]
  · simp [cmpI, h]
  · refine brI_intro (fun h2 => ?_) (fun h2 => ?_) <;> simp -implicitDefEqProofs only [h2, C28_28, go_sem, ↓reduceIte, Nat.reduceEqDiff, Nat.reduceAdd, Nat.reduceMul, Nat.reduceLeDiff, Nat.reduceSub, Nat.reduceLT, Int.reduceAdd, Int.reduceLE, Int.reduceLT, Int.reduceToNat, Int.reduceNeg, Int.reduceNegSucc, reduceCtorEq]
    · simp only [gt_iff_lt] at h2; simp [cmpI, h, h2]
    · simp only [gt_iff_lt] at h2; simp [cmpI, h, h2]

/-- the first that is not nothing -/
def orI (a b c : Int) : Int := if a ≠ 0 then a else if b ≠ 0 then b else c
theorem w23 (a b c : Int) : Pure Try.prog 23 [.ps 3 [.int .i64 a, .int .i64 b, .int .i64 c]] (.int .i64 (orI a b c)) := by
  refine pure_W mix C0_ok c23 (by kernel_rfl) (by simp [F23]) ?_
  simp -implicitDefEqProofs only [F23, go_sem, ↓reduceIte, Nat.reduceEqDiff, Nat.reduceAdd, Nat.reduceMul, Nat.reduceLeDiff, Nat.reduceSub, Nat.reduceLT, Int.reduceAdd, Int.reduceLE, Int.reduceLT, Int.reduceToNat, Int.reduceNeg, Int.reduceNegSucc, reduceCtorEq]
  rw [LoopI_def]
  refine ⟨4, ?_⟩
  simp -implicitDefEqProofs only [go_sem, ↓reduceIte, Nat.reduceEqDiff, Nat.reduceAdd, Nat.reduceMul, Nat.reduceLeDiff, Nat.reduceSub, Nat.reduceLT, Int.reduceAdd, Int.reduceLE, Int.reduceLT, Int.reduceToNat, Int.reduceNeg, Int.reduceNegSucc, reduceCtorEq]
  repeat' (refine brI_intro (fun h => ?_) (fun h => ?_) <;> simp -implicitDefEqProofs only [h, *, go_sem, ↓reduceIte, Nat.reduceEqDiff, Nat.reduceAdd, Nat.reduceMul, Nat.reduceLeDiff, Nat.reduceSub, Nat.reduceLT, Int.reduceAdd, Int.reduceLE, Int.reduceLT, Int.reduceToNat, Int.reduceNeg, Int.reduceNegSucc, reduceCtorEq])
  all_goals simp_all [orI]

def K13 : Known
  | 24, [.int .i64 a, .int .i64 b] => some (.int .i64 (cmpI a b))
  | 23, [.ps 3 [.int .i64 a, .int .i64 b, .int .i64 c]] => some (.int .i64 (orI a b c))
  | _, _ => none
theorem K13_24 (a b : Int) : K13 24 [.int .i64 a, .int .i64 b] = some (.int .i64 (cmpI a b)) := rfl
theorem K13_23 (a b c : Int) : K13 23 [.ps 3 [.int .i64 a, .int .i64 b, .int .i64 c]] = some (.int .i64 (orI a b c)) := rfl
theorem K13_ok : KnownOk Try.prog K13 := fun f xs v h => by
  unfold K13 at h
  split at h
  · simp only [Option.some.injEq] at h; subst h; exact ⟨w24 _ _, rfl, rfl⟩
  · simp only [Option.some.injEq] at h; subst h; exact ⟨w23 _ _ _, rfl, rfl⟩
  · simp at h

/-- a weight -/
structure Wt where
  a : Int
  b : Int
  c : Int
def Wt.av (w : Wt) : AV := .agg [.int .i64 w.a, .int .i64 w.b, .int .i64 w.c]
def Wt.less (w v : Wt) : Bool := decide (orI (cmpI w.a v.a) (cmpI w.b v.b) (cmpI w.c v.c) < 0)
theorem w13 (w v : Wt) : Pure Try.prog 13 [w.av, v.av] (.bool (w.less v)) := by
  refine pure_W mix K13_ok c13 (by kernel_rfl) (by simp [F13]) ?_
  simp -implicitDefEqProofs only [F13, Wt.av, K13_24, K13_23, go_sem, ↓reduceIte, Nat.reduceEqDiff, Nat.reduceAdd, Nat.reduceMul, Nat.reduceLeDiff, Nat.reduceSub, Nat.reduceLT, Int.reduceAdd, Int.reduceLE, Int.reduceLT, Int.reduceToNat, Int.reduceNeg, Int.reduceNegSucc, reduceCtorEq]
  refine andI_intro (by kernel_rfl) ?_
  simp -implicitDefEqProofs only [Wt.less, go_sem, ↓reduceIte, Nat.reduceEqDiff, Nat.reduceAdd, Nat.reduceMul, Nat.reduceLeDiff, Nat.reduceSub, Nat.reduceLT, Int.reduceAdd, Int.reduceLE, Int.reduceLT, Int.reduceToNat, Int.reduceNeg, Int.reduceNegSucc, reduceCtorEq]

theorem WT_eta (w : Wt) : (⟨w.a, w.b, w.c⟩ : Wt) = w := rfl
theorem less_irrefl (w : Wt) : w.less w = false := by simp [Wt.less, cmpI, orI]
/-- less, plainly -/
theorem less_iff (w v : Wt) : w.less v = true ↔ w.a < v.a ∨ (w.a = v.a ∧ (w.b < v.b ∨ (w.b = v.b ∧ w.c < v.c))) := by
  simp only [Wt.less, orI, cmpI, decide_eq_true_eq]
  repeat' split
  all_goals (first | omega | (simp_all; omega) | simp_all)

/-- the places of an nth -/
def nthB (a b i : Int) : Bool :=
  if a < -1000000000 ∨ a > 1000000000 then false else if b < -1000000000 ∨ b > 1000000000 then false else if i < -1000000000 ∨ i > 1000000000 then false
  else if a = 0 then decide (i = b) else decide ((IntKind.i64.wrap (i - b)).tmod a = 0) && decide (IntKind.i64.wrap ((IntKind.i64.wrap (i - b)).tdiv a) ≥ 0)
theorem w17 (a b i : Int) : Pure Try.prog 17 [.int .i64 a, .int .i64 b, .int .i64 i] (.bool (nthB a b i)) := by
  refine pure_W mix C0_ok c17 (by kernel_rfl) (by simp [F17]) ?_
  simp -implicitDefEqProofs only [F17, go_sem, ↓reduceIte, Nat.reduceEqDiff, Nat.reduceAdd, Nat.reduceMul, Nat.reduceLeDiff, Nat.reduceSub, Nat.reduceLT, Int.reduceAdd, Int.reduceLE, Int.reduceLT, Int.reduceToNat, Int.reduceNeg, Int.reduceNegSucc, reduceCtorEq]
  rw [LoopI_def]
  refine ⟨4, ?_⟩
  simp -implicitDefEqProofs only [go_sem, ↓reduceIte, Nat.reduceEqDiff, Nat.reduceAdd, Nat.reduceMul, Nat.reduceLeDiff, Nat.reduceSub, Nat.reduceLT, Int.reduceAdd, Int.reduceLE, Int.reduceLT, Int.reduceToNat, Int.reduceNeg, Int.reduceNegSucc, reduceCtorEq]
  repeat' (refine brI_intro (fun h => ?_) (fun h => ?_) <;> simp -implicitDefEqProofs only [h, *, go_sem, ↓reduceIte, Nat.reduceEqDiff, Nat.reduceAdd, Nat.reduceMul, Nat.reduceLeDiff, Nat.reduceSub, Nat.reduceLT, Int.reduceAdd, Int.reduceLE, Int.reduceLT, Int.reduceToNat, Int.reduceNeg, Int.reduceNegSucc, reduceCtorEq])
  all_goals (simp only [nthB, AV.bool.injEq])
  all_goals (repeat' split)
  all_goals (first | omega | rfl | (simp_all; done) | (rw [Bool.eq_iff_iff]; simp; done) | skip)
  all_goals (simp_all; try omega)

/-- within bounds -/
theorem nthB_in {a b i : Int} (ha : -20000 ≤ a ∧ a ≤ 20000) (hb : -20000 ≤ b ∧ b ≤ 20000) (hi : -20000 ≤ i ∧ i ≤ 20000) :
    nthB a b i = if a = 0 then decide (i = b) else decide ((i - b).tmod a = 0) && decide ((i - b).tdiv a ≥ 0) := by
  have hd : ((i - b).tdiv a).natAbs ≤ (i - b).natAbs := by rw [Int.natAbs_tdiv]; exact Nat.div_le_self _ _
  simp only [nthB]
  rw [if_neg (by omega), if_neg (by omega), if_neg (by omega), wrap64 (n := i - b) (by omega) (by omega), wrap64 (n := (i - b).tdiv a) (by omega) (by omega)]
end W06
/- WeightNth: the walk. -/
set_option linter.unusedSimpArgs false
set_option linter.unusedVariables false
namespace W06
open Go Go.AX Go.Proofs

def K6 : Known
  | 10, [] => some (.bool true)
  | 17, [.int .i64 a, .int .i64 b, .int .i64 i] => some (.bool (nthB a b i))
  | _, _ => none
theorem K6_10 : K6 10 [] = some (.bool true) := rfl
theorem K6_17 (a b i : Int) : K6 17 [.int .i64 a, .int .i64 b, .int .i64 i] = some (.bool (nthB a b i)) := rfl
theorem K6_ok : KnownOk Try.prog K6 := fun f xs v h => by
  unfold K6 at h
  split at h
  · simp only [Option.some.injEq] at h; subst h; exact ⟨w10, rfl, rfl⟩
  · simp only [Option.some.injEq] at h; subst h; exact ⟨w17 _ _ _, rfl, rfl⟩
  · simp at h

theorem nth_iff {a b i : Int} (ha : -20000 ≤ a ∧ a ≤ 20000) (hb : -20000 ≤ b ∧ b ≤ 20000) (hi : -20000 ≤ i ∧ i ≤ 20000) : nthB a b i = true ↔ ∃ q : Int, 0 ≤ q ∧ i = b + q * a := by
  rw [nthB_in ha hb hi]
  by_cases h0 : a = 0
  · rw [if_pos h0, decide_eq_true_eq]
    subst h0
    constructor
    · intro h; exact ⟨0, by omega, by omega⟩
    · rintro ⟨q, _, h⟩; omega
  · rw [if_neg h0, Bool.and_eq_true, decide_eq_true_eq, decide_eq_true_eq]
    constructor
    · rintro ⟨h1, h2⟩
      have := Int.tmod_add_mul_tdiv (i - b) a
      rw [h1] at this
      exact ⟨(i - b).tdiv a, h2, by rw [Int.mul_comm]; omega⟩
    · rintro ⟨q, hq, h⟩
      have : i - b = q * a := by omega
      rw [this]
      exact ⟨Int.mul_tmod_left q a, by rw [Int.mul_tdiv_cancel _ h0]; exact hq⟩

theorem w6 (a b i : Int) : Pure Try.prog 6 [.int .i64 a, .int .i64 b, .int .i64 i] (.bool true) := by
  refine pure_W mix K6_ok c6 (by kernel_rfl) (by simp [F6]) ?_
  by_cases hin : (-10000 ≤ a ∧ a ≤ 10000) ∧ (-10000 ≤ b ∧ b ≤ 10000) ∧ (-10000 ≤ i ∧ i ≤ 10000)
  case neg =>
    simp -implicitDefEqProofs only [F6, K6_10, go_sem, ↓reduceIte, Nat.reduceEqDiff, Nat.reduceAdd, Nat.reduceMul, Nat.reduceLeDiff, Nat.reduceSub, Nat.reduceLT, Int.reduceAdd, Int.reduceLE, Int.reduceLT, Int.reduceToNat, Int.reduceNeg, Int.reduceNegSucc, reduceCtorEq]
    iterate 6 (refine brI_both (fun h hT => ?_) (fun h hT => ?_) <;> simp -implicitDefEqProofs only [hT, *, K6_10, go_sem, ↓reduceIte, Nat.reduceEqDiff, Nat.reduceAdd, Nat.reduceMul, Nat.reduceLeDiff, Nat.reduceSub, Nat.reduceLT, Int.reduceAdd, Int.reduceLE, Int.reduceLT, Int.reduceToNat, Int.reduceNeg, Int.reduceNegSucc, reduceCtorEq] <;> try clear hT)
    omega
  case pos =>
    obtain ⟨ha, hb, hi⟩ := hin
    have n1 : ¬ a < -10000 := by omega
    have n2 : ¬ a > 10000 := by omega
    have n3 : ¬ b < -10000 := by omega
    have n4 : ¬ b > 10000 := by omega
    have n5 : ¬ i < -10000 := by omega
    have n6 : ¬ i > 10000 := by omega
    have w1 : IntKind.i64.wrap (i + a) = i + a := wrap64 (by omega) (by omega)
    have w2 : IntKind.i64.wrap (i - a) = i - a := wrap64 (by omega) (by omega)
    have hbb : nthB a b b = true := (nth_iff (by omega) (by omega) (by omega)).2 ⟨0, by omega, by omega⟩
    have hadd : nthB a b i = true → nthB a b (i + a) = true := fun h => by
      obtain ⟨q, hq, e⟩ := (nth_iff (by omega) (by omega) (by omega)).1 h
      exact (nth_iff (by omega) (by omega) (by omega)).2 ⟨q + 1, by omega, by rw [Int.add_mul]; omega⟩
    have hsub : nthB a b i = true → i ≠ b → nthB a b (i - a) = true := fun h hne => by
      obtain ⟨q, hq, e⟩ := (nth_iff (by omega) (by omega) (by omega)).1 h
      have : q ≠ 0 := fun h0 => hne (by rw [e, h0]; omega)
      exact (nth_iff (by omega) (by omega) (by omega)).2 ⟨q - 1, by omega, by rw [Int.sub_mul]; omega⟩
    have hz : a = 0 → nthB a b i = (i == b) := fun h => by
      subst h
      rw [Bool.eq_iff_iff, nth_iff (by omega) (by omega) (by omega), beq_iff_eq]
      exact ⟨fun ⟨q, _, e⟩ => by omega, fun e => ⟨0, by omega, by omega⟩⟩
    have hk : nthB a b i = true → ∀ k : Int, 1 ≤ k → k < a → k < 30 → nthB a b (i + k) = false := fun h k h1 h2 h3 => by
      rw [Bool.eq_false_iff]
      intro h'
      obtain ⟨q, hq, e⟩ := (nth_iff (by omega) (by omega) (by omega)).1 h
      obtain ⟨q', hq', e'⟩ := (nth_iff (by omega) (by omega) (by omega)).1 h'
      have : k = (q' - q) * a := by rw [Int.sub_mul]; omega
      have hpos : 0 < q' - q := by
        rcases Int.lt_or_le 0 (q' - q) with h | h
        · exact h
        · have := Int.mul_le_mul_of_nonneg_right h (show 0 ≤ a by omega); omega
      have := Int.mul_le_mul_of_nonneg_right (show 1 ≤ q' - q by omega) (show 0 ≤ a by omega)
      omega
    have hw : ∀ k : Nat, k ≤ 30 → IntKind.i64.wrap (i + (k : Int)) = i + (k : Int) := fun k h => wrap64 (by omega) (by omega)
    have hw1 : ∀ k : Nat, k ≤ 30 → IntKind.i64.wrap ((k : Int) + 1) = ((k + 1 : Nat) : Int) := fun k h => by rw [wrap64 (by omega) (by omega)]; omega
    cases his : nthB a b i
    · have hib : a = 0 → (i == b) = false := fun h0 => (hz h0).symm.trans his
      simp -implicitDefEqProofs only [F6, K6_10, K6_17, n1, n2, n3, n4, n5, n6, hbb, his, go_sem, ↓reduceIte, Nat.reduceEqDiff, Nat.reduceAdd, Nat.reduceMul, Nat.reduceLeDiff, Nat.reduceSub, Nat.reduceLT, Int.reduceAdd, Int.reduceLE, Int.reduceLT, Int.reduceToNat, Int.reduceNeg, Int.reduceNegSucc, reduceCtorEq]
      refine brI_both (fun h0 hT => ?_) (fun h0 hT => ?_)
      all_goals
        (try have hib2 := hib h0)
        first | simp -implicitDefEqProofs only [hib2, hT, go_sem, ↓reduceIte, Nat.reduceEqDiff, Nat.reduceAdd, Nat.reduceMul, Nat.reduceLeDiff, Nat.reduceSub, Nat.reduceLT, Int.reduceAdd, Int.reduceLE, Int.reduceLT, Int.reduceToNat, Int.reduceNeg, Int.reduceNegSucc, reduceCtorEq] | simp -implicitDefEqProofs only [hT, go_sem, ↓reduceIte, Nat.reduceEqDiff, Nat.reduceAdd, Nat.reduceMul, Nat.reduceLeDiff, Nat.reduceSub, Nat.reduceLT, Int.reduceAdd, Int.reduceLE, Int.reduceLT, Int.reduceToNat, Int.reduceNeg, Int.reduceNegSucc, reduceCtorEq]
        refine LoopI_sl (fun k : Nat => 30 - k) (fun k => [(0, .int .i64 a), (7, .bool false), (8, .int .i64 k)]) (fun k s => 1 ≤ k ∧ k ≤ 30) 1 ?_ ?_
        · simp -implicitDefEqProofs only [go_sem, ↓reduceIte, Nat.reduceEqDiff, Nat.reduceAdd, Nat.reduceMul, Nat.reduceLeDiff, Nat.reduceSub, Nat.reduceLT, Int.reduceAdd, Int.reduceLE, Int.reduceLT, Int.reduceToNat, Int.reduceNeg, Int.reduceNegSucc, reduceCtorEq]
        rintro k ρ ⟨hp, nx⟩ ⟨k1, k2⟩
        simp -implicitDefEqProofs only [go_sem, ↓reduceIte, Nat.reduceEqDiff, Nat.reduceAdd, Nat.reduceMul, Nat.reduceLeDiff, Nat.reduceSub, Nat.reduceLT, Int.reduceAdd, Int.reduceLE, Int.reduceLT, Int.reduceToNat, Int.reduceNeg, Int.reduceNegSucc, reduceCtorEq]
        repeat' (refine brI_both (fun h hT => ?_) (fun h hT => ?_) <;> simp -implicitDefEqProofs only [hT, go_sem, ↓reduceIte, Nat.reduceEqDiff, Nat.reduceAdd, Nat.reduceMul, Nat.reduceLeDiff, Nat.reduceSub, Nat.reduceLT, Int.reduceAdd, Int.reduceLE, Int.reduceLT, Int.reduceToNat, Int.reduceNeg, Int.reduceNegSucc, reduceCtorEq] <;> try clear hT)
        refine ⟨k + 1, by omega, ?_⟩
        simp -implicitDefEqProofs only [hw1 k k2, go_sem, ↓reduceIte, Nat.reduceEqDiff, Nat.reduceAdd, Nat.reduceMul, Nat.reduceLeDiff, Nat.reduceSub, Nat.reduceLT, Int.reduceAdd, Int.reduceLE, Int.reduceLT, Int.reduceToNat, Int.reduceNeg, Int.reduceNegSucc, reduceCtorEq]
        omega
    · have hadd' := hadd his
      have hz0 : a = 0 → (true == (i == b)) = true := fun h => by rw [← hz h, his]; rfl
      simp -implicitDefEqProofs only [F6, K6_10, K6_17, n1, n2, n3, n4, n5, n6, hbb, his, w1, hadd', go_sem, ↓reduceIte, Nat.reduceEqDiff, Nat.reduceAdd, Nat.reduceMul, Nat.reduceLeDiff, Nat.reduceSub, Nat.reduceLT, Int.reduceAdd, Int.reduceLE, Int.reduceLT, Int.reduceToNat, Int.reduceNeg, Int.reduceNegSucc, reduceCtorEq]
      refine brI_both (fun h0 hT => ?_) (fun h0 hT => ?_)
      all_goals
        (try have hz1 := hz0 h0)
        first | simp -implicitDefEqProofs only [hz1, hT, go_sem, ↓reduceIte, Nat.reduceEqDiff, Nat.reduceAdd, Nat.reduceMul, Nat.reduceLeDiff, Nat.reduceSub, Nat.reduceLT, Int.reduceAdd, Int.reduceLE, Int.reduceLT, Int.reduceToNat, Int.reduceNeg, Int.reduceNegSucc, reduceCtorEq] | simp -implicitDefEqProofs only [hT, go_sem, ↓reduceIte, Nat.reduceEqDiff, Nat.reduceAdd, Nat.reduceMul, Nat.reduceLeDiff, Nat.reduceSub, Nat.reduceLT, Int.reduceAdd, Int.reduceLE, Int.reduceLT, Int.reduceToNat, Int.reduceNeg, Int.reduceNegSucc, reduceCtorEq]
        refine LoopI_sl (fun k : Nat => 30 - k) (fun k => [(0, .int .i64 a), (1, .int .i64 b), (2, .int .i64 i), (7, .bool true), (8, .int .i64 k)]) (fun k s => 1 ≤ k ∧ k ≤ 30) 1 ?_ ?_
        · simp -implicitDefEqProofs only [go_sem, ↓reduceIte, Nat.reduceEqDiff, Nat.reduceAdd, Nat.reduceMul, Nat.reduceLeDiff, Nat.reduceSub, Nat.reduceLT, Int.reduceAdd, Int.reduceLE, Int.reduceLT, Int.reduceToNat, Int.reduceNeg, Int.reduceNegSucc, reduceCtorEq]
        rintro k ρ ⟨hp, nx⟩ ⟨k1, k2⟩
        have hwk := hw k k2
        simp -implicitDefEqProofs only [K6_17, hwk, go_sem, ↓reduceIte, Nat.reduceEqDiff, Nat.reduceAdd, Nat.reduceMul, Nat.reduceLeDiff, Nat.reduceSub, Nat.reduceLT, Int.reduceAdd, Int.reduceLE, Int.reduceLT, Int.reduceToNat, Int.reduceNeg, Int.reduceNegSucc, reduceCtorEq]
        repeat' (refine brI_both (fun h hT => ?_) (fun h hT => ?_) <;> simp -implicitDefEqProofs only [hT, K6_17, hwk, go_sem, ↓reduceIte, Nat.reduceEqDiff, Nat.reduceAdd, Nat.reduceMul, Nat.reduceLeDiff, Nat.reduceSub, Nat.reduceLT, Int.reduceAdd, Int.reduceLE, Int.reduceLT, Int.reduceToNat, Int.reduceNeg, Int.reduceNegSucc, reduceCtorEq] <;> try clear hT)
        all_goals first
          | (rename_i g1 g2; rw [hk his k (by omega) g1 g2] at h; simp at h; done)
          | (exact ⟨k + 1, by omega, by rw [hw1 k k2], by omega, by omega⟩)
          | (rw [w2, hsub his h]; done)
          | (rename_i g1; simp at g1; exact h g1)
end W06
