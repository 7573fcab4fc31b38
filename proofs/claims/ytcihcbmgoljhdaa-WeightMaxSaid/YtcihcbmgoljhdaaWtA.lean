/- Weights: the small functions. -/
import Derived.Test.YtcihcbmgoljhdaaAxE
import Derived.Test.YtcihcbmgoljhdaaTab
import Derived.Test.YtcihcbmgoljhdaaFix
set_option linter.unusedSimpArgs false
set_option linter.unusedVariables false
namespace W06
open Go Go.AX Go.Proofs
theorem mix : Try.prog.follows .mixedOrders = true := by kernel_rfl
def C0 : Known := fun _ _ => none
theorem C0_ok : KnownOk Try.prog C0 := fun f xs v h => by simp [C0] at h
theorem w28 (a : Int) : Pure Try.prog 28 [.int .i64 a] (.bool false) := by
  refine pure_W mix C0_ok c28 (by kernel_rfl) (by simp [F28]) ?_
  simp -implicitDefEqProofs only [F28, go_sem, ↓reduceIte, Nat.reduceEqDiff, Nat.reduceAdd, Nat.reduceMul, Nat.reduceLeDiff, Nat.reduceSub, Nat.reduceLT, Int.reduceAdd, Int.reduceLE, Int.reduceLT, Int.reduceToNat, Int.reduceNeg, Int.reduceNegSucc, reduceCtorEq]

def C28 : Known := fun f xs => if f = 28 then match xs with | [.int .i64 a] => some (.bool false) | _ => none else none
theorem C28_28 (a : Int) : C28 28 [.int .i64 a] = some (.bool false) := rfl
theorem C28_ok : KnownOk Try.prog C28 := fun f xs v h => by
    simp only [C28] at h
    split at h
    · rename_i hf; subst hf
      split at h
      · simp only [Option.some.injEq] at h; subst h; exact ⟨w28 _, rfl, rfl⟩
      · simp at h
    · simp at h
def cmpI (a b : Int) : Int := if a < b then -1 else if b < a then 1 else 0
theorem w24 (a b : Int) : Pure Try.prog 24 [.int .i64 a, .int .i64 b] (.int .i64 (cmpI a b)) := by
  refine pure_W mix C28_ok c24 (by kernel_rfl) (by simp [F24]) ?_
  simp -implicitDefEqProofs only [F24, C28_28, go_sem, ↓reduceIte, Nat.reduceEqDiff, Nat.reduceAdd, Nat.reduceMul, Nat.reduceLeDiff, Nat.reduceSub, Nat.reduceLT, Int.reduceAdd, Int.reduceLE, Int.reduceLT, Int.reduceToNat, Int.reduceNeg, Int.reduceNegSucc, reduceCtorEq]
  refine brI_intro (fun h => ?_) (fun h => ?_) <;> simp -implicitDefEqProofs only [h, C28_28, go_sem, ↓reduceIte, Nat.reduceEqDiff, Nat.reduceAdd, Nat.reduceMul, Nat.reduceLeDiff, Nat.reduceSub, Nat.reduceLT, Int.reduceAdd, Int.reduceLE, Int.reduceLT, Int.reduceToNat, Int.reduceNeg, Int.reduceNegSucc, reduceCtorEq]
  · simp [cmpI, h]
  · refine brI_intro (fun h2 => ?_) (fun h2 => ?_) <;> simp -implicitDefEqProofs only [h2, C28_28, go_sem, ↓reduceIte, Nat.reduceEqDiff, Nat.reduceAdd, Nat.reduceMul, Nat.reduceLeDiff, Nat.reduceSub, Nat.reduceLT, Int.reduceAdd, Int.reduceLE, Int.reduceLT, Int.reduceToNat, Int.reduceNeg, Int.reduceNegSucc, reduceCtorEq]
    · simp only [gt_iff_lt] at h2; simp [cmpI, h, h2]
    · simp only [gt_iff_lt] at h2; simp [cmpI, h, h2]

/-- the first that is not nothing -/
def orI (a b c : Int) : Int := if a ≠ 0 then a else if b ≠ 0 then b else c
theorem w23 (a b c : Int) : Pure Try.prog 23 [.ps 3 [.int .i64 a, .int .i64 b, .int .i64 c]] (.int .i64 (orI a b c)) := by
  refine pure_W mix C0_ok c23 (by kernel_rfl) (by simp [F23]) ?_
  simp -implicitDefEqProofs only [F23, elemA, go_sem, ↓reduceIte, Nat.reduceEqDiff, Nat.reduceAdd, Nat.reduceMul, Nat.reduceLeDiff, Nat.reduceSub, Nat.reduceLT, Int.reduceAdd, Int.reduceLE, Int.reduceLT, Int.reduceToNat, Int.reduceNeg, Int.reduceNegSucc, reduceCtorEq]
  rw [LoopI_def]
  refine ⟨4, ?_⟩
  simp -implicitDefEqProofs only [elemA, go_sem, ↓reduceIte, Nat.reduceEqDiff, Nat.reduceAdd, Nat.reduceMul, Nat.reduceLeDiff, Nat.reduceSub, Nat.reduceLT, Int.reduceAdd, Int.reduceLE, Int.reduceLT, Int.reduceToNat, Int.reduceNeg, Int.reduceNegSucc, reduceCtorEq]
  repeat' (refine brI_both (fun h hT => ?_) (fun h hT => ?_) <;> simp -implicitDefEqProofs only [hT, *, elemA, go_sem, ↓reduceIte, Nat.reduceEqDiff, Nat.reduceAdd, Nat.reduceMul, Nat.reduceLeDiff, Nat.reduceSub, Nat.reduceLT, Int.reduceAdd, Int.reduceLE, Int.reduceLT, Int.reduceToNat, Int.reduceNeg, Int.reduceNegSucc, reduceCtorEq] <;> try clear hT)
  all_goals simp_all [orI]

def K13 : Known
  | 24, [.int .i64 a, .int .i64 b] => some (.int .i64 (cmpI a b))
  | 23, [.ps 3 [.int .i64 a, .int .i64 b, .int .i64 c]] => some (.int .i64 (orI a b c))
  | _, _ => none
theorem K13_24 (a b : Int) : K13 24 [.int .i64 a, .int .i64 b] = some (.int .i64 (cmpI a b)) := rfl
theorem K13_23 (a b c : Int) : K13 23 [.ps 3 [.int .i64 a, .int .i64 b, .int .i64 c]] = some (.int .i64 (orI a b c)) := rfl
theorem K13_ok : KnownOk Try.prog K13 := fun f xs v h => by
  unfold K13 at h
  split at h
  · simp only [Option.some.injEq] at h; subst h; exact ⟨w24 _ _, rfl, rfl⟩
  · simp only [Option.some.injEq] at h; subst h; exact ⟨w23 _ _ _, rfl, rfl⟩
  · simp at h

/-- a weight -/
structure Wt where
  a : Int
  b : Int
  c : Int
def Wt.av (w : Wt) : AV := .agg [.int .i64 w.a, .int .i64 w.b, .int .i64 w.c]
def Wt.less (w v : Wt) : Bool := decide (orI (cmpI w.a v.a) (cmpI w.b v.b) (cmpI w.c v.c) < 0)
theorem w13 (w v : Wt) : Pure Try.prog 13 [w.av, v.av] (.bool (w.less v)) := by
  refine pure_W mix K13_ok c13 (by kernel_rfl) (by simp [F13]) ?_
  simp -implicitDefEqProofs only [F13, Wt.av, K13_24, K13_23, go_sem, ↓reduceIte, Nat.reduceEqDiff, Nat.reduceAdd, Nat.reduceMul, Nat.reduceLeDiff, Nat.reduceSub, Nat.reduceLT, Int.reduceAdd, Int.reduceLE, Int.reduceLT, Int.reduceToNat, Int.reduceNeg, Int.reduceNegSucc, reduceCtorEq]
  refine andI_intro (by kernel_rfl) ?_
  simp -implicitDefEqProofs only [Wt.less, go_sem, ↓reduceIte, Nat.reduceEqDiff, Nat.reduceAdd, Nat.reduceMul, Nat.reduceLeDiff, Nat.reduceSub, Nat.reduceLT, Int.reduceAdd, Int.reduceLE, Int.reduceLT, Int.reduceToNat, Int.reduceNeg, Int.reduceNegSucc, reduceCtorEq]

theorem WT_eta (w : Wt) : (⟨w.a, w.b, w.c⟩ : Wt) = w := rfl
theorem less_irrefl (w : Wt) : w.less w = false := by simp [Wt.less, cmpI, orI]
/-- less, plainly -/
theorem less_iff (w v : Wt) : w.less v = true ↔ w.a < v.a ∨ (w.a = v.a ∧ (w.b < v.b ∨ (w.b = v.b ∧ w.c < v.c))) := by
  simp only [Wt.less, orI, cmpI, decide_eq_true_eq]
  repeat' split
  all_goals (first | omega | (simp_all; omega) | simp_all)

/-- the places of an nth -/
def nthB (a b i : Int) : Bool :=
  if a < -1000000000 ∨ a > 1000000000 then false else if b < -1000000000 ∨ b > 1000000000 then false else if i < -1000000000 ∨ i > 1000000000 then false
  else if a = 0 then decide (i = b) else decide ((IntKind.i64.wrap (i - b)).tmod a = 0) && decide (IntKind.i64.wrap ((IntKind.i64.wrap (i - b)).tdiv a) ≥ 0)
theorem w17 (a b i : Int) : Pure Try.prog 17 [.int .i64 a, .int .i64 b, .int .i64 i] (.bool (nthB a b i)) := by
  refine pure_W mix C0_ok c17 (by kernel_rfl) (by simp [F17]) ?_
  simp -implicitDefEqProofs only [F17, elemA, go_sem, ↓reduceIte, Nat.reduceEqDiff, Nat.reduceAdd, Nat.reduceMul, Nat.reduceLeDiff, Nat.reduceSub, Nat.reduceLT, Int.reduceAdd, Int.reduceLE, Int.reduceLT, Int.reduceToNat, Int.reduceNeg, Int.reduceNegSucc, reduceCtorEq]
  rw [LoopI_def]
  refine ⟨4, ?_⟩
  simp -implicitDefEqProofs only [elemA, go_sem, ↓reduceIte, Nat.reduceEqDiff, Nat.reduceAdd, Nat.reduceMul, Nat.reduceLeDiff, Nat.reduceSub, Nat.reduceLT, Int.reduceAdd, Int.reduceLE, Int.reduceLT, Int.reduceToNat, Int.reduceNeg, Int.reduceNegSucc, reduceCtorEq]
  repeat' (refine brI_both (fun h hT => ?_) (fun h hT => ?_) <;> simp -implicitDefEqProofs only [hT, *, elemA, go_sem, ↓reduceIte, Nat.reduceEqDiff, Nat.reduceAdd, Nat.reduceMul, Nat.reduceLeDiff, Nat.reduceSub, Nat.reduceLT, Int.reduceAdd, Int.reduceLE, Int.reduceLT, Int.reduceToNat, Int.reduceNeg, Int.reduceNegSucc, reduceCtorEq] <;> try clear hT)
  all_goals (simp only [nthB, AV.bool.injEq])
  all_goals (repeat' split)
  all_goals (first | omega | rfl | (simp_all; done) | (rw [Bool.eq_iff_iff]; simp; done) | skip)
  all_goals (simp_all; try omega)

/-- within bounds -/
theorem nthB_in {a b i : Int} (ha : -20000 ≤ a ∧ a ≤ 20000) (hb : -20000 ≤ b ∧ b ≤ 20000) (hi : -20000 ≤ i ∧ i ≤ 20000) :
    nthB a b i = if a = 0 then decide (i = b) else decide ((i - b).tmod a = 0) && decide ((i - b).tdiv a ≥ 0) := by
  have hd : ((i - b).tdiv a).natAbs ≤ (i - b).natAbs := by rw [Int.natAbs_tdiv]; exact Nat.div_le_self _ _
  simp only [nthB]
  rw [if_neg (by omega), if_neg (by omega), if_neg (by omega), wrap64 (n := i - b) (by omega) (by omega), wrap64 (n := (i - b).tdiv a) (by omega) (by omega)]
end W06
/- Counting simple selectors. -/
set_option linter.unusedSimpArgs false
set_option linter.unusedVariables false
namespace W06
open Go Go.AX Go.AX.Ty Go.Proofs

/- how many kinds lie within bounds, in all depths -/
mutual
def cnt (a b : Int) : Simple → Int
  | .mk k _ _ _ _ l => (if a ≤ k ∧ k ≤ b then 1 else 0) + (if k = 11 then cntL a b l else 0)
def cntL (a b : Int) : List Simple → Int
  | [] => 0
  | x :: r => cnt a b x + cntL a b r
end
mutual
def siz : Simple → Nat
  | .mk _ _ _ _ _ l => 1 + sizL l
def sizL : List Simple → Nat
  | [] => 0
  | x :: r => siz x + sizL r
end
theorem cnt_eq (a b : Int) (x : Simple) : cnt a b x = (if a ≤ x.kind ∧ x.kind ≤ b then 1 else 0) + (if x.kind = 11 then cntL a b x.l else 0) := by
  cases x; simp only [cnt, Simple.kind, Simple.l]; rfl
theorem siz_eq (x : Simple) : siz x = 1 + sizL x.l := by cases x; simp only [siz, Simple.l]
mutual
theorem cnt_bd (a b : Int) : ∀ x : Simple, 0 ≤ cnt a b x ∧ cnt a b x ≤ siz x
  | .mk k _ _ _ _ l => by
    have := cntL_bd a b l
    simp only [cnt, siz]
    split <;> split <;> omega
theorem cntL_bd (a b : Int) : ∀ l : List Simple, 0 ≤ cntL a b l ∧ cntL a b l ≤ sizL l
  | [] => by simp [cntL, sizL]
  | x :: r => by
    have := cntL_bd a b r
    have := cnt_bd a b x
    simp only [cntL, sizL]
    omega
end
theorem len_sizL : ∀ l : List Simple, l.length ≤ sizL l
  | [] => by simp [sizL]
  | x :: r => by have := len_sizL r; have := siz_eq x; simp only [List.length_cons, sizL]; omega

theorem w22 (a b : Int) : ∀ (N : Nat) (l : List Simple), sizL l ≤ N → N ≤ 1000000 → PureF Try.prog 22 [Enc.av l, Enc.av a, Enc.av b] (Enc.av (cntL a b l)) := fun N => by
  induction N using Nat.strongRecOn with
  | ind N ih =>
  intro l hN hM
  refine pureF_W mix c22 (by kernel_rfl) (by kernel_rfl) (by simp [flats, flat_av]) (flat_av _) ?_
  simp -implicitDefEqProofs only [F22, go_sem, ↓reduceIte, Nat.reduceEqDiff, Nat.reduceAdd, Nat.reduceMul, Nat.reduceLeDiff, Nat.reduceSub, Nat.reduceLT, Int.reduceAdd, Int.reduceLE, Int.reduceLT, Int.reduceToNat, Int.reduceNeg, Int.reduceNegSucc, reduceCtorEq]
  refine LoopI_sl (fun p : Nat × Int => l.length - p.1) (fun p => [(0, Enc.av l), (1, .int .i64 a), (2, .int .i64 b), (7, .int .i64 p.2), (8, .int .i64 p.1)])
    (fun p s => p.1 ≤ l.length ∧ 0 ≤ p.2 ∧ p.2 + cntL a b (l.drop p.1) = cntL a b l ∧ sizL (l.drop p.1) ≤ N ∧ p.2 ≤ N) (0, 0) ?_ ?_
  · simp -implicitDefEqProofs only [go_sem, ↓reduceIte, Nat.reduceEqDiff, Nat.reduceAdd, Nat.reduceMul, Nat.reduceLeDiff, Nat.reduceSub, Nat.reduceLT, Int.reduceAdd, Int.reduceLE, Int.reduceLT, Int.reduceToNat, Int.reduceNeg, Int.reduceNegSucc, reduceCtorEq]
    simp [hN]
  rintro ⟨k, n⟩ ρ ⟨hp, nx⟩ ⟨h1, h2, h3, h4, h5⟩
  dsimp only at h1 h2 h3 h4 h5
  have hlen := len_sizL l
  rcases Nat.lt_or_ge k l.length with hk | hk
  · obtain ⟨x, hx, hd, hm⟩ := get_drop hk
    have hlt : ((k : Int) < (l.length : Int)) = True := eq_true (by omega)
    simp only [hd, cntL, sizL] at h3 h4
    rw [cnt_eq] at h3
    rw [siz_eq] at h4
    have hb := cntL_bd a b x.l
    have hb2 := cntL_bd a b (l.drop (k + 1))
    have hb3 := cntL_bd a b l
    have w1 : IntKind.i64.wrap ((k : Int) + 1) = ((k + 1 : Nat) : Int) := by rw [wrap64 (by omega) (by omega)]; omega
    simp -implicitDefEqProofs only [hlt, hx, w1, go_sem, ↓reduceIte, Nat.reduceEqDiff, Nat.reduceAdd, Nat.reduceMul, Nat.reduceLeDiff, Nat.reduceSub, Nat.reduceLT, Int.reduceAdd, Int.reduceLE, Int.reduceLT, Int.reduceToNat, Int.reduceNeg, Int.reduceNegSucc, reduceCtorEq]
    have ih' := ih (N - 1) (by omega) x.l (by omega) (by omega)
    have w2 : IntKind.i64.wrap (n + 1) = n + 1 := wrap64 (by omega) (by omega)
    have w3 : IntKind.i64.wrap (n + cntL a b x.l) = n + cntL a b x.l := wrap64 (by omega) (by omega)
    have w4 : IntKind.i64.wrap (n + 1 + cntL a b x.l) = n + 1 + cntL a b x.l := wrap64 (by omega) (by omega)
    repeat' (first
      | (refine brI_both (fun h hT => ?_) (fun h hT => ?_) <;> simp -implicitDefEqProofs only [hT, hx, w1, w2, w3, w4, go_sem, ↓reduceIte, Nat.reduceEqDiff, Nat.reduceAdd, Nat.reduceMul, Nat.reduceLeDiff, Nat.reduceSub, Nat.reduceLT, Int.reduceAdd, Int.reduceLE, Int.reduceLT, Int.reduceToNat, Int.reduceNeg, Int.reduceNegSucc, reduceCtorEq] <;> try clear hT)
      | (refine callI_pure ih' ?_; simp -implicitDefEqProofs only [hx, w1, w2, w3, w4, go_sem, ↓reduceIte, Nat.reduceEqDiff, Nat.reduceAdd, Nat.reduceMul, Nat.reduceLeDiff, Nat.reduceSub, Nat.reduceLT, Int.reduceAdd, Int.reduceLE, Int.reduceLT, Int.reduceToNat, Int.reduceNeg, Int.reduceNegSucc, reduceCtorEq]))
    all_goals
      refine ⟨(k + 1, _), by simp only; omega, ⟨rfl, rfl⟩, ?_⟩
      simp only
      repeat' split at h3
      all_goals omega
  · have hlt : ((k : Int) < (l.length : Int)) = False := eq_false (by omega)
    rw [drop_all hk] at h3
    simp only [cntL] at h3
    simp -implicitDefEqProofs only [hlt, go_sem, ↓reduceIte, Nat.reduceEqDiff, Nat.reduceAdd, Nat.reduceMul, Nat.reduceLeDiff, Nat.reduceSub, Nat.reduceLT, Int.reduceAdd, Int.reduceLE, Int.reduceLT, Int.reduceToNat, Int.reduceNeg, Int.reduceNegSucc, reduceCtorEq]
    simp; omega
end W06
/- What a selector weighs, by the reference. -/
set_option linter.unusedSimpArgs false
set_option linter.unusedVariables false
namespace W06
open Go Go.AX Go.AX.Ty Go.Proofs

def cntP (a b : Int) : List Part → Int
  | [] => 0
  | p :: r => cntL a b p.l + cntP a b r
def sizP : List Part → Nat
  | [] => 0
  | p :: r => 1 + sizL p.l + sizP r
theorem cntP_bd (a b : Int) : ∀ l : List Part, 0 ≤ cntP a b l ∧ cntP a b l ≤ sizP l
  | [] => by simp [cntP, sizP]
  | p :: r => by
    have := cntP_bd a b r
    have := cntL_bd a b p.l
    simp only [cntP, sizP]; omega
theorem len_sizP : ∀ l : List Part, l.length ≤ sizP l
  | [] => by simp [sizP]
  | p :: r => by have := len_sizP r; simp only [List.length_cons, sizP]; omega
/-- P6.1 -/
def ofC (c : Complex) : W3 := ⟨cntP 3 3 c.parts, cntP 4 10 c.parts, cntP 2 2 c.parts + if c.pseudo = [] then 0 else 1⟩

theorem w12 (x : Complex) (hx : sizP x.parts ≤ 100000) : PureF Try.prog 12 [Enc.av x] (Enc.av (ofC x)) := by
  refine pureF_W mix c12 (by kernel_rfl) (by kernel_rfl) (by simp [flats, flat_av]) (flat_av _) ?_
  have hlen := len_sizP x.parts
  have b1 := cntP_bd 3 3 x.parts
  have b2 := cntP_bd 4 10 x.parts
  have b3 := cntP_bd 2 2 x.parts
  simp -implicitDefEqProofs only [F12, go_sem, ↓reduceIte, Nat.reduceEqDiff, Nat.reduceAdd, Nat.reduceMul, Nat.reduceLeDiff, Nat.reduceSub, Nat.reduceLT, Int.reduceAdd, Int.reduceLE, Int.reduceLT, Int.reduceToNat, Int.reduceNeg, Int.reduceNegSucc, Int.reduceEq, Int.reduceNe, Int.reduceGT, Int.reduceGE, Int.reduceSub, Int.reduceMul, Int.reduceBEq, Int.reduceBNe, Nat.reduceBEq, Nat.reduceGT, reduceCtorEq]
  refine LoopI_sl (fun p : Nat × W3 => x.parts.length - p.1) (fun p => [(1, .ptr 0 0 0), (2, .ptr 1 0 0), (3, .ptr 2 0 0), (4, .int .i64 p.1)])
    (fun p s => s = ⟨[(2, .cells 0 [.int .i64 p.2.a, .int .i64 p.2.b, .int .i64 p.2.c] false), (1, .cells 0 [.int .i64 0, .int .i64 0, .int .i64 0] false), (0, .cells 0 (Enc.cells x) false)], 3⟩ ∧
      p.1 ≤ x.parts.length ∧ 0 ≤ p.2.a ∧ 0 ≤ p.2.b ∧ 0 ≤ p.2.c ∧ p.2.a + cntP 3 3 (x.parts.drop p.1) = cntP 3 3 x.parts ∧ p.2.b + cntP 4 10 (x.parts.drop p.1) = cntP 4 10 x.parts ∧ p.2.c + cntP 2 2 (x.parts.drop p.1) = cntP 2 2 x.parts ∧ sizP (x.parts.drop p.1) ≤ 100000) (0, ⟨0, 0, 0⟩) ?_ ?_
  · simp -implicitDefEqProofs only [go_sem, ↓reduceIte, Nat.reduceEqDiff, Nat.reduceAdd, Nat.reduceMul, Nat.reduceLeDiff, Nat.reduceSub, Nat.reduceLT, Int.reduceAdd, Int.reduceLE, Int.reduceLT, Int.reduceToNat, Int.reduceNeg, Int.reduceNegSucc, Int.reduceEq, Int.reduceNe, Int.reduceGT, Int.reduceGE, Int.reduceSub, Int.reduceMul, Int.reduceBEq, Int.reduceBNe, Nat.reduceBEq, Nat.reduceGT, reduceCtorEq]
    simp [hx]
  rintro ⟨k, ⟨a, b, c⟩⟩ ρ ⟨hp, nx⟩ ⟨hs, h1, h2, h3, h4, h5, h6, h7, h8⟩
  dsimp only at hs h1 h2 h3 h4 h5 h6 h7 h8
  obtain ⟨rfl, rfl⟩ := St.mk.inj hs
  rcases Nat.lt_or_ge k x.parts.length with hk | hk
  · obtain ⟨p, hpk, hd, hm⟩ := get_drop hk
    simp only [hd, cntP, sizP] at h5 h6 h7 h8
    have hlt : ((k : Int) < (x.parts.length : Int)) = True := eq_true (by omega)
    have w1 : IntKind.i64.wrap ((k : Int) + 1) = ((k + 1 : Nat) : Int) := by rw [wrap64 (by omega) (by omega)]; omega
    have d1 := cntL_bd 3 3 p.l
    have d2 := cntL_bd 4 10 p.l
    have d3 := cntL_bd 2 2 p.l
    have e1 := cntP_bd 3 3 (x.parts.drop (k + 1))
    have e2 := cntP_bd 4 10 (x.parts.drop (k + 1))
    have e3 := cntP_bd 2 2 (x.parts.drop (k + 1))
    have w2 : IntKind.i64.wrap (a + cntL 3 3 p.l) = a + cntL 3 3 p.l := wrap64 (by omega) (by omega)
    have w3 : IntKind.i64.wrap (b + cntL 4 10 p.l) = b + cntL 4 10 p.l := wrap64 (by omega) (by omega)
    have w4 : IntKind.i64.wrap (c + cntL 2 2 p.l) = c + cntL 2 2 p.l := wrap64 (by omega) (by omega)
    simp -implicitDefEqProofs only [hlt, hpk, w1, w2, w3, w4, go_sem, ↓reduceIte, Nat.reduceEqDiff, Nat.reduceAdd, Nat.reduceMul, Nat.reduceLeDiff, Nat.reduceSub, Nat.reduceLT, Int.reduceAdd, Int.reduceLE, Int.reduceLT, Int.reduceToNat, Int.reduceNeg, Int.reduceNegSucc, Int.reduceEq, Int.reduceNe, Int.reduceGT, Int.reduceGE, Int.reduceSub, Int.reduceMul, Int.reduceBEq, Int.reduceBNe, Nat.reduceBEq, Nat.reduceGT, reduceCtorEq]
    repeat' (first
      | (refine dcallI_pure (w22 _ _ 100000 p.l (by omega) (by omega)) ?_; simp -implicitDefEqProofs only [w1, w2, w3, w4, go_sem, ↓reduceIte, Nat.reduceEqDiff, Nat.reduceAdd, Nat.reduceMul, Nat.reduceLeDiff, Nat.reduceSub, Nat.reduceLT, Int.reduceAdd, Int.reduceLE, Int.reduceLT, Int.reduceToNat, Int.reduceNeg, Int.reduceNegSucc, Int.reduceEq, Int.reduceNe, Int.reduceGT, Int.reduceGE, Int.reduceSub, Int.reduceMul, Int.reduceBEq, Int.reduceBNe, Nat.reduceBEq, Nat.reduceGT, reduceCtorEq])
      | (refine andI_intro (by (first | omega | (simp [indepB, indep1, apart1, Nat.testBit_eq_decide_div_mod_eq]; done) | (simp [indepB, indep1, apart1, Nat.testBit_eq_decide_div_mod_eq]; omega) | kernel_rfl)) ?_; simp -implicitDefEqProofs only [w1, w2, w3, w4, go_sem, ↓reduceIte, Nat.reduceEqDiff, Nat.reduceAdd, Nat.reduceMul, Nat.reduceLeDiff, Nat.reduceSub, Nat.reduceLT, Int.reduceAdd, Int.reduceLE, Int.reduceLT, Int.reduceToNat, Int.reduceNeg, Int.reduceNegSucc, Int.reduceEq, Int.reduceNe, Int.reduceGT, Int.reduceGE, Int.reduceSub, Int.reduceMul, Int.reduceBEq, Int.reduceBNe, Nat.reduceBEq, Nat.reduceGT, reduceCtorEq]))
    refine ⟨(k + 1, ⟨_, _, _⟩), by simp only; omega, rfl, rfl, ?_⟩
    simp only; omega
  · have hlt : ((k : Int) < (x.parts.length : Int)) = False := eq_false (by omega)
    rw [drop_all hk] at h5 h6 h7
    simp only [cntP, Int.add_zero] at h5 h6 h7
    have w1 : IntKind.i64.wrap (c + 1) = c + 1 := wrap64 (by omega) (by omega)
    simp -implicitDefEqProofs only [hlt, w1, go_sem, ↓reduceIte, Nat.reduceEqDiff, Nat.reduceAdd, Nat.reduceMul, Nat.reduceLeDiff, Nat.reduceSub, Nat.reduceLT, Int.reduceAdd, Int.reduceLE, Int.reduceLT, Int.reduceToNat, Int.reduceNeg, Int.reduceNegSucc, Int.reduceEq, Int.reduceNe, Int.reduceGT, Int.reduceGE, Int.reduceSub, Int.reduceMul, Int.reduceBEq, Int.reduceBNe, Nat.reduceBEq, Nat.reduceGT, reduceCtorEq]
    repeat' (refine brI_both (fun h hT => ?_) (fun h hT => ?_) <;> simp -implicitDefEqProofs only [hT, w1, go_sem, ↓reduceIte, Nat.reduceEqDiff, Nat.reduceAdd, Nat.reduceMul, Nat.reduceLeDiff, Nat.reduceSub, Nat.reduceLT, Int.reduceAdd, Int.reduceLE, Int.reduceLT, Int.reduceToNat, Int.reduceNeg, Int.reduceNegSucc, Int.reduceEq, Int.reduceNe, Int.reduceGT, Int.reduceGE, Int.reduceSub, Int.reduceMul, Int.reduceBEq, Int.reduceBNe, Nat.reduceBEq, Nat.reduceGT, reduceCtorEq] <;> try clear hT)
    all_goals
      simp only [ofC, h5, h6, h7, AV.agg.injEq, List.cons.injEq, AV.int.injEq, true_and, and_true]
      simp_all
end W06
/- What a selector weighs, by the program. -/
set_option linter.unusedSimpArgs false
set_option linter.unusedVariables false
namespace W06
open Go Go.AX Go.AX.Ty Go.Proofs

def plc (k : Int) : Int := if k = 3 then 0 else if 4 ≤ k ∧ k ≤ 10 then 1 else if k = 2 then 2 else 3
theorem w27 (k : Int) : PureF Try.prog 27 [Enc.av k] (Enc.av (plc k)) := by
  refine pureF_W mix c27 (by kernel_rfl) (by kernel_rfl) rfl rfl ?_
  simp -implicitDefEqProofs only [F27, go_sem, ↓reduceIte, Nat.reduceEqDiff, Nat.reduceAdd, Nat.reduceMul, Nat.reduceLeDiff, Nat.reduceSub, Nat.reduceLT, Int.reduceAdd, Int.reduceLE, Int.reduceLT, Int.reduceToNat, Int.reduceNeg, Int.reduceNegSucc, Int.reduceEq, Int.reduceNe, Int.reduceGT, Int.reduceGE, Int.reduceSub, Int.reduceMul, Int.reduceBEq, Int.reduceBNe, Nat.reduceBEq, Nat.reduceGT, reduceCtorEq]
  repeat' (refine brI_both (fun h hT => ?_) (fun h hT => ?_) <;> try simp -implicitDefEqProofs only [hT, go_sem, ↓reduceIte, Nat.reduceEqDiff, Nat.reduceAdd, Nat.reduceMul, Nat.reduceLeDiff, Nat.reduceSub, Nat.reduceLT, Int.reduceAdd, Int.reduceLE, Int.reduceLT, Int.reduceToNat, Int.reduceNeg, Int.reduceNegSucc, Int.reduceEq, Int.reduceNe, Int.reduceGT, Int.reduceGE, Int.reduceSub, Int.reduceMul, Int.reduceBEq, Int.reduceBNe, Nat.reduceBEq, Nat.reduceGT, reduceCtorEq] <;> try clear hT)
  all_goals
    simp only [AV.int.injEq, true_and, plc]
    repeat' split
    all_goals omega

theorem w21 : ∀ (N : Nat) (l : List Simple), sizL l ≤ N → N ≤ 100000 → ∀ (h : List (Nat × AX.Obj)) (n b : Nat) (p q r : Int), b < n → AX.look b h = some (.cells 0 [.int .i64 p, .int .i64 q, .int .i64 r] false) →
    0 ≤ p ∧ p + sizL l ≤ 10000000 → 0 ≤ q ∧ q + sizL l ≤ 10000000 → 0 ≤ r ∧ r + sizL l ≤ 10000000 →
    ACalls Try.prog 21 [.ptr b 0 0, Enc.av l] ⟨h, n⟩ fun v s' => v = .tup [] ∧ s' = ⟨putAt b (.cells 0 [.int .i64 (p + cntL 3 3 l), .int .i64 (q + cntL 4 10 l), .int .i64 (r + cntL 2 2 l)] false) h, n⟩ := fun N => by
  induction N using Nat.strongRecOn with
  | ind N ih =>
  intro l hN hM h n b p q r hb hl hp hq hr
  refine acalls_fin mix c21 (by kernel_rfl) (by kernel_rfl) (by simp [Cl, Cls]) rfl put_ex ?_
  have hlen := len_sizL l
  have bd1 := cntL_bd 3 3 l
  have bd2 := cntL_bd 4 10 l
  have bd3 := cntL_bd 2 2 l
  simp -implicitDefEqProofs only [F21, go_sem, ↓reduceIte, Nat.reduceEqDiff, Nat.reduceAdd, Nat.reduceMul, Nat.reduceLeDiff, Nat.reduceSub, Nat.reduceLT, Int.reduceAdd, Int.reduceLE, Int.reduceLT, Int.reduceToNat, Int.reduceNeg, Int.reduceNegSucc, Int.reduceEq, Int.reduceNe, Int.reduceGT, Int.reduceGE, Int.reduceSub, Int.reduceMul, Int.reduceBEq, Int.reduceBNe, Nat.reduceBEq, Nat.reduceGT, reduceCtorEq]
  refine LoopI_sl (fun k : Nat => l.length - k) (fun k => [(0, .ptr b 0 0), (7, Enc.av l), (8, .int .i64 l.length), (9, .int .i64 k)])
    (fun k s => k ≤ l.length ∧ n ≤ s.next ∧ (∀ id, id < n → id ≠ b → AX.look id s.heap = AX.look id h) ∧
      ∃ p' q' r', AX.look b s.heap = some (.cells 0 [.int .i64 p', .int .i64 q', .int .i64 r'] false) ∧ p' + cntL 3 3 (l.drop k) = p + cntL 3 3 l ∧ q' + cntL 4 10 (l.drop k) = q + cntL 4 10 l ∧ r' + cntL 2 2 (l.drop k) = r + cntL 2 2 l ∧
        (0 ≤ p' ∧ p' + sizL (l.drop k) ≤ 10000000) ∧ (0 ≤ q' ∧ q' + sizL (l.drop k) ≤ 10000000) ∧ (0 ≤ r' ∧ r' + sizL (l.drop k) ≤ 10000000) ∧ sizL (l.drop k) ≤ N) 0 ?_ ?_
  · simp -implicitDefEqProofs only [go_sem, ↓reduceIte, Nat.reduceEqDiff, Nat.reduceAdd, Nat.reduceMul, Nat.reduceLeDiff, Nat.reduceSub, Nat.reduceLT, Int.reduceAdd, Int.reduceLE, Int.reduceLT, Int.reduceToNat, Int.reduceNeg, Int.reduceNegSucc, Int.reduceEq, Int.reduceNe, Int.reduceGT, Int.reduceGE, Int.reduceSub, Int.reduceMul, Int.reduceBEq, Int.reduceBNe, Nat.reduceBEq, Nat.reduceGT, reduceCtorEq]
    refine ⟨fun _ _ _ => trivial, p, q, r, ?_⟩
    simp [hl]; omega
  rintro k ρ ⟨g, m⟩ ⟨h1, h2, h3, p', q', r', h4, h5, h6, h7, h8, h9, h10, h11⟩
  dsimp only at h2 h3 h4
  rcases Nat.lt_or_ge k l.length with hk | hk
  · obtain ⟨x, hx, hd, hm⟩ := get_drop hk
    have hlt : ((k : Int) < (l.length : Int)) = True := eq_true (by omega)
    simp only [hd, cntL, sizL] at h5 h6 h7 h8 h9 h10 h11
    rw [cnt_eq] at h5 h6 h7
    rw [siz_eq] at h8 h9 h10 h11
    have w1 : IntKind.i64.wrap ((k : Int) + 1) = ((k + 1 : Nat) : Int) := by rw [wrap64 (by omega) (by omega)]; omega
    have hne : (m = b) = False := eq_false (by omega)
    have a1 := cntL_bd 3 3 x.l
    have a2 := cntL_bd 4 10 x.l
    have a3 := cntL_bd 2 2 x.l
    have a4 := cntL_bd 3 3 (l.drop (k + 1))
    have a5 := cntL_bd 4 10 (l.drop (k + 1))
    have a6 := cntL_bd 2 2 (l.drop (k + 1))
    have w2 : IntKind.i64.wrap (p' + 1) = p' + 1 := wrap64 (by omega) (by repeat' split at h5; all_goals omega)
    have w3 : IntKind.i64.wrap (q' + 1) = q' + 1 := wrap64 (by omega) (by repeat' split at h6; all_goals omega)
    have w4 : IntKind.i64.wrap (r' + 1) = r' + 1 := wrap64 (by omega) (by repeat' split at h7; all_goals omega)
    have hfr : ∀ id, id < n → id ≠ b → ∀ o : AX.Obj, AX.look id ((m, o) :: g) = AX.look id h := fun id i1 i2 o => by
      simp only [AX.look]; rw [if_neg (by omega)]; exact h3 id i1 i2
    have hbl : ∀ o : AX.Obj, AX.look b ((m, o) :: g) = some (.cells 0 [.int .i64 p', .int .i64 q', .int .i64 r'] false) := fun o => by
      simp only [AX.look]; rw [if_neg (by omega)]; exact h4
    have hpr : ∀ (o o' : AX.Obj) (id : Nat), id < n → id ≠ b → AX.look id ((m, o) :: putAt b o' g) = AX.look id h := fun o o' id i1 i2 => by
      simp only [AX.look]; rw [if_neg (by omega), look_put_ne (Ne.symm i2)]; exact h3 id i1 i2
    have hpb : ∀ (o o' : AX.Obj), AX.look b ((m, o) :: putAt b o' g) = some o' := fun o o' => by
      simp only [AX.look]; rw [if_neg (by omega)]; exact look_put_eq h4
    by_cases h11' : x.kind = 11
    · have hT := eq_true h11'
      have hr := ih (N - 1) (by omega) x.l (by omega) (by omega)
      simp -implicitDefEqProofs only [hlt, hx, w1, hne, h4, hT, go_sem, ↓reduceIte, Nat.reduceEqDiff, Nat.reduceAdd, Nat.reduceMul, Nat.reduceLeDiff, Nat.reduceSub, Nat.reduceLT, Int.reduceAdd, Int.reduceLE, Int.reduceLT, Int.reduceToNat, Int.reduceNeg, Int.reduceNegSucc, Int.reduceEq, Int.reduceNe, Int.reduceGT, Int.reduceGE, Int.reduceSub, Int.reduceMul, Int.reduceBEq, Int.reduceBNe, Nat.reduceBEq, Nat.reduceGT, reduceCtorEq]
      refine callI_st (hr _ _ b p' q' r' (by omega) (hbl _) (by omega) (by omega) (by omega)) ?_
      simp -implicitDefEqProofs only [w1, hne, h4, go_sem, ↓reduceIte, Nat.reduceEqDiff, Nat.reduceAdd, Nat.reduceMul, Nat.reduceLeDiff, Nat.reduceSub, Nat.reduceLT, Int.reduceAdd, Int.reduceLE, Int.reduceLT, Int.reduceToNat, Int.reduceNeg, Int.reduceNegSucc, Int.reduceEq, Int.reduceNe, Int.reduceGT, Int.reduceGE, Int.reduceSub, Int.reduceMul, Int.reduceBEq, Int.reduceBNe, Nat.reduceBEq, Nat.reduceGT, reduceCtorEq]
      refine ⟨k + 1, by omega, rfl, by omega, by omega, fun id i1 i2 => ?_, _, _, _, rfl, ?_, ?_, ?_, by omega, by omega, by omega, by omega⟩
      · repeat rw [if_neg (by omega)]
        exact h3 id i1 i2
      · repeat' split at h5
        all_goals omega
      · repeat' split at h6
        all_goals omega
      · repeat' split at h7
        all_goals omega
    · have hT := eq_false h11'
      simp -implicitDefEqProofs only [hlt, hx, w1, hne, h4, hT, go_sem, ↓reduceIte, Nat.reduceEqDiff, Nat.reduceAdd, Nat.reduceMul, Nat.reduceLeDiff, Nat.reduceSub, Nat.reduceLT, Int.reduceAdd, Int.reduceLE, Int.reduceLT, Int.reduceToNat, Int.reduceNeg, Int.reduceNegSucc, Int.reduceEq, Int.reduceNe, Int.reduceGT, Int.reduceGE, Int.reduceSub, Int.reduceMul, Int.reduceBEq, Int.reduceBNe, Nat.reduceBEq, Nat.reduceGT, reduceCtorEq]
      refine callI_pure (w27 x.kind) ?_
      rw [if_neg h11'] at h5 h6 h7
      have hc : plc x.kind = 0 ∨ plc x.kind = 1 ∨ plc x.kind = 2 ∨ plc x.kind = 3 := by unfold plc; repeat' split
                                                                                        all_goals simp
      rcases hc with hc | hc | hc | hc
      all_goals
        simp -implicitDefEqProofs only [hc, hne, h4, w1, w2, w3, w4, go_sem, ↓reduceIte, Nat.reduceEqDiff, Nat.reduceAdd, Nat.reduceMul, Nat.reduceLeDiff, Nat.reduceSub, Nat.reduceLT, Int.reduceAdd, Int.reduceLE, Int.reduceLT, Int.reduceToNat, Int.reduceNeg, Int.reduceNegSucc, Int.reduceEq, Int.reduceNe, Int.reduceGT, Int.reduceGE, Int.reduceSub, Int.reduceMul, Int.reduceBEq, Int.reduceBNe, Nat.reduceBEq, Nat.reduceGT, reduceCtorEq]
        repeat' (first | (refine andI_intro (by (first | omega | (simp [indepB, indep1, apart1, Nat.testBit_eq_decide_div_mod_eq]; done) | (simp [indepB, indep1, apart1, Nat.testBit_eq_decide_div_mod_eq]; omega) | kernel_rfl)) ?_; simp -implicitDefEqProofs only [hc, hne, h4, w1, w2, w3, w4, go_sem, ↓reduceIte, Nat.reduceEqDiff, Nat.reduceAdd, Nat.reduceMul, Nat.reduceLeDiff, Nat.reduceSub, Nat.reduceLT, Int.reduceAdd, Int.reduceLE, Int.reduceLT, Int.reduceToNat, Int.reduceNeg, Int.reduceNegSucc, Int.reduceEq, Int.reduceNe, Int.reduceGT, Int.reduceGE, Int.reduceSub, Int.reduceMul, Int.reduceBEq, Int.reduceBNe, Nat.reduceBEq, Nat.reduceGT, reduceCtorEq]))
      all_goals unfold plc at hc
      all_goals
        refine ⟨k + 1, by omega, rfl, by omega, by omega, fun id i1 i2 => ?_, _, _, _, rfl, ?_, ?_, ?_, ?_, ?_, ?_, by omega⟩
        all_goals
          first
            | (repeat rw [if_neg (by omega)]
               exact h3 id i1 i2)
            | ((repeat' split at hc) <;> (repeat' split at h5) <;> (repeat' split at h6) <;> (repeat' split at h7) <;> omega)
  · have hlt : ((k : Int) < (l.length : Int)) = False := eq_false (by omega)
    rw [drop_all hk] at h5 h6 h7
    simp only [cntL, Int.add_zero] at h5 h6 h7
    subst h5; subst h6; subst h7
    simp -implicitDefEqProofs only [hlt, go_sem, ↓reduceIte, Nat.reduceEqDiff, Nat.reduceAdd, Nat.reduceMul, Nat.reduceLeDiff, Nat.reduceSub, Nat.reduceLT, Int.reduceAdd, Int.reduceLE, Int.reduceLT, Int.reduceToNat, Int.reduceNeg, Int.reduceNegSucc, Int.reduceEq, Int.reduceNe, Int.reduceGT, Int.reduceGE, Int.reduceSub, Int.reduceMul, Int.reduceBEq, Int.reduceBNe, Nat.reduceBEq, Nat.reduceGT, reduceCtorEq]
    intro id o hid0 ho
    by_cases hid : id = b
    · subst hid
      rw [if_pos rfl, hl] at ho
      exact ⟨by rw [h4, ← ho]; rfl, .inr (by simp at ho; subst ho; simp [ClO, Cls, Cl])⟩
    · rw [if_neg (Ne.symm hid)] at ho
      exact ⟨by rw [h3 id hid0 hid]; exact ho, .inl ho⟩
end W06
/- What a selector weighs, by the program: the whole. -/
set_option linter.unusedSimpArgs false
set_option linter.unusedVariables false
namespace W06
open Go Go.AX Go.AX.Ty Go.Proofs

theorem w11 (x : Complex) (hx : sizP x.parts ≤ 100000) : PureF Try.prog 11 [Enc.av x] (Enc.av (ofC x)) := by
  refine pureF_W mix c11 (by kernel_rfl) (by kernel_rfl) (by simp [flats, flat_av]) (flat_av _) ?_
  have hlen := len_sizP x.parts
  have b1 := cntP_bd 3 3 x.parts
  have b2 := cntP_bd 4 10 x.parts
  have b3 := cntP_bd 2 2 x.parts
  simp -implicitDefEqProofs only [F11, go_sem, ↓reduceIte, Nat.reduceEqDiff, Nat.reduceAdd, Nat.reduceMul, Nat.reduceLeDiff, Nat.reduceSub, Nat.reduceLT, Int.reduceAdd, Int.reduceLE, Int.reduceLT, Int.reduceToNat, Int.reduceNeg, Int.reduceNegSucc, Int.reduceEq, Int.reduceNe, Int.reduceGT, Int.reduceGE, Int.reduceSub, Int.reduceMul, Int.reduceBEq, Int.reduceBNe, Nat.reduceBEq, Nat.reduceGT, reduceCtorEq]
  refine LoopI_sl (fun k : Nat => x.parts.length - k) (fun k => [(1, .ptr 0 0 0), (2, .ptr 1 0 0), (3, .ptr 2 0 0), (7, Enc.av x.parts), (8, .int .i64 x.parts.length), (9, .int .i64 k)])
    (fun k s => k ≤ x.parts.length ∧ 3 ≤ s.next ∧ AX.look 0 s.heap = some (.cells 0 (Enc.cells x) false) ∧ AX.look 1 s.heap = some (.cells 0 [.int .i64 0, .int .i64 0, .int .i64 0] false) ∧
      ∃ p q r, AX.look 2 s.heap = some (.cells 0 [.int .i64 p, .int .i64 q, .int .i64 r] false) ∧ p + cntP 3 3 (x.parts.drop k) = cntP 3 3 x.parts ∧ q + cntP 4 10 (x.parts.drop k) = cntP 4 10 x.parts ∧ r + cntP 2 2 (x.parts.drop k) = cntP 2 2 x.parts ∧
        0 ≤ p ∧ 0 ≤ q ∧ 0 ≤ r ∧ sizP (x.parts.drop k) ≤ 100000) 0 ?_ ?_
  · simp -implicitDefEqProofs only [go_sem, ↓reduceIte, Nat.reduceEqDiff, Nat.reduceAdd, Nat.reduceMul, Nat.reduceLeDiff, Nat.reduceSub, Nat.reduceLT, Int.reduceAdd, Int.reduceLE, Int.reduceLT, Int.reduceToNat, Int.reduceNeg, Int.reduceNegSucc, Int.reduceEq, Int.reduceNe, Int.reduceGT, Int.reduceGE, Int.reduceSub, Int.reduceMul, Int.reduceBEq, Int.reduceBNe, Nat.reduceBEq, Nat.reduceGT, reduceCtorEq]
    exact ⟨0, 0, 0, rfl, by simp, by simp, by simp, by simp, by simp, by simp, hx⟩
  rintro k ρ ⟨h, m⟩ ⟨h1, h2, h3, h4, p, q, r, h5, h6, h7, h8, h9, h10, h11, h12⟩
  dsimp only at h2 h3 h4 h5
  have n0 : (m = 0) = False := eq_false (by omega)
  have n1 : (m = 1) = False := eq_false (by omega)
  have n2 : (m = 2) = False := eq_false (by omega)
  simp only [Complex.ecells] at h3
  rcases Nat.lt_or_ge k x.parts.length with hk | hk
  · obtain ⟨y, hy, hd, hm⟩ := get_drop hk
    have hlt : ((k : Int) < (x.parts.length : Int)) = True := eq_true (by omega)
    simp only [hd, cntP, sizP] at h6 h7 h8 h12
    have w1 : IntKind.i64.wrap ((k : Int) + 1) = ((k + 1 : Nat) : Int) := by rw [wrap64 (by omega) (by omega)]; omega
    have d1 := cntL_bd 3 3 y.l
    have d2 := cntL_bd 4 10 y.l
    have d3 := cntL_bd 2 2 y.l
    have e1 := cntP_bd 3 3 (x.parts.drop (k + 1))
    have e2 := cntP_bd 4 10 (x.parts.drop (k + 1))
    have e3 := cntP_bd 2 2 (x.parts.drop (k + 1))
    simp -implicitDefEqProofs only [hlt, hy, w1, n0, n1, n2, h3, h4, h5, go_sem, ↓reduceIte, Nat.reduceEqDiff, Nat.reduceAdd, Nat.reduceMul, Nat.reduceLeDiff, Nat.reduceSub, Nat.reduceLT, Int.reduceAdd, Int.reduceLE, Int.reduceLT, Int.reduceToNat, Int.reduceNeg, Int.reduceNegSucc, Int.reduceEq, Int.reduceNe, Int.reduceGT, Int.reduceGE, Int.reduceSub, Int.reduceMul, Int.reduceBEq, Int.reduceBNe, Nat.reduceBEq, Nat.reduceGT, reduceCtorEq]
    refine callI_st (w21 100000 y.l (by omega) (by omega) _ _ 2 p q r (by omega) (by simp only [AX.look]; rw [if_neg (by omega)]; exact h5) (by omega) (by omega) (by omega)) ?_
    simp -implicitDefEqProofs only [w1, n0, n1, n2, h3, h4, h5, go_sem, ↓reduceIte, Nat.reduceEqDiff, Nat.reduceAdd, Nat.reduceMul, Nat.reduceLeDiff, Nat.reduceSub, Nat.reduceLT, Int.reduceAdd, Int.reduceLE, Int.reduceLT, Int.reduceToNat, Int.reduceNeg, Int.reduceNegSucc, Int.reduceEq, Int.reduceNe, Int.reduceGT, Int.reduceGE, Int.reduceSub, Int.reduceMul, Int.reduceBEq, Int.reduceBNe, Nat.reduceBEq, Nat.reduceGT, reduceCtorEq]
    refine ⟨k + 1, by omega, rfl, by omega, by omega, _, _, _, rfl, ?_⟩
    omega
  · have hlt : ((k : Int) < (x.parts.length : Int)) = False := eq_false (by omega)
    rw [drop_all hk] at h6 h7 h8
    simp only [cntP, Int.add_zero] at h6 h7 h8
    have w1 : IntKind.i64.wrap (r + 1) = r + 1 := wrap64 (by omega) (by omega)
    simp -implicitDefEqProofs only [hlt, w1, n0, n1, n2, h3, h4, h5, go_sem, ↓reduceIte, Nat.reduceEqDiff, Nat.reduceAdd, Nat.reduceMul, Nat.reduceLeDiff, Nat.reduceSub, Nat.reduceLT, Int.reduceAdd, Int.reduceLE, Int.reduceLT, Int.reduceToNat, Int.reduceNeg, Int.reduceNegSucc, Int.reduceEq, Int.reduceNe, Int.reduceGT, Int.reduceGE, Int.reduceSub, Int.reduceMul, Int.reduceBEq, Int.reduceBNe, Nat.reduceBEq, Nat.reduceGT, reduceCtorEq]
    repeat' (refine brI_both (fun h hT => ?_) (fun h hT => ?_) <;> simp -implicitDefEqProofs only [hT, w1, h3, h4, h5, go_sem, ↓reduceIte, Nat.reduceEqDiff, Nat.reduceAdd, Nat.reduceMul, Nat.reduceLeDiff, Nat.reduceSub, Nat.reduceLT, Int.reduceAdd, Int.reduceLE, Int.reduceLT, Int.reduceToNat, Int.reduceNeg, Int.reduceNegSucc, Int.reduceEq, Int.reduceNe, Int.reduceGT, Int.reduceGE, Int.reduceSub, Int.reduceMul, Int.reduceBEq, Int.reduceBNe, Nat.reduceBEq, Nat.reduceGT, reduceCtorEq] <;> try clear hT)
    all_goals
      simp only [ofC, h6, h7, h8, AV.agg.injEq, List.cons.injEq, AV.int.injEq, true_and, and_true]
      simp_all
end W06
/- Less, Max, Nth, Small. -/
set_option linter.unusedSimpArgs false
set_option linter.unusedVariables false
namespace W06
open Go Go.AX Go.AX.Ty Go.Proofs

/-- less, plainly -/
def ltW (w v : W3) : Bool := decide (w.a < v.a ∨ (w.a = v.a ∧ (w.b < v.b ∨ (w.b = v.b ∧ w.c < v.c))))
theorem ltW_iff (w v : W3) : ltW w v = true ↔ w.a < v.a ∨ (w.a = v.a ∧ (w.b < v.b ∨ (w.b = v.b ∧ w.c < v.c))) := by simp [ltW]
theorem v13 (w v : W3) : PureF Try.prog 13 [Enc.av w, Enc.av v] (Enc.av (ltW w v)) := by
  have h := w13 ⟨w.a, w.b, w.c⟩ ⟨v.a, v.b, v.c⟩
  refine ⟨?_, rfl, rfl⟩
  have e : Wt.less ⟨w.a, w.b, w.c⟩ ⟨v.a, v.b, v.c⟩ = ltW w v := by rw [Bool.eq_iff_iff, less_iff, ltW_iff]
  rw [e] at h
  exact h
theorem w14 (w v : W3) : PureF Try.prog 14 [Enc.av w, Enc.av v] (Enc.av (ltW w v)) := by
  refine pureF_W mix c14 (by kernel_rfl) (by kernel_rfl) rfl rfl ?_
  simp -implicitDefEqProofs only [F14, go_sem, ↓reduceIte, Nat.reduceEqDiff, Nat.reduceAdd, Nat.reduceMul, Nat.reduceLeDiff, Nat.reduceSub, Nat.reduceLT, Int.reduceAdd, Int.reduceLE, Int.reduceLT, Int.reduceToNat, Int.reduceNeg, Int.reduceNegSucc, Int.reduceEq, Int.reduceNe, Int.reduceGT, Int.reduceGE, Int.reduceSub, Int.reduceMul, Int.reduceBEq, Int.reduceBNe, Nat.reduceBEq, Nat.reduceGT, reduceCtorEq]
  repeat' (refine brI_both (fun h hT => ?_) (fun h hT => ?_) <;> try simp -implicitDefEqProofs only [hT, go_sem, ↓reduceIte, Nat.reduceEqDiff, Nat.reduceAdd, Nat.reduceMul, Nat.reduceLeDiff, Nat.reduceSub, Nat.reduceLT, Int.reduceAdd, Int.reduceLE, Int.reduceLT, Int.reduceToNat, Int.reduceNeg, Int.reduceNegSucc, Int.reduceEq, Int.reduceNe, Int.reduceGT, Int.reduceGE, Int.reduceSub, Int.reduceMul, Int.reduceBEq, Int.reduceBNe, Nat.reduceBEq, Nat.reduceGT, reduceCtorEq] <;> try clear hT)
  all_goals
    simp only [AV.bool.injEq, ltW]
    first | (rw [decide_eq_decide]; omega) | (simp_all; try omega)

def maxFrom (t : W3) : List W3 → W3
  | [] => t
  | x :: r => maxFrom (if ltW t x then x else t) r
def maxW : List W3 → W3
  | [] => ⟨0, 0, 0⟩
  | x :: r => maxFrom x r

theorem nthB_in9 {a b i : Int} (ha : -1000000000 ≤ a ∧ a ≤ 1000000000) (hb : -1000000000 ≤ b ∧ b ≤ 1000000000) (hi : -1000000000 ≤ i ∧ i ≤ 1000000000) :
    nthB a b i = if a = 0 then decide (i = b) else decide ((i - b).tmod a = 0) && decide ((i - b).tdiv a ≥ 0) := by
  have hd : ((i - b).tdiv a).natAbs ≤ (i - b).natAbs := by rw [Int.natAbs_tdiv]; exact Nat.div_le_self _ _
  simp only [nthB]
  rw [if_neg (by omega), if_neg (by omega), if_neg (by omega), wrap64 (n := i - b) (by omega) (by omega), wrap64 (n := (i - b).tdiv a) (by omega) (by omega)]
theorem nth_iff9 {a b i : Int} (ha : -1000000000 ≤ a ∧ a ≤ 1000000000) (hb : -1000000000 ≤ b ∧ b ≤ 1000000000) (hi : -1000000000 ≤ i ∧ i ≤ 1000000000) : nthB a b i = true ↔ ∃ q : Int, 0 ≤ q ∧ i = b + q * a := by
  rw [nthB_in9 ha hb hi]
  by_cases h0 : a = 0
  · rw [if_pos h0, decide_eq_true_eq]
    subst h0
    constructor
    · intro h; exact ⟨0, by omega, by omega⟩
    · rintro ⟨q, _, h⟩; omega
  · rw [if_neg h0, Bool.and_eq_true, decide_eq_true_eq, decide_eq_true_eq]
    constructor
    · rintro ⟨h1, h2⟩
      have := Int.tmod_add_mul_tdiv (i - b) a
      rw [h1] at this
      exact ⟨(i - b).tdiv a, h2, by rw [Int.mul_comm]; omega⟩
    · rintro ⟨q, hq, h⟩
      have : i - b = q * a := by omega
      rw [this]
      exact ⟨Int.mul_tmod_left q a, by rw [Int.mul_tdiv_cancel _ h0]; exact hq⟩
theorem pos_of_mul {d a : Int} (ha : 0 < a) (hd : 0 < d) (h : d.tmod a = 0) : ∃ q : Int, 0 ≤ q ∧ d = q * a := by
  have := Int.tmod_add_mul_tdiv d a
  rw [h] at this
  refine ⟨d.tdiv a, Int.tdiv_nonneg (by omega) (by omega), by rw [Int.mul_comm]; omega⟩

theorem w18 (a b i : Int) (ha : -9223372036854775808 ≤ a ∧ a ≤ 9223372036854775807) (hb : -9223372036854775808 ≤ b ∧ b ≤ 9223372036854775807) (hi : -9223372036854775808 ≤ i ∧ i ≤ 9223372036854775807) :
    PureF Try.prog 18 [Enc.av a, Enc.av b, Enc.av i] (Enc.av (nthB a b i)) := by
  refine pureF_W mix c18 (by kernel_rfl) (by kernel_rfl) rfl rfl ?_
  by_cases hbd : (-1000000000 ≤ a ∧ a ≤ 1000000000) ∧ (-1000000000 ≤ b ∧ b ≤ 1000000000) ∧ (-1000000000 ≤ i ∧ i ≤ 1000000000)
  · have w1 : IntKind.i64.wrap (b - i) = b - i := wrap64 (by omega) (by omega)
    have w2 : IntKind.i64.wrap (i - b) = i - b := wrap64 (by omega) (by omega)
    have w3 : IntKind.i64.wrap (0 - a) = - a := by rw [wrap64 (by omega) (by omega)]; omega
    simp -implicitDefEqProofs only [F18, w1, w2, w3, go_sem, ↓reduceIte, Nat.reduceEqDiff, Nat.reduceAdd, Nat.reduceMul, Nat.reduceLeDiff, Nat.reduceSub, Nat.reduceLT, Int.reduceAdd, Int.reduceLE, Int.reduceLT, Int.reduceToNat, Int.reduceNeg, Int.reduceNegSucc, Int.reduceEq, Int.reduceNe, Int.reduceGT, Int.reduceGE, Int.reduceSub, Int.reduceMul, Int.reduceBEq, Int.reduceBNe, Nat.reduceBEq, Nat.reduceGT, reduceCtorEq]
    repeat' (refine brI_both (fun h hT => ?_) (fun h hT => ?_) <;> try simp -implicitDefEqProofs only [hT, w1, w2, w3, go_sem, ↓reduceIte, Nat.reduceEqDiff, Nat.reduceAdd, Nat.reduceMul, Nat.reduceLeDiff, Nat.reduceSub, Nat.reduceLT, Int.reduceAdd, Int.reduceLE, Int.reduceLT, Int.reduceToNat, Int.reduceNeg, Int.reduceNegSucc, Int.reduceEq, Int.reduceNe, Int.reduceGT, Int.reduceGE, Int.reduceSub, Int.reduceMul, Int.reduceBEq, Int.reduceBNe, Nat.reduceBEq, Nat.reduceGT, reduceCtorEq] <;> try clear hT)
    all_goals first
      | (exfalso; omega)
      | (rw [AV.bool.injEq, Bool.eq_iff_iff, nth_iff9 hbd.1 hbd.2.1 hbd.2.2, beq_iff_eq]
         rename_i h0
         exact ⟨fun e => ⟨0, by omega, by omega⟩, fun ⟨q, hq, e⟩ => by first | omega | (rw [h] at e; omega)⟩)
      | (rw [AV.bool.injEq, Bool.eq_iff_iff, nth_iff9 hbd.1 hbd.2.1 hbd.2.2, beq_iff_eq]
         first
           | exact ⟨fun e => by
               obtain ⟨q, hq, hh⟩ := pos_of_mul (by omega) (by omega) e
               exact ⟨q, hq, by rw [Int.mul_neg] at hh; omega⟩, fun ⟨q, hq, e⟩ => by
               rw [show b - i = q * (-a) by rw [Int.mul_neg]; omega]; exact Int.mul_tmod_left _ _⟩
           | exact ⟨fun e => by
               obtain ⟨q, hq, hh⟩ := pos_of_mul (by omega) (by omega) e
               exact ⟨q, hq, by omega⟩, fun ⟨q, hq, e⟩ => by
               rw [show i - b = q * a by omega]; exact Int.mul_tmod_left _ _⟩)
      | (rw [AV.bool.injEq]; symm; rw [Bool.eq_false_iff]; intro hn
         obtain ⟨q, hq, e⟩ := (nth_iff9 hbd.1 hbd.2.1 hbd.2.2).1 hn
         first
           | (have := Int.mul_nonneg hq (show 0 ≤ -a by omega); rw [Int.mul_neg] at this; omega)
           | (have := Int.mul_nonneg hq (show 0 ≤ a by omega); omega))
      | skip
  · have hn : nthB a b i = false := by
      unfold nthB
      repeat' split
      all_goals first | rfl | omega
    rw [hn]
    simp -implicitDefEqProofs only [F18, go_sem, ↓reduceIte, Nat.reduceEqDiff, Nat.reduceAdd, Nat.reduceMul, Nat.reduceLeDiff, Nat.reduceSub, Nat.reduceLT, Int.reduceAdd, Int.reduceLE, Int.reduceLT, Int.reduceToNat, Int.reduceNeg, Int.reduceNegSucc, Int.reduceEq, Int.reduceNe, Int.reduceGT, Int.reduceGE, Int.reduceSub, Int.reduceMul, Int.reduceBEq, Int.reduceBNe, Nat.reduceBEq, Nat.reduceGT, reduceCtorEq]
    repeat' (refine brI_both (fun h hT => ?_) (fun h hT => ?_) <;> try simp -implicitDefEqProofs only [hT, go_sem, ↓reduceIte, Nat.reduceEqDiff, Nat.reduceAdd, Nat.reduceMul, Nat.reduceLeDiff, Nat.reduceSub, Nat.reduceLT, Int.reduceAdd, Int.reduceLE, Int.reduceLT, Int.reduceToNat, Int.reduceNeg, Int.reduceNegSucc, Int.reduceEq, Int.reduceNe, Int.reduceGT, Int.reduceGE, Int.reduceSub, Int.reduceMul, Int.reduceBEq, Int.reduceBNe, Nat.reduceBEq, Nat.reduceGT, reduceCtorEq] <;> try clear hT)
    all_goals omega
end W06
/- The greatest. -/
set_option linter.unusedSimpArgs false
set_option linter.unusedVariables false
namespace W06
open Go Go.AX Go.AX.Ty Go.Proofs

theorem w15 (l : List W3) (hl : l.length ≤ 1000000) : PureF Try.prog 15 [Enc.av l] (Enc.av (maxW l)) := by
  refine pureF_W mix c15 (by kernel_rfl) (by kernel_rfl) (by simp [flats, flat_av]) (flat_av _) ?_
  simp -implicitDefEqProofs only [F15, go_sem, ↓reduceIte, Nat.reduceEqDiff, Nat.reduceAdd, Nat.reduceMul, Nat.reduceLeDiff, Nat.reduceSub, Nat.reduceLT, Int.reduceAdd, Int.reduceLE, Int.reduceLT, Int.reduceToNat, Int.reduceNeg, Int.reduceNegSucc, Int.reduceEq, Int.reduceNe, Int.reduceGT, Int.reduceGE, Int.reduceSub, Int.reduceMul, Int.reduceBEq, Int.reduceBNe, Nat.reduceBEq, Nat.reduceGT, reduceCtorEq]
  refine LoopI_sl (fun k : Nat => l.length - k) (fun k => [(2, .ptr 0 0 0), (3, .ptr 1 0 0), (6, Enc.av l), (7, .int .i64 l.length), (8, .int .i64 k)])
    (fun k s => k ≤ l.length ∧ 2 ≤ s.next ∧ AX.look 0 s.heap = some (.cells 0 [.int .i64 0, .int .i64 0, .int .i64 0] false) ∧
      ∃ t : W3, AX.look 1 s.heap = some (.cells 0 (Enc.cells t) false) ∧ (0 < k → maxFrom t (l.drop k) = maxW l) ∧ (k = 0 → t = ⟨0, 0, 0⟩)) 0 ?_ ?_
  · simp -implicitDefEqProofs only [go_sem, ↓reduceIte, Nat.reduceEqDiff, Nat.reduceAdd, Nat.reduceMul, Nat.reduceLeDiff, Nat.reduceSub, Nat.reduceLT, Int.reduceAdd, Int.reduceLE, Int.reduceLT, Int.reduceToNat, Int.reduceNeg, Int.reduceNegSucc, Int.reduceEq, Int.reduceNe, Int.reduceGT, Int.reduceGE, Int.reduceSub, Int.reduceMul, Int.reduceBEq, Int.reduceBNe, Nat.reduceBEq, Nat.reduceGT, reduceCtorEq]
    exact ⟨⟨0, 0, 0⟩, rfl, by simp, by simp⟩
  rintro k ρ ⟨h, m⟩ ⟨h1, h2, h3, t, h4, h5, h6⟩
  dsimp only at h2 h3 h4
  have n0 : (m = 0) = False := eq_false (by omega)
  have n1 : (m = 1) = False := eq_false (by omega)
  simp only [W3.ecells] at h4
  rcases Nat.lt_or_ge k l.length with hk | hk
  · obtain ⟨y, hy, hd, hm⟩ := get_drop hk
    have hlt : ((k : Int) < (l.length : Int)) = True := eq_true (by omega)
    have w1 : IntKind.i64.wrap ((k : Int) + 1) = ((k + 1 : Nat) : Int) := by rw [wrap64 (by omega) (by omega)]; omega
    simp -implicitDefEqProofs only [hlt, hy, w1, n0, n1, h3, h4, go_sem, ↓reduceIte, Nat.reduceEqDiff, Nat.reduceAdd, Nat.reduceMul, Nat.reduceLeDiff, Nat.reduceSub, Nat.reduceLT, Int.reduceAdd, Int.reduceLE, Int.reduceLT, Int.reduceToNat, Int.reduceNeg, Int.reduceNegSucc, Int.reduceEq, Int.reduceNe, Int.reduceGT, Int.reduceGE, Int.reduceSub, Int.reduceMul, Int.reduceBEq, Int.reduceBNe, Nat.reduceBEq, Nat.reduceGT, reduceCtorEq]
    repeat' (first
      | contradiction
      | (refine brI_both (fun h hT => ?_) (fun h hT => ?_) <;> try simp -implicitDefEqProofs only [hT, w1, n0, n1, h3, h4, go_sem, ↓reduceIte, Nat.reduceEqDiff, Nat.reduceAdd, Nat.reduceMul, Nat.reduceLeDiff, Nat.reduceSub, Nat.reduceLT, Int.reduceAdd, Int.reduceLE, Int.reduceLT, Int.reduceToNat, Int.reduceNeg, Int.reduceNegSucc, Int.reduceEq, Int.reduceNe, Int.reduceGT, Int.reduceGE, Int.reduceSub, Int.reduceMul, Int.reduceBEq, Int.reduceBNe, Nat.reduceBEq, Nat.reduceGT, reduceCtorEq] <;> try clear hT)
      | (refine callI_pure (v13 t y) ?_; simp -implicitDefEqProofs only [w1, n0, n1, h3, h4, go_sem, ↓reduceIte, Nat.reduceEqDiff, Nat.reduceAdd, Nat.reduceMul, Nat.reduceLeDiff, Nat.reduceSub, Nat.reduceLT, Int.reduceAdd, Int.reduceLE, Int.reduceLT, Int.reduceToNat, Int.reduceNeg, Int.reduceNegSucc, Int.reduceEq, Int.reduceNe, Int.reduceGT, Int.reduceGE, Int.reduceSub, Int.reduceMul, Int.reduceBEq, Int.reduceBNe, Nat.reduceBEq, Nat.reduceGT, reduceCtorEq])
      | (refine andI_intro (by (first | omega | (simp [indepB, indep1, apart1, Nat.testBit_eq_decide_div_mod_eq]; done) | (simp [indepB, indep1, apart1, Nat.testBit_eq_decide_div_mod_eq]; omega) | kernel_rfl)) ?_; simp -implicitDefEqProofs only [w1, n0, n1, h3, h4, go_sem, ↓reduceIte, Nat.reduceEqDiff, Nat.reduceAdd, Nat.reduceMul, Nat.reduceLeDiff, Nat.reduceSub, Nat.reduceLT, Int.reduceAdd, Int.reduceLE, Int.reduceLT, Int.reduceToNat, Int.reduceNeg, Int.reduceNegSucc, Int.reduceEq, Int.reduceNe, Int.reduceGT, Int.reduceGE, Int.reduceSub, Int.reduceMul, Int.reduceBEq, Int.reduceBNe, Nat.reduceBEq, Nat.reduceGT, reduceCtorEq]))
    · refine ⟨k + 1, by omega, rfl, by omega, by omega, y, rfl, fun _ => ?_, by omega⟩
      have : k = 0 := by omega
      subst this
      cases l with
      | nil => simp at hk
      | cons a r => simp at hy; subst hy; rfl
    · refine ⟨k + 1, by omega, rfl, by omega, by omega, y, rfl, fun _ => ?_, by omega⟩
      have h7 := h5 (by omega)
      rw [hd] at h7
      simp only [maxFrom] at h7
      rw [if_pos (by assumption)] at h7
      exact h7
    · refine ⟨k + 1, by omega, rfl, by omega, by omega, t, rfl, fun _ => ?_, by omega⟩
      have h7 := h5 (by omega)
      rw [hd] at h7
      simp only [maxFrom] at h7
      rw [if_neg (by assumption)] at h7
      exact h7
  · have hlt : ((k : Int) < (l.length : Int)) = False := eq_false (by omega)
    have ht : t = maxW l := by
      by_cases hz : k = 0
      · rw [h6 hz]
        cases l with
        | nil => rfl
        | cons a r => simp at hk; omega
      · have h7 := h5 (by omega)
        rw [drop_all hk] at h7
        exact h7
    subst ht
    simp -implicitDefEqProofs only [hlt, n0, n1, h3, h4, go_sem, ↓reduceIte, Nat.reduceEqDiff, Nat.reduceAdd, Nat.reduceMul, Nat.reduceLeDiff, Nat.reduceSub, Nat.reduceLT, Int.reduceAdd, Int.reduceLE, Int.reduceLT, Int.reduceToNat, Int.reduceNeg, Int.reduceNegSucc, Int.reduceEq, Int.reduceNe, Int.reduceGT, Int.reduceGE, Int.reduceSub, Int.reduceMul, Int.reduceBEq, Int.reduceBNe, Nat.reduceBEq, Nat.reduceGT, reduceCtorEq]

theorem w16 (l : List W3) (hl : l.length ≤ 1000000) : PureF Try.prog 16 [Enc.av l] (Enc.av (maxW l)) := by
  refine pureF_W mix c16 (by kernel_rfl) (by kernel_rfl) (by simp [flats, flat_av]) (flat_av _) ?_
  simp -implicitDefEqProofs only [F16, go_sem, ↓reduceIte, Nat.reduceEqDiff, Nat.reduceAdd, Nat.reduceMul, Nat.reduceLeDiff, Nat.reduceSub, Nat.reduceLT, Int.reduceAdd, Int.reduceLE, Int.reduceLT, Int.reduceToNat, Int.reduceNeg, Int.reduceNegSucc, Int.reduceEq, Int.reduceNe, Int.reduceGT, Int.reduceGE, Int.reduceSub, Int.reduceMul, Int.reduceBEq, Int.reduceBNe, Nat.reduceBEq, Nat.reduceGT, reduceCtorEq]
  refine LoopI_sl (fun p : Nat × W3 => l.length - p.1) (fun p => [(0, Enc.av l), (2, .ptr 0 0 0), (3, .ptr 1 0 0), (4, .int .i64 p.1)])
    (fun p s => p.1 ≤ l.length ∧ s = ⟨[(1, .cells 0 [.int .i64 p.2.a, .int .i64 p.2.b, .int .i64 p.2.c] false), (0, .cells 0 [.int .i64 0, .int .i64 0, .int .i64 0] false)], 2⟩ ∧
      (0 < p.1 → maxFrom p.2 (l.drop p.1) = maxW l) ∧ (p.1 = 0 → p.2 = ⟨0, 0, 0⟩)) (0, ⟨0, 0, 0⟩) ?_ ?_
  · simp -implicitDefEqProofs only [go_sem, ↓reduceIte, Nat.reduceEqDiff, Nat.reduceAdd, Nat.reduceMul, Nat.reduceLeDiff, Nat.reduceSub, Nat.reduceLT, Int.reduceAdd, Int.reduceLE, Int.reduceLT, Int.reduceToNat, Int.reduceNeg, Int.reduceNegSucc, Int.reduceEq, Int.reduceNe, Int.reduceGT, Int.reduceGE, Int.reduceSub, Int.reduceMul, Int.reduceBEq, Int.reduceBNe, Nat.reduceBEq, Nat.reduceGT, reduceCtorEq]
    simp
  rintro ⟨k, t⟩ ρ s ⟨h1, rfl, h5, h6⟩
  dsimp only at h1 h5 h6
  rcases Nat.lt_or_ge k l.length with hk | hk
  · obtain ⟨y, hy, hd, hm⟩ := get_drop hk
    have hlt : ((k : Int) < (l.length : Int)) = True := eq_true (by omega)
    have w1 : IntKind.i64.wrap ((k : Int) + 1) = ((k + 1 : Nat) : Int) := by rw [wrap64 (by omega) (by omega)]; omega
    simp -implicitDefEqProofs only [hlt, hy, w1, go_sem, ↓reduceIte, Nat.reduceEqDiff, Nat.reduceAdd, Nat.reduceMul, Nat.reduceLeDiff, Nat.reduceSub, Nat.reduceLT, Int.reduceAdd, Int.reduceLE, Int.reduceLT, Int.reduceToNat, Int.reduceNeg, Int.reduceNegSucc, Int.reduceEq, Int.reduceNe, Int.reduceGT, Int.reduceGE, Int.reduceSub, Int.reduceMul, Int.reduceBEq, Int.reduceBNe, Nat.reduceBEq, Nat.reduceGT, reduceCtorEq]
    repeat' (first
      | contradiction
      | (refine brI_both (fun h hT => ?_) (fun h hT => ?_) <;> try simp -implicitDefEqProofs only [hT, w1, hy, go_sem, ↓reduceIte, Nat.reduceEqDiff, Nat.reduceAdd, Nat.reduceMul, Nat.reduceLeDiff, Nat.reduceSub, Nat.reduceLT, Int.reduceAdd, Int.reduceLE, Int.reduceLT, Int.reduceToNat, Int.reduceNeg, Int.reduceNegSucc, Int.reduceEq, Int.reduceNe, Int.reduceGT, Int.reduceGE, Int.reduceSub, Int.reduceMul, Int.reduceBEq, Int.reduceBNe, Nat.reduceBEq, Nat.reduceGT, reduceCtorEq] <;> try clear hT)
      | (refine dcallI_pure (w14 t y) ?_; simp -implicitDefEqProofs only [w1, hy, go_sem, ↓reduceIte, Nat.reduceEqDiff, Nat.reduceAdd, Nat.reduceMul, Nat.reduceLeDiff, Nat.reduceSub, Nat.reduceLT, Int.reduceAdd, Int.reduceLE, Int.reduceLT, Int.reduceToNat, Int.reduceNeg, Int.reduceNegSucc, Int.reduceEq, Int.reduceNe, Int.reduceGT, Int.reduceGE, Int.reduceSub, Int.reduceMul, Int.reduceBEq, Int.reduceBNe, Nat.reduceBEq, Nat.reduceGT, reduceCtorEq])
      | (refine andI_intro (by (first | omega | (simp [indepB, indep1, apart1, Nat.testBit_eq_decide_div_mod_eq]; done) | (simp [indepB, indep1, apart1, Nat.testBit_eq_decide_div_mod_eq]; omega) | kernel_rfl)) ?_; simp -implicitDefEqProofs only [w1, hy, go_sem, ↓reduceIte, Nat.reduceEqDiff, Nat.reduceAdd, Nat.reduceMul, Nat.reduceLeDiff, Nat.reduceSub, Nat.reduceLT, Int.reduceAdd, Int.reduceLE, Int.reduceLT, Int.reduceToNat, Int.reduceNeg, Int.reduceNegSucc, Int.reduceEq, Int.reduceNe, Int.reduceGT, Int.reduceGE, Int.reduceSub, Int.reduceMul, Int.reduceBEq, Int.reduceBNe, Nat.reduceBEq, Nat.reduceGT, reduceCtorEq]))
    · refine ⟨(k + 1, y), by simp only; omega, rfl, by simp only; omega, rfl, fun _ => ?_, by simp only; omega⟩
      have : k = 0 := by omega
      subst this
      cases l with
      | nil => simp at hk
      | cons a r => simp at hy; subst hy; rfl
    · refine ⟨(k + 1, y), by simp only; omega, rfl, by simp only; omega, rfl, fun _ => ?_, by simp only; omega⟩
      have h7 := h5 (by omega)
      rw [hd] at h7
      simp only [maxFrom] at h7
      rw [if_pos (by assumption)] at h7
      exact h7
    · refine ⟨(k + 1, t), by simp only; omega, rfl, by simp only; omega, rfl, fun _ => ?_, by simp only; omega⟩
      have h7 := h5 (by omega)
      rw [hd] at h7
      simp only [maxFrom] at h7
      rw [if_neg (by assumption)] at h7
      exact h7
  · have hlt : ((k : Int) < (l.length : Int)) = False := eq_false (by omega)
    have ht : t = maxW l := by
      by_cases hz : k = 0
      · rw [h6 hz]
        cases l with
        | nil => rfl
        | cons a r => simp at hk; omega
      · have h7 := h5 (by omega)
        rw [drop_all hk] at h7
        exact h7
    subst ht
    simp -implicitDefEqProofs only [hlt, go_sem, ↓reduceIte, Nat.reduceEqDiff, Nat.reduceAdd, Nat.reduceMul, Nat.reduceLeDiff, Nat.reduceSub, Nat.reduceLT, Int.reduceAdd, Int.reduceLE, Int.reduceLT, Int.reduceToNat, Int.reduceNeg, Int.reduceNegSucc, Int.reduceEq, Int.reduceNe, Int.reduceGT, Int.reduceGE, Int.reduceSub, Int.reduceMul, Int.reduceBEq, Int.reduceBNe, Nat.reduceBEq, Nat.reduceGT, reduceCtorEq]
end W06
/- WeightNth: the walk. -/
set_option linter.unusedSimpArgs false
set_option linter.unusedVariables false
namespace W06
open Go Go.AX Go.Proofs

def K6 : Known
  | 10, [] => some (.bool true)
  | 17, [.int .i64 a, .int .i64 b, .int .i64 i] => some (.bool (nthB a b i))
  | _, _ => none
theorem K6_10 : K6 10 [] = some (.bool true) := rfl
theorem K6_17 (a b i : Int) : K6 17 [.int .i64 a, .int .i64 b, .int .i64 i] = some (.bool (nthB a b i)) := rfl
theorem K6_ok : KnownOk Try.prog K6 := fun f xs v h => by
  unfold K6 at h
  split at h
  · simp only [Option.some.injEq] at h; subst h; exact ⟨w10, rfl, rfl⟩
  · simp only [Option.some.injEq] at h; subst h; exact ⟨w17 _ _ _, rfl, rfl⟩
  · simp at h

theorem nth_iff {a b i : Int} (ha : -20000 ≤ a ∧ a ≤ 20000) (hb : -20000 ≤ b ∧ b ≤ 20000) (hi : -20000 ≤ i ∧ i ≤ 20000) : nthB a b i = true ↔ ∃ q : Int, 0 ≤ q ∧ i = b + q * a := by
  rw [nthB_in ha hb hi]
  by_cases h0 : a = 0
  · rw [if_pos h0, decide_eq_true_eq]
    subst h0
    constructor
    · intro h; exact ⟨0, by omega, by omega⟩
    · rintro ⟨q, _, h⟩; omega
  · rw [if_neg h0, Bool.and_eq_true, decide_eq_true_eq, decide_eq_true_eq]
    constructor
    · rintro ⟨h1, h2⟩
      have := Int.tmod_add_mul_tdiv (i - b) a
      rw [h1] at this
      exact ⟨(i - b).tdiv a, h2, by rw [Int.mul_comm]; omega⟩
    · rintro ⟨q, hq, h⟩
      have : i - b = q * a := by omega
      rw [this]
      exact ⟨Int.mul_tmod_left q a, by rw [Int.mul_tdiv_cancel _ h0]; exact hq⟩

theorem w6 (a b i : Int) : Pure Try.prog 6 [.int .i64 a, .int .i64 b, .int .i64 i] (.bool true) := by
  refine pure_W mix K6_ok c6 (by kernel_rfl) (by simp [F6]) ?_
  by_cases hin : (-10000 ≤ a ∧ a ≤ 10000) ∧ (-10000 ≤ b ∧ b ≤ 10000) ∧ (-10000 ≤ i ∧ i ≤ 10000)
  case neg =>
    simp -implicitDefEqProofs only [F6, K6_10, go_sem, ↓reduceIte, Nat.reduceEqDiff, Nat.reduceAdd, Nat.reduceMul, Nat.reduceLeDiff, Nat.reduceSub, Nat.reduceLT, Int.reduceAdd, Int.reduceLE, Int.reduceLT, Int.reduceToNat, Int.reduceNeg, Int.reduceNegSucc, reduceCtorEq]
    iterate 6 (refine brI_both (fun h hT => ?_) (fun h hT => ?_) <;> simp -implicitDefEqProofs only [hT, *, K6_10, go_sem, ↓reduceIte, Nat.reduceEqDiff, Nat.reduceAdd, Nat.reduceMul, Nat.reduceLeDiff, Nat.reduceSub, Nat.reduceLT, Int.reduceAdd, Int.reduceLE, Int.reduceLT, Int.reduceToNat, Int.reduceNeg, Int.reduceNegSucc, reduceCtorEq] <;> try clear hT)
    omega
  case pos =>
    obtain ⟨ha, hb, hi⟩ := hin
    have n1 : ¬ a < -10000 := by omega
    have n2 : ¬ a > 10000 := by omega
    have n3 : ¬ b < -10000 := by omega
    have n4 : ¬ b > 10000 := by omega
    have n5 : ¬ i < -10000 := by omega
    have n6 : ¬ i > 10000 := by omega
    have w1 : IntKind.i64.wrap (i + a) = i + a := wrap64 (by omega) (by omega)
    have w2 : IntKind.i64.wrap (i - a) = i - a := wrap64 (by omega) (by omega)
    have hbb : nthB a b b = true := (nth_iff (by omega) (by omega) (by omega)).2 ⟨0, by omega, by omega⟩
    have hadd : nthB a b i = true → nthB a b (i + a) = true := fun h => by
      obtain ⟨q, hq, e⟩ := (nth_iff (by omega) (by omega) (by omega)).1 h
      exact (nth_iff (by omega) (by omega) (by omega)).2 ⟨q + 1, by omega, by rw [Int.add_mul]; omega⟩
    have hsub : nthB a b i = true → i ≠ b → nthB a b (i - a) = true := fun h hne => by
      obtain ⟨q, hq, e⟩ := (nth_iff (by omega) (by omega) (by omega)).1 h
      have : q ≠ 0 := fun h0 => hne (by rw [e, h0]; omega)
      exact (nth_iff (by omega) (by omega) (by omega)).2 ⟨q - 1, by omega, by rw [Int.sub_mul]; omega⟩
    have hz : a = 0 → nthB a b i = (i == b) := fun h => by
      subst h
      rw [Bool.eq_iff_iff, nth_iff (by omega) (by omega) (by omega), beq_iff_eq]
      exact ⟨fun ⟨q, _, e⟩ => by omega, fun e => ⟨0, by omega, by omega⟩⟩
    have hk : nthB a b i = true → ∀ k : Int, 1 ≤ k → k < a → k < 30 → nthB a b (i + k) = false := fun h k h1 h2 h3 => by
      rw [Bool.eq_false_iff]
      intro h'
      obtain ⟨q, hq, e⟩ := (nth_iff (by omega) (by omega) (by omega)).1 h
      obtain ⟨q', hq', e'⟩ := (nth_iff (by omega) (by omega) (by omega)).1 h'
      have : k = (q' - q) * a := by rw [Int.sub_mul]; omega
      have hpos : 0 < q' - q := by
        rcases Int.lt_or_le 0 (q' - q) with h | h
        · exact h
        · have := Int.mul_le_mul_of_nonneg_right h (show 0 ≤ a by omega); omega
      have := Int.mul_le_mul_of_nonneg_right (show 1 ≤ q' - q by omega) (show 0 ≤ a by omega)
      omega
    have hw : ∀ k : Nat, k ≤ 30 → IntKind.i64.wrap (i + (k : Int)) = i + (k : Int) := fun k h => wrap64 (by omega) (by omega)
    have hw1 : ∀ k : Nat, k ≤ 30 → IntKind.i64.wrap ((k : Int) + 1) = ((k + 1 : Nat) : Int) := fun k h => by rw [wrap64 (by omega) (by omega)]; omega
    cases his : nthB a b i
    · have hib : a = 0 → (i == b) = false := fun h0 => (hz h0).symm.trans his
      simp -implicitDefEqProofs only [F6, K6_10, K6_17, n1, n2, n3, n4, n5, n6, hbb, his, go_sem, ↓reduceIte, Nat.reduceEqDiff, Nat.reduceAdd, Nat.reduceMul, Nat.reduceLeDiff, Nat.reduceSub, Nat.reduceLT, Int.reduceAdd, Int.reduceLE, Int.reduceLT, Int.reduceToNat, Int.reduceNeg, Int.reduceNegSucc, reduceCtorEq]
      refine brI_both (fun h0 hT => ?_) (fun h0 hT => ?_)
      all_goals
        (try have hib2 := hib h0)
        first | simp -implicitDefEqProofs only [hib2, hT, go_sem, ↓reduceIte, Nat.reduceEqDiff, Nat.reduceAdd, Nat.reduceMul, Nat.reduceLeDiff, Nat.reduceSub, Nat.reduceLT, Int.reduceAdd, Int.reduceLE, Int.reduceLT, Int.reduceToNat, Int.reduceNeg, Int.reduceNegSucc, reduceCtorEq] | simp -implicitDefEqProofs only [hT, go_sem, ↓reduceIte, Nat.reduceEqDiff, Nat.reduceAdd, Nat.reduceMul, Nat.reduceLeDiff, Nat.reduceSub, Nat.reduceLT, Int.reduceAdd, Int.reduceLE, Int.reduceLT, Int.reduceToNat, Int.reduceNeg, Int.reduceNegSucc, reduceCtorEq]
        refine LoopI_sl (fun k : Nat => 30 - k) (fun k => [(0, .int .i64 a), (7, .bool false), (8, .int .i64 k)]) (fun k s => 1 ≤ k ∧ k ≤ 30) 1 ?_ ?_
        · simp -implicitDefEqProofs only [go_sem, ↓reduceIte, Nat.reduceEqDiff, Nat.reduceAdd, Nat.reduceMul, Nat.reduceLeDiff, Nat.reduceSub, Nat.reduceLT, Int.reduceAdd, Int.reduceLE, Int.reduceLT, Int.reduceToNat, Int.reduceNeg, Int.reduceNegSucc, reduceCtorEq]
        rintro k ρ ⟨hp, nx⟩ ⟨k1, k2⟩
        simp -implicitDefEqProofs only [go_sem, ↓reduceIte, Nat.reduceEqDiff, Nat.reduceAdd, Nat.reduceMul, Nat.reduceLeDiff, Nat.reduceSub, Nat.reduceLT, Int.reduceAdd, Int.reduceLE, Int.reduceLT, Int.reduceToNat, Int.reduceNeg, Int.reduceNegSucc, reduceCtorEq]
        repeat' (refine brI_both (fun h hT => ?_) (fun h hT => ?_) <;> simp -implicitDefEqProofs only [hT, go_sem, ↓reduceIte, Nat.reduceEqDiff, Nat.reduceAdd, Nat.reduceMul, Nat.reduceLeDiff, Nat.reduceSub, Nat.reduceLT, Int.reduceAdd, Int.reduceLE, Int.reduceLT, Int.reduceToNat, Int.reduceNeg, Int.reduceNegSucc, reduceCtorEq] <;> try clear hT)
        refine ⟨k + 1, by omega, ?_⟩
        simp -implicitDefEqProofs only [hw1 k k2, go_sem, ↓reduceIte, Nat.reduceEqDiff, Nat.reduceAdd, Nat.reduceMul, Nat.reduceLeDiff, Nat.reduceSub, Nat.reduceLT, Int.reduceAdd, Int.reduceLE, Int.reduceLT, Int.reduceToNat, Int.reduceNeg, Int.reduceNegSucc, reduceCtorEq]
        omega
    · have hadd' := hadd his
      have hz0 : a = 0 → (true == (i == b)) = true := fun h => by rw [← hz h, his]; rfl
      simp -implicitDefEqProofs only [F6, K6_10, K6_17, n1, n2, n3, n4, n5, n6, hbb, his, w1, hadd', go_sem, ↓reduceIte, Nat.reduceEqDiff, Nat.reduceAdd, Nat.reduceMul, Nat.reduceLeDiff, Nat.reduceSub, Nat.reduceLT, Int.reduceAdd, Int.reduceLE, Int.reduceLT, Int.reduceToNat, Int.reduceNeg, Int.reduceNegSucc, reduceCtorEq]
      refine brI_both (fun h0 hT => ?_) (fun h0 hT => ?_)
      all_goals
        (try have hz1 := hz0 h0)
        first | simp -implicitDefEqProofs only [hz1, hT, go_sem, ↓reduceIte, Nat.reduceEqDiff, Nat.reduceAdd, Nat.reduceMul, Nat.reduceLeDiff, Nat.reduceSub, Nat.reduceLT, Int.reduceAdd, Int.reduceLE, Int.reduceLT, Int.reduceToNat, Int.reduceNeg, Int.reduceNegSucc, reduceCtorEq] | simp -implicitDefEqProofs only [hT, go_sem, ↓reduceIte, Nat.reduceEqDiff, Nat.reduceAdd, Nat.reduceMul, Nat.reduceLeDiff, Nat.reduceSub, Nat.reduceLT, Int.reduceAdd, Int.reduceLE, Int.reduceLT, Int.reduceToNat, Int.reduceNeg, Int.reduceNegSucc, reduceCtorEq]
        refine LoopI_sl (fun k : Nat => 30 - k) (fun k => [(0, .int .i64 a), (1, .int .i64 b), (2, .int .i64 i), (7, .bool true), (8, .int .i64 k)]) (fun k s => 1 ≤ k ∧ k ≤ 30) 1 ?_ ?_
        · simp -implicitDefEqProofs only [go_sem, ↓reduceIte, Nat.reduceEqDiff, Nat.reduceAdd, Nat.reduceMul, Nat.reduceLeDiff, Nat.reduceSub, Nat.reduceLT, Int.reduceAdd, Int.reduceLE, Int.reduceLT, Int.reduceToNat, Int.reduceNeg, Int.reduceNegSucc, reduceCtorEq]
        rintro k ρ ⟨hp, nx⟩ ⟨k1, k2⟩
        have hwk := hw k k2
        simp -implicitDefEqProofs only [K6_17, hwk, go_sem, ↓reduceIte, Nat.reduceEqDiff, Nat.reduceAdd, Nat.reduceMul, Nat.reduceLeDiff, Nat.reduceSub, Nat.reduceLT, Int.reduceAdd, Int.reduceLE, Int.reduceLT, Int.reduceToNat, Int.reduceNeg, Int.reduceNegSucc, reduceCtorEq]
        repeat' (refine brI_both (fun h hT => ?_) (fun h hT => ?_) <;> simp -implicitDefEqProofs only [hT, K6_17, hwk, go_sem, ↓reduceIte, Nat.reduceEqDiff, Nat.reduceAdd, Nat.reduceMul, Nat.reduceLeDiff, Nat.reduceSub, Nat.reduceLT, Int.reduceAdd, Int.reduceLE, Int.reduceLT, Int.reduceToNat, Int.reduceNeg, Int.reduceNegSucc, reduceCtorEq] <;> try clear hT)
        all_goals first
          | (rename_i g1 g2; rw [hk his k (by omega) g1 g2] at h; simp at h; done)
          | (exact ⟨k + 1, by omega, by rw [hw1 k k2], by omega, by omega⟩)
          | (rw [w2, hsub his h]; done)
          | (rename_i g1; simp at g1; exact h g1)
end W06
