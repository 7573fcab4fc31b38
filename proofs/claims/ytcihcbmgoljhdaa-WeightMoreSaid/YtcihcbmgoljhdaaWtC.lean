/- Small. -/
import Derived.Test.YtcihcbmgoljhdaaWtA
import Derived.Test.YtcihcbmgoljhdaaWtB
set_option linter.unusedSimpArgs false
set_option linter.unusedVariables false
namespace W06
open Go Go.AX Go.AX.Ty Go.Proofs

def badS (n v : Str) : Bool := decide (n.length > 100) || decide (v.length > 100)
mutual
def cu (m : Int) : Simple → Int → Int
  | .mk _ nm v _ _ l, n => if badS nm v then m + 1 else cuL m l (n + 1)
def cuL (m : Int) : List Simple → Int → Int
  | [], n => n
  | x :: r, n => if n ≤ m then cuL m r (cu m x n) else n
end
theorem cu_eq (m : Int) (x : Simple) (n : Int) : cu m x n = if badS x.name x.value then m + 1 else cuL m x.l (n + 1) := by
  cases x; simp only [cu, Simple.name, Simple.value, Simple.l]; rfl
theorem cuL_big (m : Int) : ∀ (l : List Simple) (n : Int), m < n → cuL m l n = n
  | [], n, _ => by simp [cuL]
  | x :: r, n, h => by simp only [cuL]; rw [if_neg (by omega)]
mutual
/-- texts of at most 100 bytes, in all depths -/
def shortS : Simple → Prop
  | .mk _ nm v _ _ l => nm.length ≤ 100 ∧ v.length ≤ 100 ∧ shortL l
def shortL : List Simple → Prop
  | [] => True
  | x :: r => shortS x ∧ shortL r
end
theorem shortS_eq (x : Simple) : shortS x ↔ x.name.length ≤ 100 ∧ x.value.length ≤ 100 ∧ shortL x.l := by cases x; simp only [shortS, Simple.name, Simple.value, Simple.l]
mutual
theorem cu_ok (m : Int) : ∀ (x : Simple) (n : Int), n ≤ m → (n ≤ cu m x n ∧ cu m x n ≤ m + 1) ∧ (cu m x n ≤ m → cu m x n = n + siz x ∧ shortS x)
  | .mk _ nm v _ _ l, n, hn => by
    simp only [cu, siz, shortS]
    by_cases hb : badS nm v = true
    · rw [if_pos hb]; refine ⟨by omega, fun h => by omega⟩
    · rw [if_neg hb]
      simp [badS] at hb
      obtain ⟨h1, h2⟩ := cuL_ok m l (n + 1) (by omega)
      refine ⟨by omega, fun h => ?_⟩
      obtain ⟨h3, h4⟩ := h2 h
      exact ⟨by omega, by omega, by omega, h4⟩
theorem cuL_ok (m : Int) : ∀ (l : List Simple) (n : Int), n ≤ m + 1 → (n ≤ cuL m l n ∧ cuL m l n ≤ m + 1) ∧ (cuL m l n ≤ m → cuL m l n = n + sizL l ∧ shortL l)
  | [], n, hn => by simp [cuL, sizL, shortL]; omega
  | x :: r, n, hn => by
    simp only [cuL, sizL, shortL]
    by_cases h : n ≤ m
    · rw [if_pos h]
      obtain ⟨h1, h2⟩ := cu_ok m x n h
      obtain ⟨h3, h4⟩ := cuL_ok m r (cu m x n) (by omega)
      refine ⟨by omega, fun h' => ?_⟩
      obtain ⟨h5, h6⟩ := h4 h'
      obtain ⟨h7, h8⟩ := h2 (by omega)
      exact ⟨by omega, h8, h6⟩
    · rw [if_neg h]; exact ⟨by omega, fun h' => by omega⟩
end

theorem w19 (m : Int) (hm : 0 ≤ m ∧ m ≤ 1000000) : ∀ (N : Nat) (l : List Simple), sizL l ≤ N → Enc.ok l → ∀ n : Int, 0 ≤ n → n ≤ m + 1 →
    PureF Try.prog 19 [Enc.av l, Enc.av n, Enc.av m] (Enc.av (cuL m l n)) := fun N => by
  induction N using Nat.strongRecOn with
  | ind N ih =>
  intro l hN hok n hn0 hn1
  refine pureF_W mix c19 (by kernel_rfl) (by kernel_rfl) (by simp [flats, flat_av]) (by first | exact flat_av _ | simp [flat, flats, flat_av]) ?_
  simp -implicitDefEqProofs only [F19, go_sem, ↓reduceIte, Nat.reduceEqDiff, Nat.reduceAdd, Nat.reduceMul, Nat.reduceLeDiff, Nat.reduceSub, Nat.reduceLT, Int.reduceAdd, Int.reduceLE, Int.reduceLT, Int.reduceToNat, Int.reduceNeg, Int.reduceNegSucc, Int.reduceEq, Int.reduceNe, Int.reduceGT, Int.reduceGE, Int.reduceSub, Int.reduceMul, Int.reduceBEq, Int.reduceBNe, Nat.reduceBEq, Nat.reduceGT, reduceCtorEq]
  refine LoopI_sl (fun p : Nat × Int => l.length - p.1) (fun p => [(0, Enc.av l), (1, .int .i64 p.2), (2, .int .i64 m), (7, .int .i64 p.1)])
    (fun p s => p.1 ≤ l.length ∧ 0 ≤ p.2 ∧ p.2 ≤ m + 1 ∧ cuL m (l.drop p.1) p.2 = cuL m l n ∧ sizL (l.drop p.1) ≤ N) (0, n) ?_ ?_
  · simp -implicitDefEqProofs only [go_sem, ↓reduceIte, Nat.reduceEqDiff, Nat.reduceAdd, Nat.reduceMul, Nat.reduceLeDiff, Nat.reduceSub, Nat.reduceLT, Int.reduceAdd, Int.reduceLE, Int.reduceLT, Int.reduceToNat, Int.reduceNeg, Int.reduceNegSucc, Int.reduceEq, Int.reduceNe, Int.reduceGT, Int.reduceGE, Int.reduceSub, Int.reduceMul, Int.reduceBEq, Int.reduceBNe, Nat.reduceBEq, Nat.reduceGT, reduceCtorEq]
    (try simp); omega
  rintro ⟨k, q⟩ ρ ⟨hp, nx⟩ ⟨h1, h2, h3, h4, h5⟩
  dsimp only at h1 h2 h3 h4 h5
  rcases Nat.lt_or_ge k l.length with hk | hk
  · obtain ⟨x, hx, hd, hm'⟩ := get_drop hk
    have hlt : ((k : Int) < (l.length : Int)) = True := eq_true (by omega)
    have hox := hok.2 x hm'
    rw [Simple.ok_iff] at hox
    simp only [hd, sizL] at h5
    rw [siz_eq] at h5
    have w1 : IntKind.i64.wrap ((k : Int) + 1) = ((k + 1 : Nat) : Int) := by have := hok.1; rw [wrap64 (by omega) (by omega)]; omega
    have w2 : IntKind.i64.wrap (q + 1) = q + 1 := wrap64 (by omega) (by omega)
    have w3 : IntKind.i64.wrap (m + 1) = m + 1 := wrap64 (by omega) (by omega)
    rcases Int.lt_or_le m q with hq | hq
    · have hT : (q ≤ m) = False := eq_false (by omega)
      rw [cuL_big m _ _ hq] at h4
      simp -implicitDefEqProofs only [hlt, hT, hx, ← h4, go_sem, ↓reduceIte, Nat.reduceEqDiff, Nat.reduceAdd, Nat.reduceMul, Nat.reduceLeDiff, Nat.reduceSub, Nat.reduceLT, Int.reduceAdd, Int.reduceLE, Int.reduceLT, Int.reduceToNat, Int.reduceNeg, Int.reduceNegSucc, Int.reduceEq, Int.reduceNe, Int.reduceGT, Int.reduceGE, Int.reduceSub, Int.reduceMul, Int.reduceBEq, Int.reduceBNe, Nat.reduceBEq, Nat.reduceGT, reduceCtorEq]
    · have hT : (q ≤ m) = True := eq_true hq
      rw [hd] at h4
      simp only [cuL, if_pos hq, cu_eq] at h4
      have ih' := ih (N - 1) (by omega) x.l (by omega) hox.2.2.2.2.2 (q + 1) (by omega) (by omega)
      have hbd := (cuL_ok m x.l (q + 1) (by omega)).1
      simp -implicitDefEqProofs only [hlt, hT, hx, w1, w2, w3, go_sem, ↓reduceIte, Nat.reduceEqDiff, Nat.reduceAdd, Nat.reduceMul, Nat.reduceLeDiff, Nat.reduceSub, Nat.reduceLT, Int.reduceAdd, Int.reduceLE, Int.reduceLT, Int.reduceToNat, Int.reduceNeg, Int.reduceNegSucc, Int.reduceEq, Int.reduceNe, Int.reduceGT, Int.reduceGE, Int.reduceSub, Int.reduceMul, Int.reduceBEq, Int.reduceBNe, Nat.reduceBEq, Nat.reduceGT, reduceCtorEq]
      repeat' (first
        | contradiction
        | (refine brI_both (fun h hT => ?_) (fun h hT => ?_) <;> try simp -implicitDefEqProofs only [hT, hx, w1, w2, w3, go_sem, ↓reduceIte, Nat.reduceEqDiff, Nat.reduceAdd, Nat.reduceMul, Nat.reduceLeDiff, Nat.reduceSub, Nat.reduceLT, Int.reduceAdd, Int.reduceLE, Int.reduceLT, Int.reduceToNat, Int.reduceNeg, Int.reduceNegSucc, Int.reduceEq, Int.reduceNe, Int.reduceGT, Int.reduceGE, Int.reduceSub, Int.reduceMul, Int.reduceBEq, Int.reduceBNe, Nat.reduceBEq, Nat.reduceGT, reduceCtorEq] <;> try clear hT)
        | (refine callI_pure ih' ?_; simp -implicitDefEqProofs only [hx, w1, w2, w3, go_sem, ↓reduceIte, Nat.reduceEqDiff, Nat.reduceAdd, Nat.reduceMul, Nat.reduceLeDiff, Nat.reduceSub, Nat.reduceLT, Int.reduceAdd, Int.reduceLE, Int.reduceLT, Int.reduceToNat, Int.reduceNeg, Int.reduceNegSucc, Int.reduceEq, Int.reduceNe, Int.reduceGT, Int.reduceGE, Int.reduceSub, Int.reduceMul, Int.reduceBEq, Int.reduceBNe, Nat.reduceBEq, Nat.reduceGT, reduceCtorEq]))
      · rw [if_pos (by simp [badS]; omega), cuL_big m _ _ (by omega)] at h4; rw [h4]
      · rw [if_pos (by simp [badS]; omega), cuL_big m _ _ (by omega)] at h4; rw [h4]
      · rw [if_neg (by simp [badS]; omega)] at h4
        refine ⟨(k + 1, _), by simp only; omega, ⟨rfl, rfl⟩, ?_⟩
        simp only; exact ⟨by omega, by omega, by omega, h4, by omega⟩
  · have hlt : ((k : Int) < (l.length : Int)) = False := eq_false (by omega)
    rw [drop_all hk] at h4
    simp only [cuL] at h4
    simp -implicitDefEqProofs only [hlt, h4, go_sem, ↓reduceIte, Nat.reduceEqDiff, Nat.reduceAdd, Nat.reduceMul, Nat.reduceLeDiff, Nat.reduceSub, Nat.reduceLT, Int.reduceAdd, Int.reduceLE, Int.reduceLT, Int.reduceToNat, Int.reduceNeg, Int.reduceNegSucc, Int.reduceEq, Int.reduceNe, Int.reduceGT, Int.reduceGE, Int.reduceSub, Int.reduceMul, Int.reduceBEq, Int.reduceBNe, Nat.reduceBEq, Nat.reduceGT, reduceCtorEq]

/-- all of a complex selector's -/
def cuP (m : Int) : List Part → Int → Int
  | [], n => n
  | p :: r, n => if n ≤ m then cuP m r (cuL m p.l n) else n
/-- are there at most so many simple selectors, and parts, of texts of 100 bytes? -/
def smallC (m : Int) : List Complex → Int → Bool
  | [], n => decide (n ≤ m)
  | x :: r, n => if n ≤ m then (if (x.pseudo.length : Int) > 100 then false else smallC m r (cuP m x.parts (n + x.parts.length))) else false
theorem cuP_big (m : Int) : ∀ (l : List Part) (n : Int), m < n → cuP m l n = n
  | [], n, _ => by simp [cuP]
  | x :: r, n, h => by simp only [cuP]; rw [if_neg (by omega)]
theorem cuP_bd (m : Int) : ∀ (l : List Part) (n : Int), n ≤ m + 1 → n ≤ cuP m l n ∧ cuP m l n ≤ m + 1
  | [], n, h => by simp [cuP, h]
  | p :: r, n, h => by
    simp only [cuP]
    split
    · have := (cuL_ok m p.l n h).1
      have := cuP_bd m r (cuL m p.l n) (by omega)
      omega
    · omega
def sizN : List Part → Nat
  | [] => 0
  | p :: r => sizL p.l + sizN r
def shortP : List Part → Prop
  | [] => True
  | p :: r => shortL p.l ∧ shortP r
theorem cuP_ok (m : Int) : ∀ (l : List Part) (n : Int), cuP m l n ≤ m → cuP m l n = n + sizN l ∧ shortP l
  | [], n, h => by simp [cuP, sizN, shortP]
  | p :: r, n, h => by
    simp only [cuP, sizN, shortP] at h ⊢
    by_cases hn : n ≤ m
    · rw [if_pos hn] at h ⊢
      obtain ⟨h1, h2⟩ := cuP_ok m r _ h
      have h3 := (cuL_ok m p.l n (by omega))
      obtain ⟨h4, h5⟩ := h3.2 (by omega)
      exact ⟨by omega, h5, h2⟩
    · rw [if_neg hn] at h; omega
theorem smallC_ok (m : Int) : ∀ (l : List Complex) (n : Int), smallC m l n = true → n ≤ m ∧ ∀ x ∈ l, (n + x.parts.length + sizN x.parts ≤ m ∧ shortP x.parts ∧ x.pseudo.length ≤ 100)
  | [], n, h => by simp [smallC] at h; simp [h]
  | x :: r, n, h => by
    simp only [smallC] at h
    split at h
    · split at h
      · simp at h
      · rename_i h1 h2
        obtain ⟨h3, h4⟩ := smallC_ok m r _ h
        obtain ⟨h5, h6⟩ := cuP_ok m x.parts _ h3
        refine ⟨h1, fun y hy => ?_⟩
        rcases List.mem_cons.1 hy with rfl | hy
        · exact ⟨by omega, h6, by omega⟩
        · obtain ⟨h7, h8, h9⟩ := h4 y hy
          exact ⟨by omega, h8, h9⟩
    · simp at h

theorem w9 (m : Int) (hm : 0 ≤ m ∧ m ≤ 1000000) (l : List Complex) (hok : Enc.ok l) : PureF Try.prog 9 [Enc.av l, Enc.av m] (Enc.av (smallC m l l.length)) := by
  refine pureF_W mix c9 (by kernel_rfl) (by kernel_rfl) (by simp [flats, flat_av]) (by first | exact flat_av _ | simp [flat, flats, flat_av]) ?_
  have hlen := hok.1
  simp -implicitDefEqProofs only [F9, go_sem, ↓reduceIte, Nat.reduceEqDiff, Nat.reduceAdd, Nat.reduceMul, Nat.reduceLeDiff, Nat.reduceSub, Nat.reduceLT, Int.reduceAdd, Int.reduceLE, Int.reduceLT, Int.reduceToNat, Int.reduceNeg, Int.reduceNegSucc, Int.reduceEq, Int.reduceNe, Int.reduceGT, Int.reduceGE, Int.reduceSub, Int.reduceMul, Int.reduceBEq, Int.reduceBNe, Nat.reduceBEq, Nat.reduceGT, reduceCtorEq]
  refine LoopI_sl (fun p : Nat × Int => l.length - p.1) (fun p => [(0, Enc.av l), (1, .int .i64 m), (5, .int .i64 p.2), (6, .int .i64 p.1)])
    (fun p s => p.1 ≤ l.length ∧ 0 ≤ p.2 ∧ p.2 ≤ 10000000000000000 ∧ smallC m (l.drop p.1) p.2 = smallC m l l.length) (0, l.length) ?_ ?_
  · simp -implicitDefEqProofs only [go_sem, ↓reduceIte, Nat.reduceEqDiff, Nat.reduceAdd, Nat.reduceMul, Nat.reduceLeDiff, Nat.reduceSub, Nat.reduceLT, Int.reduceAdd, Int.reduceLE, Int.reduceLT, Int.reduceToNat, Int.reduceNeg, Int.reduceNegSucc, Int.reduceEq, Int.reduceNe, Int.reduceGT, Int.reduceGE, Int.reduceSub, Int.reduceMul, Int.reduceBEq, Int.reduceBNe, Nat.reduceBEq, Nat.reduceGT, reduceCtorEq]
    (try simp); omega
  rintro ⟨k, q⟩ ρ ⟨hp, nx⟩ ⟨h1, h2, h3, h4⟩
  dsimp only at h1 h2 h3 h4
  rcases Nat.lt_or_ge k l.length with hk | hk
  · obtain ⟨x, hx, hd, hm'⟩ := get_drop hk
    have hlt : ((k : Int) < (l.length : Int)) = True := eq_true (by omega)
    have hox := hok.2 x hm'
    have hxl := hox.1.1
    rw [hd] at h4
    have w1 : IntKind.i64.wrap ((k : Int) + 1) = ((k + 1 : Nat) : Int) := by rw [wrap64 (by omega) (by omega)]; omega
    rcases Int.lt_or_le m q with hq | hq
    · have hT : (q ≤ m) = False := eq_false (by omega)
      simp only [smallC, if_neg (show ¬ q ≤ m by omega)] at h4
      simp -implicitDefEqProofs only [hlt, hT, hx, ← h4, decide_false, go_sem, ↓reduceIte, Nat.reduceEqDiff, Nat.reduceAdd, Nat.reduceMul, Nat.reduceLeDiff, Nat.reduceSub, Nat.reduceLT, Int.reduceAdd, Int.reduceLE, Int.reduceLT, Int.reduceToNat, Int.reduceNeg, Int.reduceNegSucc, Int.reduceEq, Int.reduceNe, Int.reduceGT, Int.reduceGE, Int.reduceSub, Int.reduceMul, Int.reduceBEq, Int.reduceBNe, Nat.reduceBEq, Nat.reduceGT, reduceCtorEq]
    · have hT : (q ≤ m) = True := eq_true hq
      simp only [smallC, if_pos hq] at h4
      have w2 : IntKind.i64.wrap (q + (x.parts.length : Int)) = q + x.parts.length := wrap64 (by omega) (by omega)
      simp -implicitDefEqProofs only [hlt, hT, hx, w2, go_sem, ↓reduceIte, Nat.reduceEqDiff, Nat.reduceAdd, Nat.reduceMul, Nat.reduceLeDiff, Nat.reduceSub, Nat.reduceLT, Int.reduceAdd, Int.reduceLE, Int.reduceLT, Int.reduceToNat, Int.reduceNeg, Int.reduceNegSucc, Int.reduceEq, Int.reduceNe, Int.reduceGT, Int.reduceGE, Int.reduceSub, Int.reduceMul, Int.reduceBEq, Int.reduceBNe, Nat.reduceBEq, Nat.reduceGT, reduceCtorEq]
      refine LoopI_sl (fun p : Nat × Int => x.parts.length - p.1) (fun p => [(0, Enc.av l), (1, .int .i64 m), (5, .int .i64 p.2), (6, .int .i64 k), (7, .int .i64 p.1)])
        (fun p s => p.1 ≤ x.parts.length ∧ 0 ≤ p.2 ∧ p.2 ≤ 10000000000000000 ∧ cuP m (x.parts.drop p.1) p.2 = cuP m x.parts (q + x.parts.length)) (0, q + x.parts.length) ?_ ?_
      · simp -implicitDefEqProofs only [go_sem, ↓reduceIte, Nat.reduceEqDiff, Nat.reduceAdd, Nat.reduceMul, Nat.reduceLeDiff, Nat.reduceSub, Nat.reduceLT, Int.reduceAdd, Int.reduceLE, Int.reduceLT, Int.reduceToNat, Int.reduceNeg, Int.reduceNegSucc, Int.reduceEq, Int.reduceNe, Int.reduceGT, Int.reduceGE, Int.reduceSub, Int.reduceMul, Int.reduceBEq, Int.reduceBNe, Nat.reduceBEq, Nat.reduceGT, reduceCtorEq]
        (try simp); omega
      rintro ⟨j, r⟩ ρ ⟨hp, nx⟩ ⟨g1, g2, g3, g4⟩
      dsimp only at g1 g2 g3 g4
      rcases Nat.lt_or_ge j x.parts.length with hj | hj
      · obtain ⟨y, hy, he, hn'⟩ := get_drop hj
        have hoy := hox.1.2 y hn'
        have hlt2 : ((j : Int) < (x.parts.length : Int)) = True := eq_true (by omega)
        rw [he] at g4
        have w3 : IntKind.i64.wrap ((j : Int) + 1) = ((j + 1 : Nat) : Int) := by rw [wrap64 (by omega) (by omega)]; omega
        rcases Int.lt_or_le m r with hr | hr
        · have hT2 : (r ≤ m) = False := eq_false (by omega)
          rw [cuP_big m _ _ hr] at g4
          by_cases hps : (x.pseudo.length : Int) > 100
          · have hP := eq_true hps
            rw [if_pos hps] at h4
            simp -implicitDefEqProofs only [hx, hlt2, hT2, hy, w1, hP, ← h4, go_sem, ↓reduceIte, Nat.reduceEqDiff, Nat.reduceAdd, Nat.reduceMul, Nat.reduceLeDiff, Nat.reduceSub, Nat.reduceLT, Int.reduceAdd, Int.reduceLE, Int.reduceLT, Int.reduceToNat, Int.reduceNeg, Int.reduceNegSucc, Int.reduceEq, Int.reduceNe, Int.reduceGT, Int.reduceGE, Int.reduceSub, Int.reduceMul, Int.reduceBEq, Int.reduceBNe, Nat.reduceBEq, Nat.reduceGT, reduceCtorEq]
          · have hP := eq_false hps
            rw [if_neg hps] at h4
            simp -implicitDefEqProofs only [hx, hlt2, hT2, hy, w1, hP, go_sem, ↓reduceIte, Nat.reduceEqDiff, Nat.reduceAdd, Nat.reduceMul, Nat.reduceLeDiff, Nat.reduceSub, Nat.reduceLT, Int.reduceAdd, Int.reduceLE, Int.reduceLT, Int.reduceToNat, Int.reduceNeg, Int.reduceNegSucc, Int.reduceEq, Int.reduceNe, Int.reduceGT, Int.reduceGE, Int.reduceSub, Int.reduceMul, Int.reduceBEq, Int.reduceBNe, Nat.reduceBEq, Nat.reduceGT, reduceCtorEq]
            refine ⟨(k + 1, _), by simp only; omega, ⟨rfl, rfl⟩, ?_⟩
            simp only
            rw [g4]
            exact ⟨by omega, by omega, by omega, h4⟩
        · have hT2 : (r ≤ m) = True := eq_true hr
          have hbd := (cuL_ok m y.l r (by omega)).1
          simp only [cuP, if_pos hr] at g4
          simp -implicitDefEqProofs only [hx, hlt2, hT2, hy, w1, w3, go_sem, ↓reduceIte, Nat.reduceEqDiff, Nat.reduceAdd, Nat.reduceMul, Nat.reduceLeDiff, Nat.reduceSub, Nat.reduceLT, Int.reduceAdd, Int.reduceLE, Int.reduceLT, Int.reduceToNat, Int.reduceNeg, Int.reduceNegSucc, Int.reduceEq, Int.reduceNe, Int.reduceGT, Int.reduceGE, Int.reduceSub, Int.reduceMul, Int.reduceBEq, Int.reduceBNe, Nat.reduceBEq, Nat.reduceGT, reduceCtorEq]
          refine callI_pure (w19 m hm _ y.l (Nat.le_refl _) hoy.2 r g2 (by omega)) ?_
          simp -implicitDefEqProofs only [hx, w3, go_sem, ↓reduceIte, Nat.reduceEqDiff, Nat.reduceAdd, Nat.reduceMul, Nat.reduceLeDiff, Nat.reduceSub, Nat.reduceLT, Int.reduceAdd, Int.reduceLE, Int.reduceLT, Int.reduceToNat, Int.reduceNeg, Int.reduceNegSucc, Int.reduceEq, Int.reduceNe, Int.reduceGT, Int.reduceGE, Int.reduceSub, Int.reduceMul, Int.reduceBEq, Int.reduceBNe, Nat.reduceBEq, Nat.reduceGT, reduceCtorEq]
          refine ⟨(j + 1, _), by simp only; omega, ⟨rfl, rfl⟩, ?_⟩
          simp only
          exact ⟨by omega, by omega, by omega, g4⟩
      · have hlt2 : ((j : Int) < (x.parts.length : Int)) = False := eq_false (by omega)
        rw [drop_all hj] at g4
        simp only [cuP] at g4
        by_cases hps : (x.pseudo.length : Int) > 100
        · have hP := eq_true hps
          rw [if_pos hps] at h4
          simp -implicitDefEqProofs only [hx, hlt2, w1, hP, ← h4, go_sem, ↓reduceIte, Nat.reduceEqDiff, Nat.reduceAdd, Nat.reduceMul, Nat.reduceLeDiff, Nat.reduceSub, Nat.reduceLT, Int.reduceAdd, Int.reduceLE, Int.reduceLT, Int.reduceToNat, Int.reduceNeg, Int.reduceNegSucc, Int.reduceEq, Int.reduceNe, Int.reduceGT, Int.reduceGE, Int.reduceSub, Int.reduceMul, Int.reduceBEq, Int.reduceBNe, Nat.reduceBEq, Nat.reduceGT, reduceCtorEq]
        · have hP := eq_false hps
          rw [if_neg hps] at h4
          simp -implicitDefEqProofs only [hx, hlt2, w1, hP, go_sem, ↓reduceIte, Nat.reduceEqDiff, Nat.reduceAdd, Nat.reduceMul, Nat.reduceLeDiff, Nat.reduceSub, Nat.reduceLT, Int.reduceAdd, Int.reduceLE, Int.reduceLT, Int.reduceToNat, Int.reduceNeg, Int.reduceNegSucc, Int.reduceEq, Int.reduceNe, Int.reduceGT, Int.reduceGE, Int.reduceSub, Int.reduceMul, Int.reduceBEq, Int.reduceBNe, Nat.reduceBEq, Nat.reduceGT, reduceCtorEq]
          refine ⟨(k + 1, _), by simp only; omega, ⟨rfl, rfl⟩, ?_⟩
          simp only
          rw [g4]
          exact ⟨by omega, by omega, by omega, h4⟩
  · have hlt : ((k : Int) < (l.length : Int)) = False := eq_false (by omega)
    rw [drop_all hk] at h4
    simp only [smallC] at h4
    simp -implicitDefEqProofs only [hlt, ← h4, go_sem, ↓reduceIte, Nat.reduceEqDiff, Nat.reduceAdd, Nat.reduceMul, Nat.reduceLeDiff, Nat.reduceSub, Nat.reduceLT, Int.reduceAdd, Int.reduceLE, Int.reduceLT, Int.reduceToNat, Int.reduceNeg, Int.reduceNegSucc, Int.reduceEq, Int.reduceNe, Int.reduceGT, Int.reduceGE, Int.reduceSub, Int.reduceMul, Int.reduceBEq, Int.reduceBNe, Nat.reduceBEq, Nat.reduceGT, reduceCtorEq]
end W06
/- WeightMore. -/
set_option linter.unusedSimpArgs false
set_option linter.unusedVariables false
namespace W06
open Go Go.AX Go.AX.Ty Go.Proofs

theorem sizP_eq : ∀ l : List Part, sizP l = l.length + sizN l
  | [] => rfl
  | p :: r => by simp only [sizP, sizN, List.length_cons, sizP_eq r]; omega
theorem cntP_app (a b : Int) : ∀ l r : List Part, cntP a b (l ++ r) = cntP a b l + cntP a b r
  | [], r => by simp [cntP]
  | p :: l, r => by simp only [List.cons_append, cntP, cntP_app a b l r]; omega
theorem sizP_app : ∀ l r : List Part, sizP (l ++ r) = sizP l + sizP r
  | [], r => by simp [sizP]
  | p :: l, r => by simp only [List.cons_append, sizP, sizP_app l r]; omega

theorem w7 (c : Complex) (x : Simple) (hc : Enc.ok c) (hx : Enc.ok x) : PureF Try.prog 7 [Enc.av c, Enc.av x] (.bool true) := by
  refine pureF_W mix c7 (by kernel_rfl) (by kernel_rfl) (by simp [flats, flat_av]) (by first | exact flat_av _ | simp [flat, flats, flat_av]) ?_
  have k9 := w9 100 (by omega) [c, ⟨[⟨0, [x]⟩], []⟩] (by
    refine ⟨by simp, fun y hy => ?_⟩
    simp at hy
    rcases hy with rfl | rfl
    · exact hc
    · refine ⟨⟨by simp, fun p hp => ?_⟩, by simp [Enc.ok]⟩
      simp at hp; subst hp
      exact ⟨by simp [Enc.ok], by simp, fun z hz => by simp at hz; subst hz; exact hx⟩)
  simp -implicitDefEqProofs only [cellsL, List.length_cons, List.length_nil, go_sem, ↓reduceIte, Nat.reduceEqDiff, Nat.reduceAdd, Nat.reduceMul, Nat.reduceLeDiff, Nat.reduceSub, Nat.reduceLT, Int.reduceAdd, Int.reduceLE, Int.reduceLT, Int.reduceToNat, Int.reduceNeg, Int.reduceNegSucc, Int.reduceEq, Int.reduceNe, Int.reduceGT, Int.reduceGE, Int.reduceSub, Int.reduceMul, Int.reduceBEq, Int.reduceBNe, Nat.reduceBEq, Nat.reduceGT, reduceCtorEq] at k9
  cases hs : smallC 100 [c, ⟨[⟨0, [x]⟩], []⟩] 2
  · rw [hs] at k9
    simp -implicitDefEqProofs only [F7, List.replicate, List.flatten_cons, List.flatten_nil, List.singleton_append, go_sem, ↓reduceIte, Nat.reduceEqDiff, Nat.reduceAdd, Nat.reduceMul, Nat.reduceLeDiff, Nat.reduceSub, Nat.reduceLT, Int.reduceAdd, Int.reduceLE, Int.reduceLT, Int.reduceToNat, Int.reduceNeg, Int.reduceNegSucc, Int.reduceEq, Int.reduceNe, Int.reduceGT, Int.reduceGE, Int.reduceSub, Int.reduceMul, Int.reduceBEq, Int.reduceBNe, Nat.reduceBEq, Nat.reduceGT, reduceCtorEq]
    repeat' (first
      | (refine callI_pure fx ?_; simp -implicitDefEqProofs only [List.replicate, List.flatten_cons, List.flatten_nil, List.singleton_append, go_sem, ↓reduceIte, Nat.reduceEqDiff, Nat.reduceAdd, Nat.reduceMul, Nat.reduceLeDiff, Nat.reduceSub, Nat.reduceLT, Int.reduceAdd, Int.reduceLE, Int.reduceLT, Int.reduceToNat, Int.reduceNeg, Int.reduceNegSucc, Int.reduceEq, Int.reduceNe, Int.reduceGT, Int.reduceGE, Int.reduceSub, Int.reduceMul, Int.reduceBEq, Int.reduceBNe, Nat.reduceBEq, Nat.reduceGT, reduceCtorEq])
      | (refine callI_pure k9 ?_; simp -implicitDefEqProofs only [go_sem, ↓reduceIte, Nat.reduceEqDiff, Nat.reduceAdd, Nat.reduceMul, Nat.reduceLeDiff, Nat.reduceSub, Nat.reduceLT, Int.reduceAdd, Int.reduceLE, Int.reduceLT, Int.reduceToNat, Int.reduceNeg, Int.reduceNegSucc, Int.reduceEq, Int.reduceNe, Int.reduceGT, Int.reduceGE, Int.reduceSub, Int.reduceMul, Int.reduceBEq, Int.reduceBNe, Nat.reduceBEq, Nat.reduceGT, reduceCtorEq]))
  · rw [hs] at k9
    obtain ⟨_, hsm⟩ := smallC_ok 100 _ _ hs
    obtain ⟨q1, _, _⟩ := hsm c (by simp)
    obtain ⟨q2, _, _⟩ := hsm ⟨[⟨0, [x]⟩], []⟩ (by simp)
    simp only [List.length_cons, List.length_nil, sizN, sizL] at q2
    have z1 : sizP c.parts ≤ 100000 := by rw [sizP_eq]; omega
    have z2 : sizP (c.parts ++ [⟨1, [x]⟩]) ≤ 100000 := by rw [sizP_app, sizP_eq c.parts]; simp only [sizP, sizL]; omega
    have k1 := w11 c z1
    have k2 := w11 ⟨c.parts ++ [⟨1, [x]⟩], c.pseudo⟩ z2
    have k3 := w11 ⟨c.parts, []⟩ z1
    have k4 := w11 ⟨c.parts, [97, 102, 116, 101, 114]⟩ z1
    have hl : ltW (ofC ⟨c.parts ++ [⟨1, [x]⟩], c.pseudo⟩) (ofC c) = false := by
      have d1 := cntL_bd 3 3 [x]
      have d2 := cntL_bd 4 10 [x]
      have d3 := cntL_bd 2 2 [x]
      cases h : ltW (ofC ⟨c.parts ++ [⟨1, [x]⟩], c.pseudo⟩) (ofC c)
      · rfl
      · rw [ltW_iff] at h
        simp only [ofC, cntP_app, cntP] at h
        omega
    have e1 : ((ofC ⟨c.parts, []⟩).a = (ofC ⟨c.parts, [97, 102, 116, 101, 114]⟩).a) = True := eq_true rfl
    have e2 : ((ofC ⟨c.parts, []⟩).b = (ofC ⟨c.parts, [97, 102, 116, 101, 114]⟩).b) = True := eq_true rfl
    have bd := cntP_bd 2 2 c.parts
    have e3 : (IntKind.i64.wrap ((ofC ⟨c.parts, []⟩).c + 1) = (ofC ⟨c.parts, [97, 102, 116, 101, 114]⟩).c) = True := by
      simp only [ofC]
      rw [wrap64 (by simp; omega) (by simp; omega)]
      simp
    have hv := v13 (ofC ⟨c.parts ++ [⟨1, [x]⟩], c.pseudo⟩) (ofC c)
    rw [hl] at hv
    have n1 : (c.parts.length = 0 ∨ ¬ c.parts.length = 0) := by omega
    have ca : (cellsL c.parts).length = c.parts.length * 2 := Part.clen c.parts
    simp -implicitDefEqProofs only [cellsL, cellsL_append, List.length_append, List.length_cons, List.length_nil, go_sem, ↓reduceIte, Nat.reduceEqDiff, Nat.reduceAdd, Nat.reduceMul, Nat.reduceLeDiff, Nat.reduceSub, Nat.reduceLT, Int.reduceAdd, Int.reduceLE, Int.reduceLT, Int.reduceToNat, Int.reduceNeg, Int.reduceNegSucc, Int.reduceEq, Int.reduceNe, Int.reduceGT, Int.reduceGE, Int.reduceSub, Int.reduceMul, Int.reduceBEq, Int.reduceBNe, Nat.reduceBEq, Nat.reduceGT, reduceCtorEq] at k1 k2 k3 k4 hv
    have hb1 : (c.parts.length * 32 ≤ 140737488355328) = True := eq_true (by rw [sizP_eq] at z1; omega)
    have hb2 : ((c.parts.length + 1) * 32 ≤ 140737488355328) = True := eq_true (by rw [sizP_eq] at z1; omega)
    have ta : List.take (c.parts.length * 2) (cellsL c.parts) = cellsL c.parts := List.take_of_length_le (by omega)
    have mx1 : (if 1 ≤ c.parts.length * 2 then c.parts.length * 2 else 1) = max 1 (c.parts.length * 2) := by rw [Nat.max_def]
    have hlen : ∀ u v : AV, ((c.parts.length + 1) * 2 ≤ (cellsL c.parts ++ [u, v]).length) = True := fun u v => eq_true (by rw [List.length_append, ca]; simp; omega)
    have htk : ∀ u v : AV, List.take ((c.parts.length + 1) * 2) (cellsL c.parts ++ [u, v]) = cellsL c.parts ++ [u, v] := fun u v => List.take_of_length_le (by rw [List.length_append, ca]; simp; omega)
    rcases Nat.eq_zero_or_pos c.parts.length with hz | hz
    · obtain ⟨ps, psd⟩ := c
      simp only at *
      obtain rfl := List.eq_nil_of_length_eq_zero hz
      simp -implicitDefEqProofs only [cellsL, List.nil_append, List.length_nil, go_sem, ↓reduceIte, Nat.reduceEqDiff, Nat.reduceAdd, Nat.reduceMul, Nat.reduceLeDiff, Nat.reduceSub, Nat.reduceLT, Int.reduceAdd, Int.reduceLE, Int.reduceLT, Int.reduceToNat, Int.reduceNeg, Int.reduceNegSucc, Int.reduceEq, Int.reduceNe, Int.reduceGT, Int.reduceGE, Int.reduceSub, Int.reduceMul, Int.reduceBEq, Int.reduceBNe, Nat.reduceBEq, Nat.reduceGT, reduceCtorEq] at k1 k2 k3 k4 k9 hv
      simp -implicitDefEqProofs only [F7, cellsL, List.length_nil, List.replicate, List.flatten_cons, List.flatten_nil, List.singleton_append, go_sem, ↓reduceIte, Nat.reduceEqDiff, Nat.reduceAdd, Nat.reduceMul, Nat.reduceLeDiff, Nat.reduceSub, Nat.reduceLT, Int.reduceAdd, Int.reduceLE, Int.reduceLT, Int.reduceToNat, Int.reduceNeg, Int.reduceNegSucc, Int.reduceEq, Int.reduceNe, Int.reduceGT, Int.reduceGE, Int.reduceSub, Int.reduceMul, Int.reduceBEq, Int.reduceBNe, Nat.reduceBEq, Nat.reduceGT, reduceCtorEq]
      repeat' (first
        | (refine callI_pure fx ?_; simp -implicitDefEqProofs only [cellsL, List.length_nil, List.replicate, List.flatten_cons, List.flatten_nil, List.singleton_append, go_sem, ↓reduceIte, Nat.reduceEqDiff, Nat.reduceAdd, Nat.reduceMul, Nat.reduceLeDiff, Nat.reduceSub, Nat.reduceLT, Int.reduceAdd, Int.reduceLE, Int.reduceLT, Int.reduceToNat, Int.reduceNeg, Int.reduceNegSucc, Int.reduceEq, Int.reduceNe, Int.reduceGT, Int.reduceGE, Int.reduceSub, Int.reduceMul, Int.reduceBEq, Int.reduceBNe, Nat.reduceBEq, Nat.reduceGT, reduceCtorEq])
        | (refine callI_pure k9 ?_; simp -implicitDefEqProofs only [cellsL, List.length_nil, go_sem, ↓reduceIte, Nat.reduceEqDiff, Nat.reduceAdd, Nat.reduceMul, Nat.reduceLeDiff, Nat.reduceSub, Nat.reduceLT, Int.reduceAdd, Int.reduceLE, Int.reduceLT, Int.reduceToNat, Int.reduceNeg, Int.reduceNegSucc, Int.reduceEq, Int.reduceNe, Int.reduceGT, Int.reduceGE, Int.reduceSub, Int.reduceMul, Int.reduceBEq, Int.reduceBNe, Nat.reduceBEq, Nat.reduceGT, reduceCtorEq])
        | (refine callI_pure k1 ?_; simp -implicitDefEqProofs only [cellsL, List.length_nil, List.replicate, List.flatten_cons, List.flatten_nil, List.singleton_append, go_sem, ↓reduceIte, Nat.reduceEqDiff, Nat.reduceAdd, Nat.reduceMul, Nat.reduceLeDiff, Nat.reduceSub, Nat.reduceLT, Int.reduceAdd, Int.reduceLE, Int.reduceLT, Int.reduceToNat, Int.reduceNeg, Int.reduceNegSucc, Int.reduceEq, Int.reduceNe, Int.reduceGT, Int.reduceGE, Int.reduceSub, Int.reduceMul, Int.reduceBEq, Int.reduceBNe, Nat.reduceBEq, Nat.reduceGT, reduceCtorEq])
        | (refine dcallI_pure k1 ?_; simp -implicitDefEqProofs only [e1, e2, e3, go_sem, ↓reduceIte, Nat.reduceEqDiff, Nat.reduceAdd, Nat.reduceMul, Nat.reduceLeDiff, Nat.reduceSub, Nat.reduceLT, Int.reduceAdd, Int.reduceLE, Int.reduceLT, Int.reduceToNat, Int.reduceNeg, Int.reduceNegSucc, Int.reduceEq, Int.reduceNe, Int.reduceGT, Int.reduceGE, Int.reduceSub, Int.reduceMul, Int.reduceBEq, Int.reduceBNe, Nat.reduceBEq, Nat.reduceGT, reduceCtorEq])
        | (refine dcallI_pure k2 ?_; simp -implicitDefEqProofs only [e1, e2, e3, go_sem, ↓reduceIte, Nat.reduceEqDiff, Nat.reduceAdd, Nat.reduceMul, Nat.reduceLeDiff, Nat.reduceSub, Nat.reduceLT, Int.reduceAdd, Int.reduceLE, Int.reduceLT, Int.reduceToNat, Int.reduceNeg, Int.reduceNegSucc, Int.reduceEq, Int.reduceNe, Int.reduceGT, Int.reduceGE, Int.reduceSub, Int.reduceMul, Int.reduceBEq, Int.reduceBNe, Nat.reduceBEq, Nat.reduceGT, reduceCtorEq])
        | (refine dcallI_pure k3 ?_; simp -implicitDefEqProofs only [e1, e2, e3, go_sem, ↓reduceIte, Nat.reduceEqDiff, Nat.reduceAdd, Nat.reduceMul, Nat.reduceLeDiff, Nat.reduceSub, Nat.reduceLT, Int.reduceAdd, Int.reduceLE, Int.reduceLT, Int.reduceToNat, Int.reduceNeg, Int.reduceNegSucc, Int.reduceEq, Int.reduceNe, Int.reduceGT, Int.reduceGE, Int.reduceSub, Int.reduceMul, Int.reduceBEq, Int.reduceBNe, Nat.reduceBEq, Nat.reduceGT, reduceCtorEq])
        | (refine dcallI_pure k4 ?_; simp -implicitDefEqProofs only [e1, e2, e3, go_sem, ↓reduceIte, Nat.reduceEqDiff, Nat.reduceAdd, Nat.reduceMul, Nat.reduceLeDiff, Nat.reduceSub, Nat.reduceLT, Int.reduceAdd, Int.reduceLE, Int.reduceLT, Int.reduceToNat, Int.reduceNeg, Int.reduceNegSucc, Int.reduceEq, Int.reduceNe, Int.reduceGT, Int.reduceGE, Int.reduceSub, Int.reduceMul, Int.reduceBEq, Int.reduceBNe, Nat.reduceBEq, Nat.reduceGT, reduceCtorEq])
        | (refine dcallI_pure hv ?_; simp -implicitDefEqProofs only [e1, e2, e3, go_sem, ↓reduceIte, Nat.reduceEqDiff, Nat.reduceAdd, Nat.reduceMul, Nat.reduceLeDiff, Nat.reduceSub, Nat.reduceLT, Int.reduceAdd, Int.reduceLE, Int.reduceLT, Int.reduceToNat, Int.reduceNeg, Int.reduceNegSucc, Int.reduceEq, Int.reduceNe, Int.reduceGT, Int.reduceGE, Int.reduceSub, Int.reduceMul, Int.reduceBEq, Int.reduceBNe, Nat.reduceBEq, Nat.reduceGT, reduceCtorEq])
        | (refine andI_intro (by (first | omega | (simp [indepB, indep1, apart1, Nat.testBit_eq_decide_div_mod_eq]; done) | (simp [indepB, indep1, apart1, Nat.testBit_eq_decide_div_mod_eq]; omega) | kernel_rfl)) ?_; simp -implicitDefEqProofs only [e1, e2, e3, go_sem, ↓reduceIte, Nat.reduceEqDiff, Nat.reduceAdd, Nat.reduceMul, Nat.reduceLeDiff, Nat.reduceSub, Nat.reduceLT, Int.reduceAdd, Int.reduceLE, Int.reduceLT, Int.reduceToNat, Int.reduceNeg, Int.reduceNegSucc, Int.reduceEq, Int.reduceNe, Int.reduceGT, Int.reduceGE, Int.reduceSub, Int.reduceMul, Int.reduceBEq, Int.reduceBNe, Nat.reduceBEq, Nat.reduceGT, reduceCtorEq]))
      rw [AV.bool.injEq, beq_iff_eq]; exact of_eq_true e3
    · have nz : (c.parts.length = 0) = False := eq_false (by omega)
      have nz2 : (0 = c.parts.length) = False := eq_false (by omega)
      simp -implicitDefEqProofs only [F7, List.replicate, List.flatten_cons, List.flatten_nil, List.singleton_append, go_sem, ↓reduceIte, Nat.reduceEqDiff, Nat.reduceAdd, Nat.reduceMul, Nat.reduceLeDiff, Nat.reduceSub, Nat.reduceLT, Int.reduceAdd, Int.reduceLE, Int.reduceLT, Int.reduceToNat, Int.reduceNeg, Int.reduceNegSucc, Int.reduceEq, Int.reduceNe, Int.reduceGT, Int.reduceGE, Int.reduceSub, Int.reduceMul, Int.reduceBEq, Int.reduceBNe, Nat.reduceBEq, Nat.reduceGT, reduceCtorEq]
      repeat' (first
        | (refine callI_pure fx ?_; simp -implicitDefEqProofs only [List.replicate, List.flatten_cons, List.flatten_nil, List.singleton_append, go_sem, ↓reduceIte, Nat.reduceEqDiff, Nat.reduceAdd, Nat.reduceMul, Nat.reduceLeDiff, Nat.reduceSub, Nat.reduceLT, Int.reduceAdd, Int.reduceLE, Int.reduceLT, Int.reduceToNat, Int.reduceNeg, Int.reduceNegSucc, Int.reduceEq, Int.reduceNe, Int.reduceGT, Int.reduceGE, Int.reduceSub, Int.reduceMul, Int.reduceBEq, Int.reduceBNe, Nat.reduceBEq, Nat.reduceGT, reduceCtorEq])
        | (refine callI_pure k9 ?_; simp -implicitDefEqProofs only [go_sem, ↓reduceIte, Nat.reduceEqDiff, Nat.reduceAdd, Nat.reduceMul, Nat.reduceLeDiff, Nat.reduceSub, Nat.reduceLT, Int.reduceAdd, Int.reduceLE, Int.reduceLT, Int.reduceToNat, Int.reduceNeg, Int.reduceNegSucc, Int.reduceEq, Int.reduceNe, Int.reduceGT, Int.reduceGE, Int.reduceSub, Int.reduceMul, Int.reduceBEq, Int.reduceBNe, Nat.reduceBEq, Nat.reduceGT, reduceCtorEq])
        | (refine callI_pure k1 ?_; simp -implicitDefEqProofs only [List.replicate, List.flatten_cons, List.flatten_nil, List.singleton_append, nz, hb1, hb2, ca, ta, go_sem, ↓reduceIte, Nat.reduceEqDiff, Nat.reduceAdd, Nat.reduceMul, Nat.reduceLeDiff, Nat.reduceSub, Nat.reduceLT, Int.reduceAdd, Int.reduceLE, Int.reduceLT, Int.reduceToNat, Int.reduceNeg, Int.reduceNegSucc, Int.reduceEq, Int.reduceNe, Int.reduceGT, Int.reduceGE, Int.reduceSub, Int.reduceMul, Int.reduceBEq, Int.reduceBNe, Nat.reduceBEq, Nat.reduceGT, reduceCtorEq])
        | (refine dcallI_pure k1 ?_; simp -implicitDefEqProofs only [e1, e2, e3, go_sem, ↓reduceIte, Nat.reduceEqDiff, Nat.reduceAdd, Nat.reduceMul, Nat.reduceLeDiff, Nat.reduceSub, Nat.reduceLT, Int.reduceAdd, Int.reduceLE, Int.reduceLT, Int.reduceToNat, Int.reduceNeg, Int.reduceNegSucc, Int.reduceEq, Int.reduceNe, Int.reduceGT, Int.reduceGE, Int.reduceSub, Int.reduceMul, Int.reduceBEq, Int.reduceBNe, Nat.reduceBEq, Nat.reduceGT, reduceCtorEq])
        | (refine dcallI_pure k2 ?_; simp -implicitDefEqProofs only [e1, e2, e3, go_sem, ↓reduceIte, Nat.reduceEqDiff, Nat.reduceAdd, Nat.reduceMul, Nat.reduceLeDiff, Nat.reduceSub, Nat.reduceLT, Int.reduceAdd, Int.reduceLE, Int.reduceLT, Int.reduceToNat, Int.reduceNeg, Int.reduceNegSucc, Int.reduceEq, Int.reduceNe, Int.reduceGT, Int.reduceGE, Int.reduceSub, Int.reduceMul, Int.reduceBEq, Int.reduceBNe, Nat.reduceBEq, Nat.reduceGT, reduceCtorEq])
        | (refine dcallI_pure k3 ?_; simp -implicitDefEqProofs only [e1, e2, e3, go_sem, ↓reduceIte, Nat.reduceEqDiff, Nat.reduceAdd, Nat.reduceMul, Nat.reduceLeDiff, Nat.reduceSub, Nat.reduceLT, Int.reduceAdd, Int.reduceLE, Int.reduceLT, Int.reduceToNat, Int.reduceNeg, Int.reduceNegSucc, Int.reduceEq, Int.reduceNe, Int.reduceGT, Int.reduceGE, Int.reduceSub, Int.reduceMul, Int.reduceBEq, Int.reduceBNe, Nat.reduceBEq, Nat.reduceGT, reduceCtorEq])
        | (refine dcallI_pure k4 ?_; simp -implicitDefEqProofs only [e1, e2, e3, go_sem, ↓reduceIte, Nat.reduceEqDiff, Nat.reduceAdd, Nat.reduceMul, Nat.reduceLeDiff, Nat.reduceSub, Nat.reduceLT, Int.reduceAdd, Int.reduceLE, Int.reduceLT, Int.reduceToNat, Int.reduceNeg, Int.reduceNegSucc, Int.reduceEq, Int.reduceNe, Int.reduceGT, Int.reduceGE, Int.reduceSub, Int.reduceMul, Int.reduceBEq, Int.reduceBNe, Nat.reduceBEq, Nat.reduceGT, reduceCtorEq])
        | (refine dcallI_pure hv ?_; simp -implicitDefEqProofs only [e1, e2, e3, go_sem, ↓reduceIte, Nat.reduceEqDiff, Nat.reduceAdd, Nat.reduceMul, Nat.reduceLeDiff, Nat.reduceSub, Nat.reduceLT, Int.reduceAdd, Int.reduceLE, Int.reduceLT, Int.reduceToNat, Int.reduceNeg, Int.reduceNegSucc, Int.reduceEq, Int.reduceNe, Int.reduceGT, Int.reduceGE, Int.reduceSub, Int.reduceMul, Int.reduceBEq, Int.reduceBNe, Nat.reduceBEq, Nat.reduceGT, reduceCtorEq])
        | (refine andI_intro (by (first | omega | (simp [indepB, indep1, apart1, Nat.testBit_eq_decide_div_mod_eq]; done) | (simp [indepB, indep1, apart1, Nat.testBit_eq_decide_div_mod_eq]; omega) | kernel_rfl)) ?_; simp -implicitDefEqProofs only [nz, hb1, hb2, ca, ta, hlen, htk, e1, e2, e3, go_sem, ↓reduceIte, Nat.reduceEqDiff, Nat.reduceAdd, Nat.reduceMul, Nat.reduceLeDiff, Nat.reduceSub, Nat.reduceLT, Int.reduceAdd, Int.reduceLE, Int.reduceLT, Int.reduceToNat, Int.reduceNeg, Int.reduceNegSucc, Int.reduceEq, Int.reduceNe, Int.reduceGT, Int.reduceGE, Int.reduceSub, Int.reduceMul, Int.reduceBEq, Int.reduceBNe, Nat.reduceBEq, Nat.reduceGT, reduceCtorEq]))
      rw [AV.bool.injEq, beq_iff_eq]; exact of_eq_true e3
end W06
/- WeightTells. -/
set_option linter.unusedSimpArgs false
set_option linter.unusedVariables false
namespace W06
open Go Go.AX Go.AX.Ty Go.Proofs

theorem v17 (a b i : Int) : PureF Try.prog 17 [Enc.av a, Enc.av b, Enc.av i] (Enc.av (nthB a b i)) := ⟨w17 a b i, rfl, rfl⟩

theorem w3 (l : List Complex) (x : List W3) (n : W3) (hl : Enc.ok l) (hx : Enc.ok x) (hn : Enc.ok n) : PureF Try.prog 3 [Enc.av l, Enc.av x, Enc.av n] (.bool true) := by
  refine pureF_W mix c3 (by kernel_rfl) (by kernel_rfl) (by simp [flats, flat_av]) (by first | exact flat_av _ | simp [flat, flats, flat_av]) ?_
  have k9 := w9 200 (by omega) l hl
  by_cases hs : smallC 200 l l.length = true ∧ x.length ≤ 20
  case neg =>
    simp -implicitDefEqProofs only [F3, go_sem, ↓reduceIte, Nat.reduceEqDiff, Nat.reduceAdd, Nat.reduceMul, Nat.reduceLeDiff, Nat.reduceSub, Nat.reduceLT, Int.reduceAdd, Int.reduceLE, Int.reduceLT, Int.reduceToNat, Int.reduceNeg, Int.reduceNegSucc, Int.reduceEq, Int.reduceNe, Int.reduceGT, Int.reduceGE, Int.reduceSub, Int.reduceMul, Int.reduceBEq, Int.reduceBNe, Nat.reduceBEq, Nat.reduceGT, reduceCtorEq]
    refine callI_pure k9 ?_
    simp -implicitDefEqProofs only [go_sem, ↓reduceIte, Nat.reduceEqDiff, Nat.reduceAdd, Nat.reduceMul, Nat.reduceLeDiff, Nat.reduceSub, Nat.reduceLT, Int.reduceAdd, Int.reduceLE, Int.reduceLT, Int.reduceToNat, Int.reduceNeg, Int.reduceNegSucc, Int.reduceEq, Int.reduceNe, Int.reduceGT, Int.reduceGE, Int.reduceSub, Int.reduceMul, Int.reduceBEq, Int.reduceBNe, Nat.reduceBEq, Nat.reduceGT, reduceCtorEq]
    repeat' (first
      | contradiction
      | (refine brI_both (fun h hT => ?_) (fun h hT => ?_) <;> try simp -implicitDefEqProofs only [hT, go_sem, ↓reduceIte, Nat.reduceEqDiff, Nat.reduceAdd, Nat.reduceMul, Nat.reduceLeDiff, Nat.reduceSub, Nat.reduceLT, Int.reduceAdd, Int.reduceLE, Int.reduceLT, Int.reduceToNat, Int.reduceNeg, Int.reduceNegSucc, Int.reduceEq, Int.reduceNe, Int.reduceGT, Int.reduceGE, Int.reduceSub, Int.reduceMul, Int.reduceBEq, Int.reduceBNe, Nat.reduceBEq, Nat.reduceGT, reduceCtorEq] <;> try clear hT)
      | (refine callI_pure fx ?_; simp -implicitDefEqProofs only [go_sem, ↓reduceIte, Nat.reduceEqDiff, Nat.reduceAdd, Nat.reduceMul, Nat.reduceLeDiff, Nat.reduceSub, Nat.reduceLT, Int.reduceAdd, Int.reduceLE, Int.reduceLT, Int.reduceToNat, Int.reduceNeg, Int.reduceNegSucc, Int.reduceEq, Int.reduceNe, Int.reduceGT, Int.reduceGE, Int.reduceSub, Int.reduceMul, Int.reduceBEq, Int.reduceBNe, Nat.reduceBEq, Nat.reduceGT, reduceCtorEq]))
    all_goals exact (hs ⟨by assumption, by omega⟩).elim
  case pos =>
    obtain ⟨s1, s2⟩ := hs
    obtain ⟨s3, hsm⟩ := smallC_ok 200 _ _ s1
    rw [s1] at k9
    have n1 : ((x.length : Int) > 20) = False := eq_false (by omega)
    simp -implicitDefEqProofs only [F3, n1, go_sem, ↓reduceIte, Nat.reduceEqDiff, Nat.reduceAdd, Nat.reduceMul, Nat.reduceLeDiff, Nat.reduceSub, Nat.reduceLT, Int.reduceAdd, Int.reduceLE, Int.reduceLT, Int.reduceToNat, Int.reduceNeg, Int.reduceNegSucc, Int.reduceEq, Int.reduceNe, Int.reduceGT, Int.reduceGE, Int.reduceSub, Int.reduceMul, Int.reduceBEq, Int.reduceBNe, Nat.reduceBEq, Nat.reduceGT, reduceCtorEq]
    refine callI_pure k9 ?_
    simp -implicitDefEqProofs only [n1, go_sem, ↓reduceIte, Nat.reduceEqDiff, Nat.reduceAdd, Nat.reduceMul, Nat.reduceLeDiff, Nat.reduceSub, Nat.reduceLT, Int.reduceAdd, Int.reduceLE, Int.reduceLT, Int.reduceToNat, Int.reduceNeg, Int.reduceNegSucc, Int.reduceEq, Int.reduceNe, Int.reduceGT, Int.reduceGE, Int.reduceSub, Int.reduceMul, Int.reduceBEq, Int.reduceBNe, Nat.reduceBEq, Nat.reduceGT, reduceCtorEq]
    refine LoopI_sl (fun k : Nat => l.length - k) (fun k => [(0, Enc.av l), (1, Enc.av x), (5, .ptr 0 0 0), (7, .int .i64 k)])
      (fun k s => k ≤ l.length ∧ s = ⟨[(0, .cells 0 (Enc.cells n) false)], 1⟩) 0 ?_ ?_
    · simp -implicitDefEqProofs only [go_sem, ↓reduceIte, Nat.reduceEqDiff, Nat.reduceAdd, Nat.reduceMul, Nat.reduceLeDiff, Nat.reduceSub, Nat.reduceLT, Int.reduceAdd, Int.reduceLE, Int.reduceLT, Int.reduceToNat, Int.reduceNeg, Int.reduceNegSucc, Int.reduceEq, Int.reduceNe, Int.reduceGT, Int.reduceGE, Int.reduceSub, Int.reduceMul, Int.reduceBEq, Int.reduceBNe, Nat.reduceBEq, Nat.reduceGT, reduceCtorEq]
    rintro k ρ s ⟨h1, rfl⟩
    rcases Nat.lt_or_ge k l.length with hk | hk
    · obtain ⟨y, hy, hd, hm⟩ := get_drop hk
      obtain ⟨q1, _, _⟩ := hsm y hm
      have z1 : sizP y.parts ≤ 100000 := by rw [sizP_eq]; omega
      have hlt : ((k : Int) < (l.length : Int)) = True := eq_true (by omega)
      have w1 : IntKind.i64.wrap ((k : Int) + 1) = ((k + 1 : Nat) : Int) := by rw [wrap64 (by omega) (by omega)]; omega
      simp -implicitDefEqProofs only [hlt, hy, w1, go_sem, ↓reduceIte, Nat.reduceEqDiff, Nat.reduceAdd, Nat.reduceMul, Nat.reduceLeDiff, Nat.reduceSub, Nat.reduceLT, Int.reduceAdd, Int.reduceLE, Int.reduceLT, Int.reduceToNat, Int.reduceNeg, Int.reduceNegSucc, Int.reduceEq, Int.reduceNe, Int.reduceGT, Int.reduceGE, Int.reduceSub, Int.reduceMul, Int.reduceBEq, Int.reduceBNe, Nat.reduceBEq, Nat.reduceGT, reduceCtorEq]
      repeat' (first
        | (refine dcallI_pure (w11 y z1) ?_; simp -implicitDefEqProofs only [w1, hy, go_sem, ↓reduceIte, Nat.reduceEqDiff, Nat.reduceAdd, Nat.reduceMul, Nat.reduceLeDiff, Nat.reduceSub, Nat.reduceLT, Int.reduceAdd, Int.reduceLE, Int.reduceLT, Int.reduceToNat, Int.reduceNeg, Int.reduceNegSucc, Int.reduceEq, Int.reduceNe, Int.reduceGT, Int.reduceGE, Int.reduceSub, Int.reduceMul, Int.reduceBEq, Int.reduceBNe, Nat.reduceBEq, Nat.reduceGT, reduceCtorEq])
        | (refine dcallI_pure (w12 y z1) ?_; simp -implicitDefEqProofs only [w1, hy, go_sem, ↓reduceIte, Nat.reduceEqDiff, Nat.reduceAdd, Nat.reduceMul, Nat.reduceLeDiff, Nat.reduceSub, Nat.reduceLT, Int.reduceAdd, Int.reduceLE, Int.reduceLT, Int.reduceToNat, Int.reduceNeg, Int.reduceNegSucc, Int.reduceEq, Int.reduceNe, Int.reduceGT, Int.reduceGE, Int.reduceSub, Int.reduceMul, Int.reduceBEq, Int.reduceBNe, Nat.reduceBEq, Nat.reduceGT, reduceCtorEq])
        | (refine andI_intro (by (first | omega | (simp [indepB, indep1, apart1, Nat.testBit_eq_decide_div_mod_eq]; done) | (simp [indepB, indep1, apart1, Nat.testBit_eq_decide_div_mod_eq]; omega) | kernel_rfl)) ?_; simp -implicitDefEqProofs only [w1, hy, go_sem, ↓reduceIte, Nat.reduceEqDiff, Nat.reduceAdd, Nat.reduceMul, Nat.reduceLeDiff, Nat.reduceSub, Nat.reduceLT, Int.reduceAdd, Int.reduceLE, Int.reduceLT, Int.reduceToNat, Int.reduceNeg, Int.reduceNegSucc, Int.reduceEq, Int.reduceNe, Int.reduceGT, Int.reduceGE, Int.reduceSub, Int.reduceMul, Int.reduceBEq, Int.reduceBNe, Nat.reduceBEq, Nat.reduceGT, reduceCtorEq]))
      exact ⟨k + 1, by omega, rfl, by omega⟩
    have hk' : k = l.length := by omega
    subst hk'
    have hlt : ((l.length : Int) < (l.length : Int)) = False := eq_false (by omega)
    simp -implicitDefEqProofs only [hlt, List.replicate, List.flatten_nil, go_sem, ↓reduceIte, Nat.reduceEqDiff, Nat.reduceAdd, Nat.reduceMul, Nat.reduceLeDiff, Nat.reduceSub, Nat.reduceLT, Int.reduceAdd, Int.reduceLE, Int.reduceLT, Int.reduceToNat, Int.reduceNeg, Int.reduceNegSucc, Int.reduceEq, Int.reduceNe, Int.reduceGT, Int.reduceGE, Int.reduceSub, Int.reduceMul, Int.reduceBEq, Int.reduceBNe, Nat.reduceBEq, Nat.reduceGT, reduceCtorEq]
    refine LoopI_sl (fun k : Nat => x.length - k) (fun k => [(0, Enc.av l), (1, Enc.av x), (5, .ptr 0 0 0), (8, .sl 1 (k * 3) 0 k 3), (9, .int .i64 k)])
      (fun k s => k ≤ x.length ∧ 2 ≤ s.next ∧ AX.look 0 s.heap = some (.cells 0 (Enc.cells n) false) ∧ AX.look 1 s.heap = some (.cells (k * 3) (cellsL (x.take k)) false)) 0 ?_ ?_
    · simp -implicitDefEqProofs only [List.take_zero, cellsL, go_sem, ↓reduceIte, Nat.reduceEqDiff, Nat.reduceAdd, Nat.reduceMul, Nat.reduceLeDiff, Nat.reduceSub, Nat.reduceLT, Int.reduceAdd, Int.reduceLE, Int.reduceLT, Int.reduceToNat, Int.reduceNeg, Int.reduceNegSucc, Int.reduceEq, Int.reduceNe, Int.reduceGT, Int.reduceGE, Int.reduceSub, Int.reduceMul, Int.reduceBEq, Int.reduceBNe, Nat.reduceBEq, Nat.reduceGT, reduceCtorEq]
    rintro k ρ ⟨h, m⟩ ⟨h1, h2, h3, h4⟩
    dsimp only at h2 h3 h4
    simp only [W3.ecells] at h3
    have hc : (cellsL (x.take k)).length = k * 3 := by rw [W3.clen, take_len h1]
    have ht : List.take (k * 3) (cellsL (x.take k)) = cellsL (x.take k) := List.take_of_length_le (by omega)
    have m0 : (m = 0) = False := eq_false (by omega)
    have m1 : (m = 1) = False := eq_false (by omega)
    rcases Nat.lt_or_ge k x.length with hk | hk
    · obtain ⟨y, hy, hd, hm⟩ := get_drop hk
      obtain ⟨y0, hy0⟩ : ∃ y0, x[0]? = some y0 := ⟨x[0]'(by omega), by simp⟩
      have hlt : ((k : Int) < (x.length : Int)) = True := eq_true (by omega)
      have w1 : IntKind.i64.wrap ((k : Int) + 1) = ((k + 1 : Nat) : Int) := by rw [wrap64 (by omega) (by omega)]; omega
      have hbd : ((k + 1) * 24 ≤ 140737488355328) = True := eq_true (by omega)
      have hmx : (k * 3 ≤ k * 3 + 2) = True := eq_true (by omega)
      have hm3 : (k + 1) * 3 = k * 3 + 3 := by omega
      have hsn : cellsL (x.take (k + 1)) = cellsL (x.take k) ++ [.int .i64 y.a, .int .i64 y.b, .int .i64 y.c] := by rw [take_snoc hy, cellsL_append]; rfl
      have hln : (cellsL (x.take (k + 1))).length = k * 3 + 3 := by rw [W3.clen, take_len (show k + 1 ≤ x.length by omega), hm3]
      have hg : ∀ j z, x[j]? = some z → j < k + 1 → List.drop (j * 3) (cellsL (x.take (k + 1))) = .int .i64 z.a :: .int .i64 z.b :: .int .i64 z.c :: cellsL ((x.take (k + 1)).drop (j + 1)) := fun j z hz hj => by
        have h5 : (x.take (k + 1))[j]? = some z := by rw [List.getElem?_take_of_lt hj]; exact hz
        have h6 := cellsL_drop (x.take (k + 1)) j
        obtain ⟨z', hz', hd', _⟩ := get_drop (l := x.take (k + 1)) (k := j) (by rw [take_len (by omega)]; exact hj)
        rw [h5] at hz'
        cases hz'
        rw [hd'] at h6
        exact h6
      have g1 := hg k y hy (by omega)
      have g0 := hg 0 y0 hy0 (by omega)
      rw [Nat.zero_mul, List.drop_zero] at g0
      have g0t : List.take 3 (cellsL (x.take (k + 1))) = [.int .i64 y0.a, .int .i64 y0.b, .int .i64 y0.c] := by rw [g0]; rfl
      clear g0
      generalize hX : cellsL (x.take (k + 1)) = X at hsn hln hg g1 g0t
      have b1 : (k < k + 1) = True := eq_true (by omega)
      have b2 : (k * 3 ≤ k * 3 + 3) = True := eq_true (by omega)
      have b3 : (0 < k + 1) = True := eq_true (by omega)
      have b4 : (3 ≤ k * 3 + 3) = True := eq_true (by omega)
      have b5 : (k * 3 + 3 ≤ k * 3 + 3) = True := eq_true (by omega)
      simp -implicitDefEqProofs only [hlt, hy, hy0, w1, h3, h4, hc, ht, hbd, m0, m1, hmx, ← hsn, hln, g1, g0t, b4, b1, b2, b3, List.replicate, List.flatten_cons, List.flatten_nil, List.singleton_append, go_sem, ↓reduceIte, Nat.reduceEqDiff, Nat.reduceAdd, Nat.reduceMul, Nat.reduceLeDiff, Nat.reduceSub, Nat.reduceLT, Int.reduceAdd, Int.reduceLE, Int.reduceLT, Int.reduceToNat, Int.reduceNeg, Int.reduceNegSucc, Int.reduceEq, Int.reduceNe, Int.reduceGT, Int.reduceGE, Int.reduceSub, Int.reduceMul, Int.reduceBEq, Int.reduceBNe, Nat.reduceBEq, Nat.reduceGT, reduceCtorEq]
      repeat' (first
        | (refine dcallI_pure (v13 y y0) ?_; simp -implicitDefEqProofs only [hy, hy0, w1, h3, h4, m0, m1, hln, g1, g0t, b4, b1, b2, b3, go_sem, ↓reduceIte, Nat.reduceEqDiff, Nat.reduceAdd, Nat.reduceMul, Nat.reduceLeDiff, Nat.reduceSub, Nat.reduceLT, Int.reduceAdd, Int.reduceLE, Int.reduceLT, Int.reduceToNat, Int.reduceNeg, Int.reduceNegSucc, Int.reduceEq, Int.reduceNe, Int.reduceGT, Int.reduceGE, Int.reduceSub, Int.reduceMul, Int.reduceBEq, Int.reduceBNe, Nat.reduceBEq, Nat.reduceGT, reduceCtorEq])
        | (refine dcallI_pure (w14 y y0) ?_; simp -implicitDefEqProofs only [hy, hy0, w1, h3, h4, m0, m1, hln, g1, g0t, b4, b1, b2, b3, go_sem, ↓reduceIte, Nat.reduceEqDiff, Nat.reduceAdd, Nat.reduceMul, Nat.reduceLeDiff, Nat.reduceSub, Nat.reduceLT, Int.reduceAdd, Int.reduceLE, Int.reduceLT, Int.reduceToNat, Int.reduceNeg, Int.reduceNegSucc, Int.reduceEq, Int.reduceNe, Int.reduceGT, Int.reduceGE, Int.reduceSub, Int.reduceMul, Int.reduceBEq, Int.reduceBNe, Nat.reduceBEq, Nat.reduceGT, reduceCtorEq])
        | (refine andI_intro (by (first | omega | (simp [indepB, indep1, apart1, Nat.testBit_eq_decide_div_mod_eq]; done) | (simp [indepB, indep1, apart1, Nat.testBit_eq_decide_div_mod_eq]; omega) | kernel_rfl)) ?_; simp -implicitDefEqProofs only [hy, hy0, w1, h3, h4, m0, m1, hln, g1, g0t, b4, b1, b2, b3, go_sem, ↓reduceIte, Nat.reduceEqDiff, Nat.reduceAdd, Nat.reduceMul, Nat.reduceLeDiff, Nat.reduceSub, Nat.reduceLT, Int.reduceAdd, Int.reduceLE, Int.reduceLT, Int.reduceToNat, Int.reduceNeg, Int.reduceNegSucc, Int.reduceEq, Int.reduceNe, Int.reduceGT, Int.reduceGE, Int.reduceSub, Int.reduceMul, Int.reduceBEq, Int.reduceBNe, Nat.reduceBEq, Nat.reduceGT, reduceCtorEq]))
      refine ⟨k + 1, by omega, ?_⟩
      rw [hm3, hX]
      exact ⟨⟨rfl, rfl⟩, by omega, by omega, rfl⟩
    have hk' : k = x.length := by omega
    subst hk'
    rw [List.take_length] at h4 hc ht
    clear hlt
    have hlt : ((x.length : Int) < (x.length : Int)) = False := eq_false (by omega)
    have ka := w15 x (by omega)
    have kb := w16 x (by omega)
    have ex : ((maxW x).a == (maxW x).a && ((maxW x).b == (maxW x).b && (maxW x).c == (maxW x).c)) = true := eqW_refl _
    simp -implicitDefEqProofs only [hlt, go_sem, ↓reduceIte, Nat.reduceEqDiff, Nat.reduceAdd, Nat.reduceMul, Nat.reduceLeDiff, Nat.reduceSub, Nat.reduceLT, Int.reduceAdd, Int.reduceLE, Int.reduceLT, Int.reduceToNat, Int.reduceNeg, Int.reduceNegSucc, Int.reduceEq, Int.reduceNe, Int.reduceGT, Int.reduceGE, Int.reduceSub, Int.reduceMul, Int.reduceBEq, Int.reduceBNe, Nat.reduceBEq, Nat.reduceGT, reduceCtorEq]
    repeat' (first
      | (refine dcallI_pure fx ?_; simp -implicitDefEqProofs only [h3, h4, hc, ht, m0, m1, go_sem, ↓reduceIte, Nat.reduceEqDiff, Nat.reduceAdd, Nat.reduceMul, Nat.reduceLeDiff, Nat.reduceSub, Nat.reduceLT, Int.reduceAdd, Int.reduceLE, Int.reduceLT, Int.reduceToNat, Int.reduceNeg, Int.reduceNegSucc, Int.reduceEq, Int.reduceNe, Int.reduceGT, Int.reduceGE, Int.reduceSub, Int.reduceMul, Int.reduceBEq, Int.reduceBNe, Nat.reduceBEq, Nat.reduceGT, reduceCtorEq])
      | (refine dcallI_pure ka ?_; simp -implicitDefEqProofs only [h3, h4, hc, ht, m0, m1, ex, go_sem, ↓reduceIte, Nat.reduceEqDiff, Nat.reduceAdd, Nat.reduceMul, Nat.reduceLeDiff, Nat.reduceSub, Nat.reduceLT, Int.reduceAdd, Int.reduceLE, Int.reduceLT, Int.reduceToNat, Int.reduceNeg, Int.reduceNegSucc, Int.reduceEq, Int.reduceNe, Int.reduceGT, Int.reduceGE, Int.reduceSub, Int.reduceMul, Int.reduceBEq, Int.reduceBNe, Nat.reduceBEq, Nat.reduceGT, reduceCtorEq])
      | (refine dcallI_pure kb ?_; simp -implicitDefEqProofs only [h3, h4, hc, ht, m0, m1, ex, go_sem, ↓reduceIte, Nat.reduceEqDiff, Nat.reduceAdd, Nat.reduceMul, Nat.reduceLeDiff, Nat.reduceSub, Nat.reduceLT, Int.reduceAdd, Int.reduceLE, Int.reduceLT, Int.reduceToNat, Int.reduceNeg, Int.reduceNegSucc, Int.reduceEq, Int.reduceNe, Int.reduceGT, Int.reduceGE, Int.reduceSub, Int.reduceMul, Int.reduceBEq, Int.reduceBNe, Nat.reduceBEq, Nat.reduceGT, reduceCtorEq])
      | (refine dcallI_pure (v17 n.a n.b n.c) ?_; simp -implicitDefEqProofs only [h3, h4, hc, ht, m0, m1, ex, go_sem, ↓reduceIte, Nat.reduceEqDiff, Nat.reduceAdd, Nat.reduceMul, Nat.reduceLeDiff, Nat.reduceSub, Nat.reduceLT, Int.reduceAdd, Int.reduceLE, Int.reduceLT, Int.reduceToNat, Int.reduceNeg, Int.reduceNegSucc, Int.reduceEq, Int.reduceNe, Int.reduceGT, Int.reduceGE, Int.reduceSub, Int.reduceMul, Int.reduceBEq, Int.reduceBNe, Nat.reduceBEq, Nat.reduceGT, reduceCtorEq])
      | (refine dcallI_pure (w18 n.a n.b n.c hn.1 hn.2.1 hn.2.2) ?_; simp -implicitDefEqProofs only [h3, h4, hc, ht, m0, m1, ex, go_sem, ↓reduceIte, Nat.reduceEqDiff, Nat.reduceAdd, Nat.reduceMul, Nat.reduceLeDiff, Nat.reduceSub, Nat.reduceLT, Int.reduceAdd, Int.reduceLE, Int.reduceLT, Int.reduceToNat, Int.reduceNeg, Int.reduceNegSucc, Int.reduceEq, Int.reduceNe, Int.reduceGT, Int.reduceGE, Int.reduceSub, Int.reduceMul, Int.reduceBEq, Int.reduceBNe, Nat.reduceBEq, Nat.reduceGT, reduceCtorEq])
      | (refine andI_intro (by (first | omega | (simp [indepB, indep1, apart1, Nat.testBit_eq_decide_div_mod_eq]; done) | (simp [indepB, indep1, apart1, Nat.testBit_eq_decide_div_mod_eq]; omega) | kernel_rfl)) ?_; simp -implicitDefEqProofs only [h3, h4, hc, ht, m0, m1, ex, go_sem, ↓reduceIte, Nat.reduceEqDiff, Nat.reduceAdd, Nat.reduceMul, Nat.reduceLeDiff, Nat.reduceSub, Nat.reduceLT, Int.reduceAdd, Int.reduceLE, Int.reduceLT, Int.reduceToNat, Int.reduceNeg, Int.reduceNegSucc, Int.reduceEq, Int.reduceNe, Int.reduceGT, Int.reduceGE, Int.reduceSub, Int.reduceMul, Int.reduceBEq, Int.reduceBNe, Nat.reduceBEq, Nat.reduceGT, reduceCtorEq]))
end W06
/- WeightAdds. -/
set_option linter.unusedSimpArgs false
set_option linter.unusedVariables false
namespace W06
open Go Go.AX Go.AX.Ty Go.Proofs

/-- each part's simple selectors within one SimNot -/
def notP (l : List Part) : List Part := l.map fun p => ⟨0, [.mk 11 [] [] 0 0 p.l]⟩
theorem cntP_notP (a b : Int) (h : ¬ (a ≤ 11 ∧ 11 ≤ b)) : ∀ l : List Part, cntP a b (notP l) = cntP a b l
  | [] => rfl
  | p :: r => by
    show cntP a b (⟨0, [.mk 11 [] [] 0 0 p.l]⟩ :: notP r) = _
    simp only [cntP, cntP_notP a b h r, cntL, cnt]
    rw [if_neg h]; simp
theorem sizP_notP : ∀ l : List Part, sizP (notP l) = sizP l + l.length
  | [] => rfl
  | p :: r => by
    show sizP (⟨0, [.mk 11 [] [] 0 0 p.l]⟩ :: notP r) = _
    simp only [sizP, sizP_notP r, sizL, siz, List.length_cons]; omega
theorem cells_notP (p : Part) : Enc.cells (⟨0, [.mk 11 [] [] 0 0 p.l]⟩ : Part) = [.int .i64 0, .ps 1 [.int .i64 11, .str [], .str [], .int .i64 0, .int .i64 0, .ps p.l.length (cellsL p.l)]] := by
  simp only [Part.ecells, cellsL, Simple.ecells, List.length_cons, List.length_nil, List.append_nil, Simple.kind, Simple.name, Simple.value, Simple.a, Simple.b, Simple.l]

set_option maxHeartbeats 4000000 in
theorem w5 (a b : Complex) (ha : Enc.ok a) (hb : Enc.ok b) : PureF Try.prog 5 [Enc.av a, Enc.av b] (.bool true) := by
  refine pureF_W mix c5 (by kernel_rfl) (by kernel_rfl) (by simp [flats, flat_av]) (by first | exact flat_av _ | simp [flat, flats, flat_av]) ?_
  have k9 := w9 100 (by omega) [a, b] (by
    refine ⟨by simp, fun y hy => ?_⟩
    simp at hy
    rcases hy with rfl | rfl
    · exact ha
    · exact hb)
  simp -implicitDefEqProofs only [cellsL, List.length_cons, List.length_nil, go_sem, ↓reduceIte, Nat.reduceEqDiff, Nat.reduceAdd, Nat.reduceMul, Nat.reduceLeDiff, Nat.reduceSub, Nat.reduceLT, Int.reduceAdd, Int.reduceLE, Int.reduceLT, Int.reduceToNat, Int.reduceNeg, Int.reduceNegSucc, Int.reduceEq, Int.reduceNe, Int.reduceGT, Int.reduceGE, Int.reduceSub, Int.reduceMul, Int.reduceBEq, Int.reduceBNe, Nat.reduceBEq, Nat.reduceGT, reduceCtorEq] at k9
  cases hs : smallC 100 [a, b] 2
  · rw [hs] at k9
    simp -implicitDefEqProofs only [F5, List.replicate, List.flatten_cons, List.flatten_nil, List.singleton_append, go_sem, ↓reduceIte, Nat.reduceEqDiff, Nat.reduceAdd, Nat.reduceMul, Nat.reduceLeDiff, Nat.reduceSub, Nat.reduceLT, Int.reduceAdd, Int.reduceLE, Int.reduceLT, Int.reduceToNat, Int.reduceNeg, Int.reduceNegSucc, Int.reduceEq, Int.reduceNe, Int.reduceGT, Int.reduceGE, Int.reduceSub, Int.reduceMul, Int.reduceBEq, Int.reduceBNe, Nat.reduceBEq, Nat.reduceGT, reduceCtorEq]
    repeat' (first
      | (refine callI_pure fx ?_; simp -implicitDefEqProofs only [List.replicate, List.flatten_cons, List.flatten_nil, List.singleton_append, go_sem, ↓reduceIte, Nat.reduceEqDiff, Nat.reduceAdd, Nat.reduceMul, Nat.reduceLeDiff, Nat.reduceSub, Nat.reduceLT, Int.reduceAdd, Int.reduceLE, Int.reduceLT, Int.reduceToNat, Int.reduceNeg, Int.reduceNegSucc, Int.reduceEq, Int.reduceNe, Int.reduceGT, Int.reduceGE, Int.reduceSub, Int.reduceMul, Int.reduceBEq, Int.reduceBNe, Nat.reduceBEq, Nat.reduceGT, reduceCtorEq])
      | (refine callI_pure k9 ?_; simp -implicitDefEqProofs only [go_sem, ↓reduceIte, Nat.reduceEqDiff, Nat.reduceAdd, Nat.reduceMul, Nat.reduceLeDiff, Nat.reduceSub, Nat.reduceLT, Int.reduceAdd, Int.reduceLE, Int.reduceLT, Int.reduceToNat, Int.reduceNeg, Int.reduceNegSucc, Int.reduceEq, Int.reduceNe, Int.reduceGT, Int.reduceGE, Int.reduceSub, Int.reduceMul, Int.reduceBEq, Int.reduceBNe, Nat.reduceBEq, Nat.reduceGT, reduceCtorEq]))
  · rw [hs] at k9
    obtain ⟨_, hsm⟩ := smallC_ok 100 _ _ hs
    obtain ⟨q1, _, _⟩ := hsm a (by simp)
    obtain ⟨q2, _, _⟩ := hsm b (by simp)
    have y1 := sizP_eq a.parts
    have y2 := sizP_eq b.parts
    have k1 := w11 ⟨a.parts, []⟩ (by simp only; omega)
    have k2 := w11 ⟨b.parts, []⟩ (by simp only; omega)
    have k3 := w11 ⟨a.parts ++ b.parts, []⟩ (by simp only; rw [sizP_app]; omega)
    have k4 := w11 ⟨notP a.parts, a.pseudo⟩ (by simp only; rw [sizP_notP]; omega)
    have k5 := w11 a (by omega)
    have hof : ofC ⟨notP a.parts, a.pseudo⟩ = ofC a := by simp only [ofC]; rw [cntP_notP _ _ (by omega), cntP_notP _ _ (by omega), cntP_notP _ _ (by omega)]
    rw [hof] at k4
    have ex : ((ofC a).a == (ofC a).a && ((ofC a).b == (ofC a).b && (ofC a).c == (ofC a).c)) = true := eqW_refl _
    have bd1 := cntP_bd 3 3 a.parts
    have bd2 := cntP_bd 4 10 a.parts
    have bd3 := cntP_bd 2 2 a.parts
    have bd4 := cntP_bd 3 3 b.parts
    have bd5 := cntP_bd 4 10 b.parts
    have bd6 := cntP_bd 2 2 b.parts
    have e1 : IntKind.i64.wrap ((ofC ⟨a.parts, []⟩).a + (ofC ⟨b.parts, []⟩).a) = (ofC ⟨a.parts ++ b.parts, []⟩).a := by simp only [ofC, cntP_app]; exact wrap64 (by omega) (by omega)
    have e2 : IntKind.i64.wrap ((ofC ⟨a.parts, []⟩).b + (ofC ⟨b.parts, []⟩).b) = (ofC ⟨a.parts ++ b.parts, []⟩).b := by simp only [ofC, cntP_app]; exact wrap64 (by omega) (by omega)
    have e3 : IntKind.i64.wrap ((ofC ⟨a.parts, []⟩).c + (ofC ⟨b.parts, []⟩).c) = (ofC ⟨a.parts ++ b.parts, []⟩).c := by simp only [ofC, cntP_app, if_true, Int.add_zero]; exact wrap64 (by omega) (by omega)
    have ey : ((ofC ⟨a.parts ++ b.parts, []⟩).a == (ofC ⟨a.parts ++ b.parts, []⟩).a && ((ofC ⟨a.parts ++ b.parts, []⟩).b == (ofC ⟨a.parts ++ b.parts, []⟩).b && (ofC ⟨a.parts ++ b.parts, []⟩).c == (ofC ⟨a.parts ++ b.parts, []⟩).c)) = true := eqW_refl _
    have ca : (cellsL a.parts).length = a.parts.length * 2 := Part.clen a.parts
    have cb : (cellsL b.parts).length = b.parts.length * 2 := Part.clen b.parts
    have ta : List.take (a.parts.length * 2) (cellsL a.parts) = cellsL a.parts := List.take_of_length_le (by omega)
    have hb1 : (a.parts.length * 32 ≤ 140737488355328) = True := eq_true (by omega)
    have hb2 : ((a.parts.length + b.parts.length) * 32 ≤ 140737488355328) = True := eq_true (by omega)
    have hb3 : (b.parts.length * 32 ≤ 140737488355328) = True := eq_true (by omega)
    simp -implicitDefEqProofs only [cellsL, cellsL_append, List.length_append, List.length_cons, List.length_nil, go_sem, ↓reduceIte, Nat.reduceEqDiff, Nat.reduceAdd, Nat.reduceMul, Nat.reduceLeDiff, Nat.reduceSub, Nat.reduceLT, Int.reduceAdd, Int.reduceLE, Int.reduceLT, Int.reduceToNat, Int.reduceNeg, Int.reduceNegSucc, Int.reduceEq, Int.reduceNe, Int.reduceGT, Int.reduceGE, Int.reduceSub, Int.reduceMul, Int.reduceBEq, Int.reduceBNe, Nat.reduceBEq, Nat.reduceGT, reduceCtorEq] at k1 k2 k3 k4 k5
    simp -implicitDefEqProofs only [F5, List.replicate, List.flatten_cons, List.flatten_nil, List.singleton_append, go_sem, ↓reduceIte, Nat.reduceEqDiff, Nat.reduceAdd, Nat.reduceMul, Nat.reduceLeDiff, Nat.reduceSub, Nat.reduceLT, Int.reduceAdd, Int.reduceLE, Int.reduceLT, Int.reduceToNat, Int.reduceNeg, Int.reduceNegSucc, Int.reduceEq, Int.reduceNe, Int.reduceGT, Int.reduceGE, Int.reduceSub, Int.reduceMul, Int.reduceBEq, Int.reduceBNe, Nat.reduceBEq, Nat.reduceGT, reduceCtorEq]
    refine callI_pure fx ?_
    simp -implicitDefEqProofs only [List.replicate, List.flatten_cons, List.flatten_nil, List.singleton_append, go_sem, ↓reduceIte, Nat.reduceEqDiff, Nat.reduceAdd, Nat.reduceMul, Nat.reduceLeDiff, Nat.reduceSub, Nat.reduceLT, Int.reduceAdd, Int.reduceLE, Int.reduceLT, Int.reduceToNat, Int.reduceNeg, Int.reduceNegSucc, Int.reduceEq, Int.reduceNe, Int.reduceGT, Int.reduceGE, Int.reduceSub, Int.reduceMul, Int.reduceBEq, Int.reduceBNe, Nat.reduceBEq, Nat.reduceGT, reduceCtorEq]
    refine callI_pure k9 ?_
    have tb : List.take (b.parts.length * 2) (cellsL b.parts) = cellsL b.parts := List.take_of_length_le (by omega)
    have hlen : ((a.parts.length + b.parts.length) * 2 ≤ (cellsL a.parts ++ cellsL b.parts).length) = True := eq_true (by rw [List.length_append, ca, cb]; omega)
    have htk : List.take ((a.parts.length + b.parts.length) * 2) (cellsL a.parts ++ cellsL b.parts) = cellsL a.parts ++ cellsL b.parts := List.take_of_length_le (by rw [List.length_append, ca, cb]; omega)
    by_cases hz : a.parts.length = 0 <;> by_cases hy : b.parts.length = 0
    all_goals
      first
        | (have za := hz; have zc : cellsL a.parts = [] := by rw [List.eq_nil_of_length_eq_zero hz]; rfl)
        | (have za : (a.parts.length = 0) = False := eq_false hz; have zc : True := trivial)
      first
        | (have zb := hy; have zd : cellsL b.parts = [] := by rw [List.eq_nil_of_length_eq_zero hy]; rfl)
        | (have zb : (b.parts.length = 0) = False := eq_false hy; have zd : True := trivial)
      (try simp only [za, zc, zb, zd, Nat.zero_add, Nat.add_zero, List.nil_append, List.append_nil] at k1)
      (try simp only [za, zc, zb, zd, Nat.zero_add, Nat.add_zero, List.nil_append, List.append_nil] at k2)
      (try simp only [za, zc, zb, zd, Nat.zero_add, Nat.add_zero, List.nil_append, List.append_nil] at k3)
      (try simp only [za, zc, zb, zd, Nat.zero_add, Nat.add_zero, List.nil_append, List.append_nil] at k5)
      simp -implicitDefEqProofs only [za, zc, zb, zd, hb1, hb2, hb3, ca, cb, ta, tb, hlen, htk, List.replicate, List.flatten_cons, List.flatten_nil, List.singleton_append, go_sem, ↓reduceIte, Nat.reduceEqDiff, Nat.reduceAdd, Nat.reduceMul, Nat.reduceLeDiff, Nat.reduceSub, Nat.reduceLT, Int.reduceAdd, Int.reduceLE, Int.reduceLT, Int.reduceToNat, Int.reduceNeg, Int.reduceNegSucc, Int.reduceEq, Int.reduceNe, Int.reduceGT, Int.reduceGE, Int.reduceSub, Int.reduceMul, Int.reduceBEq, Int.reduceBNe, Nat.reduceBEq, Nat.reduceGT, reduceCtorEq]
      repeat' (refine andI_intro (by (first | omega | (simp [indepB, indep1, apart1, Nat.testBit_eq_decide_div_mod_eq]; done) | (simp [indepB, indep1, apart1, Nat.testBit_eq_decide_div_mod_eq]; omega) | kernel_rfl)) ?_; simp -implicitDefEqProofs only [za, zc, zb, zd, hb1, hb2, hb3, ca, cb, ta, tb, hlen, htk, List.replicate, List.flatten_cons, List.flatten_nil, List.singleton_append, go_sem, ↓reduceIte, Nat.reduceEqDiff, Nat.reduceAdd, Nat.reduceMul, Nat.reduceLeDiff, Nat.reduceSub, Nat.reduceLT, Int.reduceAdd, Int.reduceLE, Int.reduceLT, Int.reduceToNat, Int.reduceNeg, Int.reduceNegSucc, Int.reduceEq, Int.reduceNe, Int.reduceGT, Int.reduceGE, Int.reduceSub, Int.reduceMul, Int.reduceBEq, Int.reduceBNe, Nat.reduceBEq, Nat.reduceGT, reduceCtorEq])
      refine dcallI_pure k1 ?_
      simp -implicitDefEqProofs only [za, zc, zb, zd, hb1, hb2, hb3, ca, cb, ta, tb, hlen, htk, List.replicate, List.flatten_cons, List.flatten_nil, List.singleton_append, go_sem, ↓reduceIte, Nat.reduceEqDiff, Nat.reduceAdd, Nat.reduceMul, Nat.reduceLeDiff, Nat.reduceSub, Nat.reduceLT, Int.reduceAdd, Int.reduceLE, Int.reduceLT, Int.reduceToNat, Int.reduceNeg, Int.reduceNegSucc, Int.reduceEq, Int.reduceNe, Int.reduceGT, Int.reduceGE, Int.reduceSub, Int.reduceMul, Int.reduceBEq, Int.reduceBNe, Nat.reduceBEq, Nat.reduceGT, reduceCtorEq]
      repeat' (refine andI_intro (by (first | omega | (simp [indepB, indep1, apart1, Nat.testBit_eq_decide_div_mod_eq]; done) | (simp [indepB, indep1, apart1, Nat.testBit_eq_decide_div_mod_eq]; omega) | kernel_rfl)) ?_; simp -implicitDefEqProofs only [za, zc, zb, zd, hb1, hb2, hb3, ca, cb, ta, tb, hlen, htk, List.replicate, List.flatten_cons, List.flatten_nil, List.singleton_append, go_sem, ↓reduceIte, Nat.reduceEqDiff, Nat.reduceAdd, Nat.reduceMul, Nat.reduceLeDiff, Nat.reduceSub, Nat.reduceLT, Int.reduceAdd, Int.reduceLE, Int.reduceLT, Int.reduceToNat, Int.reduceNeg, Int.reduceNegSucc, Int.reduceEq, Int.reduceNe, Int.reduceGT, Int.reduceGE, Int.reduceSub, Int.reduceMul, Int.reduceBEq, Int.reduceBNe, Nat.reduceBEq, Nat.reduceGT, reduceCtorEq])
      refine dcallI_pure k2 ?_
      simp -implicitDefEqProofs only [za, zc, zb, zd, hb1, hb2, hb3, ca, cb, ta, tb, hlen, htk, List.replicate, List.flatten_cons, List.flatten_nil, List.singleton_append, go_sem, ↓reduceIte, Nat.reduceEqDiff, Nat.reduceAdd, Nat.reduceMul, Nat.reduceLeDiff, Nat.reduceSub, Nat.reduceLT, Int.reduceAdd, Int.reduceLE, Int.reduceLT, Int.reduceToNat, Int.reduceNeg, Int.reduceNegSucc, Int.reduceEq, Int.reduceNe, Int.reduceGT, Int.reduceGE, Int.reduceSub, Int.reduceMul, Int.reduceBEq, Int.reduceBNe, Nat.reduceBEq, Nat.reduceGT, reduceCtorEq]
      repeat' (refine andI_intro (by (first | omega | (simp [indepB, indep1, apart1, Nat.testBit_eq_decide_div_mod_eq]; done) | (simp [indepB, indep1, apart1, Nat.testBit_eq_decide_div_mod_eq]; omega) | kernel_rfl)) ?_; simp -implicitDefEqProofs only [za, zc, zb, zd, hb1, hb2, hb3, ca, cb, ta, tb, hlen, htk, List.replicate, List.flatten_cons, List.flatten_nil, List.singleton_append, go_sem, ↓reduceIte, Nat.reduceEqDiff, Nat.reduceAdd, Nat.reduceMul, Nat.reduceLeDiff, Nat.reduceSub, Nat.reduceLT, Int.reduceAdd, Int.reduceLE, Int.reduceLT, Int.reduceToNat, Int.reduceNeg, Int.reduceNegSucc, Int.reduceEq, Int.reduceNe, Int.reduceGT, Int.reduceGE, Int.reduceSub, Int.reduceMul, Int.reduceBEq, Int.reduceBNe, Nat.reduceBEq, Nat.reduceGT, reduceCtorEq])
      refine dcallI_pure k3 ?_
      simp -implicitDefEqProofs only [za, zc, zb, zd, hb1, hb2, hb3, ca, cb, ta, tb, hlen, htk, List.replicate, List.flatten_cons, List.flatten_nil, List.singleton_append, go_sem, ↓reduceIte, Nat.reduceEqDiff, Nat.reduceAdd, Nat.reduceMul, Nat.reduceLeDiff, Nat.reduceSub, Nat.reduceLT, Int.reduceAdd, Int.reduceLE, Int.reduceLT, Int.reduceToNat, Int.reduceNeg, Int.reduceNegSucc, Int.reduceEq, Int.reduceNe, Int.reduceGT, Int.reduceGE, Int.reduceSub, Int.reduceMul, Int.reduceBEq, Int.reduceBNe, Nat.reduceBEq, Nat.reduceGT, reduceCtorEq]
      repeat' (refine andI_intro (by (first | omega | (simp [indepB, indep1, apart1, Nat.testBit_eq_decide_div_mod_eq]; done) | (simp [indepB, indep1, apart1, Nat.testBit_eq_decide_div_mod_eq]; omega) | kernel_rfl)) ?_; simp -implicitDefEqProofs only [za, zc, zb, zd, hb1, hb2, hb3, ca, cb, ta, tb, hlen, htk, List.replicate, List.flatten_cons, List.flatten_nil, List.singleton_append, go_sem, ↓reduceIte, Nat.reduceEqDiff, Nat.reduceAdd, Nat.reduceMul, Nat.reduceLeDiff, Nat.reduceSub, Nat.reduceLT, Int.reduceAdd, Int.reduceLE, Int.reduceLT, Int.reduceToNat, Int.reduceNeg, Int.reduceNegSucc, Int.reduceEq, Int.reduceNe, Int.reduceGT, Int.reduceGE, Int.reduceSub, Int.reduceMul, Int.reduceBEq, Int.reduceBNe, Nat.reduceBEq, Nat.reduceGT, reduceCtorEq])
      refine LoopI_sl (fun k : Nat => a.parts.length - k) (fun k => [(2, .ptr 0 0 0), (6, .ptr 5 0 0), (7, .ptr 6 0 0), (8, .ptr 7 0 0), (9, .ptr 8 0 0), (10, .int .i64 k)])
        (fun k s => k ≤ a.parts.length ∧ 9 ≤ s.next ∧ AX.look 0 s.heap = some (.cells 0 (Enc.cells a) false) ∧ AX.look 5 s.heap = some (.cells 0 (Enc.cells (ofC ⟨a.parts, []⟩)) false) ∧ AX.look 6 s.heap = some (.cells 0 (Enc.cells (ofC ⟨b.parts, []⟩)) false) ∧
          AX.look 7 s.heap = some (.cells 0 (Enc.cells (ofC ⟨a.parts ++ b.parts, []⟩)) false) ∧ ∃ v, AX.look 8 s.heap = some (.cells 0 [v, .str a.pseudo] false) ∧
            ((k = 0 ∧ v = .nils) ∨ (0 < k ∧ ∃ i, 8 < i ∧ i < s.next ∧ v = .sl i (k * 2) 0 k 2 ∧ AX.look i s.heap = some (.cells (k * 2) (cellsL (notP (a.parts.take k))) false)))) 0 ?_ ?_
      · simp -implicitDefEqProofs only [za, zc, zb, zd, hb1, hb2, hb3, ca, cb, ta, tb, hlen, htk, List.replicate, List.flatten_cons, List.flatten_nil, List.singleton_append, go_sem, ↓reduceIte, Nat.reduceEqDiff, Nat.reduceAdd, Nat.reduceMul, Nat.reduceLeDiff, Nat.reduceSub, Nat.reduceLT, Int.reduceAdd, Int.reduceLE, Int.reduceLT, Int.reduceToNat, Int.reduceNeg, Int.reduceNegSucc, Int.reduceEq, Int.reduceNe, Int.reduceGT, Int.reduceGE, Int.reduceSub, Int.reduceMul, Int.reduceBEq, Int.reduceBNe, Nat.reduceBEq, Nat.reduceGT, reduceCtorEq]
        exact ⟨_, rfl, rfl⟩
      clear k1 k2 k3
      rintro k ρ ⟨h, m⟩ ⟨h1, h2, h3, h4, h5, h6, v, h7, h8⟩
      dsimp only at h2 h3 h4 h5 h6 h7 h8
      simp only [Complex.ecells, W3.ecells] at h3 h4 h5 h6
      have m0 : (m = 0) = False := eq_false (by omega)
      have m2 : (m = 2) = False := eq_false (by omega)
      have m3 : (m = 3) = False := eq_false (by omega)
      have m4 : (m = 4) = False := eq_false (by omega)
      have m5 : (m = 5) = False := eq_false (by omega)
      have m6 : (m = 6) = False := eq_false (by omega)
      have m7 : (m = 7) = False := eq_false (by omega)
      have m8 : (m = 8) = False := eq_false (by omega)
      rcases Nat.lt_or_ge k a.parts.length with hk | hk
      · obtain ⟨y, hy', hd, hm⟩ := get_drop hk
        have hlt : ((k : Int) < (a.parts.length : Int)) = True := eq_true (by omega)
        have w1 : IntKind.i64.wrap ((k : Int) + 1) = ((k + 1 : Nat) : Int) := by rw [wrap64 (by omega) (by omega)]; omega
        have hsn : cellsL (notP (a.parts.take (k + 1))) = cellsL (notP (a.parts.take k)) ++ [.int .i64 0, .ps 1 [.int .i64 11, .str [], .str [], .int .i64 0, .int .i64 0, .ps y.l.length (cellsL y.l)]] := by
          rw [take_snoc hy', ← cells_notP y]
          simp only [notP, List.map_append, List.map_cons, List.map_nil, cellsL_append, cellsL, List.append_nil]
        have g0 : (0 < m) = True := eq_true (by omega)
        have g8 : (8 < m) = True := eq_true (by omega)
        rcases h8 with ⟨hk0, rfl⟩ | ⟨hk0, i, i1, i2, rfl, h9⟩
        · simp -implicitDefEqProofs only [hlt, hy', w1, h3, h4, h5, h6, h7, m0, m2, m3, m4, m5, m6, m7, m8, g0, g8, List.replicate, List.flatten_cons, List.flatten_nil, List.singleton_append, go_sem, ↓reduceIte, Nat.reduceEqDiff, Nat.reduceAdd, Nat.reduceMul, Nat.reduceLeDiff, Nat.reduceSub, Nat.reduceLT, Int.reduceAdd, Int.reduceLE, Int.reduceLT, Int.reduceToNat, Int.reduceNeg, Int.reduceNegSucc, Int.reduceEq, Int.reduceNe, Int.reduceGT, Int.reduceGE, Int.reduceSub, Int.reduceMul, Int.reduceBEq, Int.reduceBNe, Nat.reduceBEq, Nat.reduceGT, reduceCtorEq]
          repeat' (refine andI_intro (by (first | omega | (simp [indepB, indep1, apart1, Nat.testBit_eq_decide_div_mod_eq]; done) | (simp [indepB, indep1, apart1, Nat.testBit_eq_decide_div_mod_eq]; omega) | kernel_rfl)) ?_; simp -implicitDefEqProofs only [hlt, hy', w1, h3, h4, h5, h6, h7, m0, m2, m3, m4, m5, m6, m7, m8, g0, g8, List.replicate, List.flatten_cons, List.flatten_nil, List.singleton_append, go_sem, ↓reduceIte, Nat.reduceEqDiff, Nat.reduceAdd, Nat.reduceMul, Nat.reduceLeDiff, Nat.reduceSub, Nat.reduceLT, Int.reduceAdd, Int.reduceLE, Int.reduceLT, Int.reduceToNat, Int.reduceNeg, Int.reduceNegSucc, Int.reduceEq, Int.reduceNe, Int.reduceGT, Int.reduceGE, Int.reduceSub, Int.reduceMul, Int.reduceBEq, Int.reduceBNe, Nat.reduceBEq, Nat.reduceGT, reduceCtorEq])
          refine ⟨k + 1, by omega, rfl, by omega, by omega, _, rfl, .inr ⟨by omega, m + 1 + 1, by omega, by omega, ?_, ?_⟩⟩
          · subst hk0; rfl
          · rw [hsn]; subst hk0; simp [notP, cellsL]
        · have j1 : (m = i) = False := eq_false (by omega)
          have j2 : (m + 1 = i) = False := eq_false (by omega)
          have j3 : (m + 1 + 1 = i) = False := eq_false (by omega)
          have j4 : (8 = i) = False := eq_false (by omega)
          have j5 : (i = 8) = False := eq_false (by omega)
          have j6 : (i = 7) = False := eq_false (by omega)
          have j7 : (i = 6) = False := eq_false (by omega)
          have j8 : (i = 5) = False := eq_false (by omega)
          have j9 : (i = 0) = False := eq_false (by omega)
          have hcl : (cellsL (notP (a.parts.take k))).length = k * 2 := by rw [Part.clen]; simp [notP]; omega
          have htl : List.take (k * 2) (cellsL (notP (a.parts.take k))) = cellsL (notP (a.parts.take k)) := List.take_of_length_le (by omega)
          have hbd : ((k + 1) * 32 ≤ 140737488355328) = True := eq_true (by omega)
          have hmx : (k * 2 ≤ k * 2 + 1) = True := eq_true (by omega)
          have hm3 : (k + 1) * 2 = k * 2 + 2 := by omega
          have g9 : (i < m) = True := eq_true (by omega)
          simp -implicitDefEqProofs only [hlt, hy', w1, h3, h4, h5, h6, h7, m0, m2, m3, m4, m5, m6, m7, m8, g0, g8, List.replicate, List.flatten_cons, List.flatten_nil, List.singleton_append, h9, j1, j2, j3, j4, j5, j6, j7, j8, j9, hcl, htl, hbd, hmx, g9, go_sem, ↓reduceIte, Nat.reduceEqDiff, Nat.reduceAdd, Nat.reduceMul, Nat.reduceLeDiff, Nat.reduceSub, Nat.reduceLT, Int.reduceAdd, Int.reduceLE, Int.reduceLT, Int.reduceToNat, Int.reduceNeg, Int.reduceNegSucc, Int.reduceEq, Int.reduceNe, Int.reduceGT, Int.reduceGE, Int.reduceSub, Int.reduceMul, Int.reduceBEq, Int.reduceBNe, Nat.reduceBEq, Nat.reduceGT, reduceCtorEq]
          repeat' (refine andI_intro (by (first | omega | (simp [indepB, indep1, apart1, Nat.testBit_eq_decide_div_mod_eq]; done) | (simp [indepB, indep1, apart1, Nat.testBit_eq_decide_div_mod_eq]; omega) | kernel_rfl)) ?_; simp -implicitDefEqProofs only [hlt, hy', w1, h3, h4, h5, h6, h7, m0, m2, m3, m4, m5, m6, m7, m8, g0, g8, List.replicate, List.flatten_cons, List.flatten_nil, List.singleton_append, h9, j1, j2, j3, j4, j5, j6, j7, j8, j9, hcl, htl, hbd, hmx, g9, go_sem, ↓reduceIte, Nat.reduceEqDiff, Nat.reduceAdd, Nat.reduceMul, Nat.reduceLeDiff, Nat.reduceSub, Nat.reduceLT, Int.reduceAdd, Int.reduceLE, Int.reduceLT, Int.reduceToNat, Int.reduceNeg, Int.reduceNegSucc, Int.reduceEq, Int.reduceNe, Int.reduceGT, Int.reduceGE, Int.reduceSub, Int.reduceMul, Int.reduceBEq, Int.reduceBNe, Nat.reduceBEq, Nat.reduceGT, reduceCtorEq])
          refine ⟨k + 1, by omega, rfl, by omega, by omega, _, rfl, .inr ⟨by omega, i, by omega, by omega, ?_, ?_⟩⟩
          · rw [hm3]
          · simp only [j1, j2, j3, j4, if_false]
            rw [hm3, hsn]
            exact if_pos trivial
      · have hk' : k = a.parts.length := by omega
        subst hk'
        have hlt : ((a.parts.length : Int) < (a.parts.length : Int)) = False := eq_false (by omega)
        rcases h8 with ⟨hk0, rfl⟩ | ⟨hk0, i, i1, i2, rfl, h9⟩
        · have hnil := List.eq_nil_of_length_eq_zero hk0
          have k4' : PureF Try.prog 11 [.agg [.ps 0 [], .str a.pseudo]] (Enc.av (ofC a)) := by
            rw [hnil] at k4
            exact k4
          have k5' : PureF Try.prog 11 [.agg [.ps a.parts.length (cellsL a.parts), .str a.pseudo]] (Enc.av (ofC a)) := w11 a (by omega)
          simp -implicitDefEqProofs only [hlt, h3, h4, h5, h6, h7, e1, e2, e3, ex, ey, m0, m2, m3, m4, m5, m6, m7, m8, go_sem, ↓reduceIte, Nat.reduceEqDiff, Nat.reduceAdd, Nat.reduceMul, Nat.reduceLeDiff, Nat.reduceSub, Nat.reduceLT, Int.reduceAdd, Int.reduceLE, Int.reduceLT, Int.reduceToNat, Int.reduceNeg, Int.reduceNegSucc, Int.reduceEq, Int.reduceNe, Int.reduceGT, Int.reduceGE, Int.reduceSub, Int.reduceMul, Int.reduceBEq, Int.reduceBNe, Nat.reduceBEq, Nat.reduceGT, reduceCtorEq]
          repeat' (first
            | (refine andI_intro (by (first | omega | (simp [indepB, indep1, apart1, Nat.testBit_eq_decide_div_mod_eq]; done) | (simp [indepB, indep1, apart1, Nat.testBit_eq_decide_div_mod_eq]; omega) | kernel_rfl)) ?_; simp -implicitDefEqProofs only [h3, h4, h5, h6, h7, e1, e2, e3, ex, ey, m0, m2, m3, m4, m5, m6, m7, m8, go_sem, ↓reduceIte, Nat.reduceEqDiff, Nat.reduceAdd, Nat.reduceMul, Nat.reduceLeDiff, Nat.reduceSub, Nat.reduceLT, Int.reduceAdd, Int.reduceLE, Int.reduceLT, Int.reduceToNat, Int.reduceNeg, Int.reduceNegSucc, Int.reduceEq, Int.reduceNe, Int.reduceGT, Int.reduceGE, Int.reduceSub, Int.reduceMul, Int.reduceBEq, Int.reduceBNe, Nat.reduceBEq, Nat.reduceGT, reduceCtorEq])
            | (refine dcallI_pure k4' ?_; simp -implicitDefEqProofs only [h3, h4, h5, h6, h7, e1, e2, e3, ex, ey, m0, m2, m3, m4, m5, m6, m7, m8, go_sem, ↓reduceIte, Nat.reduceEqDiff, Nat.reduceAdd, Nat.reduceMul, Nat.reduceLeDiff, Nat.reduceSub, Nat.reduceLT, Int.reduceAdd, Int.reduceLE, Int.reduceLT, Int.reduceToNat, Int.reduceNeg, Int.reduceNegSucc, Int.reduceEq, Int.reduceNe, Int.reduceGT, Int.reduceGE, Int.reduceSub, Int.reduceMul, Int.reduceBEq, Int.reduceBNe, Nat.reduceBEq, Nat.reduceGT, reduceCtorEq])
            | (refine dcallI_pure k5' ?_; simp -implicitDefEqProofs only [h3, h4, h5, h6, h7, e1, e2, e3, ex, ey, m0, m2, m3, m4, m5, m6, m7, m8, go_sem, ↓reduceIte, Nat.reduceEqDiff, Nat.reduceAdd, Nat.reduceMul, Nat.reduceLeDiff, Nat.reduceSub, Nat.reduceLT, Int.reduceAdd, Int.reduceLE, Int.reduceLT, Int.reduceToNat, Int.reduceNeg, Int.reduceNegSucc, Int.reduceEq, Int.reduceNe, Int.reduceGT, Int.reduceGE, Int.reduceSub, Int.reduceMul, Int.reduceBEq, Int.reduceBNe, Nat.reduceBEq, Nat.reduceGT, reduceCtorEq]))
        · rw [List.take_length] at h9
          have k4' : PureF Try.prog 11 [.agg [.ps a.parts.length (cellsL (notP a.parts)), .str a.pseudo]] (Enc.av (ofC a)) := by
            have := w11 ⟨notP a.parts, a.pseudo⟩ (by simp only; rw [sizP_notP]; omega)
            rw [hof] at this
            simpa [Complex.eav, notP] using this
          have k5' : PureF Try.prog 11 [.agg [.ps a.parts.length (cellsL a.parts), .str a.pseudo]] (Enc.av (ofC a)) := w11 a (by omega)
          have hcl : (cellsL (notP a.parts)).length = a.parts.length * 2 := by rw [Part.clen]; simp [notP]
          have htl : List.take (a.parts.length * 2) (cellsL (notP a.parts)) = cellsL (notP a.parts) := List.take_of_length_le (by omega)
          have g9 : (i < m) = True := eq_true (by omega)
          have j5 : (i = 8) = False := eq_false (by omega)
          have j6 : (i = 7) = False := eq_false (by omega)
          have j7 : (i = 6) = False := eq_false (by omega)
          have j8 : (i = 5) = False := eq_false (by omega)
          have j9 : (i = 0) = False := eq_false (by omega)
          simp -implicitDefEqProofs only [hlt, h3, h4, h5, h6, h7, e1, e2, e3, ex, ey, m0, m2, m3, m4, m5, m6, m7, m8, h9, hcl, htl, g9, j5, j6, j7, j8, j9, go_sem, ↓reduceIte, Nat.reduceEqDiff, Nat.reduceAdd, Nat.reduceMul, Nat.reduceLeDiff, Nat.reduceSub, Nat.reduceLT, Int.reduceAdd, Int.reduceLE, Int.reduceLT, Int.reduceToNat, Int.reduceNeg, Int.reduceNegSucc, Int.reduceEq, Int.reduceNe, Int.reduceGT, Int.reduceGE, Int.reduceSub, Int.reduceMul, Int.reduceBEq, Int.reduceBNe, Nat.reduceBEq, Nat.reduceGT, reduceCtorEq]
          repeat' (first
            | (refine andI_intro (by (first | omega | (simp [indepB, indep1, apart1, Nat.testBit_eq_decide_div_mod_eq]; done) | (simp [indepB, indep1, apart1, Nat.testBit_eq_decide_div_mod_eq]; omega) | kernel_rfl)) ?_; simp -implicitDefEqProofs only [h3, h4, h5, h6, h7, e1, e2, e3, ex, ey, m0, m2, m3, m4, m5, m6, m7, m8, h9, hcl, htl, g9, j5, j6, j7, j8, j9, go_sem, ↓reduceIte, Nat.reduceEqDiff, Nat.reduceAdd, Nat.reduceMul, Nat.reduceLeDiff, Nat.reduceSub, Nat.reduceLT, Int.reduceAdd, Int.reduceLE, Int.reduceLT, Int.reduceToNat, Int.reduceNeg, Int.reduceNegSucc, Int.reduceEq, Int.reduceNe, Int.reduceGT, Int.reduceGE, Int.reduceSub, Int.reduceMul, Int.reduceBEq, Int.reduceBNe, Nat.reduceBEq, Nat.reduceGT, reduceCtorEq])
            | (refine dcallI_pure k4' ?_; simp -implicitDefEqProofs only [h3, h4, h5, h6, h7, e1, e2, e3, ex, ey, m0, m2, m3, m4, m5, m6, m7, m8, h9, hcl, htl, g9, j5, j6, j7, j8, j9, go_sem, ↓reduceIte, Nat.reduceEqDiff, Nat.reduceAdd, Nat.reduceMul, Nat.reduceLeDiff, Nat.reduceSub, Nat.reduceLT, Int.reduceAdd, Int.reduceLE, Int.reduceLT, Int.reduceToNat, Int.reduceNeg, Int.reduceNegSucc, Int.reduceEq, Int.reduceNe, Int.reduceGT, Int.reduceGE, Int.reduceSub, Int.reduceMul, Int.reduceBEq, Int.reduceBNe, Nat.reduceBEq, Nat.reduceGT, reduceCtorEq])
            | (refine dcallI_pure k5' ?_; simp -implicitDefEqProofs only [h3, h4, h5, h6, h7, e1, e2, e3, ex, ey, m0, m2, m3, m4, m5, m6, m7, m8, h9, hcl, htl, g9, j5, j6, j7, j8, j9, go_sem, ↓reduceIte, Nat.reduceEqDiff, Nat.reduceAdd, Nat.reduceMul, Nat.reduceLeDiff, Nat.reduceSub, Nat.reduceLT, Int.reduceAdd, Int.reduceLE, Int.reduceLT, Int.reduceToNat, Int.reduceNeg, Int.reduceNegSucc, Int.reduceEq, Int.reduceNe, Int.reduceGT, Int.reduceGE, Int.reduceSub, Int.reduceMul, Int.reduceBEq, Int.reduceBNe, Nat.reduceBEq, Nat.reduceGT, reduceCtorEq]))
end W06
