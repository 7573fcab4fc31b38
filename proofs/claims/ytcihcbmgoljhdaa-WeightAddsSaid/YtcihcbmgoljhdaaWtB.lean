/- WeightOrder. -/
import Derived.Test.YtcihcbmgoljhdaaWtA
import Derived.Test.YtcihcbmgoljhdaaFix
set_option linter.unusedSimpArgs false
set_option linter.unusedVariables false
namespace W06
open Go Go.AX Go.AX.Ty Go.Proofs

theorem fx : PureF Try.prog 10 [] (.bool true) := ⟨w10, rfl, rfl⟩
def eqW (u v : W3) : Bool := (u.a == v.a) && ((u.b == v.b) && (u.c == v.c))
theorem tri (u v : W3) : (ltW u v = true ∧ ltW v u = false ∧ eqW u v = false ∧ eqW v u = false) ∨ (ltW u v = false ∧ ltW v u = true ∧ eqW u v = false ∧ eqW v u = false) ∨ (u = v) := by
  have h1 := ltW_iff u v
  have h2 := ltW_iff v u
  by_cases h : u = v
  · exact .inr (.inr h)
  · have hne : ¬ (u.a = v.a ∧ u.b = v.b ∧ u.c = v.c) := fun ⟨x, y, z⟩ => h (W3.ext x y z)
    have e1 : eqW u v = false := by simp only [eqW, Bool.and_eq_false_iff, beq_eq_false_iff_ne, ne_eq]; omega
    have e2 : eqW v u = false := by simp only [eqW, Bool.and_eq_false_iff, beq_eq_false_iff_ne, ne_eq]; omega
    cases h3 : ltW u v <;> cases h4 : ltW v u
    · rw [h3] at h1; rw [h4] at h2; simp at h1 h2; omega
    · exact .inr (.inl ⟨rfl, rfl, e1, e2⟩)
    · exact .inl ⟨rfl, rfl, e1, e2⟩
    · rw [h3] at h1; rw [h4] at h2; simp at h1 h2; omega
theorem ltW_irrefl (u : W3) : ltW u u = false := by
  cases h : ltW u u
  · rfl
  · have := (ltW_iff u u).1 h; omega
theorem eqW_refl (u : W3) : eqW u u = true := by simp [eqW]
theorem ltW_trans {u v w : W3} (h1 : ltW u v = true) (h2 : ltW v w = true) : ltW u w = true := by
  rw [ltW_iff] at *; omega

theorem max3 (u v w : W3) : maxW [u, v, w] = (if ltW (if ltW u v then v else u) w then w else (if ltW u v then v else u)) := rfl

def EqX (u v : W3) (b : Bool) : Prop := (u.a == v.a && (u.b == v.b && u.c == v.c)) = b
theorem EqX_of {u v : W3} {b : Bool} (h : eqW u v = b) : EqX u v b := h
theorem tri' (u v : W3) : (ltW u v = true ∧ ltW v u = false ∧ EqX u v false ∧ EqX v u false) ∨ (ltW u v = false ∧ ltW v u = true ∧ EqX u v false ∧ EqX v u false) ∨ (ltW u v = false ∧ ltW v u = false ∧ EqX u v true ∧ EqX v u true) := by
  rcases tri u v with h | h | rfl
  · exact .inl h
  · exact .inr (.inl h)
  · exact .inr (.inr ⟨ltW_irrefl _, ltW_irrefl _, eqW_refl _, eqW_refl _⟩)
theorem ltW_f {u v : W3} (h : ltW u v = false) : ¬ (u.a < v.a ∨ (u.a = v.a ∧ (u.b < v.b ∨ (u.b = v.b ∧ u.c < v.c)))) := by
  rw [← ltW_iff]; simp [h]

set_option maxHeartbeats 4000000 in
theorem w4 (u v w : W3) : PureF Try.prog 4 [Enc.av u, Enc.av v, Enc.av w] (.bool true) := by
  have iu := ltW_irrefl u
  have iv := ltW_irrefl v
  have iw := ltW_irrefl w
  have ru : EqX u u true := eqW_refl u
  have rv : EqX v v true := eqW_refl v
  have rw' : EqX w w true := eqW_refl w
  have hm1 := max3 u v w
  have hm2 := max3 w u v
  have k1 := w15 [u, v, w] (by simp)
  have k2 := w15 [w, u, v] (by simp)
  rcases tri' u v with ⟨a1, a2, a3, a4⟩ | ⟨a1, a2, a3, a4⟩ | ⟨a1, a2, a3, a4⟩ <;> rcases tri' v w with ⟨b1, b2, b3, b4⟩ | ⟨b1, b2, b3, b4⟩ | ⟨b1, b2, b3, b4⟩ <;> rcases tri' u w with ⟨d1, d2, d3, d4⟩ | ⟨d1, d2, d3, d4⟩ | ⟨d1, d2, d3, d4⟩
  all_goals
    first
      | (exfalso
         simp only [EqX, Bool.and_eq_true, Bool.and_eq_false_iff, beq_iff_eq, beq_eq_false_iff_ne, ne_eq] at a3 b3 d3
         (try rw [ltW_iff] at a1) <;> (try rw [ltW_iff] at a2) <;> (try rw [ltW_iff] at b1) <;> (try rw [ltW_iff] at b2) <;> (try rw [ltW_iff] at d1) <;> (try rw [ltW_iff] at d2)
         (try replace a1 := ltW_f a1) <;> (try replace a2 := ltW_f a2) <;> (try replace b1 := ltW_f b1) <;> (try replace b2 := ltW_f b2) <;> (try replace d1 := ltW_f d1) <;> (try replace d2 := ltW_f d2)
         omega)
      | skip
  all_goals
        (simp only [a1, a2, b1, b2, d1, d2, if_true, Bool.false_eq_true, if_false] at hm1 hm2
         rw [hm1] at k1
         rw [hm2] at k2
         simp only [EqX] at a3 a4 b3 b4 d3 d4 ru rv rw'
         refine pureF_W mix c4 (by kernel_rfl) (by kernel_rfl) (by simp [flats, flat_av]) (by first | exact flat_av _ | simp [flat, flats, flat_av]) ?_
         simp -implicitDefEqProofs only [F4, go_sem, ↓reduceIte, Nat.reduceEqDiff, Nat.reduceAdd, Nat.reduceMul, Nat.reduceLeDiff, Nat.reduceSub, Nat.reduceLT, Int.reduceAdd, Int.reduceLE, Int.reduceLT, Int.reduceToNat, Int.reduceNeg, Int.reduceNegSucc, Int.reduceEq, Int.reduceNe, Int.reduceGT, Int.reduceGE, Int.reduceSub, Int.reduceMul, Int.reduceBEq, Int.reduceBNe, Nat.reduceBEq, Nat.reduceGT, reduceCtorEq]
         refine callI_pure fx ?_
         simp -implicitDefEqProofs only [go_sem, ↓reduceIte, Nat.reduceEqDiff, Nat.reduceAdd, Nat.reduceMul, Nat.reduceLeDiff, Nat.reduceSub, Nat.reduceLT, Int.reduceAdd, Int.reduceLE, Int.reduceLT, Int.reduceToNat, Int.reduceNeg, Int.reduceNegSucc, Int.reduceEq, Int.reduceNe, Int.reduceGT, Int.reduceGE, Int.reduceSub, Int.reduceMul, Int.reduceBEq, Int.reduceBNe, Nat.reduceBEq, Nat.reduceGT, reduceCtorEq]
         repeat' (first
           | (refine callI_pure k1 ?_; simp -implicitDefEqProofs only [go_sem, ↓reduceIte, Nat.reduceEqDiff, Nat.reduceAdd, Nat.reduceMul, Nat.reduceLeDiff, Nat.reduceSub, Nat.reduceLT, Int.reduceAdd, Int.reduceLE, Int.reduceLT, Int.reduceToNat, Int.reduceNeg, Int.reduceNegSucc, Int.reduceEq, Int.reduceNe, Int.reduceGT, Int.reduceGE, Int.reduceSub, Int.reduceMul, Int.reduceBEq, Int.reduceBNe, Nat.reduceBEq, Nat.reduceGT, reduceCtorEq])
           | (refine dcallI_pure k2 ?_; simp -implicitDefEqProofs only [a1, a2, a3, a4, b1, b2, b3, b4, d1, d2, d3, d4, iu, iv, iw, ru, rv, rw', go_sem, ↓reduceIte, Nat.reduceEqDiff, Nat.reduceAdd, Nat.reduceMul, Nat.reduceLeDiff, Nat.reduceSub, Nat.reduceLT, Int.reduceAdd, Int.reduceLE, Int.reduceLT, Int.reduceToNat, Int.reduceNeg, Int.reduceNegSucc, Int.reduceEq, Int.reduceNe, Int.reduceGT, Int.reduceGE, Int.reduceSub, Int.reduceMul, Int.reduceBEq, Int.reduceBNe, Nat.reduceBEq, Nat.reduceGT, reduceCtorEq])
           | (refine dcallI_pure (v13 u v) ?_; simp -implicitDefEqProofs only [a1, a2, a3, a4, b1, b2, b3, b4, d1, d2, d3, d4, iu, iv, iw, ru, rv, rw', go_sem, ↓reduceIte, Nat.reduceEqDiff, Nat.reduceAdd, Nat.reduceMul, Nat.reduceLeDiff, Nat.reduceSub, Nat.reduceLT, Int.reduceAdd, Int.reduceLE, Int.reduceLT, Int.reduceToNat, Int.reduceNeg, Int.reduceNegSucc, Int.reduceEq, Int.reduceNe, Int.reduceGT, Int.reduceGE, Int.reduceSub, Int.reduceMul, Int.reduceBEq, Int.reduceBNe, Nat.reduceBEq, Nat.reduceGT, reduceCtorEq])
           | (refine dcallI_pure (v13 v u) ?_; simp -implicitDefEqProofs only [a1, a2, a3, a4, b1, b2, b3, b4, d1, d2, d3, d4, iu, iv, iw, ru, rv, rw', go_sem, ↓reduceIte, Nat.reduceEqDiff, Nat.reduceAdd, Nat.reduceMul, Nat.reduceLeDiff, Nat.reduceSub, Nat.reduceLT, Int.reduceAdd, Int.reduceLE, Int.reduceLT, Int.reduceToNat, Int.reduceNeg, Int.reduceNegSucc, Int.reduceEq, Int.reduceNe, Int.reduceGT, Int.reduceGE, Int.reduceSub, Int.reduceMul, Int.reduceBEq, Int.reduceBNe, Nat.reduceBEq, Nat.reduceGT, reduceCtorEq])
           | (refine dcallI_pure (v13 v w) ?_; simp -implicitDefEqProofs only [a1, a2, a3, a4, b1, b2, b3, b4, d1, d2, d3, d4, iu, iv, iw, ru, rv, rw', go_sem, ↓reduceIte, Nat.reduceEqDiff, Nat.reduceAdd, Nat.reduceMul, Nat.reduceLeDiff, Nat.reduceSub, Nat.reduceLT, Int.reduceAdd, Int.reduceLE, Int.reduceLT, Int.reduceToNat, Int.reduceNeg, Int.reduceNegSucc, Int.reduceEq, Int.reduceNe, Int.reduceGT, Int.reduceGE, Int.reduceSub, Int.reduceMul, Int.reduceBEq, Int.reduceBNe, Nat.reduceBEq, Nat.reduceGT, reduceCtorEq])
           | (refine dcallI_pure (v13 u w) ?_; simp -implicitDefEqProofs only [a1, a2, a3, a4, b1, b2, b3, b4, d1, d2, d3, d4, iu, iv, iw, ru, rv, rw', go_sem, ↓reduceIte, Nat.reduceEqDiff, Nat.reduceAdd, Nat.reduceMul, Nat.reduceLeDiff, Nat.reduceSub, Nat.reduceLT, Int.reduceAdd, Int.reduceLE, Int.reduceLT, Int.reduceToNat, Int.reduceNeg, Int.reduceNegSucc, Int.reduceEq, Int.reduceNe, Int.reduceGT, Int.reduceGE, Int.reduceSub, Int.reduceMul, Int.reduceBEq, Int.reduceBNe, Nat.reduceBEq, Nat.reduceGT, reduceCtorEq])
           | (refine dcallI_pure (v13 w u) ?_; simp -implicitDefEqProofs only [a1, a2, a3, a4, b1, b2, b3, b4, d1, d2, d3, d4, iu, iv, iw, ru, rv, rw', go_sem, ↓reduceIte, Nat.reduceEqDiff, Nat.reduceAdd, Nat.reduceMul, Nat.reduceLeDiff, Nat.reduceSub, Nat.reduceLT, Int.reduceAdd, Int.reduceLE, Int.reduceLT, Int.reduceToNat, Int.reduceNeg, Int.reduceNegSucc, Int.reduceEq, Int.reduceNe, Int.reduceGT, Int.reduceGE, Int.reduceSub, Int.reduceMul, Int.reduceBEq, Int.reduceBNe, Nat.reduceBEq, Nat.reduceGT, reduceCtorEq])
           | (refine dcallI_pure (v13 w v) ?_; simp -implicitDefEqProofs only [a1, a2, a3, a4, b1, b2, b3, b4, d1, d2, d3, d4, iu, iv, iw, ru, rv, rw', go_sem, ↓reduceIte, Nat.reduceEqDiff, Nat.reduceAdd, Nat.reduceMul, Nat.reduceLeDiff, Nat.reduceSub, Nat.reduceLT, Int.reduceAdd, Int.reduceLE, Int.reduceLT, Int.reduceToNat, Int.reduceNeg, Int.reduceNegSucc, Int.reduceEq, Int.reduceNe, Int.reduceGT, Int.reduceGE, Int.reduceSub, Int.reduceMul, Int.reduceBEq, Int.reduceBNe, Nat.reduceBEq, Nat.reduceGT, reduceCtorEq])
           | (refine dcallI_pure (v13 u u) ?_; simp -implicitDefEqProofs only [a1, a2, a3, a4, b1, b2, b3, b4, d1, d2, d3, d4, iu, iv, iw, ru, rv, rw', go_sem, ↓reduceIte, Nat.reduceEqDiff, Nat.reduceAdd, Nat.reduceMul, Nat.reduceLeDiff, Nat.reduceSub, Nat.reduceLT, Int.reduceAdd, Int.reduceLE, Int.reduceLT, Int.reduceToNat, Int.reduceNeg, Int.reduceNegSucc, Int.reduceEq, Int.reduceNe, Int.reduceGT, Int.reduceGE, Int.reduceSub, Int.reduceMul, Int.reduceBEq, Int.reduceBNe, Nat.reduceBEq, Nat.reduceGT, reduceCtorEq])
           | (refine dcallI_pure (v13 v v) ?_; simp -implicitDefEqProofs only [a1, a2, a3, a4, b1, b2, b3, b4, d1, d2, d3, d4, iu, iv, iw, ru, rv, rw', go_sem, ↓reduceIte, Nat.reduceEqDiff, Nat.reduceAdd, Nat.reduceMul, Nat.reduceLeDiff, Nat.reduceSub, Nat.reduceLT, Int.reduceAdd, Int.reduceLE, Int.reduceLT, Int.reduceToNat, Int.reduceNeg, Int.reduceNegSucc, Int.reduceEq, Int.reduceNe, Int.reduceGT, Int.reduceGE, Int.reduceSub, Int.reduceMul, Int.reduceBEq, Int.reduceBNe, Nat.reduceBEq, Nat.reduceGT, reduceCtorEq])
           | (refine dcallI_pure (v13 w w) ?_; simp -implicitDefEqProofs only [a1, a2, a3, a4, b1, b2, b3, b4, d1, d2, d3, d4, iu, iv, iw, ru, rv, rw', go_sem, ↓reduceIte, Nat.reduceEqDiff, Nat.reduceAdd, Nat.reduceMul, Nat.reduceLeDiff, Nat.reduceSub, Nat.reduceLT, Int.reduceAdd, Int.reduceLE, Int.reduceLT, Int.reduceToNat, Int.reduceNeg, Int.reduceNegSucc, Int.reduceEq, Int.reduceNe, Int.reduceGT, Int.reduceGE, Int.reduceSub, Int.reduceMul, Int.reduceBEq, Int.reduceBNe, Nat.reduceBEq, Nat.reduceGT, reduceCtorEq])
           | (refine andI_intro (by (first | omega | (simp [indepB, indep1, apart1, Nat.testBit_eq_decide_div_mod_eq]; done) | (simp [indepB, indep1, apart1, Nat.testBit_eq_decide_div_mod_eq]; omega) | kernel_rfl)) ?_; simp -implicitDefEqProofs only [a1, a2, a3, a4, b1, b2, b3, b4, d1, d2, d3, d4, iu, iv, iw, ru, rv, rw', go_sem, ↓reduceIte, Nat.reduceEqDiff, Nat.reduceAdd, Nat.reduceMul, Nat.reduceLeDiff, Nat.reduceSub, Nat.reduceLT, Int.reduceAdd, Int.reduceLE, Int.reduceLT, Int.reduceToNat, Int.reduceNeg, Int.reduceNegSucc, Int.reduceEq, Int.reduceNe, Int.reduceGT, Int.reduceGE, Int.reduceSub, Int.reduceMul, Int.reduceBEq, Int.reduceBNe, Nat.reduceBEq, Nat.reduceGT, reduceCtorEq]))
         done)
end W06
/- WeightMax. -/
set_option linter.unusedSimpArgs false
set_option linter.unusedVariables false
namespace W06
open Go Go.AX Go.AX.Ty Go.Proofs

theorem take_len {α : Type} {l : List α} {k : Nat} (h : k ≤ l.length) : (l.take k).length = k := by simp; omega
theorem take_snoc {α : Type} {l : List α} {k : Nat} {y : α} (h : l[k]? = some y) : l.take (k + 1) = l.take k ++ [y] := by
  rw [List.take_add_one, h]; rfl

def mx (t u : W3) : W3 := if ltW t u then u else t
theorem mx_assoc (t u v : W3) : mx (mx t u) v = mx t (mx u v) := by
  simp only [mx]
  repeat' split
  all_goals first
    | rfl
    | (exfalso; simp_all only [ltW_iff, Bool.not_eq_true]; omega)
    | (exfalso
       rename_i h1 h2 h3
       have := ltW_iff t u
       have := ltW_iff u v
       have := ltW_iff t v
       simp_all
       omega)
    | skip
theorem maxFrom_eq : ∀ (l : List W3) (t : W3), l ≠ [] → maxFrom t l = mx t (maxW l)
  | [], _, h => (h rfl).elim
  | [x], t, _ => by simp only [maxFrom, maxW, mx]; rfl
  | x :: y :: r, t, _ => by
    have h1 := maxFrom_eq (y :: r) (mx t x) (by simp)
    have h2 := maxFrom_eq (y :: r) x (by simp)
    show maxFrom (mx t x) (y :: r) = mx t (maxFrom x (y :: r))
    rw [h1, h2, mx_assoc]
theorem maxFrom_app : ∀ (r s : List W3) (t : W3), maxFrom t (r ++ s) = maxFrom (maxFrom t r) s
  | [], s, t => rfl
  | x :: r, s, t => by simp only [List.cons_append, maxFrom, maxFrom_app r s]
theorem maxW_app {a b : List W3} (ha : a ≠ []) (hb : b ≠ []) : maxW [maxW a, maxW b] = maxW (a ++ b) := by
  cases a with
  | nil => exact (ha rfl).elim
  | cons x r =>
    show mx (maxW (x :: r)) (maxW b) = maxFrom x (r ++ b)
    rw [maxFrom_app, ← maxFrom_eq b _ hb]; rfl
theorem maxFrom_mem : ∀ (l : List W3) (t : W3), maxFrom t l = t ∨ maxFrom t l ∈ l
  | [], t => .inl rfl
  | x :: r, t => by
    simp only [maxFrom]
    rcases maxFrom_mem r (if ltW t x then x else t) with h | h
    · rw [h]; split
      · exact .inr (by simp)
      · exact .inl rfl
    · exact .inr (List.mem_cons_of_mem _ h)
theorem maxW_mem {l : List W3} (h : l ≠ []) : maxW l ∈ l := by
  cases l with
  | nil => exact (h rfl).elim
  | cons x r =>
    rcases maxFrom_mem r x with h | h
    · show maxFrom x r ∈ _; rw [h]; simp
    · exact List.mem_cons_of_mem _ h

theorem w8 (a b : List W3) (ha : Enc.ok a) (hb : Enc.ok b) : PureF Try.prog 8 [Enc.av a, Enc.av b] (.bool true) := by
  refine pureF_W mix c8 (by kernel_rfl) (by kernel_rfl) (by simp [flats, flat_av]) (by first | exact flat_av _ | simp [flat, flats, flat_av]) ?_
  by_cases hs : (a.length ≤ 20 ∧ b.length ≤ 20) ∧ (a.length ≠ 0 ∧ b.length ≠ 0)
  case neg =>
    simp -implicitDefEqProofs only [F8, go_sem, ↓reduceIte, Nat.reduceEqDiff, Nat.reduceAdd, Nat.reduceMul, Nat.reduceLeDiff, Nat.reduceSub, Nat.reduceLT, Int.reduceAdd, Int.reduceLE, Int.reduceLT, Int.reduceToNat, Int.reduceNeg, Int.reduceNegSucc, Int.reduceEq, Int.reduceNe, Int.reduceGT, Int.reduceGE, Int.reduceSub, Int.reduceMul, Int.reduceBEq, Int.reduceBNe, Nat.reduceBEq, Nat.reduceGT, reduceCtorEq]
    repeat' (first
      | contradiction
      | (refine brI_both (fun h hT => ?_) (fun h hT => ?_) <;> try simp -implicitDefEqProofs only [hT, go_sem, ↓reduceIte, Nat.reduceEqDiff, Nat.reduceAdd, Nat.reduceMul, Nat.reduceLeDiff, Nat.reduceSub, Nat.reduceLT, Int.reduceAdd, Int.reduceLE, Int.reduceLT, Int.reduceToNat, Int.reduceNeg, Int.reduceNegSucc, Int.reduceEq, Int.reduceNe, Int.reduceGT, Int.reduceGE, Int.reduceSub, Int.reduceMul, Int.reduceBEq, Int.reduceBNe, Nat.reduceBEq, Nat.reduceGT, reduceCtorEq] <;> try clear hT)
      | (refine callI_pure fx ?_; simp -implicitDefEqProofs only [go_sem, ↓reduceIte, Nat.reduceEqDiff, Nat.reduceAdd, Nat.reduceMul, Nat.reduceLeDiff, Nat.reduceSub, Nat.reduceLT, Int.reduceAdd, Int.reduceLE, Int.reduceLT, Int.reduceToNat, Int.reduceNeg, Int.reduceNegSucc, Int.reduceEq, Int.reduceNe, Int.reduceGT, Int.reduceGE, Int.reduceSub, Int.reduceMul, Int.reduceBEq, Int.reduceBNe, Nat.reduceBEq, Nat.reduceGT, reduceCtorEq]))
    all_goals omega
  case pos =>
    obtain ⟨⟨s1, s2⟩, s3, s4⟩ := hs
    have n1 : ((a.length : Int) > 20) = False := eq_false (by omega)
    have n2 : ((b.length : Int) > 20) = False := eq_false (by omega)
    have n3 : ((a.length : Int) = 0) = False := eq_false (by omega)
    have n4 : ((b.length : Int) = 0) = False := eq_false (by omega)
    simp -implicitDefEqProofs only [F8, n1, n2, n3, n4, go_sem, ↓reduceIte, Nat.reduceEqDiff, Nat.reduceAdd, Nat.reduceMul, Nat.reduceLeDiff, Nat.reduceSub, Nat.reduceLT, Int.reduceAdd, Int.reduceLE, Int.reduceLT, Int.reduceToNat, Int.reduceNeg, Int.reduceNegSucc, Int.reduceEq, Int.reduceNe, Int.reduceGT, Int.reduceGE, Int.reduceSub, Int.reduceMul, Int.reduceBEq, Int.reduceBNe, Nat.reduceBEq, Nat.reduceGT, reduceCtorEq]
    refine callI_pure fx ?_
    simp -implicitDefEqProofs only [n1, n2, n3, n4, go_sem, ↓reduceIte, Nat.reduceEqDiff, Nat.reduceAdd, Nat.reduceMul, Nat.reduceLeDiff, Nat.reduceSub, Nat.reduceLT, Int.reduceAdd, Int.reduceLE, Int.reduceLT, Int.reduceToNat, Int.reduceNeg, Int.reduceNegSucc, Int.reduceEq, Int.reduceNe, Int.reduceGT, Int.reduceGE, Int.reduceSub, Int.reduceMul, Int.reduceBEq, Int.reduceBNe, Nat.reduceBEq, Nat.reduceGT, reduceCtorEq]
    refine LoopI_sl (fun k : Nat => a.length - k) (fun k => [(0, Enc.av a), (1, Enc.av b), (5, .sl 0 (k * 3) 0 k 3), (6, .sl 1 0 0 0 3), (7, .int .i64 k)])
      (fun k s => k ≤ a.length ∧ 2 ≤ s.next ∧ AX.look 0 s.heap = some (.cells (k * 3) (cellsL (a.take k)) false) ∧ AX.look 1 s.heap = some (.cells 0 [] false)) 0 ?_ ?_
    · simp -implicitDefEqProofs only [List.take_zero, cellsL, go_sem, ↓reduceIte, Nat.reduceEqDiff, Nat.reduceAdd, Nat.reduceMul, Nat.reduceLeDiff, Nat.reduceSub, Nat.reduceLT, Int.reduceAdd, Int.reduceLE, Int.reduceLT, Int.reduceToNat, Int.reduceNeg, Int.reduceNegSucc, Int.reduceEq, Int.reduceNe, Int.reduceGT, Int.reduceGE, Int.reduceSub, Int.reduceMul, Int.reduceBEq, Int.reduceBNe, Nat.reduceBEq, Nat.reduceGT, reduceCtorEq]
    rintro k ρ ⟨h, m⟩ ⟨h1, h2, h3, h4⟩
    dsimp only at h2 h3 h4
    have hc : (cellsL (a.take k)).length = k * 3 := by rw [W3.clen, take_len h1]
    have ht : List.take (k * 3) (cellsL (a.take k)) = cellsL (a.take k) := List.take_of_length_le (by omega)
    have m0 : (m = 0) = False := eq_false (by omega)
    have m1 : (m = 1) = False := eq_false (by omega)
    rcases Nat.lt_or_ge k a.length with hk | hk
    · obtain ⟨y, hy, hd, hm⟩ := get_drop hk
      have hlt : ((k : Int) < (a.length : Int)) = True := eq_true (by omega)
      have w1 : IntKind.i64.wrap ((k : Int) + 1) = ((k + 1 : Nat) : Int) := by rw [wrap64 (by omega) (by omega)]; omega
      have hbd : ((k + 1) * 24 ≤ 140737488355328) = True := eq_true (by omega)
      have hmx : (k * 3 ≤ k * 3 + 2) = True := eq_true (by omega)
      have hm3 : (k + 1) * 3 = k * 3 + 3 := by omega
      have hsn : cellsL (a.take (k + 1)) = cellsL (a.take k) ++ [.int .i64 y.a, .int .i64 y.b, .int .i64 y.c] := by rw [take_snoc hy, cellsL_append]; rfl
      simp -implicitDefEqProofs only [hlt, hy, w1, h3, h4, hc, ht, hbd, m0, m1, hmx, List.replicate, List.flatten_cons, List.flatten_nil, List.singleton_append, go_sem, ↓reduceIte, Nat.reduceEqDiff, Nat.reduceAdd, Nat.reduceMul, Nat.reduceLeDiff, Nat.reduceSub, Nat.reduceLT, Int.reduceAdd, Int.reduceLE, Int.reduceLT, Int.reduceToNat, Int.reduceNeg, Int.reduceNegSucc, Int.reduceEq, Int.reduceNe, Int.reduceGT, Int.reduceGE, Int.reduceSub, Int.reduceMul, Int.reduceBEq, Int.reduceBNe, Nat.reduceBEq, Nat.reduceGT, reduceCtorEq]
      refine ⟨k + 1, by omega, ?_⟩
      rw [hsn, hm3]
      simp; omega
    have hk' : k = a.length := by omega
    subst hk'
    rw [List.take_length] at h3
    have hlt : ((a.length : Int) < (a.length : Int)) = False := eq_false (by omega)
    simp -implicitDefEqProofs only [hlt, go_sem, ↓reduceIte, Nat.reduceEqDiff, Nat.reduceAdd, Nat.reduceMul, Nat.reduceLeDiff, Nat.reduceSub, Nat.reduceLT, Int.reduceAdd, Int.reduceLE, Int.reduceLT, Int.reduceToNat, Int.reduceNeg, Int.reduceNegSucc, Int.reduceEq, Int.reduceNe, Int.reduceGT, Int.reduceGE, Int.reduceSub, Int.reduceMul, Int.reduceBEq, Int.reduceBNe, Nat.reduceBEq, Nat.reduceGT, reduceCtorEq]
    refine LoopI_sl (fun k : Nat => b.length - k) (fun k => [(0, Enc.av a), (1, Enc.av b), (5, .sl 0 (a.length * 3) 0 a.length 3), (6, .sl 1 (k * 3) 0 k 3), (8, .int .i64 k)])
      (fun k s => k ≤ b.length ∧ 2 ≤ s.next ∧ AX.look 0 s.heap = some (.cells (a.length * 3) (cellsL a) false) ∧ AX.look 1 s.heap = some (.cells (k * 3) (cellsL (b.take k)) false)) 0 ?_ ?_
    · simp -implicitDefEqProofs only [List.take_zero, cellsL, h3, h4, go_sem, ↓reduceIte, Nat.reduceEqDiff, Nat.reduceAdd, Nat.reduceMul, Nat.reduceLeDiff, Nat.reduceSub, Nat.reduceLT, Int.reduceAdd, Int.reduceLE, Int.reduceLT, Int.reduceToNat, Int.reduceNeg, Int.reduceNegSucc, Int.reduceEq, Int.reduceNe, Int.reduceGT, Int.reduceGE, Int.reduceSub, Int.reduceMul, Int.reduceBEq, Int.reduceBNe, Nat.reduceBEq, Nat.reduceGT, reduceCtorEq]
      exact h2
    clear h1 h2 h3 h4 hc ht m0 m1
    rintro k ρ ⟨h, m⟩ ⟨h1, h2, h3, h4⟩
    dsimp only at h2 h3 h4
    have hc : (cellsL (b.take k)).length = k * 3 := by rw [W3.clen, take_len h1]
    have ht : List.take (k * 3) (cellsL (b.take k)) = cellsL (b.take k) := List.take_of_length_le (by omega)
    have m0 : (m = 0) = False := eq_false (by omega)
    have m1 : (m = 1) = False := eq_false (by omega)
    rcases Nat.lt_or_ge k b.length with hk | hk
    · obtain ⟨y, hy, hd, hm⟩ := get_drop hk
      have hlt : ((k : Int) < (b.length : Int)) = True := eq_true (by omega)
      have w1 : IntKind.i64.wrap ((k : Int) + 1) = ((k + 1 : Nat) : Int) := by rw [wrap64 (by omega) (by omega)]; omega
      have hbd : ((k + 1) * 24 ≤ 140737488355328) = True := eq_true (by omega)
      have hmx : (k * 3 ≤ k * 3 + 2) = True := eq_true (by omega)
      have hm3 : (k + 1) * 3 = k * 3 + 3 := by omega
      have hsn : cellsL (b.take (k + 1)) = cellsL (b.take k) ++ [.int .i64 y.a, .int .i64 y.b, .int .i64 y.c] := by rw [take_snoc hy, cellsL_append]; rfl
      simp -implicitDefEqProofs only [hlt, hy, w1, h3, h4, hc, ht, hbd, m0, m1, hmx, List.replicate, List.flatten_cons, List.flatten_nil, List.singleton_append, go_sem, ↓reduceIte, Nat.reduceEqDiff, Nat.reduceAdd, Nat.reduceMul, Nat.reduceLeDiff, Nat.reduceSub, Nat.reduceLT, Int.reduceAdd, Int.reduceLE, Int.reduceLT, Int.reduceToNat, Int.reduceNeg, Int.reduceNegSucc, Int.reduceEq, Int.reduceNe, Int.reduceGT, Int.reduceGE, Int.reduceSub, Int.reduceMul, Int.reduceBEq, Int.reduceBNe, Nat.reduceBEq, Nat.reduceGT, reduceCtorEq]
      refine ⟨k + 1, by omega, ?_⟩
      rw [hsn, hm3]
      simp; omega
    have hk' : k = b.length := by omega
    subst hk'
    rw [List.take_length] at h4
    clear hlt
    have hlt : ((b.length : Int) < (b.length : Int)) = False := eq_false (by omega)
    have m2 : (m + 1 = 0) = False := eq_false (by omega)
    have m3 : (m + 1 = 1) = False := eq_false (by omega)
    have ca : (cellsL a).length = a.length * 3 := W3.clen a
    have cb : (cellsL b).length = b.length * 3 := W3.clen b
    have ta : List.take (a.length * 3) (cellsL a) = cellsL a := List.take_of_length_le (by omega)
    have tb : List.take (b.length * 3) (cellsL b) = cellsL b := List.take_of_length_le (by omega)
    have na : (a.length = 0) = False := eq_false s3
    have nb : (b.length = 0) = False := eq_false s4
    have hb1 : (a.length * 24 ≤ 140737488355328) = True := eq_true (by omega)
    have hb2 : ((a.length + b.length) * 24 ≤ 140737488355328) = True := eq_true (by omega)
    simp -implicitDefEqProofs only [hlt, h3, h4, ca, cb, ta, tb, na, nb, hb1, hb2, m0, m1, m2, m3, go_sem, ↓reduceIte, Nat.reduceEqDiff, Nat.reduceAdd, Nat.reduceMul, Nat.reduceLeDiff, Nat.reduceSub, Nat.reduceLT, Int.reduceAdd, Int.reduceLE, Int.reduceLT, Int.reduceToNat, Int.reduceNeg, Int.reduceNegSucc, Int.reduceEq, Int.reduceNe, Int.reduceGT, Int.reduceGE, Int.reduceSub, Int.reduceMul, Int.reduceBEq, Int.reduceBNe, Nat.reduceBEq, Nat.reduceGT, reduceCtorEq]
    have hm2 : 2 ≤ m := h2
    have c1 : ((a.length + b.length) * 3 ≤ (cellsL a ++ cellsL b).length) = True := eq_true (by rw [List.length_append]; omega)
    have t1 : List.take ((a.length + b.length) * 3) (cellsL a ++ cellsL b) = cellsL a ++ cellsL b := List.take_of_length_le (by rw [List.length_append]; omega)
    have hne1 : a ≠ [] := fun h => s3 (by rw [h]; rfl)
    have hne2 : b ≠ [] := fun h => s4 (by rw [h]; rfl)
    have hmax : PureF Try.prog 15 [.ps (a.length + b.length) (cellsL a ++ cellsL b)] (Enc.av (maxW (a ++ b))) := by
      have := w15 (a ++ b) (by rw [List.length_append]; omega)
      simpa [eav_L, cellsL_append] using this
    have hfin := maxW_app hne1 hne2
    have hmem := maxW_mem (l := a ++ b) (by simp [hne1])
    generalize maxW (a ++ b) = M at hmax hfin hmem
    simp -implicitDefEqProofs only [c1, t1, go_sem, ↓reduceIte, Nat.reduceEqDiff, Nat.reduceAdd, Nat.reduceMul, Nat.reduceLeDiff, Nat.reduceSub, Nat.reduceLT, Int.reduceAdd, Int.reduceLE, Int.reduceLT, Int.reduceToNat, Int.reduceNeg, Int.reduceNegSucc, Int.reduceEq, Int.reduceNe, Int.reduceGT, Int.reduceGE, Int.reduceSub, Int.reduceMul, Int.reduceBEq, Int.reduceBNe, Nat.reduceBEq, Nat.reduceGT, reduceCtorEq]
    refine callI_pure hmax ?_
    simp -implicitDefEqProofs only [h3, h4, m0, m1, m2, m3, go_sem, ↓reduceIte, Nat.reduceEqDiff, Nat.reduceAdd, Nat.reduceMul, Nat.reduceLeDiff, Nat.reduceSub, Nat.reduceLT, Int.reduceAdd, Int.reduceLE, Int.reduceLT, Int.reduceToNat, Int.reduceNeg, Int.reduceNegSucc, Int.reduceEq, Int.reduceNe, Int.reduceGT, Int.reduceGE, Int.reduceSub, Int.reduceMul, Int.reduceBEq, Int.reduceBNe, Nat.reduceBEq, Nat.reduceGT, reduceCtorEq]
    refine LoopI_sl (fun p : Nat × Bool => a.length - p.1) (fun p => [(5, .sl 0 (a.length * 3) 0 a.length 3), (6, .sl 1 (b.length * 3) 0 b.length 3), (9, .ptr (m + 1) 0 0), (10, .bool p.2), (11, .int .i64 p.1)])
      (fun p s => p.1 ≤ a.length ∧ m + 2 ≤ s.next ∧ AX.look 0 s.heap = some (.cells (a.length * 3) (cellsL a) false) ∧ AX.look 1 s.heap = some (.cells (b.length * 3) (cellsL b) false) ∧ AX.look (m + 1) s.heap = some (.cells 0 (Enc.cells M) false) ∧
        p.2 = (a.take p.1).any (fun x => eqW x M)) (0, false) ?_ ?_
    · simp -implicitDefEqProofs only [h3, h4, m0, m1, m2, m3, List.take_zero, List.any_nil, go_sem, ↓reduceIte, Nat.reduceEqDiff, Nat.reduceAdd, Nat.reduceMul, Nat.reduceLeDiff, Nat.reduceSub, Nat.reduceLT, Int.reduceAdd, Int.reduceLE, Int.reduceLT, Int.reduceToNat, Int.reduceNeg, Int.reduceNegSucc, Int.reduceEq, Int.reduceNe, Int.reduceGT, Int.reduceGE, Int.reduceSub, Int.reduceMul, Int.reduceBEq, Int.reduceBNe, Nat.reduceBEq, Nat.reduceGT, reduceCtorEq]
    clear h1 h2 h3 h4
    rintro ⟨k, q⟩ ρ ⟨h, n⟩ ⟨h1, h2, h3, h4, h5, h6⟩
    dsimp only at h1 h2 h3 h4 h5 h6
    simp only [W3.ecells] at h5
    have i0 : (0 < n) = True := eq_true (by omega)
    have i1 : (1 < n) = True := eq_true (by omega)
    have i2 : (m + 1 < n) = True := eq_true (by omega)
    rcases Nat.lt_or_ge k a.length with hk | hk
    · obtain ⟨y, hy, hd, hm⟩ := get_drop hk
      have hlt : ((k : Int) < (a.length : Int)) = True := eq_true (by omega)
      have hltn : (k < a.length) = True := eq_true hk
      have hle : (k * 3 ≤ a.length * 3) = True := eq_true (by omega)
      have w1 : IntKind.i64.wrap ((k : Int) + 1) = ((k + 1 : Nat) : Int) := by rw [wrap64 (by omega) (by omega)]; omega
      have hdr : List.drop (k * 3) (cellsL a) = .int .i64 y.a :: .int .i64 y.b :: .int .i64 y.c :: cellsL (a.drop (k + 1)) := by
        have := cellsL_drop a k
        rw [hd] at this
        exact this
      have hany : (a.take (k + 1)).any (fun x => eqW x M) = (q || (y.a == M.a && (y.b == M.b && y.c == M.c))) := by
        rw [take_snoc hy, List.any_append, h6]; simp [eqW]
      cases q
      all_goals
        simp -implicitDefEqProofs only [hlt, hltn, hle, w1, h3, h4, h5, ca, hdr, i0, i1, i2, go_sem, ↓reduceIte, Nat.reduceEqDiff, Nat.reduceAdd, Nat.reduceMul, Nat.reduceLeDiff, Nat.reduceSub, Nat.reduceLT, Int.reduceAdd, Int.reduceLE, Int.reduceLT, Int.reduceToNat, Int.reduceNeg, Int.reduceNegSucc, Int.reduceEq, Int.reduceNe, Int.reduceGT, Int.reduceGE, Int.reduceSub, Int.reduceMul, Int.reduceBEq, Int.reduceBNe, Nat.reduceBEq, Nat.reduceGT, reduceCtorEq]
        repeat' (refine andI_intro (by (first | omega | (simp [indepB, indep1, apart1, Nat.testBit_eq_decide_div_mod_eq]; done) | (simp [indepB, indep1, apart1, Nat.testBit_eq_decide_div_mod_eq]; omega) | kernel_rfl)) ?_; simp -implicitDefEqProofs only [h3, h4, h5, hltn, hle, w1, ca, hdr, i0, i1, i2, go_sem, ↓reduceIte, Nat.reduceEqDiff, Nat.reduceAdd, Nat.reduceMul, Nat.reduceLeDiff, Nat.reduceSub, Nat.reduceLT, Int.reduceAdd, Int.reduceLE, Int.reduceLT, Int.reduceToNat, Int.reduceNeg, Int.reduceNegSucc, Int.reduceEq, Int.reduceNe, Int.reduceGT, Int.reduceGE, Int.reduceSub, Int.reduceMul, Int.reduceBEq, Int.reduceBNe, Nat.reduceBEq, Nat.reduceGT, reduceCtorEq])
        refine ⟨(k + 1, _), by simp only; omega, ⟨rfl, rfl⟩, ?_⟩
        simp only [Nat.succ_le_of_lt hk, true_and]
        exact ⟨by omega, by rw [hany]; cases (y.a == M.a) <;> simp⟩
    have hk' : k = a.length := by omega
    subst hk'
    rw [List.take_length] at h6
    have hlt : ((a.length : Int) < (a.length : Int)) = False := eq_false (by omega)
    simp -implicitDefEqProofs only [hlt, go_sem, ↓reduceIte, Nat.reduceEqDiff, Nat.reduceAdd, Nat.reduceMul, Nat.reduceLeDiff, Nat.reduceSub, Nat.reduceLT, Int.reduceAdd, Int.reduceLE, Int.reduceLT, Int.reduceToNat, Int.reduceNeg, Int.reduceNegSucc, Int.reduceEq, Int.reduceNe, Int.reduceGT, Int.reduceGE, Int.reduceSub, Int.reduceMul, Int.reduceBEq, Int.reduceBNe, Nat.reduceBEq, Nat.reduceGT, reduceCtorEq]
    refine LoopI_sl (fun p : Nat × Bool => b.length - p.1) (fun p => [(5, .sl 0 (a.length * 3) 0 a.length 3), (6, .sl 1 (b.length * 3) 0 b.length 3), (9, .ptr (m + 1) 0 0), (10, .bool p.2), (12, .int .i64 p.1)])
      (fun p s => p.1 ≤ b.length ∧ m + 2 ≤ s.next ∧ AX.look 0 s.heap = some (.cells (a.length * 3) (cellsL a) false) ∧ AX.look 1 s.heap = some (.cells (b.length * 3) (cellsL b) false) ∧ AX.look (m + 1) s.heap = some (.cells 0 (Enc.cells M) false) ∧
        p.2 = (q || (b.take p.1).any (fun x => eqW x M))) (0, q) ?_ ?_
    · simp -implicitDefEqProofs only [h3, h4, h5, List.take_zero, List.any_nil, Bool.or_false, go_sem, ↓reduceIte, Nat.reduceEqDiff, Nat.reduceAdd, Nat.reduceMul, Nat.reduceLeDiff, Nat.reduceSub, Nat.reduceLT, Int.reduceAdd, Int.reduceLE, Int.reduceLT, Int.reduceToNat, Int.reduceNeg, Int.reduceNegSucc, Int.reduceEq, Int.reduceNe, Int.reduceGT, Int.reduceGE, Int.reduceSub, Int.reduceMul, Int.reduceBEq, Int.reduceBNe, Nat.reduceBEq, Nat.reduceGT, reduceCtorEq]
      exact h2
    clear h1 h2 h3 h4 h5 i0 i1 i2
    rintro ⟨k, q'⟩ ρ ⟨h, n⟩ ⟨h1, h2, h3, h4, h5, h7⟩
    dsimp only at h1 h2 h3 h4 h5 h7
    simp only [W3.ecells] at h5
    have i0 : (0 < n) = True := eq_true (by omega)
    have i1 : (1 < n) = True := eq_true (by omega)
    have i2 : (m + 1 < n) = True := eq_true (by omega)
    rcases Nat.lt_or_ge k b.length with hk | hk
    · obtain ⟨y, hy, hd, hm⟩ := get_drop hk
      have hlt : ((k : Int) < (b.length : Int)) = True := eq_true (by omega)
      have hltn : (k < b.length) = True := eq_true hk
      have hle : (k * 3 ≤ b.length * 3) = True := eq_true (by omega)
      have w1 : IntKind.i64.wrap ((k : Int) + 1) = ((k + 1 : Nat) : Int) := by rw [wrap64 (by omega) (by omega)]; omega
      have hdr : List.drop (k * 3) (cellsL b) = .int .i64 y.a :: .int .i64 y.b :: .int .i64 y.c :: cellsL (b.drop (k + 1)) := by
        have := cellsL_drop b k
        rw [hd] at this
        exact this
      have hany : (q || (b.take (k + 1)).any (fun x => eqW x M)) = (q' || (y.a == M.a && (y.b == M.b && y.c == M.c))) := by
        rw [take_snoc hy, List.any_append, h7]; simp [eqW, Bool.or_assoc]
      cases q'
      all_goals
        simp -implicitDefEqProofs only [hlt, hltn, hle, w1, h3, h4, h5, cb, hdr, i0, i1, i2, go_sem, ↓reduceIte, Nat.reduceEqDiff, Nat.reduceAdd, Nat.reduceMul, Nat.reduceLeDiff, Nat.reduceSub, Nat.reduceLT, Int.reduceAdd, Int.reduceLE, Int.reduceLT, Int.reduceToNat, Int.reduceNeg, Int.reduceNegSucc, Int.reduceEq, Int.reduceNe, Int.reduceGT, Int.reduceGE, Int.reduceSub, Int.reduceMul, Int.reduceBEq, Int.reduceBNe, Nat.reduceBEq, Nat.reduceGT, reduceCtorEq]
        repeat' (refine andI_intro (by (first | omega | (simp [indepB, indep1, apart1, Nat.testBit_eq_decide_div_mod_eq]; done) | (simp [indepB, indep1, apart1, Nat.testBit_eq_decide_div_mod_eq]; omega) | kernel_rfl)) ?_; simp -implicitDefEqProofs only [h3, h4, h5, hltn, hle, w1, cb, hdr, i0, i1, i2, go_sem, ↓reduceIte, Nat.reduceEqDiff, Nat.reduceAdd, Nat.reduceMul, Nat.reduceLeDiff, Nat.reduceSub, Nat.reduceLT, Int.reduceAdd, Int.reduceLE, Int.reduceLT, Int.reduceToNat, Int.reduceNeg, Int.reduceNegSucc, Int.reduceEq, Int.reduceNe, Int.reduceGT, Int.reduceGE, Int.reduceSub, Int.reduceMul, Int.reduceBEq, Int.reduceBNe, Nat.reduceBEq, Nat.reduceGT, reduceCtorEq])
        refine ⟨(k + 1, _), by simp only; omega, ⟨rfl, rfl⟩, ?_⟩
        simp only [Nat.succ_le_of_lt hk, true_and]
        exact ⟨by omega, by rw [hany]; cases (y.a == M.a) <;> simp⟩
    have hk' : k = b.length := by omega
    subst hk'
    rw [List.take_length, h6] at h7
    have hq : q' = true := by
      rw [h7]
      rcases List.mem_append.1 hmem with h | h
      · rw [show a.any (fun x => eqW x M) = true from List.any_eq_true.2 ⟨M, h, eqW_refl M⟩]; rfl
      · rw [show b.any (fun x => eqW x M) = true from List.any_eq_true.2 ⟨M, h, eqW_refl M⟩]; simp
    subst hq
    clear hlt
    have hlt : ((b.length : Int) < (b.length : Int)) = False := eq_false (by omega)
    have ka := w15 a (by omega)
    have kb := w15 b (by omega)
    have km := w15 [maxW a, maxW b] (by simp)
    rw [hfin] at km
    have n9 : (n = 0) = False := eq_false (by omega)
    have n10 : (n = 1) = False := eq_false (by omega)
    have n11 : (n = m + 1) = False := eq_false (by omega)
    simp -implicitDefEqProofs only [hlt, h3, h4, h5, ca, cb, ta, tb, n9, n10, n11, go_sem, ↓reduceIte, Nat.reduceEqDiff, Nat.reduceAdd, Nat.reduceMul, Nat.reduceLeDiff, Nat.reduceSub, Nat.reduceLT, Int.reduceAdd, Int.reduceLE, Int.reduceLT, Int.reduceToNat, Int.reduceNeg, Int.reduceNegSucc, Int.reduceEq, Int.reduceNe, Int.reduceGT, Int.reduceGE, Int.reduceSub, Int.reduceMul, Int.reduceBEq, Int.reduceBNe, Nat.reduceBEq, Nat.reduceGT, reduceCtorEq]
    repeat' (first
      | (refine dcallI_pure ka ?_; simp -implicitDefEqProofs only [h3, h4, h5, ca, cb, ta, tb, n9, n10, n11, go_sem, ↓reduceIte, Nat.reduceEqDiff, Nat.reduceAdd, Nat.reduceMul, Nat.reduceLeDiff, Nat.reduceSub, Nat.reduceLT, Int.reduceAdd, Int.reduceLE, Int.reduceLT, Int.reduceToNat, Int.reduceNeg, Int.reduceNegSucc, Int.reduceEq, Int.reduceNe, Int.reduceGT, Int.reduceGE, Int.reduceSub, Int.reduceMul, Int.reduceBEq, Int.reduceBNe, Nat.reduceBEq, Nat.reduceGT, reduceCtorEq])
      | (refine dcallI_pure kb ?_; simp -implicitDefEqProofs only [h3, h4, h5, ca, cb, ta, tb, n9, n10, n11, go_sem, ↓reduceIte, Nat.reduceEqDiff, Nat.reduceAdd, Nat.reduceMul, Nat.reduceLeDiff, Nat.reduceSub, Nat.reduceLT, Int.reduceAdd, Int.reduceLE, Int.reduceLT, Int.reduceToNat, Int.reduceNeg, Int.reduceNegSucc, Int.reduceEq, Int.reduceNe, Int.reduceGT, Int.reduceGE, Int.reduceSub, Int.reduceMul, Int.reduceBEq, Int.reduceBNe, Nat.reduceBEq, Nat.reduceGT, reduceCtorEq])
      | (refine dcallI_pure km ?_; simp -implicitDefEqProofs only [h3, h4, h5, ca, cb, ta, tb, n9, n10, n11, go_sem, ↓reduceIte, Nat.reduceEqDiff, Nat.reduceAdd, Nat.reduceMul, Nat.reduceLeDiff, Nat.reduceSub, Nat.reduceLT, Int.reduceAdd, Int.reduceLE, Int.reduceLT, Int.reduceToNat, Int.reduceNeg, Int.reduceNegSucc, Int.reduceEq, Int.reduceNe, Int.reduceGT, Int.reduceGE, Int.reduceSub, Int.reduceMul, Int.reduceBEq, Int.reduceBNe, Nat.reduceBEq, Nat.reduceGT, reduceCtorEq])
      | (refine andI_intro (by (first | omega | (simp [indepB, indep1, apart1, Nat.testBit_eq_decide_div_mod_eq]; done) | (simp [indepB, indep1, apart1, Nat.testBit_eq_decide_div_mod_eq]; omega) | kernel_rfl)) ?_; simp -implicitDefEqProofs only [h3, h4, h5, ca, cb, ta, tb, n9, n10, n11, go_sem, ↓reduceIte, Nat.reduceEqDiff, Nat.reduceAdd, Nat.reduceMul, Nat.reduceLeDiff, Nat.reduceSub, Nat.reduceLT, Int.reduceAdd, Int.reduceLE, Int.reduceLT, Int.reduceToNat, Int.reduceNeg, Int.reduceNegSucc, Int.reduceEq, Int.reduceNe, Int.reduceGT, Int.reduceGE, Int.reduceSub, Int.reduceMul, Int.reduceBEq, Int.reduceBNe, Nat.reduceBEq, Nat.reduceGT, reduceCtorEq]))
end W06
