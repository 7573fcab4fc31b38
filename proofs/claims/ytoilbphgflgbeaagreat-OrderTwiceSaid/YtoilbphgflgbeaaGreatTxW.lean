/- Weights: the small functions. -/
import Derived.Test.YtoilbphgflgbeaaGreatTxB
set_option linter.unusedSimpArgs false
set_option linter.unusedVariables false
namespace W15
open Go Go.AX Go.Proofs
theorem wt28 (a : Int) : Pure Tryz.prog 84 [.int .i64 a] (.bool false) := by
  refine pure_W mix (C0_ok _) c84 (by kernel_rfl) (by simp [F84]) ?_
  simp -implicitDefEqProofs only [F84, go_sem, seval]
def C28 : Known := fun f xs => if f = 84 then match xs with | [.int .i64 a] => some (.bool false) | _ => none else none
theorem C28_28 (a : Int) : C28 84 [.int .i64 a] = some (.bool false) := rfl
theorem C28_ok : KnownOk Tryz.prog C28 := fun f xs v h => by
    simp only [C28] at h
    split at h
    · rename_i hf; subst hf
      split at h
      · simp only [Option.some.injEq] at h; subst h; exact ⟨wt28 _, rfl, rfl⟩
      · simp at h
    · simp at h
def cmpI (a b : Int) : Int := if a < b then -1 else if b < a then 1 else 0
theorem wt24 (a b : Int) : Pure Tryz.prog 56 [.int .i64 a, .int .i64 b] (.int .i64 (cmpI a b)) := by
  refine pure_W mix C28_ok c56 (by kernel_rfl) (by simp [F56]) ?_
  simp -implicitDefEqProofs only [F56, C28_28, go_sem, seval]
  refine brI_intro (fun h => ?_) (fun h => ?_) <;> simp -implicitDefEqProofs only [h, C28_28, go_sem, seval]
  · simp [cmpI, h]
  · refine brI_intro (fun h2 => ?_) (fun h2 => ?_) <;> simp -implicitDefEqProofs only [h2, C28_28, go_sem, seval]
    · simp only [gt_iff_lt] at h2; simp [cmpI, h, h2]
    · simp only [gt_iff_lt] at h2; simp [cmpI, h, h2]
def orI (a b c : Int) : Int := if a ≠ 0 then a else if b ≠ 0 then b else c
theorem wt23 (a b c : Int) : Pure Tryz.prog 57 [.ps 3 [.int .i64 a, .int .i64 b, .int .i64 c]] (.int .i64 (orI a b c)) := by
  refine pure_W mix (C0_ok _) c57 (by kernel_rfl) (by simp [F57]) ?_
  simp -implicitDefEqProofs only [F57, elemA, go_sem, seval]
  rw [LoopI_def]
  refine ⟨4, ?_⟩
  simp -implicitDefEqProofs only [elemA, go_sem, seval]
  repeat' (refine brI_both (fun h hT => ?_) (fun h hT => ?_) <;> try simp -implicitDefEqProofs only [hT, *, elemA, go_sem, seval] <;> try clear hT)
  all_goals simp_all [orI]
def K13 : Known
  | 56, [.int .i64 a, .int .i64 b] => some (.int .i64 (cmpI a b))
  | 57, [.ps 3 [.int .i64 a, .int .i64 b, .int .i64 c]] => some (.int .i64 (orI a b c))
  | _, _ => none
theorem K13_24 (a b : Int) : K13 56 [.int .i64 a, .int .i64 b] = some (.int .i64 (cmpI a b)) := rfl
theorem K13_23 (a b c : Int) : K13 57 [.ps 3 [.int .i64 a, .int .i64 b, .int .i64 c]] = some (.int .i64 (orI a b c)) := rfl
theorem K13_ok : KnownOk Tryz.prog K13 := fun f xs v h => by
  unfold K13 at h
  split at h
  · simp only [Option.some.injEq] at h; subst h; exact ⟨wt24 _ _, rfl, rfl⟩
  · simp only [Option.some.injEq] at h; subst h; exact ⟨wt23 _ _ _, rfl, rfl⟩
  · simp at h
structure Wt where
  a : Int
  b : Int
  c : Int
def Wt.av (w : Wt) : AV := .agg [.int .i64 w.a, .int .i64 w.b, .int .i64 w.c]
def Wt.less (w v : Wt) : Bool := decide (orI (cmpI w.a v.a) (cmpI w.b v.b) (cmpI w.c v.c) < 0)
theorem wt13 (w v : Wt) : Pure Tryz.prog 85 [w.av, v.av] (.bool (w.less v)) := by
  refine pure_W mix K13_ok c85 (by kernel_rfl) (by simp [F85]) ?_
  simp -implicitDefEqProofs only [F85, Wt.av, K13_24, K13_23, go_sem, seval]
  refine andI_intro (by kernel_rfl) ?_
  simp -implicitDefEqProofs only [Wt.less, go_sem, seval]
theorem less_iff (w v : Wt) : w.less v = true ↔ w.a < v.a ∨ (w.a = v.a ∧ (w.b < v.b ∨ (w.b = v.b ∧ w.c < v.c))) := by
  simp only [Wt.less, orI, cmpI, decide_eq_true_eq]
  repeat' split
  all_goals (first | omega | (simp_all; omega) | simp_all)
end W15
/- Counting simple selectors. -/
set_option linter.unusedSimpArgs false
set_option linter.unusedVariables false
namespace W15
open Go Go.AX Go.AX.Ty Go.Proofs
mutual
def cntW (a b : Int) : Simple → Int
  | .mk k _ _ _ _ l => (if a ≤ k ∧ k ≤ b then 1 else 0) + (if k = 11 then cntL a b l else 0)
def cntL (a b : Int) : List Simple → Int
  | [] => 0
  | x :: r => cntW a b x + cntL a b r
end
theorem cnt_eq (a b : Int) (x : Simple) : cntW a b x = (if a ≤ x.kind ∧ x.kind ≤ b then 1 else 0) + (if x.kind = 11 then cntL a b x.l else 0) := by
  cases x; simp only [cntW, Simple.kind, Simple.l]; rfl
mutual
theorem cnt_bd (a b : Int) : ∀ x : Simple, 0 ≤ cntW a b x ∧ cntW a b x ≤ siz x
  | .mk k _ _ _ _ l => by
    have := cntL_bd a b l
    simp only [cntW, siz]
    split <;> split <;> omega
theorem cntL_bd (a b : Int) : ∀ l : List Simple, 0 ≤ cntL a b l ∧ cntL a b l ≤ sizL l
  | [] => by simp [cntL, sizL]
  | x :: r => by
    have := cntL_bd a b r
    have := cnt_bd a b x
    simp only [cntL, sizL]
    omega
end
end W15
/- What a selector weighs, by the reference. -/
set_option linter.unusedSimpArgs false
set_option linter.unusedVariables false
namespace W15
open Go Go.AX Go.AX.Ty Go.Proofs
def cntP (a b : Int) : List Part → Int
  | [] => 0
  | p :: r => cntL a b p.l + cntP a b r
def sizP : List Part → Nat
  | [] => 0
  | p :: r => 1 + sizL p.l + sizP r
theorem cntP_bd (a b : Int) : ∀ l : List Part, 0 ≤ cntP a b l ∧ cntP a b l ≤ sizP l
  | [] => by simp [cntP, sizP]
  | p :: r => by
    have := cntP_bd a b r
    have := cntL_bd a b p.l
    simp only [cntP, sizP]; omega
theorem len_sizP : ∀ l : List Part, l.length ≤ sizP l
  | [] => by simp [sizP]
  | p :: r => by have := len_sizP r; simp only [List.length_cons, sizP]; omega
def ofC (c : Complex) : W3 := ⟨cntP 3 3 c.parts, cntP 4 10 c.parts, cntP 2 2 c.parts + if c.pseudo = [] then 0 else 1⟩
end W15
/- What a selector weighs, by the program. -/
set_option linter.unusedSimpArgs false
set_option linter.unusedVariables false
namespace W15
open Go Go.AX Go.AX.Ty Go.Proofs
def plc (k : Int) : Int := if k = 3 then 0 else if 4 ≤ k ∧ k ≤ 10 then 1 else if k = 2 then 2 else 3
theorem wt27 (k : Int) : PureF Tryz.prog 124 [Enc.av k] (Enc.av (plc k)) := by
  refine pureF_W mix c124 (by kernel_rfl) (by kernel_rfl) rfl rfl ?_
  simp -implicitDefEqProofs only [F124, go_sem, seval]
  repeat' (refine brI_both (fun h hT => ?_) (fun h hT => ?_) <;> try simp -implicitDefEqProofs only [hT, go_sem, seval] <;> try clear hT)
  all_goals
    simp only [AV.int.injEq, true_and, plc]
    repeat' split
    all_goals omega
theorem wt21 : ∀ (N : Nat) (l : List Simple), sizL l ≤ N → N ≤ 100000 → ∀ (h : List (Nat × AX.Obj)) (n b : Nat) (p q r : Int), b < n → AX.look b h = some (.cells 0 [.int .i64 p, .int .i64 q, .int .i64 r] false) →
    0 ≤ p ∧ p + sizL l ≤ 10000000 → 0 ≤ q ∧ q + sizL l ≤ 10000000 → 0 ≤ r ∧ r + sizL l ≤ 10000000 →
    ACalls Tryz.prog 106 [.ptr b 0 0, Enc.av l] ⟨h, n⟩ fun v s' => v = .tup [] ∧ s' = ⟨putAt b (.cells 0 [.int .i64 (p + cntL 3 3 l), .int .i64 (q + cntL 4 10 l), .int .i64 (r + cntL 2 2 l)] false) h, n⟩ := fun N => by
  induction N using Nat.strongRecOn with
  | ind N ih =>
  intro l hN hM h n b p q r hb hl hp hq hr
  refine acalls_fin mix c106 (by kernel_rfl) (by kernel_rfl) (by simp [Cl, Cls]) rfl put_ex ?_
  have hlen := len_sizL l
  have bd1 := cntL_bd 3 3 l
  have bd2 := cntL_bd 4 10 l
  have bd3 := cntL_bd 2 2 l
  simp -implicitDefEqProofs only [F106, go_sem, seval]
  refine LoopI_sl (fun k : Nat => l.length - k) (fun k => [(0, .ptr b 0 0), (7, Enc.av l), (8, .int .i64 l.length), (9, .int .i64 k)])
    (fun k s => k ≤ l.length ∧ n ≤ s.next ∧ (∀ id, id < n → id ≠ b → AX.look id s.heap = AX.look id h) ∧
      ∃ p' q' r', AX.look b s.heap = some (.cells 0 [.int .i64 p', .int .i64 q', .int .i64 r'] false) ∧ p' + cntL 3 3 (l.drop k) = p + cntL 3 3 l ∧ q' + cntL 4 10 (l.drop k) = q + cntL 4 10 l ∧ r' + cntL 2 2 (l.drop k) = r + cntL 2 2 l ∧
        (0 ≤ p' ∧ p' + sizL (l.drop k) ≤ 10000000) ∧ (0 ≤ q' ∧ q' + sizL (l.drop k) ≤ 10000000) ∧ (0 ≤ r' ∧ r' + sizL (l.drop k) ≤ 10000000) ∧ sizL (l.drop k) ≤ N) 0 ?_ ?_
  · simp -implicitDefEqProofs only [go_sem, seval]
    refine ⟨fun _ _ _ => trivial, p, q, r, ?_⟩
    simp [hl]; omega
  rintro k ρ ⟨g, m⟩ ⟨h1, h2, h3, p', q', r', h4, h5, h6, h7, h8, h9, h10, h11⟩
  dsimp only at h2 h3 h4
  rcases Nat.lt_or_ge k l.length with hk | hk
  · obtain ⟨x, hx, hd, hm⟩ := get_drop hk
    have hlt : ((k : Int) < (l.length : Int)) = True := eq_true (by omega)
    simp only [hd, cntL, sizL] at h5 h6 h7 h8 h9 h10 h11
    rw [cnt_eq] at h5 h6 h7
    rw [siz_eq] at h8 h9 h10 h11
    have w1 : IntKind.i64.wrap ((k : Int) + 1) = ((k + 1 : Nat) : Int) := by rw [wrap64 (by omega) (by omega)]; omega
    have hne : (m = b) = False := eq_false (by omega)
    have a1 := cntL_bd 3 3 x.l
    have a2 := cntL_bd 4 10 x.l
    have a3 := cntL_bd 2 2 x.l
    have a4 := cntL_bd 3 3 (l.drop (k + 1))
    have a5 := cntL_bd 4 10 (l.drop (k + 1))
    have a6 := cntL_bd 2 2 (l.drop (k + 1))
    have w2 : IntKind.i64.wrap (p' + 1) = p' + 1 := wrap64 (by omega) (by repeat' split at h5; all_goals omega)
    have w3 : IntKind.i64.wrap (q' + 1) = q' + 1 := wrap64 (by omega) (by repeat' split at h6; all_goals omega)
    have w4 : IntKind.i64.wrap (r' + 1) = r' + 1 := wrap64 (by omega) (by repeat' split at h7; all_goals omega)
    have hfr : ∀ id, id < n → id ≠ b → ∀ o : AX.Obj, AX.look id ((m, o) :: g) = AX.look id h := fun id i1 i2 o => by
      simp only [AX.look]; rw [if_neg (by omega)]; exact h3 id i1 i2
    have hbl : ∀ o : AX.Obj, AX.look b ((m, o) :: g) = some (.cells 0 [.int .i64 p', .int .i64 q', .int .i64 r'] false) := fun o => by
      simp only [AX.look]; rw [if_neg (by omega)]; exact h4
    have hpr : ∀ (o o' : AX.Obj) (id : Nat), id < n → id ≠ b → AX.look id ((m, o) :: putAt b o' g) = AX.look id h := fun o o' id i1 i2 => by
      simp only [AX.look]; rw [if_neg (by omega), look_put_ne (Ne.symm i2)]; exact h3 id i1 i2
    have hpb : ∀ (o o' : AX.Obj), AX.look b ((m, o) :: putAt b o' g) = some o' := fun o o' => by
      simp only [AX.look]; rw [if_neg (by omega)]; exact look_put_eq h4
    by_cases h11' : x.kind = 11
    · have hT := eq_true h11'
      have hr := ih (N - 1) (by omega) x.l (by omega) (by omega)
      simp -implicitDefEqProofs only [hlt, hx, w1, hne, h4, hT, go_sem, seval]
      refine callI_st (hr _ _ b p' q' r' (by omega) (hbl _) (by omega) (by omega) (by omega)) ?_
      simp -implicitDefEqProofs only [w1, hne, h4, go_sem, seval]
      refine ⟨k + 1, by omega, rfl, by omega, by omega, fun id i1 i2 => ?_, _, _, _, rfl, ?_, ?_, ?_, by omega, by omega, by omega, by omega⟩
      · repeat rw [if_neg (by omega)]
        exact h3 id i1 i2
      · repeat' split at h5
        all_goals omega
      · repeat' split at h6
        all_goals omega
      · repeat' split at h7
        all_goals omega
    · have hT := eq_false h11'
      simp -implicitDefEqProofs only [hlt, hx, w1, hne, h4, hT, go_sem, seval]
      refine callI_pure (wt27 x.kind) ?_
      rw [if_neg h11'] at h5 h6 h7
      have hc : plc x.kind = 0 ∨ plc x.kind = 1 ∨ plc x.kind = 2 ∨ plc x.kind = 3 := by unfold plc; repeat' split
                                                                                        all_goals simp
      rcases hc with hc | hc | hc | hc
      all_goals
        simp -implicitDefEqProofs only [hc, hne, h4, w1, w2, w3, w4, go_sem, seval]
        repeat' (first | (refine andI_intro (by (first | omega | (simp [indepB, indep1, apart1, Nat.testBit_eq_decide_div_mod_eq]; done) | (simp [indepB, indep1, apart1, Nat.testBit_eq_decide_div_mod_eq]; omega) | kernel_rfl)) ?_; simp -implicitDefEqProofs only [hc, hne, h4, w1, w2, w3, w4, go_sem, seval]))
      all_goals unfold plc at hc
      all_goals
        refine ⟨k + 1, by omega, rfl, by omega, by omega, fun id i1 i2 => ?_, _, _, _, rfl, ?_, ?_, ?_, ?_, ?_, ?_, by omega⟩
        all_goals
          first
            | (repeat rw [if_neg (by omega)]
               exact h3 id i1 i2)
            | ((repeat' split at hc) <;> (repeat' split at h5) <;> (repeat' split at h6) <;> (repeat' split at h7) <;> omega)
  · have hlt : ((k : Int) < (l.length : Int)) = False := eq_false (by omega)
    rw [drop_all hk] at h5 h6 h7
    simp only [cntL, Int.add_zero] at h5 h6 h7
    subst h5; subst h6; subst h7
    simp -implicitDefEqProofs only [hlt, go_sem, seval]
    intro id o hid0 ho
    by_cases hid : id = b
    · subst hid
      rw [if_pos rfl, hl] at ho
      exact ⟨by rw [h4, ← ho]; rfl, .inr (by simp at ho; subst ho; simp [ClO, Cls, Cl])⟩
    · rw [if_neg (Ne.symm hid)] at ho
      exact ⟨by rw [h3 id hid0 hid]; exact ho, .inl ho⟩
end W15
/- What a selector weighs, by the program: the whole. -/
set_option linter.unusedSimpArgs false
set_option linter.unusedVariables false
namespace W15
open Go Go.AX Go.AX.Ty Go.Proofs
theorem wt11 (x : Complex) (hx : sizP x.parts ≤ 100000) : PureF Tryz.prog 79 [Enc.av x] (Enc.av (ofC x)) := by
  refine pureF_W mix c79 (by kernel_rfl) (by kernel_rfl) (by simp [flats, flat_av]) (flat_av _) ?_
  have hlen := len_sizP x.parts
  have b1 := cntP_bd 3 3 x.parts
  have b2 := cntP_bd 4 10 x.parts
  have b3 := cntP_bd 2 2 x.parts
  simp -implicitDefEqProofs only [F79, go_sem, seval]
  refine LoopI_sl (fun k : Nat => x.parts.length - k) (fun k => [(1, .ptr 0 0 0), (2, .ptr 1 0 0), (3, .ptr 2 0 0), (7, Enc.av x.parts), (8, .int .i64 x.parts.length), (9, .int .i64 k)])
    (fun k s => k ≤ x.parts.length ∧ 3 ≤ s.next ∧ AX.look 0 s.heap = some (.cells 0 (Enc.cells x) false) ∧ AX.look 1 s.heap = some (.cells 0 [.int .i64 0, .int .i64 0, .int .i64 0] false) ∧
      ∃ p q r, AX.look 2 s.heap = some (.cells 0 [.int .i64 p, .int .i64 q, .int .i64 r] false) ∧ p + cntP 3 3 (x.parts.drop k) = cntP 3 3 x.parts ∧ q + cntP 4 10 (x.parts.drop k) = cntP 4 10 x.parts ∧ r + cntP 2 2 (x.parts.drop k) = cntP 2 2 x.parts ∧
        0 ≤ p ∧ 0 ≤ q ∧ 0 ≤ r ∧ sizP (x.parts.drop k) ≤ 100000) 0 ?_ ?_
  · simp -implicitDefEqProofs only [go_sem, seval]
    exact ⟨0, 0, 0, rfl, by simp, by simp, by simp, by simp, by simp, by simp, hx⟩
  rintro k ρ ⟨h, m⟩ ⟨h1, h2, h3, h4, p, q, r, h5, h6, h7, h8, h9, h10, h11, h12⟩
  dsimp only at h2 h3 h4 h5
  have n0 : (m = 0) = False := eq_false (by omega)
  have n1 : (m = 1) = False := eq_false (by omega)
  have n2 : (m = 2) = False := eq_false (by omega)
  simp only [Complex.ecells] at h3
  rcases Nat.lt_or_ge k x.parts.length with hk | hk
  · obtain ⟨y, hy, hd, hm⟩ := get_drop hk
    have hlt : ((k : Int) < (x.parts.length : Int)) = True := eq_true (by omega)
    simp only [hd, cntP, sizP] at h6 h7 h8 h12
    have w1 : IntKind.i64.wrap ((k : Int) + 1) = ((k + 1 : Nat) : Int) := by rw [wrap64 (by omega) (by omega)]; omega
    have d1 := cntL_bd 3 3 y.l
    have d2 := cntL_bd 4 10 y.l
    have d3 := cntL_bd 2 2 y.l
    have e1 := cntP_bd 3 3 (x.parts.drop (k + 1))
    have e2 := cntP_bd 4 10 (x.parts.drop (k + 1))
    have e3 := cntP_bd 2 2 (x.parts.drop (k + 1))
    simp -implicitDefEqProofs only [hlt, hy, w1, n0, n1, n2, h3, h4, h5, go_sem, seval]
    refine callI_st (wt21 100000 y.l (by omega) (by omega) _ _ 2 p q r (by omega) (by simp only [AX.look]; rw [if_neg (by omega)]; exact h5) (by omega) (by omega) (by omega)) ?_
    simp -implicitDefEqProofs only [w1, n0, n1, n2, h3, h4, h5, go_sem, seval]
    refine ⟨k + 1, by omega, rfl, by omega, by omega, _, _, _, rfl, ?_⟩
    omega
  · have hlt : ((k : Int) < (x.parts.length : Int)) = False := eq_false (by omega)
    rw [drop_all hk] at h6 h7 h8
    simp only [cntP, Int.add_zero] at h6 h7 h8
    have w1 : IntKind.i64.wrap (r + 1) = r + 1 := wrap64 (by omega) (by omega)
    simp -implicitDefEqProofs only [hlt, w1, n0, n1, n2, h3, h4, h5, go_sem, seval]
    repeat' (refine brI_both (fun h hT => ?_) (fun h hT => ?_) <;> try simp -implicitDefEqProofs only [hT, w1, h3, h4, h5, go_sem, seval] <;> try clear hT)
    all_goals
      simp only [ofC, h6, h7, h8, AV.agg.injEq, List.cons.injEq, AV.int.injEq, true_and, and_true]
      simp_all
end W15
/- Less, Max, Nth, Small. -/
set_option linter.unusedSimpArgs false
set_option linter.unusedVariables false
namespace W15
open Go Go.AX Go.AX.Ty Go.Proofs
def ltW (w v : W3) : Bool := decide (w.a < v.a ∨ (w.a = v.a ∧ (w.b < v.b ∨ (w.b = v.b ∧ w.c < v.c))))
theorem ltW_iff (w v : W3) : ltW w v = true ↔ w.a < v.a ∨ (w.a = v.a ∧ (w.b < v.b ∨ (w.b = v.b ∧ w.c < v.c))) := by simp [ltW]
theorem vt13 (w v : W3) : PureF Tryz.prog 85 [Enc.av w, Enc.av v] (Enc.av (ltW w v)) := by
  have h := wt13 ⟨w.a, w.b, w.c⟩ ⟨v.a, v.b, v.c⟩
  refine ⟨?_, rfl, rfl⟩
  have e : Wt.less ⟨w.a, w.b, w.c⟩ ⟨v.a, v.b, v.c⟩ = ltW w v := by rw [Bool.eq_iff_iff, less_iff, ltW_iff]
  rw [e] at h
  exact h
def maxFrom (t : W3) : List W3 → W3
  | [] => t
  | x :: r => maxFrom (if ltW t x then x else t) r
def maxW : List W3 → W3
  | [] => ⟨0, 0, 0⟩
  | x :: r => maxFrom x r
end W15
/- The greatest. -/
set_option linter.unusedSimpArgs false
set_option linter.unusedVariables false
namespace W15
open Go Go.AX Go.AX.Ty Go.Proofs
theorem wt15 (l : List W3) (hl : l.length ≤ 1000000) : PureF Tryz.prog 80 [Enc.av l] (Enc.av (maxW l)) := by
  refine pureF_W mix c80 (by kernel_rfl) (by kernel_rfl) (by simp [flats, flat_av]) (flat_av _) ?_
  simp -implicitDefEqProofs only [F80, go_sem, seval]
  refine LoopI_sl (fun k : Nat => l.length - k) (fun k => [(2, .ptr 0 0 0), (3, .ptr 1 0 0), (6, Enc.av l), (7, .int .i64 l.length), (8, .int .i64 k)])
    (fun k s => k ≤ l.length ∧ 2 ≤ s.next ∧ AX.look 0 s.heap = some (.cells 0 [.int .i64 0, .int .i64 0, .int .i64 0] false) ∧
      ∃ t : W3, AX.look 1 s.heap = some (.cells 0 (Enc.cells t) false) ∧ (0 < k → maxFrom t (l.drop k) = maxW l) ∧ (k = 0 → t = ⟨0, 0, 0⟩)) 0 ?_ ?_
  · simp -implicitDefEqProofs only [go_sem, seval]
    exact ⟨⟨0, 0, 0⟩, rfl, by simp, by simp⟩
  rintro k ρ ⟨h, m⟩ ⟨h1, h2, h3, t, h4, h5, h6⟩
  dsimp only at h2 h3 h4
  have n0 : (m = 0) = False := eq_false (by omega)
  have n1 : (m = 1) = False := eq_false (by omega)
  simp only [W3.ecells] at h4
  rcases Nat.lt_or_ge k l.length with hk | hk
  · obtain ⟨y, hy, hd, hm⟩ := get_drop hk
    have hlt : ((k : Int) < (l.length : Int)) = True := eq_true (by omega)
    have w1 : IntKind.i64.wrap ((k : Int) + 1) = ((k + 1 : Nat) : Int) := by rw [wrap64 (by omega) (by omega)]; omega
    simp -implicitDefEqProofs only [hlt, hy, w1, n0, n1, h3, h4, go_sem, seval]
    repeat' (first
      | contradiction
      | (refine brI_both (fun h hT => ?_) (fun h hT => ?_) <;> try simp -implicitDefEqProofs only [hT, w1, n0, n1, h3, h4, go_sem, seval] <;> try clear hT)
      | (refine callI_pure (vt13 t y) ?_; simp -implicitDefEqProofs only [w1, n0, n1, h3, h4, go_sem, seval])
      | (refine andI_intro (by (first | omega | (simp [indepB, indep1, apart1, Nat.testBit_eq_decide_div_mod_eq]; done) | (simp [indepB, indep1, apart1, Nat.testBit_eq_decide_div_mod_eq]; omega) | kernel_rfl)) ?_; simp -implicitDefEqProofs only [w1, n0, n1, h3, h4, go_sem, seval]))
    · refine ⟨k + 1, by omega, rfl, by omega, by omega, y, rfl, fun _ => ?_, by omega⟩
      have : k = 0 := by omega
      subst this
      cases l with
      | nil => simp at hk
      | cons a r => simp at hy; subst hy; rfl
    · refine ⟨k + 1, by omega, rfl, by omega, by omega, y, rfl, fun _ => ?_, by omega⟩
      have h7 := h5 (by omega)
      rw [hd] at h7
      simp only [maxFrom] at h7
      rw [if_pos (by assumption)] at h7
      exact h7
    · refine ⟨k + 1, by omega, rfl, by omega, by omega, t, rfl, fun _ => ?_, by omega⟩
      have h7 := h5 (by omega)
      rw [hd] at h7
      simp only [maxFrom] at h7
      rw [if_neg (by assumption)] at h7
      exact h7
  · have hlt : ((k : Int) < (l.length : Int)) = False := eq_false (by omega)
    have ht : t = maxW l := by
      by_cases hz : k = 0
      · rw [h6 hz]
        cases l with
        | nil => rfl
        | cons a r => simp at hk; omega
      · have h7 := h5 (by omega)
        rw [drop_all hk] at h7
        exact h7
    subst ht
    simp -implicitDefEqProofs only [hlt, n0, n1, h3, h4, go_sem, seval]
end W15
