/- The reference: small letters, name, has, find, skip. -/
import Derived.Test.YtaapijjdmbolbaaGreatTxD
set_option linter.unusedSimpArgs false
set_option linter.unusedVariables false
namespace W09
open Go Go.AX Go.AX.Ty Go.Proofs
theorem w_Low (s : Str) (hs : s.length ≤ 1000000) : PureF Tryz.prog 27 [.str s] (.str (smallB s)) := by
  refine pureF_W mix c27 (by kernel_rfl) (by kernel_rfl) (by simp [flats, flat_av, Go.AX.flat]) (by first | exact flat_av _ | simp [flat, flats, flat_av]) ?_
  have hle : (s.length ≤ 140737488355328) = True := eq_true (by omega)
  simp -implicitDefEqProofs only [F27, hle, go_sem, seval]
  refine LoopI_sl (fun k : Nat => s.length - k) (fun k => [(3, .sl 0 (2 * s.length + 1) 0 s.length 1), (4, .int .i64 k)])
    (fun k st => st = ⟨[(0, .cells (2 * s.length + 1) (bytesAV (smK s k)) false)], 1⟩ ∧ k ≤ s.length) 0 ?_ ?_
  · simp -implicitDefEqProofs only [smK0, go_sem, seval]
  rintro k ρ st ⟨rfl, n1⟩
  have w1 : IntKind.i64.wrap ((k : Int) + 1) = ((k + 1 : Nat) : Int) := by rw [wrap64 (by omega) (by omega)]; omega
  rcases Nat.lt_or_ge k s.length with hn | hn
  · obtain ⟨c, hc⟩ : ∃ c, s[k]? = some c := ⟨s[k], by simp [hn]⟩
    have h2 : ((k : Int) < (s.length : Int)) = True := eq_true (by omega)
    have hx := smK_at hc
    have hkn := eq_true hn
    have hkl : (k ≤ (bytesAV (smK s k)).length) = True := eq_true (by rw [len_bytesAV, smK_len]; omega)
    have hkl' : k < (bytesAV (smK s k)).length := by rw [len_bytesAV, smK_len]; exact hn
    have hdr := drop_atA hx
    have hst := smK_step hc
    have hlt : (k + 1 ≤ (bytesAV (smK s k)).length) = True := eq_true (by rw [len_bytesAV, smK_len]; exact hn)
    by_cases hA : (65 : Int) ≤ (c.toNat : Int)
    · by_cases hZ : (c.toNat : Int) ≤ 90
      · have e : smB c = UInt8.ofNat (c.toNat + 32) := by unfold smB; rw [if_pos (by omega)]
        have hA' := eq_true hA
        have hZ' := eq_true hZ
        have w2 : IntKind.u8.wrap ((c.toNat : Int) + 32) = ((smB c).toNat : Int) := by rw [e, UInt8.toNat_ofNat', wrapu8 (by omega) (by omega)]; omega
        simp -implicitDefEqProofs only [h2, hkn, hkl, hdr, hA', hZ', w2, hlt, hst, w1, go_sem, seval]
        exact ⟨k + 1, by omega, rfl, by rw [List.append_assoc, List.cons_append, List.nil_append, ← set_tk hkl', hst], by omega⟩
      · have hA' := eq_true hA
        have hZ' := eq_false hZ
        have e : smB c = c := by unfold smB; rw [if_neg (by omega)]
        rw [e] at hst
        simp -implicitDefEqProofs only [h2, hkn, hkl, hdr, hA', hZ', hlt, hst, w1, go_sem, seval]
        exact ⟨k + 1, by omega, rfl, by rw [smK_same hc e], by omega⟩
    · have hA' := eq_false hA
      have e : smB c = c := by unfold smB; rw [if_neg (by omega)]
      simp -implicitDefEqProofs only [h2, hkn, hkl, hdr, hA', hlt, hst, w1, go_sem, seval]
      exact ⟨k + 1, by omega, rfl, by rw [smK_same hc e], by omega⟩
  · have h2 : ((k : Int) < (s.length : Int)) = False := eq_false (by omega)
    have hsm : (smallB s).length = s.length := by simp [smallB]
    have e1 : (s.length ≤ (bytesAV (smallB s)).length) = True := eq_true (by rw [len_bytesAV, hsm]; exact Nat.le_refl _)
    have e2 : List.take s.length (bytesAV (smallB s)) = bytesAV (smallB s) := List.take_of_length_le (by rw [len_bytesAV, hsm]; exact Nat.le_refl _)
    have e3 := bytesOf_AV' (smallB s)
    simp -implicitDefEqProofs only [h2, smK_end s hn, e1, e2, e3, go_sem, seval]
theorem w_rhas (s p : Str) (k : Nat) (hs : s.length ≤ 1000000) (hk : k ≤ s.length) (hp : p.length ≤ 1000000) : PureF Tryz.prog 50 [.str s, .int .i64 k, .str p] (.bool (hasB (s.drop k) p)) := by
  refine pureF_W mix c50 (by kernel_rfl) (by kernel_rfl) (by simp [flats, flat_av, Go.AX.flat]) (by first | exact flat_av _ | simp [flat, flats, flat_av]) ?_
  have w1 : IntKind.i64.wrap ((k : Int) + (p.length : Int)) = ((k + p.length : Nat) : Int) := by rw [wrap64 (by omega) (by omega)]; omega
  by_cases h : k + p.length ≤ s.length
  · have h1 : (((k + p.length : Nat) : Int) ≤ (s.length : Int)) = True := eq_true (by omega)
    have h2 : (k + p.length ≤ s.length) = True := eq_true h
    have h3 : (k ≤ k + p.length) = True := eq_true (by omega)
    simp -implicitDefEqProofs only [F50, w1, h1, h2, h3, go_sem, seval]
    rw [Nat.add_sub_cancel_left]
    have h4 : p.length ≤ (s.drop k).length := by simp; omega
    simp only [hasB, h4, decide_true, Bool.true_and]
    congr 1
    rw [Bool.eq_iff_iff]; simp
  · have h1 : (((k + p.length : Nat) : Int) ≤ (s.length : Int)) = False := eq_false (by omega)
    simp -implicitDefEqProofs only [F50, w1, h1, go_sem, seval]
    have h4 : ¬ p.length ≤ (s.drop k).length := by simp; omega
    simp only [hasB, h4, decide_false, Bool.false_and]
theorem w_rname (s : Str) (k : Nat) (hs : s.length ≤ 1000000) (hk : k ≤ s.length) : PureF Tryz.prog 26 [.str s, .int .i64 k] (.int .i64 ((k + nameLen (s.drop k) : Nat))) := by
  refine pureF_W mix c26 (by kernel_rfl) (by kernel_rfl) (by simp [flats, flat_av, Go.AX.flat]) (by first | exact flat_av _ | simp [flat, flats, flat_av]) ?_
  simp -implicitDefEqProofs only [F26, go_sem, seval]
  refine LoopI_sl (fun j : Nat => s.length - j) (fun j => [(0, .str s), (1, .int .i64 k), (5, .int .i64 j)])
    (fun j st => st = ⟨[], 0⟩ ∧ k ≤ j ∧ j ≤ s.length ∧ k + nameLen (s.drop k) = j + (if j = k then nameLen (s.drop j) else ((s.drop j).takeWhile inNameB).length)) k ?_ ?_
  · simp -implicitDefEqProofs only [go_sem, seval]
    exact hk
  rintro j ρ st ⟨rfl, n1, n2, n3⟩
  rw [n3]
  have w1 : IntKind.i64.wrap ((j : Int) + 1) = ((j + 1 : Nat) : Int) := by rw [wrap64 (by omega) (by omega)]; omega
  rcases Nat.lt_or_ge j s.length with hn | hn
  · obtain ⟨c, hc, hd, _⟩ := get_drop hn
    have h2 : ((j : Int) < (s.length : Int)) = True := eq_true (by omega)
    simp -implicitDefEqProofs only [h2, hc, go_sem, seval]
    refine callI_pure (w_rletter c) ?_
    rw [hd] at n3 ⊢
    cases hl : letterB c with
    | true =>
      have hin : inNameB c = true := by simp [inNameB, hl]
      simp -implicitDefEqProofs only [h2, w1, go_sem, seval]
      refine ⟨j + 1, by omega, rfl, by omega, by omega, ?_⟩
      rw [if_neg (by omega : ¬ j + 1 = k)]
      split
      · simp only [nameLen, hl, if_true]; omega
      · rw [List.takeWhile_cons, if_pos hin, List.length_cons]; omega
    | false =>
      rcases Nat.lt_or_ge k j with hkj | hkj
      · have hjk : ((j : Int) > (k : Int)) = True := eq_true (by omega)
        rw [if_neg (by omega)] at n3 ⊢
        have hD : inNameB c = ((decide (48 ≤ c.toNat) && decide (c.toNat ≤ 57)) || c == 45) := by
          have q1 : ((48 : UInt8) ≤ c) = (48 ≤ c.toNat) := propext UInt8.le_iff_toNat_le
          have q2 : (c ≤ (57 : UInt8)) = (c.toNat ≤ 57) := propext UInt8.le_iff_toNat_le
          simp [inNameB, hl, q1, q2]
        by_cases g1 : (48 : Int) ≤ (c.toNat : Int)
        · by_cases g2 : (c.toNat : Int) ≤ 57
          · have hin : inNameB c = true := by rw [hD, decide_eq_true (by omega : 48 ≤ c.toNat), decide_eq_true (by omega : c.toNat ≤ 57)]; rfl
            simp -implicitDefEqProofs only [h2, hc, hjk, eq_true g1, eq_true g2, w1, go_sem, seval]
            refine ⟨j + 1, by omega, rfl, by omega, by omega, ?_⟩
            rw [if_neg (by omega : ¬ j + 1 = k), List.takeWhile_cons, if_pos hin, List.length_cons]; omega
          · have q : c ≠ 45 := fun e => g2 (by rw [e]; decide)
            have q' : ((c.toNat : Int) = 45) = False := byte_ne (n := 45) (by omega) q
            have hin : inNameB c = false := by rw [hD, decide_eq_false (by omega : ¬ c.toNat ≤ 57)]; simp [q]
            simp -implicitDefEqProofs only [h2, hc, hjk, eq_true g1, eq_false g2, q', w1, go_sem, seval]
            rw [List.takeWhile_cons, if_neg (by simp [hin])]; simp
        · by_cases q : c = 45
          · subst q
            have hin : inNameB 45 = true := rfl
            simp -implicitDefEqProofs only [h2, hc, hjk, w1, go_sem, seval]
            refine ⟨j + 1, by omega, rfl, by omega, by omega, ?_⟩
            rw [if_neg (by omega : ¬ j + 1 = k), List.takeWhile_cons, if_pos hin, List.length_cons]; omega
          · have q' : ((c.toNat : Int) = 45) = False := byte_ne (n := 45) (by omega) q
            have hin : inNameB c = false := by rw [hD, decide_eq_false (by omega : ¬ 48 ≤ c.toNat)]; simp [q]
            simp -implicitDefEqProofs only [h2, hc, hjk, eq_false g1, q', w1, go_sem, seval]
            rw [List.takeWhile_cons, if_neg (by simp [hin])]; simp
      · have : j = k := by omega
        subst this
        have hjk : ((j : Int) > (j : Int)) = False := eq_false (by omega)
        simp -implicitDefEqProofs only [h2, hjk, go_sem, seval]
        simp [nameLen, hl]
  · have h2 : ((j : Int) < (s.length : Int)) = False := eq_false (by omega)
    simp -implicitDefEqProofs only [h2, go_sem, seval]
    split <;> simp [nameLen, List.drop_of_length_le hn]
theorem w_rfind (s e : Str) (k : Nat) (hs : s.length ≤ 1000000) (hk : k ≤ s.length) (he : e.length ≤ 1000000) : PureF Tryz.prog 28 [.str s, .int .i64 k, .str e] (.int .i64 ((k + (frontB e (s.drop k)).length : Nat))) := by
  refine pureF_W mix c28 (by kernel_rfl) (by kernel_rfl) (by simp [flats, flat_av, Go.AX.flat]) (by first | exact flat_av _ | simp [flat, flats, flat_av]) ?_
  simp -implicitDefEqProofs only [F28, go_sem, seval]
  refine LoopI_sl (fun j : Nat => s.length - j) (fun j => [(0, .str s), (1, .int .i64 j), (2, .str e)])
    (fun j st => st = ⟨[], 0⟩ ∧ j ≤ s.length ∧ k + (frontB e (s.drop k)).length = j + (frontB e (s.drop j)).length) k ?_ ?_
  · simp -implicitDefEqProofs only [go_sem, seval]
    exact hk
  rintro j ρ st ⟨rfl, n1, n2⟩
  rw [n2]
  have w1 : IntKind.i64.wrap ((j : Int) + 1) = ((j + 1 : Nat) : Int) := by rw [wrap64 (by omega) (by omega)]; omega
  rcases Nat.lt_or_ge j s.length with hn | hn
  · obtain ⟨c, hc, hd, _⟩ := get_drop hn
    have h2 : ((j : Int) < (s.length : Int)) = True := eq_true (by omega)
    simp -implicitDefEqProofs only [h2, hc, go_sem, seval]
    refine callI_pure (w_rhas s e j hs n1 he) ?_
    rw [hd]
    cases hh : hasB (c :: s.drop (j + 1)) e with
    | true =>
      have h3 : ((j : Int) ≤ (s.length : Int)) = True := eq_true (by omega)
      have hf : frontB e (c :: s.drop (j + 1)) = [] := by simp [frontB, hh]
      rw [hf]
      have h4 : ((s.length : Int) < (j : Int)) = False := eq_false (by omega)
      simp -implicitDefEqProofs only [h2, h4, if_false, go_sem, seval]
    | false =>
      have hf : frontB e (c :: s.drop (j + 1)) = c :: frontB e (s.drop (j + 1)) := by simp [frontB, hh]
      rw [hf, List.length_cons]
      simp -implicitDefEqProofs only [h2, w1, go_sem, seval]
      exact ⟨j + 1, by omega, rfl, by omega, by omega⟩
  · have h2 : ((j : Int) < (s.length : Int)) = False := eq_false (by omega)
    have hj : j = s.length := by omega
    subst hj
    simp -implicitDefEqProofs only [h2, List.drop_length, frontB, go_sem, seval]
theorem w_rskip (s : Str) (k : Nat) (hs : s.length ≤ 1000000) (hk : k ≤ s.length) : PureF Tryz.prog 74 [.str s, .int .i64 k] (.int .i64 ((k + ((s.drop k).takeWhile blankB).length : Nat))) := by
  refine pureF_W mix c74 (by kernel_rfl) (by kernel_rfl) (by simp [flats, flat_av, Go.AX.flat]) (by first | exact flat_av _ | simp [flat, flats, flat_av]) ?_
  simp -implicitDefEqProofs only [F74, go_sem, seval]
  refine LoopI_sl (fun j : Nat => s.length - j) (fun j => [(0, .str s), (1, .int .i64 j)])
    (fun j st => st = ⟨[], 0⟩ ∧ j ≤ s.length ∧ k + ((s.drop k).takeWhile blankB).length = j + ((s.drop j).takeWhile blankB).length) k ?_ ?_
  · simp -implicitDefEqProofs only [go_sem, seval]
    exact hk
  rintro j ρ st ⟨rfl, n1, n2⟩
  rw [n2]
  have w1 : IntKind.i64.wrap ((j : Int) + 1) = ((j + 1 : Nat) : Int) := by rw [wrap64 (by omega) (by omega)]; omega
  rcases Nat.lt_or_ge j s.length with hn | hn
  · obtain ⟨c, hc, hd, _⟩ := get_drop hn
    have h2 : ((j : Int) < (s.length : Int)) = True := eq_true (by omega)
    simp -implicitDefEqProofs only [h2, hc, go_sem, seval]
    refine callI_pure (w_rBlank c) ?_
    rw [hd, List.takeWhile_cons] at n2 ⊢
    cases hh : blankB c with
    | true =>
      rw [hh] at n2
      simp only [if_true, List.length_cons] at n2 ⊢
      simp -implicitDefEqProofs only [h2, w1, go_sem, seval]
      exact ⟨j + 1, by omega, rfl, by omega, by omega⟩
    | false =>
      simp -implicitDefEqProofs only [h2, go_sem, seval]
  · have h2 : ((j : Int) < (s.length : Int)) = False := eq_false (by omega)
    simp -implicitDefEqProofs only [h2, go_sem, seval]
    rw [List.drop_of_length_le hn]
    rfl
end W09
/- The reference: plain, signs, value. -/
namespace W09
open Go Go.AX Go.AX.Ty Go.Proofs
theorem hasB_len {s p : Str} (h : hasB s p = true) : p.length ≤ s.length := by
  obtain ⟨r, rfl⟩ := hasB_iff.1 h; simp
theorem w_rplain (s : Str) (hs : s.length ≤ 1000000) : PureF Tryz.prog 32 [.str s] (.str (plainB s)) := by
  refine pureF_W mix c32 (by kernel_rfl) (by kernel_rfl) (by simp [flats, flat_av, Go.AX.flat]) (by first | exact flat_av _ | simp [flat, flats, flat_av]) ?_
  simp -implicitDefEqProofs only [F32, go_sem, seval]
  refine LoopI_sl (fun x : Nat × Str => s.length - x.1) (fun x => [(0, .str s), (3, .str x.2), (4, .int .i64 x.1)])
    (fun x st => st = ⟨[], 0⟩ ∧ x.1 ≤ s.length ∧ x.2.length ≤ 6 * x.1 ∧ x.2 ++ plainB (s.drop x.1) = plainB s) (0, []) ?_ ?_
  · simp -implicitDefEqProofs only [go_sem, seval]
  rintro ⟨j, acc⟩ ρ st ⟨rfl, n1, n3, n2⟩
  simp only at n1 n2 n3
  have la1 : (acc.length ≤ 9223372036854775801) = True := eq_true (by omega)
  have la2 : (acc.length ≤ 9223372036854775802) = True := eq_true (by omega)
  have la3 : (acc.length ≤ 9223372036854775803) = True := eq_true (by omega)
  have la6 : (acc.length ≤ 9223372036854775806) = True := eq_true (by omega)
  rcases Nat.lt_or_ge j s.length with hn | hn
  · obtain ⟨c, hc, hd, _⟩ := get_drop hn
    have h2 : ((j : Int) < (s.length : Int)) = True := eq_true (by omega)
    have ww : ∀ n : Nat, n ≤ 10 → IntKind.i64.wrap ((j : Int) + (n : Int)) = ((j + n : Nat) : Int) := fun n h => by rw [wrap64 (by omega) (by omega)]; omega
    have w1 : IntKind.i64.wrap ((j : Int) + 1) = ((j + 1 : Nat) : Int) := ww 1 (by omega)
    have w4 : IntKind.i64.wrap ((j : Int) + 4) = ((j + 4 : Nat) : Int) := ww 4 (by omega)
    have w5 : IntKind.i64.wrap ((j : Int) + 5) = ((j + 5 : Nat) : Int) := ww 5 (by omega)
    have w6 : IntKind.i64.wrap ((j : Int) + 6) = ((j + 6 : Nat) : Int) := ww 6 (by omega)
    have hl : (s.drop j).length = s.length - j := by simp
    have step : ∀ (v : Str) (n : Nat), lookB (s.drop j) = (v, n, true) → 1 ≤ n → n ≤ (s.drop j).length → s.length - (j + n) < s.length - j ∧ j + n ≤ s.length ∧ (acc ++ v) ++ plainB (s.drop (j + n)) = plainB s := fun v n hv h1 h3 => by
      refine ⟨by omega, by omega, ?_⟩
      have := plainB_hit (s := s.drop j) (by rw [hv])
      rw [hv, List.drop_drop] at this
      rw [← n2, this, List.append_assoc]
    simp -implicitDefEqProofs only [h2, go_sem, seval]
    refine callI_pure (w_rhas s [38, 97, 109, 112, 59] j hs n1 (by decide)) ?_
    cases k1 : hasB (s.drop j) [38, 97, 109, 112, 59] with
    | true =>
      obtain ⟨z1, z2, z3⟩ := step [38] 5 (by simp [lookB, k1]) (by omega) (hasB_len k1)
      simp -implicitDefEqProofs only [w5, la6, go_sem, seval]
      exact ⟨(j + 5, acc ++ [38]), z1, ⟨rfl, rfl⟩, z2, by simp only [List.length_append, List.length_cons, List.length_nil]; omega, z3⟩
    | false =>
    simp -implicitDefEqProofs only [go_sem, seval]
    refine callI_pure (w_rhas s [38, 108, 116, 59] j hs n1 (by decide)) ?_
    cases k2 : hasB (s.drop j) [38, 108, 116, 59] with
    | true =>
      obtain ⟨z1, z2, z3⟩ := step [60] 4 (by simp [lookB, k1, k2]) (by omega) (hasB_len k2)
      simp -implicitDefEqProofs only [w4, la6, go_sem, seval]
      exact ⟨(j + 4, acc ++ [60]), z1, ⟨rfl, rfl⟩, z2, by simp only [List.length_append, List.length_cons, List.length_nil]; omega, z3⟩
    | false =>
    simp -implicitDefEqProofs only [go_sem, seval]
    refine callI_pure (w_rhas s [38, 103, 116, 59] j hs n1 (by decide)) ?_
    cases k3 : hasB (s.drop j) [38, 103, 116, 59] with
    | true =>
      obtain ⟨z1, z2, z3⟩ := step [62] 4 (by simp [lookB, k1, k2, k3]) (by omega) (hasB_len k3)
      simp -implicitDefEqProofs only [w4, la6, go_sem, seval]
      exact ⟨(j + 4, acc ++ [62]), z1, ⟨rfl, rfl⟩, z2, by simp only [List.length_append, List.length_cons, List.length_nil]; omega, z3⟩
    | false =>
    simp -implicitDefEqProofs only [go_sem, seval]
    refine callI_pure (w_rhas s [38, 113, 117, 111, 116, 59] j hs n1 (by decide)) ?_
    cases k4 : hasB (s.drop j) [38, 113, 117, 111, 116, 59] with
    | true =>
      obtain ⟨z1, z2, z3⟩ := step [34] 6 (by simp [lookB, k1, k2, k3, k4]) (by omega) (hasB_len k4)
      simp -implicitDefEqProofs only [w6, la6, go_sem, seval]
      exact ⟨(j + 6, acc ++ [34]), z1, ⟨rfl, rfl⟩, z2, by simp only [List.length_append, List.length_cons, List.length_nil]; omega, z3⟩
    | false =>
    have hm := plainB_miss (c := c) (r := s.drop (j + 1)) (by rw [← hd]; simp [lookB, k1, k2, k3, k4])
    have h4 : (j + 1 ≤ s.length) = True := eq_true (by omega)
    have h5 : (j ≤ j + 1) = True := eq_true (by omega)
    have h6 : List.take (j + 1 - j) (s.drop j) = [c] := by rw [hd, Nat.add_sub_cancel_left]; rfl
    simp -implicitDefEqProofs only [w1, h4, h5, h6, la6, go_sem, seval]
    exact ⟨(j + 1, acc ++ [c]), by show s.length - (j + 1) < _; omega, ⟨rfl, rfl⟩, by show j + 1 ≤ _; omega, by simp only [List.length_append, List.length_cons, List.length_nil]; omega, by rw [hd, hm] at n2; rw [← n2]; simp⟩
  · have h2 : ((j : Int) < (s.length : Int)) = False := eq_false (by omega)
    rw [List.drop_of_length_le hn] at n2
    simp -implicitDefEqProofs only [h2, go_sem, seval]
    rw [← n2]; simp [plainB, plainG]
theorem w_rsigns (s : Str) (hs : s.length ≤ 1000000) : PureF Tryz.prog 37 [.str s] (.str (signsB s)) := by
  refine pureF_W mix c37 (by kernel_rfl) (by kernel_rfl) (by simp [flats, flat_av, Go.AX.flat]) (by first | exact flat_av _ | simp [flat, flats, flat_av]) ?_
  simp -implicitDefEqProofs only [F37, go_sem, seval]
  refine LoopI_sl (fun x : Nat × Str => s.length - x.1) (fun x => [(0, .str s), (3, .str x.2), (4, .int .i64 x.1)])
    (fun x st => st = ⟨[], 0⟩ ∧ x.1 ≤ s.length ∧ x.2.length ≤ 6 * x.1 ∧ x.2 ++ signsB (s.drop x.1) = signsB s) (0, []) ?_ ?_
  · simp -implicitDefEqProofs only [go_sem, seval]
  rintro ⟨j, acc⟩ ρ st ⟨rfl, n1, n3, n2⟩
  simp only at n1 n2 n3
  have la1 : (acc.length ≤ 9223372036854775801) = True := eq_true (by omega)
  have la2 : (acc.length ≤ 9223372036854775802) = True := eq_true (by omega)
  have la3 : (acc.length ≤ 9223372036854775803) = True := eq_true (by omega)
  have la6 : (acc.length ≤ 9223372036854775806) = True := eq_true (by omega)
  rcases Nat.lt_or_ge j s.length with hn | hn
  · obtain ⟨c, hc, hd, _⟩ := get_drop hn
    have h2 : ((j : Int) < (s.length : Int)) = True := eq_true (by omega)
    have w1 : IntKind.i64.wrap ((j : Int) + 1) = ((j + 1 : Nat) : Int) := by rw [wrap64 (by omega) (by omega)]; omega
    have fin : ∀ v, sgB c = v → (acc ++ v) ++ signsB (s.drop (j + 1)) = signsB s := fun v h => by
      rw [hd] at n2
      rw [← n2, ← h]; simp [signsB]
    by_cases c38 : c = 38
    · subst c38
      simp -implicitDefEqProofs only [h2, hc, w1, la1, la2, la3, la6, go_sem, seval]
      exact ⟨(j + 1, acc ++ sgB _), by show s.length - (j + 1) < _; omega, ⟨rfl, rfl⟩, by show j + 1 ≤ _; omega, by simp only [List.length_append, sgB]; simp; omega, fin _ rfl⟩
    by_cases c60 : c = 60
    · subst c60
      simp -implicitDefEqProofs only [h2, hc, w1, la1, la2, la3, la6, go_sem, seval]
      exact ⟨(j + 1, acc ++ sgB _), by show s.length - (j + 1) < _; omega, ⟨rfl, rfl⟩, by show j + 1 ≤ _; omega, by simp only [List.length_append, sgB]; simp; omega, fin _ rfl⟩
    by_cases c62 : c = 62
    · subst c62
      simp -implicitDefEqProofs only [h2, hc, w1, la1, la2, la3, la6, go_sem, seval]
      exact ⟨(j + 1, acc ++ sgB _), by show s.length - (j + 1) < _; omega, ⟨rfl, rfl⟩, by show j + 1 ≤ _; omega, by simp only [List.length_append, sgB]; simp; omega, fin _ rfl⟩
    by_cases c34 : c = 34
    · subst c34
      simp -implicitDefEqProofs only [h2, hc, w1, la1, la2, la3, la6, go_sem, seval]
      exact ⟨(j + 1, acc ++ sgB _), by show s.length - (j + 1) < _; omega, ⟨rfl, rfl⟩, by show j + 1 ≤ _; omega, by simp only [List.length_append, sgB]; simp; omega, fin _ rfl⟩
    have q1 : ((c.toNat : Int) = 38) = False := byte_ne (n := 38) (by omega) c38
    have q2 : ((c.toNat : Int) = 60) = False := byte_ne (n := 60) (by omega) c60
    have q3 : ((c.toNat : Int) = 62) = False := byte_ne (n := 62) (by omega) c62
    have q4 : ((c.toNat : Int) = 34) = False := byte_ne (n := 34) (by omega) c34
    have h4 : (j + 1 ≤ s.length) = True := eq_true (by omega)
    have h5 : (j ≤ j + 1) = True := eq_true (by omega)
    have h6 : List.take (j + 1 - j) (s.drop j) = [c] := by rw [hd, Nat.add_sub_cancel_left]; rfl
    simp -implicitDefEqProofs only [h2, hc, q1, q2, q3, q4, w1, h4, h5, h6, la6, go_sem, seval]
    exact ⟨(j + 1, acc ++ [c]), by show s.length - (j + 1) < _; omega, ⟨rfl, rfl⟩, by show j + 1 ≤ _; omega, by simp only [List.length_append, List.length_cons, List.length_nil]; omega, fin _ (by simp [sgB, c38, c60, c62, c34])⟩
  · have h2 : ((j : Int) < (s.length : Int)) = False := eq_false (by omega)
    rw [List.drop_of_length_le hn] at n2
    simp -implicitDefEqProofs only [h2, go_sem, seval]
    rw [← n2]; simp [signsB]
end W09
/- The reference: value, attr. -/
namespace W09
open Go Go.AX Go.AX.Ty Go.Proofs
theorem front_take {e : Str} : ∀ t : Str, t.take (frontB e t).length = frontB e t
  | [] => rfl
  | c :: r => by
    simp only [frontB]
    split
    · rfl
    · rw [List.length_cons, List.take_succ_cons, front_take r]
theorem rest_drop {e : Str} : ∀ t : Str, restB e t = t.drop ((frontB e t).length + e.length)
  | [] => by simp [restB]
  | c :: r => by
    simp only [frontB, restB]
    split
    · simp
    · rw [List.length_cons, show (frontB e r).length + 1 + e.length = ((frontB e r).length + e.length) + 1 by omega, List.drop_succ_cons, rest_drop r]
theorem rest_len_eq {e : Str} (t : Str) : (restB e t).length = t.length - ((frontB e t).length + e.length) := by rw [rest_drop, List.length_drop]
theorem hasB_one {t : Str} {x : UInt8} : hasB t [x] = match t with | [] => false | c :: _ => decide (c = x) := by
  cases t with
  | nil => simp [hasB]
  | cons c r => simp [hasB]
theorem w_rvalue (s : Str) (k : Nat) (hs : s.length ≤ 1000000) (hk : k ≤ s.length) : PureF Tryz.prog 75 [.str s, .int .i64 k] (.tup [.str (valB (s.drop k)).1, .int .i64 ((s.length - (valB (s.drop k)).2.length : Nat))]) := by
  refine pureF_W mix c75 (by kernel_rfl) (by kernel_rfl) (by simp [flats, flat_av, Go.AX.flat]) (by first | exact flat_av _ | simp [flat, flats, flat_av]) ?_
  rcases Nat.lt_or_ge k s.length with hn | hn
  · obtain ⟨c, hc, hd, _⟩ := get_drop hn
    have h2 : ((k : Int) < (s.length : Int)) = True := eq_true (by omega)
    have w1 : IntKind.i64.wrap ((k : Int) + 1) = ((k + 1 : Nat) : Int) := by rw [wrap64 (by omega) (by omega)]; omega
    have hq : (hasB (s.drop k) [34] || hasB (s.drop k) [39]) = (decide (c = 34) || decide (c = 39)) := by rw [hd, hasB_one, hasB_one]
    have k1 : (k + 1 ≤ s.length) = True := eq_true (by omega)
    have k2 : (k ≤ k + 1) = True := eq_true (by omega)
    have k3 : List.take (k + 1 - k) (s.drop k) = [c] := by rw [hd, Nat.add_sub_cancel_left]; rfl
    have quoted : c = 34 ∨ c = 39 → valB (s.drop k) = (plainB (frontB [c] (s.drop (k + 1))), restB [c] (s.drop (k + 1))) := fun h => by
      unfold valB
      rw [hq, if_pos (by rcases h with rfl | rfl <;> simp), hd]; rfl
    have hfl := front_len (e := [c]) (s.drop (k + 1))
    rw [List.length_drop] at hfl
    have hre := rest_len_eq (e := [c]) (s.drop (k + 1))
    have hft := front_take (e := [c]) (s.drop (k + 1))
    have hpl := plainB_le (frontB [c] (s.drop (k + 1)))
    generalize hF : frontB [c] (s.drop (k + 1)) = F at *
    have w2 : IntKind.i64.wrap (((k + 1 + F.length : Nat) : Int) + 1) = ((k + 1 + F.length + 1 : Nat) : Int) := by rw [wrap64 (by omega) (by omega)]; omega
    have k4 : (k + 1 + F.length ≤ s.length) = True := eq_true (by omega)
    have k5 : (k + 1 ≤ k + 1 + F.length) = True := eq_true (by omega)
    have k6 : List.take (k + 1 + F.length - (k + 1)) (s.drop (k + 1)) = F := by rw [Nat.add_sub_cancel_left]; exact hft
    have hfind := w_rfind s [c] (k + 1) hs (by omega) (by show 1 ≤ _; omega)
    rw [hF] at hfind
    have fin : (if ((s.length : Nat) : Int) < ((k + 1 + F.length + 1 : Nat) : Int) then ((s.length : Nat) : Int) else ((k + 1 + F.length + 1 : Nat) : Int)) = ((s.length - (restB [c] (s.drop (k + 1))).length : Nat) : Int) := by
      rw [hre, List.length_drop]
      simp only [List.length_cons, List.length_nil]
      split <;> omega
    by_cases c34 : c = 34
    · subst c34
      rw [quoted (.inl rfl)]
      simp -implicitDefEqProofs only [F75, h2, hc, w1, k1, k2, k3, go_sem, seval]
      refine callI_pure hfind ?_
      simp -implicitDefEqProofs only [w1, w2, k4, k5, k6, go_sem, seval]
      refine callI_pure (w_rplain F (by omega)) ?_
      simp -implicitDefEqProofs only [w1, w2, fin, go_sem, seval]
    by_cases c39 : c = 39
    · subst c39
      rw [quoted (.inr rfl)]
      simp -implicitDefEqProofs only [F75, h2, hc, w1, k1, k2, k3, go_sem, seval]
      refine callI_pure hfind ?_
      simp -implicitDefEqProofs only [w1, w2, k4, k5, k6, go_sem, seval]
      refine callI_pure (w_rplain F (by omega)) ?_
      simp -implicitDefEqProofs only [w1, w2, fin, go_sem, seval]
    have q1 : ((c.toNat : Int) = 34) = False := byte_ne (n := 34) (by omega) c34
    have q2 : ((c.toNat : Int) = 39) = False := byte_ne (n := 39) (by omega) c39
    have ev : valB (s.drop k) = (plainB ((s.drop k).takeWhile inValB), (s.drop k).dropWhile inValB) := by
      unfold valB; rw [hq, if_neg (by simp [c34, c39])]
    rw [ev]
    simp -implicitDefEqProofs only [F75, h2, hc, q1, q2, go_sem, seval]
    refine LoopI_sl (fun j : Nat => s.length - j) (fun j => [(0, .str s), (1, .int .i64 k), (7, .int .i64 j)])
      (fun j st => st = ⟨[], 0⟩ ∧ k ≤ j ∧ j ≤ s.length ∧ k + ((s.drop k).takeWhile inValB).length = j + ((s.drop j).takeWhile inValB).length) k ?_ ?_
    · simp -implicitDefEqProofs only [go_sem, seval]
      exact hk
    rintro j ρ st ⟨rfl, n0, n1, n2⟩
    have w1 : IntKind.i64.wrap ((j : Int) + 1) = ((j + 1 : Nat) : Int) := by rw [wrap64 (by omega) (by omega)]; omega
    have fin : ((s.drop j).takeWhile inValB) = [] → ((s.drop k).takeWhile inValB) = List.take (j - k) (s.drop k) ∧ ((s.drop k).dropWhile inValB).length = s.length - j := fun h => by
      rw [h, List.length_nil] at n2
      constructor
      · rw [tw_take (s.drop k)]; congr 1; omega
      · rw [dw_drop, List.length_drop, List.length_drop]; omega
    have k1 : (j ≤ s.length) = True := eq_true n1
    have k2 : (k ≤ j) = True := eq_true n0
    have e3 : s.length - (s.length - j) = j := by omega
    have hpl := plainB_le (List.take (j - k) (s.drop k))
    have hsz : (List.take (j - k) (s.drop k)).length ≤ 1000000 := by simp; omega
    rcases Nat.lt_or_ge j s.length with hj | hj
    · obtain ⟨x, hx, hdx, _⟩ := get_drop hj
      have h3 : ((j : Int) < (s.length : Int)) = True := eq_true (by omega)
      simp -implicitDefEqProofs only [h3, hx, go_sem, seval]
      refine callI_pure (w_rBlank x) ?_
      rw [hdx, List.takeWhile_cons] at fin n2
      cases hb : blankB x with
      | true =>
        have hin : inValB x = false := by simp [inValB, hb]
        obtain ⟨f1, f2⟩ := fin (by rw [if_neg (by simp [hin])])
        simp -implicitDefEqProofs only [h3, k1, k2, go_sem, seval]
        refine callI_pure (w_rplain _ hsz) ?_
        rw [f1, f2, e3]
        simp -implicitDefEqProofs only [go_sem, seval]
      | false =>
        by_cases x62 : x = 62
        · subst x62
          obtain ⟨f1, f2⟩ := fin (by rw [if_neg (by decide)])
          simp -implicitDefEqProofs only [h3, hx, k1, k2, go_sem, seval]
          refine callI_pure (w_rplain _ hsz) ?_
          rw [f1, f2, e3]
          simp -implicitDefEqProofs only [go_sem, seval]
        · have q3 : ((x.toNat : Int) = 62) = False := byte_ne (n := 62) (by omega) x62
          have hin : inValB x = true := by simp [inValB, hb, x62]
          rw [if_pos hin, List.length_cons] at n2
          simp -implicitDefEqProofs only [h3, hx, q3, w1, go_sem, seval]
          exact ⟨j + 1, by omega, rfl, by omega, by omega, by omega⟩
    · have h3 : ((j : Int) < (s.length : Int)) = False := eq_false (by omega)
      obtain ⟨f1, f2⟩ := fin (by rw [List.drop_of_length_le hj]; rfl)
      simp -implicitDefEqProofs only [h3, k1, k2, go_sem, seval]
      refine callI_pure (w_rplain _ hsz) ?_
      rw [f1, f2, e3]
      simp -implicitDefEqProofs only [go_sem, seval]
  · have h2 : ((k : Int) < (s.length : Int)) = False := eq_false (by omega)
    have ev : valB (s.drop k) = ([], []) := by rw [List.drop_of_length_le hn]; rfl
    rw [ev]
    have hk' : k = s.length := by omega
    simp -implicitDefEqProofs only [F75, h2, go_sem, seval]
    rw [LoopI_def]
    refine ⟨1, ?_⟩
    have k1 : (k ≤ s.length) = True := eq_true hk
    simp -implicitDefEqProofs only [h2, k1, go_sem, seval]
    refine callI_pure (w_rplain _ (by rw [Nat.sub_self]; simp)) ?_
    simp -implicitDefEqProofs only [Nat.sub_self, List.take_zero, Nat.sub_zero, hk', go_sem, seval]
    rfl
theorem drop_suf {s r : Str} {k : Nat} (h : r = (s.drop k)) : s.drop (s.length - r.length) = r := by
  subst h
  rcases Nat.le_total k s.length with hk | hk
  · rw [List.length_drop, show s.length - (s.length - k) = k by omega]
  · rw [List.drop_of_length_le hk]; simp
theorem w_rattr (s : Str) (k : Nat) (hs : s.length ≤ 1000000) (hk : k ≤ s.length) : PureF Tryz.prog 53 [.str s, .int .i64 k] (.tup [Enc.av (attrB (s.drop k)).1, .int .i64 ((s.length - (attrB (s.drop k)).2.length : Nat))]) := by
  refine pureF_W mix c53 (by kernel_rfl) (by kernel_rfl) (by simp [flats, flat_av, Go.AX.flat]) (by first | exact flat_av _ | simp [flat, flats, flat_av]) ?_
  simp -implicitDefEqProofs only [F53, go_sem, seval]
  refine LoopI_sl (fun j : Nat => s.length - j) (fun j => [(0, .str s), (1, .int .i64 k), (4, .ptr 0 1 0), (6, .int .i64 j)])
    (fun j st => st = ⟨[(0, .cells 1 [.str [], .str []] false)], 1⟩ ∧ k ≤ j ∧ j ≤ s.length ∧ k + ((s.drop k).takeWhile inAttrB).length = j + ((s.drop j).takeWhile inAttrB).length) k ?_ ?_
  · simp -implicitDefEqProofs only [go_sem, seval]
    exact hk
  rintro j ρ st ⟨rfl, n0, n1, n2⟩
  have w1 : IntKind.i64.wrap ((j : Int) + 1) = ((j + 1 : Nat) : Int) := by rw [wrap64 (by omega) (by omega)]; omega
  have k1 : (j ≤ s.length) = True := eq_true n1
  have k2 : (k ≤ j) = True := eq_true n0
  by_cases hgo : ∃ x, s[j]? = some x ∧ inAttrB x = true
  · obtain ⟨x, hx, hin⟩ := hgo
    have hj : j < s.length := (List.getElem?_eq_some_iff.1 hx).1
    have hdx := drop_atA hx
    have h3 : ((j : Int) < (s.length : Int)) = True := eq_true (by omega)
    rw [hdx, List.takeWhile_cons, if_pos hin, List.length_cons] at n2
    simp -implicitDefEqProofs only [h3, hx, go_sem, seval]
    refine callI_pure (w_rinAttr x) ?_
    rw [hin]
    simp -implicitDefEqProofs only [w1, go_sem, seval]
    exact ⟨j + 1, by omega, rfl, by omega, by omega, by omega⟩
  have hnil : (s.drop j).takeWhile inAttrB = [] := by
    rcases Nat.lt_or_ge j s.length with hj | hj
    · obtain ⟨x, hx, hdx, _⟩ := get_drop hj
      rw [hdx, List.takeWhile_cons, if_neg (fun h => hgo ⟨x, hx, h⟩)]
    · rw [List.drop_of_length_le hj]; rfl
  rw [hnil, List.length_nil] at n2
  have f1 : ((s.drop k).takeWhile inAttrB) = List.take (j - k) (s.drop k) := by rw [tw_take (s.drop k)]; congr 1; omega
  have f2 : ((s.drop k).dropWhile inAttrB) = s.drop j := by rw [dw_drop, List.drop_drop]; congr 1
  have hsz : (List.take (j - k) (s.drop k)).length ≤ 1000000 := by simp; omega
  have hfl : ((s.drop j).takeWhile blankB).length ≤ s.length - j := by have := tw_le (p := blankB) (s.drop j); simpa using this
  have f3 : (s.drop j).dropWhile blankB = s.drop (j + ((s.drop j).takeWhile blankB).length) := by rw [dw_drop, List.drop_drop]
  have hsk := w_rskip s j hs n1
  generalize hN : j + ((s.drop j).takeWhile blankB).length = N at *
  have hNl : N ≤ s.length := by omega
  have ev : attrB (s.drop k) = if hasB (s.drop N) [61] = true then (⟨smallB (List.take (j - k) (s.drop k)), (valB ((s.drop (N + 1)).dropWhile blankB)).1⟩, (valB ((s.drop (N + 1)).dropWhile blankB)).2) else (⟨smallB (List.take (j - k) (s.drop k)), []⟩, s.drop j) := by
    unfold attrB
    rw [f1, f2, f3, List.drop_drop]
  have e3 : s.length - (s.drop j).length = j := by rw [List.length_drop]; omega
  rcases Nat.lt_or_ge j s.length with hj | hj
  case' inl =>
    obtain ⟨x, hx, hdx, _⟩ := get_drop hj
    have h3 : ((j : Int) < (s.length : Int)) = True := eq_true (by omega)
    have hin : inAttrB x = false := by cases h : inAttrB x with
      | false => rfl
      | true => exact absurd ⟨x, hx, h⟩ hgo
    simp -implicitDefEqProofs only [h3, hx, go_sem, seval]
    refine callI_pure (w_rinAttr x) ?_
    rw [hin]
    simp -implicitDefEqProofs only [k1, k2, go_sem, seval]
  case' inr =>
    have h3 : ((j : Int) < (s.length : Int)) = False := eq_false (by omega)
    simp -implicitDefEqProofs only [h3, k1, k2, go_sem, seval]
  all_goals
    refine callI_pure (w_Low _ hsz) ?_
    simp -implicitDefEqProofs only [go_sem, seval]
    refine callI_pure hsk ?_
    rcases Nat.lt_or_ge N s.length with hM | hM
    · obtain ⟨c, hc, hd, _⟩ := get_drop hM
      have h4 : ((N : Int) < (s.length : Int)) = True := eq_true (by omega)
      have w2 : IntKind.i64.wrap ((N : Int) + 1) = ((N + 1 : Nat) : Int) := by rw [wrap64 (by omega) (by omega)]; omega
      by_cases h61 : c = 61
      · subst h61
        have hq : hasB (s.drop N) [61] = true := by rw [hd]; simp [hasB]
        rw [if_pos hq] at ev
        have hgl : ((s.drop (N + 1)).takeWhile blankB).length ≤ s.length - (N + 1) := by have := tw_le (p := blankB) (s.drop (N + 1)); simpa using this
        have g3 : (s.drop (N + 1)).dropWhile blankB = s.drop (N + 1 + ((s.drop (N + 1)).takeWhile blankB).length) := by rw [dw_drop, List.drop_drop]
        have hsk2 := w_rskip s (N + 1) hs (by omega)
        generalize hN2 : N + 1 + ((s.drop (N + 1)).takeWhile blankB).length = N2 at *
        rw [g3] at ev
        rw [ev]
        simp -implicitDefEqProofs only [h4, hc, w2, go_sem, seval]
        refine callI_pure hsk2 ?_
        simp -implicitDefEqProofs only [go_sem, seval]
        refine callI_pure (w_rvalue s N2 hs (by omega)) ?_
        simp -implicitDefEqProofs only [go_sem, seval]
      · have q1 : ((c.toNat : Int) = 61) = False := byte_ne (n := 61) (by omega) h61
        have hq : hasB (s.drop N) [61] = false := by rw [hd]; simp [hasB, h61]
        rw [if_neg (by simp [hq])] at ev
        rw [ev]
        simp -implicitDefEqProofs only [h4, hc, q1, go_sem, seval]
        rw [e3]
    · have h4 : ((N : Int) < (s.length : Int)) = False := eq_false (by omega)
      have hq : hasB (s.drop N) [61] = false := by rw [List.drop_of_length_le hM]; rfl
      rw [if_neg (by simp [hq])] at ev
      rw [ev]
      simp -implicitDefEqProofs only [h4, go_sem, seval]
      rw [e3]
end W09
/- The reference: a tag that opens. -/
namespace W09
open Go Go.AX Go.AX.Ty Go.Proofs
theorem w_rin {s : St} {d e : Nat} {an : Str} {al : List Ty.Attr} (gd : s.get d = some (.cells e (cellsL al) false)) (hd : d < s.next) (hl : al.length ≤ 100000) :
    ACalls Tryz.prog 54 [.sl d e 0 al.length 2, .str an] s fun x s' => x = .bool (anyA an al) ∧ s' = s := by
  obtain ⟨h, m⟩ := s
  refine acalls_W mix (C0_ok _) c54 (by kernel_rfl) (Nat.le_of_ble_eq_true (by kernel_rfl)) ?_
  have gd' : AX.look d h = some (.cells e (cellsL al) false) := gd
  simp -implicitDefEqProofs only [F54, go_sem, seval]
  refine LoopI_sl (fun n : Nat => al.length - n) (fun n => [(0, .sl d e 0 al.length 2), (1, .str an), (5, .int .i64 n)])
    (fun n st => st = ⟨h, m⟩ ∧ n ≤ al.length ∧ anyA an al = anyA an (al.drop n)) 0 ?_ ?_
  · simp -implicitDefEqProofs only [List.drop_zero, go_sem, seval]
  rintro n ρ st ⟨rfl, n1, n2⟩
  have w1 : IntKind.i64.wrap ((n : Int) + 1) = ((n + 1 : Nat) : Int) := by rw [wrap64 (by omega) (by omega)]; omega
  rcases Nat.lt_or_ge n al.length with hn | hn
  · obtain ⟨x, hx, hdr, hm⟩ := get_drop hn
    have h2 : ((n : Int) < (al.length : Int)) = True := eq_true (by omega)
    have h3 : (n < al.length) = True := eq_true hn
    have hcl := Attr.clen al
    have h4 : (n * 2 ≤ (cellsL al).length) = True := eq_true (by rw [hcl]; omega)
    have h5 : List.drop (n * 2) (cellsL al) = .str x.name :: .str x.value :: cellsL (al.drop (n + 1)) := by
      rw [cellsL_drop2, hdr]; rfl
    rw [hdr] at n2
    by_cases hq : x.name = an
    · simp -implicitDefEqProofs only [gd', h2, h3, h4, h5, eq_true hq, go_sem, seval]
      rw [n2]; simp [anyA, hq]
    · simp -implicitDefEqProofs only [gd', h2, h3, h4, h5, eq_false hq, w1, go_sem, seval]
      exact ⟨n + 1, by omega, rfl, by omega, by rw [n2]; simp [anyA, hq]⟩
  · have h2 : ((n : Int) < (al.length : Int)) = False := eq_false (by omega)
    simp -implicitDefEqProofs only [h2, go_sem, seval]
    rw [List.drop_of_length_le hn] at n2
    rw [n2]; rfl
theorem w_rin0 {s : St} {an : Str} :
    ACalls Tryz.prog 54 [.nils, .str an] s fun x s' => x = .bool false ∧ s' = s := by
  obtain ⟨h, m⟩ := s
  refine acalls_W mix (C0_ok _) c54 (by kernel_rfl) (Nat.le_of_ble_eq_true (by kernel_rfl)) ?_
  simp -implicitDefEqProofs only [F54, go_sem, seval]
  rw [LoopI_def]
  refine ⟨1, ?_⟩
  simp -implicitDefEqProofs only [go_sem, seval]
theorem rest_suf {e : Str} (t : Str) : ∃ k, restB e t = t.drop k := ⟨_, rest_drop t⟩
theorem val_suf (t : Str) : ∃ k, (valB t).2 = t.drop k := by
  unfold valB
  split
  · simp only [rest_drop, List.drop_drop]; exact ⟨_, rfl⟩
  · exact ⟨_, dw_drop t⟩
theorem attr_suf (t : Str) : ∃ k, (attrB t).2 = t.drop k := by
  unfold attrB
  split
  · obtain ⟨k, hk⟩ := val_suf ((((t.dropWhile inAttrB).dropWhile blankB).drop 1).dropWhile blankB)
    simp only [hk]
    simp only [dw_drop, List.drop_drop]; exact ⟨_, rfl⟩
  · exact ⟨_, dw_drop t⟩
theorem w_ropen (s : Str) (k : Nat) (hs : s.length ≤ 400000) (hk : k < s.length) : PureF Tryz.prog 29 [.str s, .int .i64 k] (.tup [Enc.av (openB (s.drop k)).1, .int .i64 ((s.length - (openB (s.drop k)).2.length : Nat))]) := by
  refine pureF_W mix c29 (by kernel_rfl) (by kernel_rfl) (by simp [flats, flat_av, Go.AX.flat]) (by first | exact flat_av _ | simp [flat, flats, flat_av]) ?_
  have w1 : IntKind.i64.wrap ((k : Int) + 1) = ((k + 1 : Nat) : Int) := by rw [wrap64 (by omega) (by omega)]; omega
  have hrn := w_rname s (k + 1) (by omega) (by omega)
  have hnl := nameLen_le (s.drop (k + 1))
  rw [List.length_drop] at hnl
  have hop : openB (s.drop k) = (openT (smallB ((s.drop (k + 1)).take (nameLen (s.drop (k + 1))))) (attrsB [] ((s.drop (k + 1)).drop (nameLen (s.drop (k + 1))))).1, (attrsB [] ((s.drop (k + 1)).drop (nameLen (s.drop (k + 1))))).2) := by
    unfold openB; rw [List.drop_drop]
  rw [hop]
  clear hop
  generalize hN : k + 1 + nameLen (s.drop (k + 1)) = N at *
  rw [List.drop_drop, hN]
  have k1 : (N ≤ s.length) = True := eq_true (by omega)
  have k2 : (k + 1 ≤ N) = True := eq_true (by omega)
  have k3 : List.take (N - (k + 1)) (s.drop (k + 1)) = (s.drop (k + 1)).take (nameLen (s.drop (k + 1))) := by congr 1; omega
  have hlow := w_Low ((s.drop (k + 1)).take (nameLen (s.drop (k + 1)))) (by simp; omega)
  simp -implicitDefEqProofs only [F29, w1, go_sem, seval]
  refine callI_pure hrn ?_
  simp -implicitDefEqProofs only [w1, k1, k2, k3, go_sem, seval]
  refine callI_pure hlow ?_
  generalize smallB ((s.drop (k + 1)).take (nameLen (s.drop (k + 1)))) = nm at *
  simp -implicitDefEqProofs only [go_sem, seval]
  refine LoopI_sl (fun x : Nat × List Ty.Attr => s.length - x.1) (fun x => [(0, .str s), (4, .ptr 0 1 0), (6, .int .i64 x.1), (7, .ptr 1 1 0)])
    (fun x st => st.get 0 = some (.cells 1 [.int .i64 0, .str [], .nils, .str []] false) ∧ 2 ≤ st.next ∧ (∃ A, st.get 1 = some (.cells 1 [.int .i64 1, .str nm, A, .str []] false) ∧ ALs 1 x.2 A st) ∧ x.1 ≤ s.length ∧ x.2.length ≤ 16 ∧ attrsB [] (s.drop N) = attrsB x.2 (s.drop x.1)) (N, []) ?_ ?_
  · simp -implicitDefEqProofs only [go_sem, seval]
    exact ⟨⟨_, rfl, .inl ⟨rfl, rfl⟩⟩, by omega⟩
  rintro ⟨j, al⟩ ρ ⟨h3, m3⟩ ⟨i1, i2, ⟨A, i4, i5⟩, i6, i7, i8⟩
  have i1' : AX.look 0 h3 = _ := i1
  have i4' : AX.look 1 h3 = _ := i4
  simp only at i6 i7 i8 i2
  rw [i8]
  have v1 : IntKind.i64.wrap ((j : Int) + 1) = ((j + 1 : Nat) : Int) := by rw [wrap64 (by omega) (by omega)]; omega
  rcases Nat.lt_or_ge j s.length with hj | hj
  · obtain ⟨c, hc, hd, _⟩ := get_drop hj
    have h2 : ((j : Int) < (s.length : Int)) = True := eq_true (by omega)
    rw [hd] at i8 ⊢
    rw [attrsB_cons] at i8 ⊢
    by_cases h62 : c = 62
    · subst h62
      rw [if_pos rfl]
      have ep : s.length - (s.drop (j + 1)).length = j + 1 := by rw [List.length_drop]; omega
      have hmin : (((s.length : Nat) : Int) < ((j + 1 : Nat) : Int)) = False := eq_false (by omega)
      rcases i5 with ⟨rfl, rfl⟩ | ⟨a, e, rfl, a1, a2, a3⟩
      · simp -implicitDefEqProofs only [h2, hc, i1', i4', v1, hmin, go_sem, seval]
        rw [ep]; rfl
      · have a3' : AX.look a h3 = _ := a3
        have hal2 := Attr.clen al
        have a0 : (0 = a) = False := eq_false (by omega)
        have ha0 : (al.length * 2 ≤ (cellsL al).length) = True := eq_true (by rw [hal2]; exact Nat.le_refl _)
        have ha2 : List.take (al.length * 2) (cellsL al) = cellsL al := List.take_of_length_le (by rw [hal2]; exact Nat.le_refl _)
        simp -implicitDefEqProofs only [h2, hc, i1', i4', a3', v1, hmin, a0, ha0, ha2, Option.map_some, go_sem, seval]
        rw [ep]; rfl
    · rw [if_neg h62] at i8 ⊢
      have e62 : ((c.toNat : Int) = 62) = False := byte_ne (n := 62) (by omega) h62
      simp -implicitDefEqProofs only [h2, hc, e62, go_sem, seval]
      refine callI_pure (w_rinAttr c) ?_
      cases hin : inAttrB c with
      | false =>
        rw [if_pos hin] at i8
        simp -implicitDefEqProofs only [v1, go_sem, seval]
        exact ⟨(j + 1, al), by show s.length - (j + 1) < _; omega, rfl, i1', i2, ⟨A, i4', i5⟩, by show j + 1 ≤ _; omega, i7, rfl⟩
      | true =>
        rw [if_neg (by simp [hin])] at i8
        simp -implicitDefEqProofs only [go_sem, seval]
        refine callI_pure (w_rattr s j (by omega) (by omega)) ?_
        have hal := attr_len (r := s.drop (j + 1)) hin
        obtain ⟨kk, hkk⟩ := attr_suf (c :: s.drop (j + 1))
        rw [hd]
        generalize attrB (c :: s.drop (j + 1)) = W at *
        obtain ⟨⟨an, av⟩, w⟩ := W
        simp only at i8 hal hkk
        rw [← hd, List.drop_drop] at hkk
        have hww := drop_suf hkk
        rw [List.length_cons, List.length_drop] at hal
        have hwl : w.length ≤ s.length := by omega
        generalize hJ : s.length - w.length = J at *
        have hJl : J ≤ s.length := by omega
        rw [← hww] at i8 ⊢
        have mm : (m3 = 1) = False := eq_false (by omega)
        have mm0 : (m3 = 0) = False := eq_false (by omega)
        have mm1 : (m3 + 1 = 1) = False := eq_false (by omega)
        have mm2 : (m3 + 1 + 1 = 1) = False := eq_false (by omega)
        rcases i5 with ⟨rfl, rfl⟩ | ⟨a, e, rfl, a1, a2, a3⟩
        · simp -implicitDefEqProofs only [Attr.eav, i4', mm, mm0, go_sem, seval]
          refine callI_st w_rin0 ?_
          simp -implicitDefEqProofs only [i4', mm, mm1, mm2, if_true, go_sem, seval]
          refine ⟨(J, [⟨an, av⟩]), by show s.length - J < _; omega, rfl, by rw [if_neg (by omega)]; exact i1', ⟨_, rfl, .inr ⟨m3 + 1 + 1, 5, rfl, by omega, Nat.lt_succ_self _, ?_⟩⟩, hJl, by show 1 ≤ 16; omega, rfl⟩
          show AX.look _ (_ :: _) = _
          simp only [AX.look, if_true]; rfl
        · have a3' : AX.look a h3 = _ := a3
          have a2' : a < m3 := a2
          have ma : (m3 = a) = False := eq_false (by omega)
          have ma1 : (m3 + 1 = a) = False := eq_false (by omega)
          have am : (a = 1) = False := eq_false (by omega)
          have hal2 := Attr.clen al
          have i7' : al.length ≤ 16 := i7
          have ha1 : ((al.length + 1) * 32 ≤ 140737488355328) = True := eq_true (by omega)
          have ha0 : (al.length * 2 ≤ (cellsL al).length) = True := eq_true (by rw [hal2]; exact Nat.le_refl _)
          simp -implicitDefEqProofs only [Attr.eav, i4', mm, a3', ma, ha0, go_sem, seval]
          refine callI_st (w_rin (an := an) (d := a) (e := e) (al := al) (by show AX.look a (_ :: _) = _; simp only [AX.look, ma, if_false]; exact a3') (Nat.lt_succ_of_lt a2') (by omega)) ?_
          cases hany : anyA an al with
          | true =>
            simp -implicitDefEqProofs only [i4', mm, go_sem, seval]
            refine ⟨(J, al), by show s.length - J < _; omega, rfl, by rw [if_neg (by omega)]; exact i1', by omega, ⟨_, rfl, .inr ⟨a, e, rfl, a1, Nat.lt_succ_of_lt a2', ?_⟩⟩, hJl, i7, ?_⟩
            · show AX.look a (_ :: _) = _
              rw [AX.look, if_neg (by omega)]; exact a3'
            · unfold addA; rw [if_neg (by intro hh; have := hany.symm.trans hh.1; simp at this)]
          | false =>
            rcases Nat.lt_or_ge al.length 16 with h16 | h16
            · have h16' : ((al.length : Int) < 16) = True := eq_true (by omega)
              simp -implicitDefEqProofs only [i4', mm, mm1, h16', a3', ma, ma1, am, hal2, ha1, Nat.le_refl, go_sem, seval]
              refine ⟨(J, al ++ [⟨an, av⟩]), by show s.length - J < _; omega, rfl, by rw [if_neg (by omega), if_neg (by omega)]; exact i1', ⟨_, rfl, .inr ⟨a, nextV false e (al.length * 2 + 2), by rw [List.length_append]; rfl, a1, by show a < m3 + 1 + 1; omega, ?_⟩⟩, hJl, by rw [List.length_append]; show al.length + 1 ≤ 16; omega, ?_⟩
              · show AX.look a (_ :: _) = _
                simp only [AX.look]
                rw [if_neg (by omega), if_neg (by omega), look_put_ne (by omega), look_put_eq a3', cellsL_append, List.take_of_length_le (by rw [hal2]; exact Nat.le_refl _)]; rfl
              · unfold addA; rw [if_pos ⟨hany, h16⟩]
            · have h16' : ((al.length : Int) < 16) = False := eq_false (by omega)
              simp -implicitDefEqProofs only [i4', mm, h16', go_sem, seval]
              refine ⟨(J, al), by show s.length - J < _; omega, rfl, by rw [if_neg (by omega)]; exact i1', by omega, ⟨_, rfl, .inr ⟨a, e, rfl, a1, Nat.lt_succ_of_lt a2', ?_⟩⟩, hJl, i7, ?_⟩
              · show AX.look a (_ :: _) = _
                rw [AX.look, if_neg (by omega)]; exact a3'
              · unfold addA; rw [if_neg (by intro hh; have := hh.2; omega)]
  · have h2 : ((j : Int) < (s.length : Int)) = False := eq_false (by omega)
    rw [List.drop_of_length_le hj, attrsB_nil]
    have hmin : (((s.length : Nat) : Int) < ((j + 1 : Nat) : Int)) = True := eq_true (by omega)
    rcases i5 with ⟨rfl, rfl⟩ | ⟨a, e, rfl, a1, a2, a3⟩
    · simp -implicitDefEqProofs only [h2, i1', i4', v1, hmin, go_sem, seval]
      rfl
    · have a3' : AX.look a h3 = _ := a3
      have hal2 := Attr.clen al
      have a0 : (0 = a) = False := eq_false (by omega)
      have ha0 : (al.length * 2 ≤ (cellsL al).length) = True := eq_true (by rw [hal2]; exact Nat.le_refl _)
      have ha2 : List.take (al.length * 2) (cellsL al) = cellsL al := List.take_of_length_le (by rw [hal2]; exact Nat.le_refl _)
      simp -implicitDefEqProofs only [h2, i1', i4', a3', v1, hmin, a0, ha0, ha2, Option.map_some, go_sem, seval]
      rfl
end W09
/- The reference: raw, kind, lost, put. -/
namespace W09
open Go Go.AX Go.AX.Ty Go.Proofs
theorem byteAll {P : UInt8 → Bool} (h : (List.range 256).all (fun n => P (UInt8.ofNat n)) = true) (c : UInt8) : P c = true := by
  have hc := List.all_eq_true.1 h c.toNat (List.mem_range.2 c.toNat_lt)
  rwa [UInt8.ofNat_toNat] at hc
def end1 (c : UInt8) : Bool := blankB c || c == 47 || c == 62
set_option maxRecDepth 100000 in
theorem end1_small (c : UInt8) : end1 (smB c) = end1 c := by
  have := byteAll (P := fun c => end1 (smB c) == end1 c) (by kernel_rfl) c
  simpa using this
theorem endB_small (t : Str) : endB (smallB t) = endB t := by
  cases t with
  | nil => rfl
  | cons c r => exact end1_small c
theorem hasB_small {t p : Str} : hasB (smallB t) p = (decide (p.length ≤ t.length) && decide (smallB (t.take p.length) = p)) := by
  rw [Bool.eq_iff_iff]; simp [hasB, smallB, List.map_take]
  exact fun _ => decide_eq_true_iff
theorem raw_step (c : UInt8) (r : Str) : rawB (c :: r) = if (decide (7 ≤ (c :: r).length) && decide (smallB ((c :: r).take 7) = sEnd) && endB ((c :: r).drop 7)) = true then 0 else rawB r + 1 := by
  have h1 : hasB (smallB (c :: r)) sEnd = (decide (7 ≤ (c :: r).length) && decide (smallB ((c :: r).take 7) = sEnd)) := hasB_small
  have h2 : endB ((smallB (c :: r)).drop 7) = endB ((c :: r).drop 7) := by
    rw [show (smallB (c :: r)).drop 7 = smallB ((c :: r).drop 7) by simp [smallB, List.map_drop]]; exact endB_small _
  show rawL (smB c :: smallB r) = _
  rw [rawL, ← h2, ← h1]; rfl
theorem w_rraw (s : Str) (k : Nat) (hs : s.length ≤ 1000000) (hk : k ≤ s.length) : PureF Tryz.prog 30 [.str s, .int .i64 k] (.int .i64 ((k + rawB (s.drop k) : Nat))) := by
  refine pureF_W mix c30 (by kernel_rfl) (by kernel_rfl) (by simp [flats, flat_av, Go.AX.flat]) (by first | exact flat_av _ | simp [flat, flats, flat_av]) ?_
  simp -implicitDefEqProofs only [F30, go_sem, seval]
  refine LoopI_sl (fun j : Nat => s.length - j) (fun j => [(0, .str s), (1, .int .i64 j)])
    (fun j st => st = ⟨[], 0⟩ ∧ j ≤ s.length ∧ k + rawB (s.drop k) = j + rawB (s.drop j)) k ?_ ?_
  · simp -implicitDefEqProofs only [go_sem, seval]
    exact hk
  rintro j ρ st ⟨rfl, n1, n2⟩
  rw [n2]
  have w1 : IntKind.i64.wrap ((j : Int) + 1) = ((j + 1 : Nat) : Int) := by rw [wrap64 (by omega) (by omega)]; omega
  have w7 : IntKind.i64.wrap ((j : Int) + 7) = ((j + 7 : Nat) : Int) := by rw [wrap64 (by omega) (by omega)]; omega
  rcases Nat.lt_or_ge j s.length with hj | hj
  · obtain ⟨c, hc, hd, _⟩ := get_drop hj
    have h2 : ((j : Int) < (s.length : Int)) = True := eq_true (by omega)
    have hst := raw_step c (s.drop (j + 1))
    rw [← hd, List.length_drop, List.drop_drop] at hst
    have miss : (decide (7 ≤ s.length - j) && decide (smallB ((s.drop j).take 7) = sEnd) && endB (s.drop (j + 7))) = false → j + rawB (s.drop j) = j + 1 + rawB (s.drop (j + 1)) := fun h => by
      rw [hst, h, if_neg (by simp)]; omega
    have hit : (decide (7 ≤ s.length - j) && decide (smallB ((s.drop j).take 7) = sEnd) && endB (s.drop (j + 7))) = true → j + rawB (s.drop j) = j := fun h => by
      rw [hst, h, if_pos rfl]; rfl
    by_cases g7 : j + 7 ≤ s.length
    · have h7 : (((j + 7 : Nat) : Int) ≤ (s.length : Int)) = True := eq_true (by omega)
      have k1 : (j + 7 ≤ s.length) = True := eq_true g7
      have k2 : (j ≤ j + 7) = True := eq_true (by omega)
      have k3 : List.take (j + 7 - j) (s.drop j) = List.take 7 (s.drop j) := by rw [Nat.add_sub_cancel_left]
      have d7 : decide (7 ≤ s.length - j) = true := by simp; omega
      simp -implicitDefEqProofs only [h2, w7, h7, k1, k2, k3, go_sem, seval]
      refine callI_pure (w_Low _ (by simp; omega)) ?_
      by_cases he : smallB (List.take 7 (s.drop j)) = sEnd
      · have he' : (smallB (List.take 7 (s.drop j)) = [60, 47, 115, 116, 121, 108, 101]) = True := eq_true he
        rw [d7, decide_eq_true he, Bool.true_and, Bool.true_and] at miss hit
        by_cases hE : j + 7 = s.length
        · have hE' : (((j + 7 : Nat) : Int) = (s.length : Int)) = True := eq_true (by omega)
          simp -implicitDefEqProofs only [he', w7, hE', go_sem, seval]
          rw [hit (by rw [List.drop_of_length_le (by omega)]; rfl)]
        · have hE' : (((j + 7 : Nat) : Int) = (s.length : Int)) = False := eq_false (by omega)
          obtain ⟨x, hx, hdx, _⟩ := get_drop (show j + 7 < s.length by omega)
          rw [hdx] at miss hit
          simp -implicitDefEqProofs only [he', w7, hE', hx, go_sem, seval]
          refine callI_pure (w_rBlank x) ?_
          cases hb : blankB x with
          | true =>
            simp -implicitDefEqProofs only [he', w7, hE', hx, go_sem, seval]
            rw [hit (by simp [endB, hb])]
          | false =>
            by_cases x47 : x = 47
            · subst x47
              simp -implicitDefEqProofs only [he', w7, hE', hx, go_sem, seval]
              rw [hit (by simp [endB, hb])]
            by_cases x62 : x = 62
            · subst x62
              simp -implicitDefEqProofs only [he', w7, hE', hx, go_sem, seval]
              rw [hit (by simp [endB, hb])]
            have e47 : ((x.toNat : Int) = 47) = False := byte_ne (n := 47) (by omega) x47
            have e62 : ((x.toNat : Int) = 62) = False := byte_ne (n := 62) (by omega) x62
            simp -implicitDefEqProofs only [he', w7, hE', hx, e47, e62, w1, go_sem, seval]
            exact ⟨j + 1, by omega, rfl, by omega, miss (by simp [endB, hb, x47, x62])⟩
      · have he' : (smallB (List.take 7 (s.drop j)) = [60, 47, 115, 116, 121, 108, 101]) = False := eq_false he
        simp -implicitDefEqProofs only [he', w1, go_sem, seval]
        exact ⟨j + 1, by omega, rfl, by omega, miss (by rw [decide_eq_false he]; simp)⟩
    · have h7 : (((j + 7 : Nat) : Int) ≤ (s.length : Int)) = False := eq_false (by omega)
      simp -implicitDefEqProofs only [h2, w7, h7, w1, go_sem, seval]
      exact ⟨j + 1, by omega, rfl, by omega, miss (by rw [decide_eq_false (by omega : ¬ 7 ≤ s.length - j)]; simp)⟩
  · have h2 : ((j : Int) < (s.length : Int)) = False := eq_false (by omega)
    have hje : j = s.length := by omega
    simp -implicitDefEqProofs only [h2, go_sem, seval]
    rw [List.drop_of_length_le hj, hje]; rfl
def kindB (t : Str) : Nat := if hasB t [60, 33] = true then 1 else if hasB t [60, 47] = true ∧ 0 < nameLen (t.drop 2) then 2 else if hasB t [60] = true ∧ 0 < nameLen (t.drop 1) then 3 else 4
theorem w_rkind (s : Str) (k : Nat) (hs : s.length ≤ 1000000) (hk : k < s.length) : PureF Tryz.prog 24 [.str s, .int .i64 k] (.int .i64 (kindB (s.drop k))) := by
  refine pureF_W mix c24 (by kernel_rfl) (by kernel_rfl) (by simp [flats, flat_av, Go.AX.flat]) (by first | exact flat_av _ | simp [flat, flats, flat_av]) ?_
  have w1 : IntKind.i64.wrap ((k : Int) + 1) = ((k + 1 : Nat) : Int) := by rw [wrap64 (by omega) (by omega)]; omega
  have w2 : IntKind.i64.wrap ((k : Int) + 2) = ((k + 2 : Nat) : Int) := by rw [wrap64 (by omega) (by omega)]; omega
  obtain ⟨c, hc, hd, _⟩ := get_drop hk
  unfold kindB
  rw [List.drop_drop, List.drop_drop]
  simp -implicitDefEqProofs only [F24, go_sem, seval]
  refine callI_pure (w_rhas s [60, 33] k hs (by omega) (by decide)) ?_
  cases k1 : hasB (s.drop k) [60, 33] with
  | true =>
    simp -implicitDefEqProofs only [go_sem, seval]
  | false =>
  rw [if_neg (by simp)]
  simp -implicitDefEqProofs only [go_sem, seval]
  refine callI_pure (w_rhas s [60, 47] k hs (by omega) (by decide)) ?_
  have tl : ∀ (R : Nat → Prop), True := fun _ => trivial
  cases k2 : hasB (s.drop k) [60, 47] with
  | true =>
    have hc60 : c = 60 := by obtain ⟨r, hr⟩ := hasB_iff.1 k2; rw [hd] at hr; simp at hr; exact hr.1
    subst hc60
    have hlen := hasB_len k2
    simp only [List.length_drop, List.length_cons, List.length_nil] at hlen
    have k3 : hasB (s.drop k) [60] = true := by rw [hd]; simp [hasB]
    simp -implicitDefEqProofs only [w2, go_sem, seval]
    refine callI_pure (w_rname s (k + 2) hs (by omega)) ?_
    by_cases h3 : 0 < nameLen (s.drop (k + 2))
    · have g : (((k + 2 + nameLen (s.drop (k + 2)) : Nat) : Int) > ((k + 2 : Nat) : Int)) = True := eq_true (by omega)
      rw [if_pos ⟨rfl, h3⟩]
      simp -implicitDefEqProofs only [w2, g, go_sem, seval]
    · have g : (((k + 2 + nameLen (s.drop (k + 2)) : Nat) : Int) > ((k + 2 : Nat) : Int)) = False := eq_false (by omega)
      rw [if_neg (fun h => h3 h.2)]
      simp -implicitDefEqProofs only [w2, g, hc, w1, go_sem, seval]
      refine callI_pure (w_rname s (k + 1) hs (by omega)) ?_
      by_cases h4 : 0 < nameLen (s.drop (k + 1))
      · have g4 : (((k + 1 + nameLen (s.drop (k + 1)) : Nat) : Int) > ((k + 1 : Nat) : Int)) = True := eq_true (by omega)
        rw [if_pos ⟨k3, h4⟩]
        simp -implicitDefEqProofs only [w1, g4, go_sem, seval]
      · have g4 : (((k + 1 + nameLen (s.drop (k + 1)) : Nat) : Int) > ((k + 1 : Nat) : Int)) = False := eq_false (by omega)
        rw [if_neg (fun h => h4 h.2)]
        simp -implicitDefEqProofs only [w1, g4, go_sem, seval]
  | false =>
    rw [if_neg (by simp)]
    by_cases hc60 : c = 60
    · subst hc60
      have k3 : hasB (s.drop k) [60] = true := by rw [hd]; simp [hasB]
      simp -implicitDefEqProofs only [hc, w1, go_sem, seval]
      refine callI_pure (w_rname s (k + 1) hs (by omega)) ?_
      by_cases h4 : 0 < nameLen (s.drop (k + 1))
      · have g4 : (((k + 1 + nameLen (s.drop (k + 1)) : Nat) : Int) > ((k + 1 : Nat) : Int)) = True := eq_true (by omega)
        rw [if_pos ⟨k3, h4⟩]
        simp -implicitDefEqProofs only [w1, g4, go_sem, seval]
      · have g4 : (((k + 1 + nameLen (s.drop (k + 1)) : Nat) : Int) > ((k + 1 : Nat) : Int)) = False := eq_false (by omega)
        rw [if_neg (fun h => h4 h.2)]
        simp -implicitDefEqProofs only [w1, g4, go_sem, seval]
    · have k3 : hasB (s.drop k) [60] = false := by rw [hd]; simp [hasB, hc60]
      have e60 : ((c.toNat : Int) = 60) = False := byte_ne (n := 60) (by omega) hc60
      rw [if_neg (by simp [k3])]
      simp -implicitDefEqProofs only [hc, e60, go_sem, seval]
def lostB (t : Str) : Str := if hasB t [60, 33, 45, 45] = true then restB [45, 45, 62] (t.drop 4) else restB [62] t
theorem w_rlost (s : Str) (k : Nat) (hs : s.length ≤ 1000000) (hk : k < s.length) : PureF Tryz.prog 25 [.str s, .int .i64 k] (.int .i64 ((s.length - (lostB (s.drop k)).length : Nat))) := by
  refine pureF_W mix c25 (by kernel_rfl) (by kernel_rfl) (by simp [flats, flat_av, Go.AX.flat]) (by first | exact flat_av _ | simp [flat, flats, flat_av]) ?_
  unfold lostB
  rw [List.drop_drop]
  simp -implicitDefEqProofs only [F25, go_sem, seval]
  refine callI_pure (w_rhas s [60, 33, 45, 45] k hs (by omega) (by decide)) ?_
  cases k1 : hasB (s.drop k) [60, 33, 45, 45] with
  | true =>
    have hlen := hasB_len k1
    simp only [List.length_drop, List.length_cons, List.length_nil] at hlen
    have w4 : IntKind.i64.wrap ((k : Int) + 4) = ((k + 4 : Nat) : Int) := by rw [wrap64 (by omega) (by omega)]; omega
    have hf := front_len (e := [45, 45, 62]) (s.drop (k + 4))
    have hr := rest_len_eq (e := [45, 45, 62]) (s.drop (k + 4))
    simp only [List.length_drop, List.length_cons, List.length_nil] at hf hr
    have w3 : IntKind.i64.wrap (((k + 4 + (frontB [45, 45, 62] (s.drop (k + 4))).length : Nat) : Int) + 3) = ((k + 4 + (frontB [45, 45, 62] (s.drop (k + 4))).length + 3 : Nat) : Int) := by rw [wrap64 (by omega) (by omega)]; omega
    rw [if_pos rfl, hr]
    simp -implicitDefEqProofs only [w4, go_sem, seval]
    refine callI_pure (w_rfind s [45, 45, 62] (k + 4) hs (by omega) (by decide)) ?_
    simp -implicitDefEqProofs only [w3, go_sem, seval]
    congr 1
    split <;> omega
  | false =>
    have hf := front_len (e := [62]) (s.drop k)
    have hr := rest_len_eq (e := [62]) (s.drop k)
    simp only [List.length_drop, List.length_cons, List.length_nil] at hf hr
    have w3 : IntKind.i64.wrap (((k + (frontB [62] (s.drop k)).length : Nat) : Int) + 1) = ((k + (frontB [62] (s.drop k)).length + 1 : Nat) : Int) := by rw [wrap64 (by omega) (by omega)]; omega
    rw [if_neg (by simp), hr]
    simp -implicitDefEqProofs only [go_sem, seval]
    refine callI_pure (w_rfind s [62] k hs (by omega) (by decide)) ?_
    simp -implicitDefEqProofs only [w3, go_sem, seval]
    congr 1
    split <;> omega
theorem w_rput {s : St} {d e n : Nat} {l : List Tag} (x : Str) (hn : n = l.length) (g : s.get d = some (.cells e (cellsL l) false)) (hd : d < s.next) (hl : l.length ≤ 1000000) :
    ACalls Tryz.prog 31 [.sl d e 0 n 4, .str x] s fun v s' => ∃ e', v = .sl d e' 0 (l ++ putB x).length 4 ∧ s'.get d = some (.cells e' (cellsL (l ++ putB x)) false) ∧ s.next ≤ s'.next := by
  subst hn
  obtain ⟨h, m⟩ := s
  refine acalls_W mix (C0_ok _) c31 (by kernel_rfl) (Nat.le_of_ble_eq_true (by kernel_rfl)) ?_
  have g' : AX.look d h = some (.cells e (cellsL l) false) := g
  by_cases hx : x = []
  · subst hx
    simp -implicitDefEqProofs only [F31, go_sem, seval]
    exact ⟨e, by simp [putB], by simpa [putB] using g'⟩
  have hx' : (x = []) = False := eq_false hx
  have hlc := Tag.clen l
  have hd' : d < m := hd
  have md : (m = d) = False := eq_false (by omega)
  have hle2 : ((l.length + 1) * 64 ≤ 140737488355328) = True := eq_true (by omega)
  simp -implicitDefEqProofs only [F31, hx', g', md, hlc, hle2, Nat.le_refl, go_sem, seval]
  have e1 : putB x = [textT x] := by simp [putB, hx]
  rw [e1]
  refine ⟨nextV false e (l.length * 4 + 4), by rw [List.length_append]; rfl, ?_, by omega⟩
  rw [cellsL_append, List.take_of_length_le (by rw [hlc]; exact Nat.le_refl _)]; rfl
end W09
/- The reference: All. -/
namespace W09
open Go Go.AX Go.AX.Ty Go.Proofs
theorem kind_tag {t : Str} : (kindB t = 4) ↔ tagB t = false := by
  unfold kindB tagB
  cases h1 : hasB t [60, 33] <;> cases h2 : hasB t [60, 47] <;> cases h3 : hasB t [60] <;> by_cases h4 : 0 < nameLen (t.drop 2) <;> by_cases h5 : 0 < nameLen (t.drop 1) <;> simp [h4, h5, -List.drop_one]
theorem lost_suf (t : Str) : ∃ k, lostB t = t.drop k := by
  unfold lostB
  split
  · simp only [rest_drop, List.drop_drop]; exact ⟨_, rfl⟩
  · exact ⟨_, rest_drop t⟩
theorem attrs_suf : ∀ (n : Nat) (al : List Ty.Attr) (s : Str), s.length ≤ n → ∃ k, (attrsB al s).2 = s.drop k
  | n, al, [], h => ⟨0, by rw [attrsB_nil]; rfl⟩
  | n + 1, al, c :: r, h => by
    rw [attrsB_cons]
    simp only [List.length_cons] at h
    by_cases h3 : c = 62
    · rw [if_pos h3]; exact ⟨1, rfl⟩
    rw [if_neg h3]
    by_cases h4 : inAttrB c = false
    · rw [if_pos h4]
      obtain ⟨k, hk⟩ := attrs_suf n al r (by omega)
      exact ⟨k + 1, by rw [hk, List.drop_succ_cons]⟩
    rw [if_neg h4]
    have hl := attr_len (r := r) (by simpa using h4)
    simp only [List.length_cons] at hl
    obtain ⟨k1, hk1⟩ := attr_suf (c :: r)
    obtain ⟨k, hk⟩ := attrs_suf n (addA al (attrB (c :: r)).1) (attrB (c :: r)).2 (by omega)
    exact ⟨k1 + k, by rw [hk, hk1, List.drop_drop]⟩
theorem open_suf (t : Str) : ∃ k, (openB t).2 = t.drop k := by
  unfold openB
  obtain ⟨k, hk⟩ := attrs_suf _ [] ((t.drop 1).drop (nameLen (t.drop 1))) (Nat.le_refl _)
  refine ⟨1 + nameLen (t.drop 1) + k, ?_⟩
  show (attrsB [] ((t.drop 1).drop (nameLen (t.drop 1)))).2 = _
  rw [hk, List.drop_drop, List.drop_drop]; congr 1; omega
theorem suf_pos {s r t : Str} {j : Nat} (ht : t = s.drop j) (h : ∃ k, r = t.drop k) : s.drop (s.length - r.length) = r := by
  obtain ⟨k, rfl⟩ := h
  subst ht
  exact drop_suf (by rw [List.drop_drop])
theorem next_1 {t : Str} (h : kindB t = 1) : nextB t = ([], lostB t) := by
  have h1 : hasB t [60, 33] = true := by
    unfold kindB at h
    cases h1 : hasB t [60, 33] with
    | true => rfl
    | false => rw [h1] at h; simp at h; split at h; simp at h; split at h <;> simp at h
  unfold nextB lostB
  by_cases h2 : hasB t [60, 33, 45, 45] = true
  · rw [if_pos h2, if_pos h2]
  · rw [if_neg h2, if_neg h2, if_pos h1]
theorem no4 {t : Str} (h : hasB t [60, 33] = false) : hasB t [60, 33, 45, 45] = false := by
  cases h2 : hasB t [60, 33, 45, 45] with
  | false => rfl
  | true => obtain ⟨r, hr⟩ := hasB_iff.1 h2; have := (hasB_iff (s := t) (p := [60, 33])).2 ⟨45 :: 45 :: r, by rw [hr]; rfl⟩; rw [h] at this; simp at this
theorem next_2 {t : Str} (h : kindB t = 2) : nextB t = ([shutT (smallB ((t.drop 2).take (nameLen (t.drop 2))))], restB [62] ((t.drop 2).drop (nameLen (t.drop 2)))) ∧ hasB t [60, 47] = true := by
  unfold kindB at h
  by_cases h1 : hasB t [60, 33] = true
  · rw [if_pos h1] at h; simp at h
  rw [if_neg h1] at h
  by_cases h2 : hasB t [60, 47] = true ∧ 0 < nameLen (t.drop 2)
  · have h1' : hasB t [60, 33] = false := by simpa using h1
    unfold nextB
    rw [if_neg (by simp [no4 h1']), if_neg h1, if_pos h2]
    exact ⟨rfl, h2.1⟩
  · rw [if_neg h2] at h; split at h <;> simp at h
theorem next_3 {t : Str} (h : kindB t = 3) : nextB t = (if (openB t).1.name = sStyle then ((openB t).1 :: putB ((openB t).2.take (rawB (openB t).2)), (openB t).2.drop (rawB (openB t).2)) else ([(openB t).1], (openB t).2)) := by
  unfold kindB at h
  by_cases h1 : hasB t [60, 33] = true
  · rw [if_pos h1] at h; simp at h
  rw [if_neg h1] at h
  by_cases h2 : hasB t [60, 47] = true ∧ 0 < nameLen (t.drop 2)
  · rw [if_pos h2] at h; simp at h
  rw [if_neg h2] at h
  by_cases h3 : hasB t [60] = true ∧ 0 < nameLen (t.drop 1)
  · have h1' : hasB t [60, 33] = false := by simpa using h1
    unfold nextB
    rw [if_neg (by simp [no4 h1']), if_neg h1, if_neg h2, if_pos h3]
  · rw [if_neg h3] at h; simp at h
theorem next_4 {t : Str} (h : kindB t = 4) : nextB t = (putB (plainB (t.take (1 + untag (t.drop 1)))), t.drop (1 + untag (t.drop 1))) := by
  unfold kindB at h
  by_cases h1 : hasB t [60, 33] = true
  · rw [if_pos h1] at h; simp at h
  rw [if_neg h1] at h
  by_cases h2 : hasB t [60, 47] = true ∧ 0 < nameLen (t.drop 2)
  · rw [if_pos h2] at h; simp at h
  rw [if_neg h2] at h
  by_cases h3 : hasB t [60] = true ∧ 0 < nameLen (t.drop 1)
  · rw [if_pos h3] at h; simp at h
  · have h1' : hasB t [60, 33] = false := by simpa using h1
    unfold nextB
    rw [if_neg (by simp [no4 h1']), if_neg h1, if_neg h2, if_neg h3]
theorem kind_cases (t : Str) : kindB t = 1 ∨ kindB t = 2 ∨ kindB t = 3 ∨ kindB t = 4 := by
  unfold kindB
  split
  · simp
  split
  · simp
  split <;> simp
theorem w_rAll (s : Str) (hs : s.length ≤ 400000) : PureF Tryz.prog 13 [.str s] (Enc.av (allB s)) := by
  refine pureF_W mix c13 (by kernel_rfl) (by kernel_rfl) (by simp [flats, flat_av, Go.AX.flat]) (by first | exact flat_av _ | simp [flat, flats, flat_av]) ?_
  simp -implicitDefEqProofs only [F13, go_sem, seval]
  refine LoopI_sl (fun x : Nat × List Tag × Nat => s.length - x.1) (fun x => [(0, .str s), (3, .sl 0 x.2.2 0 x.2.1.length 4), (4, .int .i64 x.1)])
    (fun x st => st.get 0 = some (.cells x.2.2 (cellsL x.2.1) false) ∧ 0 < st.next ∧ x.1 ≤ s.length ∧ x.2.1.length ≤ 2 * x.1 ∧ allB s = x.2.1 ++ allB (s.drop x.1)) (0, [], 1) ?_ ?_
  · simp -implicitDefEqProofs only [go_sem, seval]
    rfl
  rintro ⟨j, l, e⟩ ρ ⟨h, m⟩ ⟨i1, i2, i3, i4, i5⟩
  have i1' : AX.look 0 h = _ := i1
  simp only at i1 i1' i2 i3 i4 i5
  rcases Nat.lt_or_ge j s.length with hj | hj
  · obtain ⟨c, hc, hd, _⟩ := get_drop hj
    have h2 : ((j : Int) < (s.length : Int)) = True := eq_true (by omega)
    have w2 : IntKind.i64.wrap ((j : Int) + 2) = ((j + 2 : Nat) : Int) := by rw [wrap64 (by omega) (by omega)]; omega
    have hnl := next_len c (s.drop (j + 1))
    have hnn := next_n (s.drop j)
    have hne : s.drop j ≠ [] := by rw [hd]; simp
    rw [allB_ne hne, ← List.append_assoc] at i5
    rw [← hd, List.length_drop] at hnl
    simp -implicitDefEqProofs only [h2, go_sem, seval]
    refine callI_pure (w_rkind s j (by omega) hj) ?_
    rcases kind_cases (s.drop j) with hk | hk | hk | hk
    · rw [next_1 hk] at i5 hnl hnn
      rw [hk]
      simp -implicitDefEqProofs only [go_sem, seval]
      refine callI_pure (w_rlost s j (by omega) hj) ?_
      simp -implicitDefEqProofs only [go_sem, seval]
      have hsp := suf_pos rfl (lost_suf (s.drop j))
      simp only [List.append_nil] at i5 hnl
      exact ⟨(s.length - (lostB (s.drop j)).length, l, e), by show s.length - (s.length - (lostB (s.drop j)).length) < s.length - j; omega, ⟨rfl, rfl⟩, i1', i2, Nat.sub_le _ _, by show l.length ≤ 2 * (s.length - (lostB (s.drop j)).length); omega, by rw [hsp]; exact i5⟩
    · obtain ⟨hk2, hk3⟩ := next_2 hk
      rw [hk2] at i5 hnl hnn
      rw [hk]
      have hlen := hasB_len hk3
      simp only [List.length_drop, List.length_cons, List.length_nil] at hlen
      rw [List.drop_drop] at i5 hnl
      have hnm := nameLen_le (s.drop (j + 2))
      rw [List.length_drop] at hnm
      have hrn := w_rname s (j + 2) (by omega) (by omega)
      have hlow := w_Low ((s.drop (j + 2)).take (nameLen (s.drop (j + 2)))) (by simp; omega)
      have hN0 : (s.drop (j + 2)).drop (nameLen (s.drop (j + 2))) = s.drop (j + 2 + nameLen (s.drop (j + 2))) := by rw [List.drop_drop]
      rw [hN0] at i5 hnl
      generalize hN : j + 2 + nameLen (s.drop (j + 2)) = N at *
      have k1 : (N ≤ s.length) = True := eq_true (by omega)
      have k2 : (j + 2 ≤ N) = True := eq_true (by omega)
      have k3 : List.take (N - (j + 2)) (s.drop (j + 2)) = (s.drop (j + 2)).take (nameLen (s.drop (j + 2))) := by congr 1; omega
      generalize smallB ((s.drop (j + 2)).take (nameLen (s.drop (j + 2)))) = nm at *
      have hlc := Tag.clen l
      have hle2 : ((l.length + 1) * 64 ≤ 140737488355328) = True := eq_true (by omega)
      have m0 : (m = 0) = False := eq_false (by omega)
      have hf := front_len (e := [62]) (s.drop N)
      have hr := rest_len_eq (e := [62]) (s.drop N)
      simp only [List.length_drop, List.length_cons, List.length_nil] at hf hr
      have w3 : IntKind.i64.wrap (((N + (frontB [62] (s.drop N)).length : Nat) : Int) + 1) = ((N + (frontB [62] (s.drop N)).length + 1 : Nat) : Int) := by rw [wrap64 (by omega) (by omega)]; omega
      have hmin : (if ((s.length : Nat) : Int) < ((N + (frontB [62] (s.drop N)).length + 1 : Nat) : Int) then ((s.length : Nat) : Int) else ((N + (frontB [62] (s.drop N)).length + 1 : Nat) : Int)) = ((s.length - (restB [62] (s.drop N)).length : Nat) : Int) := by
        rw [hr]; split <;> omega
      have hsp := suf_pos rfl (rest_suf (e := [62]) (s.drop N))
      simp -implicitDefEqProofs only [w2, go_sem, seval]
      refine callI_pure hrn ?_
      simp -implicitDefEqProofs only [w2, k1, k2, k3, go_sem, seval]
      refine callI_pure hlow ?_
      simp -implicitDefEqProofs only [i1', m0, hlc, hle2, Nat.le_refl, go_sem, seval]
      refine callI_pure (w_rfind s [62] N (by omega) (by omega) (by decide)) ?_
      simp -implicitDefEqProofs only [w3, hmin, m0, i1', Option.map_some, go_sem, seval]
      simp only [List.length_cons, List.length_nil] at hnn
      refine ⟨(s.length - (restB [62] (s.drop N)).length, l ++ [shutT nm], nextV false e (l.length * 4 + 4)), by show s.length - (s.length - (restB [62] (s.drop N)).length) < s.length - j; omega, ⟨by rw [List.length_append]; rfl, rfl⟩, ?_, Nat.sub_le _ _, by rw [List.length_append]; show l.length + 1 ≤ 2 * (s.length - (restB [62] (s.drop N)).length); omega, by rw [hsp]; exact i5⟩
      rw [cellsL_append, List.take_of_length_le (by rw [hlc]; exact Nat.le_refl _)]; rfl
    · rw [next_3 hk] at i5 hnl hnn
      rw [hk]
      simp -implicitDefEqProofs only [go_sem, seval]
      refine callI_pure (w_ropen s j hs hj) ?_
      have hol := open_len (s.drop j)
      obtain ⟨ko, hko⟩ := open_suf (s.drop j)
      generalize openB (s.drop j) = O at *
      obtain ⟨tg, u⟩ := O
      simp only at i5 hnl hnn hol hko
      have hu := suf_pos rfl ⟨ko, hko⟩
      rw [List.length_drop] at hol
      generalize hJ : s.length - u.length = J at *
      have hul : u.length = s.length - J := by omega
      rw [← hu] at i5 hnl hnn
      have hlc := Tag.clen l
      have hle2 : ((l.length + 1) * 64 ≤ 140737488355328) = True := eq_true (by omega)
      have m0 : (m = 0) = False := eq_false (by omega)
      have m1 : (m + 1 = 0) = False := eq_false (by omega)
      have mm : (m + 1 = m) = False := eq_false (by omega)
      have m0' : (0 = m) = False := eq_false (by omega)
      have hcells : List.take (l.length * 4) (cellsL l) ++ [.int .i64 tg.kind, .str tg.name, .ps tg.attrs.length (cellsL tg.attrs), .str tg.text] = cellsL (l ++ [tg]) := by
        rw [cellsL_append, List.take_of_length_le (by rw [hlc]; exact Nat.le_refl _)]; rfl
      by_cases hst : tg.name = sStyle
      · rw [if_pos hst] at i5 hnl hnn
        have hst' : (tg.name = [115, 116, 121, 108, 101]) = True := eq_true hst
        have hru := raw_le (s.drop J)
        have hrr := w_rraw s J (by omega) (by omega)
        rw [List.length_drop] at hru
        rw [List.drop_drop] at i5 hnl
        generalize hM : J + rawB (s.drop J) = M at *
        have k1 : (M ≤ s.length) = True := eq_true (by omega)
        have k2 : (J ≤ M) = True := eq_true (by omega)
        have k3 : List.take (M - J) (s.drop J) = (s.drop J).take (rawB (s.drop J)) := by congr 1; omega
        simp -implicitDefEqProofs only [Tag.eav, i1', m0, m1, mm, m0', hlc, hle2, Nat.le_refl, hst', hcells, go_sem, seval]
        refine callI_pure hrr ?_
        have hlen1 : (l ++ [tg]).length = l.length + 1 := by simp
        have hcl1 : ((l.length + 1) * 4 ≤ (cellsL (l ++ [tg])).length) = True := eq_true (by rw [Tag.clen, hlen1]; exact Nat.le_refl _)
        simp -implicitDefEqProofs only [k1, k2, k3, m0, i1', Option.map_some, hcl1, go_sem, seval]
        refine callI_gen ((w_rput (l := l ++ [tg]) (d := 0) (e := nextV false e (l.length * 4 + 4)) ((s.drop J).take (rawB (s.drop J))) hlen1.symm ?_ ?_ (by rw [hlen1]; omega)).mono fun v s2 ⟨e', f1, f2, f3⟩ => ?_)
        · show AX.look 0 (_ :: _) = _
          simp only [AX.look, m0, m1, if_false]; rw [look_put_eq i1']
        · show 0 < m + 1 + 1; omega
        subst f1
        have f3' : m + 1 + 1 ≤ s2.next := f3
        simp -implicitDefEqProofs only [go_sem, seval]
        have hpl : (putB ((s.drop J).take (rawB (s.drop J)))).length ≤ 1 := by unfold putB; split <;> simp
        refine ⟨(M, l ++ [tg] ++ putB ((s.drop J).take (rawB (s.drop J))), e'), by show s.length - M < _; omega, ⟨rfl, rfl⟩, f2, by omega, by show M ≤ _; omega, by simp only [List.length_append, List.length_cons, List.length_nil] at hpl ⊢; omega, ?_⟩
        rw [i5]; simp
      · rw [if_neg hst] at i5 hnl hnn
        have hst' : (tg.name = [115, 116, 121, 108, 101]) = False := eq_false hst
        simp -implicitDefEqProofs only [Tag.eav, i1', m0, m1, mm, m0', hlc, hle2, Nat.le_refl, hst', hcells, go_sem, seval]
        simp only [List.length_cons, List.length_nil] at hnn
        exact ⟨(J, l ++ [tg], nextV false e (l.length * 4 + 4)), by show s.length - J < _; omega, ⟨by rw [List.length_append]; rfl, rfl⟩, rfl, by show J ≤ _; omega, by rw [List.length_append]; show l.length + 1 ≤ 2 * J; omega, i5⟩
    · rw [next_4 hk] at i5 hnl hnn
      rw [hk]
      have w1 : IntKind.i64.wrap ((j : Int) + 1) = ((j + 1 : Nat) : Int) := by rw [wrap64 (by omega) (by omega)]; omega
      rw [List.drop_drop] at i5 hnl
      simp -implicitDefEqProofs only [w1, go_sem, seval]
      refine LoopI_sl (fun n : Nat => s.length - n) (fun n => [(0, .str s), (3, .sl 0 e 0 l.length 4), (4, .int .i64 j), (8, .int .i64 n)])
        (fun n st => st = ⟨h, m⟩ ∧ j + 1 ≤ n ∧ n ≤ s.length ∧ j + 1 + untag (s.drop (j + 1)) = n + untag (s.drop n)) (j + 1) ?_ ?_
      · simp -implicitDefEqProofs only [go_sem, seval]
        omega
      rintro n ρ st ⟨rfl, n0, n1, n2⟩
      have hcl1 : (l.length * 4 ≤ (cellsL l).length) = True := eq_true (by rw [Tag.clen]; exact Nat.le_refl _)
      have w3 : IntKind.i64.wrap ((n : Int) + 1) = ((n + 1 : Nat) : Int) := by rw [wrap64 (by omega) (by omega)]; omega
      have fin : untag (s.drop n) = 0 → (List.take (n - j) (s.drop j)) = (s.drop j).take (1 + untag (s.drop (j + 1))) ∧ (s.drop j).drop (1 + untag (s.drop (j + 1))) = s.drop n := fun hz => by
        have hn : n = j + (1 + untag (s.drop (j + 1))) := by omega
        rw [List.drop_drop, ← hn]
        exact ⟨by congr 1; omega, rfl⟩
      have k1 : (n ≤ s.length) = True := eq_true n1
      have k2 : (j ≤ n) = True := eq_true (by omega)
      rcases Nat.lt_or_ge n s.length with hn | hn
      · have h3 : ((n : Int) < (s.length : Int)) = True := eq_true (by omega)
        obtain ⟨x, hx, hdx, _⟩ := get_drop hn
        simp -implicitDefEqProofs only [h3, go_sem, seval]
        refine callI_pure (w_rkind s n (by omega) hn) ?_
        cases ht : tagB (s.drop n) with
        | false =>
          have k4 := kind_tag.2 ht
          rw [k4]
          simp -implicitDefEqProofs only [w3, go_sem, seval]
          refine ⟨n + 1, by omega, rfl, by omega, by omega, ?_⟩
          rw [n2, hdx, untag, ← hdx, ht, if_neg (by simp)]; omega
        | true =>
          have k4 : ¬ kindB (s.drop n) = 4 := fun h4 => by have := kind_tag.1 h4; rw [ht] at this; simp at this
          have k4' : ((kindB (s.drop n) : Int) = 4) = False := eq_false (by omega)
          obtain ⟨f1, f2⟩ := fin (by rw [hdx, untag, ← hdx, ht, if_pos rfl])
          simp -implicitDefEqProofs only [k4', k1, k2, go_sem, seval]
          refine callI_pure (w_rplain _ (by simp; omega)) ?_
          simp -implicitDefEqProofs only [i1', hcl1, go_sem, seval]
          refine callI_gen ((w_rput (s := ⟨h, m⟩) (l := l) (d := 0) (e := e) (plainB (List.take (n - j) (s.drop j))) rfl i1 i2 (by omega)).mono fun v s2 ⟨e', g1, g2, g3⟩ => ?_)
          subst g1
          have g3' : m ≤ s2.next := g3
          simp -implicitDefEqProofs only [go_sem, seval]
          rw [f1]
          rw [f2] at i5
          have hpl : (putB (plainB ((s.drop j).take (1 + untag (s.drop (j + 1)))))).length ≤ 1 := by unfold putB; split <;> simp
          refine ⟨(n, l ++ putB (plainB ((s.drop j).take (1 + untag (s.drop (j + 1))))), e'), by show s.length - n < _; omega, ⟨rfl, rfl⟩, by rw [← f1]; exact g2, by omega, n1, by simp only [List.length_append] at hpl ⊢; omega, ?_⟩
          rw [i5]
      · have h3 : ((n : Int) < (s.length : Int)) = False := eq_false (by omega)
        obtain ⟨f1, f2⟩ := fin (by rw [List.drop_of_length_le hn]; rfl)
        simp -implicitDefEqProofs only [h3, k1, k2, go_sem, seval]
        refine callI_pure (w_rplain _ (by simp; omega)) ?_
        simp -implicitDefEqProofs only [i1', hcl1, go_sem, seval]
        refine callI_gen ((w_rput (s := ⟨h, m⟩) (l := l) (d := 0) (e := e) (plainB (List.take (n - j) (s.drop j))) rfl i1 i2 (by omega)).mono fun v s2 ⟨e', g1, g2, g3⟩ => ?_)
        subst g1
        have g3' : m ≤ s2.next := g3
        simp -implicitDefEqProofs only [go_sem, seval]
        rw [f1]
        rw [f2] at i5
        have hpl : (putB (plainB ((s.drop j).take (1 + untag (s.drop (j + 1)))))).length ≤ 1 := by unfold putB; split <;> simp
        refine ⟨(n, l ++ putB (plainB ((s.drop j).take (1 + untag (s.drop (j + 1))))), e'), by show s.length - n < _; omega, ⟨rfl, rfl⟩, by rw [← f1]; exact g2, by omega, n1, by simp only [List.length_append] at hpl ⊢; omega, ?_⟩
        rw [i5]
  · have h2 : ((j : Int) < (s.length : Int)) = False := eq_false (by omega)
    rw [List.drop_of_length_le hj, allB_nil, List.append_nil] at i5
    simp -implicitDefEqProofs only [h2, go_sem, seval]
    rw [i5]
    exact viewIs_own i1
end W09
