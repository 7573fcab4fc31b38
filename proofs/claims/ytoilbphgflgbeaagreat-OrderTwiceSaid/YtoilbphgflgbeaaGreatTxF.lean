/- What is found. -/
import Derived.Test.YtoilbphgflgbeaaGreatTxE
set_option linter.unusedSimpArgs false
set_option linter.unusedVariables false
namespace W15
open Go Go.AX Go.AX.Ty Go.Proofs
def mkF (r : Rule) (w : W3) (d : Ty.Decl) : Ty.Found := ⟨d, r.layer, w, 0⟩
noncomputable def rawF (s : Scene) (n : Int) (pseudo : Str) (r : Rule) : List Ty.Found := if 0 < (fitW s n pseudo r.sels).length then r.decls.map (mkF r (maxW (fitW s n pseudo r.sels))) else []
noncomputable def foundR (s : Scene) (n : Int) (pseudo : Str) (rs : List Rule) : List Ty.Found := numb 0 (rs.flatMap (rawF s n pseudo))
noncomputable def foundB (s : Scene) (n : Int) (pseudo : Str) : List Ty.Found := foundR s n pseudo (rulesB s.width s.sheets)
def OwnZ (l : List Ty.Found) (no : List Nat) (v : AV) (s : St) : Prop := (l = [] ∧ v = .nils) ∨ ∃ b e, v = .sl b e 0 l.length 8 ∧ b ∉ no ∧ b < s.next ∧ AX.look b s.heap = some (.cells e (cellsL l) false)
theorem numb_snoc (k : Nat) (l : List Ty.Found) (x : Ty.Found) : numb k (l ++ [x]) = numb k l ++ [⟨x.decl, x.layer, x.weight, ((k + l.length : Nat) : Int)⟩] := by
  rw [numb_app]; rfl
set_option maxHeartbeats 3200000 in
theorem w_Found (s : Scene) (n : Int) (pseudo : Str) (hp : PgOk s.p) (hs : s.states.length ≤ 100000) (ok : ShOk s.sheets) (ha : (appB s.width s.sheets).length ≤ 1000000)
    (hr : ∀ r ∈ rulesB s.width s.sheets, r.decls.length ≤ 1000000 ∧ r.sels.length ≤ 100000 ∧ ∀ c ∈ r.sels, Enc.ok c ∧ sizP c.parts ≤ 100000) (hb : (foundB s n pseudo).length ≤ 1000000) :
    PureF Tryz.prog 24 [Enc.av s, .int .i64 n, .str pseudo] (Enc.av (foundB s n pseudo)) := by
  refine pureF_WD mix c24 (by kernel_rfl) (by kernel_rfl) (by simp [flats, flat, flat_av]) (flat_av _) ?_
  have hrl : (rulesB s.width s.sheets).length ≤ 1000000 := Nat.le_trans (List.length_filterMap_le _ _) ha
  unfold foundB foundR at *
  rw [numb_len] at hb
  simp -implicitDefEqProofs only [F24, go_sem, seval]
  refine callI_pure (w_Rules s.width s.sheets ok (by omega)) ?_
  generalize rulesB s.width s.sheets = rs at *
  have hpre := fun k => (flatMap_pre (rawF s n pseudo) rs k).length_le
  simp -implicitDefEqProofs only [go_sem, seval]
  refine LoopI_sl (fun p : Nat × AV => rs.length - p.1) (fun p => [(1, .int .i64 n), (2, .str pseudo), (3, .ptr 0 0 0), (7, p.2), (18, Enc.av rs), (19, .int .i64 rs.length), (20, .int .i64 p.1)])
    (fun p t => p.1 ≤ rs.length ∧ 0 < t.next ∧ AX.look 0 t.heap = some (.cells 0 (Enc.cells s) false) ∧ OwnZ (numb 0 ((rs.take p.1).flatMap (rawF s n pseudo))) [0] p.2 t) (0, .nils) ?_ ?_
  · simp -implicitDefEqProofs only [List.take_zero, List.flatMap_nil, numb, go_sem, seval]
    exact .inl ⟨rfl, rfl⟩
  rintro ⟨k, v⟩ ρ ⟨g, m⟩ ⟨h1, h2, h3, h5⟩
  dsimp only at h1 h2 h3 h5
  simp only [Scene.ecells] at h3
  have m0 : (m = 0) = False := eq_false (by omega)
  rcases Nat.lt_or_ge k rs.length with hk | hk
  · obtain ⟨r, hx, hd, hm⟩ := get_drop hk
    have hlt : ((k : Int) < (rs.length : Int)) = True := eq_true (by omega)
    have w1 : IntKind.i64.wrap ((k : Int) + 1) = ((k + 1 : Nat) : Int) := by rw [wrap64 (by omega) (by omega)]; omega
    have hsn := flatMap_snoc (f := rawF s n pseudo) hx
    have hpk := hpre (k + 1)
    rw [hsn] at hpk
    obtain ⟨r1, r2, r3⟩ := hr r hm
    have hv := w_heaviest s n pseudo r.sels hp hs r2 r3
    rw [Scene.eav] at hv
    have hraw : rawF s n pseudo r = if 0 < (fitW s n pseudo r.sels).length then r.decls.map (mkF r (maxW (fitW s n pseudo r.sels))) else [] := rfl
    generalize fitW s n pseudo r.sels = F at *
    generalize (rs.take k).flatMap (rawF s n pseudo) = A at *
    have e1 : (m + 1 = m) = False := eq_false (by omega)
    have e2 : (m = m + 1) = False := eq_false (by omega)
    have e3 : (m + 1 = 0) = False := eq_false (by omega)
    simp -implicitDefEqProofs only [hlt, hx, h3, m0, go_sem, seval]
    refine callI_pure hv ?_
    by_cases hF : 0 < F.length
    · rw [if_pos hF] at hraw
      rw [hraw] at hsn hpk
      have fF := eq_true hF
      generalize maxW F = w at *
      simp -implicitDefEqProofs only [fF, decide_true, e1, e2, e3, m0, go_sem, seval]
      simp only [List.length_append, List.length_map] at hpk
      refine LoopI_sl (fun p : Nat × AV => r.decls.length - p.1) (fun p => [(1, .int .i64 n), (2, .str pseudo), (3, .ptr 0 0 0), (7, p.2), (9, .ptr m 0 0), (10, .ptr (m + 1) 0 0), (18, Enc.av rs), (19, .int .i64 rs.length), (20, .int .i64 k), (36, Enc.av r.decls), (37, .int .i64 r.decls.length), (38, .int .i64 p.1)])
        (fun p t => p.1 ≤ r.decls.length ∧ m + 1 < t.next ∧ AX.look 0 t.heap = some (.cells 0 [.ps s.sheets.length (cellsL s.sheets), .ps s.p.length (cellsL s.p), .int .i64 s.width, .ps s.states.length (cellsL s.states)] false) ∧
          AX.look m t.heap = some (.cells 0 [.ps r.sels.length (cellsL r.sels), .ps r.decls.length (cellsL r.decls), .int .i64 r.layer] false) ∧ AX.look (m + 1) t.heap = some (.cells 0 [.int .i64 w.a, .int .i64 w.b, .int .i64 w.c] false) ∧
          OwnZ (numb 0 (A ++ (r.decls.take p.1).map (mkF r w))) [0, m, m + 1] p.2 t) (0, v) ?_ ?_
      · simp -implicitDefEqProofs only [List.take_zero, List.map_nil, List.append_nil, e1, e2, e3, m0, go_sem, seval]
        refine ⟨h3, ?_⟩
        rcases h5 with ⟨q1, rfl⟩ | ⟨b, e, rfl, c0, c1, c2⟩
        · exact .inl ⟨q1, rfl⟩
        · simp only at c1 c2
          exact .inr ⟨b, e, rfl, by simp only [List.mem_cons, List.not_mem_nil, or_false] at c0 ⊢; omega, by simp only; omega, by simp only [AX.look]; rw [if_neg (by omega), if_neg (by omega)]; exact c2⟩
      rintro ⟨j, u⟩ ρ ⟨g2, q⟩ ⟨j1, j2, j3, j4, j5, j6⟩
      dsimp only at j1 j2 j3 j4 j5 j6
      rcases Nat.lt_or_ge j r.decls.length with hj | hj
      · obtain ⟨dd, hy, hdj, hmj⟩ := get_drop hj
        have hltj : ((j : Int) < (r.decls.length : Int)) = True := eq_true (by omega)
        have wj : IntKind.i64.wrap ((j : Int) + 1) = ((j + 1 : Nat) : Int) := by rw [wrap64 (by omega) (by omega)]; omega
        have hmap : A ++ (r.decls.take (j + 1)).map (mkF r w) = (A ++ (r.decls.take j).map (mkF r w)) ++ [mkF r w dd] := by
          rw [List.take_add_one, hy]; simp
        have hAl : (A ++ (r.decls.take j).map (mkF r w)).length ≤ A.length + r.decls.length := by simp only [List.length_append, List.length_map, List.length_take]; omega
        have hnu := numb_snoc 0 (A ++ (r.decls.take j).map (mkF r w)) (mkF r w dd)
        have hnl := numb_len 0 (A ++ (r.decls.take j).map (mkF r w))
        rw [← hmap, Nat.zero_add, ← hnl] at hnu
        rw [← hnl] at hAl
        generalize numb 0 (A ++ (r.decls.take j).map (mkF r w)) = R at *
        have p0 : (q = m) = False := eq_false (by omega)
        have p1 : (q = m + 1) = False := eq_false (by omega)
        have p2 : (q = 0) = False := eq_false (by omega)
        have p3 : (m = q) = False := eq_false (by omega)
        have p4 : (m + 1 = q) = False := eq_false (by omega)
        have P0 : (q + 1 = m) = False := eq_false (by omega)
        have P1 : (q + 1 = m + 1) = False := eq_false (by omega)
        have P2 : (q + 1 = 0) = False := eq_false (by omega)
        have P3 : (q + 1 + 1 = m) = False := eq_false (by omega)
        have P4 : (q + 1 + 1 = m + 1) = False := eq_false (by omega)
        have P5 : (q + 1 + 1 = 0) = False := eq_false (by omega)
        rcases j6 with ⟨rfl, rfl⟩ | ⟨b, e, rfl, c0, c1, c2⟩
        · simp -implicitDefEqProofs only [hltj, hy, j3, j4, j5, p0, p1, p2, p3, p4, P0, P1, P2, P3, P4, P5, wj, go_sem, seval]
          refine ⟨(j + 1, _), by simp only; omega, ⟨rfl, rfl⟩, by simp only; omega, by omega, .inr ⟨q + 1 + 1, 8, by simp only [hnu, List.nil_append, List.length_singleton], by simp only [List.mem_cons, List.not_mem_nil, or_false]; omega, by simp only; omega, ?_⟩⟩
          simp only [hnu, List.nil_append, AX.look, if_true, cellsL, Found.ecells, List.append_nil, mkF, List.length_nil]
          try rfl
        · simp only [List.mem_cons, List.not_mem_nil, or_false, not_or] at c0
          simp only at c1 c2
          have hcl : (cellsL R).length = R.length * 8 := cellsL_len R
          have ht : List.take (R.length * 8) (cellsL R) = cellsL R := List.take_of_length_le (by omega)
          have hbd : ((R.length + 1) * 88 ≤ 140737488355328) = True := eq_true (by omega)
          have q0 : (q = b) = False := eq_false (by omega)
          have q1 : (b = q) = False := eq_false (by omega)
          have q2 : (q + 1 = b) = False := eq_false (by omega)
          have q3 : (b = q + 1) = False := eq_false (by omega)
          have b0 : (b = 0) = False := eq_false c0.1
          have b1 : (b = m) = False := eq_false c0.2.1
          have b2 : (b = m + 1) = False := eq_false c0.2.2
          simp -implicitDefEqProofs only [hltj, hy, j3, j4, j5, p0, p1, p2, p3, p4, P0, P1, P2, P3, P4, P5, wj, c2, hcl, ht, hbd, q0, q1, q2, q3, b0, b1, b2, go_sem, seval]
          refine ⟨(j + 1, _), by simp only; omega, ⟨rfl, rfl⟩, by simp only; omega, by omega, .inr ⟨b, (if e ≤ R.length * 8 + 7 then R.length * 8 + 8 else e + 1), by simp only [hnu, List.length_append, List.length_singleton], by simp only [List.mem_cons, List.not_mem_nil, or_false]; omega, by simp only; omega, ?_⟩⟩
          simp only [hnu, AX.look, look_putAt, q0, q2, if_false, if_true, c2, Option.map_some, cellsL_append, cellsL, Found.ecells, List.append_nil, mkF]
      · have hltj : ((j : Int) < (r.decls.length : Int)) = False := eq_false (by omega)
        rw [List.take_of_length_le hj] at j6
        simp -implicitDefEqProofs only [hltj, w1, go_sem, seval]
        refine ⟨(k + 1, u), by simp only; omega, ⟨rfl, rfl⟩, by simp only; omega, by omega, j3, ?_⟩
        simp only [hsn]
        rcases j6 with ⟨q1, rfl⟩ | ⟨b, e, rfl, c0, c1, c2⟩
        · exact .inl ⟨q1, rfl⟩
        · exact .inr ⟨b, e, rfl, by simp only [List.mem_cons, List.not_mem_nil, or_false, not_or] at c0 ⊢; exact c0.1, c1, c2⟩
    · rw [if_neg hF] at hraw
      rw [hraw, List.append_nil] at hsn
      have fF := eq_false hF
      simp -implicitDefEqProofs only [fF, decide_false, w1, e1, e2, e3, m0, go_sem, seval]
      refine ⟨(k + 1, v), by simp only; omega, ⟨rfl, rfl⟩, by simp only; omega, h3, ?_⟩
      simp only [hsn]
      rcases h5 with ⟨q1, rfl⟩ | ⟨b, e, rfl, c0, c1, c2⟩
      · exact .inl ⟨q1, rfl⟩
      · simp only at c1 c2
        exact .inr ⟨b, e, rfl, c0, by simp only; omega, by simp only [AX.look]; rw [if_neg (by omega), if_neg (by omega)]; exact c2⟩
  · have hlt : ((k : Int) < (rs.length : Int)) = False := eq_false (by omega)
    rw [List.take_of_length_le hk] at h5
    simp -implicitDefEqProofs only [hlt, go_sem, seval]
    rcases h5 with ⟨q1, rfl⟩ | ⟨b, e, rfl, c0, c1, c2⟩
    · rw [q1]; rfl
    · exact view_own (α := Ty.Found) ⟨g, m⟩ 7 rfl (fun a => by simp [Found.ecells, sees1, flats_cellsL]) _ c2
end W15
/- What is found, by the reference. -/
set_option linter.unusedSimpArgs false
set_option linter.unusedVariables false
namespace W15
open Go Go.AX Go.AX.Ty Go.Proofs
end W15
/- Guards: values, declarations. -/
set_option linter.unusedSimpArgs false
set_option linter.unusedVariables false
namespace W15
open Go Go.AX Go.AX.Ty Go.Proofs
def loopV (f : List Ty.Val → Int → Int) : List Ty.Val → Int → Int
  | [], n => n
  | x :: r, n => if n < 0 then n else if x.tok.text.length > 100 then -1 else loopV f r (if n - 1 ≥ 0 ∧ 0 < x.l.length then f x.l (n - 1) else n - 1)
def fewF : Nat → List Ty.Val → Int → Int
  | 0 => fun _ _ => -1
  | d + 1 => loopV (fewF d)
theorem loopV_ok {f : List Ty.Val → Int → Int} (hf : ∀ l n, -1 ≤ n → -1 ≤ f l n ∧ f l n ≤ n ∨ f l n = -1) (hf2 : ∀ l n, 0 ≤ n → 0 ≤ f l n → (szVL l : Int) + f l n ≤ n) :
    ∀ (l : List Ty.Val) (n : Int), -1 ≤ n → (-1 ≤ loopV f l n ∧ (loopV f l n ≤ n)) ∧ (0 ≤ loopV f l n → (szVL l : Int) + loopV f l n ≤ n)
  | [], n, h => by simp only [loopV, szVL]; omega
  | x :: r, n, h => by
    simp only [loopV, szVL]
    by_cases h0 : n < 0
    · rw [if_pos h0]; omega
    rw [if_neg h0]
    by_cases h1 : x.tok.text.length > 100
    · rw [if_pos h1]; omega
    rw [if_neg h1]
    have hs := szV_eq x
    by_cases h2 : n - 1 ≥ 0 ∧ 0 < x.l.length
    · rw [if_pos h2]
      have a := hf x.l (n - 1) (by omega)
      have b := hf2 x.l (n - 1) h2.1
      have hm : -1 ≤ f x.l (n - 1) := by omega
      obtain ⟨c1, c2⟩ := loopV_ok hf hf2 r (f x.l (n - 1)) hm
      refine ⟨by omega, fun h => ?_⟩
      have := c2 h
      have := b (by omega)
      omega
    · rw [if_neg h2]
      obtain ⟨c1, c2⟩ := loopV_ok hf hf2 r (n - 1) (by omega)
      refine ⟨by omega, fun h => ?_⟩
      have := c2 h
      have hx : szVL x.l = 0 := by
        have : x.l = [] := List.eq_nil_of_length_eq_zero (by omega)
        rw [this]; rfl
      omega
theorem fewF_ok : ∀ (d : Nat) (l : List Ty.Val) (n : Int), -1 ≤ n → (-1 ≤ fewF d l n ∧ (fewF d l n ≤ n)) ∧ (0 ≤ fewF d l n → (szVL l : Int) + fewF d l n ≤ n)
  | 0, l, n, h => by simp only [fewF]; omega
  | d + 1, l, n, h => by
    simp only [fewF]
    exact loopV_ok (fun l n h => .inl (fewF_ok d l n h).1) (fun l n h => (fewF_ok d l n (by omega)).2) l n h
theorem w_few2 : ∀ (d : Nat) (l : List Ty.Val) (n : Int), d ≤ 1000 → Enc.ok l → -1 ≤ n → n ≤ 1000000 → PureF Tryz.prog 109 [Enc.av l, .int .i64 n, .int .i64 (d : Nat)] (.int .i64 (fewF d l n))
  | 0, l, n, hd, hok, h1, h2 => by
    refine pureF_W mix c109 (by kernel_rfl) (by kernel_rfl) (by simp [flats, flat_av, Go.AX.flat]) (by first | exact flat_av _ | simp [flat, flats, flat_av]) ?_
    have f0 : (((0 : Nat) : Int) < 1) = True := eq_true (by omega)
    simp -implicitDefEqProofs only [F109, f0, fewF, go_sem, seval]
  | d + 1, l, n, hd, hok, h1, h2 => by
    refine pureF_W mix c109 (by kernel_rfl) (by kernel_rfl) (by simp [flats, flat_av, Go.AX.flat]) (by first | exact flat_av _ | simp [flat, flats, flat_av]) ?_
    have ih := w_few2 d
    have f0 : (((d + 1 : Nat) : Int) < 1) = False := eq_false (by omega)
    have hlen : l.length ≤ 140737488355328 := hok.1
    have hall := hok.2
    have wd : IntKind.i64.wrap (((d + 1 : Nat) : Int) - 1) = (d : Int) := by rw [wrap64 (by omega) (by omega)]; omega
    simp -implicitDefEqProofs only [F109, f0, fewF, go_sem, seval]
    refine LoopI_sl (fun p : Nat × Int => l.length - p.1) (fun p => [(0, Enc.av l), (1, .int .i64 p.2), (2, .int .i64 (d + 1 : Nat)), (7, .int .i64 p.1)])
      (fun p s => p.1 ≤ l.length ∧ -1 ≤ p.2 ∧ p.2 ≤ 1000000 ∧ loopV (fewF d) (l.drop p.1) p.2 = loopV (fewF d) l n) (0, n) ?_ ?_
    · simp -implicitDefEqProofs only [List.drop_zero, go_sem, seval]
      exact ⟨h1, h2⟩
    rintro ⟨k, a⟩ ρ ⟨g, m⟩ ⟨k1, k2, k3, k4⟩
    dsimp only at k1 k2 k3 k4
    rcases Nat.lt_or_ge k l.length with hk | hk
    · obtain ⟨x, hx, hdr, hm⟩ := get_drop hk
      have hlt : ((k : Int) < (l.length : Int)) = True := eq_true (by omega)
      have w1 : IntKind.i64.wrap ((k : Int) + 1) = ((k + 1 : Nat) : Int) := by rw [wrap64 (by omega) (by omega)]; omega
      rw [hdr] at k4
      simp only [loopV] at k4
      by_cases ha : a < 0
      · rw [if_pos ha] at k4
        have fa : (a ≥ 0) = False := eq_false (by omega)
        simp -implicitDefEqProofs only [hlt, fa, go_sem, seval]
        rw [← k4]
      rw [if_neg ha] at k4
      have fa : (a ≥ 0) = True := eq_true (by omega)
      have wa : IntKind.i64.wrap (a - 1) = a - 1 := wrap64 (by omega) (by omega)
      by_cases ht : x.tok.text.length > 100
      · rw [if_pos ht] at k4
        have ft : ((x.tok.text.length : Int) > 100) = True := eq_true (by omega)
        simp -implicitDefEqProofs only [hlt, fa, wa, hx, ft, go_sem, seval]
        rw [← k4]
      rw [if_neg ht] at k4
      have ft : ((x.tok.text.length : Int) > 100) = False := eq_false (by omega)
      have hxl : Enc.ok x.l := ((Ty.Val.ok_iff x).1 (hall x hm)).2.2
      by_cases hb : a - 1 ≥ 0 ∧ 0 < x.l.length
      · rw [if_pos hb] at k4
        have fb := eq_true hb.1
        have fc : ((x.l.length : Int) > 0) = True := eq_true (by omega)
        have hc := ih x.l (a - 1) (by omega) hxl (by omega) (by omega)
        have hfo := (fewF_ok d x.l (a - 1) (by omega)).1
        simp -implicitDefEqProofs only [hlt, fa, wa, hx, ft, fb, fc, wd, go_sem, seval]
        refine callI_pure hc ?_
        simp -implicitDefEqProofs only [w1, go_sem, seval]
        exact ⟨(k + 1, fewF d x.l (a - 1)), by simp only; omega, ⟨rfl, rfl⟩, by simp only; omega, by simp only; omega, by simp only; omega, k4⟩
      · rw [if_neg hb] at k4
        by_cases hb1 : a - 1 ≥ 0
        · have fb := eq_true hb1
          have fc : ((x.l.length : Int) > 0) = False := eq_false (by omega)
          simp -implicitDefEqProofs only [hlt, fa, wa, hx, ft, fb, fc, w1, go_sem, seval]
          exact ⟨(k + 1, a - 1), by simp only; omega, ⟨rfl, rfl⟩, by simp only; omega, by omega, by omega, k4⟩
        · have fb := eq_false hb1
          simp -implicitDefEqProofs only [hlt, fa, wa, hx, ft, fb, w1, go_sem, seval]
          exact ⟨(k + 1, a - 1), by simp only; omega, ⟨rfl, rfl⟩, by simp only; omega, by omega, by omega, k4⟩
    · have hlt : ((k : Int) < (l.length : Int)) = False := eq_false (by omega)
      rw [List.drop_of_length_le hk] at k4
      simp -implicitDefEqProofs only [hlt, go_sem, seval]
      rw [← k4]; rfl
def small2B (n : Int) (l : List Ty.Val) : Bool := decide (fewF 100 l n ≥ 0)
theorem w_Small2 (l : List Ty.Val) (n : Int) (hok : Enc.ok l) (h1 : -1 ≤ n) (h2 : n ≤ 1000000) : PureF Tryz.prog 83 [Enc.av l, .int .i64 n] (.bool (small2B n l)) := by
  refine pureF_W mix c83 (by kernel_rfl) (by kernel_rfl) (by simp [flats, flat_av, Go.AX.flat]) (by first | exact flat_av _ | simp [flat, flats, flat_av]) ?_
  have hc := w_few2 100 l n (by omega) hok h1 h2
  rw [show (((100 : Nat) : Int)) = 100 from rfl] at hc
  simp -implicitDefEqProofs only [F83, go_sem, seval]
  refine callI_pure hc ?_
  simp -implicitDefEqProofs only [go_sem, seval]
  try rfl
theorem small2_ok {n : Int} {l : List Ty.Val} (h1 : -1 ≤ n) (h : small2B n l = true) : (szVL l : Int) ≤ n := by
  unfold small2B at h
  rw [decide_eq_true_eq] at h
  have := (fewF_ok 100 l n h1).2 h
  omega
def goodD (m : Int) (d : Ty.Decl) : Bool := small2B m d.l && decide (d.name.length ≤ 100)
def small7B (m : Int) (l : List Ty.Decl) : Bool := decide (l.length ≤ 20) && l.all (goodD m)
theorem w_Small7 (m : Int) (h1 : -1 ≤ m) (h2 : m ≤ 1000000) (l : List Ty.Decl) (hok : Enc.ok l) : PureF Tryz.prog 55 [Enc.av l, .int .i64 m] (.bool (small7B m l)) := by
  refine pureF_W mix c55 (by kernel_rfl) (by kernel_rfl) (by simp [flats, flat_av, Go.AX.flat]) (by first | exact flat_av _ | simp [flat, flats, flat_av]) ?_
  have hlen : l.length ≤ 140737488355328 := hok.1
  simp -implicitDefEqProofs only [F55, go_sem, seval]
  refine LoopI_sl (fun k : Nat => l.length - k) (fun k => [(0, Enc.av l), (1, .int .i64 m), (5, .int .i64 k)]) (fun k s => k ≤ l.length ∧ ∀ y ∈ l.take k, goodD m y = true) 0 ?_ ?_
  · simp -implicitDefEqProofs only [go_sem, seval]
    simp
  rintro k ρ ⟨g, q⟩ ⟨k1, k2⟩
  by_cases hl : l.length ≤ 20
  · have fl : ((l.length : Int) ≤ 20) = True := eq_true (by omega)
    rcases Nat.lt_or_ge k l.length with hk | hk
    · obtain ⟨x, hx, hdr, hm⟩ := get_drop hk
      have hlt : ((k : Int) < (l.length : Int)) = True := eq_true (by omega)
      have w1 : IntKind.i64.wrap ((k : Int) + 1) = ((k + 1 : Nat) : Int) := by rw [wrap64 (by omega) (by omega)]; omega
      have hc := w_Small2 x.l m ((Ty.Decl.ok_iff x).1 (hok.2 x hm)).2.1 h1 h2
      have no : goodD m x = false → small7B m l = false := fun h => by
        unfold small7B
        have : l.all (goodD m) = false := List.all_eq_false.2 ⟨x, hm, by rw [h]; decide⟩
        rw [this, Bool.and_false]
      simp -implicitDefEqProofs only [hlt, fl, hx, go_sem, seval]
      refine callI_pure hc ?_
      cases hb : small2B m x.l
      · simp -implicitDefEqProofs only [go_sem, seval]
        rw [no (by simp [goodD, hb])]
      · by_cases hn : x.name.length ≤ 100
        · have fn : ((x.name.length : Int) > 100) = False := eq_false (by omega)
          simp -implicitDefEqProofs only [hx, fn, w1, go_sem, seval]
          refine ⟨k + 1, by omega, rfl, by omega, fun y hy => ?_⟩
          rw [List.take_add_one, hx] at hy
          simp only [Option.toList_some, List.mem_append, List.mem_singleton] at hy
          rcases hy with hy | rfl
          · exact k2 y hy
          · simp [goodD, hb, hn]
        · have fn : ((x.name.length : Int) > 100) = True := eq_true (by omega)
          simp -implicitDefEqProofs only [hx, fn, go_sem, seval]
          rw [no (by simp [goodD, hn])]
    · have hlt : ((k : Int) < (l.length : Int)) = False := eq_false (by omega)
      rw [List.take_of_length_le hk] at k2
      have e : small7B m l = true := by unfold small7B; rw [Bool.and_eq_true]; exact ⟨decide_eq_true hl, List.all_eq_true.2 k2⟩
      simp -implicitDefEqProofs only [hlt, fl, go_sem, seval]
      rw [e]
      try rfl
  · have fl : ((l.length : Int) ≤ 20) = False := eq_false (by omega)
    have e : small7B m l = false := by unfold small7B; rw [decide_eq_false hl]; rfl
    rcases Nat.lt_or_ge k l.length with hk | hk
    · have hlt : ((k : Int) < (l.length : Int)) = True := eq_true (by omega)
      simp -implicitDefEqProofs only [hlt, fl, go_sem, seval]
      rw [e]
      try rfl
    · have hlt : ((k : Int) < (l.length : Int)) = False := eq_false (by omega)
      simp -implicitDefEqProofs only [hlt, fl, go_sem, seval]
      rw [e]
      try rfl
theorem small7_ok {m : Int} {l : List Ty.Decl} (h1 : -1 ≤ m) (h : small7B m l = true) : l.length ≤ 20 ∧ ∀ d ∈ l, (szVL d.l : Int) ≤ m ∧ d.name.length ≤ 100 := by
  unfold small7B at h
  rw [Bool.and_eq_true, decide_eq_true_eq, List.all_eq_true] at h
  refine ⟨h.1, fun d hd => ?_⟩
  have := h.2 d hd
  unfold goodD at this
  rw [Bool.and_eq_true, decide_eq_true_eq] at this
  exact ⟨small2_ok h1 this.1, this.2⟩
end W15
/- Guards: items. -/
set_option linter.unusedSimpArgs false
set_option linter.unusedVariables false
namespace W15
open Go Go.AX Go.AX.Ty Go.Proofs
mutual
def szI : Ty.Item → Nat
  | .mk _ _ _ _ _ _ _ l => 1 + szIL l
def szIL : List Ty.Item → Nat
  | [] => 0
  | x :: r => szI x + szIL r
end
theorem szI_eq (x : Ty.Item) : szI x = 1 + szIL x.l := by cases x; simp only [szI, Ty.Item.l]
theorem len_szIL : ∀ l : List Ty.Item, l.length ≤ szIL l
  | [] => by simp [szIL]
  | x :: r => by have := len_szIL r; have := szI_eq x; simp only [List.length_cons, szIL]; omega
def shortN (l : List Str) : Bool := l.all fun s => decide (s.length ≤ 100)
def goodI (x : Ty.Item) : Bool := decide (x.names.length ≤ 20) && (smallC 60 x.sels x.sels.length && (small7B 40 x.decls && (small2B 100 x.vals && shortN x.names)))
mutual
def okI : Ty.Item → Prop
  | .mk a b c d e f g l => goodI (.mk a b c d e f g l) = true ∧ okIL l
def okIL : List Ty.Item → Prop
  | [] => True
  | x :: r => okI x ∧ okIL r
end
theorem okI_iff (x : Ty.Item) : okI x ↔ goodI x = true ∧ okIL x.l := by cases x; simp only [okI, Ty.Item.l]
theorem okIL_mem : ∀ {l : List Ty.Item}, okIL l ↔ ∀ x ∈ l, okI x
  | [] => by simp [okIL]
  | y :: r => by simp only [okIL, okIL_mem, List.mem_cons, forall_eq_or_imp]
def loopJ (f : List Ty.Item → Int → Int) : List Ty.Item → Int → Int
  | [], n => n
  | x :: r, n => if n < 0 then n else if goodI x = false then -1 else loopJ f r (if n - 1 ≥ 0 ∧ 0 < x.l.length then f x.l (n - 1) else n - 1)
def leftF : Nat → List Ty.Item → Int → Int
  | 0 => fun _ _ => -1
  | d + 1 => loopJ (leftF d)
theorem loopJ_ok {f : List Ty.Item → Int → Int} (hf : ∀ l n, -1 ≤ n → -1 ≤ f l n ∧ f l n ≤ n) (hf2 : ∀ l n, 0 ≤ n → 0 ≤ f l n → (szIL l : Int) + f l n ≤ n ∧ okIL l) :
    ∀ (l : List Ty.Item) (n : Int), -1 ≤ n → (-1 ≤ loopJ f l n ∧ (loopJ f l n ≤ n)) ∧ (0 ≤ loopJ f l n → (szIL l : Int) + loopJ f l n ≤ n ∧ okIL l)
  | [], n, h => by simp only [loopJ, szIL, okIL]; exact ⟨by omega, fun _ => ⟨by omega, trivial⟩⟩
  | x :: r, n, h => by
    simp only [loopJ, szIL, okIL]
    by_cases h0 : n < 0
    · rw [if_pos h0]; exact ⟨by omega, fun h => absurd h (by omega)⟩
    rw [if_neg h0]
    by_cases h1 : goodI x = false
    · rw [if_pos h1]; exact ⟨by omega, fun h => absurd h (by omega)⟩
    rw [if_neg h1]
    have hg : goodI x = true := by cases hh : goodI x <;> simp_all
    have hs := szI_eq x
    by_cases h2 : n - 1 ≥ 0 ∧ 0 < x.l.length
    · rw [if_pos h2]
      have a := hf x.l (n - 1) (by omega)
      have b := hf2 x.l (n - 1) h2.1
      obtain ⟨c1, c2⟩ := loopJ_ok hf hf2 r (f x.l (n - 1)) (by omega)
      refine ⟨by omega, fun h => ?_⟩
      have c3 := c2 h
      have b2 := b (by omega)
      exact ⟨by omega, (okI_iff x).2 ⟨hg, b2.2⟩, c3.2⟩
    · rw [if_neg h2]
      obtain ⟨c1, c2⟩ := loopJ_ok hf hf2 r (n - 1) (by omega)
      refine ⟨by omega, fun h => ?_⟩
      have c3 := c2 h
      have hx : x.l = [] := List.eq_nil_of_length_eq_zero (by omega)
      have hz : szIL x.l = 0 := by rw [hx]; rfl
      exact ⟨by omega, (okI_iff x).2 ⟨hg, by rw [hx]; trivial⟩, c3.2⟩
theorem leftF_ok : ∀ (d : Nat) (l : List Ty.Item) (n : Int), -1 ≤ n → (-1 ≤ leftF d l n ∧ (leftF d l n ≤ n)) ∧ (0 ≤ leftF d l n → (szIL l : Int) + leftF d l n ≤ n ∧ okIL l)
  | 0, l, n, h => by simp only [leftF]; exact ⟨by omega, fun h => absurd h (by omega)⟩
  | d + 1, l, n, h => by
    simp only [leftF]
    exact loopJ_ok (fun l n h => (leftF_ok d l n h).1) (fun l n h => (leftF_ok d l n (by omega)).2) l n h
set_option maxHeartbeats 3200000 in
theorem w_left : ∀ (d : Nat) (l : List Ty.Item) (n : Int), d ≤ 1000 → Enc.ok l → -1 ≤ n → n ≤ 1000000 → PureF Tryz.prog 86 [Enc.av l, .int .i64 n, .int .i64 (d : Nat)] (.int .i64 (leftF d l n))
  | 0, l, n, hd, hok, h1, h2 => by
    refine pureF_W mix c86 (by kernel_rfl) (by kernel_rfl) (by simp [flats, flat_av, Go.AX.flat]) (by first | exact flat_av _ | simp [flat, flats, flat_av]) ?_
    have f0 : (((0 : Nat) : Int) < 1) = True := eq_true (by omega)
    simp -implicitDefEqProofs only [F86, f0, leftF, go_sem, seval]
  | d + 1, l, n, hd, hok, h1, h2 => by
    refine pureF_W mix c86 (by kernel_rfl) (by kernel_rfl) (by simp [flats, flat_av, Go.AX.flat]) (by first | exact flat_av _ | simp [flat, flats, flat_av]) ?_
    have ih := w_left d
    have f0 : (((d + 1 : Nat) : Int) < 1) = False := eq_false (by omega)
    have hlen : l.length ≤ 140737488355328 := hok.1
    have hall := hok.2
    have wd : IntKind.i64.wrap (((d + 1 : Nat) : Int) - 1) = (d : Int) := by rw [wrap64 (by omega) (by omega)]; omega
    simp -implicitDefEqProofs only [F86, f0, leftF, go_sem, seval]
    refine LoopI_sl (fun p : Nat × Int => l.length - p.1) (fun p => [(0, Enc.av l), (1, .int .i64 p.2), (2, .int .i64 (d + 1 : Nat)), (7, .int .i64 p.1)])
      (fun p s => p.1 ≤ l.length ∧ -1 ≤ p.2 ∧ p.2 ≤ 1000000 ∧ loopJ (leftF d) (l.drop p.1) p.2 = loopJ (leftF d) l n) (0, n) ?_ ?_
    · simp -implicitDefEqProofs only [List.drop_zero, go_sem, seval]
      exact ⟨h1, h2⟩
    rintro ⟨k, a⟩ ρ ⟨g, m⟩ ⟨k1, k2, k3, k4⟩
    dsimp only at k1 k2 k3 k4
    rcases Nat.lt_or_ge k l.length with hk | hk
    · obtain ⟨x, hx, hdr, hm⟩ := get_drop hk
      have hlt : ((k : Int) < (l.length : Int)) = True := eq_true (by omega)
      have w1 : IntKind.i64.wrap ((k : Int) + 1) = ((k + 1 : Nat) : Int) := by rw [wrap64 (by omega) (by omega)]; omega
      rw [hdr] at k4
      simp only [loopJ] at k4
      by_cases ha : a < 0
      · rw [if_pos ha] at k4
        have fa : (a ≥ 0) = False := eq_false (by omega)
        simp -implicitDefEqProofs only [hlt, fa, go_sem, seval]
        rw [← k4]
      rw [if_neg ha] at k4
      have fa : (a ≥ 0) = True := eq_true (by omega)
      have wa : IntKind.i64.wrap (a - 1) = a - 1 := wrap64 (by omega) (by omega)
      have bad : goodI x = false → loopJ (leftF d) l n = -1 := fun h => by rw [if_pos h] at k4; exact k4.symm
      have hix := (Ty.Item.ok_iff x).1 (hall x hm)
      by_cases hn : x.names.length ≤ 20
      · have fn : ((x.names.length : Int) > 20) = False := eq_false (by omega)
        have c4 := w_Small4 60 (by omega) x.sels hix.2.1
        have c7 := w_Small7 40 (by omega) (by omega) x.decls hix.2.2.1
        have c2 := w_Small2 x.vals 100 hix.2.2.2.2.2.2.1 (by omega) (by omega)
        simp -implicitDefEqProofs only [hlt, fa, wa, hx, fn, go_sem, seval]
        refine callI_pure c4 ?_
        cases b4 : smallC 60 x.sels x.sels.length
        · simp -implicitDefEqProofs only [go_sem, seval]
          rw [bad (by simp [goodI, b4])]
        simp -implicitDefEqProofs only [go_sem, seval]
        refine callI_pure c7 ?_
        cases b7 : small7B 40 x.decls
        · simp -implicitDefEqProofs only [go_sem, seval]
          rw [bad (by simp [goodI, b7])]
        simp -implicitDefEqProofs only [go_sem, seval]
        refine callI_pure c2 ?_
        cases b2 : small2B 100 x.vals
        · simp -implicitDefEqProofs only [go_sem, seval]
          rw [bad (by simp [goodI, b2])]
        simp -implicitDefEqProofs only [go_sem, seval]
        refine LoopI_sl (fun j : Nat => x.names.length - j) (fun j => [(0, Enc.av l), (1, .int .i64 (a - 1)), (2, .int .i64 (d + 1 : Nat)), (7, .int .i64 k), (8, .ptr m 0 0), (9, .int .i64 j)])
          (fun j s => j ≤ x.names.length ∧ m < s.next ∧ AX.look m s.heap = some (.cells 0 [.int .i64 x.kind, .ps x.sels.length (cellsL x.sels), .ps x.decls.length (cellsL x.decls), .ps x.names.length (cellsL x.names), .int .i64 x.min, .int .i64 x.max, .ps x.vals.length (cellsL x.vals), .ps x.l.length (cellsL x.l)] false) ∧ ∀ y ∈ x.names.take j, y.length ≤ 100) 0 ?_ ?_
        · simp -implicitDefEqProofs only [go_sem, seval]
          simp
        rintro j ρ ⟨g2, q⟩ ⟨j1, j2, j3, j4⟩
        dsimp only at j2 j3
        rcases Nat.lt_or_ge j x.names.length with hj | hj
        · obtain ⟨nm, hnm, hdj, hmj⟩ := get_drop hj
          have hltj : ((j : Int) < (x.names.length : Int)) = True := eq_true (by omega)
          have wj : IntKind.i64.wrap ((j : Int) + 1) = ((j + 1 : Nat) : Int) := by rw [wrap64 (by omega) (by omega)]; omega
          by_cases hnl : nm.length ≤ 100
          · have fl : ((nm.length : Int) > 100) = False := eq_false (by omega)
            simp -implicitDefEqProofs only [hltj, j3, hnm, fl, wj, go_sem, seval]
            refine ⟨j + 1, by omega, rfl, by omega, j2, fun y hy => ?_⟩
            rw [List.take_add_one, hnm] at hy
            simp only [Option.toList_some, List.mem_append, List.mem_singleton] at hy
            rcases hy with hy | rfl
            · exact j4 y hy
            · exact hnl
          · have fl : ((nm.length : Int) > 100) = True := eq_true (by omega)
            simp -implicitDefEqProofs only [hltj, j3, hnm, fl, go_sem, seval]
            have hsh : shortN x.names = false := List.all_eq_false.2 ⟨nm, hmj, by simp [hnl]⟩
            rw [bad (by simp [goodI, hsh])]
        · have hltj : ((j : Int) < (x.names.length : Int)) = False := eq_false (by omega)
          rw [List.take_of_length_le hj] at j4
          have hsh : shortN x.names = true := List.all_eq_true.2 fun y hy => decide_eq_true (j4 y hy)
          have hg : goodI x = true := by simp [goodI, hn, b4, b7, b2, hsh]
          rw [hg] at k4
          simp only [Bool.true_eq_false, if_false] at k4
          by_cases hb : a - 1 ≥ 0 ∧ 0 < x.l.length
          · rw [if_pos hb] at k4
            have fb := eq_true hb.1
            have fc : ((x.l.length : Int) > 0) = True := eq_true (by omega)
            have hc := ih x.l (a - 1) (by omega) hix.2.2.2.2.2.2.2 (by omega) (by omega)
            have hfo := (leftF_ok d x.l (a - 1) (by omega)).1
            simp -implicitDefEqProofs only [hltj, j3, fb, fc, wd, go_sem, seval]
            refine callI_pure hc ?_
            simp -implicitDefEqProofs only [w1, go_sem, seval]
            exact ⟨(k + 1, leftF d x.l (a - 1)), by simp only; omega, ⟨rfl, rfl⟩, by simp only; omega, by simp only; omega, by simp only; omega, k4⟩
          · rw [if_neg hb] at k4
            by_cases hb1 : a - 1 ≥ 0
            · have fb := eq_true hb1
              have fc : ((x.l.length : Int) > 0) = False := eq_false (by omega)
              simp -implicitDefEqProofs only [hltj, j3, fb, fc, w1, go_sem, seval]
              exact ⟨(k + 1, a - 1), by simp only; omega, ⟨rfl, rfl⟩, by simp only; omega, by omega, by omega, k4⟩
            · have fb := eq_false hb1
              simp -implicitDefEqProofs only [hltj, j3, fb, w1, go_sem, seval]
              exact ⟨(k + 1, a - 1), by simp only; omega, ⟨rfl, rfl⟩, by simp only; omega, by omega, by omega, k4⟩
      · have fn : ((x.names.length : Int) > 20) = True := eq_true (by omega)
        simp -implicitDefEqProofs only [hlt, fa, wa, hx, fn, go_sem, seval]
        rw [bad (by simp [goodI, hn])]
    · have hlt : ((k : Int) < (l.length : Int)) = False := eq_false (by omega)
      rw [List.drop_of_length_le hk] at k4
      simp -implicitDefEqProofs only [hlt, go_sem, seval]
      rw [← k4]; rfl
def small8B (n : Int) (l : List Ty.Item) : Bool := decide (leftF 8 l n ≥ 0)
theorem w_Small8 (l : List Ty.Item) (n : Int) (hok : Enc.ok l) (h1 : -1 ≤ n) (h2 : n ≤ 1000000) : PureF Tryz.prog 59 [Enc.av l, .int .i64 n] (.bool (small8B n l)) := by
  refine pureF_W mix c59 (by kernel_rfl) (by kernel_rfl) (by simp [flats, flat_av, Go.AX.flat]) (by first | exact flat_av _ | simp [flat, flats, flat_av]) ?_
  have hc := w_left 8 l n (by omega) hok h1 h2
  rw [show (((8 : Nat) : Int)) = 8 from rfl] at hc
  simp -implicitDefEqProofs only [F59, go_sem, seval]
  refine callI_pure hc ?_
  simp -implicitDefEqProofs only [go_sem, seval]
  try rfl
theorem small8_ok {n : Int} {l : List Ty.Item} (h1 : -1 ≤ n) (h : small8B n l = true) : (szIL l : Int) ≤ n ∧ okIL l := by
  unfold small8B at h
  rw [decide_eq_true_eq] at h
  have := (leftF_ok 8 l n h1).2 h
  exact ⟨by omega, this.2⟩
def smallSh (sh : List (List Ty.Item)) : Bool := decide (sh.length ≤ 4) && sh.all (small8B 15)
theorem w_small (sh : List (List Ty.Item)) (hok : Enc.ok sh) : PureF Tryz.prog 32 [Enc.av sh] (.bool (smallSh sh)) := by
  refine pureF_W mix c32 (by kernel_rfl) (by kernel_rfl) (by simp [flats, flat_av, Go.AX.flat]) (by first | exact flat_av _ | simp [flat, flats, flat_av]) ?_
  have hlen : sh.length ≤ 140737488355328 := hok.1
  simp -implicitDefEqProofs only [F32, go_sem, seval]
  refine LoopI_sl (fun k : Nat => sh.length - k) (fun k => [(0, Enc.av sh), (3, .int .i64 k)]) (fun k s => k ≤ sh.length ∧ ∀ y ∈ sh.take k, small8B 15 y = true) 0 ?_ ?_
  · simp -implicitDefEqProofs only [go_sem, seval]
    simp
  rintro k ρ ⟨g, q⟩ ⟨k1, k2⟩
  by_cases hl : sh.length ≤ 4
  · have fl : ((sh.length : Int) ≤ 4) = True := eq_true (by omega)
    rcases Nat.lt_or_ge k sh.length with hk | hk
    · obtain ⟨x, hx, hdr, hm⟩ := get_drop hk
      have hlt : ((k : Int) < (sh.length : Int)) = True := eq_true (by omega)
      have w1 : IntKind.i64.wrap ((k : Int) + 1) = ((k + 1 : Nat) : Int) := by rw [wrap64 (by omega) (by omega)]; omega
      have hc := w_Small8 x 15 (hok.2 x hm) (by omega) (by omega)
      simp -implicitDefEqProofs only [hlt, fl, hx, go_sem, seval]
      refine callI_pure hc ?_
      cases hb : small8B 15 x
      · simp -implicitDefEqProofs only [go_sem, seval]
        have : sh.all (small8B 15) = false := List.all_eq_false.2 ⟨x, hm, by rw [hb]; decide⟩
        unfold smallSh
        rw [this, Bool.and_false]
      · simp -implicitDefEqProofs only [w1, go_sem, seval]
        refine ⟨k + 1, by omega, rfl, by omega, fun y hy => ?_⟩
        rw [List.take_add_one, hx] at hy
        simp only [Option.toList_some, List.mem_append, List.mem_singleton] at hy
        rcases hy with hy | rfl
        · exact k2 y hy
        · exact hb
    · have hlt : ((k : Int) < (sh.length : Int)) = False := eq_false (by omega)
      rw [List.take_of_length_le hk] at k2
      have e : smallSh sh = true := by unfold smallSh; rw [Bool.and_eq_true]; exact ⟨decide_eq_true hl, List.all_eq_true.2 k2⟩
      simp -implicitDefEqProofs only [hlt, fl, go_sem, seval]
      rw [e]
      try rfl
  · have fl : ((sh.length : Int) ≤ 4) = False := eq_false (by omega)
    have e : smallSh sh = false := by unfold smallSh; rw [decide_eq_false hl]; rfl
    rcases Nat.lt_or_ge k sh.length with hk | hk
    · have hlt : ((k : Int) < (sh.length : Int)) = True := eq_true (by omega)
      simp -implicitDefEqProofs only [hlt, fl, go_sem, seval]
      rw [e]
      try rfl
    · have hlt : ((k : Int) < (sh.length : Int)) = False := eq_false (by omega)
      simp -implicitDefEqProofs only [hlt, fl, go_sem, seval]
      rw [e]
      try rfl
end W15
/- Guards: what they tell. -/
set_option linter.unusedSimpArgs false
set_option linter.unusedVariables false
namespace W15
open Go Go.AX Go.AX.Ty Go.Proofs
theorem szIL_mem : ∀ {l : List Ty.Item} {x : Ty.Item}, x ∈ l → szI x ≤ szIL l
  | [], _, h => by simp at h
  | y :: r, x, h => by
    simp only [szIL]
    rcases List.mem_cons.1 h with rfl | h
    · omega
    · have := szIL_mem h; omega
theorem sizP_eq : ∀ l : List Part, sizP l = l.length + sizN l
  | [] => rfl
  | p :: r => by simp only [sizP, sizN, List.length_cons, sizP_eq r]; omega
def ItP (x : Ty.Item) : Prop := okI x ∧ Enc.ok x ∧ szI x ≤ 15
theorem ItP.sub {x : Ty.Item} (h : ItP x) : ∀ y ∈ x.l, ItP y := fun y hy => by
  obtain ⟨h1, h2, h3⟩ := h
  rw [szI_eq] at h3
  have := szIL_mem hy
  exact ⟨okIL_mem.1 ((okI_iff x).1 h1).2 y hy, ((Ty.Item.ok_iff x).1 h2).2.2.2.2.2.2.2.2 y hy, by omega⟩
theorem ItP.good {x : Ty.Item} (h : ItP x) : x.names.length ≤ 20 ∧ (∀ c ∈ x.sels, c.parts.length + sizN c.parts ≤ 60 ∧ Enc.ok c) ∧ x.sels.length ≤ 60 ∧ (x.decls.length ≤ 20 ∧ ∀ d ∈ x.decls, (szVL d.l : Int) ≤ 40 ∧ d.name.length ≤ 100) ∧ (szVL x.vals : Int) ≤ 100 ∧ x.l.length ≤ 15 := by
  obtain ⟨h1, h2, h3⟩ := h
  have hg := ((okI_iff x).1 h1).1
  unfold goodI at hg
  simp only [Bool.and_eq_true, decide_eq_true_eq] at hg
  obtain ⟨g1, g2, g3, g4, g5⟩ := hg
  have hx := (Ty.Item.ok_iff x).1 h2
  have hs := smallC_ok 60 x.sels x.sels.length g2
  rw [szI_eq] at h3
  have := len_szIL x.l
  refine ⟨g1, fun c hc => ⟨?_, hx.2.1.2 c hc⟩, by omega, small7_ok (by omega) g3, small2_ok (by omega) g4, by omega⟩
  have := (hs.2 c hc).1; omega
theorem small_it {sh : List (List Ty.Item)} (hok : Enc.ok sh) (h : smallSh sh = true) : sh.length ≤ 4 ∧ (∀ x ∈ sh.flatten, ItP x) ∧ ∀ s ∈ sh, szIL s ≤ 15 := by
  unfold smallSh at h
  rw [Bool.and_eq_true, decide_eq_true_eq, List.all_eq_true] at h
  refine ⟨h.1, fun x hx => ?_, fun s hs => ?_⟩
  · obtain ⟨s, hs, hx⟩ := List.mem_flatten.1 hx
    obtain ⟨h1, h2⟩ := small8_ok (by omega) (h.2 s hs)
    have := szIL_mem hx
    exact ⟨okIL_mem.1 h2 x hx, (hok.2 s hs).2 x hx, by omega⟩
  · have := (small8_ok (by omega) (h.2 s hs)).1; omega
theorem flat_sum {α : Type} (f : List α → Nat) (g : List α → Nat) (hg : ∀ a b, g (a ++ b) = g a + g b) (h0 : g [] = 0) (n : Nat) : ∀ l : List (List α), (∀ s ∈ l, g s ≤ n) → g l.flatten ≤ l.length * n
  | [], _ => by simp [h0]
  | s :: r, h => by
    rw [List.flatten_cons, hg, List.length_cons, Nat.add_mul]
    have := flat_sum f g hg h0 n r fun x hx => h x (by simp [hx])
    have := h s (by simp)
    omega
theorem szIL_app : ∀ a b : List Ty.Item, szIL (a ++ b) = szIL a + szIL b
  | [], b => by simp [szIL]
  | x :: r, b => by simp only [List.cons_append, szIL, szIL_app r b]; omega
theorem inner_sz (w k : Int) (x : Ty.Item) : (innerB w k x).length ≤ szI x := by
  have hs := szI_eq x
  have hl := len_szIL x.l
  unfold innerB mediaB
  split
  · split
    · have := List.length_filter_le bareB x.l
      simp only [List.length_map]; omega
    · simp
  · split <;> simp <;> omega
theorem inners_sz (w k : Int) : ∀ l : List Ty.Item, (l.flatMap (innerB w k)).length ≤ szIL l
  | [] => by simp
  | x :: r => by
    rw [List.flatMap_cons, List.length_append, szIL]
    have := inner_sz w k x
    have := inners_sz w k r
    omega
theorem top_sz (w : Int) (n : List Str) (x : Ty.Item) : (topB w n x).length ≤ szI x := by
  have hs := szI_eq x
  unfold topB
  split
  · split
    · have := inners_sz w (plcB n (nameOf x) : Nat) x.l; omega
    · simp
  · exact inner_sz _ _ _
theorem tops_sz (w : Int) (n : List Str) : ∀ l : List Ty.Item, (l.flatMap (topB w n)).length ≤ szIL l
  | [] => by simp
  | x :: r => by
    rw [List.flatMap_cons, List.length_append, szIL]
    have := top_sz w n x
    have := tops_sz w n r
    omega
theorem app_it {P : Ty.Item → Prop} (hs : ∀ x, P x → ∀ y ∈ x.l, P y) {w : Int} {sh : List (List Ty.Item)} (h : ∀ x ∈ sh.flatten, P x) : ∀ p ∈ appB w sh, P p.item := by
  have hi : ∀ (k : Int) (x : Ty.Item), P x → ∀ p ∈ innerB w k x, P p.item := fun k x hx p hp => by
    unfold innerB mediaB at hp
    split at hp
    · split at hp
      · obtain ⟨y, hy, rfl⟩ := List.mem_map.1 hp
        exact hs x hx y ((List.mem_filter.1 hy).1)
      · simp at hp
    · split at hp
      · simp at hp
      · simp at hp; rw [hp]; exact hx
  intro p hp
  unfold appB at hp
  obtain ⟨x, hx, hp⟩ := List.mem_flatMap.1 hp
  unfold topB at hp
  split at hp
  · split at hp
    · obtain ⟨y, hy, hp⟩ := List.mem_flatMap.1 hp
      exact hi _ y (hs x (h x hx) y hy) p hp
    · simp at hp
  · exact hi _ x (h x hx) p hp
structure ShAll (w : Int) (sh : List (List Ty.Item)) : Prop where
  ok : ShOk sh
  app : (appB w sh).length ≤ 60
  ii : ∀ x ∈ sh.flatten, ∀ y ∈ x.l, y.l.length ≤ 1000
  it : ∀ p ∈ appB w sh, ItP p.item
theorem sh_all {sh : List (List Ty.Item)} (hok : Enc.ok sh) (h : smallSh sh = true) (w : Int) : ShAll w sh := by
  obtain ⟨h1, h2, h3⟩ := small_it hok h
  have hfl : szIL sh.flatten ≤ 60 := by
    have := flat_sum (fun _ => 0) szIL szIL_app rfl 15 sh h3
    omega
  have hlen := len_szIL sh.flatten
  refine ⟨⟨by omega, by omega, fun x hx => ?_, fun x hx => ?_, fun x hx y hy => ?_⟩, ?_, fun x hx y hy => ?_, app_it (fun x hx => hx.sub) h2⟩
  · have := (h2 x hx).good.1; omega
  · have := (h2 x hx).good.2.2.2.2.2; omega
  · have := ((h2 x hx).sub y hy).good.2.2.2.2.2; omega
  · have := tops_sz w (layersB sh) sh.flatten
    unfold appB; omega
  · have := ((h2 x hx).sub y hy).good.2.2.2.2.2; omega
theorem rule_of {w : Int} {sh : List (List Ty.Item)} (h : ShAll w sh) : ∀ r ∈ rulesB w sh, (r.decls.length ≤ 20 ∧ ∀ d ∈ r.decls, (szVL d.l : Int) ≤ 40) ∧ r.sels.length ≤ 60 ∧ ∀ c ∈ r.sels, Enc.ok c ∧ c.parts.length + sizN c.parts ≤ 60 := by
  intro r hr
  obtain ⟨p, hp, hr⟩ := List.mem_filterMap.1 hr
  unfold ruleOf at hr
  split at hr
  · simp only [Option.some.injEq] at hr
    subst hr
    obtain ⟨g1, g2, g3, g4, g5, g6⟩ := (h.it p hp).good
    exact ⟨⟨g4.1, fun d hd => (g4.2 d hd).1⟩, g3, fun c hc => ⟨(g2 c hc).2, (g2 c hc).1⟩⟩
  · simp at hr
theorem rule_ok {w : Int} {sh : List (List Ty.Item)} (h : ShAll w sh) : ∀ r ∈ rulesB w sh, r.decls.length ≤ 1000000 ∧ r.sels.length ≤ 100000 ∧ ∀ c ∈ r.sels, Enc.ok c ∧ sizP c.parts ≤ 100000 := fun r hr => by
  obtain ⟨g1, g2, g3⟩ := rule_of h r hr
  refine ⟨by omega, by omega, fun c hc => ⟨(g3 c hc).1, ?_⟩⟩
  rw [sizP_eq]; have := (g3 c hc).2; omega
theorem rules_len {w : Int} {sh : List (List Ty.Item)} (h : ShAll w sh) : (rulesB w sh).length ≤ 60 := Nat.le_trans (List.length_filterMap_le _ _) h.app
theorem raw_sz {s : Scene} {n : Int} {pseudo : Str} : ∀ rs : List Rule, (∀ r ∈ rs, r.decls.length ≤ 20) → (rs.flatMap (rawF s n pseudo)).length ≤ rs.length * 20
  | [], _ => by simp
  | r :: q, h => by
    rw [List.flatMap_cons, List.length_append, List.length_cons, Nat.add_mul]
    have := raw_sz (s := s) (n := n) (pseudo := pseudo) q fun x hx => h x (by simp [hx])
    have h1 := h r (by simp)
    have : (rawF s n pseudo r).length ≤ r.decls.length := by unfold rawF; split <;> simp
    omega
theorem found_len {s : Scene} (n : Int) (pseudo : Str) (h : ShAll s.width s.sheets) : (foundB s n pseudo).length ≤ 1200 := by
  unfold foundB foundR
  rw [numb_len]
  have := raw_sz (s := s) (n := n) (pseudo := pseudo) (rulesB s.width s.sheets) fun r hr => (rule_of h r hr).1.1
  have := rules_len h
  omega
theorem numb_mem : ∀ {k : Nat} {l : List Ty.Found} {x : Ty.Found}, x ∈ numb k l → ∃ y ∈ l, x.decl = y.decl
  | _, [], _, h => by simp [numb] at h
  | k, y :: r, x, h => by
    simp only [numb, List.mem_cons] at h
    rcases h with rfl | h
    · exact ⟨y, by simp, rfl⟩
    · obtain ⟨z, hz, e⟩ := numb_mem h; exact ⟨z, by simp [hz], e⟩
theorem found_sz {s : Scene} (n : Int) (pseudo : Str) (h : ShAll s.width s.sheets) : ∀ x ∈ foundB s n pseudo, szVL x.decl.l ≤ 1000000 := fun x hx => by
  obtain ⟨y, hy, e⟩ := numb_mem hx
  obtain ⟨r, hr, hy⟩ := List.mem_flatMap.1 hy
  unfold rawF at hy
  split at hy
  · obtain ⟨d, hd, rfl⟩ := List.mem_map.1 hy
    rw [e]
    have := (rule_of h r hr).1.2 d hd
    simp only [mkF]; omega
  · simp at hy
end W15
/- Guards: the rest. -/
set_option linter.unusedSimpArgs false
set_option linter.unusedVariables false
namespace W15
open Go Go.AX Go.AX.Ty Go.Proofs
def fewSc (s : Scene) : Bool := smallSh s.sheets && (smallPg 30 s.p && fewB s.states)
theorem w_fewS (s : Scene) (hok : Enc.ok s) : PureF Tryz.prog 9 [Enc.av s] (.bool (fewSc s)) := by
  refine pureF_W mix c9 (by kernel_rfl) (by kernel_rfl) (by simp [flats, flat_av, Go.AX.flat]) (by first | exact flat_av _ | simp [flat, flats, flat_av]) ?_
  have hs := (Scene.ok_iff s).1 hok
  have c1 := w_small s.sheets hs.1
  have c2 := w_Small10 30 s.p hs.2.1
  have c3 := w_Few s.states hs.2.2.2
  simp -implicitDefEqProofs only [F9, go_sem, seval]
  refine callI_pure c1 ?_
  unfold fewSc
  cases smallSh s.sheets
  · simp -implicitDefEqProofs only [go_sem, seval]
    try rfl
  simp -implicitDefEqProofs only [go_sem, seval]
  refine callI_pure c2 ?_
  cases smallPg 30 s.p
  · simp -implicitDefEqProofs only [go_sem, seval]
    try rfl
  simp -implicitDefEqProofs only [go_sem, seval]
  refine callI_pure c3 ?_
  cases fewB s.states
  · simp -implicitDefEqProofs only [go_sem, seval]
    try rfl
  · simp -implicitDefEqProofs only [go_sem, seval]
    try rfl
end W15
