/- Fields, classes: owned. -/
import Derived.Test.YtaaobfeieelolaaTxB
import Derived.Test.YtaaobfeieelolaaAxE
set_option linter.unusedSimpArgs false
set_option linter.unusedVariables false
namespace W11
open Go Go.AX Go.AX.Ty Go.Proofs

theorem strs_lit : ∀ l : List Str, (cellsL l).all lit1 = true
  | [] => rfl
  | a :: r => by
    show ((Enc.cells a ++ cellsL r).all lit1) = true
    rw [List.all_append, strs_lit r, Bool.and_true]; rfl
theorem w_FieldsFuncO (s : Str) (hl : s.length ≤ 1000000) {n : Nat} (hn : (wordsB s).length = n) : OwnF Try.prog 74 [Enc.av s, .fn (.func 75) [] []] n n 1 (cellsL (wordsB s)) := by
  refine ownF_W mix c74 (by kernel_rfl) (by kernel_rfl) (by simp [flats, flat_av, Go.AX.flat]) (strs_lit _) ?_
  simp -implicitDefEqProofs only [F74, go_sem, Int.reduceLE, Int.reduceNeg, Int.reduceToNat, Nat.reduceAdd, Nat.reduceLeDiff, Nat.reduceMul, reduceCtorEq, ↓reduceIte]
  refine LoopI_sl (fun p : List Sp × Int × Nat => s.length - p.2.2) (fun p => [(0, Enc.av s), (1, .fn (.func 75) [] []), (5, .sl 0 (p.1.length * 2) 0 p.1.length 2), (6, .int .i64 p.2.1), (14, .ptr 1 0 0)])
    (fun p st => FF s p.1 p.2.1 p.2.2 ∧ 2 ≤ st.next ∧ AX.look 0 st.heap = some (.cells (p.1.length * 2) (cellsL p.1) false) ∧ AX.look 1 st.heap = some (.iter s p.2.2)) ([], -1, 0) ?_ ?_
  · simp -implicitDefEqProofs only [cellsL, go_sem, Int.reduceNeg, Nat.reduceEqDiff, reduceCtorEq, ↓reduceIte]
    exact ⟨FF.init s, rfl⟩
  rintro ⟨sp, start, pos⟩ ρ ⟨g, m⟩ ⟨h1, h2, h3, h4⟩
  dsimp only at h1 h2 h3 h4
  have m0 : (m = 0) = False := eq_false (by omega)
  have m1 : (m = 1) = False := eq_false (by omega)
  have hc : (cellsL sp).length = sp.length * 2 := Sp.clen sp
  have ht : List.take (sp.length * 2) (cellsL sp) = cellsL sp := List.take_of_length_le (by omega)
  have hbd : ((sp.length + 1) * 16 ≤ 140737488355328) = True := eq_true (by have := h1.len; have := h1.le; omega)
  have hmx : (sp.length * 2 ≤ sp.length * 2 + 1) = True := eq_true (by omega)
  have hm2 : (sp.length + 1) * 2 = sp.length * 2 + 2 := by omega
  have hsn : ∀ x : Sp, cellsL (sp ++ [x]) = cellsL sp ++ [.int .i64 x.a, .int .i64 x.b] := fun x => by rw [cellsL_append]; rfl
  rcases Nat.lt_or_ge pos s.length with hk | hk
  · obtain ⟨c, hx, hd, hm⟩ := get_drop hk
    have hlt : (pos < s.length) = True := eq_true hk
    have hspec := decL_spec c (s.drop (pos + 1))
    rw [← hd] at hspec
    simp -implicitDefEqProofs only [h4, hlt, m0, m1, go_sem, Nat.reduceEqDiff, reduceCtorEq, ↓reduceIte]
    have hpl := h1.le
    generalize decL (List.drop pos s) = d at hspec
    obtain ⟨r, n⟩ := d
    dsimp only at hspec
    have hv : 0 ≤ (r : Int) ∧ Utf8.valid (r : Int) = true ∧ pos + n ≤ s.length ∧ 1 ≤ n ∧ ((runeBlank (r : Int) = true ∧ blankB c = true ∧ n = 1) ∨ (runeBlank (r : Int) = false ∧ ∀ x ∈ (s.drop pos).take n, blankB x = false)) := by
      rcases hspec with ⟨a1, a2⟩ | ⟨a1, a2, a3, a4, a5, a6, a7⟩
      · simp only [Prod.mk.injEq] at a2
        obtain ⟨rfl, rfl⟩ := a2
        refine ⟨by omega, by simp only [Utf8.valid, Bool.or_eq_true, Bool.and_eq_true, decide_eq_true_eq]; omega, by omega, by omega, ?_⟩
        rw [runeBlank_nat c a1]
        cases hb : blankB c
        · right
          refine ⟨rfl, fun x hx' => ?_⟩
          rw [hd] at hx'
          simp at hx'
          rw [hx', hb]
        · left; exact ⟨rfl, rfl, rfl⟩
      · refine ⟨by omega, a4, ?_, a5, .inr ⟨runeBlank_big (by omega), fun x hx' => ?_⟩⟩
        · rw [List.length_drop] at a6; omega
        · have := a7 x hx'
          cases hb : blankB x
          · rfl
          · have := blankB_lt hb; omega
    obtain ⟨v1, v2, v3, v4, v5⟩ := hv
    have v6 := w_Classes1 r v1 v2
    rcases v5 with ⟨b1, b2, b3⟩ | ⟨b1, b2⟩
    · subst b3
      rw [b1] at v6
      refine callI_pure v6 ?_
      simp -implicitDefEqProofs only [go_sem, Nat.reduceEqDiff, reduceCtorEq, ↓reduceIte]
      refine brI_both (fun h hT => ?_) (fun h hT => ?_)
      · obtain ⟨a, rfl⟩ := Int.eq_ofNat_of_zero_le (show 0 ≤ start by omega)
        have hx64 : xorA .i64 (a : Int) = -1 - (a : Int) := xor64 (by omega) (by have := h1.st; omega)
        simp -implicitDefEqProofs only [h3, h4, hc, ht, hbd, hmx, m0, m1, hx64, go_sem, Int.reduceNeg, Nat.reduceAdd, Nat.reduceEqDiff, Nat.reduceLeDiff, reduceCtorEq, ↓reduceIte]
        refine ⟨(sp ++ [⟨a, pos⟩], -1 - (a : Int), pos + 1), by simp only; omega, ?_⟩
        have el : (sp ++ [(⟨a, pos⟩ : Sp)]).length = sp.length + 1 := by simp
        simp only [el, hsn, hm2, true_and, and_true]
        exact ⟨h1.cut hx b2 hl, by omega⟩
      · simp -implicitDefEqProofs only [h3, h4, go_sem, Nat.reduceEqDiff, reduceCtorEq, ↓reduceIte]
        refine ⟨(sp, start, pos + 1), by simp only; omega, ?_⟩
        simp only [true_and, and_true]
        exact ⟨h1.skip hx b2 (by omega), h2⟩
    · have hrun := h1.run v3 v4 b2
      rw [b1] at v6
      refine callI_pure v6 ?_
      simp -implicitDefEqProofs only [go_sem, Nat.reduceEqDiff, reduceCtorEq, ↓reduceIte]
      refine brI_both (fun h hT => ?_) (fun h hT => ?_)
      · rw [if_pos h] at hrun
        simp -implicitDefEqProofs only [h3, h4, go_sem, Nat.reduceEqDiff, reduceCtorEq, ↓reduceIte]
        refine ⟨(sp, (pos : Int), pos + n), by simp only; omega, ?_⟩
        simp only [true_and, and_true]
        exact ⟨hrun, h2⟩
      · rw [if_neg h] at hrun
        simp -implicitDefEqProofs only [h3, h4, go_sem, Nat.reduceEqDiff, reduceCtorEq, ↓reduceIte]
        refine ⟨(sp, start, pos + n), by simp only; omega, ?_⟩
        simp only [true_and, and_true]
        exact ⟨hrun, h2⟩
  · have hlt : (pos < s.length) = False := eq_false (by omega)
    have hpl := h1.le
    simp -implicitDefEqProofs only [h4, hlt, go_sem, Nat.reduceEqDiff, reduceCtorEq, ↓reduceIte]
    refine brI_both (fun h hT => ?_) (fun h hT => ?_)

    · obtain ⟨a, rfl⟩ := Int.eq_ofNat_of_zero_le (show 0 ≤ start by omega)
      have hend := h1.end1 (by omega)
      have hok : ∀ x ∈ sp ++ [(⟨a, s.length⟩ : Sp)], x.a ≤ x.b ∧ x.b ≤ s.length := fun x hx => by
        rcases List.mem_append.1 hx with hx | hx
        · exact h1.ok x hx
        · simp at hx; subst hx; have := h1.st; simp only; omega
      have hspl := h1.len
      have el : (sp ++ [(⟨a, s.length⟩ : Sp)]).length = sp.length + 1 := by simp
      have hsq := hsn ⟨a, s.length⟩
      have hm3 : sp.length * 2 + 2 = (sp.length + 1) * 2 := by omega
      have m3 : (m + 1 = 0) = False := eq_false (by omega)
      have m4 : (m + 1 = 1) = False := eq_false (by omega)
      have m5 : (0 = m + 1) = False := eq_false (by omega)
      have lsq : (⟨a, s.length⟩ : Sp).a = a ∧ (⟨a, s.length⟩ : Sp).b = s.length := ⟨rfl, rfl⟩
      simp only at hsq
      simp -implicitDefEqProofs only [h3, h4, hc, ht, hbd, hmx, m0, m1, m3, m4, m5, go_sem, Nat.reduceAdd, Nat.reduceEqDiff, Nat.reduceLeDiff, reduceCtorEq, ↓reduceIte]
      generalize hSQ : sp ++ [(⟨a, s.length⟩ : Sp)] = SQ at hend hok el hsq
      rw [← hsq, hm3, ← el]
      have hcap3 : (sp.length ≤ 9223372036854775806) = True := eq_true (by omega)
      have hcap1 : ((SQ).length * 16 ≤ 140737488355328 ∧ (SQ).length ≤ 9223372036854775807) = True := eq_true (by omega)
      have hcap2 : ((SQ).length ≤ 9223372036854775806) = True := eq_true (by omega)
      have rep : ∀ q : Nat, (List.replicate q [AV.str []]).flatten = List.replicate q (.str []) := fun q => by
        induction q with
        | zero => rfl
        | succ q ih => rw [List.replicate_succ, List.flatten_cons, ih]; rfl
      simp -implicitDefEqProofs only [h3, h4, hT, hcap1, hcap2, rep, m0, m1, hc, ht, hbd, hmx, m3, m4, m5, hcap3, go_sem, Nat.reduceEqDiff, ↓reduceIte]
      refine LoopI_sl (fun k : Nat => (SQ).length - k) (fun k => [(0, Enc.av s), (9, .sl (m + 1) (SQ).length 0 (SQ).length 1), (47, .sl 0 ((SQ).length * 2) 0 (SQ).length 2), (48, .int .i64 (SQ).length), (49, .int .i64 k)])
        (fun k st => k ≤ (SQ).length ∧ (m + 1) + 1 ≤ st.next ∧ AX.look 0 st.heap = some (.cells ((SQ).length * 2) (cellsL (SQ)) false) ∧ AX.look (m + 1) st.heap = some (.cells (SQ).length (cellsL (((SQ).take k).map (subS s)) ++ List.replicate ((SQ).length - k) (.str [])) false)) 0 ?_ ?_
      · simp -implicitDefEqProofs only [h3, h4, m0, m1, rep, hc, ht, hbd, hmx, m3, m4, m5, hcap3, go_sem, Nat.reduceEqDiff, reduceCtorEq, ↓reduceIte]
        try simp [cellsL]
      rintro k ρ ⟨g2, q⟩ ⟨j1, j2, j3, j4⟩
      dsimp only at j2 j3 j4
      have q0 : (q = 0) = False := eq_false (by omega)
      have qm : (q = (m + 1)) = False := eq_false (by omega)
      have n0 : (((m + 1)) = 0) = False := eq_false (by omega)
      have i0 : (0 < q) = True := eq_true (by omega)
      have im : (((m + 1)) < q) = True := eq_true (by omega)
      have cA : (cellsL (((SQ).take k).map (subS s))).length = k := by rw [cellsL_len]; simp [Enc.sz]; omega
      have cC : (cellsL (((SQ).take k).map (subS s)) ++ List.replicate ((SQ).length - k) (AV.str [])).length = (SQ).length := by rw [List.length_append, cA, List.length_replicate]; omega
      rcases Nat.lt_or_ge k (SQ).length with hk2 | hk2
      · obtain ⟨y, hy, hd2, hm2'⟩ := get_drop hk2
        have yok := hok y hm2'
        have hlt2 : ((k : Int) < ((SQ).length : Int)) = True := eq_true (by omega)
        have hltn : (k < (SQ).length) = True := eq_true hk2
        have hle : (k * 2 ≤ (SQ).length * 2) = True := eq_true (by omega)
        have hle1 : (k + 1 ≤ (SQ).length) = True := eq_true (by omega)
        have ya : (y.a ≤ y.b) = True := eq_true yok.1
        have yb : (y.b ≤ s.length) = True := eq_true yok.2
        have w1 : IntKind.i64.wrap ((k : Int) + 1) = ((k + 1 : Nat) : Int) := by rw [wrap64 (by omega) (by omega)]; omega
        have hdr : List.drop (k * 2) (cellsL (SQ)) = .int .i64 y.a :: .int .i64 y.b :: cellsL ((SQ).drop (k + 1)) := by
          have := cellsL_drop (SQ) k
          rw [hd2] at this
          exact this
        have hsl : (cellsL (SQ)).length = (SQ).length * 2 := Sp.clen (SQ)
        have tA : List.take k (cellsL (((SQ).take k).map (subS s)) ++ List.replicate ((SQ).length - k) (AV.str [])) = cellsL (((SQ).take k).map (subS s)) := by rw [List.take_append_of_le_length (by omega), List.take_of_length_le (by omega)]
        have dA : List.drop (k + 1) (cellsL (((SQ).take k).map (subS s)) ++ List.replicate ((SQ).length - k) (AV.str [])) = List.replicate ((SQ).length - (k + 1)) (.str []) := by
          rw [List.drop_append, List.drop_of_length_le (by omega), cA, List.nil_append, List.drop_replicate]; congr 1; omega
        have hfin : cellsL (((SQ).take (k + 1)).map (subS s)) = cellsL (((SQ).take k).map (subS s)) ++ [.str (subS s y)] := by
          rw [List.take_add_one, hy]
          simp only [Option.toList_some, List.map_append, List.map_singleton, cellsL_append]; rfl
        simp -implicitDefEqProofs only [hlt2, hltn, hle, hle1, hy, w1, j3, j4, hsl, hdr, q0, qm, n0, i0, im, ya, yb, cC, tA, dA, go_sem, Nat.reduceAdd, Nat.reduceEqDiff, Nat.reduceLeDiff, reduceCtorEq, ↓reduceIte]
        refine ⟨k + 1, by omega, ?_⟩
        simp only [true_and, and_true, Nat.succ_le_of_lt hk2]
        rw [hfin, List.append_assoc]
        exact ⟨by omega, by simp only [subS, List.append_assoc, List.singleton_append]⟩
      · have hlt2 : ((k : Int) < ((SQ).length : Int)) = False := eq_false (by omega)
        simp -implicitDefEqProofs only [hlt2, go_sem, Nat.reduceEqDiff, reduceCtorEq, ↓reduceIte]
        have hkn : k = (SQ).length := by omega
        subst hkn
        rw [List.take_length, Nat.sub_self, List.replicate_zero, List.append_nil] at j4
        rw [List.take_length] at cA
        rw [hend] at j4
        rw [← hend, List.length_map] at hn
        rw [hn] at j4 ⊢
        exact ⟨_, rfl, j4⟩

    · have hend := h1.end0 (by omega) (by omega)
      have hok := h1.ok
      have hspl := h1.len
      have hcap1 : ((sp).length * 16 ≤ 140737488355328 ∧ (sp).length ≤ 9223372036854775807) = True := eq_true (by omega)
      have hcap2 : ((sp).length ≤ 9223372036854775806) = True := eq_true (by omega)
      have rep : ∀ q : Nat, (List.replicate q [AV.str []]).flatten = List.replicate q (.str []) := fun q => by
        induction q with
        | zero => rfl
        | succ q ih => rw [List.replicate_succ, List.flatten_cons, ih]; rfl
      simp -implicitDefEqProofs only [h3, h4, hT, hcap1, hcap2, rep, m0, m1, hc, ht, go_sem, Nat.reduceEqDiff, reduceCtorEq, ↓reduceIte]
      refine LoopI_sl (fun k : Nat => (sp).length - k) (fun k => [(0, Enc.av s), (9, .sl m (sp).length 0 (sp).length 1), (47, .sl 0 ((sp).length * 2) 0 (sp).length 2), (48, .int .i64 (sp).length), (49, .int .i64 k)])
        (fun k st => k ≤ (sp).length ∧ m + 1 ≤ st.next ∧ AX.look 0 st.heap = some (.cells ((sp).length * 2) (cellsL (sp)) false) ∧ AX.look m st.heap = some (.cells (sp).length (cellsL (((sp).take k).map (subS s)) ++ List.replicate ((sp).length - k) (.str [])) false)) 0 ?_ ?_
      · simp -implicitDefEqProofs only [h3, h4, m0, m1, rep, hc, ht, go_sem, Nat.reduceEqDiff, reduceCtorEq, ↓reduceIte]
        try simp [cellsL]
      rintro k ρ ⟨g2, q⟩ ⟨j1, j2, j3, j4⟩
      dsimp only at j2 j3 j4
      have q0 : (q = 0) = False := eq_false (by omega)
      have qm : (q = m) = False := eq_false (by omega)
      have n0 : ((m) = 0) = False := eq_false (by omega)
      have i0 : (0 < q) = True := eq_true (by omega)
      have im : ((m) < q) = True := eq_true (by omega)
      have cA : (cellsL (((sp).take k).map (subS s))).length = k := by rw [cellsL_len]; simp [Enc.sz]; omega
      have cC : (cellsL (((sp).take k).map (subS s)) ++ List.replicate ((sp).length - k) (AV.str [])).length = (sp).length := by rw [List.length_append, cA, List.length_replicate]; omega
      rcases Nat.lt_or_ge k (sp).length with hk2 | hk2
      · obtain ⟨y, hy, hd2, hm2'⟩ := get_drop hk2
        have yok := hok y hm2'
        have hlt2 : ((k : Int) < ((sp).length : Int)) = True := eq_true (by omega)
        have hltn : (k < (sp).length) = True := eq_true hk2
        have hle : (k * 2 ≤ (sp).length * 2) = True := eq_true (by omega)
        have hle1 : (k + 1 ≤ (sp).length) = True := eq_true (by omega)
        have ya : (y.a ≤ y.b) = True := eq_true yok.1
        have yb : (y.b ≤ s.length) = True := eq_true yok.2
        have w1 : IntKind.i64.wrap ((k : Int) + 1) = ((k + 1 : Nat) : Int) := by rw [wrap64 (by omega) (by omega)]; omega
        have hdr : List.drop (k * 2) (cellsL (sp)) = .int .i64 y.a :: .int .i64 y.b :: cellsL ((sp).drop (k + 1)) := by
          have := cellsL_drop (sp) k
          rw [hd2] at this
          exact this
        have hsl : (cellsL (sp)).length = (sp).length * 2 := Sp.clen (sp)
        have tA : List.take k (cellsL (((sp).take k).map (subS s)) ++ List.replicate ((sp).length - k) (AV.str [])) = cellsL (((sp).take k).map (subS s)) := by rw [List.take_append_of_le_length (by omega), List.take_of_length_le (by omega)]
        have dA : List.drop (k + 1) (cellsL (((sp).take k).map (subS s)) ++ List.replicate ((sp).length - k) (AV.str [])) = List.replicate ((sp).length - (k + 1)) (.str []) := by
          rw [List.drop_append, List.drop_of_length_le (by omega), cA, List.nil_append, List.drop_replicate]; congr 1; omega
        have hfin : cellsL (((sp).take (k + 1)).map (subS s)) = cellsL (((sp).take k).map (subS s)) ++ [.str (subS s y)] := by
          rw [List.take_add_one, hy]
          simp only [Option.toList_some, List.map_append, List.map_singleton, cellsL_append]; rfl
        simp -implicitDefEqProofs only [hlt2, hltn, hle, hle1, hy, w1, j3, j4, hsl, hdr, q0, qm, n0, i0, im, ya, yb, cC, tA, dA, go_sem, Nat.reduceAdd, Nat.reduceEqDiff, Nat.reduceLeDiff, reduceCtorEq, ↓reduceIte]
        refine ⟨k + 1, by omega, ?_⟩
        simp only [true_and, and_true, Nat.succ_le_of_lt hk2]
        rw [hfin, List.append_assoc]
        exact ⟨by omega, by simp only [subS, List.append_assoc, List.singleton_append]⟩
      · have hlt2 : ((k : Int) < ((sp).length : Int)) = False := eq_false (by omega)
        simp -implicitDefEqProofs only [hlt2, go_sem, Nat.reduceEqDiff, reduceCtorEq, ↓reduceIte]
        have hkn : k = (sp).length := by omega
        subst hkn
        rw [List.take_length, Nat.sub_self, List.replicate_zero, List.append_nil] at j4
        rw [List.take_length] at cA
        rw [hend] at j4
        rw [← hend, List.length_map] at hn
        rw [hn] at j4 ⊢
        exact ⟨_, rfl, j4⟩

theorem w_ClassesO (p : Page) (hp : PgOk p) (n : Int) {k : Nat} (hk : (classesB p n).length = k) : OwnF Try.prog 51 [Enc.av p, Enc.av n] k k 1 (cellsL (classesB p n)) := by
  refine ownF_W mix c51 (by kernel_rfl) (by kernel_rfl) (by simp [flats, flat_av, Go.AX.flat]) (strs_lit _) ?_
  simp -implicitDefEqProofs only [F51, go_sem, Nat.reduceEqDiff, reduceCtorEq, ↓reduceIte]
  refine callI_pure (w_Attr p hp.ok n sClass) ?_
  simp -implicitDefEqProofs only [go_sem, Nat.reduceEqDiff, ↓reduceIte]
  refine callI_own (w_FieldsFuncO _ (attrB_len hp n sClass) hk) ?_
  simp -implicitDefEqProofs only [go_sem, ↓reduceIte]
  exact ⟨_, rfl, rfl⟩
end W11
/- A page that is owned: its block, its attributes' blocks. -/
set_option linter.unusedSimpArgs false
set_option linter.unusedVariables false
namespace W11
open Go Go.AX Go.AX.Ty Go.Proofs

abbrev NR := Ty.Node × AV
def ncells (p : NR) : List AV := [.str p.1.name, p.2, .str p.1.text, .int .i64 p.1.up, .ps p.1.kids.length (cellsL p.1.kids)]
def pcells : List NR → List AV
  | [] => []
  | p :: r => ncells p ++ pcells r
theorem pcells_len : ∀ L : List NR, (pcells L).length = L.length * 5
  | [] => rfl
  | p :: r => by simp only [pcells, List.length_append, pcells_len r, List.length_cons, ncells, List.length_nil]; omega
theorem pcells_append : ∀ (L M : List NR), pcells (L ++ M) = pcells L ++ pcells M
  | [], M => rfl
  | p :: r, M => by simp only [List.cons_append, pcells, pcells_append r M, List.append_assoc]
theorem pcells_drop : ∀ (L : List NR) (k : Nat), (pcells L).drop (k * 5) = pcells (L.drop k)
  | L, 0 => by simp
  | [], k + 1 => by simp [pcells]
  | p :: r, k + 1 => by
    have : (k + 1) * 5 = 5 + k * 5 := by omega
    rw [this, ← List.drop_drop]
    show ((ncells p ++ pcells r).drop 5).drop (k * 5) = pcells (r.drop k)
    rw [List.drop_left' (by rfl), pcells_drop r k]
theorem pcells_take : ∀ (L : List NR) (k : Nat), (pcells L).take (k * 5) = pcells (L.take k)
  | L, 0 => by simp [pcells]
  | [], k + 1 => by simp [pcells]
  | p :: r, k + 1 => by
    have h5 : (ncells p).length = 5 := rfl
    show (ncells p ++ pcells r).take ((k + 1) * 5) = ncells p ++ pcells (r.take k)
    rw [List.take_append, h5, show (k + 1) * 5 - 5 = k * 5 by omega, pcells_take r k, List.take_of_length_le (by omega)]
theorem pcells_at {L : List NR} {k : Nat} {p : NR} (h : L[k]? = some p) : (pcells L).drop (k * 5) = ncells p ++ pcells (L.drop (k + 1)) := by
  have hk : k < L.length := by
    rcases Nat.lt_or_ge k L.length with h' | h'
    · exact h'
    · rw [List.getElem?_eq_none h'] at h; simp at h
  rw [pcells_drop, List.drop_eq_getElem_cons hk]
  rw [List.getElem?_eq_getElem hk] at h
  simp at h
  rw [h]; rfl
theorem pcells_at1 {L : List NR} {k : Nat} {p : NR} (h : L[k]? = some p) : (pcells L).drop (k * 5 + 1) = p.2 :: ([.str p.1.text, .int .i64 p.1.up, .ps p.1.kids.length (cellsL p.1.kids)] ++ pcells (L.drop (k + 1))) := by
  rw [← List.drop_drop, pcells_at h]; rfl
theorem pcells_at2 {L : List NR} {k : Nat} {p : NR} (h : L[k]? = some p) : (pcells L).drop (k * 5 + 2) = [.str p.1.text, .int .i64 p.1.up, .ps p.1.kids.length (cellsL p.1.kids)] ++ pcells (L.drop (k + 1)) := by
  rw [← List.drop_drop, pcells_at h]; rfl
/-- one element's attributes are others -/
theorem pcells_set1 {L : List NR} {k : Nat} {x : Ty.Node} {r r' : AV} (h : L[k]? = some (x, r)) (a : List Ty.Attr) : (pcells L).take (k * 5 + 1) ++ r' :: (pcells L).drop (k * 5 + 2) = pcells (L.set k (withA x a, r')) := by
  have hk : k < L.length := by
    rcases Nat.lt_or_ge k L.length with h' | h'
    · exact h'
    · rw [List.getElem?_eq_none h'] at h; simp at h
  have e1 : (pcells L).take (k * 5 + 1) = pcells (L.take k) ++ [.str x.name] := by
    conv => lhs; rw [← List.take_append_drop (k * 5) (pcells L)]
    have hl : ((pcells L).take (k * 5)).length = k * 5 := by rw [List.length_take, pcells_len]; omega
    rw [List.take_append, hl, show k * 5 + 1 - k * 5 = 1 by omega, pcells_at h, List.take_of_length_le (by omega), pcells_take]; rfl
  rw [e1, pcells_at2 h]
  have e2 : L.set k (withA x a, r') = L.take k ++ (withA x a, r') :: L.drop (k + 1) := by
    rw [List.set_eq_take_append_cons_drop, if_pos hk]
  rw [e2, pcells_append]
  simp only [pcells, ncells, withA, List.append_assoc, List.cons_append, List.nil_append]

def refId : AV → Option Nat
  | .sl b _ _ _ _ => some b
  | _ => none
def plainR (x : Ty.Node) : AV := .ps x.attrs.length (cellsL x.attrs)
theorem at_len (l : List Ty.Attr) : (cellsL l).length = l.length * 2 := Attr.clen l
/-- what a node's attributes are in -/
def RefOk (h : List (Nat × AX.Obj)) (m A : Nat) (p : NR) : Prop :=
  p.2 = plainR p.1 ∨ (p.2 = .nils ∧ p.1.attrs = []) ∨ ∃ b v T, p.2 = .sl b v 0 p.1.attrs.length 2 ∧ b < m ∧ b ≠ A ∧ AX.look b h = some (.cells v (cellsL p.1.attrs ++ T) false) ∧ T.all lit1 = true
structure PgSt (h : List (Nat × AX.Obj)) (m A e : Nat) (L : List NR) : Prop where
  blk : AX.look A h = some (.cells e (pcells L) false)
  lt : A < m
  refs : ∀ (i : Nat) (p : NR), L[i]? = some p → RefOk h m A p
  dist : ∀ (i j : Nat) (p q : NR) (b : Nat), L[i]? = some p → L[j]? = some q → refId p.2 = some b → refId q.2 = some b → i = j
  wf : Wf ⟨h, m⟩

theorem RefOk.frame {h h' : List (Nat × AX.Obj)} {m m' A : Nat} {p : NR} (r : RefOk h m A p) (hm : m ≤ m') (hf : ∀ b, refId p.2 = some b → AX.look b h' = AX.look b h) : RefOk h' m' A p := by
  rcases r with e | e | ⟨b, v, cs, e, g1, g2, g3, g4⟩
  · exact .inl e
  · exact .inr (.inl e)
  · exact .inr (.inr ⟨b, v, cs, e, by omega, g2, by rw [hf b (by rw [e]; rfl)]; exact g3, g4⟩)
theorem RefOk.lt {h : List (Nat × AX.Obj)} {m A : Nat} {p : NR} (r : RefOk h m A p) {b : Nat} (e : refId p.2 = some b) : b < m ∧ b ≠ A := by
  rcases r with e' | ⟨e', _⟩ | ⟨b', v, cs, e', g1, g2, _⟩
  · rw [e'] at e; simp [plainR, refId] at e
  · rw [e'] at e; simp [refId] at e
  · rw [e'] at e; simp [refId] at e; subst e; exact ⟨g1, g2⟩
theorem PgSt.frame {h h' : List (Nat × AX.Obj)} {m m' A e : Nat} {L : List NR} (s : PgSt h m A e L) (hm : m ≤ m') (hf : ∀ b, b < m → AX.look b h' = AX.look b h) (hw : Wf ⟨h', m'⟩) : PgSt h' m' A e L :=
  ⟨by rw [hf A s.lt]; exact s.blk, by have := s.lt; omega, fun i p hp => (s.refs i p hp).frame hm fun b hb => hf b ((s.refs i p hp).lt hb).1, s.dist, hw⟩

/-- ONE ELEMENT'S ATTRIBUTES CHANGE. -/
theorem PgSt.turn {h h' : List (Nat × AX.Obj)} {m m' A e : Nat} {L : List NR} (s : PgSt h m A e L) {k : Nat} {x y : Ty.Node} {r r' : AV} (hx : L[k]? = some (x, r)) (hm : m ≤ m') (hw : Wf ⟨h', m'⟩)
    (hblk : AX.look A h' = some (.cells e (pcells (L.set k (y, r'))) false)) (hok : RefOk h' m' A (y, r'))
    (hf : ∀ b, b < m → b ≠ A → refId r ≠ some b → AX.look b h' = AX.look b h) (hr : refId r' = none ∨ refId r' = refId r ∨ ∃ b, refId r' = some b ∧ m ≤ b) : PgSt h' m' A e (L.set k (y, r')) := by
  have hk : k < L.length := by
    rcases Nat.lt_or_ge k L.length with h' | h'
    · exact h'
    · rw [List.getElem?_eq_none h'] at hx; simp at hx
  have old : ∀ i p, i ≠ k → (L.set k (y, r'))[i]? = some p → L[i]? = some p := fun i p hi hp => by
    rw [List.getElem?_set_ne (Ne.symm hi)] at hp; exact hp
  have new : (L.set k (y, r'))[k]? = some (y, r') := by rw [List.getElem?_set_self hk]
  have key : ∀ i p b, i ≠ k → L[i]? = some p → refId p.2 = some b → refId r' ≠ some b := fun i p b hi hp hb hb' => by
    rcases hr with e | e | ⟨b', e, hle⟩
    · rw [e] at hb'; simp at hb'
    · rw [e] at hb'
      exact hi (s.dist i k p (x, r) b hp hx hb hb')
    · rw [e] at hb'; simp at hb'; subst hb'
      have := ((s.refs i p hp).lt hb).1; omega
  refine ⟨hblk, by have := s.lt; omega, fun i p hp => ?_, fun i j p q b hp hq hb hb' => ?_, hw⟩
  · by_cases hi : i = k
    · subst hi; rw [new] at hp; cases hp; exact hok
    · have hp' := old i p hi hp
      refine (s.refs i p hp').frame hm fun b hb => hf b ((s.refs i p hp').lt hb).1 ((s.refs i p hp').lt hb).2 fun hb2 => hi (s.dist i k p (x, r) b hp' hx hb hb2)
  · by_cases hi : i = k
    · subst hi; rw [new] at hp; cases hp
      by_cases hj : j = i
      · exact hj.symm
      · exact (key j q b hj (old j q hj hq) hb' hb).elim
    · by_cases hj : j = k
      · subst hj; rw [new] at hq; cases hq
        exact (key i p b hi (old i p hi hp) hb hb').elim
      · exact s.dist i j p q b (old i p hi hp) (old j q hj hq) hb hb'

/- the page, seen -/
theorem viewList_lit (f : AV → Option Seen) (hf : ∀ v, lit1 v = true → f v = some (v, [])) : ∀ cs : List AV, cs.all lit1 = true → viewList f cs = some (cs, [])
  | [], _ => rfl
  | x :: r, h => by
    simp only [List.all_cons, Bool.and_eq_true] at h
    simp only [viewList, hf x h.1, viewList_lit f hf r h.2, List.append_nil]
theorem viewN_lit (g : Nat → Option AX.Obj) (d : Nat) (v : AV) (h : lit1 v = true) : viewN g d v = some (v, []) := by
  cases d with
  | zero => rfl
  | succ d => cases v <;> first | (simp [lit1] at h; done) | rfl
theorem attrs_lit : ∀ l : List Ty.Attr, (cellsL l).all lit1 = true
  | [] => rfl
  | a :: r => by
    show ((Enc.cells a ++ cellsL r).all lit1) = true
    rw [List.all_append, attrs_lit r, Bool.and_true]; rfl
theorem viewN_sl (g : Nat → Option AX.Obj) (d b e o n z : Nat) : viewN g (d + 1) (.sl b e o n z) = wrapO b e (g b) (fun cs => if o + n * z ≤ cs.length then wrapV (.ps n) (viewList (viewN g d) ((cs.drop o).take (n * z))) else none) := rfl
theorem view_ref {h : List (Nat × AX.Obj)} {m A d : Nat} {p : NR} (r : RefOk h m A p) : ∃ ps, viewN (St.get ⟨h, m⟩) (d + 2) p.2 = some (plainR p.1, ps) := by
  rcases r with e | ⟨e, e2⟩ | ⟨b, v, T, e, g1, g2, g3, _⟩
  · rw [e]; exact ⟨[], viewN_ps_flat _ _ _ _ (flats_cellsL _)⟩
  · rw [e]; refine ⟨[], ?_⟩; simp [viewN, plainR, e2, cellsL]
  · rw [e]
    have hb : (St.get ⟨h, m⟩ b) = some (.cells v (cellsL p.1.attrs ++ T) false) := g3
    have g4 : p.1.attrs.length * 2 ≤ (cellsL p.1.attrs ++ T).length := by rw [List.length_append, at_len]; omega
    have g5 : (cellsL p.1.attrs ++ T).take (p.1.attrs.length * 2) = cellsL p.1.attrs := List.take_left' (at_len _)
    have hv : viewList (viewN (St.get ⟨h, m⟩) (d + 1)) (cellsL p.1.attrs) = some (cellsL p.1.attrs, []) := viewList_lit _ (fun v hv => viewN_lit _ _ v hv) _ (attrs_lit _)
    refine ⟨[(b, .cells v (cellsL p.1.attrs ++ T) true)], ?_⟩
    rw [viewN_sl, hb]
    simp only [wrapO, if_true, Nat.zero_add, g4, List.drop_zero, g5, hv, wrapV, plainR]
theorem view_pcells {h : List (Nat × AX.Obj)} {m A d : Nat} : ∀ L : List NR, (∀ p ∈ L, RefOk h m A p) → ∃ ps, viewList (viewN (St.get ⟨h, m⟩) (d + 2)) (pcells L) = some (cellsL (L.map (·.1)), ps)
  | [], _ => ⟨[], rfl⟩
  | p :: r, hr => by
    obtain ⟨ps, h1⟩ := view_ref (d := d) (hr p (by simp))
    obtain ⟨qs, h2⟩ := view_pcells (d := d) r fun q hq => hr q (by simp [hq])
    have h3 : ∀ n cs, flats cs = true → viewN (St.get ⟨h, m⟩) (d + 2) (.ps n cs) = some (.ps n cs, []) := fun n cs hc => viewN_ps_flat _ _ _ _ hc
    have h4 : ∀ s, viewN (St.get ⟨h, m⟩) (d + 2) (.str s) = some (.str s, []) := fun s => rfl
    have h5 : ∀ k n, viewN (St.get ⟨h, m⟩) (d + 2) (.int k n) = some (.int k n, []) := fun k n => rfl
    refine ⟨ps ++ qs, ?_⟩
    simp only [pcells, ncells, List.cons_append, List.nil_append, viewList, h1, h2, h3 _ _ (flats_cellsL _), h4, h5, List.map_cons, cellsL, Node.ecells, plainR, List.append_nil]
theorem PgSt.view {h : List (Nat × AX.Obj)} {m A e : Nat} {L : List NR} (s : PgSt h m A e L) : ∃ ps, viewN (St.get ⟨h, m⟩) 7 (.sl A e 0 L.length 5) = some (Enc.av (L.map (·.1)), ps) := by
  obtain ⟨ps, h1⟩ := view_pcells (d := 4) L fun p hp => by
    obtain ⟨i, hi⟩ := List.getElem?_of_mem hp
    exact s.refs i p hi
  have hb : (St.get ⟨h, m⟩ A) = some (.cells e (pcells L) false) := s.blk
  have hl : (pcells L).take (L.length * 5) = pcells L := List.take_of_length_le (by rw [pcells_len]; omega)
  refine ⟨(A, .cells e (pcells L) true) :: ps, ?_⟩
  have hle : L.length * 5 ≤ (pcells L).length := by rw [pcells_len]; omega
  show viewN (St.get ⟨h, m⟩) (6 + 1) _ = _
  rw [viewN_sl, hb]
  simp only [wrapO, if_true, Nat.zero_add, hle, List.drop_zero, hl, h1, wrapV]
  rw [eav_L, List.length_map]
theorem PgSt.view8 {h : List (Nat × AX.Obj)} {m A e : Nat} {L : List NR} (s : PgSt h m A e L) : ∃ ps, viewN (St.get ⟨h, m⟩) 8 (.sl A e 0 L.length 5) = some (Enc.av (L.map (·.1)), ps) := by
  obtain ⟨ps, h1⟩ := view_pcells (d := 5) L fun p hp => by
    obtain ⟨i, hi⟩ := List.getElem?_of_mem hp
    exact s.refs i p hi
  have hb : (St.get ⟨h, m⟩ A) = some (.cells e (pcells L) false) := s.blk
  have hl : (pcells L).take (L.length * 5) = pcells L := List.take_of_length_le (by rw [pcells_len]; omega)
  refine ⟨(A, .cells e (pcells L) true) :: ps, ?_⟩
  have hle : L.length * 5 ≤ (pcells L).length := by rw [pcells_len]; omega
  show viewN (St.get ⟨h, m⟩) (7 + 1) _ = _
  rw [viewN_sl, hb]
  simp only [wrapO, if_true, Nat.zero_add, hle, List.drop_zero, hl, h1, wrapV]
  rw [eav_L, List.length_map]
/-- of what is not plain -/
def NP (r : AV) : Prop := r = .nils ∨ ∃ b v n, r = .sl b v 0 n 2
theorem ref_cases {h : List (Nat × AX.Obj)} {m A : Nat} {x : Ty.Node} {r : AV} (ro : RefOk h m A (x, r)) (np : NP r) : (r = .nils ∧ x.attrs = []) ∨ ∃ b v T, r = .sl b v 0 x.attrs.length 2 ∧ b < m ∧ b ≠ A ∧ AX.look b h = some (.cells v (cellsL x.attrs ++ T) false) ∧ T.all lit1 = true := by
  rcases ro with e | e | e
  · simp only at e
    rcases np with e2 | ⟨b, v, n, e2⟩
    · rw [e2] at e; simp [plainR] at e
    · rw [e2] at e; simp [plainR] at e
  · exact .inl e
  · exact .inr e
theorem view_attrs (g : Nat → Option AX.Obj) (d : Nat) (l : List Ty.Attr) : viewList (viewN g d) (cellsL l) = some (cellsL l, []) := viewList_lit _ (fun v hv => viewN_lit _ _ v hv) _ (attrs_lit _)
theorem seesK_of {xs args : List AV} {ps : List (Nat × AX.Obj)} {s : St} {s' : St} {d : Nat} {K : St → Prop} (hv : viewList (viewN s.get d) args = some (xs, ps)) (hk : @stK s' ⟨K⟩) : @seesK (viewList (viewN s.get d) args) xs s' ⟨K⟩ := by
  rw [hv]; exact ⟨rfl, hk⟩
end W11
/- May; the same page. -/
set_option linter.unusedSimpArgs false
set_option linter.unusedVariables false
namespace W11
open Go Go.AX Go.AX.Ty Go.Proofs

theorem w_May (s : Safe) (hs : Enc.ok s) (p : Page) (t : Turn) (ht : Enc.ok t) : PureF Try.prog 12 [Enc.av s, Enc.av p, Enc.av t] (.bool (mayT s p t)) := by
  refine pureF_W mix c12 (by kernel_rfl) (by kernel_rfl) (by simp [flats, flat_av, Go.AX.flat]) (by first | exact flat_av _ | simp [flat, flats, flat_av]) ?_
  have hs' := (Safe.ok_iff s).1 hs
  have ht' := (Turn.ok_iff t).1 ht
  have i1 := w_contains_str s.classes t.name hs'.1.1
  have i2 := w_contains_str s.attrs t.name hs'.2.1
  rw [← inB_sym] at i1 i2
  have hb := w_ContainsAny t.name ht'.2.2.1
  unfold mayT
  simp -implicitDefEqProofs only [F12, go_sem, Nat.reduceAdd, Nat.reduceEqDiff, Nat.reduceLeDiff, ↓reduceIte]
  refine callI_pure (w_Element p t.node) ?_
  cases he : elemB p t.node
  · simp -implicitDefEqProofs only [go_sem, Nat.reduceEqDiff, reduceCtorEq, ↓reduceIte]
    try rfl
  by_cases h0 : t.name = []
  · simp -implicitDefEqProofs only [h0, go_sem, Nat.reduceAdd, Nat.reduceEqDiff, Nat.reduceLeDiff, reduceCtorEq, ↓reduceIte]
    try simp [h0]
  have n0 : (t.name = []) = False := eq_false h0
  by_cases k1 : t.kind = 1
  · have f1 : (t.kind = 1) = True := eq_true k1
    simp -implicitDefEqProofs only [n0, f1, go_sem, Nat.reduceAdd, Nat.reduceEqDiff, Nat.reduceLeDiff, ↓reduceIte]
    refine callI_pure hb ?_
    cases hc : t.name.any blankB
    · simp -implicitDefEqProofs only [go_sem, Nat.reduceAdd, Nat.reduceEqDiff, Nat.reduceLeDiff, reduceCtorEq, ↓reduceIte]
      refine callI_pure i1 ?_
      simp -implicitDefEqProofs only [go_sem, Nat.reduceEqDiff, ↓reduceIte]
      simp [n0, k1]
    · simp -implicitDefEqProofs only [go_sem, Nat.reduceEqDiff, ↓reduceIte]
      simp [n0, k1]
  have f1 : (t.kind = 1) = False := eq_false k1
  by_cases k2 : t.kind = 2
  · have f2 : (t.kind = 2) = True := eq_true k2
    simp -implicitDefEqProofs only [n0, f1, f2, go_sem, Nat.reduceAdd, Nat.reduceEqDiff, Nat.reduceLeDiff, ↓reduceIte]
    refine callI_pure hb ?_
    cases hc : t.name.any blankB
    · simp -implicitDefEqProofs only [go_sem, Nat.reduceAdd, Nat.reduceEqDiff, Nat.reduceLeDiff, reduceCtorEq, ↓reduceIte]
      refine callI_pure i1 ?_
      simp -implicitDefEqProofs only [go_sem, Nat.reduceEqDiff, ↓reduceIte]
      simp [n0, k2]
    · simp -implicitDefEqProofs only [go_sem, Nat.reduceEqDiff, ↓reduceIte]
      simp [n0, k2]
  have f2 : (t.kind = 2) = False := eq_false k2
  by_cases k3 : t.kind = 3
  · have f3 : (t.kind = 3) = True := eq_true k3
    simp -implicitDefEqProofs only [n0, f1, f2, f3, go_sem, Nat.reduceAdd, Nat.reduceEqDiff, Nat.reduceLeDiff, ↓reduceIte]
    by_cases hc : t.name = sClass
    · have fc : (t.name = [99, 108, 97, 115, 115]) = True := eq_true hc
      simp -implicitDefEqProofs only [fc, go_sem, Nat.reduceEqDiff, ↓reduceIte]
      simp [hc, k3]
    · have fc : (t.name = [99, 108, 97, 115, 115]) = False := eq_false hc
      simp -implicitDefEqProofs only [fc, go_sem, Nat.reduceAdd, Nat.reduceEqDiff, Nat.reduceLeDiff, reduceCtorEq, ↓reduceIte]
      refine callI_pure i2 ?_
      simp -implicitDefEqProofs only [fc, go_sem, Nat.reduceEqDiff, ↓reduceIte]
      simp [n0, k3, hc]
  have f3 : (t.kind = 3) = False := eq_false k3
  by_cases k4 : t.kind = 4
  · have f4 : (t.kind = 4) = True := eq_true k4
    simp -implicitDefEqProofs only [n0, f1, f2, f3, f4, go_sem, Nat.reduceAdd, Nat.reduceEqDiff, Nat.reduceLeDiff, ↓reduceIte]
    by_cases hc : t.name = sClass
    · have fc : (t.name = [99, 108, 97, 115, 115]) = True := eq_true hc
      simp -implicitDefEqProofs only [fc, go_sem, Nat.reduceEqDiff, ↓reduceIte]
      simp [hc, k4]
    · have fc : (t.name = [99, 108, 97, 115, 115]) = False := eq_false hc
      simp -implicitDefEqProofs only [fc, go_sem, Nat.reduceAdd, Nat.reduceEqDiff, Nat.reduceLeDiff, reduceCtorEq, ↓reduceIte]
      refine callI_pure i2 ?_
      simp -implicitDefEqProofs only [fc, go_sem, Nat.reduceEqDiff, ↓reduceIte]
      simp [n0, k4, hc]
  have f4 : (t.kind = 4) = False := eq_false k4
  simp -implicitDefEqProofs only [n0, f1, f2, f3, f4, go_sem, Nat.reduceAdd, Nat.reduceEqDiff, Nat.reduceLeDiff, ↓reduceIte]
  try simp [n0, k1, k2, k3, k4]
theorem w_rAttrsEq (a b : List Ty.Attr) (hl : a.length ≤ 140737488355328) : PureF Try.prog 33 [Enc.av a, Enc.av b] (.bool (decide (a = b))) := by
  refine pureF_W mix c33 (by kernel_rfl) (by kernel_rfl) (by simp [flats, flat_av, Go.AX.flat]) (by first | exact flat_av _ | simp [flat, flats, flat_av]) ?_
  by_cases hlen : a.length = b.length
  case neg =>
    have hne : ((a.length : Int) = (b.length : Int)) = False := eq_false (by omega)
    rw [decide_eq_false (fun e => hlen (by rw [e]))]
    simp -implicitDefEqProofs only [F33, hne, go_sem, Nat.reduceEqDiff, reduceCtorEq, ↓reduceIte]
  have hne : ((a.length : Int) = (b.length : Int)) = True := eq_true (by omega)
  simp -implicitDefEqProofs only [F33, hne, go_sem, Nat.reduceEqDiff, reduceCtorEq, ↓reduceIte]
  refine LoopI_sl (fun k : Nat => a.length - k) (fun k => [(0, Enc.av a), (1, Enc.av b), (5, .int .i64 k)]) (fun k s => k ≤ a.length ∧ a.take k = b.take k) 0 ?_ ?_
  · simp -implicitDefEqProofs only [List.take_zero, go_sem, Nat.reduceEqDiff, reduceCtorEq, ↓reduceIte]
  rintro k ρ ⟨g, m⟩ ⟨h1, h2⟩
  rcases Nat.lt_or_ge k a.length with hk | hk
  · obtain ⟨x, hx, hd, hm⟩ := get_drop hk
    obtain ⟨y, hy, hd2, hm2⟩ := get_drop (show k < b.length by omega)
    have hlt : ((k : Int) < (a.length : Int)) = True := eq_true (by omega)
    have w1 : IntKind.i64.wrap ((k : Int) + 1) = ((k + 1 : Nat) : Int) := by rw [wrap64 (by omega) (by omega)]; omega
    simp -implicitDefEqProofs only [hlt, hx, hy, w1, go_sem, Nat.reduceEqDiff, Nat.reduceLeDiff, reduceCtorEq, ↓reduceIte]
    refine andI_intro (by kernel_rfl) ?_
    by_cases e1 : x.name = y.name
    · by_cases e2 : x.value = y.value
      · have hxy : x = y := by cases x; cases y; simp_all
        simp -implicitDefEqProofs only [e1, e2, w1, go_sem, Nat.reduceEqDiff, reduceCtorEq, ↓reduceIte]
        refine ⟨k + 1, by omega, rfl, by omega, ?_⟩
        rw [List.take_add_one, List.take_add_one, h2, hx, hy, hxy]
      · have f2 : (x.value == y.value) = false := by simpa using e2
        simp -implicitDefEqProofs only [e1, f2, Bool.and_false, go_sem, ↓reduceIte]
        rw [decide_eq_false (fun e => e2 (by rw [e, hy] at hx; simp at hx; rw [hx]))]
    · have f1 : (x.name == y.name) = false := by simpa using e1
      simp -implicitDefEqProofs only [f1, Bool.false_and, go_sem, ↓reduceIte]
      rw [decide_eq_false (fun e => e1 (by rw [e, hy] at hx; simp at hx; rw [hx]))]
  · have hlt : ((k : Int) < (a.length : Int)) = False := eq_false (by omega)
    simp -implicitDefEqProofs only [hlt, go_sem, Nat.reduceEqDiff, reduceCtorEq, ↓reduceIte]
    rw [decide_eq_true (take_eq_of h2 (by omega) hlen)]
theorem w_rTexts (a b : List Str) (hl : a.length ≤ 140737488355328) : PureF Try.prog 26 [Enc.av a, Enc.av b] (.bool (decide (a = b))) := by
  refine pureF_W mix c26 (by kernel_rfl) (by kernel_rfl) (by simp [flats, flat_av, Go.AX.flat]) (by first | exact flat_av _ | simp [flat, flats, flat_av]) ?_
  by_cases hlen : a.length = b.length
  case neg =>
    have hne : ((a.length : Int) = (b.length : Int)) = False := eq_false (by omega)
    rw [decide_eq_false (fun e => hlen (by rw [e]))]
    simp -implicitDefEqProofs only [F26, hne, go_sem, Nat.reduceEqDiff, reduceCtorEq, ↓reduceIte]
  have hne : ((a.length : Int) = (b.length : Int)) = True := eq_true (by omega)
  simp -implicitDefEqProofs only [F26, hne, go_sem, Nat.reduceEqDiff, reduceCtorEq, ↓reduceIte]
  refine LoopI_sl (fun k : Nat => a.length - k) (fun k => [(0, Enc.av a), (1, Enc.av b), (5, .int .i64 k)]) (fun k s => k ≤ a.length ∧ a.take k = b.take k) 0 ?_ ?_
  · simp -implicitDefEqProofs only [List.take_zero, go_sem, Nat.reduceEqDiff, reduceCtorEq, ↓reduceIte]
  rintro k ρ ⟨g, m⟩ ⟨h1, h2⟩
  rcases Nat.lt_or_ge k a.length with hk | hk
  · obtain ⟨x, hx, hd, hm⟩ := get_drop hk
    obtain ⟨y, hy, hd2, hm2⟩ := get_drop (show k < b.length by omega)
    have hlt : ((k : Int) < (a.length : Int)) = True := eq_true (by omega)
    have w1 : IntKind.i64.wrap ((k : Int) + 1) = ((k + 1 : Nat) : Int) := by rw [wrap64 (by omega) (by omega)]; omega
    simp -implicitDefEqProofs only [hlt, hx, hy, w1, go_sem, Nat.reduceEqDiff, reduceCtorEq, ↓reduceIte]
    refine andI_intro (by kernel_rfl) ?_
    by_cases hxy : x = y
    · simp -implicitDefEqProofs only [hxy, w1, go_sem, Nat.reduceEqDiff, reduceCtorEq, ↓reduceIte]
      refine ⟨k + 1, by omega, rfl, by omega, ?_⟩
      rw [List.take_add_one, List.take_add_one, h2, hx, hy, hxy]
    · simp -implicitDefEqProofs only [hxy, go_sem, ↓reduceIte]
      rw [decide_eq_false (fun e => hxy (by rw [e, hy] at hx; simpa using hx.symm))]
  · have hlt : ((k : Int) < (a.length : Int)) = False := eq_false (by omega)
    simp -implicitDefEqProofs only [hlt, go_sem, Nat.reduceEqDiff, reduceCtorEq, ↓reduceIte]
    rw [decide_eq_true (take_eq_of h2 (by omega) hlen)]
theorem w_rSame (a b : Page) (ha : Enc.ok a) : PureF Try.prog 16 [Enc.av a, Enc.av b] (.bool (decide (a = b))) := by
  refine pureF_W mix c16 (by kernel_rfl) (by kernel_rfl) (by simp [flats, flat_av, Go.AX.flat]) (by first | exact flat_av _ | simp [flat, flats, flat_av]) ?_
  by_cases hlen : a.length = b.length
  case neg =>
    have hne : ((a.length : Int) = (b.length : Int)) = False := eq_false (by omega)
    rw [decide_eq_false (fun e => hlen (by rw [e]))]
    simp -implicitDefEqProofs only [F16, hne, go_sem, Nat.reduceEqDiff, reduceCtorEq, ↓reduceIte]
  have hne : ((a.length : Int) = (b.length : Int)) = True := eq_true (by omega)
  have hal := ha.1
  simp -implicitDefEqProofs only [F16, hne, go_sem, Nat.reduceEqDiff, reduceCtorEq, ↓reduceIte]
  refine LoopI_sl (fun k : Nat => a.length - k) (fun k => [(0, Enc.av a), (1, Enc.av b), (5, .int .i64 k)]) (fun k s => k ≤ a.length ∧ a.take k = b.take k) 0 ?_ ?_
  · simp -implicitDefEqProofs only [List.take_zero, go_sem, Nat.reduceEqDiff, reduceCtorEq, ↓reduceIte]
  rintro k ρ ⟨g, m⟩ ⟨h1, h2⟩
  rcases Nat.lt_or_ge k a.length with hk | hk
  · obtain ⟨x, hx, hd, hm⟩ := get_drop hk
    obtain ⟨y, hy, hd2, hm2⟩ := get_drop (show k < b.length by omega)
    have hlt : ((k : Int) < (a.length : Int)) = True := eq_true (by omega)
    have w1 : IntKind.i64.wrap ((k : Int) + 1) = ((k + 1 : Nat) : Int) := by rw [wrap64 (by omega) (by omega)]; omega
    have hxo := (Node.ok_iff x).1 (ha.2 x hm)
    have no : ∀ {P : Prop}, (x = y → P) → ¬ P → decide (a = b) = false := fun f hP => decide_eq_false fun e => hP (f (by rw [e, hy] at hx; simpa using hx.symm))
    have i1 := w_rAttrsEq x.attrs y.attrs hxo.2.1.1
    have i2 := w_Ints x.kids y.kids hxo.2.2.2.2.1
    have m1 : (m + 1 = m) = False := eq_false (by omega)
    have m2 : (m = m + 1) = False := eq_false (by omega)
    simp -implicitDefEqProofs only [hlt, hx, hy, w1, m1, m2, go_sem, Nat.reduceAdd, Nat.reduceEqDiff, Nat.reduceLeDiff, reduceCtorEq, ↓reduceIte]
    refine andI_intro (by (first | omega | (simp [indepB, indep1, apart1, Nat.testBit_eq_decide_div_mod_eq]; done) | (simp [indepB, indep1, apart1, Nat.testBit_eq_decide_div_mod_eq]; omega) | kernel_rfl)) ?_
    simp -implicitDefEqProofs only [hlt, hx, hy, w1, m1, m2, go_sem, Nat.reduceAdd, Nat.reduceEqDiff, ↓reduceIte]
    refine andI_intro (by (first | omega | (simp [indepB, indep1, apart1, Nat.testBit_eq_decide_div_mod_eq]; done) | (simp [indepB, indep1, apart1, Nat.testBit_eq_decide_div_mod_eq]; omega) | kernel_rfl)) ?_
    by_cases e1 : x.name = y.name
    case neg =>
      have f1 : (x.name = y.name) = False := eq_false e1
      simp -implicitDefEqProofs only [hlt, hx, hy, w1, m1, m2, f1, go_sem, Nat.reduceAdd, Nat.reduceEqDiff, reduceCtorEq, ↓reduceIte]
      rw [no (fun e => by rw [e]) e1]
    by_cases e2 : x.text = y.text
    case neg =>
      have f2 : (x.text = y.text) = False := eq_false e2
      simp -implicitDefEqProofs only [hlt, hx, hy, w1, m1, m2, e1, f2, go_sem, Nat.reduceAdd, Nat.reduceEqDiff, Nat.reduceLeDiff, reduceCtorEq, ↓reduceIte]
      rw [no (fun e => by rw [e]) e2]
    by_cases e3 : x.up = y.up
    case neg =>
      have f3 : (x.up = y.up) = False := eq_false e3
      simp -implicitDefEqProofs only [hlt, hx, hy, w1, m1, m2, e1, e2, f3, go_sem, Nat.reduceAdd, Nat.reduceEqDiff, Nat.reduceLeDiff, reduceCtorEq, ↓reduceIte]
      rw [no (fun e => by rw [e]) e3]
    simp -implicitDefEqProofs only [hlt, hx, hy, w1, m1, m2, e1, e2, e3, go_sem, Nat.reduceAdd, Nat.reduceEqDiff, Nat.reduceLeDiff, ↓reduceIte]
    refine callI_pure i1 ?_
    by_cases e4 : x.attrs = y.attrs
    case neg =>
      rw [decide_eq_false e4]
      simp -implicitDefEqProofs only [hlt, hx, hy, w1, m1, m2, e1, e2, e3, go_sem, Nat.reduceEqDiff, reduceCtorEq, ↓reduceIte]
      rw [no (fun e => by rw [e]) e4]
    rw [decide_eq_true e4]
    simp -implicitDefEqProofs only [hlt, hx, hy, w1, m1, m2, e1, e2, e3, go_sem, Nat.reduceAdd, Nat.reduceEqDiff, Nat.reduceLeDiff, ↓reduceIte]
    refine callI_pure i2 ?_
    by_cases e5 : x.kids = y.kids
    case neg =>
      rw [decide_eq_false e5]
      simp -implicitDefEqProofs only [hlt, hx, hy, w1, m1, m2, e1, e2, e3, go_sem, Nat.reduceEqDiff, ↓reduceIte]
      rw [no (fun e => by rw [e]) e5]
    rw [decide_eq_true e5]
    simp -implicitDefEqProofs only [hlt, hx, hy, w1, m1, m2, e1, e2, e3, go_sem, Nat.reduceEqDiff, reduceCtorEq, ↓reduceIte]
    refine ⟨k + 1, by omega, rfl, by omega, ?_⟩
    rw [List.take_add_one, List.take_add_one, h2, hx, hy]
    have : x = y := by cases x; cases y; simp_all
    rw [this]
  · have hlt : ((k : Int) < (a.length : Int)) = False := eq_false (by omega)
    simp -implicitDefEqProofs only [hlt, go_sem, Nat.reduceEqDiff, reduceCtorEq, ↓reduceIte]
    rw [decide_eq_true (take_eq_of h2 (by omega) hlen)]
end W11
/- Searching, deleting, cloning. -/
set_option linter.unusedSimpArgs false
set_option linter.unusedVariables false
namespace W11
open Go Go.AX Go.AX.Ty Go.Proofs

theorem view_lits (g : Nat → Option AX.Obj) (d : Nat) {X : List AV} (h : X.all lit1 = true) : viewList (viewN g d) X = some (X, []) := viewList_lit _ (fun v hv => viewN_lit _ _ v hv) _ h

theorem view_sl {s : St} {b v n z : Nat} {cs C : List AV} {sn : Bool} {d : Nat} (hb : s.get b = some (.cells v cs sn)) (hn : n * z ≤ cs.length) (ht : cs.take (n * z) = C) (hC : C.all lit1 = true) : viewN s.get (d + 2) (.sl b v 0 n z) = some (.ps n C, [(b, .cells v cs true)]) := by
  rw [viewN_sl, hb]
  simp only [wrapO, if_true, Nat.zero_add, hn, List.drop_zero, ht, view_lits _ _ hC, wrapV]
theorem view_fn {s : St} {g c : Nat} {X : List AV} {sn : Bool} {d : Nat} (hc : s.get c = some (.cells 0 X sn)) (hX : X.all lit1 = true) : viewN s.get (d + 3) (.fn (.func g) [] [.ptr c 0 0]) = some (.fn (.func g) [] [.vp X], [(c, .cells 0 X true)]) := by
  have h1 : viewN s.get (d + 2) (.ptr c 0 0) = some (.vp X, [(c, .cells 0 X true)]) := by
    show wrapO c 0 (s.get c) (fun cs => if 0 ≤ cs.length then wrapV .vp (viewList (viewN s.get (d + 1)) (cs.drop 0)) else none) = _
    rw [hc]
    simp only [wrapO, if_true, Nat.zero_le, List.drop_zero, view_lits _ _ hX, wrapV]
  show wrapV2 (.fn (.func g)) (viewList (viewN s.get (d + 2)) []) (viewList (viewN s.get (d + 2)) [.ptr c 0 0]) = _
  simp only [viewList, h1, wrapV2, List.nil_append, List.append_nil]
theorem view_two {f : AV → Option Seen} {x y x' y' : AV} {p q : List (Nat × AX.Obj)} (h1 : f x = some (x', p)) (h2 : f y = some (y', q)) : ∃ ps, viewList f [x, y] = some ([x', y'], ps) := ⟨p ++ q, by simp only [viewList, h1, h2, List.append_nil]⟩
theorem view_three {f : AV → Option Seen} {x y z x' y' z' : AV} {p q r : List (Nat × AX.Obj)} (h1 : f x = some (x', p)) (h2 : f y = some (y', q)) (h3 : f z = some (z', r)) : ∃ ps, viewList f [x, y, z] = some ([x', y', z'], ps) := ⟨p ++ (q ++ r), by simp only [viewList, h1, h2, h3, List.append_nil]⟩
/-- a call that gives plain values, by what it is known to see -/
theorem callI_uv {P : Program} {f : FuncId} {args : List AV} {s : St} {xs xs' : List AV} {s' : St} {K : AV → St → Prop} {v : AV} (h : PureF P f xs' v) (hp : plainV v = true) (hv : ∃ ps, viewList (viewN s.get 7) args = some (xs', ps)) (hk : @stK s ⟨K v⟩) : @CallI P f args s xs s' ⟨K⟩ := by
  obtain ⟨ps, hv⟩ := hv
  exact callI_u h hp (seesK_of hv hk)
theorem dcallI_uv {P : Program} {f : FuncId} {args xs : List AV} {D Wr : List Nat} {s s0 : St} {xs' : List AV} {K : AV → St → Entry → Prop} {v : AV} (h : PureF P f xs' v) (hp : plainV v = true) (hw : Wf s) (hv : ∃ ps, viewList (viewN s.get 7) args = some (xs', ps)) (hk : @stK s ⟨fun s' => K v s' ⟨List.range s.next, [], s.next, s'.next⟩⟩) : @DCallI P f args xs D Wr s s0 ⟨K⟩ := by
  obtain ⟨ps, hv⟩ := hv
  exact dcallI_u h hp hw (seesK_of hv hk)
theorem callI_ownv {P : Program} {f : FuncId} {args : List AV} {s : St} {xs xs' : List AV} {s' : St} {K : AV → St → Prop} {e n z : Nat} {cs : List AV} (h : OwnF P f xs' e n z cs) (hv : ∃ ps, viewList (viewN s.get 7) args = some (xs', ps)) (hk : @stK (s.push (.cells e cs false)) ⟨K (.sl s.next e 0 n z)⟩) : @CallI P f args s xs s' ⟨K⟩ := by
  obtain ⟨ps, hv⟩ := hv
  exact callI_own h (seesK_of hv hk)
theorem w_set1 (a : Ty.Attr) (name : Str) : PureF Try.prog 79 [Enc.av a, .vp [.str name]] (.bool (a.name == name)) := by
  refine pureF_W mix c79 (by kernel_rfl) (by kernel_rfl) (by simp [flats, flat_av, Go.AX.flat]) (by first | exact flat_av _ | simp [flat, flats, flat_av]) ?_
  simp -implicitDefEqProofs only [F79, Attr.eav, go_sem, Nat.reduceAdd, Nat.reduceEqDiff, ↓reduceIte]
  try rfl
theorem w_unset1 (a : Ty.Attr) (name : Str) : PureF Try.prog 85 [Enc.av a, .vp [.str name]] (.bool (a.name == name)) := by
  refine pureF_W mix c85 (by kernel_rfl) (by kernel_rfl) (by simp [flats, flat_av, Go.AX.flat]) (by first | exact flat_av _ | simp [flat, flats, flat_av]) ?_
  simp -implicitDefEqProofs only [F85, Attr.eav, go_sem, Nat.reduceAdd, Nat.reduceEqDiff, ↓reduceIte]
  try rfl
theorem w_do1 (s : Str) (t : Turn) : PureF Try.prog 55 [.str s, .vp [.int .i64 t.kind, .int .i64 t.node, .str t.name, .str t.value]] (.bool (s == t.name)) := by
  refine pureF_W mix c55 (by kernel_rfl) (by kernel_rfl) (by simp [flats, flat_av, Go.AX.flat]) (by first | exact flat_av _ | simp [flat, flats, flat_av]) ?_
  simp -implicitDefEqProofs only [F55, go_sem, Nat.reduceEqDiff, reduceCtorEq, ↓reduceIte]
  try rfl
theorem w_idxA {g : Nat} {X : List AV} (hX : flats X = true) {q : Ty.Attr → Bool} (hg : ∀ a : Ty.Attr, PureF Try.prog g [Enc.av a, .vp X] (.bool (q a))) (l : List Ty.Attr) (hl : l.length ≤ 140737488355328) :
    PureF Try.prog 77 [Enc.av l, .fn (.func g) [] [.vp X]] (.int .i64 (idxOf q l)) := by
  refine pureF_W mix c77 (by kernel_rfl) (by kernel_rfl) (by simp [flats, flat_av, Go.AX.flat, hX]) (by simp [flat, flats, flat_av]) ?_
  simp -implicitDefEqProofs only [F77, go_sem, Int.reduceNeg, reduceCtorEq, ↓reduceIte]
  refine LoopI_sl (fun k : Nat => l.length - k) (fun k => [(0, Enc.av l), (1, .fn (.func g) [] [.vp X]), (7, .int .i64 l.length), (8, .int .i64 k)]) (fun k s => k ≤ l.length ∧ Pre q l k) 0 ?_ ?_
  · simp -implicitDefEqProofs only [go_sem, Nat.reduceEqDiff, reduceCtorEq, ↓reduceIte]
    exact Pre.zero _ _
  rintro k ρ ⟨h, m⟩ ⟨h1, h2⟩
  rcases Nat.lt_or_ge k l.length with hk | hk
  · obtain ⟨x, hx, hd, hm⟩ := get_drop hk
    have hlt : ((k : Int) < (l.length : Int)) = True := eq_true (by omega)
    have w1 : IntKind.i64.wrap ((k : Int) + 1) = ((k + 1 : Nat) : Int) := by rw [wrap64 (by omega) (by omega)]; omega
    have hgx := hg x
    rw [Attr.eav] at hgx
    simp -implicitDefEqProofs only [hlt, hx, w1, go_sem, Nat.reduceEqDiff, Nat.reduceLeDiff, reduceCtorEq, ↓reduceIte]
    refine callI_pure hgx ?_
    simp -implicitDefEqProofs only [go_sem, ↓reduceIte]
    (refine brI_both (fun h hT => ?_) (fun h hT => ?_) <;> try simp -implicitDefEqProofs only [hT, w1, go_sem, Nat.reduceEqDiff, reduceCtorEq, ↓reduceIte] <;> try clear hT)
    · rw [idx_here hx h h2]
    · exact ⟨k + 1, by omega, rfl, by omega, h2.next hx (by simpa using h)⟩
  · have hlt : ((k : Int) < (l.length : Int)) = False := eq_false (by omega)
    simp -implicitDefEqProofs only [hlt, go_sem, Int.reduceNeg, Nat.reduceEqDiff, reduceCtorEq, ↓reduceIte]
    rw [idx_none (h2.all hk)]
theorem w_idxS {g : Nat} {X : List AV} (hX : flats X = true) {q : Str → Bool} (hg : ∀ a : Str, PureF Try.prog g [.str a, .vp X] (.bool (q a))) (l : List Str) (hl : l.length ≤ 140737488355328) :
    PureF Try.prog 80 [Enc.av l, .fn (.func g) [] [.vp X]] (.int .i64 (idxOf q l)) := by
  refine pureF_W mix c80 (by kernel_rfl) (by kernel_rfl) (by simp [flats, flat_av, Go.AX.flat, hX]) (by simp [flat, flats, flat_av]) ?_
  simp -implicitDefEqProofs only [F80, go_sem, Int.reduceNeg, reduceCtorEq, ↓reduceIte]
  refine LoopI_sl (fun k : Nat => l.length - k) (fun k => [(0, Enc.av l), (1, .fn (.func g) [] [.vp X]), (7, .int .i64 l.length), (8, .int .i64 k)]) (fun k s => k ≤ l.length ∧ Pre q l k) 0 ?_ ?_
  · simp -implicitDefEqProofs only [go_sem, Nat.reduceEqDiff, reduceCtorEq, ↓reduceIte]
    exact Pre.zero _ _
  rintro k ρ ⟨h, m⟩ ⟨h1, h2⟩
  rcases Nat.lt_or_ge k l.length with hk | hk
  · obtain ⟨x, hx, hd, hm⟩ := get_drop hk
    have hlt : ((k : Int) < (l.length : Int)) = True := eq_true (by omega)
    have w1 : IntKind.i64.wrap ((k : Int) + 1) = ((k + 1 : Nat) : Int) := by rw [wrap64 (by omega) (by omega)]; omega
    simp -implicitDefEqProofs only [hlt, hx, w1, go_sem, Nat.reduceEqDiff, reduceCtorEq, ↓reduceIte]
    refine callI_pure (hg x) ?_
    simp -implicitDefEqProofs only [go_sem, ↓reduceIte]
    (refine brI_both (fun h hT => ?_) (fun h hT => ?_) <;> try simp -implicitDefEqProofs only [hT, w1, go_sem, Nat.reduceEqDiff, reduceCtorEq, ↓reduceIte] <;> try clear hT)
    · rw [idx_here hx h h2]
    · exact ⟨k + 1, by omega, rfl, by omega, h2.next hx (by simpa using h)⟩
  · have hlt : ((k : Int) < (l.length : Int)) = False := eq_false (by omega)
    simp -implicitDefEqProofs only [hlt, go_sem, Int.reduceNeg, Nat.reduceEqDiff, reduceCtorEq, ↓reduceIte]
    rw [idx_none (h2.all hk)]

theorem w_CloneA (l : List Ty.Attr) (hl : l.length ≤ 1000000) (h : List (Nat × AX.Obj)) (m : Nat) : ACalls Try.prog 35 [.ps l.length (cellsL l)] ⟨h, m⟩ fun v s' => (l = [] ∧ v = .nils ∧ s' = ⟨h, m⟩) ∨ (v = .sl m (l.length * 2) 0 l.length 2 ∧ s' = ⟨(m, .cells (l.length * 2) (cellsL l) false) :: h, m + 1⟩) := by
  refine acalls_W mix (C0_ok _) c35 (by kernel_rfl) (Nat.le_of_ble_eq_true (by kernel_rfl)) ?_
  have hc := at_len l
  have ht : List.take (l.length * 2) (cellsL l) = cellsL l := List.take_of_length_le (by omega)
  have hb : (l.length * 32 ≤ 140737488355328) = True := eq_true (by omega)
  by_cases h0 : l = []
  · subst h0
    simp -implicitDefEqProofs only [F35, cellsL, go_sem, reduceCtorEq, ↓reduceIte]
    refine eitherI_intro ?_ ?_
    · simp -implicitDefEqProofs only [go_sem, reduceCtorEq, ↓reduceIte]
      try exact .inl trivial
    · simp -implicitDefEqProofs only [cellsL, go_sem, Nat.reduceEqDiff, reduceCtorEq, ↓reduceIte]
      try exact .inr trivial
  · have hp : 0 < l.length := List.length_pos_iff.2 h0
    have hz : (l.length = 0) = False := eq_false (by omega)
    have hT : (0 < l.length) = True := eq_true hp
    have hmx : (1 ≤ l.length * 2) = True := eq_true (by omega)
    simp -implicitDefEqProofs only [F35, hz, hT, hc, ht, hb, hmx, go_sem, Nat.reduceEqDiff, reduceCtorEq, ↓reduceIte]
    try exact .inr ⟨rfl, rfl⟩
theorem w_CloneP (l : Page) (hl : l.length ≤ 1000000) (h : List (Nat × AX.Obj)) (m : Nat) : ACalls Try.prog 34 [.ps l.length (cellsL l)] ⟨h, m⟩ fun v s' => (l = [] ∧ v = .nils ∧ s' = ⟨h, m⟩) ∨ (v = .sl m (l.length * 5) 0 l.length 5 ∧ s' = ⟨(m, .cells (l.length * 5) (cellsL l) false) :: h, m + 1⟩) := by
  refine acalls_W mix (C0_ok _) c34 (by kernel_rfl) (Nat.le_of_ble_eq_true (by kernel_rfl)) ?_
  have hc := nodes_len l
  have ht : List.take (l.length * 5) (cellsL l) = cellsL l := List.take_of_length_le (by omega)
  have hb : (l.length * 88 ≤ 140737488355328) = True := eq_true (by omega)
  by_cases h0 : l = []
  · subst h0
    simp -implicitDefEqProofs only [F34, cellsL, go_sem, reduceCtorEq, ↓reduceIte]
    refine eitherI_intro ?_ ?_
    · simp -implicitDefEqProofs only [go_sem, reduceCtorEq, ↓reduceIte]
      try exact .inl trivial
    · simp -implicitDefEqProofs only [cellsL, go_sem, Nat.reduceEqDiff, reduceCtorEq, ↓reduceIte]
      try exact .inr trivial
  · have hp : 0 < l.length := List.length_pos_iff.2 h0
    have hz : (l.length = 0) = False := eq_false (by omega)
    have hT : (0 < l.length) = True := eq_true hp
    have hmx : (1 ≤ l.length * 5) = True := eq_true (by omega)
    simp -implicitDefEqProofs only [F34, hz, hT, hc, ht, hb, hmx, go_sem, Nat.reduceEqDiff, reduceCtorEq, ↓reduceIte]
    try exact .inr ⟨rfl, rfl⟩
end W11
/- An attribute is set. -/
set_option linter.unusedSimpArgs false
set_option linter.unusedVariables false
namespace W11
open Go Go.AX Go.AX.Ty Go.Proofs

theorem setA_none {l : List Ty.Attr} {n v : Str} (h : ∀ a ∈ l, (a.name == n) = false) : setA l n v = l ++ [⟨n, v⟩] := by
  induction l with
  | nil => rfl
  | cons a r ih =>
    have ha : ¬ a.name = n := by simpa using h a (by simp)
    simp only [setA]
    rw [if_neg ha, ih fun b hb => h b (by simp [hb])]; rfl
theorem setA_at {l : List Ty.Attr} {n v : Str} {i : Nat} {a : Ty.Attr} (hx : l[i]? = some a) (ha : (a.name == n) = true) (hp : Pre (fun a : Ty.Attr => a.name == n) l i) : setA l n v = l.set i ⟨a.name, v⟩ := by
  induction l generalizing i with
  | nil => simp at hx
  | cons b r ih =>
    cases i with
    | zero =>
      simp at hx; subst hx
      simp only [setA, List.set_cons_zero]
      rw [if_pos (by simpa using ha)]
    | succ i =>
      have hb : ¬ b.name = n := by
        have := hp b (by simp)
        simpa using this
      simp at hx
      simp only [setA, List.set_cons_succ]
      rw [if_neg hb, ih hx fun y hy => hp y (by simp [hy])]
theorem cells_setA {l : List Ty.Attr} {i : Nat} {a : Ty.Attr} {v : Str} (hx : l[i]? = some a) (T : List AV) : (cellsL l ++ T).take (i * 2 + 1) ++ .str v :: (cellsL l ++ T).drop (i * 2 + 2) = cellsL (l.set i ⟨a.name, v⟩) ++ T := by
  have hi := getElem_lt hx
  have hd : l.drop i = a :: l.drop (i + 1) := by
    rw [List.drop_eq_getElem_cons hi]
    rw [List.getElem?_eq_getElem hi] at hx
    simp at hx; rw [hx]
  have hl : l = l.take i ++ a :: l.drop (i + 1) := by rw [← hd, List.take_append_drop]
  have e1 : cellsL l = cellsL (l.take i) ++ ([.str a.name, .str a.value] ++ cellsL (l.drop (i + 1))) := by
    conv => lhs; rw [hl]
    rw [cellsL_append]; rfl
  have c1 : (cellsL (l.take i)).length = i * 2 := by rw [at_len, List.length_take]; omega
  have e2 : l.set i ⟨a.name, v⟩ = l.take i ++ ⟨a.name, v⟩ :: l.drop (i + 1) := by rw [List.set_eq_take_append_cons_drop, if_pos hi]
  rw [e1, e2, cellsL_append, List.append_assoc, List.append_assoc, List.append_assoc]
  have t1 : (cellsL (l.take i)).take (i * 2 + 1) = cellsL (l.take i) := List.take_of_length_le (by omega)
  have t2 : (cellsL (l.take i)).drop (i * 2 + 2) = [] := List.drop_of_length_le (by omega)
  rw [List.take_append, List.drop_append, t1, t2, c1, show i * 2 + 1 - i * 2 = 1 by omega, show i * 2 + 2 - i * 2 = 2 by omega]
  simp [cellsL, Attr.ecells]

theorem pcells_set2 {L : List NR} {k : Nat} {x : Ty.Node} {r r' : AV} (h : L[k]? = some (x, r)) {a : List Ty.Attr} : (pcells L).take (k * 5 + 1) ++ [r'] ++ (pcells L).drop (k * 5 + 1 + 1) = pcells (L.set k (withA x a, r')) := by
  rw [List.append_assoc]; exact pcells_set1 h a
theorem pcells_keep {L : List NR} {k : Nat} {x : Ty.Node} {r : AV} (h : L[k]? = some (x, r)) {a : List Ty.Attr} : pcells (L.set k (withA x a, r)) = pcells L := by
  rw [← pcells_set2 h, List.append_assoc]
  conv => rhs; rw [← List.take_append_drop (k * 5 + 1) (pcells L)]
  congr 1
  rw [pcells_at1 h]
  show [r] ++ (pcells L).drop (k * 5 + 2) = _
  rw [pcells_at2 h]; rfl
/-- behind a change of one element -/
structure Behind (h : List (Nat × AX.Obj)) (m A e : Nat) (L : List NR) (k : Nat) (r : AV) (y : Ty.Node) (s' : St) : Prop where
  le : m ≤ s'.next
  ex : ∃ r', NP r' ∧ PgSt s'.heap s'.next A e (L.set k (y, r'))
  fr : ∀ id, id < m → id ≠ A → refId r ≠ some id → AX.look id s'.heap = AX.look id h

theorem w_set {h : List (Nat × AX.Obj)} {m A e : Nat} {L : List NR} (hs : PgSt h m A e L) {k : Nat} {x : Ty.Node} {r : AV} (hx : L[k]? = some (x, r)) (np : NP r) (hl : x.attrs.length ≤ 1000000) (name val : Str) :
    ∃ s', ACalls Try.prog 53 [.agg [.ptr A e (k * 5)], .str name, .str val] ⟨h, m⟩ (fun v t => v = .tup [] ∧ t = s') ∧ Behind h m A e L k r (withA x (setA x.attrs name val)) s' := by
  have hA := hs.blk
  have hAm := hs.lt
  have hk := getElem_lt hx
  have hpl := pcells_len L
  have hk1 : (k * 5 + 1 ≤ (pcells L).length) = True := eq_true (by omega)
  have hk2 : (k * 5 + 2 ≤ (pcells L).length) = True := eq_true (by omega)
  have hdr := pcells_at1 hx
  have m0 : (m = A) = False := eq_false (by omega)
  have m1 : (A = m) = False := eq_false (by omega)
  have m2 : (m + 1 = A) = False := eq_false (by omega)
  have m3 : (A = m + 1) = False := eq_false (by omega)
  have m4 : (m + 1 = m) = False := eq_false (by omega)
  have m5 : (m = m + 1) = False := eq_false (by omega)
  have m6 : (m + 1 + 1 = A) = False := eq_false (by omega)
  have m7 : (A = m + 1 + 1) = False := eq_false (by omega)
  have m8 : (m + 1 + 1 + 1 = A) = False := eq_false (by omega)
  have m9 : (A = m + 1 + 1 + 1) = False := eq_false (by omega)
  have hk3 : (k * 5 + 1 + 1 ≤ (pcells L).length) = True := eq_true (by omega)
  have hidx := w_idxA (g := 79) (X := [.str name]) (by kernel_rfl) (fun a => w_set1 a name) x.attrs (by omega)
  rcases ref_cases (hs.refs k _ hx) np with ⟨rfl, ha⟩ | ⟨b, v, T, rfl, hb, hbA, hbl, hTl⟩
  · rw [ha, idx_none (by simp)] at hidx
    refine ⟨?s, ?a, ?b⟩
    case a =>
     refine acalls_W mix (C0_ok _) c53 (by kernel_rfl) (Nat.le_of_ble_eq_true (by kernel_rfl)) ?_
     simp -implicitDefEqProofs only [F53, hA, hk1, hk2, hdr, m0, m1, m2, m3, m4, m5, go_sem, Nat.reduceEqDiff, ↓reduceIte]
     refine callI_u hidx rfl ?_
     simp -implicitDefEqProofs only [cellsL, go_sem, Int.reduceLT, Int.reduceNeg, Nat.reduceEqDiff, ↓reduceIte]
     simp -implicitDefEqProofs only [hA, hk1, hk2, hdr, m0, m1, m2, m3, m4, m5, go_sem, ↓reduceIte]
     repeat (refine andI_intro (by omega) ?_; simp -implicitDefEqProofs only [hA, hk1, hk2, hdr, m0, m1, m2, m3, m4, m5, go_sem, Int.reduceNeg, Nat.reduceAdd, Nat.reduceEqDiff, Nat.reduceLeDiff, reduceCtorEq, ↓reduceIte])
     simp -implicitDefEqProofs only [hA, hk1, hk2, hk3, hdr, m0, m1, m2, m3, m4, m5, m6, m7, m8, m9, go_sem, ↓reduceIte]
     refine andI_intro (by omega) ?_
     simp -implicitDefEqProofs only [hA, hk1, hk2, hk3, hdr, m0, m1, m2, m3, m4, m5, m6, m7, m8, m9, go_sem, ↓reduceIte]
     refine andI_intro (by (first | omega | (simp [indepB, indep1, apart1, Nat.testBit_eq_decide_div_mod_eq]; done) | (simp [indepB, indep1, apart1, Nat.testBit_eq_decide_div_mod_eq]; omega) | kernel_rfl)) ?_
     simp -implicitDefEqProofs only [hA, hk1, hk2, hk3, hdr, m0, m1, m2, m3, m4, m5, m6, m7, m8, m9, go_sem]
     exact rfl
    case b =>
     have hset : setA x.attrs name val = [⟨name, val⟩] := by rw [ha]; rfl
     rw [hset]
     refine ⟨by show m ≤ m + 1 + 1 + 1 + 1; omega, ⟨.sl (m + 1 + 1 + 1) 2 0 1 2, .inr ⟨_, _, _, rfl⟩, hs.turn hx (by show m ≤ m + 1 + 1 + 1 + 1; omega) (wf_push (wf_push (wf_push (wf_push (wf_put hs.wf))))) ?_ ?_ ?_ ?_⟩, ?_⟩
     · simp only [AX.look, m0, m2, m6, m8, if_false]
       rw [look_put_eq hA, pcells_set2 hx]
     · exact .inr (.inr ⟨m + 1 + 1 + 1, 2, [], rfl, by show m + 1 + 1 + 1 < m + 1 + 1 + 1 + 1; omega, by omega, by simp only [AX.look, if_true]; rfl, rfl⟩)
     · intro id h1 h2 h3
       simp only [AX.look]
       rw [if_neg (by omega), if_neg (by omega), if_neg (by omega), if_neg (by omega), look_put_ne (Ne.symm h2)]
     · exact .inr (.inr ⟨m + 1 + 1 + 1, rfl, by omega⟩)
     · intro id h1 h2 h3
       simp only [AX.look]
       rw [if_neg (by omega), if_neg (by omega), if_neg (by omega), if_neg (by omega), look_put_ne (Ne.symm h2)]
  · have b0 : (m = b) = False := eq_false (by omega)
    have b1 : (b = m) = False := eq_false (by omega)
    have b2 : (m + 1 = b) = False := eq_false (by omega)
    have b3 : (b = m + 1) = False := eq_false (by omega)
    have b4 : (m + 1 + 1 = b) = False := eq_false (by omega)
    have b5 : (b = m + 1 + 1) = False := eq_false (by omega)
    have b6 : (A = b) = False := eq_false (by omega)
    have b7 : (b = A) = False := eq_false (by omega)
    have hal := at_len x.attrs
    have hle : (x.attrs.length * 2 ≤ (cellsL x.attrs ++ T).length) = True := eq_true (by rw [List.length_append]; omega)
    have htk : List.take (x.attrs.length * 2) (cellsL x.attrs ++ T) = cellsL x.attrs := List.take_left' hal
    rcases idx_cases (fun a : Ty.Attr => a.name == name) x.attrs with ⟨e1, hno⟩ | ⟨i, a, e1, hi, hxa, hqa, hpre⟩
    · rw [e1] at hidx
      have hset := setA_none (v := val) hno
      have bd : ((x.attrs.length + 1) * 32 ≤ 140737488355328) = True := eq_true (by omega)
      refine ⟨?s1, ?a1, ?b1⟩
      case a1 =>
       refine acalls_W mix (C0_ok _) c53 (by kernel_rfl) (Nat.le_of_ble_eq_true (by kernel_rfl)) ?_
       simp -implicitDefEqProofs only [F53, hA, hk1, hk2, hdr, m0, m1, m2, m3, m4, m5, b0, b1, b2, b3, b4, b5, b6, b7, hbl, hle, htk, go_sem, Nat.reduceEqDiff, ↓reduceIte]
       refine callI_uv hidx rfl (view_two (view_sl (C := cellsL x.attrs) (cs := cellsL x.attrs ++ T) (sn := false) (by simp only [St.get, AX.look, b0, b2, if_false]; exact hbl) (by rw [List.length_append]; omega) htk (attrs_lit _)) (view_fn (X := [.str name]) (sn := false) (by simp only [St.get, AX.look, if_true]) (by kernel_rfl))) ?_
       simp -implicitDefEqProofs only [hA, hk1, hk2, hk3, hdr, m0, m1, m2, m3, m4, m5, m6, m7, m8, m9, b0, b1, b2, b3, b4, b5, b6, b7, hbl, hle, htk, bd, view_attrs, go_sem, Int.reduceLT, Int.reduceNeg, Nat.reduceEqDiff, ↓reduceIte]
       repeat (refine andI_intro (by omega) ?_; simp -implicitDefEqProofs only [hA, hk1, hk2, hk3, hdr, m0, m1, m2, m3, m4, m5, m6, m7, m8, m9, b0, b1, b2, b3, b4, b5, b6, b7, hbl, hle, htk, bd, go_sem, Int.reduceNeg, Nat.reduceAdd, Nat.reduceEqDiff, Nat.reduceLeDiff, reduceCtorEq, ↓reduceIte])
       refine andI_intro (by (first | omega | (simp [indepB, indep1, apart1, Nat.testBit_eq_decide_div_mod_eq]; done) | (simp [indepB, indep1, apart1, Nat.testBit_eq_decide_div_mod_eq]; omega) | kernel_rfl)) ?_
       simp -implicitDefEqProofs only [hA, hk1, hk2, hk3, hdr, m0, m1, m2, m3, m4, m5, m6, m7, m8, m9, b0, b1, b2, b3, b4, b5, b6, b7, hbl, hle, htk, bd, go_sem]
       exact rfl
      case b1 =>
       rw [hset]
       refine ⟨by show m ≤ m + 1 + 1 + 1; omega, ⟨.sl b (if v ≤ x.attrs.length * 2 + 1 then x.attrs.length * 2 + 2 else v + 1) 0 (x.attrs.length + 1) 2, .inr ⟨_, _, _, rfl⟩, hs.turn hx (by show m ≤ m + 1 + 1 + 1; omega) (wf_push (wf_push (wf_push (wf_put (wf_put hs.wf))))) ?_ ?_ ?_ ?_⟩, ?_⟩
       · simp only [AX.look, m0, m2, m6, if_false]
         rw [look_put_eq (x := .cells e (pcells L) false) (by rw [look_put_ne hbA]; exact hA), pcells_set2 hx]
       · refine .inr (.inr ⟨b, (if v ≤ x.attrs.length * 2 + 1 then x.attrs.length * 2 + 2 else v + 1), [], ?_, by show b < m + 1 + 1 + 1; omega, hbA, ?_, rfl⟩)
         · show _ = AV.sl _ _ 0 (x.attrs ++ [_]).length 2
           rw [List.length_append]; rfl
         · simp only [AX.look, b0, b2, b4, if_false]
           rw [look_put_ne (Ne.symm hbA), look_put_eq hbl, List.append_nil]
           show _ = some (AX.Obj.cells _ (cellsL (x.attrs ++ [⟨name, val⟩])) false)
           rw [cellsL_append]; rfl
       · intro id h1 h2 h3
         have h4 : b ≠ id := fun e' => h3 (by rw [← e']; rfl)
         simp only [AX.look]
         rw [if_neg (by omega), if_neg (by omega), if_neg (by omega), look_put_ne (Ne.symm h2), look_put_ne h4]
       · exact .inr (.inl rfl)
       · intro id h1 h2 h3
         have h4 : b ≠ id := fun e' => h3 (by rw [← e']; rfl)
         simp only [AX.look]
         rw [if_neg (by omega), if_neg (by omega), if_neg (by omega), look_put_ne (Ne.symm h2), look_put_ne h4]
    · have hi64 : ((i : Int) < 0) = False := eq_false (by omega)
      have hib : (i < x.attrs.length) = True := eq_true hi
      have hib2 : (i * 2 + 1 ≤ (cellsL x.attrs ++ T).length) = True := eq_true (by rw [List.length_append]; omega)
      have hib3 : (i * 2 + 1 + 1 ≤ (cellsL x.attrs ++ T).length) = True := eq_true (by rw [List.length_append]; omega)
      have hge : ((i : Int) < (x.attrs.length : Int)) = True := eq_true (by omega)
      rw [e1] at hidx
      have hset := setA_at (v := val) hxa hqa hpre
      refine ⟨?s2, ?a2, ?b2⟩
      case a2 =>
       refine acalls_W mix (C0_ok _) c53 (by kernel_rfl) (Nat.le_of_ble_eq_true (by kernel_rfl)) ?_
       simp -implicitDefEqProofs only [F53, hA, hk1, hk2, hdr, m0, m1, m2, m3, m4, m5, b0, b1, b2, b3, b4, b5, b6, b7, hbl, hle, htk, go_sem, Nat.reduceEqDiff, ↓reduceIte]
       refine callI_uv hidx rfl (view_two (view_sl (C := cellsL x.attrs) (cs := cellsL x.attrs ++ T) (sn := false) (by simp only [St.get, AX.look, b0, b2, if_false]; exact hbl) (by rw [List.length_append]; omega) htk (attrs_lit _)) (view_fn (X := [.str name]) (sn := false) (by simp only [St.get, AX.look, if_true]) (by kernel_rfl))) ?_
       simp -implicitDefEqProofs only [hA, hk1, hk2, hk3, hdr, m0, m1, m2, m3, m4, m5, m6, m7, m8, m9, b0, b1, b2, b3, b4, b5, b6, b7, hbl, hle, htk, hi64, hib, hib2, hib3, hge, go_sem, Nat.reduceEqDiff, ↓reduceIte]
       exact rfl
      case b2 =>
       rw [hset]
       have hlen : (x.attrs.set i ⟨a.name, val⟩).length = x.attrs.length := List.length_set
       refine ⟨by show m ≤ m + 1 + 1; omega, ⟨.sl b v 0 x.attrs.length 2, .inr ⟨_, _, _, rfl⟩, hs.turn hx (by show m ≤ m + 1 + 1; omega) (wf_push (wf_push (wf_put hs.wf))) ?_ ?_ ?_ ?_⟩, ?_⟩
       · simp only [AX.look, m0, m2, if_false]
         rw [look_put_ne hbA, pcells_keep hx]; exact hA
       · refine .inr (.inr ⟨b, v, T, ?_, by show b < m + 1 + 1; omega, hbA, ?_, hTl⟩)
         · show _ = AV.sl _ _ 0 (x.attrs.set i ⟨a.name, val⟩).length 2
           rw [hlen]
         · simp only [AX.look, b0, b2, if_false]
           rw [look_put_eq hbl, List.append_assoc]
           exact congrArg (fun cs => some (AX.Obj.cells v cs false)) (cells_setA hxa T)
       · intro id h1 h2 h3
         have h4 : b ≠ id := fun e' => h3 (by rw [← e']; rfl)
         simp only [AX.look]
         rw [if_neg (by omega), if_neg (by omega), look_put_ne h4]
       · exact .inr (.inl rfl)
       · intro id h1 h2 h3
         have h4 : b ≠ id := fun e' => h3 (by rw [← e']; rfl)
         simp only [AX.look]
         rw [if_neg (by omega), if_neg (by omega), look_put_ne h4]
end W11
/- What is left of a list of texts. -/
set_option linter.unusedSimpArgs false
set_option linter.unusedVariables false
namespace W11
open Go Go.AX Go.AX.Ty Go.Proofs

theorem view_ptr {s : St} {c : Nat} {X : List AV} {sn : Bool} {d : Nat} (hc : s.get c = some (.cells 0 X sn)) (hX : X.all lit1 = true) : viewN s.get (d + 2) (.ptr c 0 0) = some (.vp X, [(c, .cells 0 X true)]) := by
  show wrapO c 0 (s.get c) (fun cs => if 0 ≤ cs.length then wrapV .vp (viewList (viewN s.get (d + 1)) (cs.drop 0)) else none) = _
  rw [hc]
  simp only [wrapO, if_true, Nat.zero_le, List.drop_zero, view_lits _ _ hX, wrapV]
/-- what is left of a list that is owned -/
theorem w_DelS {g c : Nat} {q : Str → Bool} {l : List Str} {X : List AV} {sc : Bool} {h : List (Nat × AX.Obj)} {m b : Nat} (hb : AX.look b h = some (.cells l.length (cellsL l) false)) (hl : l.length ≤ 2000000)
    (hcx : AX.look c h = some (.cells 0 X sc)) (hcb : c ≠ b) (hX : X.all lit1 = true) (hXf : flats X = true) (hg : ∀ a : Str, PureF Try.prog g [.str a, .vp X] (.bool (q a))) :
    ACalls Try.prog 54 [.sl b l.length 0 l.length 1, .fn (.func g) [] [.ptr c 0 0]] ⟨h, m⟩ fun v s' => v = .sl b l.length 0 (l.filter fun x => !q x).length 1 ∧
      s' = ⟨putAt b (.cells l.length (cellsL (l.filter fun x => !q x) ++ List.replicate (l.length - (l.filter fun x => !q x).length) (.str [])) false) h, m⟩ := by
  refine acalls_W mix (C0_ok _) c54 (by kernel_rfl) (Nat.le_of_ble_eq_true (by kernel_rfl)) ?_
  have cl : ∀ l' : List Str, (cellsL l').length = l'.length := fun l' => by rw [cellsL_len]; simp [Enc.sz]
  have hc := cl l
  have ht : List.take l.length (cellsL l) = cellsL l := List.take_of_length_le (by omega)
  simp -implicitDefEqProofs only [F54, hb, hc, ht, go_sem, Int.reduceNeg, Nat.reduceEqDiff, reduceCtorEq, ↓reduceIte]
  have hp : ∀ (h' : List (Nat × AX.Obj)) (x : Str), (∀ id, id ≠ b → AX.look id h' = AX.look id h) → ACalls Try.prog g [.str x, .ptr c 0 0] ⟨h', m⟩ (fun v s' => v = .bool (q x) ∧ s' = ⟨h', m⟩) := fun h' x hid => by
    obtain ⟨ps, hv⟩ := view_two (f := viewN (St.get ⟨h', m⟩) 7) (x := .str x) (y := .ptr c 0 0) rfl (view_ptr (X := X) (sn := sc) (by show AX.look c h' = _; rw [hid c hcb]; exact hcx) hX)
    exact ACalls.unsee hv (hg x) rfl
  refine callI_uv (w_idxS hXf hg l (by omega)) rfl (view_two (view_sl (s := ⟨h, m⟩) (C := cellsL l) (cs := cellsL l) (sn := false) (by exact hb) (by omega) (by rw [Nat.mul_one]; exact ht) (strs_lit _)) (view_fn (s := ⟨h, m⟩) (X := X) (sn := sc) (by exact hcx) hX)) ?_
  rcases idx_cases q l with ⟨e, hno⟩ | ⟨i, x, e, hi, hx, hqx, hpre⟩
  · rw [e]
    simp -implicitDefEqProofs only [go_sem, Int.reduceNeg, reduceCtorEq, ↓reduceIte]
    have ef : l.filter (fun x => !q x) = l := List.filter_eq_self.2 fun a ha => by simp [hno a ha]
    rw [ef, Nat.sub_self, List.replicate_zero, List.append_nil, putAt_same hb]
    exact ⟨rfl, rfl⟩
  · rw [e]
    have e1 : ((i : Int) = -1) = False := eq_false (by omega)
    have w1 : IntKind.i64.wrap ((i : Int) + 1) = ((i + 1 : Nat) : Int) := by rw [wrap64 (by omega) (by omega)]; omega
    simp -implicitDefEqProofs only [e1, w1, go_sem, Int.reduceNeg, Nat.reduceEqDiff, ↓reduceIte]
    have fst : ∀ j, (l.take j).filter (fun x => !q x) = ((l.take j).filter (fun x => !q x)) := fun _ => rfl
    have f0 : (l.take i).filter (fun x => !q x) = l.take i := List.filter_eq_self.2 fun a ha => by simp [hpre a ha]
    have f1 : (l.take (i + 1)).filter (fun x => !q x) = l.take i := by
      rw [List.take_add_one, hx, List.filter_append, f0]; simp [hqx]
    have hd0 : l = l.take i ++ x :: l.drop (i + 1) := by
      have : l.drop i = x :: l.drop (i + 1) := by
        rw [List.drop_eq_getElem_cons hi]
        rw [List.getElem?_eq_getElem hi] at hx; simp at hx; rw [hx]
      rw [← this, List.take_append_drop]
    refine LoopI_sl (fun p : Nat × Nat × List AV => l.length - p.2.1) (fun p => [(0, .sl b l.length 0 l.length 1), (1, .fn (.func g) [] [.ptr c 0 0]), (5, .int .i64 p.1), (6, .int .i64 p.2.1)])
      (fun p s => p.2.1 ≤ l.length ∧ p.1 < p.2.1 ∧ p.1 = ((l.take p.2.1).filter fun x => !q x).length ∧ p.2.2.length = p.2.1 - p.1 ∧ s = ⟨putAt b (.cells l.length (cellsL ((l.take p.2.1).filter fun x => !q x) ++ (p.2.2 ++ cellsL (l.drop p.2.1))) false) h, m⟩) (i, i + 1, [.str x]) ?_ ?_
    · simp -implicitDefEqProofs only [f1, go_sem, Int.reduceNeg, Nat.reduceEqDiff, reduceCtorEq, ↓reduceIte]
      refine ⟨by omega, by rw [List.length_take]; omega, by simp, ?_⟩
      have : cellsL (l.take i) ++ (AV.str x :: cellsL (l.drop (i + 1))) = cellsL l := by
        conv => rhs; rw [hd0]
        rw [cellsL_append]; rfl
      rw [this, putAt_same hb]
    rintro ⟨i', j, X⟩ ρ s ⟨h1, h2, h3, h4, h5⟩
    dsimp only at h1 h2 h3 h4 h5
    subst h5
    generalize hF : (l.take j).filter (fun x => !q x) = F at h3
    have cF := cl F
    have e2 : ∀ D : List AV, List.drop j (cellsL F ++ (X ++ D)) = D := fun D => by
      rw [← List.append_assoc, List.drop_left' (by rw [List.length_append, cF]; omega)]
    have hcs : (cellsL F ++ (X ++ cellsL (l.drop j))).length = l.length := by
      rw [List.length_append, List.length_append, cF, cl, List.length_drop]; omega
    have htk : List.take i' (cellsL F ++ (X ++ cellsL (l.drop j))) = cellsL F := by rw [List.take_left' (by rw [cF]; omega)]
    have lk : AX.look b (putAt b (.cells l.length (cellsL F ++ (X ++ cellsL (l.drop j))) false) h) = some (.cells l.length (cellsL F ++ (X ++ cellsL (l.drop j))) false) := look_put_eq hb
    rcases Nat.lt_or_ge j l.length with hj | hj
    · obtain ⟨y, hy, hdy, hmy⟩ := get_drop hj
      have hlt : ((j : Int) < (l.length : Int)) = True := eq_true (by omega)
      have hltn : (j < l.length) = True := eq_true hj
      have hle : (j ≤ l.length) = True := eq_true (by omega)
      have w2 : IntKind.i64.wrap ((j : Int) + 1) = ((j + 1 : Nat) : Int) := by rw [wrap64 (by omega) (by omega)]; omega
      have w3 : IntKind.i64.wrap ((i' : Int) + 1) = ((i' + 1 : Nat) : Int) := by rw [wrap64 (by omega) (by omega)]; omega
      have hdr : List.drop j (cellsL F ++ (X ++ cellsL (l.drop j))) = .str y :: cellsL (l.drop (j + 1)) := by
        rw [e2, hdy]; rfl
      have hcall := hp (putAt b (.cells l.length (cellsL F ++ (X ++ cellsL (l.drop j))) false) h) y fun id hid => look_put_ne (Ne.symm hid)
      simp -implicitDefEqProofs only [hlt, hltn, hle, w2, lk, hcs, hdr, go_sem, Nat.reduceEqDiff, reduceCtorEq, ↓reduceIte]
      refine callI_st hcall ?_
      simp -implicitDefEqProofs only [go_sem, ↓reduceIte]
      refine brI_both (fun hq hT => ?_) (fun hq hT => ?_)
      · simp -implicitDefEqProofs only [w2, go_sem, Nat.reduceEqDiff, reduceCtorEq, ↓reduceIte]
        refine ⟨(i', j + 1, X ++ [.str y]), by simp only; omega, ?_⟩
        have fn : (l.take (j + 1)).filter (fun x => !q x) = F := by
          rw [List.take_add_one, hy, List.filter_append, hF]; simp [hq]
        rw [fn]
        simp only [true_and, and_true]
        refine ⟨by omega, by omega, h3, by simp; omega, ?_⟩
        rw [hdy, List.append_assoc]; rfl
      · have hq' : q y = false := by simpa using hq
        cases X with
        | nil => simp at h4; omega
        | cons a X =>
          simp only [List.length_cons] at h4
          have hlt2 : (i' < l.length) = True := eq_true (by omega)
          have hle2 : (i' + 1 ≤ l.length) = True := eq_true (by omega)
          have hdi : List.drop (i' + 1) (cellsL F ++ (a :: X ++ cellsL (l.drop j))) = X ++ cellsL (l.drop j) := by
            rw [List.drop_append, List.drop_of_length_le (by rw [cF]; omega), cF, List.nil_append, show i' + 1 - F.length = 1 by omega]; rfl
          simp only [List.cons_append] at lk hcs htk hdi
          simp -implicitDefEqProofs only [w2, w3, hlt2, hle2, lk, hb, hcs, htk, hdi, go_sem, Nat.reduceEqDiff, reduceCtorEq, ↓reduceIte]
          refine ⟨(i' + 1, j + 1, X ++ [.str y]), by simp only; omega, ?_⟩
          have fn : (l.take (j + 1)).filter (fun x => !q x) = F ++ [y] := by
            rw [List.take_add_one, hy, List.filter_append, hF]; simp [hq']
          rw [fn]
          simp only [true_and, and_true]
          refine ⟨by omega, by omega, by simp; omega, by simp; omega, ?_⟩
          rw [putAt_putAt, cellsL_append, hdy]
          simp only [List.append_assoc, List.singleton_append, cellsL, List.append_nil, List.nil_append, List.cons_append]
          rfl
    · have hlt : ((j : Int) < (l.length : Int)) = False := eq_false (by omega)
      have hjl : j = l.length := by omega
      have d0 : l.drop j = [] := by rw [List.drop_eq_nil_iff]; omega
      rw [List.take_of_length_le (by omega)] at hF
      have hlt2 : (i' < l.length) = True := eq_true (by omega)
      have hle2 : (i' ≤ l.length) = True := eq_true (by omega)
      have cX : List.drop l.length (cellsL F ++ (X ++ cellsL (l.drop j))) = [] := by rw [List.drop_eq_nil_iff]; omega
      have hsum : i' + (l.length - i') = l.length := by omega
      have hpos : (0 < l.length - i') = True := eq_true (by omega)
      have rep : ∀ q : Nat, (List.replicate q [AV.str []]).flatten = List.replicate q (.str []) := fun q => by
        induction q with
        | zero => rfl
        | succ q ih => rw [List.replicate_succ, List.flatten_cons, ih]; rfl
      rw [hF, ← h3]
      by_cases hi0 : i' = 0
      · subst hi0
        have hpos : (0 < l.length) = True := eq_true (by omega)
        have hF0 : F = [] := List.length_eq_zero_iff.1 h3.symm
        simp -implicitDefEqProofs only [hlt, hpos, lk, hb, hcs, htk, rep, cX, Nat.sub_zero, Nat.mul_one, go_sem, Int.reduceToNat, Nat.reduceEqDiff, reduceCtorEq, ↓reduceIte]
        rw [putAt_putAt, hF0]
      · simp -implicitDefEqProofs only [hlt, hlt2, hle2, hi0, lk, hb, hcs, htk, hsum, hpos, rep, cX, Nat.mul_one, go_sem, Nat.reduceEqDiff, reduceCtorEq, ↓reduceIte]
        rw [putAt_putAt]
end W11
/- What is left of a list of attributes. -/
set_option linter.unusedSimpArgs false
set_option linter.unusedVariables false
namespace W11
open Go Go.AX Go.AX.Ty Go.Proofs

abbrev zA (k : Nat) : List AV := (List.replicate k [AV.str [], AV.str []]).flatten
theorem cls_lit {n : Nat} : ∀ {xs : List AV}, xs.all lit1 = true → Cls n xs
  | [], _ => trivial
  | x :: xs, h => by
    simp only [List.all_cons, Bool.and_eq_true] at h
    refine ⟨?_, cls_lit h.2⟩
    cases x <;> first | (simp [lit1] at h; done) | trivial
theorem zA_lit (k : Nat) : (zA k).all lit1 = true := by
  induction k with
  | zero => rfl
  | succ k ih => show (List.replicate (k + 1) [AV.str [], AV.str []]).flatten.all lit1 = true; rw [List.replicate_succ, List.flatten_cons, List.all_append]; simp only [ih, Bool.and_true]; rfl
theorem lit_three {a b c : List AV} (ha : a.all lit1 = true) (hb : b.all lit1 = true) (hc : c.all lit1 = true) : (a ++ (b ++ c)).all lit1 = true := by
  rw [List.all_append, List.all_append, ha, hb, hc]; rfl
theorem w_DelA {g c e : Nat} {q : Ty.Attr → Bool} {l : List Ty.Attr} {T X : List AV} {sc : Bool} {h : List (Nat × AX.Obj)} {m b : Nat} (hb : AX.look b h = some (.cells e (cellsL l ++ T) false)) (hbm : b < m) (hl : l.length ≤ 1000000) (hTl : T.all lit1 = true)
    (hcx : AX.look c h = some (.cells 0 X sc)) (hcb : c ≠ b) (hcm : c < m) (hX : X.all lit1 = true) (hXf : flats X = true) (hg : ∀ a : Ty.Attr, PureF Try.prog g [Enc.av a, .vp X] (.bool (q a))) :
    ACalls Try.prog 84 [.sl b e 0 l.length 2, .fn (.func g) [] [.ptr c 0 0]] ⟨h, m⟩ fun v s' => v = .sl b e 0 (l.filter fun x => !q x).length 2 ∧
      s' = ⟨putAt b (.cells e (cellsL (l.filter fun x => !q x) ++ (zA (l.length - (l.filter fun x => !q x).length) ++ T)) false) h, m⟩ := by
  suffices H : ACalls Try.prog 84 [.sl b e 0 l.length 2, .fn (.func g) [] [.ptr c 0 0]] ⟨h, m⟩ fun v s' => v = .sl b e 0 (l.filter fun x => !q x).length 2 ∧
      ∀ id, id < m → AX.look id s'.heap = if id = b then some (.cells e (cellsL (l.filter fun x => !q x) ++ (zA (l.length - (l.filter fun x => !q x).length) ++ T)) false) else AX.look id h by
    refine ACalls.fin (H.mono ?_)
    rintro v s' ⟨rfl, h3⟩
    refine ⟨hbm, ⟨putAt b (.cells e (cellsL (l.filter fun x => !q x) ++ (zA (l.length - (l.filter fun x => !q x).length) ++ T)) false) h, m⟩, rfl, put_ex, fun id o hid ho => ?_, rfl, rfl⟩
    have h4 := h3 id hid
    simp only [St.get, look_putAt] at ho ⊢
    by_cases he : b = id
    · subst he
      rw [if_pos rfl, hb] at ho
      simp only [Option.map_some, Option.some.injEq] at ho
      subst ho
      rw [if_pos rfl] at h4
      exact ⟨h4, .inr (cls_lit (lit_three (attrs_lit _) (zA_lit _) hTl))⟩
    · rw [if_neg he] at ho
      rw [if_neg (Ne.symm he), ho] at h4
      exact ⟨h4, .inl ho⟩
  refine acalls_W mix (C0_ok _) c84 (by kernel_rfl) (Nat.le_of_ble_eq_true (by kernel_rfl)) ?_
  have cl := at_len
  have hcl := cl l
  have ht : List.take (l.length * 2) (cellsL l ++ T) = cellsL l := List.take_left' hcl
  have hn2 : l.length * 2 ≤ (cellsL l ++ T).length := by rw [List.length_append]; omega
  have hn3 : (l.length * 2 ≤ (cellsL l ++ T).length) = True := eq_true hn2
  simp -implicitDefEqProofs only [F84, hb, ht, hn3, go_sem, Int.reduceNeg, Nat.reduceEqDiff, reduceCtorEq, ↓reduceIte]
  refine callI_uv (w_idxA hXf hg l (by omega)) rfl (view_two (view_sl (s := ⟨h, m⟩) (C := cellsL l) (cs := cellsL l ++ T) (sn := false) (by exact hb) hn2 ht (attrs_lit _)) (view_fn (s := ⟨h, m⟩) (X := X) (sn := sc) (by exact hcx) hX)) ?_
  rcases idx_cases q l with ⟨e1, hno⟩ | ⟨i, x, e1, hi, hx, hqx, hpre⟩
  · rw [e1]
    simp -implicitDefEqProofs only [go_sem, Int.reduceNeg, reduceCtorEq, ↓reduceIte]
    have ef : l.filter (fun x => !q x) = l := List.filter_eq_self.2 fun a ha => by simp [hno a ha]
    rw [ef, Nat.sub_self]
    refine ⟨rfl, fun id hid => ?_⟩
    split
    · rename_i h2; subst h2; exact hb
    · rfl
  · rw [e1]
    have e2 : ((i : Int) = -1) = False := eq_false (by omega)
    have w1 : IntKind.i64.wrap ((i : Int) + 1) = ((i + 1 : Nat) : Int) := by rw [wrap64 (by omega) (by omega)]; omega
    simp -implicitDefEqProofs only [e2, w1, go_sem, Int.reduceNeg, Nat.reduceEqDiff, ↓reduceIte]
    have f0 : (l.take i).filter (fun x => !q x) = l.take i := List.filter_eq_self.2 fun a ha => by simp [hpre a ha]
    have f1 : (l.take (i + 1)).filter (fun x => !q x) = l.take i := by
      rw [List.take_add_one, hx, List.filter_append, f0]; simp [hqx]
    have hd0 : l = l.take i ++ x :: l.drop (i + 1) := by
      have : l.drop i = x :: l.drop (i + 1) := by
        rw [List.drop_eq_getElem_cons hi]
        rw [List.getElem?_eq_getElem hi] at hx; simp at hx; rw [hx]
      rw [← this, List.take_append_drop]
    refine LoopI_sl (fun p : Nat × Nat × List AV => l.length - p.2.1) (fun p => [(0, .sl b e 0 l.length 2), (1, .fn (.func g) [] [.ptr c 0 0]), (5, .int .i64 p.1), (6, .int .i64 p.2.1)])
      (fun p s => p.2.1 ≤ l.length ∧ p.1 < p.2.1 ∧ p.1 = ((l.take p.2.1).filter fun x => !q x).length ∧ p.2.2.length = (p.2.1 - p.1) * 2 ∧ m ≤ s.next ∧
        AX.look b s.heap = some (.cells e (cellsL ((l.take p.2.1).filter fun x => !q x) ++ (p.2.2 ++ (cellsL (l.drop p.2.1) ++ T))) false) ∧ ∀ id, id < m → id ≠ b → AX.look id s.heap = AX.look id h) (i, i + 1, [.str x.name, .str x.value]) ?_ ?_
    · simp -implicitDefEqProofs only [f1, go_sem, Int.reduceNeg, Nat.reduceAdd, Nat.reduceEqDiff, reduceCtorEq, ↓reduceIte]
      refine ⟨by omega, by rw [List.length_take]; omega, by simp, ?_⟩
      have : cellsL (l.take i) ++ (AV.str x.name :: AV.str x.value :: (cellsL (l.drop (i + 1)) ++ T)) = cellsL l ++ T := by
        conv => rhs; rw [hd0]
        rw [cellsL_append, List.append_assoc]; rfl
      rw [this]; exact ⟨hb, fun _ _ _ => trivial⟩
    rintro ⟨i', j, Y⟩ ρ ⟨u, m'⟩ ⟨h1, h2, h3, h4, h5, h6, h7⟩
    dsimp only at h1 h2 h3 h4 h5 h6 h7
    generalize hF : (l.take j).filter (fun x => !q x) = F at h3 h6
    have cF := cl F
    have n0 : (m' = b) = False := eq_false (by omega)
    have n1 : (b = m') = False := eq_false (by omega)
    have n2 : (b < m' + 1) = True := eq_true (by omega)
    rcases Nat.lt_or_ge j l.length with hj | hj
    · obtain ⟨y, hy, hdy, hmy⟩ := get_drop hj
      have hcs : (cellsL F ++ (Y ++ (cellsL (l.drop j) ++ T))).length = l.length * 2 + T.length := by
        simp only [List.length_append, cF, cl, List.length_drop]; omega
      have hlt : ((j : Int) < (l.length : Int)) = True := eq_true (by omega)
      have hltn : (j < l.length) = True := eq_true hj
      have hle : (j * 2 ≤ (cellsL F ++ (Y ++ (cellsL (l.drop j) ++ T))).length) = True := eq_true (by omega)
      have hle2 : (j * 2 + 2 ≤ (cellsL F ++ (Y ++ (cellsL (l.drop j) ++ T))).length) = True := eq_true (by omega)
      have w2 : IntKind.i64.wrap ((j : Int) + 1) = ((j + 1 : Nat) : Int) := by rw [wrap64 (by omega) (by omega)]; omega
      have w3 : IntKind.i64.wrap ((i' : Int) + 1) = ((i' + 1 : Nat) : Int) := by rw [wrap64 (by omega) (by omega)]; omega
      have hdr : List.drop (j * 2) (cellsL F ++ (Y ++ (cellsL (l.drop j) ++ T))) = .str y.name :: .str y.value :: (cellsL (l.drop (j + 1)) ++ T) := by
        rw [← List.append_assoc, List.drop_left' (by rw [List.length_append, cF]; omega), hdy]; rfl
      have hgy := hg y
      rw [Attr.eav] at hgy
      simp -implicitDefEqProofs only [hlt, hltn, hle, hle2, w2, h6, hdr, n0, n1, n2, go_sem, Nat.reduceAdd, Nat.reduceEqDiff, Nat.reduceLeDiff, reduceCtorEq, ↓reduceIte]
      refine callI_uv hgy rfl (view_two (x' := .agg [.str y.name, .str y.value]) (p := []) rfl (view_ptr (X := X) (sn := sc) (by simp only [St.get, AX.look]; rw [if_neg (by omega), h7 c hcm hcb]; exact hcx) hX)) ?_
      simp -implicitDefEqProofs only [go_sem, ↓reduceIte]
      refine brI_both (fun hq hT => ?_) (fun hq hT => ?_)
      · simp -implicitDefEqProofs only [w2, go_sem, Nat.reduceEqDiff, reduceCtorEq, ↓reduceIte]
        refine ⟨(i', j + 1, Y ++ [.str y.name, .str y.value]), by simp only; omega, ?_⟩
        have fn : (l.take (j + 1)).filter (fun x => !q x) = F := by
          rw [List.take_add_one, hy, List.filter_append, hF]; simp [hq]
        rw [fn]
        simp only [true_and, and_true]
        refine ⟨by omega, by omega, h3, by rw [List.length_append, h4]; show _ + 2 = _; omega, by omega, ?_, fun id h8 h9 => ?_⟩
        · rw [if_neg (by omega), h6, hdy, List.append_assoc]; rfl
        · rw [if_neg (by omega)]; exact h7 id h8 h9
      · have hq' : q y = false := by simpa using hq
        match Y, h4 with
        | [], h4 => simp at h4; omega
        | [_], h4 => simp at h4; omega
        | a1 :: a2 :: Y, h4 =>
          simp only [List.length_cons] at h4
          have hlt2 : (i' < l.length) = True := eq_true (by omega)
          have hle3 : (i' * 2 ≤ (cellsL F ++ (a1 :: a2 :: Y ++ (cellsL (l.drop j) ++ T))).length) = True := eq_true (by omega)
          have hle4 : (i' * 2 + 2 ≤ (cellsL F ++ (a1 :: a2 :: Y ++ (cellsL (l.drop j) ++ T))).length) = True := eq_true (by omega)
          have htk : List.take (i' * 2) (cellsL F ++ (a1 :: a2 :: Y ++ (cellsL (l.drop j) ++ T))) = cellsL F := List.take_left' (by rw [cF]; omega)
          have hdi : List.drop (i' * 2 + 2) (cellsL F ++ (a1 :: a2 :: Y ++ (cellsL (l.drop j) ++ T))) = Y ++ (cellsL (l.drop j) ++ T) := by
            rw [List.drop_append, List.drop_of_length_le (by rw [cF]; omega), cF, List.nil_append, show i' * 2 + 2 - F.length * 2 = 2 by omega]; rfl
          simp only [List.cons_append] at h6 hle3 hle4 htk hdi
          simp -implicitDefEqProofs only [w2, w3, hlt2, hle3, hle4, h6, htk, hdi, n0, n1, n2, go_sem, Nat.reduceAdd, Nat.reduceEqDiff, reduceCtorEq, ↓reduceIte]
          refine ⟨(i' + 1, j + 1, Y ++ [.str y.name, .str y.value]), by simp only; omega, ?_⟩
          have fn : (l.take (j + 1)).filter (fun x => !q x) = F ++ [y] := by
            rw [List.take_add_one, hy, List.filter_append, hF]; simp [hq']
          rw [fn]
          simp only [true_and, and_true]
          refine ⟨by omega, by omega, by rw [List.length_append, ← h3]; rfl, by rw [List.length_append]; show _ + 2 = _; omega, by omega, ?_, fun id h8 h9 => ?_⟩
          · rw [cellsL_append, hdy]
            simp only [List.append_assoc, List.singleton_append, cellsL, List.append_nil, List.nil_append, List.cons_append, Attr.ecells]
          · rw [if_neg (by omega), if_neg (Ne.symm h9)]; exact h7 id h8 h9
    · have hlt : ((j : Int) < (l.length : Int)) = False := eq_false (by omega)
      have hjl : j = l.length := by omega
      have d0 : l.drop j = [] := by rw [List.drop_eq_nil_iff]; omega
      rw [List.take_of_length_le (by omega)] at hF
      have hYl : Y.length = (l.length - i') * 2 := by rw [h4, hjl]
      have h6' : AX.look b u = some (.cells e (cellsL F ++ (Y ++ T)) false) := by rw [h6, d0]; rfl
      have hcs : (cellsL F ++ (Y ++ T)).length = l.length * 2 + T.length := by
        simp only [List.length_append, cF]; omega
      have hlt2 : (i' < l.length) = True := eq_true (by omega)
      have hle5 : (i' ≤ l.length) = True := eq_true (by omega)
      have hpos : (0 < l.length - i') = True := eq_true (by omega)
      have htk : List.take (i' * 2) (cellsL F ++ (Y ++ T)) = cellsL F := List.take_left' (by rw [cF]; omega)
      simp -implicitDefEqProofs only [hlt, hlt2, hle5, hpos, h6', htk, n0, n1, n2, go_sem, Nat.reduceEqDiff, reduceCtorEq, ↓reduceIte]
      have cX : List.drop (l.length * 2) (cellsL F ++ (Y ++ T)) = T := by rw [← List.append_assoc, List.drop_left' (by rw [List.length_append, cF]; omega)]
      have hsum : i' * 2 + (l.length - i') * 2 = l.length * 2 := by omega
      have hnn : (l.length * 2 ≤ (cellsL F ++ (Y ++ T)).length) = True := eq_true (by omega)
      have hnt : (l.length * 2 ≤ l.length * 2 + T.length) = True := eq_true (by omega)
      rw [hF, ← h3]
      by_cases hi0 : i' = 0
      · subst hi0
        have hpos : (0 < l.length) = True := eq_true (by omega)
        have hF0 : F = [] := List.length_eq_zero_iff.1 h3.symm
        subst hF0
        simp -implicitDefEqProofs only [hlt, hpos, h6', hcs, htk, cX, hnn, hnt, Nat.sub_zero, n0, n1, n2, go_sem, Int.reduceToNat, Nat.reduceAdd, Nat.reduceEqDiff, reduceCtorEq, ↓reduceIte]
        intro id hid
        by_cases he : b = id
        · subst he; rw [if_pos rfl, if_pos rfl, List.append_assoc]
        · rw [if_neg he, if_neg (Ne.symm he)]; exact h7 id hid (Ne.symm he)
      · simp -implicitDefEqProofs only [hlt, hlt2, hle5, hi0, h6', hcs, htk, hsum, hpos, cX, hnn, hnt, n0, n1, n2, go_sem, Nat.reduceAdd, Nat.reduceEqDiff, reduceCtorEq, ↓reduceIte]
        intro id hid
        by_cases he : b = id
        · subst he; rw [if_pos rfl, if_pos rfl, List.append_assoc]
        · rw [if_neg he, if_neg (Ne.symm he)]; exact h7 id hid (Ne.symm he)
end W11
/- An attribute is unset. -/
set_option linter.unusedSimpArgs false
set_option linter.unusedVariables false
namespace W11
open Go Go.AX Go.AX.Ty Go.Proofs

/-- in a region that draws: a call that turns some blocks alone -/
theorem dcallI_w {P : Program} {f : FuncId} {args xs : List AV} {D W : List Nat} {s s0 s' : St} {K : AV → St → Entry → Prop} {v : AV} (Wr : List Nat) (h : ACalls P f args s (fun v' t => v' = v ∧ t = s')) (hw : Wf s) (hn : s.next ≤ s'.next) (hw' : Wf s')
    (hW : (∀ id ∈ Wr, id < s.next) ∧ ∀ id, id < s.next → id ∉ Wr → s'.get id = s.get id) (hk : @stK s' ⟨fun s' => K v s' ⟨List.range s.next, Wr, s.next, s'.next⟩⟩) : @DCallI P f args xs D W s s0 ⟨K⟩ :=
  .inr ⟨v, s', Wr, h, hw, hn, hw', hW, hk⟩
/-- nothing is deleted from nothing -/
theorem w_DelN {g c : Nat} {q : Ty.Attr → Bool} {X : List AV} {sc : Bool} {h : List (Nat × AX.Obj)} {m : Nat} (hcx : AX.look c h = some (.cells 0 X sc)) (hX : X.all lit1 = true) (hXf : flats X = true) (hg : ∀ a : Ty.Attr, PureF Try.prog g [Enc.av a, .vp X] (.bool (q a))) :
    ACalls Try.prog 84 [.nils, .fn (.func g) [] [.ptr c 0 0]] ⟨h, m⟩ fun v s' => v = .nils ∧ s' = ⟨h, m⟩ := by
  refine acalls_W mix (C0_ok _) c84 (by kernel_rfl) (Nat.le_of_ble_eq_true (by kernel_rfl)) ?_
  have hidx := w_idxA hXf hg [] (by simp)
  rw [idx_none (by simp)] at hidx
  simp -implicitDefEqProofs only [F84, go_sem, Int.reduceNeg, Nat.reduceEqDiff, reduceCtorEq, ↓reduceIte]
  refine callI_uv hidx rfl (view_two (x' := Enc.av ([] : List Ty.Attr)) (p := []) rfl (view_fn (s := ⟨h, m⟩) (X := X) (sn := sc) (by exact hcx) hX)) ?_
  simp -implicitDefEqProofs only [go_sem, Int.reduceNeg, reduceCtorEq, ↓reduceIte]
theorem w_unset {h : List (Nat × AX.Obj)} {m A e : Nat} {L : List NR} (hs : PgSt h m A e L) {k : Nat} {x : Ty.Node} {r : AV} (hx : L[k]? = some (x, r)) (np : NP r) (hl : x.attrs.length ≤ 1000000) (name : Str) :
    ∃ s', ACalls Try.prog 57 [.agg [.ptr A e (k * 5)], .str name] ⟨h, m⟩ (fun v t => v = .tup [] ∧ t = s') ∧ Behind h m A e L k r (withA x (x.attrs.filter fun a => !(a.name == name))) s' := by
  have hA := hs.blk
  have hAm := hs.lt
  have hk := getElem_lt hx
  have hpl := pcells_len L
  have hk1 : (k * 5 + 1 ≤ (pcells L).length) = True := eq_true (by omega)
  have hk2 : (k * 5 + 2 ≤ (pcells L).length) = True := eq_true (by omega)
  have hk3 : (k * 5 + 1 + 1 ≤ (pcells L).length) = True := eq_true (by omega)
  have hdr := pcells_at1 hx
  have m0 : (m = A) = False := eq_false (by omega)
  have m1 : (A = m) = False := eq_false (by omega)
  have m2 : (m + 1 = A) = False := eq_false (by omega)
  have m3 : (A = m + 1) = False := eq_false (by omega)
  have m4 : (m + 1 = m) = False := eq_false (by omega)
  have m5 : (m = m + 1) = False := eq_false (by omega)
  have q0 : (A < m + 1 + 1) = True := eq_true (by omega)
  have q1 : (m < m + 1 + 1) = True := eq_true (by omega)
  have q2 : (m + 1 < m + 1 + 1) = True := eq_true (by omega)
  have hg := fun a => w_unset1 a name
  have hwf := wf_push (o := .cells 0 [.str name] false) (wf_push (o := .cells 0 [.ptr A e (k * 5)] false) hs.wf)
  rcases ref_cases (hs.refs k _ hx) np with ⟨rfl, ha⟩ | ⟨b, v, T, rfl, hb, hbA, hbl, hTl⟩
  · have hd := w_DelN (h := (m + 1, .cells 0 [.str name] false) :: (m, .cells 0 [.ptr A e (k * 5)] false) :: h) (m := m + 1 + 1) (c := m + 1) (X := [.str name]) (sc := false) (by simp only [AX.look, if_true]) rfl rfl hg
    refine ⟨?s, ?a, ?b⟩
    case a =>
     refine acalls_W mix (C0_ok _) c57 (by kernel_rfl) (Nat.le_of_ble_eq_true (by kernel_rfl)) ?_
     simp -implicitDefEqProofs only [F57, hA, hk1, hk2, hdr, m0, m1, m2, m3, m4, m5, q0, q1, q2, go_sem, Nat.reduceEqDiff, ↓reduceIte]
     refine dcallI_w [] hd hwf (Nat.le_refl _) hwf ⟨by simp, fun _ _ _ => rfl⟩ ?_
     simp -implicitDefEqProofs only [hA, hk1, hk2, hk3, hdr, m0, m1, m2, m3, m4, m5, q0, q1, q2, go_sem, Nat.reduceEqDiff, ↓reduceIte]
     refine andI_intro (by (simp [indepB, indep1, apart1, Nat.testBit_eq_decide_div_mod_eq]; repeat' (first | omega | (intro x hx; omega) | refine And.intro ?_ ?_))) ?_
     simp -implicitDefEqProofs only [hA, hk1, hk2, hk3, hdr, m0, m1, m2, m3, m4, m5, q0, q1, q2, go_sem]
     exact rfl
    case b =>
     have hfil : x.attrs.filter (fun a => !(a.name == name)) = x.attrs := by rw [ha]; rfl
     rw [hfil]
     refine ⟨by show m ≤ m + 1 + 1; omega, ⟨.nils, .inl rfl, hs.turn hx (by show m ≤ m + 1 + 1; omega) (wf_push (wf_push (wf_put hs.wf))) ?_ ?_ ?_ ?_⟩, ?_⟩
     · simp only [AX.look, m0, m2, if_false]
       rw [look_put_eq hA, pcells_set2 hx]
     · exact .inr (.inl ⟨rfl, ha⟩)
     · intro id h1 h2 h3
       simp only [AX.look]
       rw [if_neg (by omega), if_neg (by omega), look_put_ne (Ne.symm h2)]
     · exact .inl rfl
     · intro id h1 h2 h3
       simp only [AX.look]
       rw [if_neg (by omega), if_neg (by omega), look_put_ne (Ne.symm h2)]
  · have b0 : (m = b) = False := eq_false (by omega)
    have b1 : (b = m) = False := eq_false (by omega)
    have b2 : (m + 1 = b) = False := eq_false (by omega)
    have b3 : (b = m + 1) = False := eq_false (by omega)
    have b6 : (A = b) = False := eq_false (by omega)
    have b7 : (b = A) = False := eq_false (by omega)
    have q3 : (b < m + 1 + 1) = True := eq_true (by omega)
    have hal := at_len x.attrs
    have hle : (x.attrs.length * 2 ≤ (cellsL x.attrs ++ T).length) = True := eq_true (by rw [List.length_append]; omega)
    have htk : List.take (x.attrs.length * 2) (cellsL x.attrs ++ T) = cellsL x.attrs := List.take_left' hal
    have hbl2 : AX.look b ((m + 1, .cells 0 [.str name] false) :: (m, .cells 0 [.ptr A e (k * 5)] false) :: h) = some (.cells v (cellsL x.attrs ++ T) false) := by simp only [AX.look, b0, b2, if_false]; exact hbl
    have hd := w_DelA (g := 85) (h := (m + 1, .cells 0 [.str name] false) :: (m, .cells 0 [.ptr A e (k * 5)] false) :: h) (m := m + 1 + 1) (c := m + 1) (X := [.str name]) (sc := false) hbl2 (by omega) hl hTl (by simp only [AX.look, if_true]) (by omega) (by omega) rfl rfl hg
    simp only [putAt, b0, b2, if_false] at hd
    generalize hZ : zA (x.attrs.length - (x.attrs.filter fun a => !(a.name == name)).length) ++ T = Z at hd
    have hZl : Z.all lit1 = true := by rw [← hZ, List.all_append, zA_lit, hTl]; rfl
    generalize hF : x.attrs.filter (fun a => !(a.name == name)) = F at hd
    refine ⟨?s1, ?a1, ?b1⟩
    case a1 =>
     refine acalls_W mix (C0_ok _) c57 (by kernel_rfl) (Nat.le_of_ble_eq_true (by kernel_rfl)) ?_
     simp -implicitDefEqProofs only [F57, hA, hk1, hk2, hdr, m0, m1, m2, m3, m4, m5, q0, q1, q2, hbl, b0, b1, b2, b3, b6, b7, hle, htk, go_sem, Nat.reduceEqDiff, ↓reduceIte]
     refine dcallI_w [b] hd hwf (Nat.le_refl _) (wf_push (wf_push (wf_put hs.wf))) ⟨fun id hid => by simp only [List.mem_singleton] at hid; show id < m + 1 + 1; omega, fun id h1 h2 => ?_⟩ ?_
     · simp only [List.mem_singleton] at h2
       simp only [St.get, AX.look]
       rw [look_put_ne (Ne.symm h2)]
     simp -implicitDefEqProofs only [hA, hk1, hk2, hk3, hdr, m0, m1, m2, m3, m4, m5, q0, q1, q2, q3, hbl, b0, b1, b2, b3, b6, b7, go_sem, Nat.reduceEqDiff, ↓reduceIte]
     refine andI_intro (by (simp [indepB, indep1, apart1, Nat.testBit_eq_decide_div_mod_eq]; repeat' (first | omega | (intro x hx; omega) | refine And.intro ?_ ?_))) ?_
     simp -implicitDefEqProofs only [hA, hk1, hk2, hk3, hdr, m0, m1, m2, m3, m4, m5, q0, q1, q2, q3, hbl, b0, b1, b2, b3, b6, b7, go_sem]
     exact rfl
    case b1 =>
     refine ⟨by show m ≤ m + 1 + 1; omega, ⟨.sl b v 0 F.length 2, .inr ⟨_, _, _, rfl⟩, hs.turn hx (by show m ≤ m + 1 + 1; omega) (wf_push (wf_push (wf_put (wf_put hs.wf)))) ?_ ?_ ?_ ?_⟩, ?_⟩
     · simp only [AX.look, m0, m2, if_false]
       rw [look_put_eq (x := .cells e (pcells L) false) (by rw [look_put_ne hbA]; exact hA), pcells_set2 hx]
     · refine .inr (.inr ⟨b, v, Z, rfl, by show b < m + 1 + 1; omega, hbA, ?_, hZl⟩)
       simp only [AX.look, b0, b2, if_false]
       rw [look_put_ne (Ne.symm hbA), look_put_eq hbl]; rfl
     · intro id h1 h2 h3
       have h4 : b ≠ id := fun e' => h3 (by rw [← e']; rfl)
       simp only [AX.look]
       rw [if_neg (by omega), if_neg (by omega), look_put_ne (Ne.symm h2), look_put_ne h4]
     · exact .inr (.inl rfl)
     · intro id h1 h2 h3
       have h4 : b ≠ id := fun e' => h3 (by rw [← e']; rfl)
       simp only [AX.look]
       rw [if_neg (by omega), if_neg (by omega), look_put_ne (Ne.symm h2), look_put_ne h4]
end W11
