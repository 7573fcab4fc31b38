/- MatchTells, MatchRecurs. -/
import Derived.Test.YtjfknmjdkdcfjaaGreatMtC
set_option linter.unusedSimpArgs false
set_option linter.unusedVariables false
namespace W12
open Go Go.AX Go.AX.Ty Go.Proofs

theorem small_pg {w : Ty.World} {c : Complex} (hw : Enc.ok w) (h : smallB w.p w.st c = true) : PgOk w.p ∧ w.st.length ≤ 100000 := by
  simp only [smallB, Bool.and_eq_true] at h
  have hw' := (World.ok_iff w).1 hw
  refine ⟨smallPg_ok (by decide) hw'.1 h.1, ?_⟩
  have := h.2.1
  simp only [fewB, Bool.and_eq_true, decide_eq_true_eq] at this
  omega

theorem w_MatchTells (w : Ty.World) (c : Complex) (n : Int) (hw : Enc.ok w) (hc : Enc.ok c) : PureF Tryz.prog 3 [Enc.av w, Enc.av c, Enc.av n] (.bool true) := by
  refine pureF_W mix c3 (by kernel_rfl) (by kernel_rfl) (by simp [flats, flat_av, Go.AX.flat]) (by first | exact flat_av _ | simp [flat, flats, flat_av]) ?_
  have hsm := w_small w c hw hc
  rw [World.eav, Complex.eav] at hsm
  simp -implicitDefEqProofs only [F3, go_sem, Nat.reduceAdd, Nat.reduceEqDiff, reduceCtorEq, ↓reduceIte]
  refine callI_pure hsm ?_
  cases hs : smallB w.p w.st c
  · simp -implicitDefEqProofs only [go_sem, ↓reduceIte]
    refine callI_pure w_fixed ?_
    simp -implicitDefEqProofs only [go_sem, ↓reduceIte]
  obtain ⟨hp, hst⟩ := small_pg hw hs
  have hcp := ((Complex.ok_iff c).1 hc).1
  have hpl := hcp.1
  simp -implicitDefEqProofs only [go_sem, ↓reduceIte]
  refine LoopI_sl (fun i : Nat => c.parts.length - i) (fun i => [(2, Enc.av n), (3, .ptr 0 0 0), (4, .ptr 1 0 0), (7, .int .i64 i)])
    (fun i s => i ≤ c.parts.length ∧ s = ⟨[(1, .cells 0 [Enc.av c.parts, .str c.pseudo] false), (0, .cells 0 [Enc.av w.p, Enc.av w.st] false)], 2⟩) 0 ?_ ?_
  · simp -implicitDefEqProofs only [go_sem, Nat.reduceEqDiff, ↓reduceIte]
  rintro i ρ s ⟨h1, rfl⟩
  rcases Nat.lt_or_ge i c.parts.length with hi | hi
  · obtain ⟨q, hq, hd, hqm⟩ := get_drop hi
    have hqok := (Part.ok_iff q).1 (hcp.2 q hqm)
    have hql := hqok.2.1
    have hlt : ((i : Int) < (c.parts.length : Int)) = True := eq_true (by omega)
    have wi : IntKind.i64.wrap ((i : Int) + 1) = ((i + 1 : Nat) : Int) := by rw [wrap64 (by omega) (by omega)]; omega
    simp -implicitDefEqProofs only [hlt, hq, go_sem, Nat.reduceAdd, Nat.reduceEqDiff, ↓reduceIte]
    refine LoopI_sl (fun k : Nat => q.l.length - k) (fun k => [(2, Enc.av n), (3, .ptr 0 0 0), (4, .ptr 1 0 0), (7, .int .i64 i), (8, Enc.av q.l), (9, .int .i64 k)])
      (fun k s => k ≤ q.l.length ∧ s = ⟨[(1, .cells 0 [Enc.av c.parts, .str c.pseudo] false), (0, .cells 0 [Enc.av w.p, Enc.av w.st] false)], 2⟩) 0 ?_ ?_
    · simp -implicitDefEqProofs only [go_sem, Nat.reduceEqDiff, ↓reduceIte]
    rintro k ρ s ⟨k1, rfl⟩
    rcases Nat.lt_or_ge k q.l.length with hk | hk
    · obtain ⟨x, hx, _, hxm⟩ := get_drop hk
      have hltk : ((k : Int) < (q.l.length : Int)) = True := eq_true (by omega)
      have wk : IntKind.i64.wrap ((k : Int) + 1) = ((k + 1 : Nat) : Int) := by rw [wrap64 (by omega) (by omega)]; omega
      have s1 := w_Simple w.p w.st hp hst n x (hqok.2.2 x hxm)
      have s2 := w_rSimple w.p w.st hp hst n x (hqok.2.2 x hxm)
      rw [Simple.eav] at s1 s2
      simp -implicitDefEqProofs only [hltk, hx, go_sem, Nat.reduceAdd, Nat.reduceEqDiff, Nat.reduceLeDiff, reduceCtorEq, ↓reduceIte]
      refine dcallI_pure s1 ?_
      simp -implicitDefEqProofs only [hltk, hx, go_sem, Nat.reduceAdd, Nat.reduceEqDiff, Nat.reduceLeDiff, reduceCtorEq, ↓reduceIte]
      refine dcallI_pure s2 ?_
      simp -implicitDefEqProofs only [hltk, hx, go_sem, Nat.reduceEqDiff, ↓reduceIte]
      refine andI_intro (by kernel_rfl) ?_
      simp -implicitDefEqProofs only [wk, go_sem, Nat.reduceEqDiff, ↓reduceIte]
      exact ⟨k + 1, by omega, rfl, by omega⟩
    · have hltk : ((k : Int) < (q.l.length : Int)) = False := eq_false (by omega)
      simp -implicitDefEqProofs only [hltk, wi, go_sem, Nat.reduceEqDiff, ↓reduceIte]
      exact ⟨i + 1, by omega, rfl, by omega⟩
  · have hlt : ((i : Int) < (c.parts.length : Int)) = False := eq_false (by omega)
    have a1 := w_All w.p w.st hp hst c hc
    have a2 := w_rAll w.p w.st hp hst c hc
    have a3 := w_Is w.p w.st hp hst n c hc
    have a4 := w_rIs w.p w.st hp hst n c hc
    have hlen := allB_len w.p w.st c.parts
    have hwl := hp.len
    have a5 := (w_Ints (allB w.p w.st c.parts) (allB w.p w.st c.parts) (by omega)).at (v' := .bool true) (by rw [decide_eq_true rfl])
    rw [Complex.eav] at a1 a2 a3 a4
    simp -implicitDefEqProofs only [hlt, go_sem, Nat.reduceAdd, Nat.reduceEqDiff, ↓reduceIte]
    refine dcallI_pure w_fixed ?_
    simp -implicitDefEqProofs only [go_sem, Nat.reduceAdd, Nat.reduceEqDiff, Nat.reduceLeDiff, reduceCtorEq, ↓reduceIte]
    refine dcallI_pure a1 ?_
    simp -implicitDefEqProofs only [go_sem, Nat.reduceAdd, Nat.reduceEqDiff, Nat.reduceLeDiff, reduceCtorEq, ↓reduceIte]
    refine dcallI_pure a2 ?_
    simp -implicitDefEqProofs only [go_sem, Nat.reduceEqDiff, ↓reduceIte]
    refine dcallI_pure a5 ?_
    simp -implicitDefEqProofs only [go_sem, Nat.reduceAdd, Nat.reduceEqDiff, Nat.reduceLeDiff, reduceCtorEq, ↓reduceIte]
    refine dcallI_pure a3 ?_
    simp -implicitDefEqProofs only [go_sem, Nat.reduceAdd, Nat.reduceEqDiff, Nat.reduceLeDiff, reduceCtorEq, ↓reduceIte]
    refine dcallI_pure a4 ?_
    simp -implicitDefEqProofs only [go_sem, Nat.reduceEqDiff, ↓reduceIte]
    refine andI_intro (by kernel_rfl) ?_
    simp -implicitDefEqProofs only [go_sem, ↓reduceIte]

theorem fitsB_prefix (p : Page) (st : List Ty.State) (parts : List Part) (r : List Part) : ∀ (k : Nat) (n : Int), k < parts.length → fitsB p st (parts ++ r) k n = fitsB p st parts k n
  | 0, n, h => by
    simp only [fitsB]
    rw [List.getElem?_append_left h]
  | k + 1, n, h => by
    simp only [fitsB]
    rw [List.getElem?_append_left h]
    cases parts[k + 1]? with
    | none => rfl
    | some q =>
      simp only
      congr 3
      funext x
      exact fitsB_prefix p st parts r k x (by omega)

theorem w_MatchRecurs (w : Ty.World) (c : Complex) (n : Int) (hw : Enc.ok w) (hc : Enc.ok c) : PureF Tryz.prog 4 [Enc.av w, Enc.av c, Enc.av n] (.bool true) := by
  refine pureF_W mix c4 (by kernel_rfl) (by kernel_rfl) (by simp [flats, flat_av, Go.AX.flat]) (by first | exact flat_av _ | simp [flat, flats, flat_av]) ?_
  have hsm := w_small w c hw hc
  rw [World.eav, Complex.eav] at hsm
  simp -implicitDefEqProofs only [F4, go_sem, Nat.reduceAdd, Nat.reduceEqDiff, ↓reduceIte]
  refine callI_pure w_fixed ?_
  simp -implicitDefEqProofs only [go_sem, Nat.reduceAdd, Nat.reduceEqDiff, reduceCtorEq, ↓reduceIte]
  refine callI_pure hsm ?_
  cases hs : smallB w.p w.st c
  · simp -implicitDefEqProofs only [go_sem, Nat.reduceEqDiff, reduceCtorEq, ↓reduceIte]
    refine callI_pure w_fixed ?_
    simp -implicitDefEqProofs only [go_sem, ↓reduceIte]
  obtain ⟨hp, hst⟩ := small_pg hw hs
  have hcp := ((Complex.ok_iff c).1 hc).1
  have hpl := hcp.1
  simp -implicitDefEqProofs only [go_sem, Nat.reduceAdd, Nat.reduceEqDiff, reduceCtorEq, ↓reduceIte]
  refine callI_pure (w_rTree w.p hp) ?_
  cases ht : treeB w.p
  · simp -implicitDefEqProofs only [go_sem, Nat.reduceEqDiff, reduceCtorEq, ↓reduceIte]
    refine callI_pure w_fixed ?_
    simp -implicitDefEqProofs only [go_sem, ↓reduceIte]
  have t := treeB_iff.1 ht
  simp -implicitDefEqProofs only [go_sem, Nat.reduceAdd, Nat.reduceEqDiff, reduceCtorEq, ↓reduceIte]
  refine callI_pure (w_rElement w.p n) ?_
  cases he : elemB w.p n
  · simp -implicitDefEqProofs only [go_sem, Nat.reduceEqDiff, reduceCtorEq, ↓reduceIte]
    refine callI_pure w_fixed ?_
    simp -implicitDefEqProofs only [go_sem, ↓reduceIte]
  simp -implicitDefEqProofs only [go_sem, Nat.reduceAdd, Nat.reduceEqDiff, ↓reduceIte]
  by_cases hpe : c.parts = []
  · have h0 : ((c.parts.length : Int) = 0) = True := eq_true (by rw [hpe]; rfl)
    simp -implicitDefEqProofs only [h0, go_sem]
    refine callI_pure w_fixed ?_
    simp -implicitDefEqProofs only [go_sem, ↓reduceIte]
  have hlen : 0 < c.parts.length := List.length_pos_iff.2 hpe
  have h0 : ((c.parts.length : Int) = 0) = False := eq_false (by omega)
  obtain ⟨K, hK⟩ : ∃ K, c.parts.length = K + 1 := ⟨c.parts.length - 1, by omega⟩
  obtain ⟨q, hq, hd, hqm⟩ := get_drop (show K < c.parts.length by omega)
  have hqok := (Part.ok_iff q).1 (hcp.2 q hqm)
  have hql := hqok.2.1
  have w0 : IntKind.i64.wrap ((c.parts.length : Int) - 1) = (K : Int) := by rw [wrap64 (by omega) (by omega)]; omega
  obtain ⟨kn, nd, rfl, hx, hxn⟩ := elem_at he
  simp -implicitDefEqProofs only [h0, w0, hq, go_sem, Nat.reduceAdd, Nat.reduceEqDiff, Nat.reduceLeDiff, ↓reduceIte]
  refine LoopI_sl (fun i : Nat => q.l.length - i) (fun i => [(2, Enc.av (kn : Int)), (3, .ptr 0 0 0), (4, .ptr 1 0 0), (7, .int .i64 K), (8, .ptr 2 0 0), (9, .bool ((q.l.take i).all (holdsB w.p w.st kn))), (10, .int .i64 i)])
    (fun i s => i ≤ q.l.length ∧ s = ⟨[(2, .cells 0 [.int .i64 q.comb, Enc.av q.l] false), (1, .cells 0 [Enc.av c.parts, .str c.pseudo] false), (0, .cells 0 [Enc.av w.p, Enc.av w.st] false)], 3⟩) 0 ?_ ?_
  · simp -implicitDefEqProofs only [List.take_zero, List.all_nil, go_sem, Nat.reduceEqDiff, ↓reduceIte]
  rintro i ρ s ⟨h1, rfl⟩
  rcases Nat.lt_or_ge i q.l.length with hi | hi
  · obtain ⟨x, hxx, _, hxm⟩ := get_drop hi
    have hlt : ((i : Int) < (q.l.length : Int)) = True := eq_true (by omega)
    have wi : IntKind.i64.wrap ((i : Int) + 1) = ((i + 1 : Nat) : Int) := by rw [wrap64 (by omega) (by omega)]; omega
    have s1 := (w_Simple w.p w.st hp hst kn x (hqok.2.2 x hxm)).at (v' := .bool (holdsB w.p w.st kn x)) (by simp [simpleB, he, ht])
    rw [Simple.eav] at s1
    have hnx : (q.l.take (i + 1)).all (holdsB w.p w.st kn) = ((q.l.take i).all (holdsB w.p w.st kn) && holdsB w.p w.st kn x) := by
      rw [List.take_add_one, hxx, List.all_append]; simp
    cases hb : (q.l.take i).all (holdsB w.p w.st kn)
    · simp -implicitDefEqProofs only [hlt, go_sem, Nat.reduceAdd, Nat.reduceEqDiff, Nat.reduceLeDiff, ↓reduceIte]
      refine andI_intro (by kernel_rfl) ?_
      simp -implicitDefEqProofs only [wi, go_sem, Nat.reduceEqDiff, ↓reduceIte]
      exact ⟨i + 1, by omega, ⟨by rw [hnx, hb]; rfl, rfl⟩, by omega⟩
    · simp -implicitDefEqProofs only [hlt, hxx, go_sem, Nat.reduceAdd, Nat.reduceEqDiff, Nat.reduceLeDiff, reduceCtorEq, ↓reduceIte]
      refine dcallI_pure s1 ?_
      simp -implicitDefEqProofs only [hlt, hxx, go_sem, Nat.reduceEqDiff, ↓reduceIte]
      refine andI_intro (by kernel_rfl) ?_
      simp -implicitDefEqProofs only [wi, go_sem, Nat.reduceEqDiff, ↓reduceIte]
      exact ⟨i + 1, by omega, ⟨by rw [hnx, hb]; rfl, rfl⟩, by omega⟩
  have hil : i = q.l.length := by omega
  subst hil
  have hlt : ((q.l.length : Int) < (q.l.length : Int)) = False := eq_false (by omega)
  rw [List.take_length]
  generalize hall : q.l.all (holdsB w.p w.st kn) = HA
  have tk : List.take (K * 2) (cellsL c.parts) = cellsL (c.parts.take K) := cellsL_take c.parts K
  have cl : (cellsL c.parts).length = c.parts.length * 2 := Part.clen c.parts
  have kle : (K ≤ c.parts.length) = True := eq_true (by omega)
  have hcK : Enc.ok (Complex.mk (c.parts.take K) []) := (Complex.ok_iff _).2 ⟨⟨by show (c.parts.take K).length ≤ _; rw [List.length_take]; omega, fun a ha => hcp.2 a (List.mem_of_mem_take ha)⟩, by show (0 : Nat) ≤ _; omega⟩
  have lK : (c.parts.take K).length = K := by rw [List.length_take]; omega
  have hisf : ∀ m : Int, 0 < K → isB w.p w.st m (c.parts.take K) = fitsB w.p w.st c.parts (K - 1) m := fun m hK0 => by
    have hne : c.parts.take K ≠ [] := by intro h; rw [h] at lK; simp at lK; omega
    have := fitsB_prefix w.p w.st (c.parts.take K) (c.parts.drop K) (K - 1) m (by omega)
    rw [List.take_append_drop] at this
    simp only [isB, ht, lK, decide_eq_true hne, Bool.true_and, this]
  have hfin := (w_Is w.p w.st hp hst kn c hc).at (v' := .bool (HA && restB w.p w.st c.parts kn q K)) (by
    rw [isB, ht, decide_eq_true hpe, hK, Nat.add_sub_cancel, fitsB_step w.p w.st c.parts K kn q hq, he, hall]; rfl)
  rw [Complex.eav] at hfin
  let F : Nat → Bool := fun m => decide (K = 0) || (List.range m).any fun a => decide (1 ≤ a) && (decide ((a : Int) ∈ relatedB w.p kn q.comb) && fitsB w.p w.st c.parts (K - 1) a)
  have hF : ∀ m, F m = (decide (K = 0) || (List.range m).any fun a => decide (1 ≤ a) && (decide ((a : Int) ∈ relatedB w.p kn q.comb) && fitsB w.p w.st c.parts (K - 1) a)) := fun _ => rfl
  have hrest : F w.p.length = restB w.p w.st c.parts kn q K := by
    rw [hF]
    cases K with
    | zero => rfl
    | succ j =>
      simp only [restB, Nat.add_sub_cancel]
      rw [Bool.eq_iff_iff]
      simp only [Bool.or_eq_true, decide_eq_true_eq, List.any_eq_true, Bool.and_eq_true, List.mem_range]
      constructor
      · rintro (h | ⟨a, h1, h2, h3, h4⟩)
        · omega
        · exact ⟨_, h3, h4⟩
      · rintro ⟨a, h1, h2⟩
        obtain ⟨m, rfl, h3, h4⟩ := related_pos t hx hxn q.comb h1
        exact .inr ⟨m, h4, h3, h1, h2⟩
  have hsucc : ∀ m, 1 ≤ m → F (m + 1) = (F m || (decide ((m : Int) ∈ relatedB w.p kn q.comb) && fitsB w.p w.st c.parts (K - 1) m)) := fun m hm => by
    rw [hF, hF, List.range_succ, List.any_append]; simp [hm, Bool.or_assoc]
  have hF1 : F 1 = decide (K = 0) := by rw [hF]; simp [List.range_succ]
  have hFz : K = 0 → ∀ m, F m = true := fun h m => by rw [hF]; simp [h]
  clear_value F
  have e1 : ((K : Int) == 0) = decide (K = 0) := by rw [Bool.eq_iff_iff]; simp
  simp -implicitDefEqProofs only [hlt, cl, tk, kle, h0, w0, go_sem, Nat.reduceAdd, Nat.reduceEqDiff, Nat.reduceLeDiff, ↓reduceIte]
  have hwl := hp.len
  have hknl := getElem_lt hx
  refine LoopI_sl (fun m : Nat => w.p.length - m) (fun m => [(2, Enc.av (kn : Int)), (3, .ptr 0 0 0), (4, .ptr 1 0 0), (7, .int .i64 K), (8, .ptr 2 0 0), (9, .bool HA), (11, .ptr 3 0 0), (12, .bool (F m)), (13, .int .i64 m)])
    (fun m s => 1 ≤ m ∧ m ≤ w.p.length ∧ s = ⟨[(3, .cells 0 [.ps K (cellsL (c.parts.take K)), .str []] false), (2, .cells 0 [.int .i64 q.comb, Enc.av q.l] false), (1, .cells 0 [Enc.av c.parts, .str c.pseudo] false), (0, .cells 0 [Enc.av w.p, Enc.av w.st] false)], 4⟩) 1 ?_ ?_
  · simp -implicitDefEqProofs only [hF1, e1, go_sem, Nat.reduceEqDiff, ↓reduceIte]
    exact ⟨by omega, rfl⟩
  rintro m ρ s ⟨m1, m2, rfl⟩
  by_cases hgo : m < w.p.length ∧ 0 < K
  · obtain ⟨hm, hK0⟩ := hgo
    obtain ⟨y, hy, _, hym⟩ := get_drop hm
    have hltm : ((m : Int) < (w.p.length : Int)) = True := eq_true (by omega)
    have hKg : ((K : Int) > 0) = True := eq_true (by omega)
    have wm : IntKind.i64.wrap ((m : Int) + 1) = ((m + 1 : Nat) : Int) := by rw [wrap64 (by omega) (by omega)]; omega
    have hs2 := hsucc m m1
    cases hFm : F m
    · rw [hFm, Bool.false_or] at hs2
      have hst2 := w_Stands w.p hp t hx hy m1 q.comb
      have his := (w_Is w.p w.st hp hst m (Complex.mk (c.parts.take K) []) hcK).at (v' := .bool (fitsB w.p w.st c.parts (K - 1) m)) (by
        show AV.bool (isB w.p w.st m (c.parts.take K)) = _
        rw [hisf _ hK0])
      rw [Complex.eav] at his
      simp only [Complex.parts, Complex.pseudo, lK] at his
      have hval : (decide ((m : Int) ∈ relatedB w.p kn q.comb) && fitsB w.p w.st c.parts (K - 1) m) = (standsB w.p kn m nd y q.comb && fitsB w.p w.st c.parts (K - 1) m) := by
        by_cases hyn : y.name = []
        · have hem : elemB w.p m = false := by simp [elemB, nodeAt_nat, hy, hyn]
          rw [fitsB_elem hem]; simp
        · rw [stands_related t hx hxn hy hyn q.comb]
      rw [hval] at hs2
      simp -implicitDefEqProofs only [hltm, hKg, go_sem, Nat.reduceAdd, Nat.reduceEqDiff, reduceCtorEq, ↓reduceIte]
      refine callI_pure hst2 ?_
      cases hsb : standsB w.p kn m nd y q.comb
      · rw [hsb] at hs2
        simp -implicitDefEqProofs only [hltm, hKg, wm, go_sem, Nat.reduceEqDiff, ↓reduceIte]
        exact ⟨m + 1, by omega, ⟨by rw [hs2]; rfl, rfl⟩, by omega, by omega⟩
      · rw [hsb] at hs2
        simp -implicitDefEqProofs only [hltm, hKg, wm, lK, go_sem, Nat.reduceAdd, Nat.reduceEqDiff, Nat.reduceLeDiff, reduceCtorEq, ↓reduceIte]
        refine callI_pure his ?_
        simp -implicitDefEqProofs only [hltm, hKg, wm, go_sem, Nat.reduceEqDiff, ↓reduceIte]
        exact ⟨m + 1, by omega, ⟨by rw [hs2]; rfl, rfl⟩, by omega, by omega⟩
    · rw [hFm, Bool.true_or] at hs2
      simp -implicitDefEqProofs only [hltm, hKg, wm, go_sem, Nat.reduceAdd, Nat.reduceEqDiff, reduceCtorEq, ↓reduceIte]
      exact ⟨m + 1, by omega, ⟨by rw [hs2], rfl⟩, by omega, by omega⟩
  have hFe : F m = restB w.p w.st c.parts kn q K := by
    rcases Nat.lt_or_ge m w.p.length with hm | hm
    · have hK0 : K = 0 := by omega
      rw [hFz hK0, ← hrest, hFz hK0]
    · have : m = w.p.length := by omega
      rw [this, hrest]
  rw [hFe]
  by_cases hm : (m : Int) < (w.p.length : Int)
  · have hltm := eq_true hm
    have hKg : ((K : Int) > 0) = False := eq_false (by omega)
    simp -implicitDefEqProofs only [hltm, hKg, go_sem, Nat.reduceAdd, Nat.reduceEqDiff, Nat.reduceLeDiff, reduceCtorEq, ↓reduceIte]
    refine callI_pure hfin ?_
    cases HA
    · simp -implicitDefEqProofs only [go_sem, Nat.reduceEqDiff, ↓reduceIte]
      try simp
    · simp -implicitDefEqProofs only [go_sem, Nat.reduceEqDiff, ↓reduceIte]
      try simp
  · have hltm := eq_false hm
    simp -implicitDefEqProofs only [hltm, go_sem, Nat.reduceAdd, Nat.reduceEqDiff, Nat.reduceLeDiff, reduceCtorEq, ↓reduceIte]
    refine callI_pure hfin ?_
    cases HA
    · simp -implicitDefEqProofs only [go_sem, Nat.reduceEqDiff, ↓reduceIte]
      try simp
    · simp -implicitDefEqProofs only [go_sem, Nat.reduceEqDiff, ↓reduceIte]
      try simp
end W12
/- MatchNot, MatchPseudo. -/
set_option linter.unusedSimpArgs false
set_option linter.unusedVariables false
namespace W12
open Go Go.AX Go.AX.Ty Go.Proofs

theorem simple_ok {k : Int} {nm v : Str} {a b : Int} {l : List Simple} (h1 : Enc.ok k) (h2 : Enc.ok nm) (h3 : Enc.ok v) (h4 : Enc.ok a) (h5 : Enc.ok b) (h6 : Enc.ok l) : Enc.ok (Simple.mk k nm v a b l) :=
  (Simple.ok_iff _).2 ⟨h1, h2, h3, h4, h5, h6⟩
theorem nil_ok : Enc.ok ([] : Str) := by show (0 : Nat) ≤ _; omega
theorem nils_ok : Enc.ok ([] : List Simple) := ⟨by simp, by simp⟩
theorem int_ok {k : Int} (h : 0 ≤ k ∧ k ≤ 1000) : Enc.ok k := by show -9223372036854775808 ≤ k ∧ k ≤ 9223372036854775807; omega
abbrev sEmpty : Simple := .mk 10 [] [] 0 0 []
abbrev sNot (l : List Simple) : Simple := .mk 11 [] [] 0 0 l
theorem sEmpty_ok : Enc.ok sEmpty := simple_ok (int_ok (by omega)) nil_ok nil_ok (int_ok (by omega)) (int_ok (by omega)) nils_ok
theorem sNot_ok {l : List Simple} (h : Enc.ok l) : Enc.ok (sNot l) := simple_ok (int_ok (by omega)) nil_ok nil_ok (int_ok (by omega)) (int_ok (by omega)) h
theorem holds_not (p : Page) (st : List Ty.State) (n : Int) (l : List Simple) : holdsB p st n (sNot l) = !l.any (holdsB p st n) := by
  rw [← holdsAny_eq]; simp [holdsB]

theorem w_MatchNot (w : Ty.World) (x : Simple) (n : Int) (hw : Enc.ok w) (hx : Enc.ok x) : PureF Tryz.prog 6 [Enc.av w, Enc.av x, Enc.av n] (.bool true) := by
  refine pureF_W mix c6 (by kernel_rfl) (by kernel_rfl) (by simp [flats, flat_av, Go.AX.flat]) (by first | exact flat_av _ | simp [flat, flats, flat_av]) ?_
  have hlx : Enc.ok [x] := ⟨by simp, by simpa using hx⟩
  have hlx2 : Enc.ok [x, sEmpty] := ⟨by simp, by simp [hx, sEmpty_ok]⟩
  have hcx : Enc.ok (Complex.mk [Part.mk 0 [x]] []) := (Complex.ok_iff _).2 ⟨⟨by show (1 : Nat) ≤ _; omega, fun q hq => by
    simp [Complex.parts] at hq
    subst hq
    exact (Part.ok_iff _).2 ⟨int_ok (k := 0) (by omega), hlx⟩⟩, nil_ok⟩
  have hsm := w_small w (Complex.mk [Part.mk 0 [x]] []) hw hcx
  rw [World.eav, Complex.eav] at hsm
  rw [Simple.eav, World.eav]
  simp -implicitDefEqProofs only [F6, go_sem, Nat.reduceAdd, Nat.reduceEqDiff, ↓reduceIte]
  refine callI_pure w_fixed ?_
  simp -implicitDefEqProofs only [go_sem, Nat.reduceAdd, Nat.reduceEqDiff, Nat.reduceLeDiff, reduceCtorEq, ↓reduceIte]
  refine callI_d hsm ?_
  simp -implicitDefEqProofs only [Complex.parts, Complex.pseudo, Part.comb, Part.l, cellsL, go_sem, Nat.reduceAdd, Nat.reduceEqDiff, ↓reduceIte]
  cases hs : smallB w.p w.st (Complex.mk [Part.mk 0 [x]] [])
  · simp -implicitDefEqProofs only [go_sem]
    refine callI_pure w_fixed ?_
    simp -implicitDefEqProofs only [go_sem, ↓reduceIte]
  obtain ⟨hp, hst⟩ := small_pg hw hs
  have s1 := w_Simple w.p w.st hp hst n x hx
  have s2 := w_Simple w.p w.st hp hst n (sNot [x]) (sNot_ok hlx)
  have s3 := w_Simple w.p w.st hp hst n (sNot [x, sEmpty]) (sNot_ok hlx2)
  have s4 := w_Simple w.p w.st hp hst n sEmpty sEmpty_ok
  rw [Simple.eav] at s1 s2 s3 s4
  have F : ∀ (P : Prop), P → P := fun _ h => h
  simp -implicitDefEqProofs only [go_sem, Nat.reduceAdd, Nat.reduceEqDiff, Nat.reduceLeDiff, reduceCtorEq, ↓reduceIte]
  refine callI_pure s1 ?_
  simp -implicitDefEqProofs only [go_sem, Nat.reduceAdd, Nat.reduceEqDiff, Nat.reduceLeDiff, reduceCtorEq, ↓reduceIte]
  refine callI_d s2 ?_
  simp -implicitDefEqProofs only [Simple.kind, Simple.name, Simple.value, Simple.a, Simple.b, Simple.l, cellsL, go_sem, Nat.reduceAdd, Nat.reduceEqDiff, Nat.reduceLeDiff, Nat.reduceMul, reduceCtorEq, ↓reduceIte]
  refine callI_d s3 ?_
  simp -implicitDefEqProofs only [Simple.kind, Simple.name, Simple.value, Simple.a, Simple.b, Simple.l, cellsL, go_sem, Nat.reduceAdd, Nat.reduceEqDiff, Nat.reduceLeDiff, Nat.reduceMul, reduceCtorEq, ↓reduceIte]
  refine callI_d s4 ?_
  simp -implicitDefEqProofs only [Simple.kind, Simple.name, Simple.value, Simple.a, Simple.b, Simple.l, cellsL, go_sem, Nat.reduceAdd, Nat.reduceEqDiff, reduceCtorEq, ↓reduceIte]
  refine callI_pure (w_rTree w.p hp) ?_
  have e1 : simpleB w.p w.st n x = (elemB w.p n && (treeB w.p && holdsB w.p w.st n x)) := rfl
  have e2 : simpleB w.p w.st n (sNot [x]) = (elemB w.p n && (treeB w.p && !holdsB w.p w.st n x)) := by rw [simpleB, holds_not]; simp
  have e3 : simpleB w.p w.st n (sNot [x, sEmpty]) = (elemB w.p n && (treeB w.p && !(holdsB w.p w.st n x || holdsB w.p w.st n sEmpty))) := by rw [simpleB, holds_not]; simp
  have e4 : simpleB w.p w.st n sEmpty = (elemB w.p n && (treeB w.p && holdsB w.p w.st n sEmpty)) := rfl
  rw [e1, e2, e3, e4]
  generalize holdsB w.p w.st n x = X
  generalize holdsB w.p w.st n sEmpty = Y
  cases treeB w.p
  · simp -implicitDefEqProofs only [Bool.and_false, Bool.false_and, go_sem, Nat.reduceEqDiff, reduceCtorEq, ↓reduceIte]
  simp -implicitDefEqProofs only [go_sem, Nat.reduceAdd, Nat.reduceEqDiff, reduceCtorEq, ↓reduceIte]
  refine callI_pure (w_rElement w.p n) ?_
  cases elemB w.p n
  · simp -implicitDefEqProofs only [Bool.and_false, Bool.false_and, go_sem, Nat.reduceEqDiff, ↓reduceIte]
  cases X
  · cases Y
    · simp -implicitDefEqProofs only [Bool.or_false, Bool.or_true, Bool.false_or, go_sem, Nat.reduceEqDiff, ↓reduceIte]
    · simp -implicitDefEqProofs only [Bool.or_false, Bool.or_true, Bool.false_or, go_sem, Nat.reduceEqDiff, ↓reduceIte]
  · cases Y
    · simp -implicitDefEqProofs only [Bool.or_false, Bool.or_true, Bool.false_or, Bool.true_or, go_sem, Nat.reduceEqDiff, ↓reduceIte]
    · simp -implicitDefEqProofs only [Bool.or_false, Bool.or_true, Bool.false_or, Bool.true_or, go_sem, Nat.reduceEqDiff, ↓reduceIte]

theorem state_any (st : List Ty.State) (a b : List Ty.State) (f : Ty.State → Bool) (ha : a.any f = false) (hb : b.any f = false) : (((a ++ st) ++ b) ++ st).any f = st.any f := by
  simp [List.any_append, ha, hb]
mutual
theorem holds_st (p : Page) (st st' : List Ty.State) (n : Int) (h : ∀ f : Ty.State → Bool, (∀ s, f s = true → s.node = n) → st'.any f = st.any f) : ∀ x : Simple, holdsB p st' n x = holdsB p st n x
  | .mk kind name value a b l => by
    simp only [holdsB]
    rw [h (fun x => n == x.node && name == x.name) (fun s hs => by simp only [Bool.and_eq_true, beq_iff_eq] at hs; exact hs.1.symm), holdsAny_st p st st' n h l]
theorem holdsAny_st (p : Page) (st st' : List Ty.State) (n : Int) (h : ∀ f : Ty.State → Bool, (∀ s, f s = true → s.node = n) → st'.any f = st.any f) : ∀ l : List Simple, holdsAny p st' n l = holdsAny p st n l
  | [] => rfl
  | x :: r => by simp only [holdsAny]; rw [holds_st p st st' n h x, holdsAny_st p st st' n h r]
end
theorem fits_st (p : Page) (st st' : List Ty.State) (parts : List Part) (h : ∀ n, elemB p n = true → ∀ x, holdsB p st' n x = holdsB p st n x) : ∀ (k : Nat) (n : Int), fitsB p st' parts k n = fitsB p st parts k n
  | 0, n => by
    simp only [fitsB]
    cases he : elemB p n
    · rfl
    · cases parts[0]? with
      | none => rfl
      | some q => simp only [Bool.true_and]; congr 1; funext x; exact h n he x
  | k + 1, n => by
    simp only [fitsB]
    cases he : elemB p n
    · rfl
    · cases parts[k + 1]? with
      | none => rfl
      | some q =>
        simp only [Bool.true_and]
        have e1 : holdsB p st' n = holdsB p st n := funext fun x => h n he x
        have e2 : fitsB p st' parts k = fitsB p st parts k := funext fun a => fits_st p st st' parts h k a
        rw [e1, e2]
theorem all_st (p : Page) (st st' : List Ty.State) (parts : List Part) (h : ∀ n, elemB p n = true → ∀ x, holdsB p st' n x = holdsB p st n x) : allB p st' parts = allB p st parts := by
  unfold allB allTo
  congr 2
  funext n
  simp only [isB, fits_st p st st' parts h]

theorem small_st {w : Ty.World} {c : Complex} (h : smallB w.p w.st c = true) : w.st.length ≤ 30 := by
  simp only [smallB, Bool.and_eq_true] at h
  have := h.2.1
  simp only [fewB, Bool.and_eq_true, decide_eq_true_eq] at this
  omega
theorem w_MatchPseudo (w : Ty.World) (c : Complex) (hw : Enc.ok w) (hc : Enc.ok c) : PureF Tryz.prog 7 [Enc.av w, Enc.av c] (.bool true) := by
  refine pureF_W mix c7 (by kernel_rfl) (by kernel_rfl) (by simp [flats, flat_av, Go.AX.flat]) (by first | exact flat_av _ | simp [flat, flats, flat_av]) ?_
  have hsm := w_small w c hw hc
  rw [World.eav, Complex.eav] at hsm
  simp -implicitDefEqProofs only [F7, go_sem, Int.reduceNeg, Nat.reduceAdd, Nat.reduceEqDiff, ↓reduceIte]
  refine callI_pure w_fixed ?_
  simp -implicitDefEqProofs only [go_sem, Nat.reduceAdd, Nat.reduceEqDiff, reduceCtorEq, ↓reduceIte]
  refine callI_pure hsm ?_
  cases hs : smallB w.p w.st c
  · simp -implicitDefEqProofs only [go_sem, Nat.reduceEqDiff, ↓reduceIte]
    refine callI_pure w_fixed ?_
    simp -implicitDefEqProofs only [go_sem, ↓reduceIte]
  obtain ⟨hp, hst⟩ := small_pg hw hs
  have hpl := hp.len
  have stc : (cellsL w.st).length = w.st.length * 2 := State.clen w.st
  have stt : List.take (w.st.length * 2) (cellsL w.st) = cellsL w.st := List.take_of_length_le (by omega)
  have hstl : w.st.length ≤ 30 := small_st hs
  have b1 : ((1 + w.st.length) * 24 ≤ 140737488355328) = True := eq_true (by omega)
  have b2 : ((1 + w.st.length + 1) * 24 ≤ 140737488355328) = True := eq_true (by omega)
  have b3 : ((1 + w.st.length + 1 + w.st.length) * 24 ≤ 140737488355328) = True := eq_true (by omega)
  have hst' : ∀ st : List Ty.State, st = st → allB w.p ([⟨-1, [104, 111, 118, 101, 114]⟩] ++ st ++ [⟨w.p.length, [102, 111, 99, 117, 115]⟩] ++ st) c.parts = allB w.p st c.parts := fun st _ => by
    refine all_st _ _ _ _ fun n hn x => holds_st _ _ _ _ (fun f hf => ?_) x
    obtain ⟨k, nd, rfl, hk, _⟩ := elem_at hn
    have hkl := getElem_lt hk
    refine state_any st _ _ f ?_ ?_
    · rw [List.any_eq_false]
      intro s hs
      simp only [List.mem_singleton] at hs
      subst hs
      intro h
      have := hf _ h
      simp only at this; omega
    · rw [List.any_eq_false]
      intro s hs
      simp only [List.mem_singleton] at hs
      subst hs
      intro h
      have := hf _ h
      simp only at this; omega
  have fint : ∀ l : List Int, l.length ≤ w.p.length → PureF Tryz.prog 13 [Enc.av l, Enc.av l] (.bool true) := fun l hl => (w_Ints l l (by omega)).at (by rw [decide_eq_true rfl])
  by_cases hz : w.st.length = 0
  · have hz' : w.st = [] := List.length_eq_zero_iff.1 hz
    have hzT := eq_true hz
    have hc0 : cellsL w.st = [] := by rw [hz']; rfl
    have a1 := w_All w.p [] hp (by simp) c hc
    have a2 := w_All w.p [] hp (by simp) (Complex.mk c.parts [97, 102, 116, 101, 114]) ((Complex.ok_iff _).2 ⟨((Complex.ok_iff c).1 hc).1, by show (5 : Nat) ≤ _; omega⟩)
    have a3 := (w_All w.p ([⟨-1, [104, 111, 118, 101, 114]⟩, ⟨w.p.length, [102, 111, 99, 117, 115]⟩]) hp (by simp) c hc).at (v' := Enc.av (allB w.p [] c.parts)) (by rw [← hst' [] rfl]; rfl)
    rw [Complex.eav] at a1 a2 a3
    simp only [Complex.parts, Complex.pseudo] at a2
    have a5 := fint (allB w.p [] c.parts) (allB_len _ _ _)
    simp -implicitDefEqProofs only [hz, hc0, go_sem, Int.reduceNeg, Nat.reduceAdd, Nat.reduceEqDiff, Nat.reduceLT, Nat.reduceLeDiff, Nat.reduceMul, reduceCtorEq, ↓reduceIte]
    refine andI_intro (by kernel_rfl) ?_
    simp -implicitDefEqProofs only [hz, hc0, go_sem, Int.reduceNeg, Nat.reduceAdd, Nat.reduceEqDiff, Nat.reduceLeDiff, reduceCtorEq, ↓reduceIte]
    refine callI_pure a1 ?_
    simp -implicitDefEqProofs only [hz, hc0, go_sem, Int.reduceNeg, Nat.reduceAdd, Nat.reduceEqDiff, Nat.reduceLeDiff, reduceCtorEq, ↓reduceIte]
    refine callI_pure a2 ?_
    simp -implicitDefEqProofs only [hz, hc0, go_sem, Int.reduceNeg, Nat.reduceEqDiff, ↓reduceIte]
    refine callI_pure a5 ?_
    simp -implicitDefEqProofs only [hz, hc0, go_sem, Int.reduceNeg, Nat.reduceAdd, Nat.reduceEqDiff, Nat.reduceMul, reduceCtorEq, ↓reduceIte]
    refine callI_pure a3 ?_
    simp -implicitDefEqProofs only [hz, hc0, go_sem, Int.reduceNeg, Nat.reduceEqDiff, ↓reduceIte]
    refine callI_pure a5 ?_
    simp -implicitDefEqProofs only [hz, hc0, go_sem, Int.reduceNeg, Nat.reduceEqDiff, ↓reduceIte]
  · have hzF := eq_false hz
    have g1 : (3 ≤ 2 + w.st.length * 2) = True := eq_true (by omega)
    have g2 : ((1 + w.st.length) * 2 ≤ w.st.length * 2 + 1 + 1) = True := eq_true (by omega)
    have t1 : List.take ((1 + w.st.length) * 2) (AV.int .i64 (-1) :: AV.str [104, 111, 118, 101, 114] :: cellsL w.st) = AV.int .i64 (-1) :: AV.str [104, 111, 118, 101, 114] :: cellsL w.st := List.take_of_length_le (by simp [stc]; omega)
    have l2 : (cellsL w.st ++ [AV.int .i64 w.p.length, AV.str [102, 111, 99, 117, 115]]).length = w.st.length * 2 + 2 := by simp [stc]
    have g3 : ((1 + w.st.length + 1) * 2 ≤ w.st.length * 2 + 2 + 1 + 1) = True := eq_true (by omega)
    have t2 : List.take ((1 + w.st.length + 1) * 2) (AV.int .i64 (-1) :: AV.str [104, 111, 118, 101, 114] :: (cellsL w.st ++ [AV.int .i64 w.p.length, AV.str [102, 111, 99, 117, 115]])) = AV.int .i64 (-1) :: AV.str [104, 111, 118, 101, 114] :: (cellsL w.st ++ [AV.int .i64 w.p.length, AV.str [102, 111, 99, 117, 115]]) := List.take_of_length_le (by simp [stc]; omega)
    have a1 := w_All w.p w.st hp hst c hc
    have a2 := w_All w.p w.st hp hst (Complex.mk c.parts [97, 102, 116, 101, 114]) ((Complex.ok_iff _).2 ⟨((Complex.ok_iff c).1 hc).1, by show (5 : Nat) ≤ _; omega⟩)
    have a3 := (w_All w.p ([⟨-1, [104, 111, 118, 101, 114]⟩] ++ w.st ++ [⟨w.p.length, [102, 111, 99, 117, 115]⟩] ++ w.st) hp (by simp; omega) c hc).at (v' := Enc.av (allB w.p w.st c.parts)) (by rw [hst' w.st rfl])
    have ea : Enc.av ([(⟨-1, [104, 111, 118, 101, 114]⟩ : Ty.State)] ++ w.st ++ [⟨w.p.length, [102, 111, 99, 117, 115]⟩] ++ w.st) = .ps (1 + w.st.length + 1 + w.st.length) (AV.int .i64 (-1) :: AV.str [104, 111, 118, 101, 114] :: (cellsL w.st ++ [AV.int .i64 w.p.length, AV.str [102, 111, 99, 117, 115]] ++ cellsL w.st)) := by
      rw [eav_L, cellsL_append, cellsL_append, cellsL_append]
      simp only [List.length_append, List.length_singleton]
      rfl
    rw [ea] at a3
    have l3 : (cellsL w.st ++ [AV.int .i64 w.p.length, AV.str [102, 111, 99, 117, 115]] ++ cellsL w.st).length = w.st.length * 2 + 2 + w.st.length * 2 := by simp [stc]; omega
    have g4 : ((1 + w.st.length + 1 + w.st.length) * 2 ≤ w.st.length * 2 + 2 + w.st.length * 2 + 1 + 1) = True := eq_true (by omega)
    have t3 : List.take ((1 + w.st.length + 1 + w.st.length) * 2) (AV.int .i64 (-1) :: AV.str [104, 111, 118, 101, 114] :: (cellsL w.st ++ [AV.int .i64 w.p.length, AV.str [102, 111, 99, 117, 115]] ++ cellsL w.st)) = AV.int .i64 (-1) :: AV.str [104, 111, 118, 101, 114] :: (cellsL w.st ++ [AV.int .i64 w.p.length, AV.str [102, 111, 99, 117, 115]] ++ cellsL w.st) := List.take_of_length_le (by simp [stc]; omega)
    rw [Complex.eav] at a1 a2 a3
    simp only [Complex.parts, Complex.pseudo] at a2
    have a5 := fint (allB w.p w.st c.parts) (allB_len _ _ _)
    simp -implicitDefEqProofs only [stc, hzF, b1, b2, b3, g1, g2, t1, l2, g3, t2, l3, g4, t3, go_sem, Int.reduceNeg, Nat.reduceAdd, Nat.reduceEqDiff, Nat.reduceLT, Nat.reduceLeDiff, reduceCtorEq, ↓reduceIte]
    refine andI_intro (by kernel_rfl) ?_
    simp -implicitDefEqProofs only [stc, hzF, b1, b2, b3, g1, g2, t1, l2, g3, t2, l3, g4, t3, go_sem, Int.reduceNeg, Nat.reduceAdd, Nat.reduceEqDiff, Nat.reduceLeDiff, reduceCtorEq, ↓reduceIte]
    refine callI_pure a1 ?_
    simp -implicitDefEqProofs only [stc, hzF, b1, b2, b3, g1, g2, t1, l2, g3, t2, l3, g4, t3, go_sem, Int.reduceNeg, Nat.reduceAdd, Nat.reduceEqDiff, Nat.reduceLeDiff, reduceCtorEq, ↓reduceIte]
    refine callI_pure a2 ?_
    simp -implicitDefEqProofs only [stc, hzF, b1, b2, b3, g1, g2, t1, l2, g3, t2, l3, g4, t3, go_sem, Int.reduceNeg, Nat.reduceEqDiff, ↓reduceIte]
    refine callI_pure a5 ?_
    simp -implicitDefEqProofs only [stc, hzF, b1, b2, b3, g1, g2, t1, l2, g3, t2, l3, g4, t3, go_sem, Int.reduceNeg, Nat.reduceAdd, Nat.reduceEqDiff, reduceCtorEq, ↓reduceIte]
    refine callI_pure a3 ?_
    simp -implicitDefEqProofs only [stc, hzF, b1, b2, b3, g1, g2, t1, l2, g3, t2, l3, g4, t3, go_sem, Int.reduceNeg, Nat.reduceEqDiff, ↓reduceIte]
    refine callI_pure a5 ?_
    simp -implicitDefEqProofs only [stc, hzF, b1, b2, b3, g1, g2, t1, l2, g3, t2, l3, g4, t3, go_sem, Int.reduceNeg, Nat.reduceEqDiff, ↓reduceIte]
end W12
