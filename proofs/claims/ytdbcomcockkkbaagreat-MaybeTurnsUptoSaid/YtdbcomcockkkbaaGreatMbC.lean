/- How a simple selector may fit an element: the program's. -/
import Derived.Test.YtdbcomcockkkbaaGreatMbB
import Derived.Test.YtdbcomcockkkbaaGreatFyB
set_option linter.unusedSimpArgs false
set_option linter.unusedVariables false
namespace W14
open Go Go.AX Go.AX.Ty Go.Proofs

mutual
def mS (s : Safe) (p : Page) (n : Int) : Simple → Int
  | .mk kind name value a b l => if kind = 11 then kNot (kOr (mSL s p n l)) else if mayS s (.mk kind name value a b l) = true then 1 else if holdsB p [] n (.mk kind name value a b l) = true then 2 else 0
def mSL (s : Safe) (p : Page) (n : Int) : List Simple → List Int
  | [] => []
  | x :: r => mS s p n x :: mSL s p n r
end
theorem mSL_eq (s : Safe) (p : Page) (n : Int) : ∀ l, mSL s p n l = l.map (mS s p n)
  | [] => rfl
  | x :: r => by rw [mSL, mSL_eq s p n r]; rfl
theorem mS_eq (s : Safe) (p : Page) (n : Int) (x : Simple) : mS s p n x = if x.kind = 11 then kNot (kOr (x.l.map (mS s p n))) else if mayS s x = true then 1 else if holdsB p [] n x = true then 2 else 0 := by
  cases x; rw [mS, mSL_eq]; rfl
theorem w_simples (s : Safe) (p : Page) (parts : List Part) (k : Int) (l : List Simple) (hl : l.length ≤ 1000000) (f : Simple → Int) (hf : ∀ y ∈ l, ∀ r, PS Tryz.prog 36 [wav s p parts r, .int .i64 k, Enc.av y] (.int .i64 (f y))) (r : Nat) :
    PS Tryz.prog 56 [wav s p parts r, .int .i64 k, Enc.av l] (Enc.av (l.map f)) := by
  intro h m
  refine acalls_same (flat_av _) (acalls_W mix (C0_ok _) c56 (by kernel_rfl) (Nat.le_of_ble_eq_true (by kernel_rfl)) ?_)
  have e0 : wav s p parts r = .agg [.ps s.classes.length (cellsL s.classes), .ps s.attrs.length (cellsL s.attrs), .ps p.length (cellsL p), .ps parts.length (cellsL parts), .map r] := rfl
  have hf' := fun y hy => hf y hy r
  rw [e0] at hf' ⊢
  simp -implicitDefEqProofs only [F56, go_sem, Nat.reduceEqDiff, ↓reduceIte]
  refine LoopI_sl (fun q : Nat × AV => l.length - q.1) (fun q => [(3, .ptr m 0 0), (1, .int .i64 k), (10, Enc.av l), (11, .int .i64 l.length), (12, .int .i64 q.1), (7, q.2)])
    (fun q st => q.1 ≤ l.length ∧ m + 1 ≤ st.next ∧ AX.look m st.heap = some (.cells 0 [.ps s.classes.length (cellsL s.classes), .ps s.attrs.length (cellsL s.attrs), .ps p.length (cellsL p), .ps parts.length (cellsL parts), .map r] false) ∧ (∀ id, id < m → AX.look id st.heap = AX.look id h) ∧ OwnG (m + 1) st.heap st.next q.2 ((l.take q.1).map f)) (0, .nils) ?_ ?_
  · simp -implicitDefEqProofs only [go_sem, Nat.reduceEqDiff, ↓reduceIte]
    refine ⟨fun id hid => by rw [if_neg (by omega)], .inl ⟨rfl, rfl⟩⟩
  rintro ⟨i, v⟩ ρ ⟨g, m'⟩ ⟨h1, h2, h3, h4, h5⟩
  dsimp only at h1 h2 h3 h4 h5
  rcases Nat.lt_or_ge i l.length with hk | hk
  · obtain ⟨x, hx, hd, hm⟩ := get_drop hk
    have hlt : ((i : Int) < (l.length : Int)) = True := eq_true (by omega)
    have w1 : IntKind.i64.wrap ((i : Int) + 1) = ((i + 1 : Nat) : Int) := by rw [wrap64 (by omega) (by omega)]; omega
    have hsn : cellsL ((l.take (i + 1)).map f) = cellsL ((l.take i).map f) ++ [.int .i64 (f x)] := by rw [take_snoc hx, List.map_append, cellsL_append]; rfl
    have hln : ((l.take i).map f).length = i := by rw [List.length_map, List.length_take]; omega
    have hln1 : ((l.take (i + 1)).map f).length = i + 1 := by rw [List.length_map, List.length_take]; omega
    have m0 : (m' = m) = False := eq_false (by omega)
    have m1 : (m' + 1 = m) = False := eq_false (by omega)
    have m2 : (m' + 1 + 1 = m) = False := eq_false (by omega)
    have m3 : (m' + 1 = m') = False := eq_false (by omega)
    have m4 : (m' + 1 + 1 = m') = False := eq_false (by omega)
    have m5 : (m' + 1 + 1 = m' + 1) = False := eq_false (by omega)
    have e1 := hf' x hm
    rw [Simple.eav] at e1
    rcases h5 with ⟨e5, rfl⟩ | ⟨b, rfl, hb1, hb2, hb3⟩
    · simp -implicitDefEqProofs only [hlt, hx, w1, h3, m0, m1, m2, m3, m4, m5, go_sem, Nat.reduceAdd, Nat.reduceEqDiff, Nat.reduceLeDiff, ↓reduceIte]
      refine callI_st (e1 _ _) ?_
      simp -implicitDefEqProofs only [hlt, hx, w1, h3, m0, m1, m2, m3, m4, m5, go_sem, Nat.reduceEqDiff, Nat.reduceLeDiff, reduceCtorEq, ↓reduceIte]
      have hi0 : i = 0 := by rw [e5] at hln; simpa using hln.symm
      refine ⟨(i + 1, .sl (m' + 1 + 1) 1 0 1 1), by simp only; omega, ⟨rfl, rfl⟩, by simp only; omega, by omega, fun id hid => ?_, .inr ⟨m' + 1 + 1, ?_, by omega, by omega, ?_⟩⟩
      · rw [if_neg (by omega), if_neg (by omega), if_neg (by omega)]; exact h4 id hid
      · simp only; rw [hln1, hi0]
      · simp only [AX.look, ↓reduceIte]; rw [hsn, e5, hln1, hi0]; rfl
    · have mb : (m' = b) = False := eq_false (by omega)
      have mb1 : (m' + 1 = b) = False := eq_false (by omega)
      have b0 : (b = m) = False := eq_false (by omega)
      have b1 : (b = m') = False := eq_false (by omega)
      have b2 : (b = m' + 1) = False := eq_false (by omega)
      have hc1 : (cellsL ((l.take i).map f)).length = i := by rw [ints_len, hln]
      have ht : List.take i (cellsL ((l.take i).map f)) = cellsL ((l.take i).map f) := List.take_of_length_le (by omega)
      have hbd : ((i + 1) * 8 ≤ 140737488355328) = True := eq_true (by omega)
      rw [hln] at hb3
      simp -implicitDefEqProofs only [hlt, hx, hln, w1, h3, m0, m1, m2, m3, m4, m5, mb, mb1, b0, b1, b2, hc1, ht, hbd, hb3, go_sem, Nat.reduceAdd, Nat.reduceEqDiff, Nat.reduceLeDiff, ↓reduceIte]
      refine callI_st (e1 _ _) ?_
      simp -implicitDefEqProofs only [hlt, hx, hln, w1, h3, m0, m1, m2, m3, m4, m5, mb, mb1, b0, b1, b2, hc1, ht, hbd, hb3, go_sem, Nat.reduceEqDiff, Nat.reduceLeDiff, reduceCtorEq, ↓reduceIte]
      refine ⟨(i + 1, .sl b (i + 1) 0 (i + 1) 1), by simp only; omega, ⟨rfl, rfl⟩, by simp only; omega, by omega, fun id hid => ?_, .inr ⟨b, ?_, by omega, by omega, ?_⟩⟩
      · rw [if_neg (by omega), if_neg (by omega), if_neg (by omega)]; exact h4 id hid
      · simp only; rw [hln1]
      · simp only [AX.look, mb, mb1, ↓reduceIte, look_putAt, hb3, Option.map_some]; rw [hsn, hln1]
  · have hlt : ((i : Int) < (l.length : Int)) = False := eq_false (by omega)
    simp -implicitDefEqProofs only [hlt, go_sem, Nat.reduceEqDiff, ↓reduceIte]
    have hil : i = l.length := by omega
    subst hil
    rw [List.take_length] at h5
    refine ⟨?_, h4⟩
    rcases h5 with ⟨e5, rfl⟩ | ⟨b, rfl, hb1, hb2, hb3⟩
    · rw [e5]; exact ⟨by simp [viewIs, view, cellsL], by simp [idsD]⟩
    · have hc1 : (cellsL (l.map f)).length = l.length := by rw [ints_len, List.length_map]
      simp only [List.length_map] at hb3 ⊢
      refine ⟨?_, by simp [idsD]; omega⟩
      rw [viewIs_sl _ hb3 (by omega), Nat.mul_one, List.take_of_length_le (by omega)]
theorem siz_memL {y : Simple} : ∀ {l : List Simple}, y ∈ l → siz y ≤ sizL l
  | [], h => by simp at h
  | x :: r, h => by
    simp only [sizL]
    rcases List.mem_cons.1 h with rfl | h
    · omega
    · have := siz_memL h; omega
theorem siz_mem {x y : Simple} (h : y ∈ x.l) : siz y ≤ sizL x.l := siz_memL h
/-- HOW A SIMPLE SELECTOR MAY FIT -/
theorem w_simple (s : Safe) (hs : Enc.ok s) {p : Page} (parts : List Part) {k : Nat} {nd : Ty.Node} (ha : At p [] k nd) : ∀ (N : Nat) (x : Simple), sizeOf x ≤ N → Enc.ok x → siz x ≤ 1000000 → ∀ r,
    PS Tryz.prog 36 [wav s p parts r, .int .i64 k, Enc.av x] (.int .i64 (mS s p k x)) := by
  intro N
  induction N with
  | zero => intro x hx; cases x; simp only [Simple.mk.sizeOf_spec] at hx; omega
  | succ N ih =>
  intro x hN hok hsz r h m
  have hxok := (Simple.ok_iff x).1 hok
  have hsl : sizL x.l ≤ 1000000 := by have := siz_eq x; omega
  have hll := len_sizL x.l
  have hsub := w_simples s p parts k x.l (by omega) (mS s p k) (fun y hy r => ih y (by have := simple_lt hy; omega) (hxok.2.2.2.2.2.2 y hy) (by have := siz_mem hy; omega) r) r
  have hmay := w_safeMay s hs x hok
  rw [mS_eq]
  have e0 : wav s p parts r = .agg [.ps s.classes.length (cellsL s.classes), .ps s.attrs.length (cellsL s.attrs), .ps p.length (cellsL p), .ps parts.length (cellsL parts), .map r] := rfl
  refine acalls_same rfl (acalls_W mix (C0_ok _) c36 (by kernel_rfl) (Nat.le_of_ble_eq_true (by kernel_rfl)) ?_)
  have n1 : (m = m + 1) = False := eq_false (by omega)
  have n2 : (m + 1 = m) = False := eq_false (by omega)
  rw [e0] at hsub ⊢
  rw [Simple.eav, Safe.eav] at hmay
  rw [Simple.eav]
  by_cases h11 : x.kind = 11
  · rw [if_pos h11]
    have f11 : (x.kind = 11) = True := eq_true h11
    simp -implicitDefEqProofs only [F36, n1, n2, f11, go_sem, Nat.reduceAdd, Nat.reduceEqDiff, Nat.reduceLeDiff, ↓reduceIte]
    refine callI_st (hsub _ _) ?_
    simp -implicitDefEqProofs only [n1, n2, go_sem, ↓reduceIte]
    refine callI_pure (w_Or _ (by rw [List.length_map]; omega)) ?_
    simp -implicitDefEqProofs only [n1, n2, go_sem, ↓reduceIte]
    refine callI_pure (w_Not _) ?_
    simp -implicitDefEqProofs only [n1, n2, go_sem, ↓reduceIte]
    exact ⟨by simp, fun id hid => by (try simp only [AX.look]); (try simp only at hid); repeat rw [if_neg (by omega)]⟩
  rw [if_neg h11]
  have f11 : (x.kind = 11) = False := eq_false h11
  have hh := w_holds s parts r ha x hok h11
  rw [Simple.eav, e0] at hh
  simp -implicitDefEqProofs only [F36, n1, n2, f11, go_sem, Nat.reduceAdd, Nat.reduceEqDiff, Nat.reduceLeDiff, ↓reduceIte]
  refine callI_pure hmay ?_
  cases hm : mayS s x
  · simp -implicitDefEqProofs only [n1, n2, go_sem, Nat.reduceAdd, Nat.reduceEqDiff, ↓reduceIte]
    refine callI_st (hh _ _) ?_
    simp -implicitDefEqProofs only [n1, n2, go_sem, ↓reduceIte]
    refine callI_pure (w_of _) ?_
    simp -implicitDefEqProofs only [n1, n2, go_sem, ↓reduceIte]
    exact ⟨by simp, fun id hid => by (try simp only [AX.look]); (try simp only at hid); repeat rw [if_neg (by omega)]⟩
  · simp -implicitDefEqProofs only [n1, n2, go_sem, ↓reduceIte]
    exact ⟨by simp, fun id hid => by (try simp only [AX.look]); (try simp only at hid); repeat rw [if_neg (by omega)]⟩
end W14
/- A new world; the answer for a simple selector. -/
set_option linter.unusedSimpArgs false
set_option linter.unusedVariables false
namespace W14
open Go Go.AX Go.AX.Ty Go.Proofs

theorem w_newWorld (s : Safe) (p : Page) (hp : PgOk p) (P : AV) (h : List (Nat × AX.Obj)) (m : Nat) (hP : P = .nils ∨ ∃ n cs, P = .ps n cs):
    ACalls Tryz.prog 34 [Enc.av s, Enc.av p, P] ⟨h, m⟩ fun v s' => v = .agg [.ps s.classes.length (cellsL s.classes), .ps s.attrs.length (cellsL s.attrs), if treeB p = true then Enc.av p else .nils, P, .map (m + 1 + 1)] ∧
      s' = ⟨(m + 1 + 1, .map []) :: (m + 1, .cells 0 [.ps s.classes.length (cellsL s.classes), .ps s.attrs.length (cellsL s.attrs), if treeB p = true then Enc.av p else .nils, P, .map (m + 1 + 1)] false) :: (m, .cells 0 [.ps s.classes.length (cellsL s.classes), .ps s.attrs.length (cellsL s.attrs)] false) :: h, m + 1 + 1 + 1⟩ := by
  rcases hP with rfl | ⟨n, cs, rfl⟩ <;>
  (
  refine acalls_W mix (C0_ok _) c34 (by kernel_rfl) (Nat.le_of_ble_eq_true (by kernel_rfl)) ?_
  have n1 : (m + 1 = m) = False := eq_false (by omega)
  have n2 : (m + 1 + 1 = m) = False := eq_false (by omega)
  have n3 : (m + 1 + 1 = m + 1) = False := eq_false (by omega)
  have n4 : (m = m + 1) = False := eq_false (by omega)
  simp -implicitDefEqProofs only [F34, n1, n2, n3, n4, go_sem, Nat.reduceEqDiff, ↓reduceIte]
  refine callI_pure (w_Tree p hp) ?_
  cases ht : treeB p
  · simp -implicitDefEqProofs only [n1, n2, n3, n4, go_sem, Nat.reduceAdd, Nat.reduceEqDiff, Nat.reduceLeDiff, ↓reduceIte]
  · simp -implicitDefEqProofs only [n1, n2, n3, n4, go_sem, Nat.reduceAdd, Nat.reduceEqDiff, Nat.reduceLeDiff, ↓reduceIte]
    )
end W14
/- How a simple selector may fit a node: the document's. -/
set_option linter.unusedSimpArgs false
set_option linter.unusedVariables false
namespace W14
open Go Go.AX Go.AX.Ty Go.Proofs

theorem words_clean : ∀ (s acc : Str), (∀ c ∈ acc, blankB c = false) → ∀ w ∈ wordsGo s acc, w ≠ [] ∧ ∀ c ∈ w, blankB c = false
  | [], acc, h, w, hw => by
    unfold wordsGo at hw
    split at hw
    · simp at hw
    · rename_i hne; simp at hw; subst hw; exact ⟨hne, h⟩
  | x :: r, acc, h, w, hw => by
    unfold wordsGo at hw
    split at hw
    · split at hw
      · exact words_clean r [] (by simp) w hw
      · rename_i hne
        rcases List.mem_cons.1 hw with rfl | hw
        · exact ⟨hne, h⟩
        · exact words_clean r [] (by simp) w hw
    · rename_i hb
      exact words_clean r (acc ++ [x]) (fun c hc => by
        rcases List.mem_append.1 hc with hc | hc
        · exact h c hc
        · simp at hc; subst hc; simpa using hb) w hw
theorem words_self (v : Str) : wordsB v = [v] ↔ v ≠ [] ∧ v.any blankB = false := by
  constructor
  · intro h
    have := words_clean v [] (by simp) v (by show v ∈ wordsB v; rw [h]; simp)
    exact ⟨this.1, by rw [List.any_eq_false]; intro c hc; simp [this.2 c hc]⟩
  · rintro ⟨h1, h2⟩
    have h2' : ∀ c ∈ v, blankB c = false := fun c hc => by
      rw [List.any_eq_false] at h2; simpa using h2 c hc
    have := wordsGo_run v [] [] h2'
    rw [List.append_nil, List.nil_append] at this
    show wordsGo v [] = _
    rw [this]; unfold wordsGo; rw [if_neg h1]
end W14
/- How a simple selector may fit an element, and a node: the document's. -/
set_option linter.unusedSimpArgs false
set_option linter.unusedVariables false
namespace W14
open Go Go.AX Go.AX.Ty Go.Proofs

theorem shortL_mem {y : Simple} : ∀ {l : List Simple}, shortL l → y ∈ l → shortS y
  | [], _, h => by simp at h
  | x :: r, hs, h => by
    simp only [shortL] at hs
    rcases List.mem_cons.1 h with rfl | h
    · exact hs.1
    · exact shortL_mem hs.2 h
end W14
/- Guards. -/
set_option linter.unusedSimpArgs false
set_option linter.unusedVariables false
namespace W14
open Go Go.AX Go.AX.Ty Go.Proofs

theorem strs_len (l : List Str) : (cellsL l).length = l.length := by rw [cellsL_len]; simp [Enc.sz]
theorem strs_drop {l : List Str} {k : Nat} {x : Str} (h : l[k]? = some x) : List.drop k (cellsL l) = AV.str x :: List.drop (k + 1) (cellsL l) := by
  have h1 : (cellsL l).drop (k * 1) = cellsL (l.drop k) := cellsL_drop l k
  have h2 : (cellsL l).drop ((k + 1) * 1) = cellsL (l.drop (k + 1)) := cellsL_drop l (k + 1)
  rw [Nat.mul_one] at h1 h2
  obtain ⟨y, hy, hd, _⟩ := get_drop (getElem_lt h)
  rw [h] at hy; cases hy
  rw [h1, h2, hd]; rfl
def fewS (s : Safe) : Bool := decide ((s.classes ++ s.attrs).length ≤ 20) && !(s.classes ++ s.attrs).any fun v => decide ((v.length : Int) > 100)
theorem w_rFew (s : Safe) (hs : Enc.ok s) (hb1 : s.classes.length ≤ 1048576) (hb2 : s.attrs.length ≤ 1048576) : PureF Tryz.prog 25 [Enc.av s] (.bool (fewS s)) := by
  refine pureF_W mix c25 (by kernel_rfl) (by kernel_rfl) (by simp [flats, flat_av, Go.AX.flat]) (by first | exact flat_av _ | simp [flat, flats, flat_av]) ?_
  have hs' := (Safe.ok_iff s).1 hs
  have c1 : (cellsL s.classes).length = s.classes.length := strs_len _
  have c2 : (cellsL s.attrs).length = s.attrs.length := strs_len _
  have t1 : List.take s.classes.length (cellsL s.classes) = cellsL s.classes := List.take_of_length_le (by omega)
  have b1 : (s.classes.length * 16 ≤ 140737488355328) = True := eq_true (by omega)
  have b2 : (s.attrs.length * 16 ≤ 140737488355328) = True := eq_true (by omega)
  have b3 : ((s.classes.length + s.attrs.length) * 16 ≤ 140737488355328) = True := eq_true (by omega)
  have hll : (s.classes ++ s.attrs).length = s.classes.length + s.attrs.length := List.length_append
  have hcl : cellsL (s.classes ++ s.attrs) = cellsL s.classes ++ cellsL s.attrs := cellsL_append _ _
  generalize hl : s.classes ++ s.attrs = l at hll hcl
  unfold fewS
  rw [hl]
  by_cases h1 : s.classes.length = 0
  · have e1 : cellsL s.classes = [] := List.eq_nil_of_length_eq_zero (by omega)
    by_cases h2 : s.attrs.length = 0
    · have e2 : cellsL s.attrs = [] := List.eq_nil_of_length_eq_zero (by omega)
      simp -implicitDefEqProofs only [F25, h1, h2, e1, e2, go_sem, Nat.reduceAdd, Nat.reduceEqDiff, Nat.reduceLeDiff, reduceCtorEq, ↓reduceIte]
      refine andI_intro (by kernel_rfl) ?_
      have hL : l = [] := List.eq_nil_of_length_eq_zero (by omega)
      subst hL
      simp -implicitDefEqProofs only [go_sem]
      rw [LoopI_def]
      refine ⟨1, ?_⟩
      simp -implicitDefEqProofs only [go_sem, Int.reduceLE, Int.reduceLT, Nat.reduceEqDiff, ↓reduceIte]
      simp
    · have h2z := eq_false h2
      have m2 : (1 ≤ s.attrs.length) = True := eq_true (by omega)
      simp -implicitDefEqProofs only [F25, h1, e1, h2z, c2, b2, m2, go_sem, Nat.reduceAdd, Nat.reduceEqDiff, Nat.reduceLeDiff, reduceCtorEq, ↓reduceIte]
      refine andI_intro (by kernel_rfl) ?_
      have hL : s.attrs.length = l.length := by omega
      have hC : cellsL s.attrs = cellsL l := by rw [hcl]; rw [e1]; rfl
      simp -implicitDefEqProofs only [go_sem]
      rw [hL, hC]
      by_cases hbig : l.length ≤ 20
      case neg =>
        have hb : ((l.length : Int) ≤ 20) = False := eq_false (by omega)
        rw [LoopI_def]
        refine ⟨1, ?_⟩
        have h0 : ((0 : Int) < (l.length : Int)) = True := eq_true (by omega)
        simp -implicitDefEqProofs only [hb, h0, go_sem, Nat.reduceEqDiff, ↓reduceIte]
        simp [hbig]
      have hb : ((l.length : Int) ≤ 20) = True := eq_true (by omega)
      refine LoopI_sl (fun k : Nat => l.length - k) (fun k => [(3, .sl 1 l.length 0 l.length 1), (4, .int .i64 k)]) (fun k st => k ≤ l.length ∧ 2 ≤ st.next ∧ Pre (fun v : Str => decide ((v.length : Int) > 100)) l k ∧ AX.look 1 st.heap = some (.cells l.length (cellsL l) false)) 0 ?_ ?_
      · simp -implicitDefEqProofs only [go_sem, Nat.reduceEqDiff, ↓reduceIte]
        exact Pre.zero _ _
      rintro k ρ ⟨g, m⟩ ⟨g1, g2, g3, g4⟩
      dsimp only at g2 g4
      rcases Nat.lt_or_ge k l.length with hk | hk
      · obtain ⟨x, hx, hd, hm⟩ := get_drop hk
        have hlt : ((k : Int) < (l.length : Int)) = True := eq_true (by omega)
        have hlt2 : (k < l.length) = True := eq_true (by omega)
        have w1 : IntKind.i64.wrap ((k : Int) + 1) = ((k + 1 : Nat) : Int) := by rw [wrap64 (by omega) (by omega)]; omega
        have hgx : List.drop k (cellsL l) = AV.str x :: List.drop (k + 1) (cellsL l) := strs_drop hx
        have hkl : (k ≤ (cellsL l).length) = True := eq_true (by rw [strs_len]; omega)
        simp -implicitDefEqProofs only [hlt, hlt2, hb, hx, g4, hgx, hkl, go_sem, Nat.reduceEqDiff, ↓reduceIte]
        (refine brI_both (fun h hT => ?_) (fun h hT => ?_) <;> try simp -implicitDefEqProofs only [hT, w1, go_sem, Nat.reduceEqDiff, ↓reduceIte] <;> try clear hT)
        · rw [any_here hm (by simpa using h)]; simp
        · exact ⟨k + 1, by omega, rfl, by omega, g2, g3.next hx (by simpa using h), g4⟩
      · have hlt : ((k : Int) < (l.length : Int)) = False := eq_false (by omega)
        simp -implicitDefEqProofs only [hlt, hb, go_sem, Nat.reduceEqDiff, ↓reduceIte]
        rw [any_no (g3.all hk)]; simp [hbig]
  · have h1z := eq_false h1
    have m1 : (1 ≤ s.classes.length) = True := eq_true (by omega)
    by_cases h2 : s.attrs.length = 0
    · have e2 : cellsL s.attrs = [] := List.eq_nil_of_length_eq_zero (by omega)
      simp -implicitDefEqProofs only [F25, h1z, h2, e2, c1, b1, m1, go_sem, Nat.reduceAdd, Nat.reduceEqDiff, Nat.reduceLeDiff, reduceCtorEq, ↓reduceIte]
      refine andI_intro (by kernel_rfl) ?_
      have hL : s.classes.length = l.length := by omega
      have hC : cellsL s.classes = cellsL l := by rw [hcl]; rw [e2, List.append_nil]
      simp -implicitDefEqProofs only [go_sem]
      rw [hL, hC]
      by_cases hbig : l.length ≤ 20
      case neg =>
        have hb : ((l.length : Int) ≤ 20) = False := eq_false (by omega)
        rw [LoopI_def]
        refine ⟨1, ?_⟩
        have h0 : ((0 : Int) < (l.length : Int)) = True := eq_true (by omega)
        simp -implicitDefEqProofs only [hb, h0, go_sem, Nat.reduceEqDiff, ↓reduceIte]
        simp [hbig]
      have hb : ((l.length : Int) ≤ 20) = True := eq_true (by omega)
      refine LoopI_sl (fun k : Nat => l.length - k) (fun k => [(3, .sl 1 l.length 0 l.length 1), (4, .int .i64 k)]) (fun k st => k ≤ l.length ∧ 2 ≤ st.next ∧ Pre (fun v : Str => decide ((v.length : Int) > 100)) l k ∧ AX.look 1 st.heap = some (.cells l.length (cellsL l) false)) 0 ?_ ?_
      · simp -implicitDefEqProofs only [go_sem, Nat.reduceEqDiff, ↓reduceIte]
        exact Pre.zero _ _
      rintro k ρ ⟨g, m⟩ ⟨g1, g2, g3, g4⟩
      dsimp only at g2 g4
      rcases Nat.lt_or_ge k l.length with hk | hk
      · obtain ⟨x, hx, hd, hm⟩ := get_drop hk
        have hlt : ((k : Int) < (l.length : Int)) = True := eq_true (by omega)
        have hlt2 : (k < l.length) = True := eq_true (by omega)
        have w1 : IntKind.i64.wrap ((k : Int) + 1) = ((k + 1 : Nat) : Int) := by rw [wrap64 (by omega) (by omega)]; omega
        have hgx : List.drop k (cellsL l) = AV.str x :: List.drop (k + 1) (cellsL l) := strs_drop hx
        have hkl : (k ≤ (cellsL l).length) = True := eq_true (by rw [strs_len]; omega)
        simp -implicitDefEqProofs only [hlt, hlt2, hb, hx, g4, hgx, hkl, go_sem, Nat.reduceEqDiff, ↓reduceIte]
        (refine brI_both (fun h hT => ?_) (fun h hT => ?_) <;> try simp -implicitDefEqProofs only [hT, w1, go_sem, Nat.reduceEqDiff, ↓reduceIte] <;> try clear hT)
        · rw [any_here hm (by simpa using h)]; simp
        · exact ⟨k + 1, by omega, rfl, by omega, g2, g3.next hx (by simpa using h), g4⟩
      · have hlt : ((k : Int) < (l.length : Int)) = False := eq_false (by omega)
        simp -implicitDefEqProofs only [hlt, hb, go_sem, Nat.reduceEqDiff, ↓reduceIte]
        rw [any_no (g3.all hk)]; simp [hbig]
    · have h2z := eq_false h2
      have m3 : (s.classes.length + 1 ≤ s.classes.length + s.attrs.length) = True := eq_true (by omega)
      simp -implicitDefEqProofs only [F25, h1z, h2z, c1, c2, t1, b1, b2, b3, m1, m3, go_sem, Nat.reduceAdd, Nat.reduceEqDiff, Nat.reduceLeDiff, reduceCtorEq, ↓reduceIte]
      refine andI_intro (by kernel_rfl) ?_
      have hL : s.classes.length + s.attrs.length = l.length := by omega
      have hC : cellsL s.classes ++ cellsL s.attrs = cellsL l := by rw [hcl]
      simp -implicitDefEqProofs only [go_sem]
      rw [hL, hC]
      by_cases hbig : l.length ≤ 20
      case neg =>
        have hb : ((l.length : Int) ≤ 20) = False := eq_false (by omega)
        rw [LoopI_def]
        refine ⟨1, ?_⟩
        have h0 : ((0 : Int) < (l.length : Int)) = True := eq_true (by omega)
        simp -implicitDefEqProofs only [hb, h0, go_sem, Nat.reduceEqDiff, ↓reduceIte]
        simp [hbig]
      have hb : ((l.length : Int) ≤ 20) = True := eq_true (by omega)
      refine LoopI_sl (fun k : Nat => l.length - k) (fun k => [(3, .sl 1 l.length 0 l.length 1), (4, .int .i64 k)]) (fun k st => k ≤ l.length ∧ 2 ≤ st.next ∧ Pre (fun v : Str => decide ((v.length : Int) > 100)) l k ∧ AX.look 1 st.heap = some (.cells l.length (cellsL l) false)) 0 ?_ ?_
      · simp -implicitDefEqProofs only [go_sem, Nat.reduceEqDiff, ↓reduceIte]
        exact Pre.zero _ _
      rintro k ρ ⟨g, m⟩ ⟨g1, g2, g3, g4⟩
      dsimp only at g2 g4
      rcases Nat.lt_or_ge k l.length with hk | hk
      · obtain ⟨x, hx, hd, hm⟩ := get_drop hk
        have hlt : ((k : Int) < (l.length : Int)) = True := eq_true (by omega)
        have hlt2 : (k < l.length) = True := eq_true (by omega)
        have w1 : IntKind.i64.wrap ((k : Int) + 1) = ((k + 1 : Nat) : Int) := by rw [wrap64 (by omega) (by omega)]; omega
        have hgx : List.drop k (cellsL l) = AV.str x :: List.drop (k + 1) (cellsL l) := strs_drop hx
        have hkl : (k ≤ (cellsL l).length) = True := eq_true (by rw [strs_len]; omega)
        simp -implicitDefEqProofs only [hlt, hlt2, hb, hx, g4, hgx, hkl, go_sem, Nat.reduceEqDiff, ↓reduceIte]
        (refine brI_both (fun h hT => ?_) (fun h hT => ?_) <;> try simp -implicitDefEqProofs only [hT, w1, go_sem, Nat.reduceEqDiff, ↓reduceIte] <;> try clear hT)
        · rw [any_here hm (by simpa using h)]; simp
        · exact ⟨k + 1, by omega, rfl, by omega, g2, g3.next hx (by simpa using h), g4⟩
      · have hlt : ((k : Int) < (l.length : Int)) = False := eq_false (by omega)
        simp -implicitDefEqProofs only [hlt, hb, go_sem, Nat.reduceEqDiff, ↓reduceIte]
        rw [any_no (g3.all hk)]; simp [hbig]
end W14
/- How parts may fit: the values. -/
set_option linter.unusedSimpArgs false
set_option linter.unusedVariables false
namespace W14
open Go Go.AX Go.AX.Ty Go.Proofs

theorem orF : ∀ (l : List Int) (a : Int), a ≤ l.foldl (fun a x => kmax a (clip x)) a ∧ (∀ x ∈ l, clip x ≤ l.foldl (fun a x => kmax a (clip x)) a) ∧ ∀ b, a ≤ b → (∀ x ∈ l, clip x ≤ b) → l.foldl (fun a x => kmax a (clip x)) a ≤ b
  | [], a => ⟨Int.le_refl _, by simp, fun b h _ => h⟩
  | x :: r, a => by
    obtain ⟨h1, h2, h3⟩ := orF r (kmax a (clip x))
    have e : a ≤ kmax a (clip x) ∧ clip x ≤ kmax a (clip x) := by unfold kmax; split <;> omega
    simp only [List.foldl_cons]
    refine ⟨by omega, fun y hy => ?_, fun b hb hr => h3 b ?_ fun y hy => hr y (by simp [hy])⟩
    · rcases List.mem_cons.1 hy with rfl | hy
      · omega
      · exact h2 y hy
    · have := hr x (by simp)
      unfold kmax; split <;> omega
theorem andF : ∀ (l : List Int) (a : Int), l.foldl (fun a x => kmin a (clip x)) a ≤ a ∧ (∀ x ∈ l, l.foldl (fun a x => kmin a (clip x)) a ≤ clip x) ∧ ∀ b, b ≤ a → (∀ x ∈ l, b ≤ clip x) → b ≤ l.foldl (fun a x => kmin a (clip x)) a
  | [], a => ⟨Int.le_refl _, by simp, fun b h _ => h⟩
  | x :: r, a => by
    obtain ⟨h1, h2, h3⟩ := andF r (kmin a (clip x))
    have e : kmin a (clip x) ≤ a ∧ kmin a (clip x) ≤ clip x := by unfold kmin; split <;> omega
    simp only [List.foldl_cons]
    refine ⟨by omega, fun y hy => ?_, fun b hb hr => h3 b ?_ fun y hy => hr y (by simp [hy])⟩
    · rcases List.mem_cons.1 hy with rfl | hy
      · omega
      · exact h2 y hy
    · have := hr x (by simp)
      unfold kmin; split <;> omega
theorem le_kOr {l : List Int} {x : Int} (h : x ∈ l) : clip x ≤ kOr l := (orF l 0).2.1 x h
theorem kOr_le {l : List Int} {b : Int} (h0 : 0 ≤ b) (h : ∀ x ∈ l, clip x ≤ b) : kOr l ≤ b := (orF l 0).2.2 b h0 h
theorem kAnd_le {l : List Int} {x : Int} (h : x ∈ l) : kAnd l ≤ clip x := (andF l 2).2.1 x h
theorem le_kAnd {l : List Int} {b : Int} (h0 : b ≤ 2) (h : ∀ x ∈ l, b ≤ clip x) : b ≤ kAnd l := (andF l 2).2.2 b h0 h
theorem kOr_bd (l : List Int) : 0 ≤ kOr l ∧ kOr l ≤ 2 := ⟨(orF l 0).1, kOr_le (by omega) fun x _ => (clip_bd x).2⟩
theorem kAnd_bd (l : List Int) : 0 ≤ kAnd l ∧ kAnd l ≤ 2 := ⟨le_kAnd (by omega) fun x _ => (clip_bd x).1, (andF l 2).1⟩
theorem kNot_bd (a : Int) : 0 ≤ kNot a ∧ kNot a ≤ 2 := by have := clip_bd a; unfold kNot; omega
theorem mS_bd (s : Safe) (p : Page) (n : Int) (x : Simple) : 0 ≤ mS s p n x ∧ mS s p n x ≤ 2 := by
  rw [mS_eq]
  split
  · exact kNot_bd _
  · split
    · omega
    · split <;> omega
theorem kmin_two {a : Int} (h : a ≤ 2) : kmin a 2 = a := by unfold kmin; split <;> omega
theorem kAnd_two {a b : Int} (ha : 0 ≤ a ∧ a ≤ 2) (hb : 0 ≤ b ∧ b ≤ 2) : kAnd [a, b] = kmin a b := by
  simp only [kAnd, List.foldl_cons, List.foldl_nil, clip_id ha, clip_id hb]; unfold kmin; repeat' split
  all_goals omega
theorem kOr_two {a b : Int} (ha : 0 ≤ a ∧ a ≤ 2) (hb : 0 ≤ b ∧ b ≤ 2) : kOr [a, b] = kmax a b := by
  simp only [kOr, List.foldl_cons, List.foldl_nil, clip_id ha, clip_id hb]; unfold kmax; repeat' split
  all_goals omega

/-- how a node may fit the first parts, up to one -/
def mFit (s : Safe) (p : Page) (parts : List Part) : Nat → Int → Int
  | 0, n => if elemB p n = true then (match parts[0]? with | some q => kAnd (q.l.map (mS s p n)) | none => 0) else 0
  | k + 1, n => if elemB p n = true then (match parts[k + 1]? with | some q => kmin (kAnd (q.l.map (mS s p n))) (kOr ((relatedB p n q.comb).map (mFit s p parts k))) | none => 0) else 0
def mRest (s : Safe) (p : Page) (parts : List Part) (n : Int) (q : Part) : Nat → Int
  | 0 => 2
  | j + 1 => kOr ((relatedB p n q.comb).map (mFit s p parts j))
theorem mFit_step (s : Safe) (p : Page) (parts : List Part) (k : Nat) (n : Int) (q : Part) (hq : parts[k]? = some q) :
    mFit s p parts k n = if elemB p n = true then kmin (kAnd (q.l.map (mS s p n))) (mRest s p parts n q k) else 0 := by
  cases k with
  | zero => simp only [mFit, hq, mRest]; rw [kmin_two (kAnd_bd _).2]
  | succ j => simp only [mFit, hq, mRest]
theorem kmin_bd {a b : Int} (ha : 0 ≤ a ∧ a ≤ 2) (hb : 0 ≤ b ∧ b ≤ 2) : 0 ≤ kmin a b ∧ kmin a b ≤ 2 := by unfold kmin; split <;> omega
theorem mRest_bd (s : Safe) (p : Page) (parts : List Part) (n : Int) (q : Part) (k : Nat) : 0 ≤ mRest s p parts n q k ∧ mRest s p parts n q k ≤ 2 := by
  cases k with
  | zero => simp [mRest]
  | succ j => exact kOr_bd _
theorem mFit_bd (s : Safe) (p : Page) (parts : List Part) (k : Nat) (n : Int) : 0 ≤ mFit s p parts k n ∧ mFit s p parts k n ≤ 2 := by
  cases hq : parts[k]? with
  | none => cases k <;> simp [mFit, hq]
  | some q =>
    rw [mFit_step s p parts k n q hq]
    split
    · exact kmin_bd (kAnd_bd _) (mRest_bd _ _ _ _ _ _)
    · omega
def rowM (s : Safe) (p : Page) (parts : List Part) (j : Nat) : List Int := (List.range p.length).map fun n : Nat => mFit s p parts j n
theorem rowM_get {s : Safe} {p : Page} {parts : List Part} {j m : Nat} (h : m < p.length) : (rowM s p parts j)[m]? = some (mFit s p parts j m) := by
  simp [rowM, h]
theorem rowM_len (s : Safe) (p : Page) (parts : List Part) (j : Nat) : (rowM s p parts j).length = p.length := by simp [rowM]
noncomputable def ofS (s : Safe) (p : Page) (n : Int) (parts : List Part) : Int := if treeB p = true ∧ elemB p n = true ∧ parts ≠ [] then mFit s p parts (parts.length - 1) n else 0
noncomputable def anyS (s : Safe) (p : Page) (parts : List Part) : Int := if treeB p = true ∧ parts ≠ [] then kOr (rowM s p parts (parts.length - 1)) else 0
end W14
/- How those stand to a node who fit: the document's. -/
set_option linter.unusedSimpArgs false
set_option linter.unusedVariables false
namespace W14
open Go Go.AX Go.AX.Ty Go.Proofs

end W14
/- To whom an element stands. -/
set_option linter.unusedSimpArgs false
set_option linter.unusedVariables false
namespace W14
open Go Go.AX Go.AX.Ty Go.Proofs

theorem w_related (s : Safe) {p : Page} (parts : List Part) (r : Nat) (hp : PgOk p) (t : TreeP p) {k : Nat} {x : Ty.Node} (ha : At p [] k x) (c : Int) :
    PS Tryz.prog 99 [wav s p parts r, .int .i64 k, .int .i64 c] (Enc.av (relatedB p k c)) := by
  intro h m
  refine acalls_same (flat_av _) (acalls_W mix (C0_ok _) c99 (by kernel_rfl) (Nat.le_of_ble_eq_true (by kernel_rfl)) ?_)
  have hx := ha.at'
  have hkp := getElem_lt hx
  have hal : (aboveB p k).length ≤ 1000 := by have := above_len t k hkp; have := hp.len; omega
  have e0 : wav s p parts r = .agg [.ps s.classes.length (cellsL s.classes), .ps s.attrs.length (cellsL s.attrs), .ps p.length (cellsL p), .ps parts.length (cellsL parts), .map r] := rfl
  rw [e0]
  simp -implicitDefEqProofs only [F99, hx, go_sem, Nat.reduceAdd, Nat.reduceEqDiff, Nat.reduceLeDiff, ↓reduceIte]
  have hab := above_step t hx
  have hxk : 1 ≤ k ∨ x.up = -1 := by
    rcases Nat.lt_or_ge k 1 with h | h
    · have : k = 0 := by omega
      subst this
      exact .inr (t.root x hx).1
    · exact .inl h
  refine LoopI_sl (fun q : List Int × AV × Int => (q.2.2 + 1).toNat) (fun q => [(1, .int .i64 k), (2, .int .i64 c), (3, .ptr m 0 0), (7, q.2.1), (8, .int .i64 q.2.2)])
    (fun q st => m + 1 ≤ st.next ∧ AX.look m st.heap = some (.cells 0 [.ps s.classes.length (cellsL s.classes), .ps s.attrs.length (cellsL s.attrs), .ps p.length (cellsL p), .ps parts.length (cellsL parts), .map r] false) ∧ (∀ id, id < m → AX.look id st.heap = AX.look id h) ∧ OwnG (m + 1) st.heap st.next q.2.1 q.1 ∧ -1 ≤ q.2.2 ∧ q.2.2 < p.length ∧ q.1.length + q.2.2 ≤ 1000 ∧
      q.1 ++ (if q.2.2 > 0 then q.2.2 :: aboveB p q.2.2 else []) = aboveB p k) ([], .nils, x.up) ?_ ?_
  · simp -implicitDefEqProofs only [go_sem, Int.reduceNeg, Nat.reduceEqDiff, ↓reduceIte]
    have hpl := hp.len
    refine ⟨fun id hid => by rw [if_neg (by omega)], .inl ⟨rfl, rfl⟩, ?_⟩
    rw [hab]
    rcases hxk with h | h
    · have := t.up k x h hx
      simp; omega
    · rw [h]; simp; omega
  rintro ⟨out, v, cu⟩ ρ ⟨g, m'⟩ ⟨h1, h2, h3, h4, h5, h6, h7, h8⟩
  dsimp only at h1 h2 h3 h4 h5 h6 h7 h8
  have m0 : (m' = m) = False := eq_false (by omega)
  by_cases hc : cu > 0
  · obtain ⟨j, rfl⟩ := Int.eq_ofNat_of_zero_le (show 0 ≤ cu by omega)
    have hcT : ((j : Int) > 0) = True := eq_true hc
    obtain ⟨y, hy⟩ : ∃ y, p[j]? = some y := ⟨p[j]'(by omega), by simp⟩
    have hyup := t.up j y (by omega) hy
    have m1 : (m' + 1 = m) = False := eq_false (by omega)
    have m2 : (m' + 1 = m') = False := eq_false (by omega)
    have i0 : (m < m') = True := eq_true (by omega)
    rw [if_pos hc, above_step t hy] at h8
    have hsn : cellsL (out ++ [(j : Int)]) = cellsL out ++ [.int .i64 j] := by rw [cellsL_append]; rfl
    have hl2 : (out ++ [(j : Int)]).length = out.length + 1 := by simp
    have h9 : out ++ [(j : Int)] ++ (if y.up > 0 then y.up :: aboveB p y.up else []) = aboveB p k := by rw [← h8]; simp
    rcases h4 with ⟨rfl, rfl⟩ | ⟨b, rfl, hb1, hb2, hb3⟩
    · simp -implicitDefEqProofs only [hcT, hy, h2, m0, m1, m2, i0, go_sem, Int.reduceNeg, Nat.reduceAdd, Nat.reduceEqDiff, Nat.reduceLeDiff, reduceCtorEq, ↓reduceIte]
      refine ⟨([(j : Int)], .sl (m' + 1) 1 0 1 1, y.up), by simp only; omega, ⟨rfl, rfl⟩, by omega, ?_, ?_⟩
      · intro id hid; rw [if_neg (by omega), if_neg (by omega)]; exact h3 id hid
      · refine ⟨.inr ⟨m' + 1, rfl, by omega, by omega, by simp [AX.look]; rfl⟩, by (try simp only); omega, by (try simp only); omega, by simp at h7 ⊢; omega, h9⟩
    · have mb : (m' = b) = False := eq_false (by omega)
      have b0 : (b = m) = False := eq_false (by omega)
      have b1 : (b = m') = False := eq_false (by omega)
      have hc1 : (cellsL out).length = out.length := ints_len _
      have ht : List.take out.length (cellsL out) = cellsL out := List.take_of_length_le (by omega)
      have hbd : ((out.length + 1) * 8 ≤ 140737488355328) = True := eq_true (by omega)
      simp -implicitDefEqProofs only [hcT, hy, h2, m0, m1, m2, i0, mb, b0, b1, hb3, hc1, ht, hbd, go_sem, Int.reduceNeg, Nat.reduceAdd, Nat.reduceEqDiff, Nat.reduceLeDiff, reduceCtorEq, ↓reduceIte]
      refine ⟨(out ++ [(j : Int)], .sl b (out.length + 1) 0 (out.length + 1) 1, y.up), by simp only; omega, ⟨rfl, rfl⟩, by omega, ?_, ?_⟩
      · intro id hid; rw [if_neg (by omega), if_neg (by omega)]; exact h3 id hid
      · refine ⟨.inr ⟨b, by rw [hl2], by omega, by omega, ?_⟩, by (try simp only); omega, by (try simp only); omega, by rw [hl2]; (try simp only); omega, h9⟩
        rw [hsn, hl2]; simp [AX.look, mb, look_putAt, hb3]
  · have hcT : (cu > 0) = False := eq_false hc
    rw [if_neg hc, List.append_nil] at h8
    subst h8
    simp -implicitDefEqProofs only [hcT, h2, go_sem, Nat.reduceAdd, Nat.reduceEqDiff, Nat.reduceLeDiff, ↓reduceIte]
    refine callI_pure (w_Kin p hp k ha.kin) ?_
    simp -implicitDefEqProofs only [go_sem, Nat.reduceEqDiff, ↓reduceIte]
    refine callI_pure (w_index_int (k : Int) _ (by have := kin_len hp k; omega)) ?_
    have hm := t.kin ha.at' ha.el
    have hkl := kin_len hp k
    have hrel : relatedB p k c = if c = 1 then aboveB p k else if c = 2 then (aboveB p k).take 1 else if c = 3 then (aheadB p k).drop ((aheadB p k).length - 1) else if c = 4 then aheadB p k else [] := rfl
    have hah : aheadB p k = (kinB p k).take (idxOf (fun x => (k : Int) == x) (kinB p k)).toNat := rfl
    rw [hrel]
    generalize aheadB p k = A at hah
    generalize kinB p k = l at hm hkl hah
    rcases idx_cases (fun x => (k : Int) == x) l with ⟨e, hno⟩ | ⟨i, y, e, hi, _⟩
    · have := hno _ hm; simp at this
    rw [e] at hah ⊢
    rw [Int.toNat_natCast] at hah
    have hAl : A.length = i := by rw [hah, List.length_take]; omega
    have h1 : (i ≤ l.length) = True := eq_true (by omega)
    have hAc : List.take i (cellsL l) = cellsL A := by rw [ints_take, ← hah]
    generalize aboveB p k = B at h4 hal
    by_cases c1 : c = 1
    · have f1 : (c = 1) = True := eq_true c1
      rw [if_pos c1]
      simp -implicitDefEqProofs only [ints_len, h1, f1, Nat.zero_mul, Nat.sub_zero, Nat.mul_one, hAc, go_sem, Nat.reduceEqDiff, ↓reduceIte]
      refine ⟨?_, h3⟩
      rcases h4 with ⟨rfl, rfl⟩ | ⟨b, rfl, hb1, hb2, hb3⟩
      · exact ⟨by simp [viewIs, view, cellsL], by simp [idsD]⟩
      · have hc1 : (cellsL B).length = B.length := ints_len _
        refine ⟨?_, by simp [idsD]; omega⟩
        rw [viewIs_sl _ hb3 (by omega), Nat.mul_one, List.take_of_length_le (by omega)]
    have f1 : (c = 1) = False := eq_false c1
    rw [if_neg c1]
    by_cases c2 : c = 2
    · have f2 : (c = 2) = True := eq_true c2
      rw [if_pos c2]
      rcases h4 with ⟨rfl, rfl⟩ | ⟨b, rfl, hb1, hb2, hb3⟩
      · simp -implicitDefEqProofs only [ints_len, h1, f1, f2, Nat.zero_mul, Nat.sub_zero, Nat.mul_one, hAc, cellsL, go_sem, Int.reduceLT, Int.reduceToNat, Nat.reduceEqDiff, ↓reduceIte]
        (constructor; · simp [viewIs, view, cellsL, idsD]); exact h3
      · cases B with
        | nil =>
          simp -implicitDefEqProofs only [ints_len, h1, f1, f2, Nat.zero_mul, Nat.sub_zero, Nat.mul_one, hAc, cellsL, go_sem, Int.reduceLT, Int.reduceToNat, Nat.reduceEqDiff, ↓reduceIte]
          refine ⟨⟨?_, by simp [idsD]; omega⟩, h3⟩
          simp only [List.length_nil] at hb3
          rw [viewIs_sl _ hb3 (by simp)]; rfl
        | cons a r =>
          have e1 : (((r.length + 1 : Nat) : Int) < 1) = False := eq_false (by omega)
          have e2 : (1 ≤ r.length + 1) = True := eq_true (by omega)
          simp only [List.length_cons] at hb3
          simp -implicitDefEqProofs only [ints_len, h1, f1, f2, e1, e2, Nat.zero_mul, Nat.sub_zero, Nat.mul_one, hAc, go_sem, Int.reduceLE, Int.reduceToNat, Nat.reduceEqDiff, ↓reduceIte]
          refine ⟨⟨?_, by simp [idsD]; omega⟩, h3⟩
          rw [viewIs_sl _ hb3 (by rw [ints_len]; simp)]; rfl
    have f2 : (c = 2) = False := eq_false c2
    rw [if_neg c2]
    by_cases c3 : c = 3
    · have f3 : (c = 3) = True := eq_true c3
      rw [if_pos c3]
      cases A with
      | nil =>
        have e0 : IntKind.i64.wrap (0 - 1) = -1 := rfl
        simp only [List.length_nil] at hAl
        subst hAl
        simp -implicitDefEqProofs only [ints_len, h1, f1, f2, f3, e0, Nat.zero_mul, Nat.sub_zero, Nat.mul_one, cellsL, go_sem, Int.reduceGT, Int.reduceLE, Int.reduceNeg, Int.reduceSub, Int.reduceToNat, Nat.reduceEqDiff, Nat.reduceSub, ↓reduceIte]
        (constructor; · simp [viewIs, view, cellsL, idsD, idsDs]); exact h3
      | cons a r =>
        simp only [List.length_cons] at hAl
        subst hAl
        have e0 : IntKind.i64.wrap (((r.length + 1 : Nat) : Int) - 1) = (r.length : Int) := by rw [wrap64 (by omega) (by omega)]; omega
        have e1 : (if ((r.length : Nat) : Int) > 0 then ((r.length : Nat) : Int) else 0) = (r.length : Int) := by split <;> omega
        have e2 : (r.length ≤ r.length + 1) = True := eq_true (by omega)
        have e3 : r.length + 1 - r.length = 1 := by omega
        have e4 : (List.drop r.length (a :: r)).length = 1 := by rw [List.length_drop]; simp
        simp -implicitDefEqProofs only [ints_len, h1, f1, f2, f3, e0, e1, e2, e3, Nat.zero_mul, Nat.sub_zero, Nat.mul_one, hAc, ints_drop, Nat.add_sub_cancel, go_sem, Nat.reduceEqDiff, ↓reduceIte]
        refine ⟨⟨?_, ?_⟩, h3⟩
        · rw [e4]
        · simp [idsD, flats_cellsL]
    have f3 : (c = 3) = False := eq_false c3
    rw [if_neg c3]
    by_cases c4 : c = 4
    · have f4 : (c = 4) = True := eq_true c4
      rw [if_pos c4]
      simp -implicitDefEqProofs only [ints_len, h1, f1, f2, f3, f4, Nat.zero_mul, Nat.sub_zero, Nat.mul_one, hAc, go_sem, Nat.reduceEqDiff, ↓reduceIte]
      refine ⟨⟨?_, ?_⟩, h3⟩
      · rw [hAl]
      · simp [idsD]
    have f4 : (c = 4) = False := eq_false c4
    rw [if_neg c4]
    simp -implicitDefEqProofs only [ints_len, h1, f1, f2, f3, f4, Nat.zero_mul, Nat.sub_zero, Nat.mul_one, hAc, go_sem, Nat.reduceEqDiff, ↓reduceIte]
    (constructor; · simp [viewIs, view, cellsL, idsD]); exact h3
end W14
/- The memory of how parts fit: what it holds behind each call. -/
set_option linter.unusedSimpArgs false
set_option linter.unusedVariables false
namespace W14
open Go Go.AX Go.AX.Ty Go.Proofs

/-- in a region that draws: a call that turns some blocks alone -/
theorem dcallI_w {P : Program} {f : FuncId} {args xs : List AV} {D W : List Nat} {s s0 s' : St} {K : AV → St → Entry → Prop} {v : AV} (Wr : List Nat) (h : ACalls P f args s (fun v' t => v' = v ∧ t = s')) (hw : Wf s) (hn : s.next ≤ s'.next) (hw' : Wf s')
    (hW : (∀ id ∈ Wr, id < s.next) ∧ ∀ id, id < s.next → id ∉ Wr → s'.get id = s.get id) (hk : @stK s' ⟨fun s' => K v s' ⟨List.range s.next, Wr, s.next, s'.next⟩⟩) : @DCallI P f args xs D W s s0 ⟨K⟩ :=
  .inr ⟨v, s', Wr, h, hw, hn, hw', hW, hk⟩
/-- the map, and what is known in it -/
structure Mw (h : List (Nat × AX.Obj)) (m r : Nat) (L : Kn) : Prop where
  map : AX.look r h = some (.map (encE L))
  rm : r < m
  wf : Wf ⟨h, m⟩
theorem Mw.push {h : List (Nat × AX.Obj)} {m r : Nat} {L : Kn} (M : Mw h m r L) (o : AX.Obj) : Mw ((m, o) :: h) (m + 1) r L := by
  have h2 := M.rm
  refine ⟨?_, by omega, wf_push M.wf⟩
  simp only [AX.look]; rw [if_neg (by omega)]; exact M.map
theorem Mw.put {h : List (Nat × AX.Obj)} {m r : Nat} {L : Kn} (M : Mw h m r L) (L' : Kn) : Mw (putAt r (.map (encE L')) h) m r L' :=
  ⟨by rw [look_put_eq M.map], M.rm, wf_put M.wf⟩
def KnOk (s : Safe) (p : Page) (parts : List Part) (L : Kn) : Prop := ∀ (a : Int) (b : Nat), kget L a b = 0 ∨ kget L a b = 1 + mFit s p parts b a
theorem KnOk.set {s : Safe} {p : Page} {parts : List Part} {L : Kn} (h : KnOk s p parts L) (n : Int) (k : Nat) : KnOk s p parts (kset L n k (1 + mFit s p parts k n)) := fun a b => by
  rw [kget_kset]
  split
  · rename_i e
    obtain ⟨rfl, e2⟩ := e
    have : k = b := by omega
    subst this; exact .inr rfl
  · exact h a b
def mFind (s : Safe) (p : Page) (parts : List Part) (k : Nat) (f : Kn → Int → Kn) (L : Kn) (n : Int) : Kn := match parts[k + 1]? with
  | some q => if elemB p n = true ∧ kAnd (q.l.map (mS s p n)) ≠ 0 then (relatedB p n q.comb).foldl f L else L
  | none => L
def mKeep (s : Safe) (p : Page) (parts : List Part) (k : Nat) (L3 L : Kn) (n : Int) : Kn := if kget L n k = 0 then kset L3 n k (1 + mFit s p parts k n) else L
/-- what is known behind a call -/
def mFits (s : Safe) (p : Page) (parts : List Part) : Nat → Kn → Int → Kn
  | 0 => fun L n => mKeep s p parts 0 L L n
  | k + 1 => fun L n => mKeep s p parts (k + 1) (mFind s p parts k (mFits s p parts k) L n) L n
def mFinds (s : Safe) (p : Page) (parts : List Part) : Nat → Kn → Int → Kn
  | 0 => fun L _ => L
  | k + 1 => fun L n => mFind s p parts k (mFits s p parts k) L n
theorem mFits_eq (s : Safe) (p : Page) (parts : List Part) (k : Nat) (L : Kn) (n : Int) : mFits s p parts k L n = mKeep s p parts k (mFinds s p parts k L n) L n := by
  cases k <;> rfl
theorem foldl_ok {s : Safe} {p : Page} {parts : List Part} {f : Kn → Int → Kn} (hf : ∀ L n, KnOk s p parts L → KnOk s p parts (f L n)) : ∀ (l : List Int) (L : Kn), KnOk s p parts L → KnOk s p parts (l.foldl f L)
  | [], L, h => h
  | x :: r, L, h => foldl_ok hf r _ (hf L x h)
theorem mFits_of {s : Safe} {p : Page} {parts : List Part} {k : Nat} (hf : ∀ L n, KnOk s p parts L → KnOk s p parts (mFinds s p parts k L n)) (L : Kn) (n : Int) (h : KnOk s p parts L) : KnOk s p parts (mFits s p parts k L n) := by
  rw [mFits_eq]
  unfold mKeep
  split
  · exact (hf L n h).set n k
  · exact h
theorem mFinds_ok (s : Safe) (p : Page) (parts : List Part) : ∀ k L n, KnOk s p parts L → KnOk s p parts (mFinds s p parts k L n)
  | 0, L, n, h => h
  | k + 1, L, n, h => by
    show KnOk s p parts (mFind s p parts k (mFits s p parts k) L n)
    unfold mFind
    split
    · split
      · exact foldl_ok (fun L n h => mFits_of (mFinds_ok s p parts k) L n h) _ _ h
      · exact h
    · exact h
theorem mFits_ok (s : Safe) (p : Page) (parts : List Part) (k : Nat) (L : Kn) (n : Int) (h : KnOk s p parts L) : KnOk s p parts (mFits s p parts k L n) := mFits_of (mFinds_ok s p parts k) L n h
def FindOk (s : Safe) (p : Page) (parts : List Part) (k : Nat) : Prop := ∀ (n : Int) (h : List (Nat × AX.Obj)) (m r : Nat) (L : Kn), Mw h m r L → KnOk s p parts L →
  ACalls Tryz.prog 63 [wav s p parts r, .int .i64 n, .int .i64 k] ⟨h, m⟩ fun v s' => v = .int .i64 (mFit s p parts k n) ∧ s' = ⟨putAt r (.map (encE (mFinds s p parts k L n))) h, m⟩
def FitsOk (s : Safe) (p : Page) (parts : List Part) (k : Nat) : Prop := ∀ (n : Int) (h : List (Nat × AX.Obj)) (m r : Nat) (L : Kn), Mw h m r L → KnOk s p parts L →
  ACalls Tryz.prog 38 [wav s p parts r, .int .i64 n, .int .i64 k] ⟨h, m⟩ fun v s' => v = .int .i64 (mFit s p parts k n) ∧ s' = ⟨putAt r (.map (encE (mFits s p parts k L n))) h, m⟩
/-- the end of a call that has changed the map alone -/
theorem map_end {f : Nat} {args : List AV} {h : List (Nat × AX.Obj)} {m r : Nat} {es : List (AV × AV)} {u : Int} {L' : Kn} (hr : AX.look r h = some (.map es)) (hrm : r < m)
    (H : ACalls Tryz.prog f args ⟨h, m⟩ fun v s' => v = .int .i64 u ∧ ∀ id, id < m → AX.look id s'.heap = if id = r then some (.map (encE L')) else AX.look id h) :
    ACalls Tryz.prog f args ⟨h, m⟩ fun v s' => v = .int .i64 u ∧ s' = ⟨putAt r (.map (encE L')) h, m⟩ := by
  refine ACalls.fin (H.mono ?_)
  rintro v s' ⟨rfl, h3⟩
  refine ⟨trivial, ⟨putAt r (.map (encE L')) h, m⟩, rfl, put_ex, fun id o hid ho => ?_, rfl, rfl⟩
  have h4 := h3 id hid
  simp only [St.get, look_putAt] at ho ⊢
  by_cases he : r = id
  · subst he
    rw [if_pos rfl, hr] at ho
    simp only [Option.map_some, Option.some.injEq] at ho
    subst ho
    rw [if_pos rfl] at h4
    exact ⟨h4, .inr (cl_encE L' _)⟩
  · rw [if_neg he] at ho
    rw [if_neg (Ne.symm he), ho] at h4
    exact ⟨h4, .inl ho⟩
theorem w_fits {s : Safe} {p : Page} {parts : List Part} {k : Nat} (hfind : FindOk s p parts k) : FitsOk s p parts k := by
  intro n h m r L hM hL
  refine map_end hM.map hM.rm (acalls_W mix (C0_ok _) c38 (by kernel_rfl) (Nat.le_of_ble_eq_true (by kernel_rfl)) ?_)
  rw [mFits_eq]
  unfold mKeep
  have hmap := hM.map
  have hrm := hM.rm
  have hfb := mFit_bd s p parts k n
  have e0 : wav s p parts r = .agg [.ps s.classes.length (cellsL s.classes), .ps s.attrs.length (cellsL s.attrs), .ps p.length (cellsL p), .ps parts.length (cellsL parts), .map r] := rfl
  have m1 : (m = r) = False := eq_false (by omega)
  have m2 : (m + 1 = r) = False := eq_false (by omega)
  have m3 : (m + 1 = m) = False := eq_false (by omega)
  have m4 : (m = m + 1) = False := eq_false (by omega)
  have m5 : (r = m) = False := eq_false (by omega)
  have m6 : (r = m + 1) = False := eq_false (by omega)
  have i1 : (r < m + 1) = True := eq_true (by omega)
  have i2 : (r < m + 1 + 1) = True := eq_true (by omega)
  have i3 : (m < m + 1 + 1) = True := eq_true (by omega)
  have i4 : (m + 1 < m + 1 + 1) = True := eq_true (by omega)
  have w1 : IntKind.i64.wrap (1 + mFit s p parts k n) = 1 + mFit s p parts k n := wrap64 (by omega) (by omega)
  have w2 : IntKind.i64.wrap (1 + mFit s p parts k n - 1) = mFit s p parts k n := by rw [wrap64 (by omega) (by omega)]; omega
  have hfi := hfind n ((m + 1, .cells 0 [.int .i64 n, .int .i64 k] false) :: (m, .cells 0 [.ps s.classes.length (cellsL s.classes), .ps s.attrs.length (cellsL s.attrs), .ps p.length (cellsL p), .ps parts.length (cellsL parts), .map r] false) :: h) (m + 1 + 1) r L ((hM.push _).push _) hL
  rw [e0] at hfi ⊢
  simp -implicitDefEqProofs only [F38, hmap, m1, m2, m3, m4, m5, m6, i1, i2, i3, i4, lkp_enc', go_sem, Nat.reduceAdd, Nat.reduceEqDiff, Nat.reduceLeDiff, ↓reduceIte]
  by_cases h0 : kget L n k = 0
  · have f0 : (kget L n k = 0) = True := eq_true h0
    rw [if_pos h0]
    simp -implicitDefEqProofs only [f0, hmap, m1, m2, m3, m4, m5, m6, i1, i2, i3, i4, lkp_enc', mup_enc', go_sem, Nat.reduceAdd, Nat.reduceEqDiff, Nat.reduceLeDiff, ↓reduceIte]
    have hwf := ((hM.push (.cells 0 [.ps s.classes.length (cellsL s.classes), .ps s.attrs.length (cellsL s.attrs), .ps p.length (cellsL p), .ps parts.length (cellsL parts), .map r] false)).push (.cells 0 [.int .i64 n, .int .i64 k] false)).wf
    refine dcallI_w [r] hfi hwf (Nat.le_refl _) (wf_put hwf) ⟨fun id hid => by simp only [List.mem_singleton] at hid; show id < m + 1 + 1; omega, fun id _ hid => ?_⟩ ?_
    · simp only [List.mem_singleton] at hid
      show AX.look id (putAt r _ _) = _
      rw [look_put_ne (Ne.symm hid)]; rfl
    simp -implicitDefEqProofs only [hmap, m1, m2, m3, m4, m5, m6, i1, i2, i3, i4, lkp_enc', mup_enc', w1, go_sem, Nat.reduceEqDiff, ↓reduceIte]
    generalize mFinds s p parts k L n = L'
    refine andI_intro (by (simp [indepB, indep1, apart1, Nat.testBit_eq_decide_div_mod_eq]; repeat' (first | omega | (intro x hx; omega) | refine And.intro ?_ ?_))) ?_
    have g5 : kget (kset L' n k (1 + mFit s p parts k n)) n k = 1 + mFit s p parts k n := by rw [kget_kset, if_pos ⟨rfl, rfl⟩]
    simp -implicitDefEqProofs only [hmap, m1, m2, m3, m4, m5, m6, i1, i2, i3, i4, lkp_enc', mup_enc', g5, w2, go_sem, Nat.reduceAdd, Nat.reduceEqDiff, Nat.reduceLeDiff, ↓reduceIte]
    intro id hid
    have hm : (m = id) = False := eq_false (by omega)
    have hm' : (m + 1 = id) = False := eq_false (by omega)
    by_cases hr : r = id
    · subst hr; simp [hm, hm', hmap, look_putAt, m5, m2]
    · simp [hm, hm', hr, Ne.symm hr, look_putAt]
  · have f0 : (kget L n k = 0) = False := eq_false h0
    rw [if_neg h0]
    have g1 := (hL n k).resolve_left h0
    have g2 : (1 + mFit s p parts k n = 0) = False := eq_false (by omega)
    simp -implicitDefEqProofs only [g1, g2, hmap, m1, m2, m3, m4, m5, m6, i1, i2, i3, i4, lkp_enc', mup_enc', w2, go_sem, Nat.reduceAdd, Nat.reduceEqDiff, Nat.reduceLeDiff, ↓reduceIte]
    intro id hid
    have hm : (m = id) = False := eq_false (by omega)
    have hm' : (m + 1 = id) = False := eq_false (by omega)
    by_cases hr : r = id
    · subst hr; simp [hmap, hm, hm', m5, m6]
    · simp [hm, hm', Ne.symm hr]
end W14
/- How parts fit: the program's. -/
set_option linter.unusedSimpArgs false
set_option linter.unusedVariables false
namespace W14
open Go Go.AX Go.AX.Ty Go.Proofs

theorem w_Or2 (a b : Int) : PureF Tryz.prog 28 [.ps 2 [.int .i64 a, .int .i64 b]] (.int .i64 (kOr [a, b])) := w_Or [a, b] (by simp)
theorem w_And2 (a b : Int) : PureF Tryz.prog 27 [.ps 2 [.int .i64 a, .int .i64 b]] (.int .i64 (kAnd [a, b])) := w_And [a, b] (by simp)
theorem related_len {p : Page} (hp : PgOk p) (t : TreeP p) {k : Nat} (hk : k < p.length) (c : Int) : (relatedB p k c).length ≤ 1000 := by
  have h1 := above_len t k hk
  have h2 := kin_len hp k
  have h3 : (aheadB p k).length ≤ 1000 := by unfold aheadB; rw [List.length_take]; omega
  have h4 := hp.len
  unfold relatedB
  repeat' split
  all_goals (try rw [List.length_take]); (try rw [List.length_drop]); (try omega)
  all_goals simp
theorem w_find {s : Safe} (hs : Enc.ok s) {p : Page} {parts : List Part} (hp : PgOk p) (t : TreeP p) (hparts : ∀ q ∈ parts, Enc.ok q) (hsz : ∀ q ∈ parts, ∀ x ∈ q.l, siz x ≤ 1000000) (hql : ∀ q ∈ parts, q.l.length ≤ 1000000) (k : Nat) (hk : k < parts.length) (hk1 : k ≤ 1000000)
    (hf : ∀ j, k = j + 1 → FitsOk s p parts j) : FindOk s p parts k := by
  intro n h m r L hM hL
  obtain ⟨q, hq, _, hqm⟩ := get_drop hk
  have hqok := (Part.ok_iff q).1 (hparts q hqm)
  refine map_end hM.map hM.rm (acalls_W mix (C0_ok _) c63 (by kernel_rfl) (Nat.le_of_ble_eq_true (by kernel_rfl)) ?_)
  rw [mFit_step s p parts k n q hq]
  have hmap := hM.map
  have hrm := hM.rm
  have e0 : wav s p parts r = .agg [.ps s.classes.length (cellsL s.classes), .ps s.attrs.length (cellsL s.attrs), .ps p.length (cellsL p), .ps parts.length (cellsL parts), .map r] := rfl
  have m1 : (m = r) = False := eq_false (by omega)
  have m2 : (m + 1 = r) = False := eq_false (by omega)
  have m3 : (m + 1 = m) = False := eq_false (by omega)
  have m4 : (m = m + 1) = False := eq_false (by omega)
  rw [e0]
  have noel : elemB p n = false → mFinds s p parts k L n = L := fun e2 => by
    cases k with
    | zero => rfl
    | succ j => show mFind s p parts j _ L n = L; simp [mFind, hq, e2]
  have nozero : kAnd (q.l.map (mS s p n)) = 0 → mFinds s p parts k L n = L := fun e2 => by
    cases k with
    | zero => rfl
    | succ j => show mFind s p parts j _ L n = L; simp [mFind, hq, e2]
  simp -implicitDefEqProofs only [F63, m1, m2, m3, m4, go_sem, Nat.reduceAdd, Nat.reduceEqDiff, Nat.reduceLeDiff, ↓reduceIte]
  refine callI_pure (w_Element p n) ?_
  cases hel : elemB p n
  · rw [noel hel]
    simp -implicitDefEqProofs only [m1, m2, m3, m4, go_sem, ↓reduceIte]
    intro id hid
    rw [if_neg (by omega)]
    by_cases hr : id = r
    · rw [if_pos hr, hr, hmap]
    · rw [if_neg hr]
  obtain ⟨kn, nd, rfl, hx, hne⟩ := elem_at hel
  have ha := t.at hp (st := []) (by simp) hx hne
  have hsim := w_simples s p parts kn q.l (hql q hqm) (mS s p kn) (fun y hy r => w_simple s hs parts ha _ y (Nat.le_refl _) (hqok.2.2 y hy) (hsz q hqm y hy) r) r
  have hba := kAnd_bd (q.l.map (mS s p kn))
  have hand := w_And (q.l.map (mS s p kn)) (by rw [List.length_map]; have := hql q hqm; omega)
  rw [e0] at hsim
  simp -implicitDefEqProofs only [hq, m1, m2, m3, m4, go_sem, Nat.reduceAdd, Nat.reduceEqDiff, Nat.reduceLeDiff, ↓reduceIte]
  refine callI_st (hsim _ _) ?_
  simp -implicitDefEqProofs only [hq, m1, m2, m3, m4, go_sem, ↓reduceIte]
  refine callI_pure hand ?_
  by_cases hz : kAnd (q.l.map (mS s p kn)) = 0
  · rw [nozero hz, hz]
    have fr : ∀ (o0 o1 : AX.Obj) (id : Nat), id < m → (if m + 1 = id then some o1 else if m = id then some o0 else AX.look id h) = if id = r then some (.map (encE L)) else AX.look id h := fun o0 o1 id hid => by
      rw [if_neg (by omega), if_neg (by omega)]
      by_cases hr : id = r
      · rw [if_pos hr, hr, hmap]
      · rw [if_neg hr]
    have hk0 : kmin 0 (mRest s p parts kn q k) = 0 := by have := mRest_bd s p parts kn q k; unfold kmin; split <;> omega
    rw [hk0]
    cases k with
    | zero =>
      simp -implicitDefEqProofs only [hq, m1, m2, m3, m4, go_sem, Nat.reduceEqDiff, reduceCtorEq, ↓reduceIte]
      exact fr _ _
    | succ j =>
      have z0 : (((j + 1 : Nat) : Int) = 0) = False := eq_false (by omega)
      simp -implicitDefEqProofs only [hq, z0, m1, m2, m3, m4, go_sem, Nat.reduceEqDiff, ↓reduceIte]
      exact fr _ _
  cases k with
  | zero =>
    have fr : ∀ (o0 o1 : AX.Obj) (id : Nat), id < m → (if m + 1 = id then some o1 else if m = id then some o0 else AX.look id h) = if id = r then some (.map (encE L)) else AX.look id h := fun o0 o1 id hid => by
      rw [if_neg (by omega), if_neg (by omega)]
      by_cases hr : id = r
      · rw [if_pos hr, hr, hmap]
      · rw [if_neg hr]
    rw [mRest, kmin_two hba.2]
    simp -implicitDefEqProofs only [hq, m1, m2, m3, m4, go_sem, Nat.reduceEqDiff, reduceCtorEq, ↓reduceIte]
    exact fr _ _
  | succ j =>
    have z0 : (((j + 1 : Nat) : Int) = 0) = False := eq_false (by omega)
    have z1 : (kAnd (q.l.map (mS s p kn)) = 0) = False := eq_false hz
    have wj : IntKind.i64.wrap (((j + 1 : Nat) : Int) - 1) = (j : Int) := by rw [wrap64 (by omega) (by omega)]; omega
    have hfm : mFinds s p parts (j + 1) L kn = (relatedB p kn q.comb).foldl (mFits s p parts j) L := by
      show mFind s p parts j _ L kn = _
      simp [mFind, hq, hel, hz]
    have hrel := w_related s parts r hp t ha q.comb
    have hrl := related_len hp t (getElem_lt hx) q.comb
    rw [e0] at hrel
    rw [hfm, mRest]
    generalize kAnd (q.l.map (mS s p kn)) = A at hba z1
    simp -implicitDefEqProofs only [hq, z0, z1, m1, m2, m3, m4, go_sem, Nat.reduceAdd, Nat.reduceEqDiff, ↓reduceIte]
    refine callI_st (hrel _ _) ?_
    generalize relatedB p kn q.comb = l at hrl
    simp -implicitDefEqProofs only [m1, m2, m3, m4, go_sem, ↓reduceIte]
    refine LoopI_sl (fun q : Nat × Kn => l.length - q.1) (fun q => [(2, .int .i64 ((j + 1 : Nat) : Int)), (3, .ptr m 0 0), (8, .int .i64 A), (9, .int .i64 (kOr ((l.take q.1).map (mFit s p parts j)))), (39, Enc.av l), (40, .int .i64 l.length), (41, .int .i64 q.1)])
      (fun q st => q.1 ≤ l.length ∧ m + 1 ≤ st.next ∧ AX.look m st.heap = some (.cells 0 [.ps s.classes.length (cellsL s.classes), .ps s.attrs.length (cellsL s.attrs), .ps p.length (cellsL p), .ps parts.length (cellsL parts), .map r] false) ∧ Mw st.heap st.next r q.2 ∧ KnOk s p parts q.2 ∧ (∀ id, id < m → id ≠ r → AX.look id st.heap = AX.look id h) ∧
        (l.drop q.1).foldl (mFits s p parts j) q.2 = l.foldl (mFits s p parts j) L) (0, L) ?_ ?_
    · simp -implicitDefEqProofs only [m3, go_sem, Nat.reduceEqDiff, Nat.reduceLeDiff, ↓reduceIte]
      refine ⟨by first | rfl | (simp [kOr]; done) | omega, by omega, ⟨?_, by omega, wf_push (wf_push hM.wf)⟩, hL, fun id hid hr => ?_⟩
      · simp only [AX.look]; rw [if_neg (by omega), if_neg (by omega)]; exact hmap
      · rw [if_neg (by omega), if_neg (by omega)]
    rintro ⟨i, Li⟩ ρ ⟨g, m'⟩ ⟨h1, h2, h3, h4, h5, h6, h7⟩
    dsimp only at h1 h2 h3 h4 h5 h6 h7
    have hob := kOr_bd ((l.take i).map (mFit s p parts j))
    rcases Nat.lt_or_ge i l.length with hi | hi
    · obtain ⟨y, hy, hd, hm⟩ := get_drop hi
      have hlt : ((i : Int) < (l.length : Int)) = True := eq_true (by omega)
      have w1 : IntKind.i64.wrap ((i : Int) + 1) = ((i + 1 : Nat) : Int) := by rw [wrap64 (by omega) (by omega)]; omega
      have hfb := mFit_bd s p parts j y
      have hsn : kOr ((l.take (i + 1)).map (mFit s p parts j)) = kOr [kOr ((l.take i).map (mFit s p parts j)), mFit s p parts j y] := by
        rw [take_snoc hy, List.map_append, List.map_cons, List.map_nil, kOr_snoc, clip_id hfb, kOr_two hob hfb]
      rw [hd, List.foldl_cons] at h7
      have hcall := hf j rfl y g m' r Li h4 h5
      have hrm' := h4.rm
      have hmap' := h4.map
      rw [e0] at hcall
      have p0 : (m' = m) = False := eq_false (by omega)
      have p1 : (m' = r) = False := eq_false (by omega)
      have p2 : (r = m) = False := eq_false (by omega)
      simp -implicitDefEqProofs only [hlt, hy, h3, wj, go_sem, Nat.reduceAdd, Nat.reduceEqDiff, ↓reduceIte]
      refine callI_st hcall ?_
      simp -implicitDefEqProofs only [h3, p0, p1, p2, w1, go_sem, Nat.reduceAdd, Nat.reduceEqDiff, Nat.reduceLeDiff, ↓reduceIte]
      refine callI_pure (w_Or2 _ _) ?_
      simp -implicitDefEqProofs only [h3, p0, p1, p2, w1, go_sem, Nat.reduceEqDiff, Nat.reduceLeDiff, ↓reduceIte]
      refine ⟨(i + 1, mFits s p parts j Li y), by simp only; omega, ⟨by rw [hsn], rfl⟩, by simp only; omega, by omega, ?_⟩
      refine ⟨?_, mFits_ok s p parts j Li y h5, fun id hid hr => ?_, h7⟩
      · refine ⟨?_, by omega, wf_push (wf_put h4.wf)⟩
        (try simp only [AX.look]); rw [if_neg (by omega)]; (try rw [look_putAt]); (try rw [if_pos rfl]); rw [hmap']; rfl
      · (try simp only [AX.look]); rw [if_neg (by omega)]; (try rw [look_put_ne (Ne.symm hr)]); (try rw [if_neg (Ne.symm hr)]); exact h6 id hid hr
    · have hlt : ((i : Int) < (l.length : Int)) = False := eq_false (by omega)
      have hil : l.take i = l := List.take_of_length_le (by omega)
      rw [drop_all hi, List.foldl_nil] at h7
      subst h7
      rw [hil] at hob ⊢
      simp -implicitDefEqProofs only [hlt, h3, go_sem, Nat.reduceAdd, Nat.reduceEqDiff, Nat.reduceLeDiff, ↓reduceIte]
      refine callI_pure (w_And2 _ _) ?_
      simp -implicitDefEqProofs only [go_sem, ↓reduceIte]
      refine ⟨by rw [kAnd_two hba hob], fun id hid => ?_⟩
      rw [if_neg (by omega)]
      by_cases hr : id = r
      · rw [if_pos hr, hr, h4.map]
      · rw [if_neg hr]; exact h6 id hid hr
/-- THE PROGRAM'S ANSWER FOR PARTS -/
theorem w_all {s : Safe} (hs : Enc.ok s) {p : Page} {parts : List Part} (hp : PgOk p) (t : TreeP p) (hparts : ∀ q ∈ parts, Enc.ok q) (hsz : ∀ q ∈ parts, ∀ x ∈ q.l, siz x ≤ 1000000) (hql : ∀ q ∈ parts, q.l.length ≤ 1000000) : ∀ k, k < parts.length → k ≤ 1000000 → FitsOk s p parts k
  | 0 => fun h1 h2 => w_fits (w_find hs hp t hparts hsz hql 0 h1 h2 fun j hj => by omega)
  | k + 1 => fun h1 h2 => w_fits (w_find hs hp t hparts hsz hql (k + 1) h1 h2 fun j hj => by
      have : j = k := by omega
      subst this
      exact w_all hs hp t hparts hsz hql j (by omega) (by omega))
end W14
/- How a selector may fit a node, and any: the program's. -/
set_option linter.unusedSimpArgs false
set_option linter.unusedVariables false
namespace W14
open Go Go.AX Go.AX.Ty Go.Proofs

/-- a selector of little -/
structure SelOk (parts : List Part) : Prop where
  len : parts.length ≤ 1000000
  ok : ∀ q ∈ parts, Enc.ok q
  siz : ∀ q ∈ parts, ∀ x ∈ q.l, W14.siz x ≤ 1000000
  num : ∀ q ∈ parts, q.l.length ≤ 1000000
theorem SelOk.fits {s : Safe} (hs : Enc.ok s) {p : Page} (hp : PgOk p) (t : TreeP p) {parts : List Part} (h : SelOk parts) {k : Nat} (hk : k < parts.length) : FitsOk s p parts k :=
  w_all hs hp t h.ok h.siz h.num k hk (by have := h.len; omega)
theorem elemB_nil (n : Int) : elemB ([] : Page) n = false := by unfold elemB nodeAt; split <;> simp_all
theorem KnOk.nil (s : Safe) (p : Page) (parts : List Part) : KnOk s p parts [] := fun a b => .inl rfl
theorem w_Of (s : Safe) (hs : Enc.ok s) (p : Page) (hp : PgOk p) (n : Int) (c : Complex) (hc : SelOk c.parts) :
    PureF Tryz.prog 14 [Enc.av s, Enc.av p, Enc.av n, Enc.av c] (.int .i64 (ofS s p n c.parts)) := by
  refine pureF_W mix c14 (by kernel_rfl) (by kernel_rfl) (by simp [flats, flat_av, Go.AX.flat]) (by first | exact flat_av _ | simp [flat, flats, flat_av]) ?_
  unfold ofS
  have hpl := hc.len
  rw [Complex.eav]
  generalize hP : c.parts = parts at hc hpl
  have hnw := w_newWorld s p hp (.ps parts.length (cellsL parts))
  simp -implicitDefEqProofs only [F14, go_sem, Nat.reduceAdd, Nat.reduceEqDiff, reduceCtorEq, ↓reduceIte]
  refine callI_st (hnw _ _ (.inr ⟨_, _, rfl⟩)) ?_
  cases ht : treeB p
  · rw [if_neg (by simp)]
    simp -implicitDefEqProofs only [go_sem, Nat.reduceAdd, Nat.reduceEqDiff, Nat.reduceLeDiff, ↓reduceIte]
    refine callI_pure (w_Element [] n) ?_
    rw [elemB_nil]
    simp -implicitDefEqProofs only [go_sem, Nat.reduceAdd, Nat.reduceEqDiff, reduceCtorEq, ↓reduceIte]
  · simp -implicitDefEqProofs only [go_sem, Nat.reduceAdd, Nat.reduceEqDiff, Nat.reduceLeDiff, ↓reduceIte]
    refine callI_pure (w_Element p n) ?_
    cases he : elemB p n
    · rw [if_neg (by simp)]
      simp -implicitDefEqProofs only [go_sem, Nat.reduceAdd, Nat.reduceEqDiff, reduceCtorEq, ↓reduceIte]
    · by_cases hpe : parts = []
      · subst hpe
        rw [if_neg (by simp)]
        simp -implicitDefEqProofs only [go_sem, Nat.reduceAdd, Nat.reduceEqDiff, ↓reduceIte]
      · rw [if_pos ⟨rfl, rfl, hpe⟩]
        have hl0 : 0 < parts.length := List.length_pos_iff.2 hpe
        have z0 : ((parts.length : Int) = 0) = False := eq_false (by omega)
        have w1 : IntKind.i64.wrap ((parts.length : Int) - 1) = ((parts.length - 1 : Nat) : Int) := by rw [wrap64 (by omega) (by omega)]; omega
        simp -implicitDefEqProofs only [z0, w1, go_sem, Nat.reduceAdd, Nat.reduceEqDiff, ↓reduceIte]
        refine callI_stv (by simp [views, view]; rfl) (hc.fits hs hp (treeB_iff.1 ht) (k := parts.length - 1) (by omega) n _ _ 4 [] ⟨by simp [AX.look, encE], by omega, wf_of (by kernel_rfl)⟩ (KnOk.nil s p parts)) ?_
        simp -implicitDefEqProofs only [go_sem, Nat.reduceAdd, Nat.reduceEqDiff, ↓reduceIte]
theorem w_Any (s : Safe) (hs : Enc.ok s) (p : Page) (hp : PgOk p) (c : Complex) (hc : SelOk c.parts) :
    PureF Tryz.prog 16 [Enc.av s, Enc.av p, Enc.av c] (.int .i64 (anyS s p c.parts)) := by
  refine pureF_W mix c16 (by kernel_rfl) (by kernel_rfl) (by simp [flats, flat_av, Go.AX.flat]) (by first | exact flat_av _ | simp [flat, flats, flat_av]) ?_
  unfold anyS
  have hpl := hc.len
  rw [Complex.eav]
  generalize hP : c.parts = parts at hc hpl
  have hnw := w_newWorld s p hp (.ps parts.length (cellsL parts))
  simp -implicitDefEqProofs only [F16, go_sem, Nat.reduceAdd, Nat.reduceEqDiff, reduceCtorEq, ↓reduceIte]
  refine callI_st (hnw _ _ (.inr ⟨_, _, rfl⟩)) ?_
  cases ht : treeB p
  · rw [if_neg (by simp)]
    simp -implicitDefEqProofs only [go_sem, Nat.reduceAdd, Nat.reduceEqDiff, Nat.reduceLeDiff, ↓reduceIte]
    rw [LoopI_def]
    refine ⟨1, ?_⟩
    simp -implicitDefEqProofs only [go_sem, Int.reduceLT, Nat.reduceEqDiff, ↓reduceIte]
  have t := treeB_iff.1 ht
  simp -implicitDefEqProofs only [go_sem, Nat.reduceAdd, Nat.reduceEqDiff, Nat.reduceLeDiff, ↓reduceIte]
  by_cases hpe : parts = []
  · have z0 : ((parts.length : Int) > 0) = False := eq_false (by rw [hpe]; simp)
    refine LoopI_sl (fun k : Nat => p.length - k) (fun k => [(5, .ptr 1 0 0), (7, .ptr 5 0 0), (8, .int .i64 0), (16, Enc.av p), (17, .int .i64 p.length), (18, .int .i64 k)]) (fun k st => k ≤ p.length ∧ AX.look 1 st.heap = some (.cells 0 [.ps parts.length (cellsL parts), .str c.pseudo] false)) 0 ?_ ?_
    · simp -implicitDefEqProofs only [go_sem, Nat.reduceEqDiff, ↓reduceIte]
    rintro k ρ ⟨g, m⟩ ⟨h1, h2⟩
    dsimp only at h2
    rcases Nat.lt_or_ge k p.length with hk | hk
    · have hlt : ((k : Int) < (p.length : Int)) = True := eq_true (by omega)
      have w1 : IntKind.i64.wrap ((k : Int) + 1) = ((k + 1 : Nat) : Int) := by have := hp.len; rw [wrap64 (by omega) (by omega)]; omega
      simp -implicitDefEqProofs only [hlt, h2, w1, z0, go_sem, Nat.reduceAdd, Nat.reduceEqDiff, ↓reduceIte]
      first | exact ⟨k + 1, by omega, rfl, by omega, h2⟩ | exact ⟨k + 1, by omega, rfl, by omega⟩
    · have hlt : ((k : Int) < (p.length : Int)) = False := eq_false (by omega)
      simp -implicitDefEqProofs only [hlt, go_sem, Nat.reduceEqDiff, ↓reduceIte]
      simp [hpe]
  have hl0 : 0 < parts.length := List.length_pos_iff.2 hpe
  have z0 : ((parts.length : Int) > 0) = True := eq_true (by omega)
  have w1 : IntKind.i64.wrap ((parts.length : Int) - 1) = ((parts.length - 1 : Nat) : Int) := by rw [wrap64 (by omega) (by omega)]; omega
  have hfit : FitsOk s p parts (parts.length - 1) := hc.fits hs hp t (by omega)
  generalize hj : parts.length - 1 = j at w1 hfit ⊢
  refine LoopI_sl (fun q : Nat × Kn => p.length - q.1) (fun q => [(5, .ptr 1 0 0), (7, .ptr 5 0 0), (8, .int .i64 (kOr ((rowM s p parts j).take q.1))), (16, Enc.av p), (17, .int .i64 p.length), (18, .int .i64 q.1)])
    (fun q st => q.1 ≤ p.length ∧ 6 ≤ st.next ∧ AX.look 1 st.heap = some (.cells 0 [.ps parts.length (cellsL parts), .str c.pseudo] false) ∧
      AX.look 5 st.heap = some (.cells 0 [.ps s.classes.length (cellsL s.classes), .ps s.attrs.length (cellsL s.attrs), .ps p.length (cellsL p), .ps parts.length (cellsL parts), .map 4] false) ∧ Mw st.heap st.next 4 q.2 ∧ KnOk s p parts q.2) (0, []) ?_ ?_
  · simp -implicitDefEqProofs only [go_sem, Nat.reduceEqDiff, ↓reduceIte]
    refine ⟨by first | rfl | (simp [kOr]; done), ⟨by simp [AX.look, encE], by omega, wf_of (by kernel_rfl)⟩, KnOk.nil s p parts⟩
  rintro ⟨i, Li⟩ ρ ⟨g, m'⟩ ⟨h1, h2, h3, h4, h5, h6⟩
  dsimp only at h1 h2 h3 h4 h5 h6
  have hob := kOr_bd ((rowM s p parts j).take i)
  rcases Nat.lt_or_ge i p.length with hi | hi
  · have hlt : ((i : Int) < (p.length : Int)) = True := eq_true (by omega)
    have wi : IntKind.i64.wrap ((i : Int) + 1) = ((i + 1 : Nat) : Int) := by have := hp.len; rw [wrap64 (by omega) (by omega)]; omega
    have hfb := mFit_bd s p parts j i
    have hsn : kOr ((rowM s p parts j).take (i + 1)) = kOr [kOr ((rowM s p parts j).take i), mFit s p parts j i] := by
      rw [take_snoc (rowM_get hi), kOr_snoc, clip_id hfb, kOr_two hob hfb]
    have hcall := hfit (i : Int) g m' 4 Li h5 h6
    rw [wav] at hcall
    have hmap' := h5.map
    have p0 : (m' = 1) = False := eq_false (by omega)
    have p1 : (m' = 4) = False := eq_false (by omega)
    have p2 : (m' = 5) = False := eq_false (by omega)
    simp -implicitDefEqProofs only [hlt, h3, h4, z0, w1, go_sem, Nat.reduceAdd, Nat.reduceEqDiff, ↓reduceIte]
    refine callI_st hcall ?_
    simp -implicitDefEqProofs only [h3, h4, p0, p1, p2, wi, go_sem, Nat.reduceAdd, Nat.reduceEqDiff, Nat.reduceLeDiff, ↓reduceIte]
    refine callI_pure (w_Or2 _ _) ?_
    simp -implicitDefEqProofs only [h3, h4, p0, p1, p2, wi, go_sem, Nat.reduceEqDiff, Nat.reduceLeDiff, ↓reduceIte]
    refine ⟨(i + 1, mFits s p parts j Li i), by simp only; omega, ⟨by rw [hsn], rfl⟩, by simp only; omega, by omega, ⟨?_, by omega, wf_push (wf_put h5.wf)⟩, mFits_ok s p parts j Li i h6⟩
    (try simp only [AX.look]); rw [if_neg (by omega)]; (try rw [look_putAt]); (try rw [if_pos rfl]); rw [hmap']; rfl
  · have hlt : ((i : Int) < (p.length : Int)) = False := eq_false (by omega)
    have hil : (rowM s p parts j).take i = rowM s p parts j := List.take_of_length_le (by rw [rowM_len]; omega)
    rw [hil]
    simp -implicitDefEqProofs only [hlt, go_sem, Nat.reduceEqDiff, ↓reduceIte]
    simp [hpe]
end W14
/- How a selector may fit a node, and any: the document's. -/
set_option linter.unusedSimpArgs false
set_option linter.unusedVariables false
namespace W14
open Go Go.AX Go.AX.Ty Go.Proofs

end W14
/- How a selector may fit a node, and any: the document's answers. -/
set_option linter.unusedSimpArgs false
set_option linter.unusedVariables false
namespace W14
open Go Go.AX Go.AX.Ty Go.Proofs

end W14
/- Plain laws of the three values: less is known; nothing is Maybe. -/
set_option linter.unusedSimpArgs false
set_option linter.unusedVariables false
namespace W14
open Go Go.AX Go.AX.Ty Go.Proofs


theorem holds11 (p : Page) (st : List Ty.State) (n : Int) (x : Simple) (h : x.kind = 11) : holdsB p st n x = !x.l.any (holdsB p st n) := by
  obtain ⟨kind, name, value, a, b, l⟩ := x
  simp only [Simple.kind] at h
  subst h
  simp [holdsB, holdsAny_eq, Simple.l]
end W14
/- A world of little; MaybeTells. -/
set_option linter.unusedSimpArgs false
set_option linter.unusedVariables false
namespace W14
open Go Go.AX Go.AX.Ty Go.Proofs

theorem siz_in_parts {q : Part} : ∀ {l : List Part}, q ∈ l → sizL q.l ≤ sizN l
  | [], h => by simp at h
  | x :: r, h => by
    simp only [sizN]
    rcases List.mem_cons.1 h with rfl | h
    · omega
    · have := siz_in_parts h; omega
theorem short_in_parts {q : Part} : ∀ {l : List Part}, shortP l → q ∈ l → shortL q.l
  | [], _, h => by simp at h
  | x :: r, hs, h => by
    simp only [shortP] at hs
    rcases List.mem_cons.1 h with rfl | h
    · exact hs.1
    · exact short_in_parts hs.2 h
theorem selOk_of {parts : List Part} (hok : ∀ q ∈ parts, Enc.ok q) (h : parts.length + sizN parts ≤ 30) : SelOk parts := by
  refine ⟨by omega, hok, fun q hq x hx => ?_, fun q hq => ?_⟩
  · have h1 := siz_in_parts hq
    have h2 := siz_memL hx
    omega
  · have h1 := siz_in_parts hq
    have h2 := len_sizL q.l
    omega
/-- little of all -/
structure Small (p : Page) (s : Safe) (parts : List Part) : Prop where
  pg : PgOk p
  cls : ∀ v ∈ s.classes, v.length ≤ 1000000
  sel : SelOk parts
  short : ∀ q ∈ parts, ∀ x ∈ q.l, shortS x
def smallW (p : Page) (s : Safe) (c : Complex) : Bool := smallPg 40 p && (fewS s && smallC 30 [c] 1)
theorem few_cls {s : Safe} (h : fewS s = true) : ∀ v ∈ s.classes, v.length ≤ 1000000 := fun v hv => by
  unfold fewS at h
  simp only [Bool.and_eq_true, decide_eq_true_eq, Bool.not_eq_true', List.any_eq_false] at h
  have := h.2 v (by simp [hv])
  omega
theorem small_ok {p : Page} {s : Safe} {c : Complex} (hp : Enc.ok p) (hc : Enc.ok c) (h : smallW p s c = true) : Small p s c.parts := by
  simp only [smallW, Bool.and_eq_true] at h
  have h1 := (smallC_ok 30 [c] 1 h.2.2).2 c (by simp)
  have hcp := ((Complex.ok_iff c).1 hc).1
  refine ⟨smallPg_ok (by decide) hp h.1, few_cls h.2.1, selOk_of hcp.2 (by omega), fun q hq x hx => shortL_mem (short_in_parts h1.2.1 hq) hx⟩
theorem w_small (w : WorldS) (c : Complex) (hw : Enc.ok w) (hc : Enc.ok c) (hb1 : w.s.classes.length ≤ 1048576) (hb2 : w.s.attrs.length ≤ 1048576) : PureF Tryz.prog 10 [Enc.av w, Enc.av c] (.bool (smallW w.p w.s c)) := by
  have hw' := (WorldS.ok_iff w).1 hw
  have hfew := w_rFew w.s hw'.2 hb1 hb2
  have h4 := w_Small4 30 (by omega) [c] ⟨by simp, by simpa using hc⟩
  rw [Safe.eav] at hfew
  refine pureF_W mix c10 (by kernel_rfl) (by kernel_rfl) (by simp [flats, flat_av, Go.AX.flat]) (by first | exact flat_av _ | simp [flat, flats, flat_av]) ?_
  rw [WorldS.eav]
  simp -implicitDefEqProofs only [F10, go_sem, Nat.reduceAdd, Nat.reduceEqDiff, reduceCtorEq, ↓reduceIte]
  refine callI_pure (w_Small10 40 w.p hw'.1) ?_
  unfold smallW
  cases smallPg 40 w.p
  · simp -implicitDefEqProofs only [go_sem, Nat.reduceEqDiff, ↓reduceIte]
    try rfl
  simp -implicitDefEqProofs only [go_sem, Nat.reduceAdd, Nat.reduceEqDiff, Nat.reduceLeDiff, reduceCtorEq, ↓reduceIte]
  refine callI_pure hfew ?_
  cases fewS w.s
  · simp -implicitDefEqProofs only [go_sem, Nat.reduceEqDiff, ↓reduceIte]
    try rfl
  simp -implicitDefEqProofs only [go_sem, Nat.reduceAdd, Nat.reduceEqDiff, ↓reduceIte]
  refine callI_pure h4 ?_
  simp -implicitDefEqProofs only [go_sem, Nat.reduceEqDiff, ↓reduceIte]
end W14
