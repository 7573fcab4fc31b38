/- The program's answers. -/
import Derived.Test.YtjfknmjdkdcfjaaGreatMtB
import Derived.Test.YtjfknmjdkdcfjaaGreatFxB
set_option linter.unusedSimpArgs false
set_option linter.unusedVariables false
namespace W12
open Go Go.AX Go.AX.Ty Go.Proofs

noncomputable def simpleB (p : Page) (st : List Ty.State) (n : Int) (x : Simple) : Bool := elemB p n && (treeB p && holdsB p st n x)
theorem elem_at {p : Page} {n : Int} (h : elemB p n = true) : ∃ (k : Nat) (x : Ty.Node), n = k ∧ p[k]? = some x ∧ x.name ≠ [] := by
  rcases node_cases p n with ⟨e, _⟩ | ⟨k, x, e1, _, hx, e⟩
  · simp [elemB, e] at h
  · simp only [elemB, e, decide_eq_true_eq] at h
    exact ⟨k, x, e1, hx, h⟩
theorem w_Simple (p : Page) (st : List Ty.State) (hp : PgOk p) (hs : st.length ≤ 100000) (n : Int) (x : Simple) (hx : Enc.ok x) :
    PureF Tryz.prog 11 [Enc.av p, Enc.av st, Enc.av n, Enc.av x] (.bool (simpleB p st n x)) := by
  refine pureF_W mix c11 (by kernel_rfl) (by kernel_rfl) (by simp [flats, flat_av, Go.AX.flat]) (by first | exact flat_av _ | simp [flat, flats, flat_av]) ?_
  rw [Simple.eav]
  simp -implicitDefEqProofs only [F11, go_sem, Nat.reduceEqDiff, reduceCtorEq, ↓reduceIte]
  refine callI_pure (w_Element p n) ?_
  unfold simpleB
  cases he : elemB p n
  · simp -implicitDefEqProofs only [go_sem, Nat.reduceEqDiff, ↓reduceIte]
    rfl
  simp -implicitDefEqProofs only [go_sem, Nat.reduceEqDiff, reduceCtorEq, ↓reduceIte]
  refine callI_pure (w_Tree p hp) ?_
  cases ht : treeB p
  · simp -implicitDefEqProofs only [go_sem, Nat.reduceEqDiff, ↓reduceIte]
    rfl
  simp -implicitDefEqProofs only [go_sem, Nat.reduceAdd, Nat.reduceEqDiff, Nat.reduceLeDiff, reduceCtorEq, ↓reduceIte]
  obtain ⟨k, nd, rfl, hk, hn⟩ := elem_at he
  have hh := w_holds ((treeB_iff.1 ht).at hp hs hk hn) (sizeOf x) x (Nat.le_refl _) hx
  rw [Simple.eav] at hh
  refine callI_pure hh ?_
  simp -implicitDefEqProofs only [go_sem, Nat.reduceEqDiff, ↓reduceIte]
theorem w_rSimple (p : Page) (st : List Ty.State) (hp : PgOk p) (hs : st.length ≤ 100000) (n : Int) (x : Simple) (hx : Enc.ok x) :
    PureF Tryz.prog 12 [Enc.av p, Enc.av st, Enc.av n, Enc.av x] (.bool (simpleB p st n x)) := by
  refine pureF_W mix c12 (by kernel_rfl) (by kernel_rfl) (by simp [flats, flat_av, Go.AX.flat]) (by first | exact flat_av _ | simp [flat, flats, flat_av]) ?_
  rw [Simple.eav]
  simp -implicitDefEqProofs only [F12, go_sem, reduceCtorEq, ↓reduceIte]
  refine callI_pure (w_rTree p hp) ?_
  unfold simpleB
  cases ht : treeB p
  · simp -implicitDefEqProofs only [go_sem, Nat.reduceEqDiff, ↓reduceIte]
    simp
  simp -implicitDefEqProofs only [go_sem, Nat.reduceEqDiff, reduceCtorEq, ↓reduceIte]
  refine callI_pure (w_rElement p n) ?_
  cases he : elemB p n
  · simp -implicitDefEqProofs only [go_sem, Nat.reduceEqDiff, ↓reduceIte]
    rfl
  simp -implicitDefEqProofs only [go_sem, Nat.reduceAdd, Nat.reduceEqDiff, reduceCtorEq, ↓reduceIte]
  obtain ⟨k, nd, rfl, hk, hn⟩ := elem_at he
  have hh := w_rHolds ((treeB_iff.1 ht).at hp hs hk hn) (sizeOf x) x (Nat.le_refl _) hx
  rw [Simple.eav] at hh
  refine callI_pure hh ?_
  simp -implicitDefEqProofs only [go_sem, Nat.reduceEqDiff, ↓reduceIte]

theorem w_of (p : Page) (st : List Ty.State) (c : Complex) (hp : PgOk p) (h : List (Nat × AX.Obj)) (m : Nat) :
    ACalls Tryz.prog 35 [Enc.av p, Enc.av st, Enc.av c] ⟨h, m⟩ fun v s' => v = .ptr (m + 1 + 1) 0 0 ∧
      s' = ⟨(m + 1 + 1, .cells 0 [if treeB p = true then Enc.av p else .nils, Enc.av st, Enc.av c.parts, .map (m + 1)] false) :: (m + 1, .map []) :: (m, .cells 0 [Enc.av c.parts, .str c.pseudo] false) :: h, m + 1 + 1 + 1⟩ := by
  refine acalls_W mix (C0_ok _) c35 (by kernel_rfl) (Nat.le_of_ble_eq_true (by kernel_rfl)) ?_
  have n1 : (m + 1 = m) = False := eq_false (by omega)
  have n2 : (m + 1 + 1 = m) = False := eq_false (by omega)
  simp -implicitDefEqProofs only [F35, n1, n2, go_sem, reduceCtorEq, ↓reduceIte]
  refine callI_pure (w_Tree p hp) ?_
  cases ht : treeB p
  · simp -implicitDefEqProofs only [n1, n2, go_sem, Nat.reduceAdd, Nat.reduceEqDiff, Nat.reduceLeDiff, reduceCtorEq, ↓reduceIte]
  · simp -implicitDefEqProofs only [n1, n2, go_sem, Nat.reduceAdd, Nat.reduceEqDiff, Nat.reduceLeDiff, reduceCtorEq, ↓reduceIte]

/-- does a node fit a selector? -/
noncomputable def isB (p : Page) (st : List Ty.State) (n : Int) (parts : List Part) : Bool := treeB p && (decide (parts ≠ []) && fitsB p st parts (parts.length - 1) n)
theorem fitsB_elem {p : Page} {st : List Ty.State} {parts : List Part} {k : Nat} {n : Int} (h : elemB p n = false) : fitsB p st parts k n = false := by
  cases k <;> simp [fitsB, h]
theorem w_last {p : Page} {st : List Ty.State} {parts : List Part} (hp : PgOk p) (t : TreeP p) (hs : st.length ≤ 100000) (hparts : Enc.ok parts) (n : Int) {h : List (Nat × AX.Obj)} {m b r : Nat} {L : Kn} (M : Mt p st parts h m b r L) (hL : KnLt p st parts L parts.length) :
    ACalls Tryz.prog 36 [.ptr b 0 0, .int .i64 n] ⟨h, m⟩ fun v s' => v = .bool (isB p st n parts) ∧ ∃ L', s' = ⟨putAt r (.map (encE L')) h, m⟩ ∧ KnLt p st parts L' parts.length := by
  refine acalls_W mix (C0_ok _) c36 (by kernel_rfl) (Nat.le_of_ble_eq_true (by kernel_rfl)) ?_
  have hobj := M.obj
  unfold isB
  rw [treeB_true t]
  simp -implicitDefEqProofs only [F36, hobj, go_sem, Nat.reduceAdd, Nat.reduceEqDiff, reduceCtorEq, ↓reduceIte]
  refine callI_pure (w_Element p n) ?_
  cases he : elemB p n
  · simp -implicitDefEqProofs only [hobj, go_sem, Nat.reduceEqDiff, ↓reduceIte]
    exact ⟨by rw [fitsB_elem he]; simp, L, by rw [putAt_same M.map], hL⟩
  cases hpe : parts with
  | nil =>
    subst hpe
    simp -implicitDefEqProofs only [hobj, go_sem, Int.reduceGT, Nat.reduceAdd, Nat.reduceEqDiff, Nat.reduceLeDiff, Nat.reduceSub, reduceCtorEq, ↓reduceIte]
    exact ⟨by simp, L, by rw [putAt_same M.map], hL⟩
  | cons q qs =>
    rw [← hpe]
    have hpos : 0 < parts.length := by rw [hpe]; simp
    have hg : ((parts.length : Int) > 0) = True := eq_true (by omega)
    have hl := hparts.1
    have w1 : IntKind.i64.wrap ((parts.length : Int) - 1) = ((parts.length - 1 : Nat) : Int) := by rw [wrap64 (by omega) (by omega)]; omega
    have hne : parts ≠ [] := by rw [hpe]; simp
    simp -implicitDefEqProofs only [hobj, hg, w1, go_sem, Nat.reduceAdd, Nat.reduceEqDiff, Nat.reduceLeDiff, reduceCtorEq, ↓reduceIte]
    refine callI_st (w_all hp t hs hparts.2 (parts.length - 1) (by omega) (by omega) n h m b r L M (by rw [show parts.length - 1 + 1 = parts.length by omega]; exact hL)) ?_
    simp -implicitDefEqProofs only [hobj, hg, w1, go_sem, Nat.reduceEqDiff, ↓reduceIte]
    have hok := (fitsM_ok p st parts (parts.length - 1) L n (by rw [show parts.length - 1 + 1 = parts.length by omega]; exact hL)).1
    rw [show parts.length - 1 + 1 = parts.length by omega] at hok
    exact ⟨by simp [hne], _, rfl, hok⟩
theorem w_last0 (st : List Ty.State) (parts : List Part) (n : Int) {h : List (Nat × AX.Obj)} {m b r : Nat} (hobj : AX.look b h = some (.cells 0 [.nils, Enc.av st, Enc.av parts, .map r] false)) :
    ACalls Tryz.prog 36 [.ptr b 0 0, .int .i64 n] ⟨h, m⟩ fun v s' => v = .bool false ∧ s' = ⟨h, m⟩ := by
  refine acalls_W mix (C0_ok _) c36 (by kernel_rfl) (Nat.le_of_ble_eq_true (by kernel_rfl)) ?_
  have he : elemB [] n = false := by
    unfold elemB nodeAt
    split
    · rename_i x hx; split at hx <;> simp at hx
    · rfl
  simp -implicitDefEqProofs only [F36, hobj, go_sem, Nat.reduceAdd, Nat.reduceEqDiff, reduceCtorEq, ↓reduceIte]
  refine callI_pure ((w_Element [] n).at (by rw [he])) ?_
  simp -implicitDefEqProofs only [hobj, go_sem, Nat.reduceEqDiff, ↓reduceIte]

theorem knLt_nil (p : Page) (st : List Ty.State) (parts : List Part) (k : Nat) : KnLt p st parts [] k := fun a b hb => .inl rfl
theorem w_Is (p : Page) (st : List Ty.State) (hp : PgOk p) (hs : st.length ≤ 100000) (n : Int) (c : Complex) (hc : Enc.ok c) :
    PureF Tryz.prog 16 [Enc.av p, Enc.av st, Enc.av n, Enc.av c] (.bool (isB p st n c.parts)) := by
  refine pureF_W mix c16 (by kernel_rfl) (by kernel_rfl) (by simp [flats, flat_av, Go.AX.flat]) (by first | exact flat_av _ | simp [flat, flats, flat_av]) ?_
  simp -implicitDefEqProofs only [F16, go_sem, Nat.reduceAdd, Nat.reduceEqDiff, reduceCtorEq, ↓reduceIte]
  refine callI_st (w_of p st c hp _ _) ?_
  cases ht : treeB p
  · have e : isB p st n c.parts = false := by simp [isB, ht]
    rw [e]
    simp -implicitDefEqProofs only [go_sem, Nat.reduceAdd, Nat.reduceEqDiff, ↓reduceIte]
    refine callI_st (w_last0 st c.parts n (b := 3) (r := 2) rfl) ?_
    simp -implicitDefEqProofs only [go_sem, Nat.reduceAdd, ↓reduceIte]
  · have t := treeB_iff.1 ht
    simp -implicitDefEqProofs only [go_sem, Nat.reduceAdd, Nat.reduceEqDiff, ↓reduceIte]
    refine callI_gen ((w_last hp t hs ((Complex.ok_iff c).1 hc).1 n (b := 3) (r := 2) (L := []) ⟨rfl, rfl, by decide, by decide, by decide, wf_of rfl⟩ (knLt_nil _ _ _ _)).mono ?_)
    rintro v s' ⟨rfl, L', rfl, _⟩
    simp -implicitDefEqProofs only [go_sem, Nat.reduceAdd, Nat.reduceEqDiff, ↓reduceIte]

theorem Mt.push {p : Page} {st : List Ty.State} {parts : List Part} {h : List (Nat × AX.Obj)} {m b r : Nat} {L : Kn} (M : Mt p st parts h m b r L) (o : AX.Obj) : Mt p st parts ((m, o) :: h) (m + 1) b r L := by
  have h1 := M.bm
  have h2 := M.rm
  refine ⟨?_, ?_, M.br, by omega, by omega, wf_push M.wf⟩
  · simp only [AX.look]; rw [if_neg (by omega)]; exact M.obj
  · simp only [AX.look]; rw [if_neg (by omega)]; exact M.map
theorem Mt.putO {p : Page} {st : List Ty.State} {parts : List Part} {h : List (Nat × AX.Obj)} {m b r d : Nat} {L : Kn} (M : Mt p st parts h m b r L) (o : AX.Obj) (h1 : d ≠ b) (h2 : d ≠ r) : Mt p st parts (putAt d o h) m b r L :=
  ⟨by rw [look_put_ne h1]; exact M.obj, by rw [look_put_ne h2]; exact M.map, M.br, M.bm, M.rm, wf_put M.wf⟩
def OwnG (lo : Nat) (h : List (Nat × AX.Obj)) (m : Nat) (v : AV) (l : List Int) : Prop := (l = [] ∧ v = .nils) ∨ ∃ b, v = .sl b l.length 0 l.length 1 ∧ b < m ∧ lo ≤ b ∧ AX.look b h = some (.cells l.length (cellsL l) false)
noncomputable def allTo (p : Page) (st : List Ty.State) (parts : List Part) (k : Nat) : List Int := ((List.range k).filter fun n : Nat => isB p st n parts).map fun n : Nat => (n : Int)
noncomputable def allB (p : Page) (st : List Ty.State) (parts : List Part) : List Int := allTo p st parts p.length
theorem allTo_succ (p : Page) (st : List Ty.State) (parts : List Part) (k : Nat) : allTo p st parts (k + 1) = allTo p st parts k ++ (if isB p st k parts = true then [(k : Int)] else []) := by
  unfold allTo
  rw [List.range_succ, List.filter_append, List.map_append]
  congr 1
  by_cases h : isB p st k parts = true <;> simp [h]
theorem allTo_len (p : Page) (st : List Ty.State) (parts : List Part) (k : Nat) : (allTo p st parts k).length ≤ k := by
  unfold allTo
  rw [List.length_map]
  exact Nat.le_trans (List.length_filter_le _ _) (by simp)
theorem w_All (p : Page) (st : List Ty.State) (hp : PgOk p) (hs : st.length ≤ 100000) (c : Complex) (hc : Enc.ok c) :
    PureF Tryz.prog 14 [Enc.av p, Enc.av st, Enc.av c] (Enc.av (allB p st c.parts)) := by
  refine pureF_W mix c14 (by kernel_rfl) (by kernel_rfl) (by simp [flats, flat_av, Go.AX.flat]) (by first | exact flat_av _ | simp [flat, flats, flat_av]) ?_
  have hpl := hp.len
  simp -implicitDefEqProofs only [F14, go_sem, Nat.reduceAdd, Nat.reduceEqDiff, reduceCtorEq, ↓reduceIte]
  refine callI_st (w_of p st c hp _ _) ?_
  cases ht : treeB p
  · have e : allB p st c.parts = [] := by
      unfold allB allTo
      rw [List.filter_eq_nil_iff.2 (fun a _ => by simp [isB, ht])]; rfl
    rw [e]
    simp -implicitDefEqProofs only [go_sem, Nat.reduceAdd, ↓reduceIte]
    rw [LoopI_def]
    refine ⟨1, ?_⟩
    simp -implicitDefEqProofs only [cellsL, go_sem, Int.reduceLT, Nat.reduceEqDiff, ↓reduceIte]
  have t := treeB_iff.1 ht
  simp -implicitDefEqProofs only [go_sem, Nat.reduceAdd, ↓reduceIte]
  refine LoopI_sl (fun q : Nat × AV × Kn => p.length - q.1) (fun q => [(7, q.2.1), (8, .ptr 3 0 0), (19, .int .i64 p.length), (20, .int .i64 q.1)])
    (fun q s => q.1 ≤ p.length ∧ Mt p st c.parts s.heap s.next 3 2 q.2.2 ∧ KnLt p st c.parts q.2.2 c.parts.length ∧ OwnG 4 s.heap s.next q.2.1 (allTo p st c.parts q.1)) (0, .nils, []) ?_ ?_
  · simp -implicitDefEqProofs only [go_sem, Nat.reduceEqDiff, ↓reduceIte]
    exact ⟨⟨rfl, rfl, by decide, by decide, by decide, wf_of rfl⟩, knLt_nil _ _ _ _, .inl ⟨rfl, rfl⟩⟩
  rintro ⟨k, v, L⟩ ρ ⟨g, m⟩ ⟨h1, h2, h3, h4⟩
  dsimp only at h1 h2 h3 h4
  rcases Nat.lt_or_ge k p.length with hk | hk
  · have hlt : ((k : Int) < (p.length : Int)) = True := eq_true (by omega)
    have w1 : IntKind.i64.wrap ((k : Int) + 1) = ((k + 1 : Nat) : Int) := by rw [wrap64 (by omega) (by omega)]; omega
    have hm3 := h2.bm
    simp -implicitDefEqProofs only [hlt, go_sem, Nat.reduceEqDiff, ↓reduceIte]
    refine callI_gen ((w_last hp t hs ((Complex.ok_iff c).1 hc).1 k h2 h3).mono ?_)
    rintro v' s' ⟨rfl, L', rfl, h5⟩
    have hM := h2.put L'
    have hsucc := allTo_succ p st c.parts k
    have hF := allTo_len p st c.parts k
    generalize allTo p st c.parts k = F at h4 hsucc hF
    cases hb : isB p st k c.parts
    · rw [hb, if_neg (by simp), List.append_nil] at hsucc
      simp -implicitDefEqProofs only [w1, go_sem, Nat.reduceEqDiff, ↓reduceIte]
      refine ⟨(k + 1, v, L'), by simp only; omega, ⟨rfl, rfl⟩, by simp only; omega, hM, h5, ?_⟩
      rw [hsucc]
      rcases h4 with h4 | ⟨b, e1, e2, e3, e4⟩
      · exact .inl h4
      · exact .inr ⟨b, e1, e2, e3, by rw [look_put_ne (by omega)]; exact e4⟩
    · rw [hb, if_pos rfl] at hsucc
      have hsn : cellsL (F ++ [(k : Int)]) = cellsL F ++ [.int .i64 k] := by rw [cellsL_append]; rfl
      have hl2 : (F ++ [(k : Int)]).length = F.length + 1 := by simp
      have q1 : (m = 3) = False := eq_false (by omega)
      have q2 : (m + 1 = m) = False := eq_false (by omega)
      rcases h4 with ⟨rfl, rfl⟩ | ⟨b, rfl, hb1, hb2, hb3⟩
      · simp -implicitDefEqProofs only [w1, q1, q2, go_sem, Nat.reduceEqDiff, Nat.reduceLeDiff, reduceCtorEq, ↓reduceIte]
        refine ⟨(k + 1, .sl (m + 1) 1 0 1 1, L'), by simp only; omega, ?_⟩
        refine ⟨⟨rfl, rfl⟩, by simp only; omega, (hM.push _).push _, h5, ?_⟩
        rw [hsucc]
        refine .inr ⟨m + 1, rfl, by omega, by omega, ?_⟩
        simp [AX.look, cellsL, Enc.cells]
      · have b1 : (m = b) = False := eq_false (by omega)
        have b2 : (2 = b) = False := eq_false (by omega)
        have hc1 : (cellsL F).length = F.length := ints_len F
        have ht1 : List.take F.length (cellsL F) = cellsL F := List.take_of_length_le (by omega)
        have hbd : ((F.length + 1) * 8 ≤ 140737488355328) = True := eq_true (by omega)
        simp -implicitDefEqProofs only [w1, q1, q2, hb3, b1, b2, hc1, ht1, hbd, go_sem, Nat.reduceEqDiff, reduceCtorEq, ↓reduceIte]
        refine ⟨(k + 1, .sl b (F.length + 1) 0 (F.length + 1) 1, L'), by simp only; omega, ?_⟩
        refine ⟨⟨rfl, rfl⟩, by simp only; omega, (hM.putO _ (by omega) (by omega)).push _, h5, ?_⟩
        rw [hsucc]
        refine .inr ⟨b, by rw [hl2], by omega, hb2, ?_⟩
        rw [hl2, hsn]
        simp only [AX.look]
        rw [if_neg (by omega), look_put_eq (x := .cells F.length (cellsL F) false) (by rw [look_put_ne (by omega)]; exact hb3)]
  · have hlt : ((k : Int) < (p.length : Int)) = False := eq_false (by omega)
    have hkl : k = p.length := by omega
    subst hkl
    simp -implicitDefEqProofs only [hlt, go_sem, Nat.reduceEqDiff, ↓reduceIte]
    unfold allB
    rcases h4 with ⟨e1, rfl⟩ | ⟨b, rfl, hb1, hb2, hb3⟩
    · rw [e1]; simp [viewIs, view, cellsL]
    · have hc1 := ints_len (allTo p st c.parts p.length)
      rw [viewIs_sl _ hb3 (by omega), Nat.mul_one, List.take_of_length_le (by omega)]
end W12
/- Guards. -/
set_option linter.unusedSimpArgs false
set_option linter.unusedVariables false
namespace W12
open Go Go.AX Go.AX.Ty Go.Proofs

mutual
def siz : Simple → Nat
  | .mk _ _ _ _ _ l => 1 + sizL l
def sizL : List Simple → Nat
  | [] => 0
  | x :: r => siz x + sizL r
end
theorem siz_eq (x : Simple) : siz x = 1 + sizL x.l := by cases x; simp only [siz, Simple.l]
theorem len_sizL : ∀ l : List Simple, l.length ≤ sizL l
  | [] => by simp [sizL]
  | x :: r => by have := len_sizL r; have := siz_eq x; simp only [List.length_cons, sizL]; omega

def badS (n v : Str) : Bool := decide (n.length > 100) || decide (v.length > 100)
mutual
def cu (m : Int) : Simple → Int → Int
  | .mk _ nm v _ _ l, n => if badS nm v then m + 1 else cuL m l (n + 1)
def cuL (m : Int) : List Simple → Int → Int
  | [], n => n
  | x :: r, n => if n ≤ m then cuL m r (cu m x n) else n
end
theorem cu_eq (m : Int) (x : Simple) (n : Int) : cu m x n = if badS x.name x.value then m + 1 else cuL m x.l (n + 1) := by
  cases x; simp only [cu, Simple.name, Simple.value, Simple.l]; rfl
theorem cuL_big (m : Int) : ∀ (l : List Simple) (n : Int), m < n → cuL m l n = n
  | [], n, _ => by simp [cuL]
  | x :: r, n, h => by simp only [cuL]; rw [if_neg (by omega)]
mutual
/-- texts of at most 100 bytes, in all depths -/
def shortS : Simple → Prop
  | .mk _ nm v _ _ l => nm.length ≤ 100 ∧ v.length ≤ 100 ∧ shortL l
def shortL : List Simple → Prop
  | [] => True
  | x :: r => shortS x ∧ shortL r
end
theorem shortS_eq (x : Simple) : shortS x ↔ x.name.length ≤ 100 ∧ x.value.length ≤ 100 ∧ shortL x.l := by cases x; simp only [shortS, Simple.name, Simple.value, Simple.l]
mutual
theorem cu_ok (m : Int) : ∀ (x : Simple) (n : Int), n ≤ m → (n ≤ cu m x n ∧ cu m x n ≤ m + 1) ∧ (cu m x n ≤ m → cu m x n = n + siz x ∧ shortS x)
  | .mk _ nm v _ _ l, n, hn => by
    simp only [cu, siz, shortS]
    by_cases hb : badS nm v = true
    · rw [if_pos hb]; refine ⟨by omega, fun h => by omega⟩
    · rw [if_neg hb]
      simp [badS] at hb
      obtain ⟨h1, h2⟩ := cuL_ok m l (n + 1) (by omega)
      refine ⟨by omega, fun h => ?_⟩
      obtain ⟨h3, h4⟩ := h2 h
      exact ⟨by omega, by omega, by omega, h4⟩
theorem cuL_ok (m : Int) : ∀ (l : List Simple) (n : Int), n ≤ m + 1 → (n ≤ cuL m l n ∧ cuL m l n ≤ m + 1) ∧ (cuL m l n ≤ m → cuL m l n = n + sizL l ∧ shortL l)
  | [], n, hn => by simp [cuL, sizL, shortL]; omega
  | x :: r, n, hn => by
    simp only [cuL, sizL, shortL]
    by_cases h : n ≤ m
    · rw [if_pos h]
      obtain ⟨h1, h2⟩ := cu_ok m x n h
      obtain ⟨h3, h4⟩ := cuL_ok m r (cu m x n) (by omega)
      refine ⟨by omega, fun h' => ?_⟩
      obtain ⟨h5, h6⟩ := h4 h'
      obtain ⟨h7, h8⟩ := h2 (by omega)
      exact ⟨by omega, h8, h6⟩
    · rw [if_neg h]; exact ⟨by omega, fun h' => by omega⟩
end

theorem w_count (m : Int) (hm : 0 ≤ m ∧ m ≤ 1000000) : ∀ (N : Nat) (l : List Simple), sizL l ≤ N → Enc.ok l → ∀ n : Int, 0 ≤ n → n ≤ m + 1 →
    PureF Tryz.prog 40 [Enc.av l, Enc.av n, Enc.av m] (Enc.av (cuL m l n)) := fun N => by
  induction N using Nat.strongRecOn with
  | ind N ih =>
  intro l hN hok n hn0 hn1
  refine pureF_W mix c40 (by kernel_rfl) (by kernel_rfl) (by simp [flats, flat_av, Go.AX.flat]) (by first | exact flat_av _ | simp [flat, flats, flat_av]) ?_
  simp -implicitDefEqProofs only [F40, go_sem]
  refine LoopI_sl (fun p : Nat × Int => l.length - p.1) (fun p => [(0, Enc.av l), (1, .int .i64 p.2), (2, .int .i64 m), (7, .int .i64 p.1)])
    (fun p s => p.1 ≤ l.length ∧ 0 ≤ p.2 ∧ p.2 ≤ m + 1 ∧ cuL m (l.drop p.1) p.2 = cuL m l n ∧ sizL (l.drop p.1) ≤ N) (0, n) ?_ ?_
  · simp -implicitDefEqProofs only [go_sem, Nat.reduceEqDiff, reduceCtorEq, ↓reduceIte]
    (try simp); omega
  rintro ⟨k, q⟩ ρ ⟨hp, nx⟩ ⟨h1, h2, h3, h4, h5⟩
  dsimp only at h1 h2 h3 h4 h5
  rcases Nat.lt_or_ge k l.length with hk | hk
  · obtain ⟨x, hx, hd, hm'⟩ := get_drop hk
    have hlt : ((k : Int) < (l.length : Int)) = True := eq_true (by omega)
    have hox := hok.2 x hm'
    rw [Simple.ok_iff] at hox
    simp only [hd, sizL] at h5
    rw [siz_eq] at h5
    have w1 : IntKind.i64.wrap ((k : Int) + 1) = ((k + 1 : Nat) : Int) := by have := hok.1; rw [wrap64 (by omega) (by omega)]; omega
    have w2 : IntKind.i64.wrap (q + 1) = q + 1 := wrap64 (by omega) (by omega)
    have w3 : IntKind.i64.wrap (m + 1) = m + 1 := wrap64 (by omega) (by omega)
    rcases Int.lt_or_le m q with hq | hq
    · have hT : (q ≤ m) = False := eq_false (by omega)
      rw [cuL_big m _ _ hq] at h4
      simp -implicitDefEqProofs only [hlt, hT, hx, ← h4, go_sem, Nat.reduceEqDiff, reduceCtorEq, ↓reduceIte]
    · have hT : (q ≤ m) = True := eq_true hq
      rw [hd] at h4
      simp only [cuL, if_pos hq, cu_eq] at h4
      have ih' := ih (N - 1) (by omega) x.l (by omega) hox.2.2.2.2.2 (q + 1) (by omega) (by omega)
      have hbd := (cuL_ok m x.l (q + 1) (by omega)).1
      simp -implicitDefEqProofs only [hlt, hT, hx, w1, w2, w3, go_sem, Nat.reduceEqDiff, reduceCtorEq, ↓reduceIte]
      repeat' (first
        | contradiction
        | (refine brI_both (fun h hT => ?_) (fun h hT => ?_) <;> try simp -implicitDefEqProofs only [hT, hx, w1, w2, w3, go_sem, Nat.reduceEqDiff, reduceCtorEq, ↓reduceIte] <;> try clear hT)
        | (refine callI_pure ih' ?_; simp -implicitDefEqProofs only [hx, w1, w2, w3, go_sem, Nat.reduceEqDiff, reduceCtorEq, ↓reduceIte]))
      · rw [if_pos (by simp [badS]; omega), cuL_big m _ _ (by omega)] at h4; rw [h4]
      · rw [if_pos (by simp [badS]; omega), cuL_big m _ _ (by omega)] at h4; rw [h4]
      · rw [if_neg (by simp [badS]; omega)] at h4
        refine ⟨(k + 1, _), by simp only; omega, ⟨rfl, rfl⟩, ?_⟩
        simp only; exact ⟨by omega, by omega, by omega, h4, by omega⟩
  · have hlt : ((k : Int) < (l.length : Int)) = False := eq_false (by omega)
    rw [drop_all hk] at h4
    simp only [cuL] at h4
    simp -implicitDefEqProofs only [hlt, h4, go_sem, Nat.reduceEqDiff, reduceCtorEq, ↓reduceIte]

/-- all of a complex selector's -/
def cuP (m : Int) : List Part → Int → Int
  | [], n => n
  | p :: r, n => if n ≤ m then cuP m r (cuL m p.l n) else n
/-- are there at most so many simple selectors, and parts, of texts of 100 bytes? -/
def smallC (m : Int) : List Complex → Int → Bool
  | [], n => decide (n ≤ m)
  | x :: r, n => if n ≤ m then (if (x.pseudo.length : Int) > 100 then false else smallC m r (cuP m x.parts (n + x.parts.length))) else false
theorem cuP_big (m : Int) : ∀ (l : List Part) (n : Int), m < n → cuP m l n = n
  | [], n, _ => by simp [cuP]
  | x :: r, n, h => by simp only [cuP]; rw [if_neg (by omega)]
theorem cuP_bd (m : Int) : ∀ (l : List Part) (n : Int), n ≤ m + 1 → n ≤ cuP m l n ∧ cuP m l n ≤ m + 1
  | [], n, h => by simp [cuP, h]
  | p :: r, n, h => by
    simp only [cuP]
    split
    · have := (cuL_ok m p.l n h).1
      have := cuP_bd m r (cuL m p.l n) (by omega)
      omega
    · omega
def sizN : List Part → Nat
  | [] => 0
  | p :: r => sizL p.l + sizN r
def shortP : List Part → Prop
  | [] => True
  | p :: r => shortL p.l ∧ shortP r
theorem cuP_ok (m : Int) : ∀ (l : List Part) (n : Int), cuP m l n ≤ m → cuP m l n = n + sizN l ∧ shortP l
  | [], n, h => by simp [cuP, sizN, shortP]
  | p :: r, n, h => by
    simp only [cuP, sizN, shortP] at h ⊢
    by_cases hn : n ≤ m
    · rw [if_pos hn] at h ⊢
      obtain ⟨h1, h2⟩ := cuP_ok m r _ h
      have h3 := (cuL_ok m p.l n (by omega))
      obtain ⟨h4, h5⟩ := h3.2 (by omega)
      exact ⟨by omega, h5, h2⟩
    · rw [if_neg hn] at h; omega
theorem smallC_ok (m : Int) : ∀ (l : List Complex) (n : Int), smallC m l n = true → n ≤ m ∧ ∀ x ∈ l, (n + x.parts.length + sizN x.parts ≤ m ∧ shortP x.parts ∧ x.pseudo.length ≤ 100)
  | [], n, h => by simp [smallC] at h; simp [h]
  | x :: r, n, h => by
    simp only [smallC] at h
    split at h
    · split at h
      · simp at h
      · rename_i h1 h2
        obtain ⟨h3, h4⟩ := smallC_ok m r _ h
        obtain ⟨h5, h6⟩ := cuP_ok m x.parts _ h3
        refine ⟨h1, fun y hy => ?_⟩
        rcases List.mem_cons.1 hy with rfl | hy
        · exact ⟨by omega, h6, by omega⟩
        · obtain ⟨h7, h8, h9⟩ := h4 y hy
          exact ⟨by omega, h8, h9⟩
    · simp at h

theorem w_Small4 (m : Int) (hm : 0 ≤ m ∧ m ≤ 1000000) (l : List Complex) (hok : Enc.ok l) : PureF Tryz.prog 21 [Enc.av l, Enc.av m] (Enc.av (smallC m l l.length)) := by
  refine pureF_W mix c21 (by kernel_rfl) (by kernel_rfl) (by simp [flats, flat_av, Go.AX.flat]) (by first | exact flat_av _ | simp [flat, flats, flat_av]) ?_
  have hlen := hok.1
  simp -implicitDefEqProofs only [F21, go_sem, reduceCtorEq, ↓reduceIte]
  refine LoopI_sl (fun p : Nat × Int => l.length - p.1) (fun p => [(0, Enc.av l), (1, .int .i64 m), (5, .int .i64 p.2), (6, .int .i64 p.1)])
    (fun p s => p.1 ≤ l.length ∧ 0 ≤ p.2 ∧ p.2 ≤ 10000000000000000 ∧ smallC m (l.drop p.1) p.2 = smallC m l l.length) (0, l.length) ?_ ?_
  · simp -implicitDefEqProofs only [go_sem, Nat.reduceEqDiff, reduceCtorEq, ↓reduceIte]
    (try simp); omega
  rintro ⟨k, q⟩ ρ ⟨hp, nx⟩ ⟨h1, h2, h3, h4⟩
  dsimp only at h1 h2 h3 h4
  rcases Nat.lt_or_ge k l.length with hk | hk
  · obtain ⟨x, hx, hd, hm'⟩ := get_drop hk
    have hlt : ((k : Int) < (l.length : Int)) = True := eq_true (by omega)
    have hox := hok.2 x hm'
    have hxl := hox.1.1
    rw [hd] at h4
    have w1 : IntKind.i64.wrap ((k : Int) + 1) = ((k + 1 : Nat) : Int) := by rw [wrap64 (by omega) (by omega)]; omega
    rcases Int.lt_or_le m q with hq | hq
    · have hT : (q ≤ m) = False := eq_false (by omega)
      simp only [smallC, if_neg (show ¬ q ≤ m by omega)] at h4
      simp -implicitDefEqProofs only [hlt, hT, hx, ← h4, decide_false, go_sem, Nat.reduceEqDiff, reduceCtorEq, ↓reduceIte]
    · have hT : (q ≤ m) = True := eq_true hq
      simp only [smallC, if_pos hq] at h4
      have w2 : IntKind.i64.wrap (q + (x.parts.length : Int)) = q + x.parts.length := wrap64 (by omega) (by omega)
      simp -implicitDefEqProofs only [hlt, hT, hx, w2, go_sem, Nat.reduceEqDiff, reduceCtorEq, ↓reduceIte]
      refine LoopI_sl (fun p : Nat × Int => x.parts.length - p.1) (fun p => [(0, Enc.av l), (1, .int .i64 m), (5, .int .i64 p.2), (6, .int .i64 k), (7, .int .i64 p.1)])
        (fun p s => p.1 ≤ x.parts.length ∧ 0 ≤ p.2 ∧ p.2 ≤ 10000000000000000 ∧ cuP m (x.parts.drop p.1) p.2 = cuP m x.parts (q + x.parts.length)) (0, q + x.parts.length) ?_ ?_
      · simp -implicitDefEqProofs only [go_sem, Nat.reduceEqDiff, reduceCtorEq, ↓reduceIte]
        (try simp); omega
      rintro ⟨j, r⟩ ρ ⟨hp, nx⟩ ⟨g1, g2, g3, g4⟩
      dsimp only at g1 g2 g3 g4
      rcases Nat.lt_or_ge j x.parts.length with hj | hj
      · obtain ⟨y, hy, he, hn'⟩ := get_drop hj
        have hoy := hox.1.2 y hn'
        have hlt2 : ((j : Int) < (x.parts.length : Int)) = True := eq_true (by omega)
        rw [he] at g4
        have w3 : IntKind.i64.wrap ((j : Int) + 1) = ((j + 1 : Nat) : Int) := by rw [wrap64 (by omega) (by omega)]; omega
        rcases Int.lt_or_le m r with hr | hr
        · have hT2 : (r ≤ m) = False := eq_false (by omega)
          rw [cuP_big m _ _ hr] at g4
          by_cases hps : (x.pseudo.length : Int) > 100
          · have hP := eq_true hps
            rw [if_pos hps] at h4
            simp -implicitDefEqProofs only [hx, hlt2, hT2, hy, w1, hP, ← h4, go_sem, Nat.reduceEqDiff, reduceCtorEq, ↓reduceIte]
          · have hP := eq_false hps
            rw [if_neg hps] at h4
            simp -implicitDefEqProofs only [hx, hlt2, hT2, hy, w1, hP, go_sem, Nat.reduceEqDiff, reduceCtorEq, ↓reduceIte]
            refine ⟨(k + 1, _), by simp only; omega, ⟨rfl, rfl⟩, ?_⟩
            simp only
            rw [g4]
            exact ⟨by omega, by omega, by omega, h4⟩
        · have hT2 : (r ≤ m) = True := eq_true hr
          have hbd := (cuL_ok m y.l r (by omega)).1
          simp only [cuP, if_pos hr] at g4
          simp -implicitDefEqProofs only [hx, hlt2, hT2, hy, w1, w3, go_sem, Nat.reduceEqDiff, reduceCtorEq, ↓reduceIte]
          refine callI_pure (w_count m hm _ y.l (Nat.le_refl _) hoy.2 r g2 (by omega)) ?_
          simp -implicitDefEqProofs only [hx, w3, go_sem, Nat.reduceEqDiff, reduceCtorEq, ↓reduceIte]
          refine ⟨(j + 1, _), by simp only; omega, ⟨rfl, rfl⟩, ?_⟩
          simp only
          exact ⟨by omega, by omega, by omega, g4⟩
      · have hlt2 : ((j : Int) < (x.parts.length : Int)) = False := eq_false (by omega)
        rw [drop_all hj] at g4
        simp only [cuP] at g4
        by_cases hps : (x.pseudo.length : Int) > 100
        · have hP := eq_true hps
          rw [if_pos hps] at h4
          simp -implicitDefEqProofs only [hx, hlt2, w1, hP, ← h4, go_sem, Nat.reduceEqDiff, reduceCtorEq, ↓reduceIte]
        · have hP := eq_false hps
          rw [if_neg hps] at h4
          simp -implicitDefEqProofs only [hx, hlt2, w1, hP, go_sem, Nat.reduceEqDiff, reduceCtorEq, ↓reduceIte]
          refine ⟨(k + 1, _), by simp only; omega, ⟨rfl, rfl⟩, ?_⟩
          simp only
          rw [g4]
          exact ⟨by omega, by omega, by omega, h4⟩
  · have hlt : ((k : Int) < (l.length : Int)) = False := eq_false (by omega)
    rw [drop_all hk] at h4
    simp only [smallC] at h4
    simp -implicitDefEqProofs only [hlt, ← h4, go_sem, Nat.reduceEqDiff, reduceCtorEq, ↓reduceIte]

def badN (m : Int) (x : Ty.Node) : Bool := decide ((x.name.length : Int) > 100) || (decide ((x.text.length : Int) > 300) || (decide ((x.attrs.length : Int) > 20) || (decide ((x.kids.length : Int) > m) || x.attrs.any fun a => decide ((a.name.length : Int) > 100) || decide ((a.value.length : Int) > 100))))
def smallPg (m : Int) (p : Page) : Bool := decide ((p.length : Int) ≤ m) && !p.any (badN m)
theorem smallPg_ok {m : Int} {p : Page} (hm : m ≤ 1000) (hok : Enc.ok p) (h : smallPg m p = true) : PgOk p := by
  simp only [smallPg, Bool.and_eq_true, decide_eq_true_eq, Bool.not_eq_true', List.any_eq_false] at h
  refine ⟨hok, by omega, fun x hx => ?_, fun x hx a ha => ?_⟩
  · have := h.2 x hx
    simp only [badN, Bool.or_eq_true, decide_eq_true_eq, not_or] at this
    omega
  · have := h.2 x hx
    simp only [badN, Bool.or_eq_true, decide_eq_true_eq, not_or, List.any_eq_true, not_exists, not_and] at this
    have := this.2.2.2.2 a ha
    omega
theorem w_Small10 (m : Int) (p : Page) (hok : Enc.ok p) : PureF Tryz.prog 23 [Enc.av p, Enc.av m] (.bool (smallPg m p)) := by
  refine pureF_W mix c23 (by kernel_rfl) (by kernel_rfl) (by simp [flats, flat_av, Go.AX.flat]) (by first | exact flat_av _ | simp [flat, flats, flat_av]) ?_
  have hlen := hok.1
  unfold smallPg
  by_cases hbig : (p.length : Int) ≤ m
  case neg =>
    have hb : ((p.length : Int) ≤ m) = False := eq_false hbig
    simp -implicitDefEqProofs only [F23, go_sem]
    rw [LoopI_def]
    refine ⟨1, ?_⟩
    by_cases h0 : (0 : Int) < (p.length : Int)
    · simp -implicitDefEqProofs only [hb, h0, go_sem, Nat.reduceEqDiff, reduceCtorEq, ↓reduceIte]
      simp [hbig]
    · simp -implicitDefEqProofs only [hb, h0, go_sem, Nat.reduceEqDiff, reduceCtorEq, ↓reduceIte]
      simp [hbig]
  have hb : ((p.length : Int) ≤ m) = True := eq_true hbig
  simp -implicitDefEqProofs only [F23, go_sem]
  refine LoopI_sl (fun k : Nat => p.length - k) (fun k => [(0, Enc.av p), (1, Enc.av m), (5, .int .i64 k)]) (fun k s => k ≤ p.length ∧ Pre (badN m) p k) 0 ?_ ?_
  · simp -implicitDefEqProofs only [go_sem, Nat.reduceEqDiff, reduceCtorEq, ↓reduceIte]
    exact Pre.zero _ _
  rintro k ρ ⟨g, q⟩ ⟨h1, h2⟩
  rcases Nat.lt_or_ge k p.length with hk | hk
  · obtain ⟨x, hx, hd, hm⟩ := get_drop hk
    have hlt : ((k : Int) < (p.length : Int)) = True := eq_true (by omega)
    have w1 : IntKind.i64.wrap ((k : Int) + 1) = ((k + 1 : Nat) : Int) := by rw [wrap64 (by omega) (by omega)]; omega
    have hbad : badN m x = true → (decide ((p.length : Int) ≤ m) && !p.any (badN m)) = false := fun h => by rw [any_here hm h]; simp
    have hal := ((Node.ok_iff x).1 (hok.2 x hm)).2.1.1
    simp -implicitDefEqProofs only [hlt, hb, hx, go_sem, Nat.reduceAdd, Nat.reduceEqDiff, Nat.reduceLeDiff, reduceCtorEq, ↓reduceIte]
    by_cases b1 : (x.name.length : Int) > 100
    · rw [hbad (by simp [badN, b1])]
      simp -implicitDefEqProofs only [b1, go_sem, Nat.reduceEqDiff, reduceCtorEq, ↓reduceIte]
    by_cases b2 : (x.text.length : Int) > 300
    · rw [hbad (by simp [badN, b2])]
      simp -implicitDefEqProofs only [b1, b2, go_sem, Nat.reduceAdd, Nat.reduceEqDiff, Nat.reduceLeDiff, reduceCtorEq, ↓reduceIte]
    by_cases b3 : (x.attrs.length : Int) > 20
    · rw [hbad (by simp [badN, b3])]
      simp -implicitDefEqProofs only [b1, b2, b3, go_sem, Nat.reduceAdd, Nat.reduceEqDiff, Nat.reduceLeDiff, ↓reduceIte]
    by_cases b4 : (x.kids.length : Int) > m
    · rw [hbad (by simp [badN, b4])]
      simp -implicitDefEqProofs only [b1, b2, b3, b4, go_sem, Nat.reduceAdd, Nat.reduceEqDiff, Nat.reduceLeDiff, reduceCtorEq, ↓reduceIte]
    simp -implicitDefEqProofs only [b1, b2, b3, b4, go_sem, Nat.reduceAdd, Nat.reduceEqDiff, Nat.reduceLeDiff, reduceCtorEq, ↓reduceIte]
    refine LoopI_sl (fun j : Nat => x.attrs.length - j) (fun j => [(0, Enc.av p), (1, Enc.av m), (5, .int .i64 k), (6, .ptr q 0 0), (7, .int .i64 j)])
      (fun j s => j ≤ x.attrs.length ∧ q + 1 ≤ s.next ∧ AX.look q s.heap = some (.cells 0 (Enc.cells x) false) ∧ Pre (fun a : Attr => decide ((a.name.length : Int) > 100) || decide ((a.value.length : Int) > 100)) x.attrs j) 0 ?_ ?_
    · simp -implicitDefEqProofs only [go_sem, Nat.reduceEqDiff, reduceCtorEq, ↓reduceIte]
      exact Pre.zero _ _
    rintro j ρ ⟨g2, q2⟩ ⟨j1, j2, j3, j4⟩
    dsimp only at j2 j3
    rw [Node.ecells] at j3
    rcases Nat.lt_or_ge j x.attrs.length with hj | hj
    · obtain ⟨a, ha, _, ham⟩ := get_drop hj
      have hlt2 : ((j : Int) < (x.attrs.length : Int)) = True := eq_true (by omega)
      have w2 : IntKind.i64.wrap ((j : Int) + 1) = ((j + 1 : Nat) : Int) := by rw [wrap64 (by omega) (by omega)]; omega
      by_cases a1 : (a.name.length : Int) > 100
      · rw [hbad (by simp only [badN]; rw [any_here ham (by simp [a1])]; simp)]
        simp -implicitDefEqProofs only [hlt2, ha, j3, a1, go_sem, Nat.reduceAdd, Nat.reduceEqDiff, Nat.reduceLeDiff, reduceCtorEq, ↓reduceIte]
      by_cases a2 : (a.value.length : Int) > 100
      · rw [hbad (by simp only [badN]; rw [any_here ham (by simp [a2])]; simp)]
        simp -implicitDefEqProofs only [hlt2, ha, j3, a1, a2, go_sem, Nat.reduceAdd, Nat.reduceEqDiff, Nat.reduceLeDiff, reduceCtorEq, ↓reduceIte]
      simp -implicitDefEqProofs only [hlt2, ha, j3, a1, a2, w2, go_sem, Nat.reduceAdd, Nat.reduceEqDiff, Nat.reduceLeDiff, reduceCtorEq, ↓reduceIte]
      refine ⟨j + 1, by omega, ?_⟩
      exact ⟨rfl, by omega, j2, j4.next ha (by simp; omega)⟩
    · have hlt2 : ((j : Int) < (x.attrs.length : Int)) = False := eq_false (by omega)
      simp -implicitDefEqProofs only [hlt2, j3, w1, go_sem, Nat.reduceAdd, Nat.reduceEqDiff, Nat.reduceLeDiff, reduceCtorEq, ↓reduceIte]
      refine ⟨k + 1, by omega, rfl, by omega, h2.next hx ?_⟩
      simp only [badN, Bool.or_eq_false_iff, decide_eq_false_iff_not]
      exact ⟨b1, b2, b3, b4, any_no (j4.all hj)⟩
  · have hlt : ((k : Int) < (p.length : Int)) = False := eq_false (by omega)
    simp -implicitDefEqProofs only [hlt, hb, go_sem, Nat.reduceEqDiff, reduceCtorEq, ↓reduceIte]
    rw [any_no (h2.all hk)]; simp [hbig]

def fewB (st : List Ty.State) : Bool := decide (st.length ≤ 30) && !st.any fun x => decide ((x.name.length : Int) > 100)
theorem w_Few (st : List Ty.State) (hok : Enc.ok st) : PureF Tryz.prog 28 [Enc.av st] (.bool (fewB st)) := by
  refine pureF_W mix c28 (by kernel_rfl) (by kernel_rfl) (by simp [flats, flat_av, Go.AX.flat]) (by first | exact flat_av _ | simp [flat, flats, flat_av]) ?_
  have hlen := hok.1
  unfold fewB
  by_cases hbig : st.length ≤ 30
  case neg =>
    have hb : ((st.length : Int) ≤ 30) = False := eq_false (by omega)
    simp -implicitDefEqProofs only [F28, go_sem]
    rw [LoopI_def]
    refine ⟨1, ?_⟩
    have h0 : ((0 : Int) < (st.length : Int)) = True := eq_true (by omega)
    simp -implicitDefEqProofs only [hb, h0, go_sem, Nat.reduceEqDiff, reduceCtorEq, ↓reduceIte]
    simp [hbig]
  have hb : ((st.length : Int) ≤ 30) = True := eq_true (by omega)
  simp -implicitDefEqProofs only [F28, go_sem]
  refine LoopI_sl (fun k : Nat => st.length - k) (fun k => [(0, Enc.av st), (3, .int .i64 k)]) (fun k s => k ≤ st.length ∧ Pre (fun x : Ty.State => decide ((x.name.length : Int) > 100)) st k) 0 ?_ ?_
  · simp -implicitDefEqProofs only [go_sem, reduceCtorEq, ↓reduceIte]
    exact Pre.zero _ _
  rintro k ρ ⟨g, q⟩ ⟨h1, h2⟩
  rcases Nat.lt_or_ge k st.length with hk | hk
  · obtain ⟨x, hx, hd, hm⟩ := get_drop hk
    have hlt : ((k : Int) < (st.length : Int)) = True := eq_true (by omega)
    have w1 : IntKind.i64.wrap ((k : Int) + 1) = ((k + 1 : Nat) : Int) := by rw [wrap64 (by omega) (by omega)]; omega
    simp -implicitDefEqProofs only [hlt, hb, hx, go_sem, Nat.reduceEqDiff, reduceCtorEq, ↓reduceIte]
    (refine brI_both (fun h hT => ?_) (fun h hT => ?_) <;> try simp -implicitDefEqProofs only [hT, w1, go_sem, Nat.reduceEqDiff, reduceCtorEq, ↓reduceIte] <;> try clear hT)
    · rw [any_here hm (by simpa using h)]; simp
    · exact ⟨k + 1, by omega, rfl, by omega, h2.next hx (by simpa using h)⟩
  · have hlt : ((k : Int) < (st.length : Int)) = False := eq_false (by omega)
    simp -implicitDefEqProofs only [hlt, hb, go_sem, Nat.reduceEqDiff, reduceCtorEq, ↓reduceIte]
    rw [any_no (h2.all hk)]; simp [hbig]

def smallB (p : Page) (st : List Ty.State) (c : Complex) : Bool := smallPg 40 p && (fewB st && smallC 30 [c] 1)
theorem w_small (w : Ty.World) (c : Complex) (hw : Enc.ok w) (hc : Enc.ok c) : PureF Tryz.prog 9 [Enc.av w, Enc.av c] (.bool (smallB w.p w.st c)) := by
  have hw' := (World.ok_iff w).1 hw
  refine pureF_W mix c9 (by kernel_rfl) (by kernel_rfl) (by simp [flats, flat_av, Go.AX.flat]) (by first | exact flat_av _ | simp [flat, flats, flat_av]) ?_
  simp -implicitDefEqProofs only [F9, go_sem, Nat.reduceAdd, Nat.reduceEqDiff, reduceCtorEq, ↓reduceIte]
  refine callI_pure (w_Small10 40 w.p hw'.1) ?_
  unfold smallB
  cases smallPg 40 w.p
  · simp -implicitDefEqProofs only [go_sem, Nat.reduceEqDiff, ↓reduceIte]
    rfl
  simp -implicitDefEqProofs only [go_sem, Nat.reduceAdd, Nat.reduceEqDiff, Nat.reduceLeDiff, reduceCtorEq, ↓reduceIte]
  refine callI_pure (w_Few w.st hw'.2) ?_
  cases fewB w.st
  · simp -implicitDefEqProofs only [go_sem, Nat.reduceEqDiff, ↓reduceIte]
    rfl
  simp -implicitDefEqProofs only [go_sem, Nat.reduceAdd, Nat.reduceEqDiff, ↓reduceIte]
  refine callI_pure (w_Small4 30 (by omega) [c] ⟨by simp, by simpa using hc⟩) ?_
  simp -implicitDefEqProofs only [go_sem, Nat.reduceEqDiff, ↓reduceIte]
end W12
/- The fixed calls: all of them. -/
set_option linter.unusedSimpArgs false
set_option linter.unusedVariables false
namespace W12
open Go Go.AX Go.AX.Ty Go.Proofs

theorem view_page (g : Nat → Option AX.Obj) : view g fxPage = some (fxPage, []) := rfl
theorem ids_page : idsD fxPage = [] := rfl
theorem view_sel0 (g : Nat → Option AX.Obj) : view g fxSel0 = some (fxSel0, []) := rfl
theorem ids_sel0 : idsD fxSel0 = [] := rfl
theorem view_sel1 (g : Nat → Option AX.Obj) : view g fxSel1 = some (fxSel1, []) := rfl
theorem ids_sel1 : idsD fxSel1 = [] := rfl
theorem view_sel2 (g : Nat → Option AX.Obj) : view g fxSel2 = some (fxSel2, []) := rfl
theorem ids_sel2 : idsD fxSel2 = [] := rfl
theorem view_sel3 (g : Nat → Option AX.Obj) : view g fxSel3 = some (fxSel3, []) := rfl
theorem ids_sel3 : idsD fxSel3 = [] := rfl
theorem view_sel4 (g : Nat → Option AX.Obj) : view g fxSel4 = some (fxSel4, []) := rfl
theorem ids_sel4 : idsD fxSel4 = [] := rfl
theorem view_sel5 (g : Nat → Option AX.Obj) : view g fxSel5 = some (fxSel5, []) := rfl
theorem ids_sel5 : idsD fxSel5 = [] := rfl
theorem view_sel6 (g : Nat → Option AX.Obj) : view g fxSel6 = some (fxSel6, []) := rfl
theorem ids_sel6 : idsD fxSel6 = [] := rfl
theorem view_sel7 (g : Nat → Option AX.Obj) : view g fxSel7 = some (fxSel7, []) := rfl
theorem ids_sel7 : idsD fxSel7 = [] := rfl
theorem view_sel8 (g : Nat → Option AX.Obj) : view g fxSel8 = some (fxSel8, []) := rfl
theorem ids_sel8 : idsD fxSel8 = [] := rfl
theorem view_sel9 (g : Nat → Option AX.Obj) : view g fxSel9 = some (fxSel9, []) := rfl
theorem ids_sel9 : idsD fxSel9 = [] := rfl
theorem view_sel10 (g : Nat → Option AX.Obj) : view g fxSel10 = some (fxSel10, []) := rfl
theorem ids_sel10 : idsD fxSel10 = [] := rfl
theorem view_sel11 (g : Nat → Option AX.Obj) : view g fxSel11 = some (fxSel11, []) := rfl
theorem ids_sel11 : idsD fxSel11 = [] := rfl
theorem view_sel12 (g : Nat → Option AX.Obj) : view g fxSel12 = some (fxSel12, []) := rfl
theorem ids_sel12 : idsD fxSel12 = [] := rfl
theorem view_sel13 (g : Nat → Option AX.Obj) : view g fxSel13 = some (fxSel13, []) := rfl
theorem ids_sel13 : idsD fxSel13 = [] := rfl
theorem view_sel14 (g : Nat → Option AX.Obj) : view g fxSel14 = some (fxSel14, []) := rfl
theorem ids_sel14 : idsD fxSel14 = [] := rfl
theorem view_sel15 (g : Nat → Option AX.Obj) : view g fxSel15 = some (fxSel15, []) := rfl
theorem ids_sel15 : idsD fxSel15 = [] := rfl
theorem view_sel16 (g : Nat → Option AX.Obj) : view g fxSel16 = some (fxSel16, []) := rfl
theorem ids_sel16 : idsD fxSel16 = [] := rfl
theorem view_sel17 (g : Nat → Option AX.Obj) : view g fxSel17 = some (fxSel17, []) := rfl
theorem ids_sel17 : idsD fxSel17 = [] := rfl
set_option maxRecDepth 100000 in
theorem w_fixed : PureF Tryz.prog 10 [] (.bool true) := by
  refine pureF_W mix c10 (by kernel_rfl) (by kernel_rfl) rfl rfl ?_
  simp -implicitDefEqProofs only [F10, go_sem]
  refine callI_pure fx_page ?_
  simp -implicitDefEqProofs only [go_sem, Nat.reduceAdd, Nat.reduceEqDiff, Nat.reduceLeDiff, ↓reduceIte]
  rw [LoopI_def]
  refine ⟨17, ?_⟩
  simp -implicitDefEqProofs only [view_page, ids_page, view_sel0, ids_sel0, go_sem, Int.reduceLT, Int.reduceToNat, Nat.reduceAdd, Nat.reduceEqDiff, Nat.reduceLT, ↓reduceIte]
  refine dcallI_pure fx_sel0 ?_
  simp -implicitDefEqProofs only [view_page, ids_page, view_sel0, ids_sel0, go_sem, Nat.reduceAdd, Nat.reduceEqDiff, reduceCtorEq, ↓reduceIte]
  refine dcallI_pure fx_all0 ?_
  simp -implicitDefEqProofs only [view_page, ids_page, view_sel0, ids_sel0, go_sem, Int.reduceToNat, Nat.reduceAdd, Nat.reduceEqDiff, ↓reduceIte]
  refine dcallI_pure ((w_Ints [3, 6] [3, 6] (by decide)).at (v' := .bool true) (by rw [decide_eq_true rfl])) ?_
  simp -implicitDefEqProofs only [view_page, ids_page, view_sel0, ids_sel0, go_sem, ↓reduceIte]
  refine andI_intro (by kernel_rfl) ?_
  simp -implicitDefEqProofs only [view_page, ids_page, view_sel1, ids_sel1, go_sem, Int.reduceAdd, Int.reduceLE, Int.reduceLT, Int.reduceNeg, Int.reduceToNat, Nat.reduceAdd, Nat.reduceEqDiff, Nat.reduceLT, Nat.reduceLeDiff, ↓reduceIte]
  refine dcallI_pure fx_sel1 ?_
  simp -implicitDefEqProofs only [view_page, ids_page, view_sel1, ids_sel1, go_sem, Nat.reduceAdd, Nat.reduceEqDiff, reduceCtorEq, ↓reduceIte]
  refine dcallI_pure fx_all1 ?_
  simp -implicitDefEqProofs only [view_page, ids_page, view_sel1, ids_sel1, go_sem, Int.reduceLE, Int.reduceToNat, Nat.reduceAdd, Nat.reduceEqDiff, Nat.reduceLT, Nat.reduceLeDiff, ↓reduceIte]
  refine dcallI_pure ((w_Ints [3, 6] [3, 6] (by decide)).at (v' := .bool true) (by rw [decide_eq_true rfl])) ?_
  simp -implicitDefEqProofs only [view_page, ids_page, view_sel1, ids_sel1, go_sem, ↓reduceIte]
  refine andI_intro (by kernel_rfl) ?_
  simp -implicitDefEqProofs only [view_page, ids_page, view_sel2, ids_sel2, go_sem, Int.reduceAdd, Int.reduceLE, Int.reduceLT, Int.reduceNeg, Int.reduceToNat, Nat.reduceAdd, Nat.reduceEqDiff, Nat.reduceLT, Nat.reduceLeDiff, ↓reduceIte]
  refine dcallI_pure fx_sel2 ?_
  simp -implicitDefEqProofs only [view_page, ids_page, view_sel2, ids_sel2, go_sem, Nat.reduceAdd, Nat.reduceEqDiff, reduceCtorEq, ↓reduceIte]
  refine dcallI_pure fx_all2 ?_
  simp -implicitDefEqProofs only [view_page, ids_page, view_sel2, ids_sel2, go_sem, Int.reduceLE, Int.reduceToNat, Nat.reduceAdd, Nat.reduceEqDiff, Nat.reduceLT, Nat.reduceLeDiff, ↓reduceIte]
  refine dcallI_pure ((w_Ints [5] [5] (by decide)).at (v' := .bool true) (by rw [decide_eq_true rfl])) ?_
  simp -implicitDefEqProofs only [view_page, ids_page, view_sel2, ids_sel2, go_sem, ↓reduceIte]
  refine andI_intro (by kernel_rfl) ?_
  simp -implicitDefEqProofs only [view_page, ids_page, view_sel3, ids_sel3, go_sem, Int.reduceAdd, Int.reduceLE, Int.reduceLT, Int.reduceNeg, Int.reduceToNat, Nat.reduceAdd, Nat.reduceEqDiff, Nat.reduceLT, Nat.reduceLeDiff, ↓reduceIte]
  refine dcallI_pure fx_sel3 ?_
  simp -implicitDefEqProofs only [view_page, ids_page, view_sel3, ids_sel3, go_sem, Nat.reduceAdd, Nat.reduceEqDiff, reduceCtorEq, ↓reduceIte]
  refine dcallI_pure fx_all3 ?_
  simp -implicitDefEqProofs only [view_page, ids_page, view_sel3, ids_sel3, go_sem, Int.reduceLE, Int.reduceToNat, Nat.reduceAdd, Nat.reduceEqDiff, Nat.reduceLT, Nat.reduceLeDiff, ↓reduceIte]
  refine dcallI_pure ((w_Ints [6] [6] (by decide)).at (v' := .bool true) (by rw [decide_eq_true rfl])) ?_
  simp -implicitDefEqProofs only [view_page, ids_page, view_sel3, ids_sel3, go_sem, ↓reduceIte]
  refine andI_intro (by kernel_rfl) ?_
  simp -implicitDefEqProofs only [view_page, ids_page, view_sel4, ids_sel4, go_sem, Int.reduceAdd, Int.reduceLE, Int.reduceLT, Int.reduceNeg, Int.reduceToNat, Nat.reduceAdd, Nat.reduceEqDiff, Nat.reduceLT, Nat.reduceLeDiff, ↓reduceIte]
  refine dcallI_pure fx_sel4 ?_
  simp -implicitDefEqProofs only [view_page, ids_page, view_sel4, ids_sel4, go_sem, Nat.reduceAdd, Nat.reduceEqDiff, reduceCtorEq, ↓reduceIte]
  refine dcallI_pure fx_all4 ?_
  simp -implicitDefEqProofs only [view_page, ids_page, view_sel4, ids_sel4, go_sem, Int.reduceLE, Int.reduceToNat, Nat.reduceAdd, Nat.reduceEqDiff, Nat.reduceLT, Nat.reduceLeDiff, ↓reduceIte]
  refine dcallI_pure ((w_Ints [3] [3] (by decide)).at (v' := .bool true) (by rw [decide_eq_true rfl])) ?_
  simp -implicitDefEqProofs only [view_page, ids_page, view_sel4, ids_sel4, go_sem, ↓reduceIte]
  refine andI_intro (by kernel_rfl) ?_
  simp -implicitDefEqProofs only [view_page, ids_page, view_sel5, ids_sel5, go_sem, Int.reduceAdd, Int.reduceLE, Int.reduceLT, Int.reduceNeg, Int.reduceToNat, Nat.reduceAdd, Nat.reduceEqDiff, Nat.reduceLT, Nat.reduceLeDiff, ↓reduceIte]
  refine dcallI_pure fx_sel5 ?_
  simp -implicitDefEqProofs only [view_page, ids_page, view_sel5, ids_sel5, go_sem, Nat.reduceAdd, Nat.reduceEqDiff, reduceCtorEq, ↓reduceIte]
  refine dcallI_pure fx_all5 ?_
  simp -implicitDefEqProofs only [view_page, ids_page, view_sel5, ids_sel5, go_sem, Int.reduceLE, Int.reduceToNat, Nat.reduceAdd, Nat.reduceEqDiff, Nat.reduceLT, Nat.reduceLeDiff, ↓reduceIte]
  refine dcallI_pure ((w_Ints [3, 5, 6] [3, 5, 6] (by decide)).at (v' := .bool true) (by rw [decide_eq_true rfl])) ?_
  simp -implicitDefEqProofs only [view_page, ids_page, view_sel5, ids_sel5, go_sem, ↓reduceIte]
  refine andI_intro (by kernel_rfl) ?_
  simp -implicitDefEqProofs only [view_page, ids_page, view_sel6, ids_sel6, go_sem, Int.reduceAdd, Int.reduceLE, Int.reduceLT, Int.reduceNeg, Int.reduceToNat, Nat.reduceAdd, Nat.reduceEqDiff, Nat.reduceLT, Nat.reduceLeDiff, ↓reduceIte]
  refine dcallI_pure fx_sel6 ?_
  simp -implicitDefEqProofs only [view_page, ids_page, view_sel6, ids_sel6, go_sem, Nat.reduceAdd, Nat.reduceEqDiff, reduceCtorEq, ↓reduceIte]
  refine dcallI_pure fx_all6 ?_
  simp -implicitDefEqProofs only [view_page, ids_page, view_sel6, ids_sel6, go_sem, Int.reduceLE, Int.reduceToNat, Nat.reduceAdd, Nat.reduceEqDiff, Nat.reduceLT, Nat.reduceLeDiff, ↓reduceIte]
  refine dcallI_pure ((w_Ints [6] [6] (by decide)).at (v' := .bool true) (by rw [decide_eq_true rfl])) ?_
  simp -implicitDefEqProofs only [view_page, ids_page, view_sel6, ids_sel6, go_sem, ↓reduceIte]
  refine andI_intro (by kernel_rfl) ?_
  simp -implicitDefEqProofs only [view_page, ids_page, view_sel7, ids_sel7, go_sem, Int.reduceAdd, Int.reduceLE, Int.reduceLT, Int.reduceNeg, Int.reduceToNat, Nat.reduceAdd, Nat.reduceEqDiff, Nat.reduceLT, Nat.reduceLeDiff, ↓reduceIte]
  refine dcallI_pure fx_sel7 ?_
  simp -implicitDefEqProofs only [view_page, ids_page, view_sel7, ids_sel7, go_sem, Nat.reduceAdd, Nat.reduceEqDiff, reduceCtorEq, ↓reduceIte]
  refine dcallI_pure fx_all7 ?_
  simp -implicitDefEqProofs only [view_page, ids_page, view_sel7, ids_sel7, go_sem, Int.reduceLE, Int.reduceToNat, Nat.reduceAdd, Nat.reduceEqDiff, Nat.reduceLT, Nat.reduceLeDiff, ↓reduceIte]
  refine dcallI_pure ((w_Ints [6] [6] (by decide)).at (v' := .bool true) (by rw [decide_eq_true rfl])) ?_
  simp -implicitDefEqProofs only [view_page, ids_page, view_sel7, ids_sel7, go_sem, ↓reduceIte]
  refine andI_intro (by kernel_rfl) ?_
  simp -implicitDefEqProofs only [view_page, ids_page, view_sel8, ids_sel8, go_sem, Int.reduceAdd, Int.reduceLE, Int.reduceLT, Int.reduceNeg, Int.reduceToNat, Nat.reduceAdd, Nat.reduceEqDiff, Nat.reduceLT, Nat.reduceLeDiff, ↓reduceIte]
  refine dcallI_pure fx_sel8 ?_
  simp -implicitDefEqProofs only [view_page, ids_page, view_sel8, ids_sel8, go_sem, Nat.reduceAdd, Nat.reduceEqDiff, reduceCtorEq, ↓reduceIte]
  refine dcallI_pure fx_all8 ?_
  simp -implicitDefEqProofs only [view_page, ids_page, view_sel8, ids_sel8, go_sem, Int.reduceLE, Int.reduceToNat, Nat.reduceAdd, Nat.reduceEqDiff, Nat.reduceLT, Nat.reduceLeDiff, ↓reduceIte]
  refine dcallI_pure ((w_Ints [] [] (by decide)).at (v' := .bool true) (by rw [decide_eq_true rfl])) ?_
  simp -implicitDefEqProofs only [view_page, ids_page, view_sel8, ids_sel8, go_sem, ↓reduceIte]
  refine andI_intro (by kernel_rfl) ?_
  simp -implicitDefEqProofs only [view_page, ids_page, view_sel9, ids_sel9, go_sem, Int.reduceAdd, Int.reduceLE, Int.reduceLT, Int.reduceNeg, Int.reduceToNat, Nat.reduceAdd, Nat.reduceEqDiff, Nat.reduceLT, Nat.reduceLeDiff, ↓reduceIte]
  refine dcallI_pure fx_sel9 ?_
  simp -implicitDefEqProofs only [view_page, ids_page, view_sel9, ids_sel9, go_sem, Nat.reduceAdd, Nat.reduceEqDiff, reduceCtorEq, ↓reduceIte]
  refine dcallI_pure fx_all9 ?_
  simp -implicitDefEqProofs only [view_page, ids_page, view_sel9, ids_sel9, go_sem, Int.reduceLE, Int.reduceToNat, Nat.reduceAdd, Nat.reduceEqDiff, Nat.reduceLT, Nat.reduceLeDiff, ↓reduceIte]
  refine dcallI_pure ((w_Ints [6] [6] (by decide)).at (v' := .bool true) (by rw [decide_eq_true rfl])) ?_
  simp -implicitDefEqProofs only [view_page, ids_page, view_sel9, ids_sel9, go_sem, ↓reduceIte]
  refine andI_intro (by kernel_rfl) ?_
  simp -implicitDefEqProofs only [view_page, ids_page, view_sel10, ids_sel10, go_sem, Int.reduceAdd, Int.reduceLE, Int.reduceLT, Int.reduceNeg, Int.reduceToNat, Nat.reduceAdd, Nat.reduceEqDiff, Nat.reduceLT, Nat.reduceLeDiff, ↓reduceIte]
  refine dcallI_pure fx_sel10 ?_
  simp -implicitDefEqProofs only [view_page, ids_page, view_sel10, ids_sel10, go_sem, Nat.reduceAdd, Nat.reduceEqDiff, reduceCtorEq, ↓reduceIte]
  refine dcallI_pure fx_all10 ?_
  simp -implicitDefEqProofs only [view_page, ids_page, view_sel10, ids_sel10, go_sem, Int.reduceLE, Int.reduceToNat, Nat.reduceAdd, Nat.reduceEqDiff, Nat.reduceLT, Nat.reduceLeDiff, ↓reduceIte]
  refine dcallI_pure ((w_Ints [3, 6] [3, 6] (by decide)).at (v' := .bool true) (by rw [decide_eq_true rfl])) ?_
  simp -implicitDefEqProofs only [view_page, ids_page, view_sel10, ids_sel10, go_sem, ↓reduceIte]
  refine andI_intro (by kernel_rfl) ?_
  simp -implicitDefEqProofs only [view_page, ids_page, view_sel11, ids_sel11, go_sem, Int.reduceAdd, Int.reduceLE, Int.reduceLT, Int.reduceNeg, Int.reduceToNat, Nat.reduceAdd, Nat.reduceEqDiff, Nat.reduceLT, Nat.reduceLeDiff, ↓reduceIte]
  refine dcallI_pure fx_sel11 ?_
  simp -implicitDefEqProofs only [view_page, ids_page, view_sel11, ids_sel11, go_sem, Nat.reduceAdd, Nat.reduceEqDiff, reduceCtorEq, ↓reduceIte]
  refine dcallI_pure fx_all11 ?_
  simp -implicitDefEqProofs only [view_page, ids_page, view_sel11, ids_sel11, go_sem, Int.reduceLE, Int.reduceToNat, Nat.reduceAdd, Nat.reduceEqDiff, Nat.reduceLT, Nat.reduceLeDiff, ↓reduceIte]
  refine dcallI_pure ((w_Ints [1] [1] (by decide)).at (v' := .bool true) (by rw [decide_eq_true rfl])) ?_
  simp -implicitDefEqProofs only [view_page, ids_page, view_sel11, ids_sel11, go_sem, ↓reduceIte]
  refine andI_intro (by kernel_rfl) ?_
  simp -implicitDefEqProofs only [view_page, ids_page, view_sel12, ids_sel12, go_sem, Int.reduceAdd, Int.reduceLE, Int.reduceLT, Int.reduceNeg, Int.reduceToNat, Nat.reduceAdd, Nat.reduceEqDiff, Nat.reduceLT, Nat.reduceLeDiff, ↓reduceIte]
  refine dcallI_pure fx_sel12 ?_
  simp -implicitDefEqProofs only [view_page, ids_page, view_sel12, ids_sel12, go_sem, Nat.reduceAdd, Nat.reduceEqDiff, reduceCtorEq, ↓reduceIte]
  refine dcallI_pure fx_all12 ?_
  simp -implicitDefEqProofs only [view_page, ids_page, view_sel12, ids_sel12, go_sem, Int.reduceLE, Int.reduceToNat, Nat.reduceAdd, Nat.reduceEqDiff, Nat.reduceLT, Nat.reduceLeDiff, ↓reduceIte]
  refine dcallI_pure ((w_Ints [3, 5, 6] [3, 5, 6] (by decide)).at (v' := .bool true) (by rw [decide_eq_true rfl])) ?_
  simp -implicitDefEqProofs only [view_page, ids_page, view_sel12, ids_sel12, go_sem, ↓reduceIte]
  refine andI_intro (by kernel_rfl) ?_
  simp -implicitDefEqProofs only [view_page, ids_page, view_sel13, ids_sel13, go_sem, Int.reduceAdd, Int.reduceLE, Int.reduceLT, Int.reduceNeg, Int.reduceToNat, Nat.reduceAdd, Nat.reduceEqDiff, Nat.reduceLT, Nat.reduceLeDiff, ↓reduceIte]
  refine dcallI_pure fx_sel13 ?_
  simp -implicitDefEqProofs only [view_page, ids_page, view_sel13, ids_sel13, go_sem, Nat.reduceAdd, Nat.reduceEqDiff, reduceCtorEq, ↓reduceIte]
  refine dcallI_pure fx_all13 ?_
  simp -implicitDefEqProofs only [view_page, ids_page, view_sel13, ids_sel13, go_sem, Int.reduceLE, Int.reduceToNat, Nat.reduceAdd, Nat.reduceEqDiff, Nat.reduceLT, Nat.reduceLeDiff, ↓reduceIte]
  refine dcallI_pure ((w_Ints [1, 2, 5] [1, 2, 5] (by decide)).at (v' := .bool true) (by rw [decide_eq_true rfl])) ?_
  simp -implicitDefEqProofs only [view_page, ids_page, view_sel13, ids_sel13, go_sem, ↓reduceIte]
  refine andI_intro (by kernel_rfl) ?_
  simp -implicitDefEqProofs only [view_page, ids_page, view_sel14, ids_sel14, go_sem, Int.reduceAdd, Int.reduceLE, Int.reduceLT, Int.reduceNeg, Int.reduceToNat, Nat.reduceAdd, Nat.reduceEqDiff, Nat.reduceLT, Nat.reduceLeDiff, ↓reduceIte]
  refine dcallI_pure fx_sel14 ?_
  simp -implicitDefEqProofs only [view_page, ids_page, view_sel14, ids_sel14, go_sem, Nat.reduceAdd, Nat.reduceEqDiff, reduceCtorEq, ↓reduceIte]
  refine dcallI_pure fx_all14 ?_
  simp -implicitDefEqProofs only [view_page, ids_page, view_sel14, ids_sel14, go_sem, Int.reduceLE, Int.reduceToNat, Nat.reduceAdd, Nat.reduceEqDiff, Nat.reduceLT, Nat.reduceLeDiff, ↓reduceIte]
  refine dcallI_pure ((w_Ints [3] [3] (by decide)).at (v' := .bool true) (by rw [decide_eq_true rfl])) ?_
  simp -implicitDefEqProofs only [view_page, ids_page, view_sel14, ids_sel14, go_sem, ↓reduceIte]
  refine andI_intro (by kernel_rfl) ?_
  simp -implicitDefEqProofs only [view_page, ids_page, view_sel15, ids_sel15, go_sem, Int.reduceAdd, Int.reduceLE, Int.reduceLT, Int.reduceNeg, Int.reduceToNat, Nat.reduceAdd, Nat.reduceEqDiff, Nat.reduceLT, Nat.reduceLeDiff, ↓reduceIte]
  refine dcallI_pure fx_sel15 ?_
  simp -implicitDefEqProofs only [view_page, ids_page, view_sel15, ids_sel15, go_sem, Nat.reduceAdd, Nat.reduceEqDiff, reduceCtorEq, ↓reduceIte]
  refine dcallI_pure fx_all15 ?_
  simp -implicitDefEqProofs only [view_page, ids_page, view_sel15, ids_sel15, go_sem, Int.reduceLE, Int.reduceToNat, Nat.reduceAdd, Nat.reduceEqDiff, Nat.reduceLeDiff, ↓reduceIte]
  refine dcallI_pure ((w_Ints [] [] (by decide)).at (v' := .bool true) (by rw [decide_eq_true rfl])) ?_
  simp -implicitDefEqProofs only [view_page, ids_page, view_sel15, ids_sel15, go_sem, ↓reduceIte]
  refine andI_intro (by kernel_rfl) ?_
  simp -implicitDefEqProofs only [view_page, ids_page, view_sel16, ids_sel16, view_sel17, ids_sel17, go_sem, Int.reduceAdd, Int.reduceLE, Int.reduceLT, Int.reduceNeg, Nat.reduceEqDiff, ↓reduceIte]
  refine callI_pure fx_sel16 ?_
  simp -implicitDefEqProofs only [view_page, ids_page, view_sel16, ids_sel16, view_sel17, ids_sel17, go_sem, Nat.reduceAdd, Nat.reduceEqDiff, reduceCtorEq, ↓reduceIte]
  refine callI_pure fx_is16 ?_
  simp -implicitDefEqProofs only [view_page, ids_page, view_sel16, ids_sel16, view_sel17, ids_sel17, go_sem, Nat.reduceEqDiff, ↓reduceIte]
  refine callI_pure fx_sel17 ?_
  simp -implicitDefEqProofs only [view_page, ids_page, view_sel16, ids_sel16, view_sel17, ids_sel17, go_sem, Nat.reduceAdd, Nat.reduceEqDiff, reduceCtorEq, ↓reduceIte]
  refine callI_pure fx_is17 ?_
  simp -implicitDefEqProofs only [view_page, ids_page, view_sel16, ids_sel16, view_sel17, ids_sel17, go_sem, Nat.reduceAdd, Nat.reduceEqDiff, Nat.reduceLeDiff, reduceCtorEq, ↓reduceIte]
  refine callI_pure fx_simple1 ?_
  simp -implicitDefEqProofs only [view_page, ids_page, view_sel16, ids_sel16, view_sel17, ids_sel17, go_sem, Nat.reduceAdd, Nat.reduceEqDiff, Nat.reduceLeDiff, reduceCtorEq, ↓reduceIte]
  refine callI_pure fx_simple2 ?_
  simp -implicitDefEqProofs only [view_page, ids_page, view_sel16, ids_sel16, view_sel17, ids_sel17, go_sem, Nat.reduceAdd, Nat.reduceEqDiff, reduceCtorEq, ↓reduceIte]
  refine callI_pure fx_allE ?_
  simp -implicitDefEqProofs only [view_page, ids_page, view_sel16, ids_sel16, view_sel17, ids_sel17, go_sem, Nat.reduceEqDiff, ↓reduceIte]
  refine callI_pure fx_sel17 ?_
  simp -implicitDefEqProofs only [view_page, ids_page, view_sel16, ids_sel16, view_sel17, ids_sel17, go_sem, Nat.reduceEqDiff, ↓reduceIte]
  refine callI_pure fx_allN ?_
  simp -implicitDefEqProofs only [view_page, ids_page, view_sel16, ids_sel16, view_sel17, ids_sel17, go_sem, Nat.reduceEqDiff, ↓reduceIte]
end W12
