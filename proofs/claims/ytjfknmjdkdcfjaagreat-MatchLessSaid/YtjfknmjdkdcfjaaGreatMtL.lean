/- MatchLess. -/
import Derived.Test.YtjfknmjdkdcfjaaGreatMtC
set_option linter.unusedSimpArgs false
set_option linter.unusedVariables false
namespace W12
open Go Go.AX Go.AX.Ty Go.Proofs

theorem small_pg {w : Ty.World} {c : Complex} (hw : Enc.ok w) (h : smallB w.p w.st c = true) : PgOk w.p ∧ w.st.length ≤ 100000 := by
  simp only [smallB, Bool.and_eq_true] at h
  have hw' := (World.ok_iff w).1 hw
  refine ⟨smallPg_ok (by decide) hw'.1 h.1, ?_⟩
  have := h.2.1
  simp only [fewB, Bool.and_eq_true, decide_eq_true_eq] at this
  omega

theorem nil_ok : Enc.ok ([] : Str) := by show (0 : Nat) ≤ _; omega
theorem int_ok {k : Int} (h : 0 ≤ k ∧ k ≤ 1000) : Enc.ok k := by show -9223372036854775808 ≤ k ∧ k ≤ 9223372036854775807; omega
abbrev sEmpty : Simple := .mk 10 [] [] 0 0 []
abbrev sNot (l : List Simple) : Simple := .mk 11 [] [] 0 0 l
theorem isB_bd {p : Page} {st : List Ty.State} {n : Int} {parts : List Part} (h : isB p st n parts = true) : ∃ k : Nat, n = k ∧ k < p.length := by
  simp only [isB, Bool.and_eq_true] at h
  have he : elemB p n = true := by
    cases he : elemB p n
    · rw [fitsB_elem he] at h; simp at h
    · rfl
  obtain ⟨k, x, e, hx, _⟩ := elem_at he
  exact ⟨k, e, getElem_lt hx⟩
theorem all_any {p : Page} {st : List Ty.State} {n : Int} {parts : List Part} : ((allB p st parts).any fun x => x == n) = isB p st n parts := by
  rw [Bool.eq_iff_iff, List.any_eq_true]
  constructor
  · rintro ⟨x, hx, hxn⟩
    simp only [beq_iff_eq] at hxn
    subst hxn
    simp only [allB, allTo, List.mem_map, List.mem_filter] at hx
    obtain ⟨k, ⟨_, h2⟩, rfl⟩ := hx
    exact h2
  · intro h
    obtain ⟨k, rfl, hk⟩ := isB_bd h
    refine ⟨k, ?_, by simp⟩
    simp only [allB, allTo, List.mem_map, List.mem_filter, List.mem_range]
    exact ⟨k, ⟨hk, h⟩, rfl⟩
theorem allB_len (p : Page) (st : List Ty.State) (parts : List Part) : (allB p st parts).length ≤ p.length := allTo_len p st parts p.length
/-- combinators that let more through -/
def wideC (c : Int) : Int := if c = 2 then 1 else if c = 3 then 4 else c
def wideP (q : Part) : Part := ⟨wideC q.comb, q.l⟩
/-- the last part asks for one more -/
def moreL (x : Simple) : List Part → List Part
  | [] => []
  | [q] => [⟨q.comb, q.l ++ [x]⟩]
  | q :: r => q :: moreL x r
theorem wide_related {p : Page} (t : TreeP p) {k : Nat} {nd : Ty.Node} (hx : p[k]? = some nd) (hn : nd.name ≠ []) (c : Int) {a : Int} (h : a ∈ relatedB p k c) : a ∈ relatedB p k (wideC c) := by
  unfold wideC
  by_cases c2 : c = 2
  · rw [if_pos c2]
    subst c2
    have h1 : a ∈ (aboveB p k).take 1 := h
    exact List.mem_of_mem_take h1
  · rw [if_neg c2]
    by_cases c3 : c = 3
    · rw [if_pos c3]
      subst c3
      have h1 : a ∈ (aheadB p k).drop ((aheadB p k).length - 1) := h
      exact List.mem_of_mem_drop h1
    · rw [if_neg c3]; exact h
theorem wide_fits {p : Page} (t : TreeP p) (st : List Ty.State) (parts : List Part) : ∀ (k : Nat) (n : Int), fitsB p st parts k n = true → fitsB p st (parts.map wideP) k n = true
  | 0, n, h => by
    simp only [fitsB, Bool.and_eq_true] at h ⊢
    refine ⟨h.1, ?_⟩
    have h2 := h.2
    rw [List.getElem?_map]
    cases hq : parts[0]? with
    | none => rw [hq] at h2; simp at h2
    | some q => rw [hq] at h2; exact h2
  | k + 1, n, h => by
    simp only [fitsB, Bool.and_eq_true] at h ⊢
    refine ⟨h.1, ?_⟩
    obtain ⟨kn, nd, rfl, hx, hn⟩ := elem_at h.1
    have h2 := h.2
    rw [List.getElem?_map]
    cases hq : parts[k + 1]? with
    | none => rw [hq] at h2; simp at h2
    | some q =>
      rw [hq] at h2
      simp only [Bool.and_eq_true, Option.map_some] at h2 ⊢
      refine ⟨h2.1, ?_⟩
      obtain ⟨a, ha, hf⟩ := List.any_eq_true.1 h2.2
      exact List.any_eq_true.2 ⟨a, wide_related t hx hn q.comb ha, wide_fits t st parts k a hf⟩
theorem moreL_len (x : Simple) : ∀ l : List Part, (moreL x l).length = l.length
  | [] => rfl
  | [_] => rfl
  | q :: r :: s => by simp only [moreL, List.length_cons]; rw [moreL_len x (r :: s)]; rfl
theorem moreL_get (x : Simple) : ∀ (l : List Part) (i : Nat) (q : Part), l[i]? = some q → (moreL x l)[i]? = some (if i + 1 = l.length then ⟨q.comb, q.l ++ [x]⟩ else q)
  | [], i, q, h => by simp at h
  | [a], i, q, h => by
    cases i with
    | zero => simp at h; subst h; simp [moreL]
    | succ i => simp at h
  | a :: b :: s, i, q, h => by
    cases i with
    | zero => simp at h; subst h; simp [moreL]
    | succ i =>
      simp only [List.getElem?_cons_succ] at h
      have := moreL_get x (b :: s) i q h
      simp only [moreL, List.getElem?_cons_succ, List.length_cons] at this ⊢
      rw [this]
      simp
theorem more_fits (p : Page) (st : List Ty.State) (parts : List Part) (x : Simple) : ∀ (k : Nat) (n : Int), k < parts.length → fitsB p st (moreL x parts) k n = (fitsB p st parts k n && (if k + 1 = parts.length then holdsB p st n x else true)) := fun k => by
  induction k with
  | zero =>
    intro n hk
    have hq : parts[0]? = some parts[0] := by simp [hk]
    simp only [fitsB, moreL_get x parts 0 _ hq, hq]
    split
    · simp [List.all_append, Bool.and_assoc]
    · simp
  | succ k ih =>
    intro n hk
    have hq : parts[k + 1]? = some parts[k + 1] := by simp [hk]
    have e : fitsB p st (moreL x parts) k = fitsB p st parts k := by
      funext a
      rw [ih a (by omega), if_neg (by omega), Bool.and_true]
    simp only [fitsB, moreL_get x parts (k + 1) _ hq, hq, e]
    split
    · simp only [List.all_append, List.all_cons, List.all_nil, Bool.and_true]
      cases elemB p n <;> simp [Bool.and_assoc, Bool.and_comm, Bool.and_left_comm]
    · simp

theorem all_more {p : Page} (st : List Ty.State) (parts : List Part) (hne : parts ≠ []) (x : Simple) (n : Int) : isB p st n (moreL x parts) = (isB p st n parts && holdsB p st n x) := by
  have hl : 0 < parts.length := List.length_pos_iff.2 hne
  have hm : moreL x parts ≠ [] := by intro h; have := moreL_len x parts; rw [h] at this; simp at this; omega
  simp only [isB, moreL_len, decide_eq_true hne, decide_eq_true hm, more_fits p st parts x (parts.length - 1) n (by omega), if_pos (show parts.length - 1 + 1 = parts.length by omega)]
  cases treeB p <;> simp
theorem all_wide {p : Page} (st : List Ty.State) (parts : List Part) (n : Int) (h : isB p st n parts = true) : isB p st n (parts.map wideP) = true := by
  simp only [isB, Bool.and_eq_true, decide_eq_true_eq] at h ⊢
  obtain ⟨h1, h2, h3⟩ := h
  refine ⟨h1, by simpa using h2, ?_⟩
  rw [List.length_map]
  exact wide_fits (treeB_iff.1 h1) st parts _ n h3

theorem small4_one (x : Simple) (hx : Enc.ok x) : Enc.ok [Complex.mk [Part.mk 0 [x]] []] := ⟨by simp, fun c hc => by
  simp only [List.mem_singleton] at hc
  subst hc
  exact (Complex.ok_iff _).2 ⟨⟨by show (1 : Nat) ≤ _; omega, fun q hq => by
    simp [Complex.parts] at hq
    subst hq
    exact (Part.ok_iff _).2 ⟨int_ok (k := 0) (by omega), ⟨by show (1 : Nat) ≤ _; omega, by simpa [Part.l] using hx⟩⟩⟩, nil_ok⟩⟩

theorem take_snoc {α : Type} {l : List α} {k : Nat} {y : α} (h : l[k]? = some y) : l.take (k + 1) = l.take k ++ [y] := by
  rw [List.take_add_one, h]; rfl
theorem sizN_mem : ∀ (l : List Part) (q : Part), q ∈ l → sizL q.l ≤ sizN l
  | [], q, h => by simp at h
  | a :: r, q, h => by
    simp only [sizN]
    rcases List.mem_cons.1 h with rfl | h
    · omega
    · have := sizN_mem r q h; omega
theorem small_l {w : Ty.World} {c : Complex} {q : Part} (h : smallB w.p w.st c = true) (hq : q ∈ c.parts) : q.l.length ≤ 1000 := by
  simp only [smallB, Bool.and_eq_true] at h
  have := (smallC_ok 30 [c] 1 h.2.2).2 c (by simp)
  have h2 := sizN_mem c.parts q hq
  have h3 := len_sizL q.l
  omega
theorem small_parts {w : Ty.World} {c : Complex} (h : smallB w.p w.st c = true) : c.parts.length ≤ 1000 := by
  simp only [smallB, Bool.and_eq_true] at h
  have := (smallC_ok 30 [c] 1 h.2.2).2 c (by simp)
  omega
structure Base (w : Ty.World) (c : Complex) (x : Simple) (h : List (Nat × AX.Obj)) : Prop where
  b0 : AX.look 0 h = some (.cells 0 [Enc.av w.p, Enc.av w.st] false)
  b1 : AX.look 1 h = some (.cells 0 [Enc.av c.parts, .str c.pseudo] false)
  b2 : AX.look 2 h = some (.cells 0 [.int .i64 x.kind, .str x.name, .str x.value, .int .i64 x.a, .int .i64 x.b, Enc.av x.l] false)
theorem Base.push {w : Ty.World} {c : Complex} {x : Simple} {h : List (Nat × AX.Obj)} {n : Nat} {o : AX.Obj} (hn : 3 ≤ n) (B : Base w c x h) : Base w c x ((n, o) :: h) := by
  obtain ⟨a, b, d⟩ := B
  refine ⟨?_, ?_, ?_⟩ <;> (simp only [AX.look]; rw [if_neg (by omega)]; assumption)
theorem Base.put {w : Ty.World} {c : Complex} {x : Simple} {h : List (Nat × AX.Obj)} {n : Nat} {o : AX.Obj} (hn : 3 ≤ n) (B : Base w c x h) : Base w c x (putAt n o h) := by
  obtain ⟨a, b, d⟩ := B
  refine ⟨?_, ?_, ?_⟩ <;> (rw [look_put_ne (by omega)]; assumption)
/-- the two rows of parts that are built -/
def Two (parts : List Part) (x : Simple) (K : Nat) (h : List (Nat × AX.Obj)) (m i : Nat) (V6 V7 : AV) : Prop :=
  (i = 0 ∧ V6 = .nils ∧ V7 = .nils) ∨ ∃ b d, V6 = .sl b (i * 2) 0 i 2 ∧ V7 = .sl d (i * 2) 0 i 2 ∧ 8 ≤ b ∧ b < m ∧ 8 ≤ d ∧ d < m ∧ b ≠ d ∧ 1 ≤ i ∧ AX.look d h = some (.cells (i * 2) (cellsL ((parts.take i).map wideP)) false) ∧
    ((i ≤ K ∧ AX.look b h = some (.cells (i * 2) (cellsL (parts.take i)) false)) ∨
     (i = K + 1 ∧ AX.look b h = some (.cells (i * 2) (cellsL (moreL x parts)) false)))
theorem moreL_snoc (x : Simple) {l : List Part} {K : Nat} {q : Part} (hl : l.length = K + 1) (hq : l[K]? = some q) : moreL x l = l.take K ++ [⟨q.comb, q.l ++ [x]⟩] := by
  apply List.ext_getElem?
  intro i
  rcases Nat.lt_or_ge i (K + 1) with h | h
  · have h1 : l[i]? = some l[i] := by simp
    rw [moreL_get x l i _ h1]
    by_cases hk : i = K
    · subst hk
      rw [if_pos (by omega), List.getElem?_append_right (by rw [List.length_take]; omega)]
      have : l[i] = q := by rw [h1] at hq; exact Option.some.inj hq
      rw [this]
      simp [List.length_take, Nat.min_eq_left (show i ≤ l.length by omega)]
    · rw [if_neg (by omega), List.getElem?_append_left (by rw [List.length_take]; omega), List.getElem?_take, if_pos (by omega), h1]
  · rw [List.getElem?_eq_none (by rw [moreL_len]; omega), List.getElem?_eq_none (by simp; omega)]
theorem moreL_ok (x : Simple) (hx : Enc.ok x) : ∀ l : List Part, (∀ q ∈ l, Enc.ok q) → (∀ q ∈ l, q.l.length ≤ 100000) → ∀ q ∈ moreL x l, Enc.ok q
  | [], _, _ => by simp [moreL]
  | [q], h, h2 => fun q' hq' => by
    simp only [moreL, List.mem_singleton] at hq'
    subst hq'
    have := (Part.ok_iff q).1 (h q (by simp))
    refine (Part.ok_iff _).2 ⟨this.1, ?_, ?_⟩
    · have := h2 q (by simp)
      show (q.l ++ [x]).length ≤ _
      rw [List.length_append]; simp; omega
    · intro y hy
      rcases List.mem_append.1 hy with hy | hy
      · exact this.2.2 y hy
      · simp at hy; subst hy; exact hx
  | a :: b :: s, h, h2 => fun q hq => by
    simp only [moreL] at hq
    rcases List.mem_cons.1 hq with rfl | hq
    · exact h _ (by simp)
    · exact moreL_ok x hx (b :: s) (fun q hq => h q (by simp [hq])) (fun q hq => h2 q (by simp [hq])) q hq
theorem wideP_ok {q : Part} (h : Enc.ok q) : Enc.ok (wideP q) := by
  have := (Part.ok_iff q).1 h
  refine (Part.ok_iff _).2 ⟨?_, this.2⟩
  show Enc.ok (wideC q.comb)
  unfold wideC
  split
  · exact int_ok (k := 1) (by omega)
  · split
    · exact int_ok (k := 4) (by omega)
    · exact this.1
theorem isB_el {p : Page} {st : List Ty.State} {n : Int} {parts : List Part} (h : isB p st n parts = true) : elemB p n = true ∧ treeB p = true := by
  simp only [isB, Bool.and_eq_true] at h
  refine ⟨?_, h.1⟩
  cases he : elemB p n
  · rw [fitsB_elem he] at h; simp at h
  · rfl
theorem viewList_id {f : AV → Option Seen} : ∀ xs : List AV, (∀ x ∈ xs, f x = some (x, [])) → viewList f xs = some (xs, [])
  | [], _ => rfl
  | x :: xs, h => by simp only [viewList, h x (by simp), viewList_id xs (fun y hy => h y (by simp [hy])), List.append_nil]
theorem flats_mem : ∀ {xs : List AV}, flats xs = true → ∀ x ∈ xs, flat x = true
  | [], _, x, h => by simp at h
  | a :: r, hf, x, h => by
    simp only [flats, Bool.and_eq_true] at hf
    rcases List.mem_cons.1 h with rfl | h
    · exact hf.1
    · exact flats_mem hf.2 x h
theorem viewN_flat (g : Nat → Option AX.Obj) : ∀ (d : Nat) (v : AV), flat v = true → viewN g d v = some (v, [])
  | 0, _, _ => rfl
  | d + 1, v, h => by
    have hl : ∀ xs, flats xs = true → viewList (viewN g d) xs = some (xs, []) := fun xs hx => viewList_id xs fun x hm => viewN_flat g d x (flats_mem hx x hm)
    cases v <;> simp only [flat, Bool.and_eq_true] at h <;> first
      | rfl
      | (simp at h; done)
      | (unfold viewN; simp only [hl _ h, wrapV]; done)
      | (unfold viewN; simp only [h, ↓reduceIte]; done)
      | (unfold viewN; simp only [hl _ h.1, hl _ h.2, wrapV2, List.append_nil]; done)
      | (unfold viewN; simp only [viewN_flat g d _ h]; done)
theorem viewN_sl_flat {g : Nat → Option AX.Obj} {d b e n z : Nat} {cs : List AV} {sn : Bool} (h : g b = some (.cells e cs sn)) (hl : n * z ≤ cs.length) (hf : flats (cs.take (n * z)) = true) : viewN g (d + 1) (.sl b e 0 n z) = some (.ps n (cs.take (n * z)), [(b, .cells e cs true)]) := by
  have h0 : viewList (viewN g d) (cs.take (n * z)) = some (cs.take (n * z), []) := viewList_id _ fun x hm => viewN_flat g d x (flats_mem hf x hm)
  unfold viewN
  simp [h, wrapO, wrapV, hl, h0]
theorem view_args {g : Nat → Option AX.Obj} {p : Page} {st : List Ty.State} {b i : Nat} {l : List Part} {sn : Bool} (h : g b = some (.cells (i * 2) (cellsL l) sn)) (hl : (cellsL l).length = i * 2) :
    viewList (viewN g 7) [.ps p.length (cellsL p), .ps st.length (cellsL st), .agg [.sl b (i * 2) 0 i 2, .str []]] = some ([.ps p.length (cellsL p), .ps st.length (cellsL st), .agg [.ps i (cellsL l), .str []]], [(b, .cells (i * 2) (cellsL l) true)]) := by
  have hs := viewN_sl_flat (d := 5) h (by omega : i * 2 ≤ _) (by rw [List.take_of_length_le (by omega)]; exact flats_cellsL l)
  rw [List.take_of_length_le (by omega)] at hs
  have h1 := viewN_ps_flat g 6 p.length (cellsL p) (flats_cellsL p)
  have h2 := viewN_ps_flat g 6 st.length (cellsL st) (flats_cellsL st)
  have h3 : viewN g 7 (.agg [.sl b (i * 2) 0 i 2, .str []]) = some (.agg [.ps i (cellsL l), .str []], [(b, .cells (i * 2) (cellsL l) true)]) := by
    show wrapV .agg (viewList (viewN g 6) [.sl b (i * 2) 0 i 2, .str []]) = _
    have h4 : viewN g 6 (.str []) = some (.str [], []) := rfl
    simp only [viewList, hs, h4, wrapV, List.append_nil]
  simp only [viewList, h1, h2, h3, List.append_nil, List.nil_append]
set_option maxHeartbeats 4000000 in
theorem w_MatchLess (w : Ty.World) (c : Complex) (x : Simple) (hw : Enc.ok w) (hc : Enc.ok c) (hx : Enc.ok x) : PureF Tryz.prog 5 [Enc.av w, Enc.av c, Enc.av x] (.bool true) := by
  refine pureF_W mix c5 (by kernel_rfl) (by kernel_rfl) (by simp [flats, flat_av, Go.AX.flat]) (by first | exact flat_av _ | simp [flat, flats, flat_av]) ?_
  have hsm := w_small w c hw hc
  rw [World.eav, Complex.eav] at hsm
  have hs4 := w_Small4 30 (by omega) [Complex.mk [Part.mk 0 [x]] []] (small4_one x hx)
  rw [Simple.eav]
  simp -implicitDefEqProofs only [F5, go_sem, Nat.reduceAdd, Nat.reduceEqDiff, ↓reduceIte]
  refine callI_pure w_fixed ?_
  simp -implicitDefEqProofs only [go_sem, Nat.reduceAdd, Nat.reduceEqDiff, reduceCtorEq, ↓reduceIte]
  refine callI_pure hsm ?_
  cases hs : smallB w.p w.st c
  · simp -implicitDefEqProofs only [go_sem, Nat.reduceEqDiff, reduceCtorEq, ↓reduceIte]
    refine callI_pure w_fixed ?_
    simp -implicitDefEqProofs only [go_sem, ↓reduceIte]
  obtain ⟨hp, hst⟩ := small_pg hw hs
  have hparts30 := small_parts hs
  have hwl := hp.len
  have hcp := ((Complex.ok_iff c).1 hc).1
  have hpl := hcp.1
  by_cases hpe : c.parts = []
  · have h0 : ((c.parts.length : Int) = 0) = True := eq_true (by rw [hpe]; rfl)
    simp -implicitDefEqProofs only [h0, go_sem, Nat.reduceAdd, Nat.reduceEqDiff, ↓reduceIte]
    refine callI_pure w_fixed ?_
    simp -implicitDefEqProofs only [go_sem, ↓reduceIte]
  have hlen : 0 < c.parts.length := List.length_pos_iff.2 hpe
  have h0 : ((c.parts.length : Int) = 0) = False := eq_false (by omega)
  simp -implicitDefEqProofs only [h0, go_sem, Nat.reduceAdd, Nat.reduceEqDiff, Nat.reduceLeDiff, ↓reduceIte]
  refine callI_d hs4 ?_
  simp -implicitDefEqProofs only [h0, Complex.parts, Complex.pseudo, Part.comb, Part.l, cellsL, go_sem, Nat.reduceAdd, Nat.reduceEqDiff, ↓reduceIte]
  cases hb : smallC 30 [Complex.mk [Part.mk 0 [x]] []] ((List.length [Complex.mk [Part.mk 0 [x]] []] : Nat) : Int)
  · simp -implicitDefEqProofs only [h0, go_sem]
    refine callI_pure w_fixed ?_
    simp -implicitDefEqProofs only [go_sem, ↓reduceIte]
  have hpN : c.parts.length ≤ 1000 := hparts30
  obtain ⟨K, hK⟩ : ∃ K, c.parts.length = K + 1 := ⟨c.parts.length - 1, by omega⟩
  have w0 : IntKind.i64.wrap ((c.parts.length : Int) - 1) = (K : Int) := by rw [wrap64 (by omega) (by omega)]; omega
  simp -implicitDefEqProofs only [h0, w0, go_sem, Nat.reduceAdd, Nat.reduceEqDiff, ↓reduceIte]
  refine LoopI_sl (fun q : Nat × AV × AV => K + 1 - q.1) (fun q => [(3, .ptr 0 0 0), (4, .ptr 1 0 0), (5, .ptr 2 0 0), (7, .int .i64 K), (8, .ptr 6 0 0), (9, .ptr 7 0 0), (10, .int .i64 q.1)])
    (fun q s => q.1 ≤ K + 1 ∧ 8 ≤ s.next ∧ Wf s ∧ Base w c x s.heap ∧ AX.look 6 s.heap = some (.cells 0 [q.2.1, .str []] false) ∧ AX.look 7 s.heap = some (.cells 0 [q.2.2, .str []] false) ∧ Two c.parts x K s.heap s.next q.1 q.2.1 q.2.2) (0, .nils, .nils) ?_ ?_
  · simp -implicitDefEqProofs only [go_sem, Nat.reduceEqDiff, ↓reduceIte]
    exact ⟨wf_of (by kernel_rfl), ⟨rfl, rfl, rfl⟩, .inl ⟨rfl, rfl, rfl⟩⟩
  rintro ⟨i, V6, V7⟩ ρ ⟨g, m⟩ ⟨h1, h2, hwf, hB, h6, h7, hT⟩
  dsimp only at h1 h2 h6 h7 hT
  obtain ⟨hb0, hb1, hb2⟩ := hB
  rcases Nat.lt_or_ge i (K + 1) with hi | hi
  · obtain ⟨q, hq, hd, hqm⟩ := get_drop (show i < c.parts.length by omega)
    have hlt : ((i : Int) < (c.parts.length : Int)) = True := eq_true (by omega)
    have wi : IntKind.i64.wrap ((i : Int) + 1) = ((i + 1 : Nat) : Int) := by rw [wrap64 (by omega) (by omega)]; omega
    obtain ⟨u0, u1, u2, u3, u4, u5, u6, u7, u8, u9, u10, u11, u12, u13, u14, u15, u16, u17, u18, u19, u20, u21, u22, u23, u24, u25, u26, u27, u28, u29, u30, u31, u32, u33, u34, u35, u36, u37, u38, u39, u40, u41, u42, u43, u44, u45, u46, u47, u48, u49, u50, u51, u52, u53, u54, u55, u56, u57, u58, u59, u60, u61, u62, u63, u64, u65, u66, u67, u68, u69, u70, u71, u72, u73, u74, u75, u76, u77, u78, u79, u80, u81, u82, u83, u84, u85, u86, u87, u88, u89, u90, u91, u92, u93, u94⟩ : (m = 0) = False ∧ (m = 1) = False ∧ (m = 2) = False ∧ (m = 6) = False ∧ (m = 7) = False ∧ (m + 1 = 0) = False ∧ (m + 1 = 1) = False ∧ (m + 1 = 2) = False ∧ (m + 1 = 6) = False ∧ (m + 1 = 7) = False ∧ (m + 1 = m) = False ∧ (m + 1 + 1 = 0) = False ∧ (m + 1 + 1 = 1) = False ∧ (m + 1 + 1 = 2) = False ∧ (m + 1 + 1 = 6) = False ∧ (m + 1 + 1 = 7) = False ∧ (m + 1 + 1 = m) = False ∧ (m + 1 + 1 = m + 1) = False ∧ (m + 1 + 1 + 1 = 0) = False ∧ (m + 1 + 1 + 1 = 1) = False ∧ (m + 1 + 1 + 1 = 2) = False ∧ (m + 1 + 1 + 1 = 6) = False ∧ (m + 1 + 1 + 1 = 7) = False ∧ (m + 1 + 1 + 1 = m) = False ∧ (m + 1 + 1 + 1 = m + 1) = False ∧ (m + 1 + 1 + 1 = m + 1 + 1) = False ∧ (m + 1 + 1 + 1 + 1 = 0) = False ∧ (m + 1 + 1 + 1 + 1 = 1) = False ∧ (m + 1 + 1 + 1 + 1 = 2) = False ∧ (m + 1 + 1 + 1 + 1 = 6) = False ∧ (m + 1 + 1 + 1 + 1 = 7) = False ∧ (m + 1 + 1 + 1 + 1 = m) = False ∧ (m + 1 + 1 + 1 + 1 = m + 1) = False ∧ (m + 1 + 1 + 1 + 1 = m + 1 + 1) = False ∧ (m + 1 + 1 + 1 + 1 = m + 1 + 1 + 1) = False ∧ (m + 1 + 1 + 1 + 1 + 1 = 0) = False ∧ (m + 1 + 1 + 1 + 1 + 1 = 1) = False ∧ (m + 1 + 1 + 1 + 1 + 1 = 2) = False ∧ (m + 1 + 1 + 1 + 1 + 1 = 6) = False ∧ (m + 1 + 1 + 1 + 1 + 1 = 7) = False ∧ (m + 1 + 1 + 1 + 1 + 1 = m) = False ∧ (m + 1 + 1 + 1 + 1 + 1 = m + 1) = False ∧ (m + 1 + 1 + 1 + 1 + 1 = m + 1 + 1) = False ∧ (m + 1 + 1 + 1 + 1 + 1 = m + 1 + 1 + 1) = False ∧ (m + 1 + 1 + 1 + 1 + 1 = m + 1 + 1 + 1 + 1) = False ∧ (m + 1 + 1 + 1 + 1 + 1 + 1 = 0) = False ∧ (m + 1 + 1 + 1 + 1 + 1 + 1 = 1) = False ∧ (m + 1 + 1 + 1 + 1 + 1 + 1 = 2) = False ∧ (m + 1 + 1 + 1 + 1 + 1 + 1 = 6) = False ∧ (m + 1 + 1 + 1 + 1 + 1 + 1 = 7) = False ∧ (m + 1 + 1 + 1 + 1 + 1 + 1 = m) = False ∧ (m + 1 + 1 + 1 + 1 + 1 + 1 = m + 1) = False ∧ (m + 1 + 1 + 1 + 1 + 1 + 1 = m + 1 + 1) = False ∧ (m + 1 + 1 + 1 + 1 + 1 + 1 = m + 1 + 1 + 1) = False ∧ (m + 1 + 1 + 1 + 1 + 1 + 1 = m + 1 + 1 + 1 + 1) = False ∧ (m + 1 + 1 + 1 + 1 + 1 + 1 = m + 1 + 1 + 1 + 1 + 1) = False ∧ (m + 1 + 1 + 1 + 1 + 1 + 1 + 1 = 0) = False ∧ (m + 1 + 1 + 1 + 1 + 1 + 1 + 1 = 1) = False ∧ (m + 1 + 1 + 1 + 1 + 1 + 1 + 1 = 2) = False ∧ (m + 1 + 1 + 1 + 1 + 1 + 1 + 1 = 6) = False ∧ (m + 1 + 1 + 1 + 1 + 1 + 1 + 1 = 7) = False ∧ (m + 1 + 1 + 1 + 1 + 1 + 1 + 1 = m) = False ∧ (m + 1 + 1 + 1 + 1 + 1 + 1 + 1 = m + 1) = False ∧ (m + 1 + 1 + 1 + 1 + 1 + 1 + 1 = m + 1 + 1) = False ∧ (m + 1 + 1 + 1 + 1 + 1 + 1 + 1 = m + 1 + 1 + 1) = False ∧ (m + 1 + 1 + 1 + 1 + 1 + 1 + 1 = m + 1 + 1 + 1 + 1) = False ∧ (m + 1 + 1 + 1 + 1 + 1 + 1 + 1 = m + 1 + 1 + 1 + 1 + 1) = False ∧ (m + 1 + 1 + 1 + 1 + 1 + 1 + 1 = m + 1 + 1 + 1 + 1 + 1 + 1) = False ∧ (m + 1 + 1 + 1 + 1 + 1 + 1 + 1 + 1 = 0) = False ∧ (m + 1 + 1 + 1 + 1 + 1 + 1 + 1 + 1 = 1) = False ∧ (m + 1 + 1 + 1 + 1 + 1 + 1 + 1 + 1 = 2) = False ∧ (m + 1 + 1 + 1 + 1 + 1 + 1 + 1 + 1 = 6) = False ∧ (m + 1 + 1 + 1 + 1 + 1 + 1 + 1 + 1 = 7) = False ∧ (m + 1 + 1 + 1 + 1 + 1 + 1 + 1 + 1 = m) = False ∧ (m + 1 + 1 + 1 + 1 + 1 + 1 + 1 + 1 = m + 1) = False ∧ (m + 1 + 1 + 1 + 1 + 1 + 1 + 1 + 1 = m + 1 + 1) = False ∧ (m + 1 + 1 + 1 + 1 + 1 + 1 + 1 + 1 = m + 1 + 1 + 1) = False ∧ (m + 1 + 1 + 1 + 1 + 1 + 1 + 1 + 1 = m + 1 + 1 + 1 + 1) = False ∧ (m + 1 + 1 + 1 + 1 + 1 + 1 + 1 + 1 = m + 1 + 1 + 1 + 1 + 1) = False ∧ (m + 1 + 1 + 1 + 1 + 1 + 1 + 1 + 1 = m + 1 + 1 + 1 + 1 + 1 + 1) = False ∧ (m + 1 + 1 + 1 + 1 + 1 + 1 + 1 + 1 = m + 1 + 1 + 1 + 1 + 1 + 1 + 1) = False ∧ (m + 1 + 1 + 1 + 1 + 1 + 1 + 1 + 1 + 1 = 0) = False ∧ (m + 1 + 1 + 1 + 1 + 1 + 1 + 1 + 1 + 1 = 1) = False ∧ (m + 1 + 1 + 1 + 1 + 1 + 1 + 1 + 1 + 1 = 2) = False ∧ (m + 1 + 1 + 1 + 1 + 1 + 1 + 1 + 1 + 1 = 6) = False ∧ (m + 1 + 1 + 1 + 1 + 1 + 1 + 1 + 1 + 1 = 7) = False ∧ (m + 1 + 1 + 1 + 1 + 1 + 1 + 1 + 1 + 1 = m) = False ∧ (m + 1 + 1 + 1 + 1 + 1 + 1 + 1 + 1 + 1 = m + 1) = False ∧ (m + 1 + 1 + 1 + 1 + 1 + 1 + 1 + 1 + 1 = m + 1 + 1) = False ∧ (m + 1 + 1 + 1 + 1 + 1 + 1 + 1 + 1 + 1 = m + 1 + 1 + 1) = False ∧ (m + 1 + 1 + 1 + 1 + 1 + 1 + 1 + 1 + 1 = m + 1 + 1 + 1 + 1) = False ∧ (m + 1 + 1 + 1 + 1 + 1 + 1 + 1 + 1 + 1 = m + 1 + 1 + 1 + 1 + 1) = False ∧ (m + 1 + 1 + 1 + 1 + 1 + 1 + 1 + 1 + 1 = m + 1 + 1 + 1 + 1 + 1 + 1) = False ∧ (m + 1 + 1 + 1 + 1 + 1 + 1 + 1 + 1 + 1 = m + 1 + 1 + 1 + 1 + 1 + 1 + 1) = False ∧ (m + 1 + 1 + 1 + 1 + 1 + 1 + 1 + 1 + 1 = m + 1 + 1 + 1 + 1 + 1 + 1 + 1 + 1) = False := by and_intros <;> exact eq_false (by omega)
    obtain ⟨v0, v1, v2, v3, v4, v5, v6, v7, v8, v9, v10, v11, v12, v13, v14, v15, v16, v17, v18, v19, v20, v21, v22, v23, v24, v25, v26, v27, v28, v29, v30, v31, v32, v33, v34, v35, v36, v37, v38, v39, v40, v41, v42, v43, v44, v45, v46, v47, v48, v49, v50, v51, v52, v53, v54, v55, v56⟩ : (m < m + 1 + 1) = True ∧ (m + 1 < m + 1 + 1) = True ∧ (0 < m + 1 + 1) = True ∧ (1 < m + 1 + 1) = True ∧ (2 < m + 1 + 1) = True ∧ (6 < m + 1 + 1) = True ∧ (7 < m + 1 + 1) = True ∧ (m < m + 1 + 1 + 1) = True ∧ (m + 1 < m + 1 + 1 + 1) = True ∧ (m + 1 + 1 < m + 1 + 1 + 1) = True ∧ (0 < m + 1 + 1 + 1) = True ∧ (1 < m + 1 + 1 + 1) = True ∧ (2 < m + 1 + 1 + 1) = True ∧ (6 < m + 1 + 1 + 1) = True ∧ (7 < m + 1 + 1 + 1) = True ∧ (m < m + 1 + 1 + 1 + 1) = True ∧ (m + 1 < m + 1 + 1 + 1 + 1) = True ∧ (m + 1 + 1 < m + 1 + 1 + 1 + 1) = True ∧ (m + 1 + 1 + 1 < m + 1 + 1 + 1 + 1) = True ∧ (0 < m + 1 + 1 + 1 + 1) = True ∧ (1 < m + 1 + 1 + 1 + 1) = True ∧ (2 < m + 1 + 1 + 1 + 1) = True ∧ (6 < m + 1 + 1 + 1 + 1) = True ∧ (7 < m + 1 + 1 + 1 + 1) = True ∧ (m < m + 1 + 1 + 1 + 1 + 1) = True ∧ (m + 1 < m + 1 + 1 + 1 + 1 + 1) = True ∧ (m + 1 + 1 < m + 1 + 1 + 1 + 1 + 1) = True ∧ (m + 1 + 1 + 1 < m + 1 + 1 + 1 + 1 + 1) = True ∧ (m + 1 + 1 + 1 + 1 < m + 1 + 1 + 1 + 1 + 1) = True ∧ (0 < m + 1 + 1 + 1 + 1 + 1) = True ∧ (1 < m + 1 + 1 + 1 + 1 + 1) = True ∧ (2 < m + 1 + 1 + 1 + 1 + 1) = True ∧ (6 < m + 1 + 1 + 1 + 1 + 1) = True ∧ (7 < m + 1 + 1 + 1 + 1 + 1) = True ∧ (m < m + 1 + 1 + 1 + 1 + 1 + 1) = True ∧ (m + 1 < m + 1 + 1 + 1 + 1 + 1 + 1) = True ∧ (m + 1 + 1 < m + 1 + 1 + 1 + 1 + 1 + 1) = True ∧ (m + 1 + 1 + 1 < m + 1 + 1 + 1 + 1 + 1 + 1) = True ∧ (m + 1 + 1 + 1 + 1 < m + 1 + 1 + 1 + 1 + 1 + 1) = True ∧ (m + 1 + 1 + 1 + 1 + 1 < m + 1 + 1 + 1 + 1 + 1 + 1) = True ∧ (0 < m + 1 + 1 + 1 + 1 + 1 + 1) = True ∧ (1 < m + 1 + 1 + 1 + 1 + 1 + 1) = True ∧ (2 < m + 1 + 1 + 1 + 1 + 1 + 1) = True ∧ (6 < m + 1 + 1 + 1 + 1 + 1 + 1) = True ∧ (7 < m + 1 + 1 + 1 + 1 + 1 + 1) = True ∧ (m < m + 1 + 1 + 1 + 1 + 1 + 1 + 1) = True ∧ (m + 1 < m + 1 + 1 + 1 + 1 + 1 + 1 + 1) = True ∧ (m + 1 + 1 < m + 1 + 1 + 1 + 1 + 1 + 1 + 1) = True ∧ (m + 1 + 1 + 1 < m + 1 + 1 + 1 + 1 + 1 + 1 + 1) = True ∧ (m + 1 + 1 + 1 + 1 < m + 1 + 1 + 1 + 1 + 1 + 1 + 1) = True ∧ (m + 1 + 1 + 1 + 1 + 1 < m + 1 + 1 + 1 + 1 + 1 + 1 + 1) = True ∧ (m + 1 + 1 + 1 + 1 + 1 + 1 < m + 1 + 1 + 1 + 1 + 1 + 1 + 1) = True ∧ (0 < m + 1 + 1 + 1 + 1 + 1 + 1 + 1) = True ∧ (1 < m + 1 + 1 + 1 + 1 + 1 + 1 + 1) = True ∧ (2 < m + 1 + 1 + 1 + 1 + 1 + 1 + 1) = True ∧ (6 < m + 1 + 1 + 1 + 1 + 1 + 1 + 1) = True ∧ (7 < m + 1 + 1 + 1 + 1 + 1 + 1 + 1) = True := by and_intros <;> exact eq_true (by omega)
    have hwd : cellsL ((c.parts.take (i + 1)).map wideP) = cellsL ((c.parts.take i).map wideP) ++ [.int .i64 (wideC q.comb), Enc.av q.l] := by
      rw [take_snoc hq, List.map_append, cellsL_append]; rfl
    have htk : cellsL (c.parts.take (i + 1)) = cellsL (c.parts.take i) ++ [.int .i64 q.comb, Enc.av q.l] := by
      rw [take_snoc hq, cellsL_append]; rfl
    have cw : (cellsL ((c.parts.take i).map wideP)).length = i * 2 := by rw [Part.clen, List.length_map, List.length_take]; omega
    have ct : (cellsL (c.parts.take i)).length = i * 2 := by rw [Part.clen, List.length_take]; omega
    have tw : List.take (i * 2) (cellsL ((c.parts.take i).map wideP)) = cellsL ((c.parts.take i).map wideP) := List.take_of_length_le (by omega)
    have tt : List.take (i * 2) (cellsL (c.parts.take i)) = cellsL (c.parts.take i) := List.take_of_length_le (by omega)
    have hbd : ((i + 1) * 32 ≤ 140737488355328) = True := eq_true (by have := hpN; omega)
    have hmx : (i * 2 ≤ i * 2 + 1) = True := eq_true (by omega)
    have hm2 : (i + 1) * 2 = i * 2 + 2 := by omega
    rcases Nat.lt_or_ge i K with hik | hik
    · have hne : ((i : Int) = (K : Int)) = False := eq_false (by omega)
      rcases hT with ⟨hi0, rfl, rfl⟩ | ⟨b, d, rfl, rfl, g1, g2, g3, g4, g5, g6, g7, g8⟩
      · skip
        by_cases c2 : q.comb = 2
        · have e2 : wideC q.comb = 1 := by simp [wideC, c2]
          simp -implicitDefEqProofs only [hlt, hq, hb1, h6, h7, hne, wi, u0, u1, u2, u3, u4, u5, u6, u7, u8, u9, u10, u11, u12, u13, u14, u15, u16, u17, u18, u19, u20, u21, u22, u23, u24, u25, u26, u27, u28, u29, u30, u31, u32, u33, u34, u35, u36, u37, u38, u39, u40, u41, u42, u43, u44, u45, u46, u47, u48, u49, u50, u51, u52, u53, u54, u55, u56, u57, u58, u59, u60, u61, u62, u63, u64, u65, u66, u67, u68, u69, u70, u71, u72, u73, u74, u75, u76, u77, u78, u79, u80, u81, u82, u83, u84, u85, u86, u87, u88, u89, u90, u91, u92, u93, u94, c2, go_sem, Int.reduceBEq, Nat.reduceAdd, Nat.reduceEqDiff, Nat.reduceLeDiff, reduceCtorEq, ↓reduceIte]
          refine ⟨(i + 1, _, _), by simp only; omega, rfl, by simp only; omega, by omega, ?_, ?_, rfl, rfl, ?_⟩
          · repeat' first | exact hwf | refine wf_push ?_ | refine wf_put ?_
          · repeat' first | exact ⟨hb0, hb1, hb2⟩ | refine Base.push (by omega) ?_ | refine Base.put (by omega) ?_
          · refine .inr ⟨m + 1 + 1 + 1, m + 1 + 1 + 1 + 1 + 1, by subst hi0; rfl, by subst hi0; rfl, by omega, by omega, by omega, by omega, by omega, by omega, ?_, .inl ⟨by omega, ?_⟩⟩
            · simp only [AX.look, u0, u1, u2, u3, u4, u5, u6, u7, u8, u9, u10, u11, u12, u13, u14, u15, u16, u17, u18, u19, u20, u21, u22, u23, u24, u25, u26, u27, u28, u29, u30, u31, u32, u33, u34, u35, u36, u37, u38, u39, u40, u41, u42, u43, u44, u45, u46, u47, u48, u49, u50, u51, u52, u53, u54, u55, u56, u57, u58, u59, u60, u61, u62, u63, u64, u65, u66, u67, u68, u69, u70, u71, u72, u73, u74, u75, u76, u77, u78, u79, u80, u81, u82, u83, u84, u85, u86, u87, u88, u89, u90, u91, u92, u93, u94, ↓reduceIte]
              rw [hwd, hi0, e2]; simp [cellsL, eav_L]
            · simp only [AX.look, u0, u1, u2, u3, u4, u5, u6, u7, u8, u9, u10, u11, u12, u13, u14, u15, u16, u17, u18, u19, u20, u21, u22, u23, u24, u25, u26, u27, u28, u29, u30, u31, u32, u33, u34, u35, u36, u37, u38, u39, u40, u41, u42, u43, u44, u45, u46, u47, u48, u49, u50, u51, u52, u53, u54, u55, u56, u57, u58, u59, u60, u61, u62, u63, u64, u65, u66, u67, u68, u69, u70, u71, u72, u73, u74, u75, u76, u77, u78, u79, u80, u81, u82, u83, u84, u85, u86, u87, u88, u89, u90, u91, u92, u93, u94, ↓reduceIte]
              rw [htk, hi0]; simp [cellsL, eav_L, c2]
        by_cases c3 : q.comb = 3
        · have e2 : wideC q.comb = 4 := by simp [wideC, c3]
          simp -implicitDefEqProofs only [hlt, hq, hb1, h6, h7, hne, wi, u0, u1, u2, u3, u4, u5, u6, u7, u8, u9, u10, u11, u12, u13, u14, u15, u16, u17, u18, u19, u20, u21, u22, u23, u24, u25, u26, u27, u28, u29, u30, u31, u32, u33, u34, u35, u36, u37, u38, u39, u40, u41, u42, u43, u44, u45, u46, u47, u48, u49, u50, u51, u52, u53, u54, u55, u56, u57, u58, u59, u60, u61, u62, u63, u64, u65, u66, u67, u68, u69, u70, u71, u72, u73, u74, u75, u76, u77, u78, u79, u80, u81, u82, u83, u84, u85, u86, u87, u88, u89, u90, u91, u92, u93, u94, c3, go_sem, Int.reduceBEq, Nat.reduceAdd, Nat.reduceEqDiff, Nat.reduceLeDiff, reduceCtorEq, ↓reduceIte]
          refine ⟨(i + 1, _, _), by simp only; omega, rfl, by simp only; omega, by omega, ?_, ?_, rfl, rfl, ?_⟩
          · repeat' first | exact hwf | refine wf_push ?_ | refine wf_put ?_
          · repeat' first | exact ⟨hb0, hb1, hb2⟩ | refine Base.push (by omega) ?_ | refine Base.put (by omega) ?_
          · refine .inr ⟨m + 1 + 1 + 1, m + 1 + 1 + 1 + 1 + 1, by subst hi0; rfl, by subst hi0; rfl, by omega, by omega, by omega, by omega, by omega, by omega, ?_, .inl ⟨by omega, ?_⟩⟩
            · simp only [AX.look, u0, u1, u2, u3, u4, u5, u6, u7, u8, u9, u10, u11, u12, u13, u14, u15, u16, u17, u18, u19, u20, u21, u22, u23, u24, u25, u26, u27, u28, u29, u30, u31, u32, u33, u34, u35, u36, u37, u38, u39, u40, u41, u42, u43, u44, u45, u46, u47, u48, u49, u50, u51, u52, u53, u54, u55, u56, u57, u58, u59, u60, u61, u62, u63, u64, u65, u66, u67, u68, u69, u70, u71, u72, u73, u74, u75, u76, u77, u78, u79, u80, u81, u82, u83, u84, u85, u86, u87, u88, u89, u90, u91, u92, u93, u94, ↓reduceIte]
              rw [hwd, hi0, e2]; simp [cellsL, eav_L]
            · simp only [AX.look, u0, u1, u2, u3, u4, u5, u6, u7, u8, u9, u10, u11, u12, u13, u14, u15, u16, u17, u18, u19, u20, u21, u22, u23, u24, u25, u26, u27, u28, u29, u30, u31, u32, u33, u34, u35, u36, u37, u38, u39, u40, u41, u42, u43, u44, u45, u46, u47, u48, u49, u50, u51, u52, u53, u54, u55, u56, u57, u58, u59, u60, u61, u62, u63, u64, u65, u66, u67, u68, u69, u70, u71, u72, u73, u74, u75, u76, u77, u78, u79, u80, u81, u82, u83, u84, u85, u86, u87, u88, u89, u90, u91, u92, u93, u94, ↓reduceIte]
              rw [htk, hi0]; simp [cellsL, eav_L, c3]
        · have e2 : wideC q.comb = q.comb := by simp [wideC, c2, c3]
          simp -implicitDefEqProofs only [hlt, hq, hb1, h6, h7, hne, wi, u0, u1, u2, u3, u4, u5, u6, u7, u8, u9, u10, u11, u12, u13, u14, u15, u16, u17, u18, u19, u20, u21, u22, u23, u24, u25, u26, u27, u28, u29, u30, u31, u32, u33, u34, u35, u36, u37, u38, u39, u40, u41, u42, u43, u44, u45, u46, u47, u48, u49, u50, u51, u52, u53, u54, u55, u56, u57, u58, u59, u60, u61, u62, u63, u64, u65, u66, u67, u68, u69, u70, u71, u72, u73, u74, u75, u76, u77, u78, u79, u80, u81, u82, u83, u84, u85, u86, u87, u88, u89, u90, u91, u92, u93, u94, c2, c3, go_sem, Nat.reduceAdd, Nat.reduceEqDiff, Nat.reduceLeDiff, reduceCtorEq, ↓reduceIte]
          refine ⟨(i + 1, _, _), by simp only; omega, rfl, by simp only; omega, by omega, ?_, ?_, rfl, rfl, ?_⟩
          · repeat' first | exact hwf | refine wf_push ?_ | refine wf_put ?_
          · repeat' first | exact ⟨hb0, hb1, hb2⟩ | refine Base.push (by omega) ?_ | refine Base.put (by omega) ?_
          · refine .inr ⟨m + 1 + 1 + 1, m + 1 + 1 + 1 + 1 + 1, by subst hi0; rfl, by subst hi0; rfl, by omega, by omega, by omega, by omega, by omega, by omega, ?_, .inl ⟨by omega, ?_⟩⟩
            · simp only [AX.look, u0, u1, u2, u3, u4, u5, u6, u7, u8, u9, u10, u11, u12, u13, u14, u15, u16, u17, u18, u19, u20, u21, u22, u23, u24, u25, u26, u27, u28, u29, u30, u31, u32, u33, u34, u35, u36, u37, u38, u39, u40, u41, u42, u43, u44, u45, u46, u47, u48, u49, u50, u51, u52, u53, u54, u55, u56, u57, u58, u59, u60, u61, u62, u63, u64, u65, u66, u67, u68, u69, u70, u71, u72, u73, u74, u75, u76, u77, u78, u79, u80, u81, u82, u83, u84, u85, u86, u87, u88, u89, u90, u91, u92, u93, u94, ↓reduceIte]
              rw [hwd, hi0, e2]; simp [cellsL, eav_L]
            · simp only [AX.look, u0, u1, u2, u3, u4, u5, u6, u7, u8, u9, u10, u11, u12, u13, u14, u15, u16, u17, u18, u19, u20, u21, u22, u23, u24, u25, u26, u27, u28, u29, u30, u31, u32, u33, u34, u35, u36, u37, u38, u39, u40, u41, u42, u43, u44, u45, u46, u47, u48, u49, u50, u51, u52, u53, u54, u55, u56, u57, u58, u59, u60, u61, u62, u63, u64, u65, u66, u67, u68, u69, u70, u71, u72, u73, u74, u75, u76, u77, u78, u79, u80, u81, u82, u83, u84, u85, u86, u87, u88, u89, u90, u91, u92, u93, u94, ↓reduceIte]
              rw [htk, hi0]; simp [cellsL, eav_L, c2]
      · have g8 : AX.look b g = some (.cells (i * 2) (cellsL (c.parts.take i)) false) := by
          rcases g8 with g8 | g8
          · exact g8.2
          · omega
        obtain ⟨y0, y1, y2, y3, y4, y5, y6, y7, y8, y9, y10, y11, y12, y13, y14, y15, y16, y17, y18, y19, y20, y21, y22, y23, y24, y25, y26, y27, y28, y29, y30, y31, y32, y33, y34, y35, y36, y37, y38, y39, y40, y41⟩ : (m = b) = False ∧ (m + 1 = b) = False ∧ (m + 1 + 1 = b) = False ∧ (m + 1 + 1 + 1 = b) = False ∧ (m + 1 + 1 + 1 + 1 = b) = False ∧ (m + 1 + 1 + 1 + 1 + 1 = b) = False ∧ (m + 1 + 1 + 1 + 1 + 1 + 1 = b) = False ∧ (m + 1 + 1 + 1 + 1 + 1 + 1 + 1 = b) = False ∧ (m + 1 + 1 + 1 + 1 + 1 + 1 + 1 + 1 = b) = False ∧ (m + 1 + 1 + 1 + 1 + 1 + 1 + 1 + 1 + 1 = b) = False ∧ (b = 0) = False ∧ (0 = b) = False ∧ (b = 1) = False ∧ (1 = b) = False ∧ (b = 2) = False ∧ (2 = b) = False ∧ (b = 6) = False ∧ (6 = b) = False ∧ (b = 7) = False ∧ (7 = b) = False ∧ (m = d) = False ∧ (m + 1 = d) = False ∧ (m + 1 + 1 = d) = False ∧ (m + 1 + 1 + 1 = d) = False ∧ (m + 1 + 1 + 1 + 1 = d) = False ∧ (m + 1 + 1 + 1 + 1 + 1 = d) = False ∧ (m + 1 + 1 + 1 + 1 + 1 + 1 = d) = False ∧ (m + 1 + 1 + 1 + 1 + 1 + 1 + 1 = d) = False ∧ (m + 1 + 1 + 1 + 1 + 1 + 1 + 1 + 1 = d) = False ∧ (m + 1 + 1 + 1 + 1 + 1 + 1 + 1 + 1 + 1 = d) = False ∧ (d = 0) = False ∧ (0 = d) = False ∧ (d = 1) = False ∧ (1 = d) = False ∧ (d = 2) = False ∧ (2 = d) = False ∧ (d = 6) = False ∧ (6 = d) = False ∧ (d = 7) = False ∧ (7 = d) = False ∧ (b = d) = False ∧ (d = b) = False := by and_intros <;> exact eq_false (by omega)
        by_cases c2 : q.comb = 2
        · have e2 : wideC q.comb = 1 := by simp [wideC, c2]
          simp -implicitDefEqProofs only [hlt, hq, hb1, h6, h7, hne, wi, u0, u1, u2, u3, u4, u5, u6, u7, u8, u9, u10, u11, u12, u13, u14, u15, u16, u17, u18, u19, u20, u21, u22, u23, u24, u25, u26, u27, u28, u29, u30, u31, u32, u33, u34, u35, u36, u37, u38, u39, u40, u41, u42, u43, u44, u45, u46, u47, u48, u49, u50, u51, u52, u53, u54, u55, u56, u57, u58, u59, u60, u61, u62, u63, u64, u65, u66, u67, u68, u69, u70, u71, u72, u73, u74, u75, u76, u77, u78, u79, u80, u81, u82, u83, u84, u85, u86, u87, u88, u89, u90, u91, u92, u93, u94, y0, y1, y2, y3, y4, y5, y6, y7, y8, y9, y10, y11, y12, y13, y14, y15, y16, y17, y18, y19, y20, y21, y22, y23, y24, y25, y26, y27, y28, y29, y30, y31, y32, y33, y34, y35, y36, y37, y38, y39, y40, y41, g7, g8, cw, ct, tw, tt, hbd, hmx, c2, go_sem, Int.reduceBEq, Nat.reduceAdd, Nat.reduceEqDiff, Nat.reduceLeDiff, reduceCtorEq, ↓reduceIte]
          refine ⟨(i + 1, _, _), by simp only; omega, rfl, by simp only; omega, by omega, ?_, ?_, rfl, rfl, ?_⟩
          · repeat' first | exact hwf | refine wf_push ?_ | refine wf_put ?_
          · repeat' first | exact ⟨hb0, hb1, hb2⟩ | refine Base.push (by omega) ?_ | refine Base.put (by omega) ?_
          · refine .inr ⟨b, d, by rw [hm2], by rw [hm2], by omega, by omega, by omega, by omega, by omega, by omega, ?_, .inl ⟨by omega, ?_⟩⟩
            · simp only [AX.look, look_putAt, u0, u1, u2, u3, u4, u5, u6, u7, u8, u9, u10, u11, u12, u13, u14, u15, u16, u17, u18, u19, u20, u21, u22, u23, u24, u25, u26, u27, u28, u29, u30, u31, u32, u33, u34, u35, u36, u37, u38, u39, u40, u41, u42, u43, u44, u45, u46, u47, u48, u49, u50, u51, u52, u53, u54, u55, u56, u57, u58, u59, u60, u61, u62, u63, u64, u65, u66, u67, u68, u69, u70, u71, u72, u73, u74, u75, u76, u77, u78, u79, u80, u81, u82, u83, u84, u85, u86, u87, u88, u89, u90, u91, u92, u93, u94, y0, y1, y2, y3, y4, y5, y6, y7, y8, y9, y10, y11, y12, y13, y14, y15, y16, y17, y18, y19, y20, y21, y22, y23, y24, y25, y26, y27, y28, y29, y30, y31, y32, y33, y34, y35, y36, y37, y38, y39, y40, y41, ↓reduceIte, g7, g8, Option.map_some]
              rw [hwd, hm2, e2]; try simp [eav_L]
            · simp only [AX.look, look_putAt, u0, u1, u2, u3, u4, u5, u6, u7, u8, u9, u10, u11, u12, u13, u14, u15, u16, u17, u18, u19, u20, u21, u22, u23, u24, u25, u26, u27, u28, u29, u30, u31, u32, u33, u34, u35, u36, u37, u38, u39, u40, u41, u42, u43, u44, u45, u46, u47, u48, u49, u50, u51, u52, u53, u54, u55, u56, u57, u58, u59, u60, u61, u62, u63, u64, u65, u66, u67, u68, u69, u70, u71, u72, u73, u74, u75, u76, u77, u78, u79, u80, u81, u82, u83, u84, u85, u86, u87, u88, u89, u90, u91, u92, u93, u94, y0, y1, y2, y3, y4, y5, y6, y7, y8, y9, y10, y11, y12, y13, y14, y15, y16, y17, y18, y19, y20, y21, y22, y23, y24, y25, y26, y27, y28, y29, y30, y31, y32, y33, y34, y35, y36, y37, y38, y39, y40, y41, ↓reduceIte, g7, g8, Option.map_some]
              rw [htk, hm2]; try simp [eav_L, c2]
        by_cases c3 : q.comb = 3
        · have e2 : wideC q.comb = 4 := by simp [wideC, c3]
          simp -implicitDefEqProofs only [hlt, hq, hb1, h6, h7, hne, wi, u0, u1, u2, u3, u4, u5, u6, u7, u8, u9, u10, u11, u12, u13, u14, u15, u16, u17, u18, u19, u20, u21, u22, u23, u24, u25, u26, u27, u28, u29, u30, u31, u32, u33, u34, u35, u36, u37, u38, u39, u40, u41, u42, u43, u44, u45, u46, u47, u48, u49, u50, u51, u52, u53, u54, u55, u56, u57, u58, u59, u60, u61, u62, u63, u64, u65, u66, u67, u68, u69, u70, u71, u72, u73, u74, u75, u76, u77, u78, u79, u80, u81, u82, u83, u84, u85, u86, u87, u88, u89, u90, u91, u92, u93, u94, y0, y1, y2, y3, y4, y5, y6, y7, y8, y9, y10, y11, y12, y13, y14, y15, y16, y17, y18, y19, y20, y21, y22, y23, y24, y25, y26, y27, y28, y29, y30, y31, y32, y33, y34, y35, y36, y37, y38, y39, y40, y41, g7, g8, cw, ct, tw, tt, hbd, hmx, c3, go_sem, Int.reduceBEq, Nat.reduceAdd, Nat.reduceEqDiff, Nat.reduceLeDiff, reduceCtorEq, ↓reduceIte]
          refine ⟨(i + 1, _, _), by simp only; omega, rfl, by simp only; omega, by omega, ?_, ?_, rfl, rfl, ?_⟩
          · repeat' first | exact hwf | refine wf_push ?_ | refine wf_put ?_
          · repeat' first | exact ⟨hb0, hb1, hb2⟩ | refine Base.push (by omega) ?_ | refine Base.put (by omega) ?_
          · refine .inr ⟨b, d, by rw [hm2], by rw [hm2], by omega, by omega, by omega, by omega, by omega, by omega, ?_, .inl ⟨by omega, ?_⟩⟩
            · simp only [AX.look, look_putAt, u0, u1, u2, u3, u4, u5, u6, u7, u8, u9, u10, u11, u12, u13, u14, u15, u16, u17, u18, u19, u20, u21, u22, u23, u24, u25, u26, u27, u28, u29, u30, u31, u32, u33, u34, u35, u36, u37, u38, u39, u40, u41, u42, u43, u44, u45, u46, u47, u48, u49, u50, u51, u52, u53, u54, u55, u56, u57, u58, u59, u60, u61, u62, u63, u64, u65, u66, u67, u68, u69, u70, u71, u72, u73, u74, u75, u76, u77, u78, u79, u80, u81, u82, u83, u84, u85, u86, u87, u88, u89, u90, u91, u92, u93, u94, y0, y1, y2, y3, y4, y5, y6, y7, y8, y9, y10, y11, y12, y13, y14, y15, y16, y17, y18, y19, y20, y21, y22, y23, y24, y25, y26, y27, y28, y29, y30, y31, y32, y33, y34, y35, y36, y37, y38, y39, y40, y41, ↓reduceIte, g7, g8, Option.map_some]
              rw [hwd, hm2, e2]; try simp [eav_L]
            · simp only [AX.look, look_putAt, u0, u1, u2, u3, u4, u5, u6, u7, u8, u9, u10, u11, u12, u13, u14, u15, u16, u17, u18, u19, u20, u21, u22, u23, u24, u25, u26, u27, u28, u29, u30, u31, u32, u33, u34, u35, u36, u37, u38, u39, u40, u41, u42, u43, u44, u45, u46, u47, u48, u49, u50, u51, u52, u53, u54, u55, u56, u57, u58, u59, u60, u61, u62, u63, u64, u65, u66, u67, u68, u69, u70, u71, u72, u73, u74, u75, u76, u77, u78, u79, u80, u81, u82, u83, u84, u85, u86, u87, u88, u89, u90, u91, u92, u93, u94, y0, y1, y2, y3, y4, y5, y6, y7, y8, y9, y10, y11, y12, y13, y14, y15, y16, y17, y18, y19, y20, y21, y22, y23, y24, y25, y26, y27, y28, y29, y30, y31, y32, y33, y34, y35, y36, y37, y38, y39, y40, y41, ↓reduceIte, g7, g8, Option.map_some]
              rw [htk, hm2]; try simp [eav_L, c3]
        · have e2 : wideC q.comb = q.comb := by simp [wideC, c2, c3]
          simp -implicitDefEqProofs only [hlt, hq, hb1, h6, h7, hne, wi, u0, u1, u2, u3, u4, u5, u6, u7, u8, u9, u10, u11, u12, u13, u14, u15, u16, u17, u18, u19, u20, u21, u22, u23, u24, u25, u26, u27, u28, u29, u30, u31, u32, u33, u34, u35, u36, u37, u38, u39, u40, u41, u42, u43, u44, u45, u46, u47, u48, u49, u50, u51, u52, u53, u54, u55, u56, u57, u58, u59, u60, u61, u62, u63, u64, u65, u66, u67, u68, u69, u70, u71, u72, u73, u74, u75, u76, u77, u78, u79, u80, u81, u82, u83, u84, u85, u86, u87, u88, u89, u90, u91, u92, u93, u94, y0, y1, y2, y3, y4, y5, y6, y7, y8, y9, y10, y11, y12, y13, y14, y15, y16, y17, y18, y19, y20, y21, y22, y23, y24, y25, y26, y27, y28, y29, y30, y31, y32, y33, y34, y35, y36, y37, y38, y39, y40, y41, g7, g8, cw, ct, tw, tt, hbd, hmx, c2, c3, go_sem, Nat.reduceAdd, Nat.reduceEqDiff, Nat.reduceLeDiff, reduceCtorEq, ↓reduceIte]
          refine ⟨(i + 1, _, _), by simp only; omega, rfl, by simp only; omega, by omega, ?_, ?_, rfl, rfl, ?_⟩
          · repeat' first | exact hwf | refine wf_push ?_ | refine wf_put ?_
          · repeat' first | exact ⟨hb0, hb1, hb2⟩ | refine Base.push (by omega) ?_ | refine Base.put (by omega) ?_
          · refine .inr ⟨b, d, by rw [hm2], by rw [hm2], by omega, by omega, by omega, by omega, by omega, by omega, ?_, .inl ⟨by omega, ?_⟩⟩
            · simp only [AX.look, look_putAt, u0, u1, u2, u3, u4, u5, u6, u7, u8, u9, u10, u11, u12, u13, u14, u15, u16, u17, u18, u19, u20, u21, u22, u23, u24, u25, u26, u27, u28, u29, u30, u31, u32, u33, u34, u35, u36, u37, u38, u39, u40, u41, u42, u43, u44, u45, u46, u47, u48, u49, u50, u51, u52, u53, u54, u55, u56, u57, u58, u59, u60, u61, u62, u63, u64, u65, u66, u67, u68, u69, u70, u71, u72, u73, u74, u75, u76, u77, u78, u79, u80, u81, u82, u83, u84, u85, u86, u87, u88, u89, u90, u91, u92, u93, u94, y0, y1, y2, y3, y4, y5, y6, y7, y8, y9, y10, y11, y12, y13, y14, y15, y16, y17, y18, y19, y20, y21, y22, y23, y24, y25, y26, y27, y28, y29, y30, y31, y32, y33, y34, y35, y36, y37, y38, y39, y40, y41, ↓reduceIte, g7, g8, Option.map_some]
              rw [hwd, hm2, e2]; try simp [eav_L]
            · simp only [AX.look, look_putAt, u0, u1, u2, u3, u4, u5, u6, u7, u8, u9, u10, u11, u12, u13, u14, u15, u16, u17, u18, u19, u20, u21, u22, u23, u24, u25, u26, u27, u28, u29, u30, u31, u32, u33, u34, u35, u36, u37, u38, u39, u40, u41, u42, u43, u44, u45, u46, u47, u48, u49, u50, u51, u52, u53, u54, u55, u56, u57, u58, u59, u60, u61, u62, u63, u64, u65, u66, u67, u68, u69, u70, u71, u72, u73, u74, u75, u76, u77, u78, u79, u80, u81, u82, u83, u84, u85, u86, u87, u88, u89, u90, u91, u92, u93, u94, y0, y1, y2, y3, y4, y5, y6, y7, y8, y9, y10, y11, y12, y13, y14, y15, y16, y17, y18, y19, y20, y21, y22, y23, y24, y25, y26, y27, y28, y29, y30, y31, y32, y33, y34, y35, y36, y37, y38, y39, y40, y41, ↓reduceIte, g7, g8, Option.map_some]
              rw [htk, hm2]; try simp [eav_L, c2]
    · have hne : ((i : Int) = (K : Int)) = True := eq_true (by omega)
      have hiK : i = K := by omega
      have hLl := small_l hs hqm
      have clL : (cellsL q.l).length = q.l.length * 6 := Simple.clen q.l
      have tlL : List.take (q.l.length * 6) (cellsL q.l) = cellsL q.l := List.take_of_length_le (by omega)
      have hbL : ((q.l.length + 1) * 80 ≤ 140737488355328) = True := eq_true (by omega)
      have hbL0 : (q.l.length * 80 ≤ 140737488355328) = True := eq_true (by omega)
      have hmo : cellsL (moreL x c.parts) = cellsL (c.parts.take K) ++ [.int .i64 q.comb, .ps (q.l.length + 1) (cellsL q.l ++ [.int .i64 x.kind, .str x.name, .str x.value, .int .i64 x.a, .int .i64 x.b, .ps x.l.length (cellsL x.l)])] := by
        rw [moreL_snoc x hK (by rw [← hiK]; exact hq), cellsL_append]
        show _ ++ [AV.int .i64 q.comb, Enc.av (q.l ++ [x])] = _
        rw [eav_L, cellsL_append, List.length_append]
        simp [cellsL, Simple.ecells, eav_L]
      have hxl : ((q.l.length + 1) * 6 ≤ (cellsL q.l ++ [AV.int .i64 x.kind, AV.str x.name, AV.str x.value, AV.int .i64 x.a, AV.int .i64 x.b, AV.ps x.l.length (cellsL x.l)]).length) = True := eq_true (by simp [clL]; omega)
      have htx : List.take ((q.l.length + 1) * 6) (cellsL q.l ++ [AV.int .i64 x.kind, AV.str x.name, AV.str x.value, AV.int .i64 x.a, AV.int .i64 x.b, AV.ps x.l.length (cellsL x.l)]) = cellsL q.l ++ [AV.int .i64 x.kind, AV.str x.name, AV.str x.value, AV.int .i64 x.a, AV.int .i64 x.b, AV.ps x.l.length (cellsL x.l)] := List.take_of_length_le (by simp [clL]; omega)
      have hmL : (q.l.length * 6 ≤ q.l.length * 6 + 5) = True := eq_true (by omega)
      by_cases hL : q.l.length = 0
      · have hL' : q.l = [] := List.length_eq_zero_iff.1 hL
        have hcL : cellsL q.l = [] := by rw [hL']; rfl
        rcases hT with ⟨hi0, rfl, rfl⟩ | ⟨b, d, rfl, rfl, g1, g2, g3, g4, g5, g6, g7, g8⟩
        · skip
          simp -implicitDefEqProofs only [hlt, hq, hb1, hb2, h6, h7, hne, wi, u0, u1, u2, u3, u4, u5, u6, u7, u8, u9, u10, u11, u12, u13, u14, u15, u16, u17, u18, u19, u20, u21, u22, u23, u24, u25, u26, u27, u28, u29, u30, u31, u32, u33, u34, u35, u36, u37, u38, u39, u40, u41, u42, u43, u44, u45, u46, u47, u48, u49, u50, u51, u52, u53, u54, u55, u56, u57, u58, u59, u60, u61, u62, u63, u64, u65, u66, u67, u68, u69, u70, u71, u72, u73, u74, u75, u76, u77, u78, u79, u80, u81, u82, u83, u84, u85, u86, u87, u88, u89, u90, u91, u92, u93, u94, v0, v1, v2, v3, v4, v5, v6, v7, v8, v9, v10, v11, v12, v13, v14, v15, v16, v17, v18, v19, v20, v21, v22, v23, v24, v25, v26, v27, v28, v29, v30, v31, v32, v33, v34, v35, v36, v37, v38, v39, v40, v41, v42, v43, v44, v45, v46, v47, v48, v49, v50, v51, v52, v53, v54, v55, v56, hL, hcL, go_sem, Nat.reduceAdd, Nat.reduceEqDiff, Nat.reduceLeDiff, reduceCtorEq, ↓reduceIte]
          refine andI_intro (by (simp [indepB, indep1, apart1, Nat.testBit_eq_decide_div_mod_eq]; repeat' (first | omega | (intro x hx; omega) | refine And.intro ?_ ?_))) ?_
          simp -implicitDefEqProofs only [hlt, hq, hb1, hb2, h6, h7, hne, wi, u0, u1, u2, u3, u4, u5, u6, u7, u8, u9, u10, u11, u12, u13, u14, u15, u16, u17, u18, u19, u20, u21, u22, u23, u24, u25, u26, u27, u28, u29, u30, u31, u32, u33, u34, u35, u36, u37, u38, u39, u40, u41, u42, u43, u44, u45, u46, u47, u48, u49, u50, u51, u52, u53, u54, u55, u56, u57, u58, u59, u60, u61, u62, u63, u64, u65, u66, u67, u68, u69, u70, u71, u72, u73, u74, u75, u76, u77, u78, u79, u80, u81, u82, u83, u84, u85, u86, u87, u88, u89, u90, u91, u92, u93, u94, v0, v1, v2, v3, v4, v5, v6, v7, v8, v9, v10, v11, v12, v13, v14, v15, v16, v17, v18, v19, v20, v21, v22, v23, v24, v25, v26, v27, v28, v29, v30, v31, v32, v33, v34, v35, v36, v37, v38, v39, v40, v41, v42, v43, v44, v45, v46, v47, v48, v49, v50, v51, v52, v53, v54, v55, v56, hL, hcL, go_sem, Nat.reduceAdd, Nat.reduceEqDiff, ↓reduceIte]
          by_cases c2 : q.comb = 2
          · have e2 : wideC q.comb = 1 := by simp [wideC, c2]
            simp -implicitDefEqProofs only [hlt, hq, hb1, hb2, h6, h7, hne, wi, u0, u1, u2, u3, u4, u5, u6, u7, u8, u9, u10, u11, u12, u13, u14, u15, u16, u17, u18, u19, u20, u21, u22, u23, u24, u25, u26, u27, u28, u29, u30, u31, u32, u33, u34, u35, u36, u37, u38, u39, u40, u41, u42, u43, u44, u45, u46, u47, u48, u49, u50, u51, u52, u53, u54, u55, u56, u57, u58, u59, u60, u61, u62, u63, u64, u65, u66, u67, u68, u69, u70, u71, u72, u73, u74, u75, u76, u77, u78, u79, u80, u81, u82, u83, u84, u85, u86, u87, u88, u89, u90, u91, u92, u93, u94, v0, v1, v2, v3, v4, v5, v6, v7, v8, v9, v10, v11, v12, v13, v14, v15, v16, v17, v18, v19, v20, v21, v22, v23, v24, v25, v26, v27, v28, v29, v30, v31, v32, v33, v34, v35, v36, v37, v38, v39, v40, v41, v42, v43, v44, v45, v46, v47, v48, v49, v50, v51, v52, v53, v54, v55, v56, hL, hcL, c2, go_sem, Int.reduceBEq, Nat.reduceAdd, Nat.reduceEqDiff, Nat.reduceLeDiff, reduceCtorEq, ↓reduceIte]
            refine ⟨(i + 1, _, _), by simp only; omega, rfl, by simp only; omega, ?_, ?_, rfl, rfl, ?_⟩
            · repeat' first | exact hwf | refine wf_push ?_ | refine wf_put ?_
            · repeat' first | exact ⟨hb0, hb1, hb2⟩ | refine Base.push (by omega) ?_ | refine Base.put (by omega) ?_
            · refine .inr ⟨m + 1 + 1 + 1 + 1 + 1, m + 1 + 1 + 1 + 1 + 1 + 1 + 1, by subst hi0; rfl, by subst hi0; rfl, by omega, by omega, by omega, by omega, by omega, by omega, ?_, .inr ⟨by omega, ?_⟩⟩
              · simp only [AX.look, u0, u1, u2, u3, u4, u5, u6, u7, u8, u9, u10, u11, u12, u13, u14, u15, u16, u17, u18, u19, u20, u21, u22, u23, u24, u25, u26, u27, u28, u29, u30, u31, u32, u33, u34, u35, u36, u37, u38, u39, u40, u41, u42, u43, u44, u45, u46, u47, u48, u49, u50, u51, u52, u53, u54, u55, u56, u57, u58, u59, u60, u61, u62, u63, u64, u65, u66, u67, u68, u69, u70, u71, u72, u73, u74, u75, u76, u77, u78, u79, u80, u81, u82, u83, u84, u85, u86, u87, u88, u89, u90, u91, u92, u93, u94, ↓reduceIte]
                rw [hwd, hi0, e2]; simp [cellsL, eav_L, hL, hcL]
              · simp only [AX.look, u0, u1, u2, u3, u4, u5, u6, u7, u8, u9, u10, u11, u12, u13, u14, u15, u16, u17, u18, u19, u20, u21, u22, u23, u24, u25, u26, u27, u28, u29, u30, u31, u32, u33, u34, u35, u36, u37, u38, u39, u40, u41, u42, u43, u44, u45, u46, u47, u48, u49, u50, u51, u52, u53, u54, u55, u56, u57, u58, u59, u60, u61, u62, u63, u64, u65, u66, u67, u68, u69, u70, u71, u72, u73, u74, u75, u76, u77, u78, u79, u80, u81, u82, u83, u84, u85, u86, u87, u88, u89, u90, u91, u92, u93, u94, ↓reduceIte]
                rw [hmo, ← hiK, hi0]; simp [cellsL, c2, hL, hcL]
          by_cases c3 : q.comb = 3
          · have e2 : wideC q.comb = 4 := by simp [wideC, c3]
            simp -implicitDefEqProofs only [hlt, hq, hb1, hb2, h6, h7, hne, wi, u0, u1, u2, u3, u4, u5, u6, u7, u8, u9, u10, u11, u12, u13, u14, u15, u16, u17, u18, u19, u20, u21, u22, u23, u24, u25, u26, u27, u28, u29, u30, u31, u32, u33, u34, u35, u36, u37, u38, u39, u40, u41, u42, u43, u44, u45, u46, u47, u48, u49, u50, u51, u52, u53, u54, u55, u56, u57, u58, u59, u60, u61, u62, u63, u64, u65, u66, u67, u68, u69, u70, u71, u72, u73, u74, u75, u76, u77, u78, u79, u80, u81, u82, u83, u84, u85, u86, u87, u88, u89, u90, u91, u92, u93, u94, v0, v1, v2, v3, v4, v5, v6, v7, v8, v9, v10, v11, v12, v13, v14, v15, v16, v17, v18, v19, v20, v21, v22, v23, v24, v25, v26, v27, v28, v29, v30, v31, v32, v33, v34, v35, v36, v37, v38, v39, v40, v41, v42, v43, v44, v45, v46, v47, v48, v49, v50, v51, v52, v53, v54, v55, v56, hL, hcL, c3, go_sem, Int.reduceBEq, Int.reduceEq, Nat.reduceAdd, Nat.reduceEqDiff, Nat.reduceLeDiff, reduceCtorEq, ↓reduceIte]
            refine ⟨(i + 1, _, _), by simp only; omega, rfl, by simp only; omega, ?_, ?_, rfl, rfl, ?_⟩
            · repeat' first | exact hwf | refine wf_push ?_ | refine wf_put ?_
            · repeat' first | exact ⟨hb0, hb1, hb2⟩ | refine Base.push (by omega) ?_ | refine Base.put (by omega) ?_
            · refine .inr ⟨m + 1 + 1 + 1 + 1 + 1, m + 1 + 1 + 1 + 1 + 1 + 1 + 1, by subst hi0; rfl, by subst hi0; rfl, by omega, by omega, by omega, by omega, by omega, by omega, ?_, .inr ⟨by omega, ?_⟩⟩
              · simp only [AX.look, u0, u1, u2, u3, u4, u5, u6, u7, u8, u9, u10, u11, u12, u13, u14, u15, u16, u17, u18, u19, u20, u21, u22, u23, u24, u25, u26, u27, u28, u29, u30, u31, u32, u33, u34, u35, u36, u37, u38, u39, u40, u41, u42, u43, u44, u45, u46, u47, u48, u49, u50, u51, u52, u53, u54, u55, u56, u57, u58, u59, u60, u61, u62, u63, u64, u65, u66, u67, u68, u69, u70, u71, u72, u73, u74, u75, u76, u77, u78, u79, u80, u81, u82, u83, u84, u85, u86, u87, u88, u89, u90, u91, u92, u93, u94, ↓reduceIte]
                rw [hwd, hi0, e2]; simp [cellsL, eav_L, hL, hcL]
              · simp only [AX.look, u0, u1, u2, u3, u4, u5, u6, u7, u8, u9, u10, u11, u12, u13, u14, u15, u16, u17, u18, u19, u20, u21, u22, u23, u24, u25, u26, u27, u28, u29, u30, u31, u32, u33, u34, u35, u36, u37, u38, u39, u40, u41, u42, u43, u44, u45, u46, u47, u48, u49, u50, u51, u52, u53, u54, u55, u56, u57, u58, u59, u60, u61, u62, u63, u64, u65, u66, u67, u68, u69, u70, u71, u72, u73, u74, u75, u76, u77, u78, u79, u80, u81, u82, u83, u84, u85, u86, u87, u88, u89, u90, u91, u92, u93, u94, ↓reduceIte]
                rw [hmo, ← hiK, hi0]; simp [cellsL, c3, hL, hcL]
          · have e2 : wideC q.comb = q.comb := by simp [wideC, c2, c3]
            simp -implicitDefEqProofs only [hlt, hq, hb1, hb2, h6, h7, hne, wi, u0, u1, u2, u3, u4, u5, u6, u7, u8, u9, u10, u11, u12, u13, u14, u15, u16, u17, u18, u19, u20, u21, u22, u23, u24, u25, u26, u27, u28, u29, u30, u31, u32, u33, u34, u35, u36, u37, u38, u39, u40, u41, u42, u43, u44, u45, u46, u47, u48, u49, u50, u51, u52, u53, u54, u55, u56, u57, u58, u59, u60, u61, u62, u63, u64, u65, u66, u67, u68, u69, u70, u71, u72, u73, u74, u75, u76, u77, u78, u79, u80, u81, u82, u83, u84, u85, u86, u87, u88, u89, u90, u91, u92, u93, u94, v0, v1, v2, v3, v4, v5, v6, v7, v8, v9, v10, v11, v12, v13, v14, v15, v16, v17, v18, v19, v20, v21, v22, v23, v24, v25, v26, v27, v28, v29, v30, v31, v32, v33, v34, v35, v36, v37, v38, v39, v40, v41, v42, v43, v44, v45, v46, v47, v48, v49, v50, v51, v52, v53, v54, v55, v56, hL, hcL, c2, c3, go_sem, Nat.reduceAdd, Nat.reduceEqDiff, Nat.reduceLeDiff, reduceCtorEq, ↓reduceIte]
            refine ⟨(i + 1, _, _), by simp only; omega, rfl, by simp only; omega, ?_, ?_, rfl, rfl, ?_⟩
            · repeat' first | exact hwf | refine wf_push ?_ | refine wf_put ?_
            · repeat' first | exact ⟨hb0, hb1, hb2⟩ | refine Base.push (by omega) ?_ | refine Base.put (by omega) ?_
            · refine .inr ⟨m + 1 + 1 + 1 + 1 + 1, m + 1 + 1 + 1 + 1 + 1 + 1 + 1, by subst hi0; rfl, by subst hi0; rfl, by omega, by omega, by omega, by omega, by omega, by omega, ?_, .inr ⟨by omega, ?_⟩⟩
              · simp only [AX.look, u0, u1, u2, u3, u4, u5, u6, u7, u8, u9, u10, u11, u12, u13, u14, u15, u16, u17, u18, u19, u20, u21, u22, u23, u24, u25, u26, u27, u28, u29, u30, u31, u32, u33, u34, u35, u36, u37, u38, u39, u40, u41, u42, u43, u44, u45, u46, u47, u48, u49, u50, u51, u52, u53, u54, u55, u56, u57, u58, u59, u60, u61, u62, u63, u64, u65, u66, u67, u68, u69, u70, u71, u72, u73, u74, u75, u76, u77, u78, u79, u80, u81, u82, u83, u84, u85, u86, u87, u88, u89, u90, u91, u92, u93, u94, ↓reduceIte]
                rw [hwd, hi0, e2]; simp [cellsL, eav_L, hL, hcL]
              · simp only [AX.look, u0, u1, u2, u3, u4, u5, u6, u7, u8, u9, u10, u11, u12, u13, u14, u15, u16, u17, u18, u19, u20, u21, u22, u23, u24, u25, u26, u27, u28, u29, u30, u31, u32, u33, u34, u35, u36, u37, u38, u39, u40, u41, u42, u43, u44, u45, u46, u47, u48, u49, u50, u51, u52, u53, u54, u55, u56, u57, u58, u59, u60, u61, u62, u63, u64, u65, u66, u67, u68, u69, u70, u71, u72, u73, u74, u75, u76, u77, u78, u79, u80, u81, u82, u83, u84, u85, u86, u87, u88, u89, u90, u91, u92, u93, u94, ↓reduceIte]
                rw [hmo, ← hiK, hi0]; simp [cellsL, c2, hL, hcL]
        · have g8 : AX.look b g = some (.cells (i * 2) (cellsL (c.parts.take i)) false) := by
            rcases g8 with g8 | g8
            · exact g8.2
            · omega
          obtain ⟨y0, y1, y2, y3, y4, y5, y6, y7, y8, y9, y10, y11, y12, y13, y14, y15, y16, y17, y18, y19, y20, y21, y22, y23, y24, y25, y26, y27, y28, y29, y30, y31, y32, y33, y34, y35, y36, y37, y38, y39, y40, y41⟩ : (m = b) = False ∧ (m + 1 = b) = False ∧ (m + 1 + 1 = b) = False ∧ (m + 1 + 1 + 1 = b) = False ∧ (m + 1 + 1 + 1 + 1 = b) = False ∧ (m + 1 + 1 + 1 + 1 + 1 = b) = False ∧ (m + 1 + 1 + 1 + 1 + 1 + 1 = b) = False ∧ (m + 1 + 1 + 1 + 1 + 1 + 1 + 1 = b) = False ∧ (m + 1 + 1 + 1 + 1 + 1 + 1 + 1 + 1 = b) = False ∧ (m + 1 + 1 + 1 + 1 + 1 + 1 + 1 + 1 + 1 = b) = False ∧ (b = 0) = False ∧ (0 = b) = False ∧ (b = 1) = False ∧ (1 = b) = False ∧ (b = 2) = False ∧ (2 = b) = False ∧ (b = 6) = False ∧ (6 = b) = False ∧ (b = 7) = False ∧ (7 = b) = False ∧ (m = d) = False ∧ (m + 1 = d) = False ∧ (m + 1 + 1 = d) = False ∧ (m + 1 + 1 + 1 = d) = False ∧ (m + 1 + 1 + 1 + 1 = d) = False ∧ (m + 1 + 1 + 1 + 1 + 1 = d) = False ∧ (m + 1 + 1 + 1 + 1 + 1 + 1 = d) = False ∧ (m + 1 + 1 + 1 + 1 + 1 + 1 + 1 = d) = False ∧ (m + 1 + 1 + 1 + 1 + 1 + 1 + 1 + 1 = d) = False ∧ (m + 1 + 1 + 1 + 1 + 1 + 1 + 1 + 1 + 1 = d) = False ∧ (d = 0) = False ∧ (0 = d) = False ∧ (d = 1) = False ∧ (1 = d) = False ∧ (d = 2) = False ∧ (2 = d) = False ∧ (d = 6) = False ∧ (6 = d) = False ∧ (d = 7) = False ∧ (7 = d) = False ∧ (b = d) = False ∧ (d = b) = False := by and_intros <;> exact eq_false (by omega)
          simp -implicitDefEqProofs only [hlt, hq, hb1, hb2, h6, h7, hne, wi, u0, u1, u2, u3, u4, u5, u6, u7, u8, u9, u10, u11, u12, u13, u14, u15, u16, u17, u18, u19, u20, u21, u22, u23, u24, u25, u26, u27, u28, u29, u30, u31, u32, u33, u34, u35, u36, u37, u38, u39, u40, u41, u42, u43, u44, u45, u46, u47, u48, u49, u50, u51, u52, u53, u54, u55, u56, u57, u58, u59, u60, u61, u62, u63, u64, u65, u66, u67, u68, u69, u70, u71, u72, u73, u74, u75, u76, u77, u78, u79, u80, u81, u82, u83, u84, u85, u86, u87, u88, u89, u90, u91, u92, u93, u94, v0, v1, v2, v3, v4, v5, v6, v7, v8, v9, v10, v11, v12, v13, v14, v15, v16, v17, v18, v19, v20, v21, v22, v23, v24, v25, v26, v27, v28, v29, v30, v31, v32, v33, v34, v35, v36, v37, v38, v39, v40, v41, v42, v43, v44, v45, v46, v47, v48, v49, v50, v51, v52, v53, v54, v55, v56, hL, hcL, y0, y1, y2, y3, y4, y5, y6, y7, y8, y9, y10, y11, y12, y13, y14, y15, y16, y17, y18, y19, y20, y21, y22, y23, y24, y25, y26, y27, y28, y29, y30, y31, y32, y33, y34, y35, y36, y37, y38, y39, y40, y41, g7, g8, cw, ct, tw, tt, hbd, hmx, go_sem, Nat.reduceAdd, Nat.reduceEqDiff, Nat.reduceLeDiff, reduceCtorEq, ↓reduceIte]
          refine andI_intro (by (simp [indepB, indep1, apart1, Nat.testBit_eq_decide_div_mod_eq]; repeat' (first | omega | (intro x hx; omega) | refine And.intro ?_ ?_))) ?_
          simp -implicitDefEqProofs only [hlt, hq, hb1, hb2, h6, h7, hne, wi, u0, u1, u2, u3, u4, u5, u6, u7, u8, u9, u10, u11, u12, u13, u14, u15, u16, u17, u18, u19, u20, u21, u22, u23, u24, u25, u26, u27, u28, u29, u30, u31, u32, u33, u34, u35, u36, u37, u38, u39, u40, u41, u42, u43, u44, u45, u46, u47, u48, u49, u50, u51, u52, u53, u54, u55, u56, u57, u58, u59, u60, u61, u62, u63, u64, u65, u66, u67, u68, u69, u70, u71, u72, u73, u74, u75, u76, u77, u78, u79, u80, u81, u82, u83, u84, u85, u86, u87, u88, u89, u90, u91, u92, u93, u94, v0, v1, v2, v3, v4, v5, v6, v7, v8, v9, v10, v11, v12, v13, v14, v15, v16, v17, v18, v19, v20, v21, v22, v23, v24, v25, v26, v27, v28, v29, v30, v31, v32, v33, v34, v35, v36, v37, v38, v39, v40, v41, v42, v43, v44, v45, v46, v47, v48, v49, v50, v51, v52, v53, v54, v55, v56, hL, hcL, y0, y1, y2, y3, y4, y5, y6, y7, y8, y9, y10, y11, y12, y13, y14, y15, y16, y17, y18, y19, y20, y21, y22, y23, y24, y25, y26, y27, y28, y29, y30, y31, y32, y33, y34, y35, y36, y37, y38, y39, y40, y41, g7, g8, cw, ct, tw, tt, hbd, hmx, go_sem, Nat.reduceAdd, Nat.reduceEqDiff, ↓reduceIte]
          by_cases c2 : q.comb = 2
          · have e2 : wideC q.comb = 1 := by simp [wideC, c2]
            simp -implicitDefEqProofs only [hlt, hq, hb1, hb2, h6, h7, hne, wi, u0, u1, u2, u3, u4, u5, u6, u7, u8, u9, u10, u11, u12, u13, u14, u15, u16, u17, u18, u19, u20, u21, u22, u23, u24, u25, u26, u27, u28, u29, u30, u31, u32, u33, u34, u35, u36, u37, u38, u39, u40, u41, u42, u43, u44, u45, u46, u47, u48, u49, u50, u51, u52, u53, u54, u55, u56, u57, u58, u59, u60, u61, u62, u63, u64, u65, u66, u67, u68, u69, u70, u71, u72, u73, u74, u75, u76, u77, u78, u79, u80, u81, u82, u83, u84, u85, u86, u87, u88, u89, u90, u91, u92, u93, u94, v0, v1, v2, v3, v4, v5, v6, v7, v8, v9, v10, v11, v12, v13, v14, v15, v16, v17, v18, v19, v20, v21, v22, v23, v24, v25, v26, v27, v28, v29, v30, v31, v32, v33, v34, v35, v36, v37, v38, v39, v40, v41, v42, v43, v44, v45, v46, v47, v48, v49, v50, v51, v52, v53, v54, v55, v56, hL, hcL, y0, y1, y2, y3, y4, y5, y6, y7, y8, y9, y10, y11, y12, y13, y14, y15, y16, y17, y18, y19, y20, y21, y22, y23, y24, y25, y26, y27, y28, y29, y30, y31, y32, y33, y34, y35, y36, y37, y38, y39, y40, y41, g7, g8, cw, ct, tw, tt, hbd, hmx, c2, go_sem, Int.reduceBEq, Nat.reduceAdd, Nat.reduceEqDiff, Nat.reduceLeDiff, reduceCtorEq, ↓reduceIte]
            refine ⟨(i + 1, _, _), by simp only; omega, rfl, by simp only; omega, by omega, ?_, ?_, rfl, rfl, ?_⟩
            · repeat' first | exact hwf | refine wf_push ?_ | refine wf_put ?_
            · repeat' first | exact ⟨hb0, hb1, hb2⟩ | refine Base.push (by omega) ?_ | refine Base.put (by omega) ?_
            · refine .inr ⟨b, d, by rw [hm2], by rw [hm2], by omega, by omega, by omega, by omega, by omega, by omega, ?_, .inr ⟨by omega, ?_⟩⟩
              · simp only [AX.look, look_putAt, u0, u1, u2, u3, u4, u5, u6, u7, u8, u9, u10, u11, u12, u13, u14, u15, u16, u17, u18, u19, u20, u21, u22, u23, u24, u25, u26, u27, u28, u29, u30, u31, u32, u33, u34, u35, u36, u37, u38, u39, u40, u41, u42, u43, u44, u45, u46, u47, u48, u49, u50, u51, u52, u53, u54, u55, u56, u57, u58, u59, u60, u61, u62, u63, u64, u65, u66, u67, u68, u69, u70, u71, u72, u73, u74, u75, u76, u77, u78, u79, u80, u81, u82, u83, u84, u85, u86, u87, u88, u89, u90, u91, u92, u93, u94, y0, y1, y2, y3, y4, y5, y6, y7, y8, y9, y10, y11, y12, y13, y14, y15, y16, y17, y18, y19, y20, y21, y22, y23, y24, y25, y26, y27, y28, y29, y30, y31, y32, y33, y34, y35, y36, y37, y38, y39, y40, y41, ↓reduceIte, g7, g8, Option.map_some]
                rw [hwd, hm2, e2]; try simp [eav_L, hL, hcL]
              · simp only [AX.look, look_putAt, u0, u1, u2, u3, u4, u5, u6, u7, u8, u9, u10, u11, u12, u13, u14, u15, u16, u17, u18, u19, u20, u21, u22, u23, u24, u25, u26, u27, u28, u29, u30, u31, u32, u33, u34, u35, u36, u37, u38, u39, u40, u41, u42, u43, u44, u45, u46, u47, u48, u49, u50, u51, u52, u53, u54, u55, u56, u57, u58, u59, u60, u61, u62, u63, u64, u65, u66, u67, u68, u69, u70, u71, u72, u73, u74, u75, u76, u77, u78, u79, u80, u81, u82, u83, u84, u85, u86, u87, u88, u89, u90, u91, u92, u93, u94, y0, y1, y2, y3, y4, y5, y6, y7, y8, y9, y10, y11, y12, y13, y14, y15, y16, y17, y18, y19, y20, y21, y22, y23, y24, y25, y26, y27, y28, y29, y30, y31, y32, y33, y34, y35, y36, y37, y38, y39, y40, y41, ↓reduceIte, g7, g8, Option.map_some]
                rw [hmo, hm2, ← hiK]; try simp [c2, hL, hcL]
          by_cases c3 : q.comb = 3
          · have e2 : wideC q.comb = 4 := by simp [wideC, c3]
            simp -implicitDefEqProofs only [hlt, hq, hb1, hb2, h6, h7, hne, wi, u0, u1, u2, u3, u4, u5, u6, u7, u8, u9, u10, u11, u12, u13, u14, u15, u16, u17, u18, u19, u20, u21, u22, u23, u24, u25, u26, u27, u28, u29, u30, u31, u32, u33, u34, u35, u36, u37, u38, u39, u40, u41, u42, u43, u44, u45, u46, u47, u48, u49, u50, u51, u52, u53, u54, u55, u56, u57, u58, u59, u60, u61, u62, u63, u64, u65, u66, u67, u68, u69, u70, u71, u72, u73, u74, u75, u76, u77, u78, u79, u80, u81, u82, u83, u84, u85, u86, u87, u88, u89, u90, u91, u92, u93, u94, v0, v1, v2, v3, v4, v5, v6, v7, v8, v9, v10, v11, v12, v13, v14, v15, v16, v17, v18, v19, v20, v21, v22, v23, v24, v25, v26, v27, v28, v29, v30, v31, v32, v33, v34, v35, v36, v37, v38, v39, v40, v41, v42, v43, v44, v45, v46, v47, v48, v49, v50, v51, v52, v53, v54, v55, v56, hL, hcL, y0, y1, y2, y3, y4, y5, y6, y7, y8, y9, y10, y11, y12, y13, y14, y15, y16, y17, y18, y19, y20, y21, y22, y23, y24, y25, y26, y27, y28, y29, y30, y31, y32, y33, y34, y35, y36, y37, y38, y39, y40, y41, g7, g8, cw, ct, tw, tt, hbd, hmx, c3, go_sem, Int.reduceBEq, Int.reduceEq, Nat.reduceAdd, Nat.reduceEqDiff, Nat.reduceLeDiff, reduceCtorEq, ↓reduceIte]
            refine ⟨(i + 1, _, _), by simp only; omega, rfl, by simp only; omega, by omega, ?_, ?_, rfl, rfl, ?_⟩
            · repeat' first | exact hwf | refine wf_push ?_ | refine wf_put ?_
            · repeat' first | exact ⟨hb0, hb1, hb2⟩ | refine Base.push (by omega) ?_ | refine Base.put (by omega) ?_
            · refine .inr ⟨b, d, by rw [hm2], by rw [hm2], by omega, by omega, by omega, by omega, by omega, by omega, ?_, .inr ⟨by omega, ?_⟩⟩
              · simp only [AX.look, look_putAt, u0, u1, u2, u3, u4, u5, u6, u7, u8, u9, u10, u11, u12, u13, u14, u15, u16, u17, u18, u19, u20, u21, u22, u23, u24, u25, u26, u27, u28, u29, u30, u31, u32, u33, u34, u35, u36, u37, u38, u39, u40, u41, u42, u43, u44, u45, u46, u47, u48, u49, u50, u51, u52, u53, u54, u55, u56, u57, u58, u59, u60, u61, u62, u63, u64, u65, u66, u67, u68, u69, u70, u71, u72, u73, u74, u75, u76, u77, u78, u79, u80, u81, u82, u83, u84, u85, u86, u87, u88, u89, u90, u91, u92, u93, u94, y0, y1, y2, y3, y4, y5, y6, y7, y8, y9, y10, y11, y12, y13, y14, y15, y16, y17, y18, y19, y20, y21, y22, y23, y24, y25, y26, y27, y28, y29, y30, y31, y32, y33, y34, y35, y36, y37, y38, y39, y40, y41, ↓reduceIte, g7, g8, Option.map_some]
                rw [hwd, hm2, e2]; try simp [eav_L, hL, hcL]
              · simp only [AX.look, look_putAt, u0, u1, u2, u3, u4, u5, u6, u7, u8, u9, u10, u11, u12, u13, u14, u15, u16, u17, u18, u19, u20, u21, u22, u23, u24, u25, u26, u27, u28, u29, u30, u31, u32, u33, u34, u35, u36, u37, u38, u39, u40, u41, u42, u43, u44, u45, u46, u47, u48, u49, u50, u51, u52, u53, u54, u55, u56, u57, u58, u59, u60, u61, u62, u63, u64, u65, u66, u67, u68, u69, u70, u71, u72, u73, u74, u75, u76, u77, u78, u79, u80, u81, u82, u83, u84, u85, u86, u87, u88, u89, u90, u91, u92, u93, u94, y0, y1, y2, y3, y4, y5, y6, y7, y8, y9, y10, y11, y12, y13, y14, y15, y16, y17, y18, y19, y20, y21, y22, y23, y24, y25, y26, y27, y28, y29, y30, y31, y32, y33, y34, y35, y36, y37, y38, y39, y40, y41, ↓reduceIte, g7, g8, Option.map_some]
                rw [hmo, hm2, ← hiK]; try simp [c3, hL, hcL]
          · have e2 : wideC q.comb = q.comb := by simp [wideC, c2, c3]
            simp -implicitDefEqProofs only [hlt, hq, hb1, hb2, h6, h7, hne, wi, u0, u1, u2, u3, u4, u5, u6, u7, u8, u9, u10, u11, u12, u13, u14, u15, u16, u17, u18, u19, u20, u21, u22, u23, u24, u25, u26, u27, u28, u29, u30, u31, u32, u33, u34, u35, u36, u37, u38, u39, u40, u41, u42, u43, u44, u45, u46, u47, u48, u49, u50, u51, u52, u53, u54, u55, u56, u57, u58, u59, u60, u61, u62, u63, u64, u65, u66, u67, u68, u69, u70, u71, u72, u73, u74, u75, u76, u77, u78, u79, u80, u81, u82, u83, u84, u85, u86, u87, u88, u89, u90, u91, u92, u93, u94, v0, v1, v2, v3, v4, v5, v6, v7, v8, v9, v10, v11, v12, v13, v14, v15, v16, v17, v18, v19, v20, v21, v22, v23, v24, v25, v26, v27, v28, v29, v30, v31, v32, v33, v34, v35, v36, v37, v38, v39, v40, v41, v42, v43, v44, v45, v46, v47, v48, v49, v50, v51, v52, v53, v54, v55, v56, hL, hcL, y0, y1, y2, y3, y4, y5, y6, y7, y8, y9, y10, y11, y12, y13, y14, y15, y16, y17, y18, y19, y20, y21, y22, y23, y24, y25, y26, y27, y28, y29, y30, y31, y32, y33, y34, y35, y36, y37, y38, y39, y40, y41, g7, g8, cw, ct, tw, tt, hbd, hmx, c2, c3, go_sem, Nat.reduceAdd, Nat.reduceEqDiff, Nat.reduceLeDiff, reduceCtorEq, ↓reduceIte]
            refine ⟨(i + 1, _, _), by simp only; omega, rfl, by simp only; omega, by omega, ?_, ?_, rfl, rfl, ?_⟩
            · repeat' first | exact hwf | refine wf_push ?_ | refine wf_put ?_
            · repeat' first | exact ⟨hb0, hb1, hb2⟩ | refine Base.push (by omega) ?_ | refine Base.put (by omega) ?_
            · refine .inr ⟨b, d, by rw [hm2], by rw [hm2], by omega, by omega, by omega, by omega, by omega, by omega, ?_, .inr ⟨by omega, ?_⟩⟩
              · simp only [AX.look, look_putAt, u0, u1, u2, u3, u4, u5, u6, u7, u8, u9, u10, u11, u12, u13, u14, u15, u16, u17, u18, u19, u20, u21, u22, u23, u24, u25, u26, u27, u28, u29, u30, u31, u32, u33, u34, u35, u36, u37, u38, u39, u40, u41, u42, u43, u44, u45, u46, u47, u48, u49, u50, u51, u52, u53, u54, u55, u56, u57, u58, u59, u60, u61, u62, u63, u64, u65, u66, u67, u68, u69, u70, u71, u72, u73, u74, u75, u76, u77, u78, u79, u80, u81, u82, u83, u84, u85, u86, u87, u88, u89, u90, u91, u92, u93, u94, y0, y1, y2, y3, y4, y5, y6, y7, y8, y9, y10, y11, y12, y13, y14, y15, y16, y17, y18, y19, y20, y21, y22, y23, y24, y25, y26, y27, y28, y29, y30, y31, y32, y33, y34, y35, y36, y37, y38, y39, y40, y41, ↓reduceIte, g7, g8, Option.map_some]
                rw [hwd, hm2, e2]; try simp [eav_L, hL, hcL]
              · simp only [AX.look, look_putAt, u0, u1, u2, u3, u4, u5, u6, u7, u8, u9, u10, u11, u12, u13, u14, u15, u16, u17, u18, u19, u20, u21, u22, u23, u24, u25, u26, u27, u28, u29, u30, u31, u32, u33, u34, u35, u36, u37, u38, u39, u40, u41, u42, u43, u44, u45, u46, u47, u48, u49, u50, u51, u52, u53, u54, u55, u56, u57, u58, u59, u60, u61, u62, u63, u64, u65, u66, u67, u68, u69, u70, u71, u72, u73, u74, u75, u76, u77, u78, u79, u80, u81, u82, u83, u84, u85, u86, u87, u88, u89, u90, u91, u92, u93, u94, y0, y1, y2, y3, y4, y5, y6, y7, y8, y9, y10, y11, y12, y13, y14, y15, y16, y17, y18, y19, y20, y21, y22, y23, y24, y25, y26, y27, y28, y29, y30, y31, y32, y33, y34, y35, y36, y37, y38, y39, y40, y41, ↓reduceIte, g7, g8, Option.map_some]
                rw [hmo, hm2, ← hiK]; try simp [c2, hL, hcL]
      · have hLz := eq_false hL
        have hL1 : (1 ≤ q.l.length * 6) = True := eq_true (by omega)
        rcases hT with ⟨hi0, rfl, rfl⟩ | ⟨b, d, rfl, rfl, g1, g2, g3, g4, g5, g6, g7, g8⟩
        · skip
          simp -implicitDefEqProofs only [hlt, hq, hb1, hb2, h6, h7, hne, wi, u0, u1, u2, u3, u4, u5, u6, u7, u8, u9, u10, u11, u12, u13, u14, u15, u16, u17, u18, u19, u20, u21, u22, u23, u24, u25, u26, u27, u28, u29, u30, u31, u32, u33, u34, u35, u36, u37, u38, u39, u40, u41, u42, u43, u44, u45, u46, u47, u48, u49, u50, u51, u52, u53, u54, u55, u56, u57, u58, u59, u60, u61, u62, u63, u64, u65, u66, u67, u68, u69, u70, u71, u72, u73, u74, u75, u76, u77, u78, u79, u80, u81, u82, u83, u84, u85, u86, u87, u88, u89, u90, u91, u92, u93, u94, v0, v1, v2, v3, v4, v5, v6, v7, v8, v9, v10, v11, v12, v13, v14, v15, v16, v17, v18, v19, v20, v21, v22, v23, v24, v25, v26, v27, v28, v29, v30, v31, v32, v33, v34, v35, v36, v37, v38, v39, v40, v41, v42, v43, v44, v45, v46, v47, v48, v49, v50, v51, v52, v53, v54, v55, v56, hLz, hL1, clL, tlL, hbL, hbL0, hmL, hxl, htx, go_sem, Nat.reduceAdd, Nat.reduceEqDiff, Nat.reduceLeDiff, reduceCtorEq, ↓reduceIte]
          refine andI_intro (by (simp [indepB, indep1, apart1, Nat.testBit_eq_decide_div_mod_eq]; repeat' (first | omega | (intro x hx; omega) | refine And.intro ?_ ?_))) ?_
          simp -implicitDefEqProofs only [hlt, hq, hb1, hb2, h6, h7, hne, wi, u0, u1, u2, u3, u4, u5, u6, u7, u8, u9, u10, u11, u12, u13, u14, u15, u16, u17, u18, u19, u20, u21, u22, u23, u24, u25, u26, u27, u28, u29, u30, u31, u32, u33, u34, u35, u36, u37, u38, u39, u40, u41, u42, u43, u44, u45, u46, u47, u48, u49, u50, u51, u52, u53, u54, u55, u56, u57, u58, u59, u60, u61, u62, u63, u64, u65, u66, u67, u68, u69, u70, u71, u72, u73, u74, u75, u76, u77, u78, u79, u80, u81, u82, u83, u84, u85, u86, u87, u88, u89, u90, u91, u92, u93, u94, v0, v1, v2, v3, v4, v5, v6, v7, v8, v9, v10, v11, v12, v13, v14, v15, v16, v17, v18, v19, v20, v21, v22, v23, v24, v25, v26, v27, v28, v29, v30, v31, v32, v33, v34, v35, v36, v37, v38, v39, v40, v41, v42, v43, v44, v45, v46, v47, v48, v49, v50, v51, v52, v53, v54, v55, v56, hLz, hL1, clL, tlL, hbL, hbL0, hmL, hxl, htx, go_sem, Nat.reduceAdd, Nat.reduceEqDiff, ↓reduceIte]
          by_cases c2 : q.comb = 2
          · have e2 : wideC q.comb = 1 := by simp [wideC, c2]
            simp -implicitDefEqProofs only [hlt, hq, hb1, hb2, h6, h7, hne, wi, u0, u1, u2, u3, u4, u5, u6, u7, u8, u9, u10, u11, u12, u13, u14, u15, u16, u17, u18, u19, u20, u21, u22, u23, u24, u25, u26, u27, u28, u29, u30, u31, u32, u33, u34, u35, u36, u37, u38, u39, u40, u41, u42, u43, u44, u45, u46, u47, u48, u49, u50, u51, u52, u53, u54, u55, u56, u57, u58, u59, u60, u61, u62, u63, u64, u65, u66, u67, u68, u69, u70, u71, u72, u73, u74, u75, u76, u77, u78, u79, u80, u81, u82, u83, u84, u85, u86, u87, u88, u89, u90, u91, u92, u93, u94, v0, v1, v2, v3, v4, v5, v6, v7, v8, v9, v10, v11, v12, v13, v14, v15, v16, v17, v18, v19, v20, v21, v22, v23, v24, v25, v26, v27, v28, v29, v30, v31, v32, v33, v34, v35, v36, v37, v38, v39, v40, v41, v42, v43, v44, v45, v46, v47, v48, v49, v50, v51, v52, v53, v54, v55, v56, hLz, hL1, clL, tlL, hbL, hbL0, hmL, hxl, htx, c2, go_sem, Int.reduceBEq, Nat.reduceAdd, Nat.reduceEqDiff, Nat.reduceLeDiff, reduceCtorEq, ↓reduceIte]
            refine ⟨(i + 1, _, _), by simp only; omega, rfl, by simp only; omega, ?_, ?_, rfl, rfl, ?_⟩
            · repeat' first | exact hwf | refine wf_push ?_ | refine wf_put ?_
            · repeat' first | exact ⟨hb0, hb1, hb2⟩ | refine Base.push (by omega) ?_ | refine Base.put (by omega) ?_
            · refine .inr ⟨m + 1 + 1 + 1 + 1 + 1, m + 1 + 1 + 1 + 1 + 1 + 1 + 1, by subst hi0; rfl, by subst hi0; rfl, by omega, by omega, by omega, by omega, by omega, by omega, ?_, .inr ⟨by omega, ?_⟩⟩
              · simp only [AX.look, u0, u1, u2, u3, u4, u5, u6, u7, u8, u9, u10, u11, u12, u13, u14, u15, u16, u17, u18, u19, u20, u21, u22, u23, u24, u25, u26, u27, u28, u29, u30, u31, u32, u33, u34, u35, u36, u37, u38, u39, u40, u41, u42, u43, u44, u45, u46, u47, u48, u49, u50, u51, u52, u53, u54, u55, u56, u57, u58, u59, u60, u61, u62, u63, u64, u65, u66, u67, u68, u69, u70, u71, u72, u73, u74, u75, u76, u77, u78, u79, u80, u81, u82, u83, u84, u85, u86, u87, u88, u89, u90, u91, u92, u93, u94, ↓reduceIte]
                rw [hwd, hi0, e2]; simp [cellsL, eav_L, hLz]
              · simp only [AX.look, u0, u1, u2, u3, u4, u5, u6, u7, u8, u9, u10, u11, u12, u13, u14, u15, u16, u17, u18, u19, u20, u21, u22, u23, u24, u25, u26, u27, u28, u29, u30, u31, u32, u33, u34, u35, u36, u37, u38, u39, u40, u41, u42, u43, u44, u45, u46, u47, u48, u49, u50, u51, u52, u53, u54, u55, u56, u57, u58, u59, u60, u61, u62, u63, u64, u65, u66, u67, u68, u69, u70, u71, u72, u73, u74, u75, u76, u77, u78, u79, u80, u81, u82, u83, u84, u85, u86, u87, u88, u89, u90, u91, u92, u93, u94, ↓reduceIte]
                rw [hmo, ← hiK, hi0]; simp [cellsL, c2, hLz]
          by_cases c3 : q.comb = 3
          · have e2 : wideC q.comb = 4 := by simp [wideC, c3]
            simp -implicitDefEqProofs only [hlt, hq, hb1, hb2, h6, h7, hne, wi, u0, u1, u2, u3, u4, u5, u6, u7, u8, u9, u10, u11, u12, u13, u14, u15, u16, u17, u18, u19, u20, u21, u22, u23, u24, u25, u26, u27, u28, u29, u30, u31, u32, u33, u34, u35, u36, u37, u38, u39, u40, u41, u42, u43, u44, u45, u46, u47, u48, u49, u50, u51, u52, u53, u54, u55, u56, u57, u58, u59, u60, u61, u62, u63, u64, u65, u66, u67, u68, u69, u70, u71, u72, u73, u74, u75, u76, u77, u78, u79, u80, u81, u82, u83, u84, u85, u86, u87, u88, u89, u90, u91, u92, u93, u94, v0, v1, v2, v3, v4, v5, v6, v7, v8, v9, v10, v11, v12, v13, v14, v15, v16, v17, v18, v19, v20, v21, v22, v23, v24, v25, v26, v27, v28, v29, v30, v31, v32, v33, v34, v35, v36, v37, v38, v39, v40, v41, v42, v43, v44, v45, v46, v47, v48, v49, v50, v51, v52, v53, v54, v55, v56, hLz, hL1, clL, tlL, hbL, hbL0, hmL, hxl, htx, c3, go_sem, Int.reduceBEq, Int.reduceEq, Nat.reduceAdd, Nat.reduceEqDiff, Nat.reduceLeDiff, reduceCtorEq, ↓reduceIte]
            refine ⟨(i + 1, _, _), by simp only; omega, rfl, by simp only; omega, ?_, ?_, rfl, rfl, ?_⟩
            · repeat' first | exact hwf | refine wf_push ?_ | refine wf_put ?_
            · repeat' first | exact ⟨hb0, hb1, hb2⟩ | refine Base.push (by omega) ?_ | refine Base.put (by omega) ?_
            · refine .inr ⟨m + 1 + 1 + 1 + 1 + 1, m + 1 + 1 + 1 + 1 + 1 + 1 + 1, by subst hi0; rfl, by subst hi0; rfl, by omega, by omega, by omega, by omega, by omega, by omega, ?_, .inr ⟨by omega, ?_⟩⟩
              · simp only [AX.look, u0, u1, u2, u3, u4, u5, u6, u7, u8, u9, u10, u11, u12, u13, u14, u15, u16, u17, u18, u19, u20, u21, u22, u23, u24, u25, u26, u27, u28, u29, u30, u31, u32, u33, u34, u35, u36, u37, u38, u39, u40, u41, u42, u43, u44, u45, u46, u47, u48, u49, u50, u51, u52, u53, u54, u55, u56, u57, u58, u59, u60, u61, u62, u63, u64, u65, u66, u67, u68, u69, u70, u71, u72, u73, u74, u75, u76, u77, u78, u79, u80, u81, u82, u83, u84, u85, u86, u87, u88, u89, u90, u91, u92, u93, u94, ↓reduceIte]
                rw [hwd, hi0, e2]; simp [cellsL, eav_L, hLz]
              · simp only [AX.look, u0, u1, u2, u3, u4, u5, u6, u7, u8, u9, u10, u11, u12, u13, u14, u15, u16, u17, u18, u19, u20, u21, u22, u23, u24, u25, u26, u27, u28, u29, u30, u31, u32, u33, u34, u35, u36, u37, u38, u39, u40, u41, u42, u43, u44, u45, u46, u47, u48, u49, u50, u51, u52, u53, u54, u55, u56, u57, u58, u59, u60, u61, u62, u63, u64, u65, u66, u67, u68, u69, u70, u71, u72, u73, u74, u75, u76, u77, u78, u79, u80, u81, u82, u83, u84, u85, u86, u87, u88, u89, u90, u91, u92, u93, u94, ↓reduceIte]
                rw [hmo, ← hiK, hi0]; simp [cellsL, c3, hLz]
          · have e2 : wideC q.comb = q.comb := by simp [wideC, c2, c3]
            simp -implicitDefEqProofs only [hlt, hq, hb1, hb2, h6, h7, hne, wi, u0, u1, u2, u3, u4, u5, u6, u7, u8, u9, u10, u11, u12, u13, u14, u15, u16, u17, u18, u19, u20, u21, u22, u23, u24, u25, u26, u27, u28, u29, u30, u31, u32, u33, u34, u35, u36, u37, u38, u39, u40, u41, u42, u43, u44, u45, u46, u47, u48, u49, u50, u51, u52, u53, u54, u55, u56, u57, u58, u59, u60, u61, u62, u63, u64, u65, u66, u67, u68, u69, u70, u71, u72, u73, u74, u75, u76, u77, u78, u79, u80, u81, u82, u83, u84, u85, u86, u87, u88, u89, u90, u91, u92, u93, u94, v0, v1, v2, v3, v4, v5, v6, v7, v8, v9, v10, v11, v12, v13, v14, v15, v16, v17, v18, v19, v20, v21, v22, v23, v24, v25, v26, v27, v28, v29, v30, v31, v32, v33, v34, v35, v36, v37, v38, v39, v40, v41, v42, v43, v44, v45, v46, v47, v48, v49, v50, v51, v52, v53, v54, v55, v56, hLz, hL1, clL, tlL, hbL, hbL0, hmL, hxl, htx, c2, c3, go_sem, Nat.reduceAdd, Nat.reduceEqDiff, Nat.reduceLeDiff, reduceCtorEq, ↓reduceIte]
            refine ⟨(i + 1, _, _), by simp only; omega, rfl, by simp only; omega, ?_, ?_, rfl, rfl, ?_⟩
            · repeat' first | exact hwf | refine wf_push ?_ | refine wf_put ?_
            · repeat' first | exact ⟨hb0, hb1, hb2⟩ | refine Base.push (by omega) ?_ | refine Base.put (by omega) ?_
            · refine .inr ⟨m + 1 + 1 + 1 + 1 + 1, m + 1 + 1 + 1 + 1 + 1 + 1 + 1, by subst hi0; rfl, by subst hi0; rfl, by omega, by omega, by omega, by omega, by omega, by omega, ?_, .inr ⟨by omega, ?_⟩⟩
              · simp only [AX.look, u0, u1, u2, u3, u4, u5, u6, u7, u8, u9, u10, u11, u12, u13, u14, u15, u16, u17, u18, u19, u20, u21, u22, u23, u24, u25, u26, u27, u28, u29, u30, u31, u32, u33, u34, u35, u36, u37, u38, u39, u40, u41, u42, u43, u44, u45, u46, u47, u48, u49, u50, u51, u52, u53, u54, u55, u56, u57, u58, u59, u60, u61, u62, u63, u64, u65, u66, u67, u68, u69, u70, u71, u72, u73, u74, u75, u76, u77, u78, u79, u80, u81, u82, u83, u84, u85, u86, u87, u88, u89, u90, u91, u92, u93, u94, ↓reduceIte]
                rw [hwd, hi0, e2]; simp [cellsL, eav_L, hLz]
              · simp only [AX.look, u0, u1, u2, u3, u4, u5, u6, u7, u8, u9, u10, u11, u12, u13, u14, u15, u16, u17, u18, u19, u20, u21, u22, u23, u24, u25, u26, u27, u28, u29, u30, u31, u32, u33, u34, u35, u36, u37, u38, u39, u40, u41, u42, u43, u44, u45, u46, u47, u48, u49, u50, u51, u52, u53, u54, u55, u56, u57, u58, u59, u60, u61, u62, u63, u64, u65, u66, u67, u68, u69, u70, u71, u72, u73, u74, u75, u76, u77, u78, u79, u80, u81, u82, u83, u84, u85, u86, u87, u88, u89, u90, u91, u92, u93, u94, ↓reduceIte]
                rw [hmo, ← hiK, hi0]; simp [cellsL, c2, hLz]
        · have g8 : AX.look b g = some (.cells (i * 2) (cellsL (c.parts.take i)) false) := by
            rcases g8 with g8 | g8
            · exact g8.2
            · omega
          obtain ⟨y0, y1, y2, y3, y4, y5, y6, y7, y8, y9, y10, y11, y12, y13, y14, y15, y16, y17, y18, y19, y20, y21, y22, y23, y24, y25, y26, y27, y28, y29, y30, y31, y32, y33, y34, y35, y36, y37, y38, y39, y40, y41⟩ : (m = b) = False ∧ (m + 1 = b) = False ∧ (m + 1 + 1 = b) = False ∧ (m + 1 + 1 + 1 = b) = False ∧ (m + 1 + 1 + 1 + 1 = b) = False ∧ (m + 1 + 1 + 1 + 1 + 1 = b) = False ∧ (m + 1 + 1 + 1 + 1 + 1 + 1 = b) = False ∧ (m + 1 + 1 + 1 + 1 + 1 + 1 + 1 = b) = False ∧ (m + 1 + 1 + 1 + 1 + 1 + 1 + 1 + 1 = b) = False ∧ (m + 1 + 1 + 1 + 1 + 1 + 1 + 1 + 1 + 1 = b) = False ∧ (b = 0) = False ∧ (0 = b) = False ∧ (b = 1) = False ∧ (1 = b) = False ∧ (b = 2) = False ∧ (2 = b) = False ∧ (b = 6) = False ∧ (6 = b) = False ∧ (b = 7) = False ∧ (7 = b) = False ∧ (m = d) = False ∧ (m + 1 = d) = False ∧ (m + 1 + 1 = d) = False ∧ (m + 1 + 1 + 1 = d) = False ∧ (m + 1 + 1 + 1 + 1 = d) = False ∧ (m + 1 + 1 + 1 + 1 + 1 = d) = False ∧ (m + 1 + 1 + 1 + 1 + 1 + 1 = d) = False ∧ (m + 1 + 1 + 1 + 1 + 1 + 1 + 1 = d) = False ∧ (m + 1 + 1 + 1 + 1 + 1 + 1 + 1 + 1 = d) = False ∧ (m + 1 + 1 + 1 + 1 + 1 + 1 + 1 + 1 + 1 = d) = False ∧ (d = 0) = False ∧ (0 = d) = False ∧ (d = 1) = False ∧ (1 = d) = False ∧ (d = 2) = False ∧ (2 = d) = False ∧ (d = 6) = False ∧ (6 = d) = False ∧ (d = 7) = False ∧ (7 = d) = False ∧ (b = d) = False ∧ (d = b) = False := by and_intros <;> exact eq_false (by omega)
          simp -implicitDefEqProofs only [hlt, hq, hb1, hb2, h6, h7, hne, wi, u0, u1, u2, u3, u4, u5, u6, u7, u8, u9, u10, u11, u12, u13, u14, u15, u16, u17, u18, u19, u20, u21, u22, u23, u24, u25, u26, u27, u28, u29, u30, u31, u32, u33, u34, u35, u36, u37, u38, u39, u40, u41, u42, u43, u44, u45, u46, u47, u48, u49, u50, u51, u52, u53, u54, u55, u56, u57, u58, u59, u60, u61, u62, u63, u64, u65, u66, u67, u68, u69, u70, u71, u72, u73, u74, u75, u76, u77, u78, u79, u80, u81, u82, u83, u84, u85, u86, u87, u88, u89, u90, u91, u92, u93, u94, v0, v1, v2, v3, v4, v5, v6, v7, v8, v9, v10, v11, v12, v13, v14, v15, v16, v17, v18, v19, v20, v21, v22, v23, v24, v25, v26, v27, v28, v29, v30, v31, v32, v33, v34, v35, v36, v37, v38, v39, v40, v41, v42, v43, v44, v45, v46, v47, v48, v49, v50, v51, v52, v53, v54, v55, v56, hLz, hL1, clL, tlL, hbL, hbL0, hmL, hxl, htx, y0, y1, y2, y3, y4, y5, y6, y7, y8, y9, y10, y11, y12, y13, y14, y15, y16, y17, y18, y19, y20, y21, y22, y23, y24, y25, y26, y27, y28, y29, y30, y31, y32, y33, y34, y35, y36, y37, y38, y39, y40, y41, g7, g8, cw, ct, tw, tt, hbd, hmx, go_sem, Nat.reduceAdd, Nat.reduceEqDiff, Nat.reduceLeDiff, reduceCtorEq, ↓reduceIte]
          refine andI_intro (by (simp [indepB, indep1, apart1, Nat.testBit_eq_decide_div_mod_eq]; repeat' (first | omega | (intro x hx; omega) | refine And.intro ?_ ?_))) ?_
          simp -implicitDefEqProofs only [hlt, hq, hb1, hb2, h6, h7, hne, wi, u0, u1, u2, u3, u4, u5, u6, u7, u8, u9, u10, u11, u12, u13, u14, u15, u16, u17, u18, u19, u20, u21, u22, u23, u24, u25, u26, u27, u28, u29, u30, u31, u32, u33, u34, u35, u36, u37, u38, u39, u40, u41, u42, u43, u44, u45, u46, u47, u48, u49, u50, u51, u52, u53, u54, u55, u56, u57, u58, u59, u60, u61, u62, u63, u64, u65, u66, u67, u68, u69, u70, u71, u72, u73, u74, u75, u76, u77, u78, u79, u80, u81, u82, u83, u84, u85, u86, u87, u88, u89, u90, u91, u92, u93, u94, v0, v1, v2, v3, v4, v5, v6, v7, v8, v9, v10, v11, v12, v13, v14, v15, v16, v17, v18, v19, v20, v21, v22, v23, v24, v25, v26, v27, v28, v29, v30, v31, v32, v33, v34, v35, v36, v37, v38, v39, v40, v41, v42, v43, v44, v45, v46, v47, v48, v49, v50, v51, v52, v53, v54, v55, v56, hLz, hL1, clL, tlL, hbL, hbL0, hmL, hxl, htx, y0, y1, y2, y3, y4, y5, y6, y7, y8, y9, y10, y11, y12, y13, y14, y15, y16, y17, y18, y19, y20, y21, y22, y23, y24, y25, y26, y27, y28, y29, y30, y31, y32, y33, y34, y35, y36, y37, y38, y39, y40, y41, g7, g8, cw, ct, tw, tt, hbd, hmx, go_sem, Nat.reduceAdd, Nat.reduceEqDiff, ↓reduceIte]
          by_cases c2 : q.comb = 2
          · have e2 : wideC q.comb = 1 := by simp [wideC, c2]
            simp -implicitDefEqProofs only [hlt, hq, hb1, hb2, h6, h7, hne, wi, u0, u1, u2, u3, u4, u5, u6, u7, u8, u9, u10, u11, u12, u13, u14, u15, u16, u17, u18, u19, u20, u21, u22, u23, u24, u25, u26, u27, u28, u29, u30, u31, u32, u33, u34, u35, u36, u37, u38, u39, u40, u41, u42, u43, u44, u45, u46, u47, u48, u49, u50, u51, u52, u53, u54, u55, u56, u57, u58, u59, u60, u61, u62, u63, u64, u65, u66, u67, u68, u69, u70, u71, u72, u73, u74, u75, u76, u77, u78, u79, u80, u81, u82, u83, u84, u85, u86, u87, u88, u89, u90, u91, u92, u93, u94, v0, v1, v2, v3, v4, v5, v6, v7, v8, v9, v10, v11, v12, v13, v14, v15, v16, v17, v18, v19, v20, v21, v22, v23, v24, v25, v26, v27, v28, v29, v30, v31, v32, v33, v34, v35, v36, v37, v38, v39, v40, v41, v42, v43, v44, v45, v46, v47, v48, v49, v50, v51, v52, v53, v54, v55, v56, hLz, hL1, clL, tlL, hbL, hbL0, hmL, hxl, htx, y0, y1, y2, y3, y4, y5, y6, y7, y8, y9, y10, y11, y12, y13, y14, y15, y16, y17, y18, y19, y20, y21, y22, y23, y24, y25, y26, y27, y28, y29, y30, y31, y32, y33, y34, y35, y36, y37, y38, y39, y40, y41, g7, g8, cw, ct, tw, tt, hbd, hmx, c2, go_sem, Int.reduceBEq, Nat.reduceAdd, Nat.reduceEqDiff, Nat.reduceLeDiff, reduceCtorEq, ↓reduceIte]
            refine ⟨(i + 1, _, _), by simp only; omega, rfl, by simp only; omega, by omega, ?_, ?_, rfl, rfl, ?_⟩
            · repeat' first | exact hwf | refine wf_push ?_ | refine wf_put ?_
            · repeat' first | exact ⟨hb0, hb1, hb2⟩ | refine Base.push (by omega) ?_ | refine Base.put (by omega) ?_
            · refine .inr ⟨b, d, by rw [hm2], by rw [hm2], by omega, by omega, by omega, by omega, by omega, by omega, ?_, .inr ⟨by omega, ?_⟩⟩
              · simp only [AX.look, look_putAt, u0, u1, u2, u3, u4, u5, u6, u7, u8, u9, u10, u11, u12, u13, u14, u15, u16, u17, u18, u19, u20, u21, u22, u23, u24, u25, u26, u27, u28, u29, u30, u31, u32, u33, u34, u35, u36, u37, u38, u39, u40, u41, u42, u43, u44, u45, u46, u47, u48, u49, u50, u51, u52, u53, u54, u55, u56, u57, u58, u59, u60, u61, u62, u63, u64, u65, u66, u67, u68, u69, u70, u71, u72, u73, u74, u75, u76, u77, u78, u79, u80, u81, u82, u83, u84, u85, u86, u87, u88, u89, u90, u91, u92, u93, u94, y0, y1, y2, y3, y4, y5, y6, y7, y8, y9, y10, y11, y12, y13, y14, y15, y16, y17, y18, y19, y20, y21, y22, y23, y24, y25, y26, y27, y28, y29, y30, y31, y32, y33, y34, y35, y36, y37, y38, y39, y40, y41, ↓reduceIte, g7, g8, Option.map_some]
                rw [hwd, hm2, e2]; try simp [eav_L, hLz]
              · simp only [AX.look, look_putAt, u0, u1, u2, u3, u4, u5, u6, u7, u8, u9, u10, u11, u12, u13, u14, u15, u16, u17, u18, u19, u20, u21, u22, u23, u24, u25, u26, u27, u28, u29, u30, u31, u32, u33, u34, u35, u36, u37, u38, u39, u40, u41, u42, u43, u44, u45, u46, u47, u48, u49, u50, u51, u52, u53, u54, u55, u56, u57, u58, u59, u60, u61, u62, u63, u64, u65, u66, u67, u68, u69, u70, u71, u72, u73, u74, u75, u76, u77, u78, u79, u80, u81, u82, u83, u84, u85, u86, u87, u88, u89, u90, u91, u92, u93, u94, y0, y1, y2, y3, y4, y5, y6, y7, y8, y9, y10, y11, y12, y13, y14, y15, y16, y17, y18, y19, y20, y21, y22, y23, y24, y25, y26, y27, y28, y29, y30, y31, y32, y33, y34, y35, y36, y37, y38, y39, y40, y41, ↓reduceIte, g7, g8, Option.map_some]
                rw [hmo, hm2, ← hiK]; try simp [c2, hLz]
          by_cases c3 : q.comb = 3
          · have e2 : wideC q.comb = 4 := by simp [wideC, c3]
            simp -implicitDefEqProofs only [hlt, hq, hb1, hb2, h6, h7, hne, wi, u0, u1, u2, u3, u4, u5, u6, u7, u8, u9, u10, u11, u12, u13, u14, u15, u16, u17, u18, u19, u20, u21, u22, u23, u24, u25, u26, u27, u28, u29, u30, u31, u32, u33, u34, u35, u36, u37, u38, u39, u40, u41, u42, u43, u44, u45, u46, u47, u48, u49, u50, u51, u52, u53, u54, u55, u56, u57, u58, u59, u60, u61, u62, u63, u64, u65, u66, u67, u68, u69, u70, u71, u72, u73, u74, u75, u76, u77, u78, u79, u80, u81, u82, u83, u84, u85, u86, u87, u88, u89, u90, u91, u92, u93, u94, v0, v1, v2, v3, v4, v5, v6, v7, v8, v9, v10, v11, v12, v13, v14, v15, v16, v17, v18, v19, v20, v21, v22, v23, v24, v25, v26, v27, v28, v29, v30, v31, v32, v33, v34, v35, v36, v37, v38, v39, v40, v41, v42, v43, v44, v45, v46, v47, v48, v49, v50, v51, v52, v53, v54, v55, v56, hLz, hL1, clL, tlL, hbL, hbL0, hmL, hxl, htx, y0, y1, y2, y3, y4, y5, y6, y7, y8, y9, y10, y11, y12, y13, y14, y15, y16, y17, y18, y19, y20, y21, y22, y23, y24, y25, y26, y27, y28, y29, y30, y31, y32, y33, y34, y35, y36, y37, y38, y39, y40, y41, g7, g8, cw, ct, tw, tt, hbd, hmx, c3, go_sem, Int.reduceBEq, Int.reduceEq, Nat.reduceAdd, Nat.reduceEqDiff, Nat.reduceLeDiff, reduceCtorEq, ↓reduceIte]
            refine ⟨(i + 1, _, _), by simp only; omega, rfl, by simp only; omega, by omega, ?_, ?_, rfl, rfl, ?_⟩
            · repeat' first | exact hwf | refine wf_push ?_ | refine wf_put ?_
            · repeat' first | exact ⟨hb0, hb1, hb2⟩ | refine Base.push (by omega) ?_ | refine Base.put (by omega) ?_
            · refine .inr ⟨b, d, by rw [hm2], by rw [hm2], by omega, by omega, by omega, by omega, by omega, by omega, ?_, .inr ⟨by omega, ?_⟩⟩
              · simp only [AX.look, look_putAt, u0, u1, u2, u3, u4, u5, u6, u7, u8, u9, u10, u11, u12, u13, u14, u15, u16, u17, u18, u19, u20, u21, u22, u23, u24, u25, u26, u27, u28, u29, u30, u31, u32, u33, u34, u35, u36, u37, u38, u39, u40, u41, u42, u43, u44, u45, u46, u47, u48, u49, u50, u51, u52, u53, u54, u55, u56, u57, u58, u59, u60, u61, u62, u63, u64, u65, u66, u67, u68, u69, u70, u71, u72, u73, u74, u75, u76, u77, u78, u79, u80, u81, u82, u83, u84, u85, u86, u87, u88, u89, u90, u91, u92, u93, u94, y0, y1, y2, y3, y4, y5, y6, y7, y8, y9, y10, y11, y12, y13, y14, y15, y16, y17, y18, y19, y20, y21, y22, y23, y24, y25, y26, y27, y28, y29, y30, y31, y32, y33, y34, y35, y36, y37, y38, y39, y40, y41, ↓reduceIte, g7, g8, Option.map_some]
                rw [hwd, hm2, e2]; try simp [eav_L, hLz]
              · simp only [AX.look, look_putAt, u0, u1, u2, u3, u4, u5, u6, u7, u8, u9, u10, u11, u12, u13, u14, u15, u16, u17, u18, u19, u20, u21, u22, u23, u24, u25, u26, u27, u28, u29, u30, u31, u32, u33, u34, u35, u36, u37, u38, u39, u40, u41, u42, u43, u44, u45, u46, u47, u48, u49, u50, u51, u52, u53, u54, u55, u56, u57, u58, u59, u60, u61, u62, u63, u64, u65, u66, u67, u68, u69, u70, u71, u72, u73, u74, u75, u76, u77, u78, u79, u80, u81, u82, u83, u84, u85, u86, u87, u88, u89, u90, u91, u92, u93, u94, y0, y1, y2, y3, y4, y5, y6, y7, y8, y9, y10, y11, y12, y13, y14, y15, y16, y17, y18, y19, y20, y21, y22, y23, y24, y25, y26, y27, y28, y29, y30, y31, y32, y33, y34, y35, y36, y37, y38, y39, y40, y41, ↓reduceIte, g7, g8, Option.map_some]
                rw [hmo, hm2, ← hiK]; try simp [c3, hLz]
          · have e2 : wideC q.comb = q.comb := by simp [wideC, c2, c3]
            simp -implicitDefEqProofs only [hlt, hq, hb1, hb2, h6, h7, hne, wi, u0, u1, u2, u3, u4, u5, u6, u7, u8, u9, u10, u11, u12, u13, u14, u15, u16, u17, u18, u19, u20, u21, u22, u23, u24, u25, u26, u27, u28, u29, u30, u31, u32, u33, u34, u35, u36, u37, u38, u39, u40, u41, u42, u43, u44, u45, u46, u47, u48, u49, u50, u51, u52, u53, u54, u55, u56, u57, u58, u59, u60, u61, u62, u63, u64, u65, u66, u67, u68, u69, u70, u71, u72, u73, u74, u75, u76, u77, u78, u79, u80, u81, u82, u83, u84, u85, u86, u87, u88, u89, u90, u91, u92, u93, u94, v0, v1, v2, v3, v4, v5, v6, v7, v8, v9, v10, v11, v12, v13, v14, v15, v16, v17, v18, v19, v20, v21, v22, v23, v24, v25, v26, v27, v28, v29, v30, v31, v32, v33, v34, v35, v36, v37, v38, v39, v40, v41, v42, v43, v44, v45, v46, v47, v48, v49, v50, v51, v52, v53, v54, v55, v56, hLz, hL1, clL, tlL, hbL, hbL0, hmL, hxl, htx, y0, y1, y2, y3, y4, y5, y6, y7, y8, y9, y10, y11, y12, y13, y14, y15, y16, y17, y18, y19, y20, y21, y22, y23, y24, y25, y26, y27, y28, y29, y30, y31, y32, y33, y34, y35, y36, y37, y38, y39, y40, y41, g7, g8, cw, ct, tw, tt, hbd, hmx, c2, c3, go_sem, Nat.reduceAdd, Nat.reduceEqDiff, Nat.reduceLeDiff, reduceCtorEq, ↓reduceIte]
            refine ⟨(i + 1, _, _), by simp only; omega, rfl, by simp only; omega, by omega, ?_, ?_, rfl, rfl, ?_⟩
            · repeat' first | exact hwf | refine wf_push ?_ | refine wf_put ?_
            · repeat' first | exact ⟨hb0, hb1, hb2⟩ | refine Base.push (by omega) ?_ | refine Base.put (by omega) ?_
            · refine .inr ⟨b, d, by rw [hm2], by rw [hm2], by omega, by omega, by omega, by omega, by omega, by omega, ?_, .inr ⟨by omega, ?_⟩⟩
              · simp only [AX.look, look_putAt, u0, u1, u2, u3, u4, u5, u6, u7, u8, u9, u10, u11, u12, u13, u14, u15, u16, u17, u18, u19, u20, u21, u22, u23, u24, u25, u26, u27, u28, u29, u30, u31, u32, u33, u34, u35, u36, u37, u38, u39, u40, u41, u42, u43, u44, u45, u46, u47, u48, u49, u50, u51, u52, u53, u54, u55, u56, u57, u58, u59, u60, u61, u62, u63, u64, u65, u66, u67, u68, u69, u70, u71, u72, u73, u74, u75, u76, u77, u78, u79, u80, u81, u82, u83, u84, u85, u86, u87, u88, u89, u90, u91, u92, u93, u94, y0, y1, y2, y3, y4, y5, y6, y7, y8, y9, y10, y11, y12, y13, y14, y15, y16, y17, y18, y19, y20, y21, y22, y23, y24, y25, y26, y27, y28, y29, y30, y31, y32, y33, y34, y35, y36, y37, y38, y39, y40, y41, ↓reduceIte, g7, g8, Option.map_some]
                rw [hwd, hm2, e2]; try simp [eav_L, hLz]
              · simp only [AX.look, look_putAt, u0, u1, u2, u3, u4, u5, u6, u7, u8, u9, u10, u11, u12, u13, u14, u15, u16, u17, u18, u19, u20, u21, u22, u23, u24, u25, u26, u27, u28, u29, u30, u31, u32, u33, u34, u35, u36, u37, u38, u39, u40, u41, u42, u43, u44, u45, u46, u47, u48, u49, u50, u51, u52, u53, u54, u55, u56, u57, u58, u59, u60, u61, u62, u63, u64, u65, u66, u67, u68, u69, u70, u71, u72, u73, u74, u75, u76, u77, u78, u79, u80, u81, u82, u83, u84, u85, u86, u87, u88, u89, u90, u91, u92, u93, u94, y0, y1, y2, y3, y4, y5, y6, y7, y8, y9, y10, y11, y12, y13, y14, y15, y16, y17, y18, y19, y20, y21, y22, y23, y24, y25, y26, y27, y28, y29, y30, y31, y32, y33, y34, y35, y36, y37, y38, y39, y40, y41, ↓reduceIte, g7, g8, Option.map_some]
                rw [hmo, hm2, ← hiK]; try simp [c2, hLz]
  · have hlt : ((i : Int) < (c.parts.length : Int)) = False := eq_false (by omega)
    have hiK : i = K + 1 := by omega
    rcases hT with ⟨hi0, rfl, rfl⟩ | ⟨b, d, rfl, rfl, g1, g2, g3, g4, g5, g6, g7, g8⟩
    · omega
    have g8 : AX.look b g = some (.cells (i * 2) (cellsL (moreL x c.parts)) false) := by
      rcases g8 with g8 | g8
      · omega
      · exact g8.2
    have g7 : AX.look d g = some (.cells (i * 2) (cellsL (c.parts.map wideP)) false) := by
      rw [g7, List.take_of_length_le (by omega)]
    have hil : i = c.parts.length := by omega
    have m0 : (0 < m) = True := eq_true (by omega)
    have m1 : (1 < m) = True := eq_true (by omega)
    have m2 : (2 < m) = True := eq_true (by omega)
    have m6 : (6 < m) = True := eq_true (by omega)
    have m7 : (7 < m) = True := eq_true (by omega)
    have mb : (b < m) = True := eq_true (by omega)
    have md : (d < m) = True := eq_true (by omega)
    have d0 : (b = d) = False := eq_false (by omega)
    have d1 : (d = b) = False := eq_false (by omega)
    have b6 : (6 = b) = False := eq_false (by omega)
    have b7 : (7 = b) = False := eq_false (by omega)
    have b8 : (6 = d) = False := eq_false (by omega)
    have b9 : (7 = d) = False := eq_false (by omega)
    have e0 : (0 = b) = False := eq_false (by omega)
    have e1 : (1 = b) = False := eq_false (by omega)
    have e2 : (2 = b) = False := eq_false (by omega)
    have e3 : (0 = d) = False := eq_false (by omega)
    have e4 : (1 = d) = False := eq_false (by omega)
    have e5 : (2 = d) = False := eq_false (by omega)
    have rb0 : (b = 0) = False := eq_false (by omega)
    have rb1 : (b = 1) = False := eq_false (by omega)
    have rb2 : (b = 2) = False := eq_false (by omega)
    have rb6 : (b = 6) = False := eq_false (by omega)
    have rb7 : (b = 7) = False := eq_false (by omega)
    have rd0 : (d = 0) = False := eq_false (by omega)
    have rd1 : (d = 1) = False := eq_false (by omega)
    have rd2 : (d = 2) = False := eq_false (by omega)
    have rd6 : (d = 6) = False := eq_false (by omega)
    have rd7 : (d = 7) = False := eq_false (by omega)
    have cm : (cellsL (moreL x c.parts)).length = i * 2 := by rw [Part.clen, moreL_len]; omega
    have cw : (cellsL (c.parts.map wideP)).length = i * 2 := by rw [Part.clen, List.length_map]; omega
    have tm : List.take (i * 2) (cellsL (moreL x c.parts)) = cellsL (moreL x c.parts) := List.take_of_length_le (by omega)
    have tw : List.take (i * 2) (cellsL (c.parts.map wideP)) = cellsL (c.parts.map wideP) := List.take_of_length_le (by omega)
    have om : Enc.ok (Complex.mk (moreL x c.parts) []) := by
      refine (Complex.ok_iff _).2 ⟨⟨?_, ?_⟩, nil_ok⟩
      · show (moreL x c.parts).length ≤ _; rw [moreL_len]; exact hpl
      · intro q hq
        exact moreL_ok x hx c.parts hcp.2 (fun q hq => by have := small_l hs hq; omega) q hq
    have ow : Enc.ok (Complex.mk (c.parts.map wideP) []) := by
      refine (Complex.ok_iff _).2 ⟨⟨?_, ?_⟩, nil_ok⟩
      · show (c.parts.map wideP).length ≤ _; rw [List.length_map]; exact hpl
      · intro q hq
        obtain ⟨q', hq', rfl⟩ := List.mem_map.1 hq
        exact wideP_ok (hcp.2 q' hq')
    have a2 : PureF Tryz.prog 14 [.ps w.p.length (cellsL w.p), .ps w.st.length (cellsL w.st), .agg [.ps i (cellsL (moreL x c.parts)), .str []]] (Enc.av (allB w.p w.st (moreL x c.parts))) := by
      have h := w_All w.p w.st hp hst _ om
      rw [Complex.eav, eav_L, eav_L, eav_L] at h
      simp only [Complex.parts, Complex.pseudo, moreL_len] at h
      rw [← hil] at h
      exact h
    have a3 : PureF Tryz.prog 14 [.ps w.p.length (cellsL w.p), .ps w.st.length (cellsL w.st), .agg [.ps i (cellsL (c.parts.map wideP)), .str []]] (Enc.av (allB w.p w.st (c.parts.map wideP))) := by
      have h := w_All w.p w.st hp hst _ ow
      rw [Complex.eav, eav_L, eav_L, eav_L] at h
      simp only [Complex.parts, Complex.pseudo, List.length_map] at h
      rw [← hil] at h
      exact h
    simp -implicitDefEqProofs only [hlt, hb0, hb1, hb2, h6, h7, m0, m1, m2, m6, m7, mb, md, d0, d1, b6, b7, b8, b9, e0, e1, e2, e3, e4, e5, rb0, rb1, rb2, rb6, rb7, rd0, rd1, rd2, rd6, rd7, cm, cw, tm, tw, g7, g8, look_putAt, Nat.le_refl, Option.map_some, go_sem, Nat.reduceAdd, Nat.reduceEqDiff, Nat.reduceLeDiff, ↓reduceIte]
    refine dcallI_pure (w_All w.p w.st hp hst c hc) ?_
    simp -implicitDefEqProofs only [hlt, hb0, hb1, hb2, h6, h7, m0, m1, m2, m6, m7, mb, md, d0, d1, b6, b7, b8, b9, e0, e1, e2, e3, e4, e5, rb0, rb1, rb2, rb6, rb7, rd0, rd1, rd2, rd6, rd7, cm, cw, tm, tw, g7, g8, look_putAt, Nat.le_refl, Option.map_some, go_sem, Nat.reduceAdd, Nat.reduceEqDiff, Nat.reduceLeDiff, ↓reduceIte]
    refine dcallI_d a2 hwf ?_
    rw [view_args g8 cm]
    simp -implicitDefEqProofs only [hlt, hb0, hb1, hb2, h6, h7, m0, m1, m2, m6, m7, mb, md, d0, d1, b6, b7, b8, b9, e0, e1, e2, e3, e4, e5, rb0, rb1, rb2, rb6, rb7, rd0, rd1, rd2, rd6, rd7, cm, cw, tm, tw, g7, g8, look_putAt, Nat.le_refl, Option.map_some, go_sem, Nat.reduceAdd, Nat.reduceEqDiff, Nat.reduceLeDiff, ↓reduceIte]
    refine dcallI_d a3 (by repeat' first | exact hwf | refine wf_push ?_ | refine wf_put ?_) ?_
    rw [view_args (sn := false) (by simp only [St.get, look_putAt, hlt, hb0, hb1, hb2, h6, h7, m0, m1, m2, m6, m7, mb, md, d0, d1, b6, b7, b8, b9, e0, e1, e2, e3, e4, e5, rb0, rb1, rb2, rb6, rb7, rd0, rd1, rd2, rd6, rd7, cm, cw, tm, tw, g7, g8, look_putAt, Nat.le_refl, Option.map_some, ↓reduceIte]) cw]
    simp -implicitDefEqProofs only [hlt, hb0, hb1, hb2, h6, h7, m0, m1, m2, m6, m7, mb, md, d0, d1, b6, b7, b8, b9, e0, e1, e2, e3, e4, e5, rb0, rb1, rb2, rb6, rb7, rd0, rd1, rd2, rd6, rd7, cm, cw, tm, tw, g7, g8, look_putAt, Nat.le_refl, Option.map_some, go_sem, Nat.reduceEqDiff, ↓reduceIte]
    refine andI_intro (by (simp [indepB, indep1, apart1, Nat.testBit_eq_decide_div_mod_eq, show ∀ a : Nat, List.range.loop a [] = List.range a from fun _ => rfl]; repeat' (first | omega | (intro x hx; omega) | refine And.intro ?_ ?_))) ?_
    simp -implicitDefEqProofs only [hlt, hb0, hb1, hb2, h6, h7, m0, m1, m2, m6, m7, mb, md, d0, d1, b6, b7, b8, b9, e0, e1, e2, e3, e4, e5, rb0, rb1, rb2, rb6, rb7, rd0, rd1, rd2, rd6, rd7, cm, cw, tm, tw, g7, g8, look_putAt, Nat.le_refl, Option.map_some, go_sem]
    have hpe' : c.parts ≠ [] := hpe
    have F2 : ∀ y ∈ allB w.p w.st (moreL x c.parts), isB w.p w.st y c.parts = true ∧ simpleB w.p w.st y x = true := fun y hy => by
      have h : isB w.p w.st y (moreL x c.parts) = true := by rw [← all_any]; exact List.any_eq_true.2 ⟨y, hy, by simp⟩
      rw [all_more w.st c.parts hpe' x y, Bool.and_eq_true] at h
      have h' := isB_el h.1
      exact ⟨h.1, by simp [simpleB, h'.1, h'.2, h.2]⟩
    have F1 : ∀ y ∈ allB w.p w.st c.parts, isB w.p w.st y (c.parts.map wideP) = true ∧ isB w.p w.st y (moreL x c.parts) = simpleB w.p w.st y x := fun y hy => by
      have h : isB w.p w.st y c.parts = true := by rw [← all_any]; exact List.any_eq_true.2 ⟨y, hy, by simp⟩
      have h' := isB_el h
      exact ⟨all_wide w.st c.parts y h, by rw [all_more w.st c.parts hpe' x y, h]; simp [simpleB, h'.1, h'.2]⟩
    have I1 : ∀ y, PureF Tryz.prog 22 [Enc.av (allB w.p w.st c.parts), Enc.av y] (.bool (isB w.p w.st y c.parts)) := fun y => by
      have := allB_len w.p w.st c.parts
      rw [← all_any]; exact w_in y _ (by omega)
    have I2 : ∀ y, PureF Tryz.prog 22 [Enc.av (allB w.p w.st (moreL x c.parts)), Enc.av y] (.bool (isB w.p w.st y (moreL x c.parts))) := fun y => by
      have := allB_len w.p w.st (moreL x c.parts)
      rw [← all_any]; exact w_in y _ (by omega)
    have I3 : ∀ y, PureF Tryz.prog 22 [Enc.av (allB w.p w.st (c.parts.map wideP)), Enc.av y] (.bool (isB w.p w.st y (c.parts.map wideP))) := fun y => by
      have := allB_len w.p w.st (c.parts.map wideP)
      rw [← all_any]; exact w_in y _ (by omega)
    have S1 : ∀ y, PureF Tryz.prog 11 [Enc.av w.p, Enc.av w.st, Enc.av y, .agg [.int .i64 x.kind, .str x.name, .str x.value, .int .i64 x.a, .int .i64 x.b, Enc.av x.l]] (.bool (simpleB w.p w.st y x)) := fun y => by
      have h := w_Simple w.p w.st hp hst y x hx
      rw [Simple.eav] at h
      exact h
    have L1 := allB_len w.p w.st c.parts
    have L2 := allB_len w.p w.st (moreL x c.parts)
    generalize allB w.p w.st c.parts = A1 at *
    generalize allB w.p w.st (moreL x c.parts) = A2 at *
    generalize allB w.p w.st (c.parts.map wideP) = A3 at *
    refine LoopI_sl (fun k : Nat => A2.length - k) (fun k => [(3, .ptr 0 0 0), (5, .ptr 2 0 0), (13, Enc.av A1), (14, Enc.av A2), (15, Enc.av A3), (16, .int .i64 k)])
      (fun k s => k ≤ A2.length ∧ 3 ≤ s.next ∧ Base w c x s.heap) 0 ?_ ?_
    · simp -implicitDefEqProofs only [hlt, hb0, hb1, hb2, h6, h7, m0, m1, m2, m6, m7, mb, md, d0, d1, b6, b7, b8, b9, e0, e1, e2, e3, e4, e5, rb0, rb1, rb2, rb6, rb7, rd0, rd1, rd2, rd6, rd7, cm, cw, tm, tw, g7, g8, look_putAt, Nat.le_refl, Option.map_some, go_sem, Nat.reduceEqDiff, ↓reduceIte]
      exact ⟨by omega, Base.put (by omega) (Base.put (by omega) ⟨hb0, hb1, hb2⟩)⟩
    rintro k ρ ⟨g, m⟩ ⟨k1, k2, B0, B1, B2⟩
    dsimp only at k2 B0 B1 B2
    have n0 : (0 < m) = True := eq_true (by omega)
    have n1 : (1 < m) = True := eq_true (by omega)
    have n2 : (2 < m) = True := eq_true (by omega)
    rcases Nat.lt_or_ge k A2.length with hk | hk
    · obtain ⟨y, hy, hyd, hym⟩ := get_drop hk
      obtain ⟨f1, f2⟩ := F2 y hym
      have hlt : ((k : Int) < (A2.length : Int)) = True := eq_true (by omega)
      have w1 : IntKind.i64.wrap ((k : Int) + 1) = ((k + 1 : Nat) : Int) := by rw [wrap64 (by omega) (by omega)]; omega
      have i1 := I1 y
      rw [f1] at i1
      have s1 := S1 y
      rw [f2] at s1
      simp -implicitDefEqProofs only [hlt, hy, w1, n0, n1, n2, B0, B1, B2, go_sem, Nat.reduceEqDiff, ↓reduceIte]
      refine dcallI_pure i1 ?_
      simp -implicitDefEqProofs only [hlt, hy, w1, n0, n1, n2, B0, B1, B2, go_sem, Nat.reduceAdd, Nat.reduceEqDiff, Nat.reduceLeDiff, ↓reduceIte]
      refine dcallI_pure s1 ?_
      simp -implicitDefEqProofs only [hlt, hy, w1, n0, n1, n2, B0, B1, B2, go_sem, Nat.reduceEqDiff, ↓reduceIte]
      refine andI_intro (by (simp [indepB, indep1, apart1, Nat.testBit_eq_decide_div_mod_eq]; repeat' (first | omega | (intro x hx; omega) | refine And.intro ?_ ?_))) ?_
      simp -implicitDefEqProofs only [hlt, hy, w1, n0, n1, n2, B0, B1, B2, go_sem, Nat.reduceEqDiff, ↓reduceIte]
      exact ⟨k + 1, by omega, rfl, by omega, by omega, ⟨B0, B1, B2⟩⟩
    have hlt : ((k : Int) < (A2.length : Int)) = False := eq_false (by omega)
    simp -implicitDefEqProofs only [hlt, go_sem, Nat.reduceEqDiff, ↓reduceIte]
    refine LoopI_sl (fun k : Nat => A1.length - k) (fun k => [(3, .ptr 0 0 0), (5, .ptr 2 0 0), (13, Enc.av A1), (14, Enc.av A2), (15, Enc.av A3), (17, .int .i64 k)])
      (fun k s => k ≤ A1.length ∧ 3 ≤ s.next ∧ Base w c x s.heap) 0 ?_ ?_
    · simp -implicitDefEqProofs only [go_sem, Nat.reduceEqDiff, ↓reduceIte]
      exact ⟨by omega, B0, B1, B2⟩
    clear hlt n0 n1 n2 k1 k2 B0 B1 B2 hk
    rintro k ρ ⟨g, m⟩ ⟨k1, k2, B0, B1, B2⟩
    dsimp only at k2 B0 B1 B2
    have n0 : (0 < m) = True := eq_true (by omega)
    have n1 : (1 < m) = True := eq_true (by omega)
    have n2 : (2 < m) = True := eq_true (by omega)
    rcases Nat.lt_or_ge k A1.length with hk | hk
    · obtain ⟨y, hy, hyd, hym⟩ := get_drop hk
      obtain ⟨f1, f2⟩ := F1 y hym
      have hlt : ((k : Int) < (A1.length : Int)) = True := eq_true (by omega)
      have w1 : IntKind.i64.wrap ((k : Int) + 1) = ((k + 1 : Nat) : Int) := by rw [wrap64 (by omega) (by omega)]; omega
      have i3 := I3 y
      rw [f1] at i3
      have s1 := S1 y
      have i2 := I2 y
      rw [f2] at i2
      simp -implicitDefEqProofs only [hlt, hy, w1, n0, n1, n2, B0, B1, B2, go_sem, Nat.reduceEqDiff, ↓reduceIte]
      refine dcallI_pure i3 ?_
      simp -implicitDefEqProofs only [hlt, hy, w1, n0, n1, n2, B0, B1, B2, go_sem, Nat.reduceEqDiff, ↓reduceIte]
      refine dcallI_pure i2 ?_
      cases hsb : simpleB w.p w.st y x
      · rw [hsb] at s1
        simp -implicitDefEqProofs only [hlt, hy, w1, n0, n1, n2, B0, B1, B2, go_sem, Nat.reduceAdd, Nat.reduceEqDiff, Nat.reduceLeDiff, ↓reduceIte]
        refine dcallI_pure s1 ?_
        simp -implicitDefEqProofs only [hlt, hy, w1, n0, n1, n2, B0, B1, B2, go_sem, Nat.reduceEqDiff, ↓reduceIte]
        refine andI_intro (by (simp [indepB, indep1, apart1, Nat.testBit_eq_decide_div_mod_eq]; repeat' (first | omega | (intro x hx; omega) | refine And.intro ?_ ?_))) ?_
        simp -implicitDefEqProofs only [hlt, hy, w1, n0, n1, n2, B0, B1, B2, go_sem, Nat.reduceEqDiff, ↓reduceIte]
        exact ⟨k + 1, by omega, rfl, by omega, by omega, ⟨B0, B1, B2⟩⟩
      · simp -implicitDefEqProofs only [hlt, hy, w1, n0, n1, n2, B0, B1, B2, go_sem, Nat.reduceEqDiff, ↓reduceIte]
        refine andI_intro (by (simp [indepB, indep1, apart1, Nat.testBit_eq_decide_div_mod_eq]; repeat' (first | omega | (intro x hx; omega) | refine And.intro ?_ ?_))) ?_
        simp -implicitDefEqProofs only [hlt, hy, w1, n0, n1, n2, B0, B1, B2, go_sem, Nat.reduceEqDiff, ↓reduceIte]
        exact ⟨k + 1, by omega, rfl, by omega, by omega, ⟨B0, B1, B2⟩⟩
    have hlt : ((k : Int) < (A1.length : Int)) = False := eq_false (by omega)
    simp -implicitDefEqProofs only [hlt, go_sem, Nat.reduceEqDiff, ↓reduceIte]
end W12
