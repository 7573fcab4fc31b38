/- Searches in lists: the library's and the document's. -/
import Derived.Test.YtaaobfeieelolaaFx
set_option linter.unusedSimpArgs false
set_option linter.unusedVariables false
namespace W11
open Go Go.AX Go.AX.Ty Go.Proofs

def idxOf {α : Type} (p : α → Bool) (l : List α) : Int := match l.findIdx? p with
  | some i => i
  | none => -1
/-- none of the first ones -/
def Pre {α : Type} (p : α → Bool) (l : List α) (k : Nat) : Prop := ∀ y ∈ l.take k, p y = false
theorem Pre.zero {α : Type} (p : α → Bool) (l : List α) : Pre p l 0 := by simp [Pre]
theorem Pre.next {α : Type} {p : α → Bool} {l : List α} {k : Nat} {x : α} (hb : Pre p l k) (hx : l[k]? = some x) (hp : p x = false) : Pre p l (k + 1) := by
  intro y hy
  rw [List.take_add_one, hx] at hy
  simp only [Option.toList_some, List.mem_append, List.mem_singleton] at hy
  rcases hy with h | h
  · exact hb y h
  · rw [h]; exact hp
theorem Pre.all {α : Type} {p : α → Bool} {l : List α} {k : Nat} (hb : Pre p l k) (hk : k ≥ l.length) : ∀ y ∈ l, p y = false := by
  unfold Pre at hb; rwa [List.take_of_length_le hk] at hb
theorem idx_here {α : Type} {p : α → Bool} {l : List α} {k : Nat} {x : α} (hx : l[k]? = some x) (hp : p x = true) (hb : Pre p l k) : idxOf p l = k := by
  have : l.findIdx? p = some k := by
    rw [List.findIdx?_eq_some_iff_getElem]
    have hk : k < l.length := by
      rcases Nat.lt_or_ge k l.length with h | h
      · exact h
      · rw [List.getElem?_eq_none h] at hx; simp at hx
    have hg : l[k] = x := by rw [List.getElem?_eq_getElem hk] at hx; simpa using hx
    refine ⟨hk, by rw [hg]; exact hp, fun j hj => ?_⟩
    have : l[j] ∈ l.take k := by
      rw [List.mem_take_iff_getElem]
      exact ⟨j, by omega, rfl⟩
    simp [hb _ this]
  simp [idxOf, this]
theorem idx_none {α : Type} {p : α → Bool} {l : List α} (hb : ∀ y ∈ l, p y = false) : idxOf p l = -1 := by
  have : l.findIdx? p = none := List.findIdx?_eq_none_iff.2 hb
  simp [idxOf, this]
theorem idx_any {α : Type} {p : α → Bool} {l : List α} : decide (idxOf p l ≥ 0) = l.any p := by
  unfold idxOf
  cases h : l.findIdx? p with
  | none =>
    have := List.findIdx?_eq_none_iff.1 h
    have h2 : l.any p = false := by rw [List.any_eq_false]; intro x hx; simp [this x hx]
    rw [h2]; rfl
  | some i =>
    obtain ⟨hi, hp, _⟩ := List.findIdx?_eq_some_iff_getElem.1 h
    have h2 : l.any p = true := List.any_eq_true.2 ⟨l[i], List.getElem_mem hi, hp⟩
    rw [h2]; simp
theorem idx_cases {α : Type} (p : α → Bool) (l : List α) : (idxOf p l = -1 ∧ ∀ y ∈ l, p y = false) ∨ ∃ i x, idxOf p l = (i : Nat) ∧ i < l.length ∧ l[i]? = some x ∧ p x = true ∧ Pre p l i := by
  cases h : l.findIdx? p with
  | none =>
    have := List.findIdx?_eq_none_iff.1 h
    exact .inl ⟨idx_none this, this⟩
  | some i =>
    obtain ⟨hi, hp, hq⟩ := List.findIdx?_eq_some_iff_getElem.1 h
    refine .inr ⟨i, l[i], by simp [idxOf, h], hi, by simp [hi], hp, fun y hy => ?_⟩
    obtain ⟨j, hj, rfl⟩ := List.mem_take_iff_getElem.1 hy
    have := hq j (by omega)
    simpa using this
theorem any_here {α : Type} {p : α → Bool} {l : List α} {x : α} (hm : x ∈ l) (hp : p x = true) : l.any p = true := List.any_eq_true.2 ⟨x, hm, hp⟩
theorem any_no {α : Type} {p : α → Bool} {l : List α} (hb : ∀ y ∈ l, p y = false) : l.any p = false := by
  rw [List.any_eq_false]; intro x hx; simp [hb x hx]
theorem w_index_str (v : Str) (l : List Str) (hl : l.length ≤ 140737488355328) : PureF Try.prog 49 [Enc.av l, Enc.av v] (.int .i64 (idxOf (fun x => v == x) l)) := by
  refine pureF_W mix c49 (by kernel_rfl) (by kernel_rfl) (by simp [flats, flat_av, Go.AX.flat]) (by first | exact flat_av _ | simp [flat, flats, flat_av]) ?_
  simp -implicitDefEqProofs only [F49, go_sem, Int.reduceNeg, reduceCtorEq, ↓reduceIte]
  refine LoopI_sl (fun k : Nat => l.length - k) (fun k => [(0, Enc.av l), (1, Enc.av v), (7, .int .i64 l.length), (8, .int .i64 k)]) (fun k s => k ≤ l.length ∧ Pre (fun x => v == x) l k) 0 ?_ ?_
  · simp -implicitDefEqProofs only [go_sem, Nat.reduceEqDiff, reduceCtorEq, ↓reduceIte]
    exact Pre.zero _ _
  rintro k ρ s ⟨h1, h2⟩
  rcases Nat.lt_or_ge k l.length with hk | hk
  · obtain ⟨x, hx, hd, hm⟩ := get_drop hk
    have hlt : ((k : Int) < (l.length : Int)) = True := eq_true (by omega)
    have w1 : IntKind.i64.wrap ((k : Int) + 1) = ((k + 1 : Nat) : Int) := by rw [wrap64 (by omega) (by omega)]; omega
    simp -implicitDefEqProofs only [hlt, hx, w1, go_sem, Nat.reduceEqDiff, reduceCtorEq, ↓reduceIte]
    (refine brI_both (fun h hT => ?_) (fun h hT => ?_) <;> try simp -implicitDefEqProofs only [hT, w1, go_sem, Nat.reduceEqDiff, reduceCtorEq, ↓reduceIte] <;> try clear hT)
    · rw [idx_here hx (by simpa using h) h2]
    · exact ⟨k + 1, by omega, rfl, by omega, h2.next hx (by simpa using h)⟩
  · have hlt : ((k : Int) < (l.length : Int)) = False := eq_false (by omega)
    simp -implicitDefEqProofs only [hlt, go_sem, Int.reduceNeg, Nat.reduceEqDiff, reduceCtorEq, ↓reduceIte]
    rw [idx_none (h2.all hk)]
theorem w_In (v : Str) (l : List Str) (hl : l.length ≤ 140737488355328) : PureF Try.prog 24 [Enc.av l, Enc.av v] (.bool (l.any (fun x => x == v))) := by
  refine pureF_W mix c24 (by kernel_rfl) (by kernel_rfl) (by simp [flats, flat_av, Go.AX.flat]) (by first | exact flat_av _ | simp [flat, flats, flat_av]) ?_
  simp -implicitDefEqProofs only [F24, go_sem]
  refine LoopI_sl (fun k : Nat => l.length - k) (fun k => [(0, Enc.av l), (1, Enc.av v), (5, .int .i64 k)]) (fun k s => k ≤ l.length ∧ Pre (fun x => x == v) l k) 0 ?_ ?_
  · simp -implicitDefEqProofs only [go_sem, Nat.reduceEqDiff, reduceCtorEq, ↓reduceIte]
    exact Pre.zero _ _
  rintro k ρ s ⟨h1, h2⟩
  rcases Nat.lt_or_ge k l.length with hk | hk
  · obtain ⟨x, hx, hd, hm⟩ := get_drop hk
    have hlt : ((k : Int) < (l.length : Int)) = True := eq_true (by omega)
    have w1 : IntKind.i64.wrap ((k : Int) + 1) = ((k + 1 : Nat) : Int) := by rw [wrap64 (by omega) (by omega)]; omega
    simp -implicitDefEqProofs only [hlt, hx, w1, go_sem, Nat.reduceEqDiff, reduceCtorEq, ↓reduceIte]
    (refine brI_both (fun h hT => ?_) (fun h hT => ?_) <;> try simp -implicitDefEqProofs only [hT, w1, go_sem, Nat.reduceEqDiff, reduceCtorEq, ↓reduceIte] <;> try clear hT)
    · rw [any_here hm (by simpa using h)]
    · exact ⟨k + 1, by omega, rfl, by omega, h2.next hx (by simpa using h)⟩
  · have hlt : ((k : Int) < (l.length : Int)) = False := eq_false (by omega)
    simp -implicitDefEqProofs only [hlt, go_sem, Nat.reduceEqDiff, reduceCtorEq, ↓reduceIte]
    rw [any_no (h2.all hk)]
end W11
/- Nodes, attributes. -/
set_option linter.unusedSimpArgs false
set_option linter.unusedVariables false
namespace W11
open Go Go.AX Go.AX.Ty Go.Proofs

abbrev Page := List Ty.Node
def nodeAt (p : Page) (n : Int) : Option Ty.Node := if 0 ≤ n then p[n.toNat]? else none
def elemB (p : Page) (n : Int) : Bool := match nodeAt p n with
  | some x => decide (x.name ≠ [])
  | none => false
theorem nodeAt_nat (p : Page) (k : Nat) : nodeAt p (k : Int) = p[k]? := by simp [nodeAt]
theorem nodeAt_neg {p : Page} {n : Int} (h : ¬ 0 ≤ n) : nodeAt p n = none := by simp [nodeAt, h]
theorem node_cases (p : Page) (n : Int) : (nodeAt p n = none ∧ (¬ 0 ≤ n ∨ ¬ n < p.length)) ∨ ∃ k x, n = (k : Nat) ∧ k < p.length ∧ p[k]? = some x ∧ nodeAt p n = some x := by
  by_cases h : 0 ≤ n
  · obtain ⟨k, rfl⟩ := Int.eq_ofNat_of_zero_le h
    rcases Nat.lt_or_ge k p.length with hk | hk
    · exact .inr ⟨k, p[k], rfl, hk, by simp [hk], by rw [nodeAt_nat]; simp [hk]⟩
    · exact .inl ⟨by rw [nodeAt_nat]; simp [hk], .inr (by omega)⟩
  · exact .inl ⟨nodeAt_neg h, .inl h⟩
theorem w_Element (p : Page) (n : Int) : PureF Try.prog 29 [Enc.av p, Enc.av n] (.bool (elemB p n)) := by
  refine pureF_W mix c29 (by kernel_rfl) (by kernel_rfl) (by simp [flats, flat_av, Go.AX.flat]) (by first | exact flat_av _ | simp [flat, flats, flat_av]) ?_
  rcases node_cases p n with ⟨e, h⟩ | ⟨k, x, rfl, hk, hx, e⟩
  · have e2 : elemB p n = false := by simp [elemB, e]
    rw [e2]
    simp -implicitDefEqProofs only [F29, go_sem, Nat.reduceEqDiff, ↓reduceIte]
    repeat' (refine brI_both (fun h hT => ?_) (fun h hT => ?_) <;> try simp -implicitDefEqProofs only [hT, go_sem, Nat.reduceEqDiff, reduceCtorEq, ↓reduceIte] <;> try clear hT)
    all_goals (first | omega | (exfalso; omega))
  · have hlt : ((k : Int) < (p.length : Int)) = True := eq_true (by omega)
    have hge : ((k : Int) ≥ 0) = True := eq_true (by omega)
    have e2 : elemB p k = decide (x.name ≠ []) := by simp [elemB, e]
    rw [e2]
    simp -implicitDefEqProofs only [F29, hlt, hge, hx, go_sem, Nat.reduceEqDiff, reduceCtorEq, ↓reduceIte]
    by_cases h : x.name = [] <;> simp [h]
theorem w_rElement (p : Page) (n : Int) : PureF Try.prog 22 [Enc.av p, Enc.av n] (.bool (elemB p n)) := by
  refine pureF_W mix c22 (by kernel_rfl) (by kernel_rfl) (by simp [flats, flat_av, Go.AX.flat]) (by first | exact flat_av _ | simp [flat, flats, flat_av]) ?_
  rcases node_cases p n with ⟨e, h⟩ | ⟨k, x, rfl, hk, hx, e⟩
  · have e2 : elemB p n = false := by simp [elemB, e]
    rw [e2]
    simp -implicitDefEqProofs only [F22, go_sem, Nat.reduceEqDiff, ↓reduceIte]
    repeat' (refine brI_both (fun h hT => ?_) (fun h hT => ?_) <;> try simp -implicitDefEqProofs only [hT, go_sem, Nat.reduceEqDiff, reduceCtorEq, ↓reduceIte] <;> try clear hT)
    all_goals (first | omega | (exfalso; omega))
  · have hlt : ((k : Int) < (p.length : Int)) = True := eq_true (by omega)
    have hge : ((k : Int) ≥ 0) = True := eq_true (by omega)
    have e2 : elemB p k = decide (x.name ≠ []) := by simp [elemB, e]
    rw [e2]
    simp -implicitDefEqProofs only [F22, hlt, hge, hx, go_sem, Nat.reduceEqDiff, reduceCtorEq, ↓reduceIte]
    by_cases h : x.name = [] <;> simp [h]
end W11
/- Attributes, classes. -/
set_option linter.unusedSimpArgs false
set_option linter.unusedVariables false
namespace W11
open Go Go.AX Go.AX.Ty Go.Proofs

theorem w_attr1 (a : Attr) (v : Str) : PureF Try.prog 78 [Enc.av a, .vp [.str v]] (.bool (a.name == v)) := by
  refine pureF_W mix c78 (by kernel_rfl) (by kernel_rfl) (by simp [flats, flat_av, Go.AX.flat]) (by first | exact flat_av _ | simp [flat, flats, flat_av]) ?_
  simp -implicitDefEqProofs only [F78, go_sem, Nat.reduceAdd, Nat.reduceEqDiff, ↓reduceIte]

theorem w_idxF_Attr (g : Nat) (cs : List AV) (p : Attr → Bool) (hcs : flats cs = true) (l : List Attr) (hp : ∀ x ∈ l, PureF Try.prog g [Enc.av x, .vp cs] (.bool (p x))) (hl : l.length ≤ 140737488355328) :
    PureF Try.prog 77 [Enc.av l, .fn (.func g) [] [.vp cs]] (.int .i64 (idxOf p l)) := by
  refine pureF_W mix c77 (by kernel_rfl) (by kernel_rfl) (by simp [flats, flat_av, Go.AX.flat, hcs]) (by first | exact flat_av _ | simp [flat, flats, flat_av]) ?_
  simp -implicitDefEqProofs only [F77, go_sem, Int.reduceNeg, reduceCtorEq, ↓reduceIte]
  refine LoopI_sl (fun k : Nat => l.length - k) (fun k => [(0, Enc.av l), (1, .fn (.func g) [] [.vp cs]), (7, .int .i64 l.length), (8, .int .i64 k)]) (fun k s => k ≤ l.length ∧ Pre p l k) 0 ?_ ?_
  · simp -implicitDefEqProofs only [go_sem, Nat.reduceEqDiff, reduceCtorEq, ↓reduceIte]
    exact Pre.zero _ _
  rintro k ρ ⟨hh, mm⟩ ⟨h1, h2⟩
  rcases Nat.lt_or_ge k l.length with hk | hk
  · obtain ⟨x, hx, hd, hm⟩ := get_drop hk
    have hlt : ((k : Int) < (l.length : Int)) = True := eq_true (by omega)
    have w1 : IntKind.i64.wrap ((k : Int) + 1) = ((k + 1 : Nat) : Int) := by rw [wrap64 (by omega) (by omega)]; omega
    simp -implicitDefEqProofs only [hlt, hx, w1, go_sem, Nat.reduceEqDiff, Nat.reduceLeDiff, reduceCtorEq, ↓reduceIte]
    refine callI_pure (hp x hm) ?_
    simp -implicitDefEqProofs only [go_sem, ↓reduceIte]
    (refine brI_both (fun h hT => ?_) (fun h hT => ?_) <;> try simp -implicitDefEqProofs only [hT, w1, go_sem, Nat.reduceEqDiff, reduceCtorEq, ↓reduceIte] <;> try clear hT)
    · rw [idx_here hx h h2]
    · exact ⟨k + 1, by omega, rfl, by omega, h2.next hx (by simpa using h)⟩
  · have hlt : ((k : Int) < (l.length : Int)) = False := eq_false (by omega)
    simp -implicitDefEqProofs only [hlt, go_sem, Int.reduceNeg, Nat.reduceEqDiff, reduceCtorEq, ↓reduceIte]
    rw [idx_none (h2.all hk)]

def attrB (p : Page) (n : Int) (v : Str) : Str × Bool := match nodeAt p n with
  | some x => if x.name = [] then ([], false) else match x.attrs.find? (fun a => a.name == v) with
    | some a => (a.value, true)
    | none => ([], false)
  | none => ([], false)
theorem find_of_idx {α : Type} {p : α → Bool} {l : List α} {i : Nat} {x : α} (hx : l[i]? = some x) (hp : p x = true) (hb : Pre p l i) : l.find? p = some x := by
  rw [List.find?_eq_some_iff_append]
  have hi : i < l.length := by
    rcases Nat.lt_or_ge i l.length with h | h
    · exact h
    · rw [List.getElem?_eq_none h] at hx; simp at hx
  have hg : l[i] = x := by rw [List.getElem?_eq_getElem hi] at hx; simpa using hx
  refine ⟨hp, l.take i, l.drop (i + 1), ?_, fun a ha => by simp [hb a ha]⟩
  rw [← hg, ← List.drop_eq_getElem_cons hi, List.take_append_drop]

theorem w_Attr (p : Page) (hp : Enc.ok p) (n : Int) (v : Str) : PureF Try.prog 52 [Enc.av p, Enc.av n, Enc.av v] (.tup [.str (attrB p n v).1, .bool (attrB p n v).2]) := by
  refine pureF_W mix c52 (by kernel_rfl) (by kernel_rfl) (by simp [flats, flat_av, Go.AX.flat]) (by first | exact flat_av _ | simp [flat, flats, flat_av]) ?_
  simp -implicitDefEqProofs only [F52, go_sem, Nat.reduceEqDiff, reduceCtorEq, ↓reduceIte]
  refine callI_pure (w_Element p n) ?_
  simp -implicitDefEqProofs only [go_sem, ↓reduceIte]
  rcases node_cases p n with ⟨e, h⟩ | ⟨k, x, rfl, hk, hx, e⟩
  · have e2 : elemB p n = false := by simp [elemB, e]
    have e3 : attrB p n v = ([], false) := by simp [attrB, e]
    rw [e3]
    simp -implicitDefEqProofs only [e2, go_sem, Nat.reduceEqDiff, ↓reduceIte]
  · have e2 : elemB p k = decide (x.name ≠ []) := by simp [elemB, e]
    by_cases hn : x.name = []
    · have e3 : attrB p k v = ([], false) := by simp [attrB, e, hn]
      have e4 : elemB p k = false := by rw [e2]; simp [hn]
      rw [e3]
      simp -implicitDefEqProofs only [e4, go_sem, Nat.reduceEqDiff, ↓reduceIte]
    · have e4 : elemB p k = true := by rw [e2]; simp [hn]
      have hok := (Node.ok_iff x).1 (hp.2 x (List.mem_of_getElem? hx))
      simp -implicitDefEqProofs only [e4, hx, go_sem, Nat.reduceEqDiff, reduceCtorEq, ↓reduceIte]
      refine callI_d (w_idxF_Attr 78 [.str v] (fun a => a.name == v) rfl x.attrs (fun a _ => w_attr1 a v) hok.2.1.1) ?_
      simp -implicitDefEqProofs only [go_sem, Nat.reduceEqDiff, ↓reduceIte]
      rcases idx_cases (fun a : Attr => a.name == v) x.attrs with ⟨i1, i2⟩ | ⟨i, y, i1, i2, i3, i4, i5⟩
      · have e3 : attrB p k v = ([], false) := by
          simp only [attrB, e, if_neg hn]
          rw [List.find?_eq_none.2 (fun a ha => by simp [i2 a ha])]
        rw [e3, i1]
        simp -implicitDefEqProofs only [go_sem, Int.reduceLT, Int.reduceNeg, Nat.reduceEqDiff, ↓reduceIte]
      · have e3 : attrB p k v = (y.value, true) := by
          simp only [attrB, e, if_neg hn]
          rw [find_of_idx i3 i4 i5]
        have hge : ((i : Int) < 0) = False := eq_false (by omega)
        rw [e3, i1]
        simp -implicitDefEqProofs only [hx, i3, hge, go_sem, Nat.reduceEqDiff, reduceCtorEq, ↓reduceIte]
end W11
/- Attributes, states: the document's; what is in a list. -/
set_option linter.unusedSimpArgs false
set_option linter.unusedVariables false
namespace W11
open Go Go.AX Go.AX.Ty Go.Proofs

theorem w_contains_str (l : List Str) (v : Str) (hl : l.length ≤ 140737488355328) : PureF Try.prog 31 [Enc.av l, Enc.av v] (.bool (l.any fun x => v == x)) := by
  refine pureF_W mix c31 (by kernel_rfl) (by kernel_rfl) (by simp [flats, flat_av, Go.AX.flat]) (by first | exact flat_av _ | simp [flat, flats, flat_av]) ?_
  simp -implicitDefEqProofs only [F31, go_sem, Nat.reduceEqDiff, reduceCtorEq, ↓reduceIte]
  refine callI_pure (w_index_str v l hl) ?_
  simp -implicitDefEqProofs only [go_sem, ↓reduceIte]
  rw [idx_any]

theorem w_rAttr (p : Page) (hp : Enc.ok p) (n : Int) (v : Str) : PureF Try.prog 25 [Enc.av p, Enc.av n, Enc.av v] (.tup [.str (attrB p n v).1, .bool (attrB p n v).2]) := by
  refine pureF_W mix c25 (by kernel_rfl) (by kernel_rfl) (by simp [flats, flat_av, Go.AX.flat]) (by first | exact flat_av _ | simp [flat, flats, flat_av]) ?_
  simp -implicitDefEqProofs only [F25, go_sem, Nat.reduceEqDiff, reduceCtorEq, ↓reduceIte]
  refine callI_pure (w_rElement p n) ?_
  simp -implicitDefEqProofs only [go_sem, ↓reduceIte]
  rcases node_cases p n with ⟨e, h⟩ | ⟨k, x, rfl, hk, hx, e⟩
  · have e2 : elemB p n = false := by simp [elemB, e]
    have e3 : attrB p n v = ([], false) := by simp [attrB, e]
    rw [e3]
    simp -implicitDefEqProofs only [e2, go_sem, Nat.reduceEqDiff, ↓reduceIte]
  · have e2 : elemB p k = decide (x.name ≠ []) := by simp [elemB, e]
    by_cases hn : x.name = []
    · have e3 : attrB p k v = ([], false) := by simp [attrB, e, hn]
      have e4 : elemB p k = false := by rw [e2]; simp [hn]
      rw [e3]
      simp -implicitDefEqProofs only [e4, go_sem, Nat.reduceEqDiff, ↓reduceIte]
    · have e4 : elemB p k = true := by rw [e2]; simp [hn]
      have hok := (Node.ok_iff x).1 (hp.2 x (List.mem_of_getElem? hx))
      have hl := hok.2.1.1
      simp -implicitDefEqProofs only [e4, hx, go_sem, Nat.reduceEqDiff, reduceCtorEq, ↓reduceIte]
      refine LoopI_sl (fun j : Nat => x.attrs.length - j) (fun j => [(2, Enc.av v), (8, Enc.av x.attrs), (9, .int .i64 j)]) (fun j s => j ≤ x.attrs.length ∧ Pre (fun a : Attr => a.name == v) x.attrs j) 0 ?_ ?_
      · simp -implicitDefEqProofs only [go_sem, Nat.reduceEqDiff, ↓reduceIte]
        exact Pre.zero _ _
      rintro j ρ ⟨hh, mm⟩ ⟨h1, h2⟩
      rcases Nat.lt_or_ge j x.attrs.length with hj | hj
      · obtain ⟨y, hy, hd, hm⟩ := get_drop hj
        have hlt : ((j : Int) < (x.attrs.length : Int)) = True := eq_true (by omega)
        have w1 : IntKind.i64.wrap ((j : Int) + 1) = ((j + 1 : Nat) : Int) := by rw [wrap64 (by omega) (by omega)]; omega
        simp -implicitDefEqProofs only [hlt, hy, w1, go_sem, Nat.reduceEqDiff, ↓reduceIte]
        (refine brI_both (fun h hT => ?_) (fun h hT => ?_) <;> try simp -implicitDefEqProofs only [hT, w1, hy, go_sem, Nat.reduceEqDiff, ↓reduceIte] <;> try clear hT)
        · have e3 : attrB p k v = (y.value, true) := by
            simp only [attrB, e, if_neg hn]
            rw [find_of_idx hy (by simpa using h) h2]
          rw [e3]
        · exact ⟨j + 1, by omega, rfl, by omega, h2.next hy (by simpa using h)⟩
      · have hlt : ((j : Int) < (x.attrs.length : Int)) = False := eq_false (by omega)
        have e3 : attrB p k v = ([], false) := by
          simp only [attrB, e, if_neg hn]
          rw [List.find?_eq_none.2 (fun a ha => by simp [h2.all hj a ha])]
        rw [e3]
        simp -implicitDefEqProofs only [hlt, go_sem, Nat.reduceEqDiff, ↓reduceIte]
end W11
/- Words of texts: plain laws. -/
set_option linter.unusedSimpArgs false
set_option linter.unusedVariables false
namespace W11
open Go Go.AX Go.AX.Ty Go.Proofs

def blankB (c : UInt8) : Bool := c == 32 || c == 9 || c == 10 || c == 12 || c == 13
def wordsGo : Str → Str → List Str
  | [], acc => if acc = [] then [] else [acc]
  | c :: r, acc => if blankB c = true then (if acc = [] then wordsGo r [] else acc :: wordsGo r []) else wordsGo r (acc ++ [c])
def wordsB (s : Str) : List Str := wordsGo s []
theorem wordsGo_run : ∀ (a r acc : Str), (∀ c ∈ a, blankB c = false) → wordsGo (a ++ r) acc = wordsGo r (acc ++ a)
  | [], r, acc, _ => by simp
  | c :: a, r, acc, h => by
    have h1 := h c (by simp)
    show wordsGo (c :: (a ++ r)) acc = _
    rw [wordsGo, if_neg (by simp [h1]), wordsGo_run a r _ fun x hx => h x (by simp [hx])]
    simp

theorem decL_spec (b : UInt8) (l : List UInt8) : (b.toNat < 128 ∧ decL (b :: l) = (b.toNat, 1)) ∨ (128 ≤ b.toNat ∧ 128 ≤ (decL (b :: l)).1 ∧ (decL (b :: l)).1 ≤ 1114111 ∧ Utf8.valid (decL (b :: l)).1 = true ∧ 1 ≤ (decL (b :: l)).2 ∧ (decL (b :: l)).2 ≤ (b :: l).length ∧ ∀ c ∈ (b :: l).take (decL (b :: l)).2, 128 ≤ c.toNat) := by
  have hc : ∀ k, (decide (k < (b :: l).length) && ((b :: l).getD k 0).toNat / 64 == 2) = true → k < (b :: l).length ∧ 128 ≤ ((b :: l).getD k 0).toNat := fun k h => by
    simp only [Bool.and_eq_true, decide_eq_true_eq, beq_iff_eq] at h
    omega
  have ht : ∀ n, n ≤ (b :: l).length → (∀ k, k < n → 128 ≤ ((b :: l).getD k 0).toNat) → ∀ c ∈ (b :: l).take n, 128 ≤ c.toNat := fun n hn h c hc => by
    obtain ⟨i, hi, rfl⟩ := List.mem_take_iff_getElem.1 hc
    have := h i (by omega)
    rwa [List.getD_eq_getElem?_getD, List.getElem?_eq_getElem (by omega)] at this
  by_cases h0 : b.toNat < 128
  · left; exact ⟨h0, by simp [decL, h0]⟩
  right
  refine ⟨by omega, ?_⟩
  have hb : ((b :: l).getD 0 0).toNat = b.toNat := rfl
  have one : (65533, 1) = decL (b :: l) → 128 ≤ (decL (b :: l)).1 ∧ (decL (b :: l)).1 ≤ 1114111 ∧ Utf8.valid (decL (b :: l)).1 = true ∧ 1 ≤ (decL (b :: l)).2 ∧ (decL (b :: l)).2 ≤ (b :: l).length ∧ ∀ c ∈ (b :: l).take (decL (b :: l)).2, 128 ≤ c.toNat := fun e => by
    rw [← e]
    refine ⟨by decide, by decide, by decide, by decide, by simp, ht 1 (by simp) fun k hk => ?_⟩
    rw [show k = 0 by omega, hb]; omega
  unfold decL at one ⊢
  simp only [hb] at one ⊢
  rw [if_neg h0] at one ⊢
  split
  · rename_i h1
    simp only [Bool.and_eq_true] at h1
    obtain ⟨k1, c1⟩ := hc 1 (by simpa using h1.2)
    split
    · rename_i h2
      simp only
      have := ((b :: l).getD 1 0).toNat_lt
      refine ⟨by omega, by omega, ?_, by omega, by omega, ht 2 (by omega) fun k hk => ?_⟩
      · simp only [Utf8.valid, Bool.or_eq_true, Bool.and_eq_true, decide_eq_true_eq]; omega
      · rcases Nat.lt_or_ge k 1 with h | h
        · rw [show k = 0 by omega, hb]; omega
        · rw [show k = 1 by omega]; exact c1
    · rename_i h2
      rw [if_pos (by simp only [Bool.and_eq_true]; exact h1), if_neg h2] at one
      exact one rfl
  · rename_i h1
    rw [if_neg h1] at one
    split
    · rename_i h3
      simp only [Bool.and_eq_true] at h3
      obtain ⟨k1, c1⟩ := hc 1 (by simpa using h3.1.2)
      obtain ⟨k2, c2⟩ := hc 2 (by simpa using h3.2)
      split
      · rename_i h2
        simp only [Bool.and_eq_true, decide_eq_true_eq] at h2
        simp only
        refine ⟨by omega, ?_, h2.2, by omega, by omega, ht 3 (by omega) fun k hk => ?_⟩
        · omega
        · rcases Nat.lt_or_ge k 1 with h | h
          · rw [show k = 0 by omega, hb]; omega
          · rcases Nat.lt_or_ge k 2 with h' | h'
            · rw [show k = 1 by omega]; exact c1
            · rw [show k = 2 by omega]; exact c2
      · rename_i h2
        rw [if_pos (by simp only [Bool.and_eq_true]; exact h3), if_neg h2] at one
        exact one rfl
    · rename_i h3
      rw [if_neg h3] at one
      split
      · rename_i h4
        simp only [Bool.and_eq_true] at h4
        obtain ⟨k1, c1⟩ := hc 1 (by simpa using h4.1.1.2)
        obtain ⟨k2, c2⟩ := hc 2 (by simpa using h4.1.2)
        obtain ⟨k3, c3⟩ := hc 3 (by simpa using h4.2)
        split
        · rename_i h2
          simp only [Bool.and_eq_true, decide_eq_true_eq] at h2
          simp only
          refine ⟨by omega, ?_, h2.2, by omega, by omega, ht 4 (by omega) fun k hk => ?_⟩
          · have := h2.2
            simp only [Utf8.valid, Bool.or_eq_true, Bool.and_eq_true, decide_eq_true_eq] at this
            omega
          · rcases Nat.lt_or_ge k 1 with h | h
            · rw [show k = 0 by omega, hb]; omega
            · rcases Nat.lt_or_ge k 2 with h' | h'
              · rw [show k = 1 by omega]; exact c1
              · rcases Nat.lt_or_ge k 3 with h'' | h''
                · rw [show k = 2 by omega]; exact c2
                · rw [show k = 3 by omega]; exact c3
        · rename_i h2
          rw [if_pos (by simp only [Bool.and_eq_true]; exact h4), if_neg h2] at one
          exact one rfl
      · rename_i h4
        rw [if_neg h4] at one
        exact one rfl
end W11
/- Words of texts: the library's. -/
set_option linter.unusedSimpArgs false
set_option linter.unusedVariables false
namespace W11
open Go Go.AX Go.AX.Ty Go.Proofs

theorem ofNat_last (n : Nat) : 128 ≤ (UInt8.ofNat (128 + n % 64)).toNat := by
  have : n % 64 < 64 := Nat.mod_lt _ (by decide)
  simp [UInt8.toNat_ofNat]; omega
theorem encL_spec (r : Int) (h1 : 128 ≤ r) (hv : Utf8.valid r = true) : (∃ a b, encL r = [a, b] ∧ 128 ≤ b.toNat) ∨ (∃ a b c, encL r = [a, b, c] ∧ 128 ≤ c.toNat) ∨ ∃ a b c d, encL r = [a, b, c, d] ∧ 128 ≤ d.toNat := by
  unfold encL Utf8.encode
  rw [if_pos hv]
  simp only
  rw [if_neg (by omega)]
  split
  · exact .inl ⟨_, _, rfl, ofNat_last _⟩
  · split
    · exact .inr (.inl ⟨_, _, _, rfl, ofNat_last _⟩)
    · exact .inr (.inr ⟨_, _, _, _, rfl, ofNat_last _⟩)
abbrev blanks : Str := [32, 10, 9, 12, 13]
theorem idxL_far : ∀ (l : Str) (c : UInt8) (i : Nat), (∀ x ∈ l, x.toNat < 128) → 128 ≤ c.toNat → idxL c l i = -1
  | [], c, i, _, _ => rfl
  | x :: r, c, i, h, hc => by
    have := h x (by simp)
    rw [idxL, if_neg (by intro e; subst e; omega)]
    exact idxL_far r c _ (fun y hy => h y (by simp [hy])) hc

theorem w_IndexByte0 (l : Str) (n : Int) : PureF Try.prog 100 [.str l, .int .u8 n] (.int .i64 (idxL (UInt8.ofNat n.toNat) l 0)) := by
  refine pureF_W mix c100 (by kernel_rfl) (by kernel_rfl) (by simp [flats, flat_av, Go.AX.flat]) (by first | exact flat_av _ | simp [flat, flats, flat_av]) ?_
  simp -implicitDefEqProofs only [F100, go_sem, Nat.reduceEqDiff, reduceCtorEq, ↓reduceIte]
theorem w_IndexByte (l : Str) (n : Int) : PureF Try.prog 92 [.str l, .int .u8 n] (.int .i64 (idxL (UInt8.ofNat n.toNat) l 0)) := by
  refine pureF_W mix c92 (by kernel_rfl) (by kernel_rfl) (by simp [flats, flat_av, Go.AX.flat]) (by first | exact flat_av _ | simp [flat, flats, flat_av]) ?_
  simp -implicitDefEqProofs only [F92, go_sem, Nat.reduceEqDiff, reduceCtorEq, ↓reduceIte]
  refine callI_pure (w_IndexByte0 l n) ?_
  simp -implicitDefEqProofs only [go_sem, ↓reduceIte]
theorem w_ValidRune (r : Int) (hv : Utf8.valid r = true) : PureF Try.prog 93 [.int .i32 r] (.bool true) := by
  simp only [Utf8.valid, Bool.or_eq_true, Bool.and_eq_true, decide_eq_true_eq] at hv
  refine pureF_W mix c93 (by kernel_rfl) (by kernel_rfl) (by simp [flats, flat_av, Go.AX.flat]) (by first | exact flat_av _ | simp [flat, flats, flat_av]) ?_
  simp -implicitDefEqProofs only [F93, go_sem, reduceCtorEq, ↓reduceIte]
  repeat' (refine brI_both (fun h hT => ?_) (fun h hT => ?_) <;> try simp -implicitDefEqProofs only [hT, go_sem, Nat.reduceEqDiff, reduceCtorEq, ↓reduceIte] <;> try clear hT)
  all_goals omega
theorem w_IndexRune (r : Int) (h0 : 0 ≤ r) (hv : Utf8.valid r = true) : PureF Try.prog 70 [.str blanks, .int .i32 r] (.int .i64 (if r < 128 then idxL (UInt8.ofNat r.toNat) blanks 0 else -1)) := by
  refine pureF_W mix c70 (by kernel_rfl) (by kernel_rfl) (by simp [flats, flat_av, Go.AX.flat]) (by first | exact flat_av _ | simp [flat, flats, flat_av]) ?_
  have g0 : (0 ≤ r) = True := eq_true h0
  by_cases h1 : r < 128
  · have g1 : (r < 128) = True := eq_true h1
    have g2 : IntKind.u8.wrap r = r := by simp [IntKind.wrap, IntKind.bits, IntKind.signed]; omega
    simp -implicitDefEqProofs only [F70, g0, g1, g2, go_sem, Int.reduceNeg, Nat.reduceEqDiff, reduceCtorEq, ↓reduceIte]
    refine callI_pure (w_IndexByte blanks r) ?_
    simp -implicitDefEqProofs only [go_sem, ↓reduceIte]
  have g1 : (r < 128) = False := eq_false h1
  rw [if_neg h1]
  by_cases h2 : r = 65533
  · have g2 : (r = 65533) = True := eq_true h2
    simp -implicitDefEqProofs only [F70, g0, g1, g2, go_sem, Int.reduceNeg, Nat.reduceEqDiff, reduceCtorEq, ↓reduceIte]
    rw [LoopI_def]
    refine ⟨6, ?_⟩
    have d1 : decL [32, 10, 9, 12, 13] = (32, 1) := rfl
    have d2 : decL [10, 9, 12, 13] = (10, 1) := rfl
    have d3 : decL [9, 12, 13] = (9, 1) := rfl
    have d4 : decL [12, 13] = (12, 1) := rfl
    have d5 : decL [13] = (13, 1) := rfl
    simp -implicitDefEqProofs only [d1, d2, d3, d4, d5, go_sem, Int.reduceBEq, Int.reduceNeg, Nat.reduceAdd, Nat.reduceEqDiff, Nat.reduceLT, ↓reduceIte]
  have g2 : (r = 65533) = False := eq_false h2
  simp -implicitDefEqProofs only [F70, g0, g1, g2, go_sem, Int.reduceNeg, Nat.reduceEqDiff, ↓reduceIte]
  refine callI_pure (w_ValidRune r hv) ?_
  simp -implicitDefEqProofs only [go_sem, Int.reduceNeg, Nat.reduceEqDiff, ↓reduceIte]
  have hI : ∀ (l : Str) (c : UInt8), (∀ x ∈ l, x.toNat < 128) → 128 ≤ c.toNat → PureF Try.prog 92 [.str l, .int .u8 (c.toNat : Int)] (.int .i64 (-1)) := fun l c h1 h2 =>
    (w_IndexByte l c.toNat).at (by rw [Int.toNat_natCast, UInt8.ofNat_toNat, idxL_far l c 0 h1 h2])
  rcases encL_spec r (by omega) hv with ⟨a, b, e, hb⟩ | ⟨a, b, c, e, hb⟩ | ⟨a, b, c, d, e, hb⟩
  all_goals
    simp -implicitDefEqProofs only [e, go_sem, Int.reduceLE, Int.reduceNeg, Int.reduceSub, Nat.reduceAdd]
    rw [LoopI_def]
    refine ⟨1, ?_⟩
    simp -implicitDefEqProofs only [go_sem, Int.reduceLE, Int.reduceLT, Int.reduceNeg, Int.reduceToNat, Nat.reduceAdd, Nat.reduceEqDiff, reduceCtorEq, ↓reduceIte]
    refine andI_intro (by kernel_rfl) ?_
    simp -implicitDefEqProofs only [go_sem, ↓reduceIte]
    refine brI_both (fun h hT => ?_) (fun h hT => ?_)
    · exfalso; simp at h; omega
    · simp -implicitDefEqProofs only [hT, go_sem, Int.reduceAdd, Int.reduceLE, Int.reduceNeg, Int.reduceToNat, Nat.reduceAdd, Nat.reduceEqDiff, Nat.reduceLeDiff, reduceCtorEq, ↓reduceIte]
      refine dcallI_pure (hI _ _ (by decide) hb) ?_
      simp -implicitDefEqProofs only [go_sem, Int.reduceNeg, ↓reduceIte]
      refine andI_intro (by kernel_rfl) ?_
      simp -implicitDefEqProofs only [go_sem, Int.reduceLT, Int.reduceNeg, ↓reduceIte]
end W11
/- Words of texts: the document's; what is a blank. -/
set_option linter.unusedSimpArgs false
set_option linter.unusedVariables false
namespace W11
open Go Go.AX Go.AX.Ty Go.Proofs

def runeBlank (r : Int) : Bool := decide (r < 128) && blankB (UInt8.ofNat r.toNat)
theorem idxL_blank (c : UInt8) : decide (idxL c blanks 0 ≥ 0) = blankB c := by
  simp only [idxL, blankB]
  by_cases h1 : c = 32
  · subst h1; rfl
  by_cases h2 : c = 10
  · subst h2; rfl
  by_cases h3 : c = 9
  · subst h3; rfl
  by_cases h4 : c = 12
  · subst h4; rfl
  by_cases h5 : c = 13
  · subst h5; rfl
  simp [h1, h2, h3, h4, h5, Ne.symm h1, Ne.symm h2, Ne.symm h3, Ne.symm h4, Ne.symm h5]
theorem w_ContainsRune (r : Int) (h0 : 0 ≤ r) (hv : Utf8.valid r = true) : PureF Try.prog 76 [.str blanks, .int .i32 r] (.bool (runeBlank r)) := by
  refine pureF_W mix c76 (by kernel_rfl) (by kernel_rfl) (by simp [flats, flat_av, Go.AX.flat]) (by first | exact flat_av _ | simp [flat, flats, flat_av]) ?_
  simp -implicitDefEqProofs only [F76, go_sem, Nat.reduceEqDiff, reduceCtorEq, ↓reduceIte]
  refine callI_pure (w_IndexRune r h0 hv) ?_
  simp -implicitDefEqProofs only [go_sem, Int.reduceNeg, ↓reduceIte]
  unfold runeBlank
  by_cases h : r < 128
  · rw [if_pos h, idxL_blank]; simp [h]
  · rw [if_neg h]; simp [h]
theorem w_Classes1 (r : Int) (h0 : 0 ≤ r) (hv : Utf8.valid r = true) : PureF Try.prog 75 [.int .i32 r] (.bool (runeBlank r)) := by
  refine pureF_W mix c75 (by kernel_rfl) (by kernel_rfl) (by simp [flats, flat_av, Go.AX.flat]) (by first | exact flat_av _ | simp [flat, flats, flat_av]) ?_
  simp -implicitDefEqProofs only [F75, go_sem, reduceCtorEq, ↓reduceIte]
  refine callI_pure (w_ContainsRune r h0 hv) ?_
  simp -implicitDefEqProofs only [go_sem, ↓reduceIte]
theorem blankB_nat (c : UInt8) : blankB c = (decide ((c.toNat : Int) = 32) || (decide ((c.toNat : Int) = 9) || (decide ((c.toNat : Int) = 10) || (decide ((c.toNat : Int) = 12) || decide ((c.toNat : Int) = 13))))) := by
  have e : ∀ k : UInt8, (c == k) = decide ((c.toNat : Int) = (k.toNat : Int)) := fun k => by
    rw [Bool.eq_iff_iff, beq_iff_eq, decide_eq_true_eq]; constructor
    · intro h; rw [h]
    · intro h; exact UInt8.toNat_inj.1 (by omega)
  simp only [blankB, e, Bool.or_assoc]; rfl
theorem w_Blank (c : UInt8) : PureF Try.prog 50 [.int .u8 c.toNat] (.bool (blankB c)) := by
  refine pureF_W mix c50 (by kernel_rfl) (by kernel_rfl) (by simp [flats, flat_av, Go.AX.flat]) (by first | exact flat_av _ | simp [flat, flats, flat_av]) ?_
  rw [blankB_nat]
  generalize (c.toNat : Int) = n
  simp -implicitDefEqProofs only [F50, go_sem, reduceCtorEq, ↓reduceIte]
  by_cases h1 : n = 32 <;> by_cases h2 : n = 9 <;> by_cases h3 : n = 10 <;> by_cases h4 : n = 12 <;> by_cases h5 : n = 13
  all_goals (try simp -implicitDefEqProofs only [h1, h2, h3, h4, h5, go_sem, Int.reduceBEq, Int.reduceEq, Nat.reduceEqDiff, reduceCtorEq, ↓reduceIte])
  all_goals (first | rfl | simp_all)

theorem w_Words (s : Str) (hl : s.length ≤ 1000000) : PureF Try.prog 38 [Enc.av s] (Enc.av (wordsB s)) := by
  refine pureF_W mix c38 (by kernel_rfl) (by kernel_rfl) (by simp [flats, flat_av, Go.AX.flat]) (by first | exact flat_av _ | simp [flat, flats, flat_av]) ?_
  simp -implicitDefEqProofs only [F38, go_sem, ↓reduceIte]
  refine LoopI_sl (fun p : List Str × Nat × Nat => s.length + 1 - p.2.2) (fun p => [(0, Enc.av s), (3, .sl 0 p.1.length 0 p.1.length 1), (4, .int .i64 p.2.1), (5, .int .i64 p.2.2)])
    (fun p st => p.2.2 ≤ s.length + 1 ∧ p.2.1 ≤ p.2.2 ∧ 1 ≤ st.next ∧ AX.look 0 st.heap = some (.cells p.1.length (cellsL p.1) false) ∧ p.1.length ≤ p.2.2 ∧
      (p.2.2 ≤ s.length → p.1 ++ wordsGo (s.drop p.2.2) ((s.take p.2.2).drop p.2.1) = wordsB s) ∧ (p.2.2 = s.length + 1 → p.1 = wordsB s)) ([], 0, 0) ?_ ?_
  · simp -implicitDefEqProofs only [cellsL, go_sem, Nat.reduceEqDiff, reduceCtorEq, ↓reduceIte]
    simp [wordsB]
  rintro ⟨out, a, i⟩ ρ ⟨g, m⟩ ⟨h1, h2, h3, h4, h5, h6, h7⟩
  dsimp only at h1 h2 h3 h4 h5 h6 h7
  have m0 : (m = 0) = False := eq_false (by omega)
  have hc : (cellsL out).length = out.length := by rw [cellsL_len]; simp [Enc.sz]
  have ht : List.take out.length (cellsL out) = cellsL out := List.take_of_length_le (by omega)
  have w1 : IntKind.i64.wrap ((i : Int) + 1) = ((i + 1 : Nat) : Int) := by rw [wrap64 (by omega) (by omega)]; omega
  rcases Nat.lt_or_ge s.length i with hi | hi
  · have hle : ((i : Int) ≤ (s.length : Int)) = False := eq_false (by omega)
    have := h7 (by omega)
    subst this
    simp -implicitDefEqProofs only [hle, h4, hc, ht, go_sem, Nat.reduceEqDiff, reduceCtorEq, ↓reduceIte]
    rw [viewIs_sl _ h4 (by omega), Nat.mul_one, ht]
  have hle : ((i : Int) ≤ (s.length : Int)) = True := eq_true (by omega)
  rcases Nat.lt_or_ge i s.length with hk | hk
  · obtain ⟨c, hx, hd, hm⟩ := get_drop hk
    have hne : ((i : Int) = (s.length : Int)) = False := eq_false (by omega)
    simp -implicitDefEqProofs only [hle, hne, hx, go_sem, Nat.reduceEqDiff, reduceCtorEq, ↓reduceIte]
    refine callI_pure (w_Blank c) ?_
    simp -implicitDefEqProofs only [hne, go_sem, Nat.reduceEqDiff, ↓reduceIte]
    have w2 : IntKind.i64.wrap ((i : Int) + 1) = ((i + 1 : Nat) : Int) := w1
    have hbd : ((out.length + 1) * 16 ≤ 140737488355328) = True := eq_true (by omega)
    have hmx : (out.length ≤ out.length) = True := eq_true (by omega)
    have hai : (a ≤ i) = True := eq_true h2
    have his : (i ≤ s.length) = True := eq_true (by omega)
    have hsn : ∀ x : Str, cellsL (out ++ [x]) = cellsL out ++ [.str x] := fun x => by rw [cellsL_append]; rfl
    have hacc : (s.take (i + 1)).drop a = (s.take i).drop a ++ [c] := by
      rw [List.take_add_one, hx]
      simp only [Option.toList_some]
      rw [List.drop_append_of_le_length (by rw [List.length_take]; omega)]
    refine brI_both (fun h hT => ?_) (fun h hT => ?_)
    · simp -implicitDefEqProofs only [hT, hne, go_sem, Nat.reduceEqDiff, reduceCtorEq, ↓reduceIte]
      refine brI_both (fun h' hT' => ?_) (fun h' hT' => ?_)
      · simp -implicitDefEqProofs only [hT', hai, his, h4, hc, ht, hbd, hmx, m0, w1, go_sem, Nat.reduceEqDiff, Nat.reduceLeDiff, reduceCtorEq, ↓reduceIte]
        refine ⟨(out ++ [(s.drop a).take (i - a)], i + 1, i + 1), by simp only; omega, ?_⟩
        have e : (s.drop a).take (i - a) = (s.take i).drop a := by rw [List.drop_take]
        simp only [List.length_append, List.length_cons, List.length_nil, hsn, Nat.zero_add, Nat.le_refl, and_true, true_and, eq_self]
        refine ⟨by omega, by omega, fun _ => ?_, fun _ => by omega⟩
        have h8 := h6 (by omega)
        rw [hd, wordsGo, if_pos h, if_neg (by rw [← List.length_eq_zero_iff, List.length_drop, List.length_take]; omega)] at h8
        rw [e, List.append_assoc, List.singleton_append, show List.drop (i + 1) (List.take (i + 1) s) = [] by rw [List.drop_eq_nil_iff, List.length_take]; omega]
        exact h8
      · simp -implicitDefEqProofs only [hT', w1, go_sem, Nat.reduceEqDiff, reduceCtorEq, ↓reduceIte]
        refine ⟨(out, i + 1, i + 1), by simp only; omega, ⟨rfl, rfl, rfl⟩, by simp only; omega, by simp only; omega, h3, h4, by simp only; omega, fun _ => ?_, fun _ => by simp only at *; omega⟩
        have h8 := h6 (by omega)
        have ea : (s.take i).drop a = [] := by rw [List.drop_eq_nil_iff, List.length_take]; omega
        rw [hd, wordsGo, if_pos h, if_pos ea] at h8
        simp only
        rw [show List.drop (i + 1) (List.take (i + 1) s) = [] by rw [List.drop_eq_nil_iff, List.length_take]; omega]
        exact h8
    · simp -implicitDefEqProofs only [hT, hne, w1, go_sem, Nat.reduceEqDiff, reduceCtorEq, ↓reduceIte]
      refine ⟨(out, a, i + 1), by simp only; omega, ⟨rfl, rfl, rfl⟩, by simp only; omega, by simp only; omega, h3, h4, by simp only; omega, fun _ => ?_, fun _ => by simp only at *; omega⟩
      have h8 := h6 (by omega)
      rw [hd, wordsGo, if_neg h] at h8
      simp only
      rw [hacc]
      exact h8
  · have hne : ((i : Int) = (s.length : Int)) = True := eq_true (by omega)
    have hil : i = s.length := by omega
    have hbd : ((out.length + 1) * 16 ≤ 140737488355328) = True := eq_true (by omega)
    have hmx : (out.length ≤ out.length) = True := eq_true (by omega)
    have hai : (a ≤ i) = True := eq_true h2
    have his : (i ≤ s.length) = True := eq_true (by omega)
    have hsn : ∀ x : Str, cellsL (out ++ [x]) = cellsL out ++ [.str x] := fun x => by rw [cellsL_append]; rfl
    have h8 := h6 (by omega)
    have e0 : s.drop i = [] := by rw [List.drop_eq_nil_iff]; omega
    rw [e0, wordsGo] at h8
    simp -implicitDefEqProofs only [hle, hne, go_sem, Nat.reduceEqDiff, reduceCtorEq, ↓reduceIte]
    refine brI_both (fun h' hT' => ?_) (fun h' hT' => ?_)
    · simp -implicitDefEqProofs only [hT', hai, his, h4, hc, ht, hbd, hmx, m0, w1, go_sem, Nat.reduceEqDiff, Nat.reduceLeDiff, reduceCtorEq, ↓reduceIte]
      refine ⟨(out ++ [(s.drop a).take (i - a)], i + 1, i + 1), by simp only; omega, ?_⟩
      have e : (s.drop a).take (i - a) = (s.take i).drop a := by rw [List.drop_take]
      simp only [List.length_append, List.length_cons, List.length_nil, hsn, Nat.zero_add, Nat.le_refl, and_true, true_and, eq_self]
      refine ⟨by omega, by omega, fun _ => by omega, fun _ => ?_⟩
      rw [if_neg (by rw [← List.length_eq_zero_iff, List.length_drop, List.length_take]; omega)] at h8
      rw [e]; exact h8
    · simp -implicitDefEqProofs only [hT', w1, go_sem, Nat.reduceEqDiff, reduceCtorEq, ↓reduceIte]
      refine ⟨(out, i + 1, i + 1), by simp only; omega, ⟨rfl, rfl, rfl⟩, by simp only; omega, by simp only; omega, h3, h4, by simp only; omega, fun _ => by simp only at *; omega, fun _ => ?_⟩
      rw [if_pos (by rw [List.drop_eq_nil_iff, List.length_take]; omega), List.append_nil] at h8
      exact h8
end W11
/- Words of texts: the library's FieldsFunc. -/
set_option linter.unusedSimpArgs false
set_option linter.unusedVariables false
namespace W11
open Go Go.AX Go.AX.Ty Go.Proofs

structure Sp where
  a : Nat
  b : Nat
instance : Enc Sp := ⟨2, fun x => [.int .i64 x.a, .int .i64 x.b], fun x => .agg [.int .i64 x.a, .int .i64 x.b], fun x => True, fun _ => rfl, fun _ => rfl, fun _ => .inl rfl, fun _ => rfl⟩
theorem Sp.ecells (x : Sp) : Enc.cells x = [.int .i64 x.a, .int .i64 x.b] := rfl
theorem Sp.clen (l : List Sp) : (cellsL l).length = l.length * 2 := cellsL_len l
def subS (s : Str) (x : Sp) : Str := (s.drop x.a).take (x.b - x.a)

theorem xor64 {n : Int} (h0 : 0 ≤ n) (h1 : n ≤ 9223372036854775807) : xorA .i64 n = -1 - n := by
  obtain ⟨k, rfl⟩ := Int.eq_ofNat_of_zero_le h0
  have e : (BitVec.ofInt 64 (-1) ^^^ BitVec.ofInt 64 (k : Int)) = ~~~ (BitVec.ofNat 64 k) := by
    have : BitVec.ofInt 64 (-1) = BitVec.allOnes 64 := rfl
    rw [this, BitVec.allOnes_xor]; rfl
  show IntKind.i64.wrap ((BitVec.ofInt 64 (-1) ^^^ BitVec.ofInt 64 (k : Int)).toNat : Int) = _
  rw [e, BitVec.toNat_not, BitVec.toNat_ofNat]
  simp [IntKind.wrap, IntKind.bits, IntKind.signed]; omega

theorem blankB_lt {c : UInt8} (h : blankB c = true) : c.toNat < 128 := by
  rw [blankB_nat] at h
  simp only [Bool.or_eq_true, decide_eq_true_eq] at h
  omega
theorem runeBlank_nat (c : UInt8) (h : c.toNat < 128) : runeBlank (c.toNat : Int) = blankB c := by
  have h1 : (c.toNat : Int) < 128 := by omega
  unfold runeBlank; rw [Int.toNat_natCast, UInt8.ofNat_toNat]; simp [h1]
theorem runeBlank_big {r : Int} (h : 128 ≤ r) : runeBlank r = false := by
  have h1 : ¬ r < 128 := by omega
  simp [runeBlank, h1]

/-- what the first pass has found -/
structure FF (s : Str) (sp : List Sp) (start : Int) (pos : Nat) : Prop where
  le : pos ≤ s.length
  st : start < 0 ∨ (0 ≤ start ∧ start < pos)
  lo : -1000001 ≤ start
  len : sp.length ≤ pos
  ok : ∀ x ∈ sp, x.a ≤ x.b ∧ x.b ≤ s.length
  sum : sp.map (subS s) ++ wordsGo (s.drop pos) (if start < 0 then [] else (s.take pos).drop start.toNat) = wordsB s

theorem FF.init (s : Str) : FF s [] (-1) 0 := ⟨by simp, .inl (by decide), by decide, by simp, by simp, by simp [wordsB]⟩
theorem FF.skip {s : Str} {sp : List Sp} {start : Int} {pos : Nat} (h : FF s sp start pos) {c : UInt8} (hc : s[pos]? = some c) (hb : blankB c = true) (h0 : start < 0) : FF s sp start (pos + 1) := by
  have hk : pos < s.length := by
    rcases Nat.lt_or_ge pos s.length with h' | h'
    · exact h'
    · rw [List.getElem?_eq_none h'] at hc; simp at hc
  have hd : s.drop pos = c :: s.drop (pos + 1) := by
    rw [List.drop_eq_getElem_cons hk]
    rw [List.getElem?_eq_getElem hk] at hc; simp at hc; rw [hc]
  refine ⟨hk, .inl h0, h.lo, by have := h.len; omega, h.ok, ?_⟩
  have := h.sum
  rw [hd, if_pos h0, wordsGo, if_pos hb, if_pos rfl] at this
  rw [if_pos h0]; exact this
theorem FF.cut {s : Str} {sp : List Sp} {a pos : Nat} (h : FF s sp (a : Int) pos) {c : UInt8} (hc : s[pos]? = some c) (hb : blankB c = true) (hl : s.length ≤ 1000000) : FF s (sp ++ [⟨a, pos⟩]) (-1 - (a : Int)) (pos + 1) := by
  have hk : pos < s.length := by
    rcases Nat.lt_or_ge pos s.length with h' | h'
    · exact h'
    · rw [List.getElem?_eq_none h'] at hc; simp at hc
  have hd : s.drop pos = c :: s.drop (pos + 1) := by
    rw [List.drop_eq_getElem_cons hk]
    rw [List.getElem?_eq_getElem hk] at hc; simp at hc; rw [hc]
  have ha := h.st
  have hlen := h.len
  refine ⟨hk, .inl (by omega), by omega, by simp; omega, fun x hx => ?_, ?_⟩
  · rcases List.mem_append.1 hx with hx | hx
    · exact h.ok x hx
    · simp at hx; subst hx; simp only; omega
  have := h.sum
  rw [hd, if_neg (by omega), Int.toNat_natCast, wordsGo, if_pos hb, if_neg (by rw [← List.length_eq_zero_iff, List.length_drop, List.length_take]; omega)] at this
  rw [if_pos (by omega), List.map_append, List.append_assoc, List.map_singleton, List.singleton_append]
  have e : subS s ⟨a, pos⟩ = (s.take pos).drop a := by simp only [subS, List.drop_take]
  rw [e]; exact this
theorem FF.run {s : Str} {sp : List Sp} {start : Int} {pos n : Nat} (h : FF s sp start pos) (hn : pos + n ≤ s.length) (hn1 : 1 ≤ n) (hb : ∀ c ∈ (s.drop pos).take n, blankB c = false) : FF s sp (if start < 0 then (pos : Int) else start) (pos + n) := by
  have hlen := h.len
  have hsum := h.sum
  have e : s.drop pos = (s.drop pos).take n ++ s.drop (pos + n) := by rw [← List.drop_drop, List.take_append_drop]
  rw [e, wordsGo_run _ _ _ hb] at hsum
  by_cases h0 : start < 0
  · rw [if_pos h0]
    rw [if_pos h0, List.nil_append] at hsum
    refine ⟨hn, .inr (by omega), by omega, by omega, h.ok, ?_⟩
    rw [if_neg (by omega), Int.toNat_natCast, List.drop_take, show pos + n - pos = n by omega]
    exact hsum
  · rw [if_neg h0]
    rw [if_neg h0] at hsum
    have hst := h.st
    refine ⟨hn, .inr (by omega), h.lo, by omega, h.ok, ?_⟩
    rw [if_neg h0]
    have e2 : (s.take (pos + n)).drop start.toNat = (s.take pos).drop start.toNat ++ (s.drop pos).take n := by
      rw [List.take_add, List.drop_append_of_le_length (by rw [List.length_take]; omega)]
    rw [e2]; exact hsum
theorem FF.end0 {s : Str} {sp : List Sp} {start : Int} {pos : Nat} (h : FF s sp start pos) (hp : pos = s.length) (h0 : start < 0) : sp.map (subS s) = wordsB s := by
  have := h.sum
  rw [if_pos h0, show s.drop pos = [] by rw [List.drop_eq_nil_iff]; omega, wordsGo, if_pos rfl, List.append_nil] at this
  exact this
theorem FF.end1 {s : Str} {sp : List Sp} {a pos : Nat} (h : FF s sp (a : Int) pos) (hp : pos = s.length) : (sp ++ [(⟨a, s.length⟩ : Sp)]).map (subS s) = wordsB s := by
  have := h.sum
  have hst := h.st
  rw [if_neg (by omega), show s.drop pos = [] by rw [List.drop_eq_nil_iff]; omega, wordsGo, Int.toNat_natCast, if_neg (by rw [← List.length_eq_zero_iff, List.length_drop, List.length_take]; omega)] at this
  rw [List.map_append, List.map_singleton]
  have e : subS s ⟨a, s.length⟩ = (s.take pos).drop a := by simp only [subS, List.drop_take, hp]
  rw [e]; exact this

end W11
/- Classes, kin. -/
set_option linter.unusedSimpArgs false
set_option linter.unusedVariables false
namespace W11
open Go Go.AX Go.AX.Ty Go.Proofs

/-- a page of some size -/
structure PgOk (p : Page) : Prop where
  ok : Enc.ok p
  len : p.length ≤ 1000
  kids : ∀ x ∈ p, x.kids.length ≤ 1000
  attrs : ∀ x ∈ p, ∀ a ∈ x.attrs, a.value.length ≤ 1000000
theorem nodeAt_mem {p : Page} {n : Int} {x : Ty.Node} (h : nodeAt p n = some x) : x ∈ p := by
  unfold nodeAt at h
  split at h
  · exact List.mem_of_getElem? h
  · simp at h
theorem attrB_len {p : Page} (h : PgOk p) (n : Int) (v : Str) : (attrB p n v).1.length ≤ 1000000 := by
  unfold attrB
  split
  · rename_i x hx
    split
    · simp
    · split
      · rename_i a ha
        exact h.attrs x (nodeAt_mem hx) a (List.mem_of_find?_eq_some ha)
      · simp
  · simp
abbrev sClass : Str := [99, 108, 97, 115, 115]
def classesB (p : Page) (n : Int) : List Str := wordsB (attrB p n sClass).1
theorem w_rClasses (p : Page) (hp : PgOk p) (n : Int) : PureF Try.prog 23 [Enc.av p, Enc.av n] (Enc.av (classesB p n)) := by
  refine pureF_W mix c23 (by kernel_rfl) (by kernel_rfl) (by simp [flats, flat_av, Go.AX.flat]) (by first | exact flat_av _ | simp [flat, flats, flat_av]) ?_
  simp -implicitDefEqProofs only [F23, go_sem, Nat.reduceEqDiff, reduceCtorEq, ↓reduceIte]
  refine callI_pure (w_rAttr p hp.ok n sClass) ?_
  simp -implicitDefEqProofs only [go_sem, Nat.reduceEqDiff, ↓reduceIte]
  refine callI_pure (w_Words _ (attrB_len hp n sClass)) ?_
  simp -implicitDefEqProofs only [go_sem, ↓reduceIte]
  rfl

theorem putAt_putAt (b : Nat) (o o' : AX.Obj) : ∀ h : List (Nat × AX.Obj), putAt b o (putAt b o' h) = putAt b o h
  | [] => rfl
  | (k, x) :: r => by
    simp only [putAt]
    split
    · rename_i e; simp [putAt, e]
    · rename_i e; simp [putAt, e, putAt_putAt b o o' r]
theorem putAt_same {b : Nat} {o : AX.Obj} : ∀ {h : List (Nat × AX.Obj)}, AX.look b h = some o → putAt b o h = h
  | [], e => by simp [AX.look] at e
  | (k, x) :: r, e => by
    simp only [AX.look] at e
    simp only [putAt]
    split at e
    · rename_i e2; simp at e; subst e; rw [if_pos e2, e2]
    · rename_i e2; rw [if_neg e2, putAt_same e]
end W11
/- Trees; who stands how. -/
set_option linter.unusedSimpArgs false
set_option linter.unusedVariables false
namespace W11
open Go Go.AX Go.AX.Ty Go.Proofs

def upOf (p : Page) (k : Nat) : Int := match p[k]? with
  | some x => x.up
  | none => -1
/-- those of the first ones whose parent is a node -/
def kidsOf (p : Page) (m : Nat) (n : Nat) : List Int := ((List.range m).filter fun k => decide (1 ≤ k) && (upOf p k == (n : Int))).map fun k : Nat => (k : Int)
structure TreeP (p : Page) : Prop where
  ne : p ≠ []
  root : ∀ x, p[0]? = some x → x.up = -1 ∧ x.name = [] ∧ x.text = [] ∧ x.attrs = []
  up : ∀ (k : Nat) x, 1 ≤ k → p[k]? = some x → 0 ≤ x.up ∧ x.up < (k : Int)
  kids : ∀ (n : Nat) x, p[n]? = some x → x.kids = kidsOf p p.length n
theorem mem_kidsOf {p : Page} {m n : Nat} {a : Int} : a ∈ kidsOf p m n ↔ ∃ k : Nat, a = k ∧ k < m ∧ 1 ≤ k ∧ upOf p k = n := by
  simp only [kidsOf, List.mem_map, List.mem_filter, List.mem_range, Bool.and_eq_true, decide_eq_true_eq, beq_iff_eq]
  exact ⟨fun ⟨k, ⟨h1, h2, h3⟩, h4⟩ => ⟨k, h4.symm, h1, h2, h3⟩, fun ⟨k, h4, h1, h2, h3⟩ => ⟨k, ⟨h1, h2, h3⟩, h4.symm⟩⟩
theorem upOf_eq {p : Page} {k : Nat} {x : Ty.Node} (h : p[k]? = some x) : upOf p k = x.up := by simp [upOf, h]
theorem getElem_lt {α : Type} {l : List α} {k : Nat} {x : α} (h : l[k]? = some x) : k < l.length := by
  rcases Nat.lt_or_ge k l.length with h' | h'
  · exact h'
  · rw [List.getElem?_eq_none h'] at h; simp at h
/-- an element of a tree is not the root, and stands among its parent's kids -/
theorem TreeP.parent {p : Page} (t : TreeP p) {k : Nat} {x : Ty.Node} (hx : p[k]? = some x) (hn : x.name ≠ []) : 1 ≤ k ∧ ∃ (u : Nat) (y : Ty.Node), x.up = u ∧ u < k ∧ p[u]? = some y ∧ (k : Int) ∈ y.kids := by
  have hk : 1 ≤ k := by
    rcases Nat.lt_or_ge k 1 with h | h
    · exfalso
      have : k = 0 := by omega
      subst this
      exact hn (t.root x hx).2.1
    · exact h
  obtain ⟨h1, h2⟩ := t.up k x hk hx
  have hlt := getElem_lt hx
  refine ⟨hk, x.up.toNat, p[x.up.toNat]'(by omega), by omega, by omega, by simp, ?_⟩
  rw [t.kids x.up.toNat _ (List.getElem?_eq_getElem (by omega))]
  exact mem_kidsOf.2 ⟨k, rfl, hlt, hk, by rw [upOf_eq hx]; omega⟩
end W11
/- Is a page a tree? The document's. -/
set_option linter.unusedSimpArgs false
set_option linter.unusedVariables false
namespace W11
open Go Go.AX Go.AX.Ty Go.Proofs
theorem elem_at {p : Page} {n : Int} (h : elemB p n = true) : ∃ (k : Nat) (x : Ty.Node), n = k ∧ p[k]? = some x ∧ x.name ≠ [] := by
  rcases node_cases p n with ⟨e, _⟩ | ⟨k, x, e1, _, hx, e⟩
  · simp [elemB, e] at h
  · simp only [elemB, e, decide_eq_true_eq] at h
    exact ⟨k, x, e1, hx, h⟩
theorem take_snoc {α : Type} {l : List α} {k : Nat} {y : α} (h : l[k]? = some y) : l.take (k + 1) = l.take k ++ [y] := by
  rw [List.take_add_one, h]; rfl
theorem ints_len (l : List Int) : (cellsL l).length = l.length := by rw [cellsL_len]; simp [Enc.sz]

open Classical in
noncomputable def treeB (p : Page) : Bool := decide (TreeP p)
theorem treeB_true {p : Page} (h : TreeP p) : treeB p = true := by unfold treeB; exact @decide_eq_true _ (Classical.propDecidable _) h
theorem treeB_false {p : Page} (h : ¬ TreeP p) : treeB p = false := by unfold treeB; exact @decide_eq_false _ (Classical.propDecidable _) h
theorem treeB_iff {p : Page} : treeB p = true ↔ TreeP p := by unfold treeB; exact @decide_eq_true_iff _ (Classical.propDecidable _)

theorem take_eq_of {α : Type} {a b : List α} {k : Nat} (h : a.take k = b.take k) (ha : k = a.length) (hb : a.length = b.length) : a = b := by
  rw [List.take_of_length_le (by omega), List.take_of_length_le (by omega)] at h; exact h
theorem w_Ints (a b : List Int) (hl : a.length ≤ 140737488355328) : PureF Try.prog 21 [Enc.av a, Enc.av b] (.bool (decide (a = b))) := by
  refine pureF_W mix c21 (by kernel_rfl) (by kernel_rfl) (by simp [flats, flat_av, Go.AX.flat]) (by first | exact flat_av _ | simp [flat, flats, flat_av]) ?_
  by_cases hlen : a.length = b.length
  case neg =>
    have hne : ((a.length : Int) = (b.length : Int)) = False := eq_false (by omega)
    rw [decide_eq_false (fun e => hlen (by rw [e]))]
    simp -implicitDefEqProofs only [F21, hne, go_sem, Nat.reduceEqDiff, reduceCtorEq, ↓reduceIte]
  have hne : ((a.length : Int) = (b.length : Int)) = True := eq_true (by omega)
  simp -implicitDefEqProofs only [F21, hne, go_sem, Nat.reduceEqDiff, reduceCtorEq, ↓reduceIte]
  refine LoopI_sl (fun k : Nat => a.length - k) (fun k => [(0, Enc.av a), (1, Enc.av b), (5, .int .i64 k)]) (fun k s => k ≤ a.length ∧ a.take k = b.take k) 0 ?_ ?_
  · simp -implicitDefEqProofs only [List.take_zero, go_sem, Nat.reduceEqDiff, reduceCtorEq, ↓reduceIte]
  rintro k ρ ⟨g, m⟩ ⟨h1, h2⟩
  rcases Nat.lt_or_ge k a.length with hk | hk
  · obtain ⟨x, hx, hd, hm⟩ := get_drop hk
    obtain ⟨y, hy, hd2, hm2⟩ := get_drop (show k < b.length by omega)
    have hlt : ((k : Int) < (a.length : Int)) = True := eq_true (by omega)
    have w1 : IntKind.i64.wrap ((k : Int) + 1) = ((k + 1 : Nat) : Int) := by rw [wrap64 (by omega) (by omega)]; omega
    simp -implicitDefEqProofs only [hlt, hx, hy, w1, go_sem, Nat.reduceEqDiff, reduceCtorEq, ↓reduceIte]
    refine andI_intro (by kernel_rfl) ?_
    by_cases hxy : x = y
    · simp -implicitDefEqProofs only [hxy, w1, go_sem, Nat.reduceEqDiff, reduceCtorEq, ↓reduceIte]
      refine ⟨k + 1, by omega, rfl, by omega, ?_⟩
      rw [List.take_add_one, List.take_add_one, h2, hx, hy, hxy]
    · simp -implicitDefEqProofs only [hxy, go_sem, ↓reduceIte]
      rw [decide_eq_false (fun e => hxy (by rw [e, hy] at hx; simpa using hx.symm))]
  · have hlt : ((k : Int) < (a.length : Int)) = False := eq_false (by omega)
    simp -implicitDefEqProofs only [hlt, go_sem, Nat.reduceEqDiff, reduceCtorEq, ↓reduceIte]
    rw [decide_eq_true (take_eq_of h2 (by omega) hlen)]
theorem kidsOf_succ (p : Page) (m n : Nat) (hm : 1 ≤ m) : kidsOf p (m + 1) n = kidsOf p m n ++ (if upOf p m = n then [(m : Int)] else []) := by
  unfold kidsOf
  rw [List.range_succ, List.filter_append, List.map_append]
  congr 1
  by_cases h : upOf p m = n <;> simp [h, hm]
theorem kidsOf_one (p : Page) (n : Nat) : kidsOf p 1 n = [] := by
  simp [kidsOf, List.range_succ]
theorem kidsOf_len (p : Page) (m n : Nat) : (kidsOf p m n).length ≤ m := by
  unfold kidsOf
  rw [List.length_map]
  exact Nat.le_trans (List.length_filter_le _ _) (by simp)

theorem w_rTree (p : Page) (hp : PgOk p) : PureF Try.prog 20 [Enc.av p] (.bool (treeB p)) := by
  refine pureF_W mix c20 (by kernel_rfl) (by kernel_rfl) (by simp [flats, flat_av, Go.AX.flat]) (by first | exact flat_av _ | simp [flat, flats, flat_av]) ?_
  have hpl := hp.len
  cases hpe : p with
  | nil =>
    rw [treeB_false (fun t => t.ne rfl)]
    simp -implicitDefEqProofs only [F20, go_sem, Int.reduceNeg, Nat.reduceEqDiff, reduceCtorEq, ↓reduceIte]
  | cons x r =>
  rw [← hpe]
  have h0 : p[0]? = some x := by rw [hpe]; rfl
  have hl0 : ((p.length : Int) = 0) = False := eq_false (by rw [hpe]; simp; omega)
  have nroot : ∀ (P : Prop), (∀ t : TreeP p, P) → ¬ P → treeB p = false := fun P h1 h2 => treeB_false fun t => h2 (h1 t)
  simp -implicitDefEqProofs only [F20, hl0, h0, go_sem, Int.reduceNeg, Int.reduceToNat, Nat.reduceEqDiff, reduceCtorEq, ↓reduceIte]
  by_cases r1 : x.up = -1
  case neg =>
    rw [nroot _ (fun t => (t.root x h0).1) r1]
    simp -implicitDefEqProofs only [r1, hl0, h0, go_sem, Int.reduceNeg, Nat.reduceEqDiff, reduceCtorEq, ↓reduceIte]
  by_cases r2 : x.name = []
  case neg =>
    rw [nroot _ (fun t => (t.root x h0).2.1) r2]
    simp -implicitDefEqProofs only [r1, r2, hl0, h0, go_sem, Int.reduceNeg, Int.reduceToNat, Nat.reduceEqDiff, reduceCtorEq, ↓reduceIte]
  by_cases r3 : x.text = []
  case neg =>
    rw [nroot _ (fun t => (t.root x h0).2.2.1) r3]
    simp -implicitDefEqProofs only [r1, r2, r3, hl0, h0, go_sem, Int.reduceNeg, Int.reduceToNat, Nat.reduceEqDiff, reduceCtorEq, ↓reduceIte]
  by_cases r4 : x.attrs = []
  case neg =>
    rw [nroot _ (fun t => (t.root x h0).2.2.2) r4]
    have hg : ((x.attrs.length : Int) > 0) = True := eq_true (by have := List.length_pos_iff.2 r4; omega)
    simp -implicitDefEqProofs only [r1, r2, r3, hg, hl0, h0, go_sem, Int.reduceNeg, Int.reduceToNat, Nat.reduceEqDiff, reduceCtorEq, ↓reduceIte]
  have hg : ((x.attrs.length : Int) > 0) = False := eq_false (by rw [r4]; simp)
  simp -implicitDefEqProofs only [r1, r2, r3, hg, hl0, h0, go_sem, Int.reduceNeg, Int.reduceToNat, Nat.reduceEqDiff, reduceCtorEq, ↓reduceIte]
  refine LoopI_sl (fun k : Nat => p.length - k) (fun k => [(0, Enc.av p), (3, .int .i64 k)]) (fun k s => s = ⟨[], 0⟩ ∧ 1 ≤ k ∧ k ≤ p.length ∧ ∀ j y, 1 ≤ j → j < k → p[j]? = some y → 0 ≤ y.up ∧ y.up < (j : Int)) 1 ?_ ?_
  · simp -implicitDefEqProofs only [go_sem, Int.reduceNeg, reduceCtorEq, ↓reduceIte]
    refine ⟨by rw [hpe]; simp, fun j y h1 h2 => by omega⟩
  rintro k ρ s ⟨rfl, h1, h2, h3⟩
  rcases Nat.lt_or_ge k p.length with hk | hk
  · obtain ⟨y, hy, hd, hm⟩ := get_drop hk
    have hlt : ((k : Int) < (p.length : Int)) = True := eq_true (by omega)
    have w1 : IntKind.i64.wrap ((k : Int) + 1) = ((k + 1 : Nat) : Int) := by rw [wrap64 (by omega) (by omega)]; omega
    simp -implicitDefEqProofs only [hlt, hy, go_sem, Nat.reduceEqDiff, reduceCtorEq, ↓reduceIte]
    by_cases u1 : y.up < 0
    · rw [nroot _ (fun t => (t.up k y h1 hy).1) (by omega)]
      simp -implicitDefEqProofs only [u1, hy, go_sem, Nat.reduceEqDiff, reduceCtorEq, ↓reduceIte]
    by_cases u2 : y.up ≥ (k : Int)
    · rw [nroot _ (fun t => (t.up k y h1 hy).2) (by omega)]
      simp -implicitDefEqProofs only [u1, u2, hy, go_sem, Nat.reduceEqDiff, reduceCtorEq, ↓reduceIte]
    simp -implicitDefEqProofs only [u1, u2, hy, w1, go_sem, Nat.reduceEqDiff, reduceCtorEq, ↓reduceIte]
    refine ⟨k + 1, by omega, rfl, by omega, by omega, fun j z h4 h5 hz => ?_⟩
    rcases Nat.lt_or_ge j k with h | h
    · exact h3 j z h4 h hz
    · have : j = k := by omega
      subst this
      rw [hy] at hz
      simp only [Option.some.injEq] at hz
      subst hz; omega
  have hlt : ((k : Int) < (p.length : Int)) = False := eq_false (by omega)
  have hup : ∀ (j : Nat) y, 1 ≤ j → p[j]? = some y → 0 ≤ y.up ∧ y.up < (j : Int) := fun j y a b => h3 j y a (by have := getElem_lt b; omega) b
  simp -implicitDefEqProofs only [hlt, go_sem, Nat.reduceEqDiff, reduceCtorEq, ↓reduceIte]
  refine LoopI_sl (fun n : Nat => p.length - n) (fun n => [(0, Enc.av p), (4, .int .i64 n)]) (fun n s => n ≤ p.length ∧ ∀ j y, j < n → p[j]? = some y → y.kids = kidsOf p p.length j) 0 ?_ ?_
  · simp -implicitDefEqProofs only [go_sem, reduceCtorEq, ↓reduceIte]
    exact fun j y h => h.elim
  clear h1 h2 h3 hk hlt
  rintro n ρ ⟨g, m⟩ ⟨h1, h2⟩
  rcases Nat.lt_or_ge n p.length with hn | hn
  · obtain ⟨y, hy, hd, hm⟩ := get_drop hn
    have hlt : ((n : Int) < (p.length : Int)) = True := eq_true (by omega)
    have wn : IntKind.i64.wrap ((n : Int) + 1) = ((n + 1 : Nat) : Int) := by rw [wrap64 (by omega) (by omega)]; omega
    simp -implicitDefEqProofs only [hlt, go_sem, Nat.reduceEqDiff, reduceCtorEq, ↓reduceIte]
    refine LoopI_sl (fun k : Nat => p.length - k) (fun k => [(0, Enc.av p), (4, .int .i64 n), (5, .sl m (kidsOf p k n).length 0 (kidsOf p k n).length 1), (6, .int .i64 k)])
      (fun k s => 1 ≤ k ∧ k ≤ p.length ∧ m + 1 ≤ s.next ∧ AX.look m s.heap = some (.cells (kidsOf p k n).length (cellsL (kidsOf p k n)) false)) 1 ?_ ?_
    · simp -implicitDefEqProofs only [kidsOf_one, cellsL, go_sem, Nat.reduceEqDiff, reduceCtorEq, ↓reduceIte]
      rw [hpe]; simp
    rintro k ρ ⟨g2, q⟩ ⟨k1, k2, k3, k4⟩
    dsimp only at k3 k4
    have hF := kidsOf_len p k n
    have hfn := kidsOf_succ p k n k1
    generalize hFd : kidsOf p k n = F at k4 hF hfn
    have hc : (cellsL F).length = F.length := ints_len F
    have ht : List.take F.length (cellsL F) = cellsL F := List.take_of_length_le (by omega)
    have q0 : (q = m) = False := eq_false (by omega)
    rcases Nat.lt_or_ge k p.length with hk | hk
    · obtain ⟨z, hz, _, _⟩ := get_drop hk
      have hlt2 : ((k : Int) < (p.length : Int)) = True := eq_true (by omega)
      have w1 : IntKind.i64.wrap ((k : Int) + 1) = ((k + 1 : Nat) : Int) := by rw [wrap64 (by omega) (by omega)]; omega
      have hbd : ((F.length + 1) * 8 ≤ 140737488355328) = True := eq_true (by omega)
      have hmx : (F.length ≤ F.length) = True := eq_true (by omega)
      rw [upOf_eq hz] at hfn
      by_cases hu : z.up = (n : Int)
      · rw [if_pos hu] at hfn
        have hu' : (z.up = (n : Int)) = True := eq_true hu
        simp -implicitDefEqProofs only [hlt2, hz, hu', k4, hc, ht, hbd, hmx, q0, w1, go_sem, Nat.reduceEqDiff, Nat.reduceLeDiff, reduceCtorEq, ↓reduceIte]
        refine ⟨k + 1, by omega, ?_⟩
        rw [hfn, cellsL_append]
        simp only [List.length_append, List.length_cons, List.length_nil, Nat.zero_add, true_and, and_true]
        first | exact ⟨by omega, by omega, by omega, rfl⟩ | exact ⟨by omega, by omega, rfl⟩ | exact ⟨by omega, rfl⟩ | trace_state
      · rw [if_neg hu, List.append_nil] at hfn
        have hu' : (z.up = (n : Int)) = False := eq_false hu
        simp -implicitDefEqProofs only [hlt2, hz, hu', k4, w1, go_sem, Nat.reduceEqDiff, reduceCtorEq, ↓reduceIte]
        refine ⟨k + 1, by omega, ?_⟩
        rw [hfn]
        exact ⟨⟨rfl, rfl⟩, by omega, by omega, k3, rfl⟩
    · have hlt2 : ((k : Int) < (p.length : Int)) = False := eq_false (by omega)
      have hkl : k = p.length := by omega
      subst hkl
      simp -implicitDefEqProofs only [hlt2, hy, k4, hc, ht, go_sem, Nat.reduceEqDiff, reduceCtorEq, ↓reduceIte]
      refine callI_pure (w_Ints F y.kids (by omega)) ?_
      simp -implicitDefEqProofs only [go_sem, ↓reduceIte]
      by_cases hFk : F = y.kids
      · simp -implicitDefEqProofs only [hFk, wn, go_sem, Nat.reduceEqDiff, reduceCtorEq, ↓reduceIte]
        refine ⟨n + 1, by omega, rfl, by omega, fun j z h3 hz => ?_⟩
        rcases Nat.lt_or_ge j n with h | h
        · exact h2 j z h hz
        · have : j = n := by omega
          subst this
          rw [hy] at hz
          simp only [Option.some.injEq] at hz
          subst hz; rw [← hFk, ← hFd]
      · simp -implicitDefEqProofs only [hFk, go_sem, ↓reduceIte]
        rw [nroot _ (fun t => (t.kids n y hy)) (fun e => hFk (by rw [e, ← hFd]))]
  · have hlt : ((n : Int) < (p.length : Int)) = False := eq_false (by omega)
    simp -implicitDefEqProofs only [hlt, go_sem, Nat.reduceEqDiff, reduceCtorEq, ↓reduceIte]
    rw [treeB_true ⟨by rw [hpe]; simp, fun a ha => ?_, hup, fun j y hy => h2 j y (by have := getElem_lt hy; omega) hy⟩]
    rw [h0] at ha
    simp only [Option.some.injEq] at ha
    subst ha
    exact ⟨r1, r2, r3, r4⟩
end W11
/- Guards. -/
set_option linter.unusedSimpArgs false
set_option linter.unusedVariables false
namespace W11
open Go Go.AX Go.AX.Ty Go.Proofs

def badN (m : Int) (x : Ty.Node) : Bool := decide ((x.name.length : Int) > 100) || (decide ((x.text.length : Int) > 300) || (decide ((x.attrs.length : Int) > 20) || (decide ((x.kids.length : Int) > m) || x.attrs.any fun a => decide ((a.name.length : Int) > 100) || decide ((a.value.length : Int) > 100))))
def smallPg (m : Int) (p : Page) : Bool := decide ((p.length : Int) ≤ m) && !p.any (badN m)
theorem smallPg_ok {m : Int} {p : Page} (hm : m ≤ 1000) (hok : Enc.ok p) (h : smallPg m p = true) : PgOk p := by
  simp only [smallPg, Bool.and_eq_true, decide_eq_true_eq, Bool.not_eq_true', List.any_eq_false] at h
  refine ⟨hok, by omega, fun x hx => ?_, fun x hx a ha => ?_⟩
  · have := h.2 x hx
    simp only [badN, Bool.or_eq_true, decide_eq_true_eq, not_or] at this
    omega
  · have := h.2 x hx
    simp only [badN, Bool.or_eq_true, decide_eq_true_eq, not_or, List.any_eq_true, not_exists, not_and] at this
    have := this.2.2.2.2 a ha
    omega
theorem w_Small10 (m : Int) (p : Page) (hok : Enc.ok p) : PureF Try.prog 8 [Enc.av p, Enc.av m] (.bool (smallPg m p)) := by
  refine pureF_W mix c8 (by kernel_rfl) (by kernel_rfl) (by simp [flats, flat_av, Go.AX.flat]) (by first | exact flat_av _ | simp [flat, flats, flat_av]) ?_
  have hlen := hok.1
  unfold smallPg
  by_cases hbig : (p.length : Int) ≤ m
  case neg =>
    have hb : ((p.length : Int) ≤ m) = False := eq_false hbig
    simp -implicitDefEqProofs only [F8, go_sem]
    rw [LoopI_def]
    refine ⟨1, ?_⟩
    by_cases h0 : (0 : Int) < (p.length : Int)
    · simp -implicitDefEqProofs only [hb, h0, go_sem, Nat.reduceEqDiff, reduceCtorEq, ↓reduceIte]
      simp [hbig]
    · simp -implicitDefEqProofs only [hb, h0, go_sem, Nat.reduceEqDiff, reduceCtorEq, ↓reduceIte]
      simp [hbig]
  have hb : ((p.length : Int) ≤ m) = True := eq_true hbig
  simp -implicitDefEqProofs only [F8, go_sem]
  refine LoopI_sl (fun k : Nat => p.length - k) (fun k => [(0, Enc.av p), (1, Enc.av m), (5, .int .i64 k)]) (fun k s => k ≤ p.length ∧ Pre (badN m) p k) 0 ?_ ?_
  · simp -implicitDefEqProofs only [go_sem, Nat.reduceEqDiff, reduceCtorEq, ↓reduceIte]
    exact Pre.zero _ _
  rintro k ρ ⟨g, q⟩ ⟨h1, h2⟩
  rcases Nat.lt_or_ge k p.length with hk | hk
  · obtain ⟨x, hx, hd, hm⟩ := get_drop hk
    have hlt : ((k : Int) < (p.length : Int)) = True := eq_true (by omega)
    have w1 : IntKind.i64.wrap ((k : Int) + 1) = ((k + 1 : Nat) : Int) := by rw [wrap64 (by omega) (by omega)]; omega
    have hbad : badN m x = true → (decide ((p.length : Int) ≤ m) && !p.any (badN m)) = false := fun h => by rw [any_here hm h]; simp
    have hal := ((Node.ok_iff x).1 (hok.2 x hm)).2.1.1
    simp -implicitDefEqProofs only [hlt, hb, hx, go_sem, Nat.reduceAdd, Nat.reduceEqDiff, Nat.reduceLeDiff, reduceCtorEq, ↓reduceIte]
    by_cases b1 : (x.name.length : Int) > 100
    · rw [hbad (by simp [badN, b1])]
      simp -implicitDefEqProofs only [b1, go_sem, Nat.reduceEqDiff, reduceCtorEq, ↓reduceIte]
    by_cases b2 : (x.text.length : Int) > 300
    · rw [hbad (by simp [badN, b2])]
      simp -implicitDefEqProofs only [b1, b2, go_sem, Nat.reduceAdd, Nat.reduceEqDiff, Nat.reduceLeDiff, reduceCtorEq, ↓reduceIte]
    by_cases b3 : (x.attrs.length : Int) > 20
    · rw [hbad (by simp [badN, b3])]
      simp -implicitDefEqProofs only [b1, b2, b3, go_sem, Nat.reduceAdd, Nat.reduceEqDiff, Nat.reduceLeDiff, reduceCtorEq, ↓reduceIte]
    by_cases b4 : (x.kids.length : Int) > m
    · rw [hbad (by simp [badN, b4])]
      simp -implicitDefEqProofs only [b1, b2, b3, b4, go_sem, Nat.reduceAdd, Nat.reduceEqDiff, Nat.reduceLeDiff, reduceCtorEq, ↓reduceIte]
    simp -implicitDefEqProofs only [b1, b2, b3, b4, go_sem, Nat.reduceAdd, Nat.reduceEqDiff, Nat.reduceLeDiff, reduceCtorEq, ↓reduceIte]
    refine LoopI_sl (fun j : Nat => x.attrs.length - j) (fun j => [(0, Enc.av p), (1, Enc.av m), (5, .int .i64 k), (6, .ptr q 0 0), (7, .int .i64 j)])
      (fun j s => j ≤ x.attrs.length ∧ q + 1 ≤ s.next ∧ AX.look q s.heap = some (.cells 0 (Enc.cells x) false) ∧ Pre (fun a : Attr => decide ((a.name.length : Int) > 100) || decide ((a.value.length : Int) > 100)) x.attrs j) 0 ?_ ?_
    · simp -implicitDefEqProofs only [go_sem, Nat.reduceEqDiff, reduceCtorEq, ↓reduceIte]
      exact Pre.zero _ _
    rintro j ρ ⟨g2, q2⟩ ⟨j1, j2, j3, j4⟩
    dsimp only at j2 j3
    rw [Node.ecells] at j3
    rcases Nat.lt_or_ge j x.attrs.length with hj | hj
    · obtain ⟨a, ha, _, ham⟩ := get_drop hj
      have hlt2 : ((j : Int) < (x.attrs.length : Int)) = True := eq_true (by omega)
      have w2 : IntKind.i64.wrap ((j : Int) + 1) = ((j + 1 : Nat) : Int) := by rw [wrap64 (by omega) (by omega)]; omega
      by_cases a1 : (a.name.length : Int) > 100
      · rw [hbad (by simp only [badN]; rw [any_here ham (by simp [a1])]; simp)]
        simp -implicitDefEqProofs only [hlt2, ha, j3, a1, go_sem, Nat.reduceAdd, Nat.reduceEqDiff, Nat.reduceLeDiff, reduceCtorEq, ↓reduceIte]
      by_cases a2 : (a.value.length : Int) > 100
      · rw [hbad (by simp only [badN]; rw [any_here ham (by simp [a2])]; simp)]
        simp -implicitDefEqProofs only [hlt2, ha, j3, a1, a2, go_sem, Nat.reduceAdd, Nat.reduceEqDiff, Nat.reduceLeDiff, reduceCtorEq, ↓reduceIte]
      simp -implicitDefEqProofs only [hlt2, ha, j3, a1, a2, w2, go_sem, Nat.reduceAdd, Nat.reduceEqDiff, Nat.reduceLeDiff, reduceCtorEq, ↓reduceIte]
      refine ⟨j + 1, by omega, ?_⟩
      exact ⟨rfl, by omega, j2, j4.next ha (by simp; omega)⟩
    · have hlt2 : ((j : Int) < (x.attrs.length : Int)) = False := eq_false (by omega)
      simp -implicitDefEqProofs only [hlt2, j3, w1, go_sem, Nat.reduceAdd, Nat.reduceEqDiff, Nat.reduceLeDiff, reduceCtorEq, ↓reduceIte]
      refine ⟨k + 1, by omega, rfl, by omega, h2.next hx ?_⟩
      simp only [badN, Bool.or_eq_false_iff, decide_eq_false_iff_not]
      exact ⟨b1, b2, b3, b4, any_no (j4.all hj)⟩
  · have hlt : ((k : Int) < (p.length : Int)) = False := eq_false (by omega)
    simp -implicitDefEqProofs only [hlt, hb, go_sem, Nat.reduceEqDiff, reduceCtorEq, ↓reduceIte]
    rw [any_no (h2.all hk)]; simp [hbig]

end W11
/- Has a text a blank? The library's ContainsAny. -/
set_option linter.unusedSimpArgs false
set_option linter.unusedVariables false
namespace W11
open Go Go.AX Go.AX.Ty Go.Proofs

/-- what of all bytes is a blank -/
def blankTab : List AV := (List.range 256).map fun i => .bool (blankB (UInt8.ofNat i))
theorem blankTab_get (c : UInt8) : blankTab[c.toNat]? = some (.bool (blankB c)) := by
  have h : c.toNat < 256 := c.toNat_lt
  simp [blankTab, h, UInt8.ofNat_toNat]
theorem w_makeSet : PureF Try.prog 72 [.str blanks] (.tup [.agg blankTab, .bool true]) := pureF_evk mix T_ok T_in (n := 1000000) (by kernel_rfl) (by kernel_rfl) (by kernel_rfl)
theorem w_setHas (c : UInt8) {h : List (Nat × AX.Obj)} {m b : Nat} {sn : Bool} (hb : AX.look b h = some (.cells 0 blankTab sn)) :
    ACalls Try.prog 73 [.ptr b 0 0, .int .u8 c.toNat] ⟨h, m⟩ fun v s' => v = .bool (blankB c) ∧ s' = ⟨h, m⟩ := by
  refine acalls_W mix (C0_ok _) c73 (by kernel_rfl) (Nat.le_of_ble_eq_true (by kernel_rfl)) ?_
  have hlt : (c.toNat < 256) = True := eq_true c.toNat_lt
  have hle : (c.toNat ≤ blankTab.length) = True := eq_true (by have := c.toNat_lt; simp [blankTab]; omega)
  have hg : List.drop c.toNat blankTab = .bool (blankB c) :: List.drop (c.toNat + 1) blankTab := by
    obtain ⟨x, hx, hd, _⟩ := get_drop (l := blankTab) (k := c.toNat) (by have := c.toNat_lt; simp [blankTab]; omega)
    rw [blankTab_get c] at hx
    simp at hx
    rw [hd, ← hx]
  simp -implicitDefEqProofs only [F73, hb, hlt, hle, hg, go_sem, Nat.reduceEqDiff, reduceCtorEq, ↓reduceIte]
theorem w_useSet (n : Int) : PureF Try.prog 71 [.int .i64 n] (.bool (decide (n > 8))) := by
  refine pureF_W mix c71 (by kernel_rfl) (by kernel_rfl) (by simp [flats, flat_av, Go.AX.flat]) (by first | exact flat_av _ | simp [flat, flats, flat_av]) ?_
  simp -implicitDefEqProofs only [F71, go_sem, reduceCtorEq, ↓reduceIte]
set_option maxRecDepth 100000 in
theorem w_IndexAny (s : Str) (hl : s.length ≤ 140737488355328) : PureF Try.prog 48 [.str s, .str blanks] (.int .i64 (idxOf blankB s)) := by
  refine pureF_W mix c48 (by kernel_rfl) (by kernel_rfl) (by simp [flats, flat_av, Go.AX.flat]) (by first | exact flat_av _ | simp [flat, flats, flat_av]) ?_
  simp -implicitDefEqProofs only [F48, go_sem, Int.reduceBEq, Int.reduceNeg, Nat.reduceAdd, Nat.reduceEqDiff, reduceCtorEq, ↓reduceIte]
  refine callI_pure (w_useSet s.length) ?_
  by_cases h8 : (s.length : Int) > 8
  · rw [decide_eq_true h8]
    simp -implicitDefEqProofs only [go_sem, Nat.reduceEqDiff, ↓reduceIte]
    refine callI_pure w_makeSet ?_
    have hbl : (blankTab.length = 256) = True := eq_true (by simp [blankTab])
    simp -implicitDefEqProofs only [go_sem, Nat.reduceAdd, Nat.reduceEqDiff, ↓reduceIte]
    refine andI_intro ⟨by simp [blankTab], by kernel_rfl⟩ ?_
    simp -implicitDefEqProofs only [go_sem, Nat.reduceEqDiff, ↓reduceIte]
    refine LoopI_sl (fun k : Nat => s.length - k) (fun k => [(0, .str s), (6, .ptr 0 0 0), (8, .int .i64 k)]) (fun k st => k ≤ s.length ∧ Pre blankB s k ∧ AX.look 0 st.heap = some (.cells 0 blankTab false)) 0 ?_ ?_
    · simp -implicitDefEqProofs only [go_sem, Nat.reduceEqDiff, reduceCtorEq, ↓reduceIte]
      exact Pre.zero _ _
    rintro k ρ ⟨g, m⟩ ⟨h1, h2, h3⟩
    dsimp only at h3
    rcases Nat.lt_or_ge k s.length with hk | hk
    · obtain ⟨x, hx, hd, hm⟩ := get_drop hk
      have hlt : ((k : Int) < (s.length : Int)) = True := eq_true (by omega)
      have w1 : IntKind.i64.wrap ((k : Int) + 1) = ((k + 1 : Nat) : Int) := by rw [wrap64 (by omega) (by omega)]; omega
      simp -implicitDefEqProofs only [hlt, hx, w1, h3, go_sem, Nat.reduceEqDiff, reduceCtorEq, ↓reduceIte]
      refine callI_st (w_setHas x h3) ?_
      cases hb : blankB x
      · simp -implicitDefEqProofs only [hlt, hx, w1, h3, go_sem, Nat.reduceEqDiff, reduceCtorEq, ↓reduceIte]
        exact ⟨k + 1, by omega, rfl, by omega, h2.next hx hb⟩
      · simp -implicitDefEqProofs only [hlt, hx, w1, h3, go_sem, Nat.reduceEqDiff, reduceCtorEq, ↓reduceIte]
        rw [idx_here hx hb h2]
    · have hlt : ((k : Int) < (s.length : Int)) = False := eq_false (by omega)
      simp -implicitDefEqProofs only [hlt, go_sem, Int.reduceNeg, Nat.reduceEqDiff, reduceCtorEq, ↓reduceIte]
      rw [idx_none (h2.all hk)]
  · rw [decide_eq_false h8]
    simp -implicitDefEqProofs only [go_sem, reduceCtorEq, ↓reduceIte]
    refine LoopI_sl (fun k : Nat => s.length - k) (fun k => [(0, .str s), (1, .str blanks), (45, .ptr 0 0 0)]) (fun k st => k ≤ s.length ∧ Pre blankB s k ∧ AX.look 0 st.heap = some (.iter s k)) 0 ?_ ?_
    · simp -implicitDefEqProofs only [go_sem, Nat.reduceEqDiff, reduceCtorEq, ↓reduceIte]
      exact Pre.zero _ _
    rintro pos ρ ⟨g, m⟩ ⟨h1, h2, h3⟩
    dsimp only at h3
    rcases Nat.lt_or_ge pos s.length with hk | hk
    · obtain ⟨c, hx, hd, hm⟩ := get_drop hk
      have hlt : (pos < s.length) = True := eq_true hk
      have hspec := decL_spec c (s.drop (pos + 1))
      rw [← hd] at hspec
      simp -implicitDefEqProofs only [h3, hlt, go_sem, Nat.reduceEqDiff, reduceCtorEq, ↓reduceIte]
      generalize decL (List.drop pos s) = d at hspec
      obtain ⟨r, n⟩ := d
      dsimp only at hspec
      rcases hspec with ⟨a1, a2⟩ | ⟨a1, a2, a3, a4, a5, a6, a7⟩
      · simp only [Prod.mk.injEq] at a2
        obtain ⟨rfl, rfl⟩ := a2
        have v1 := w_IndexRune c.toNat (by omega) (by simp only [Utf8.valid, Bool.or_eq_true, Bool.and_eq_true, decide_eq_true_eq]; omega)
        rw [if_pos (by omega)] at v1
        have e1 : UInt8.ofNat ((c.toNat : Int).toNat) = c := by rw [Int.toNat_natCast, UInt8.ofNat_toNat]
        rw [e1] at v1
        have hbl := idxL_blank c
        refine callI_pure v1 ?_
        cases hb : blankB c
        · rw [hb] at hbl
          have hge : (idxL c blanks 0 ≥ 0) = False := eq_false (by simpa using hbl)
          simp -implicitDefEqProofs only [hge, h3, go_sem, Nat.reduceEqDiff, reduceCtorEq, ↓reduceIte]
          exact ⟨pos + 1, by omega, by omega, h2.next hx hb, rfl⟩
        · rw [hb] at hbl
          have hge : (idxL c blanks 0 ≥ 0) = True := eq_true (by simpa using hbl)
          simp -implicitDefEqProofs only [hge, h3, go_sem, Nat.reduceEqDiff, ↓reduceIte]
          rw [idx_here hx hb h2]
      · have v1 := w_IndexRune r (by omega) a4
        rw [if_neg (by omega)] at v1
        refine callI_pure v1 ?_
        simp -implicitDefEqProofs only [h3, go_sem, Int.reduceGE, Int.reduceNeg, Nat.reduceEqDiff, reduceCtorEq, ↓reduceIte]
        rw [List.length_drop] at a6
        refine ⟨pos + n, by omega, by omega, ?_, rfl⟩
        intro y hy
        rw [List.take_add] at hy
        rcases List.mem_append.1 hy with hy | hy
        · exact h2 y hy
        · have := a7 y hy
          cases hb : blankB y
          · rfl
          · have := blankB_lt hb; omega
    · have hlt : (pos < s.length) = False := eq_false (by omega)
      simp -implicitDefEqProofs only [h3, hlt, go_sem, Int.reduceNeg, Nat.reduceEqDiff, reduceCtorEq, ↓reduceIte]
      rw [idx_none (h2.all hk)]
theorem w_ContainsAny (s : Str) (hl : s.length ≤ 140737488355328) : PureF Try.prog 30 [.str s, .str blanks] (.bool (s.any blankB)) := by
  refine pureF_W mix c30 (by kernel_rfl) (by kernel_rfl) (by simp [flats, flat_av, Go.AX.flat]) (by first | exact flat_av _ | simp [flat, flats, flat_av]) ?_
  simp -implicitDefEqProofs only [F30, go_sem, Nat.reduceEqDiff, reduceCtorEq, ↓reduceIte]
  refine callI_pure (w_IndexAny s hl) ?_
  simp -implicitDefEqProofs only [go_sem, ↓reduceIte]
  rw [idx_any]
end W11
/- How a simple selector may fit a node: the document's. -/
set_option linter.unusedSimpArgs false
set_option linter.unusedVariables false
namespace W11
open Go Go.AX Go.AX.Ty Go.Proofs

theorem words_clean : ∀ (s acc : Str), (∀ c ∈ acc, blankB c = false) → ∀ w ∈ wordsGo s acc, w ≠ [] ∧ ∀ c ∈ w, blankB c = false
  | [], acc, h, w, hw => by
    unfold wordsGo at hw
    split at hw
    · simp at hw
    · rename_i hne; simp at hw; subst hw; exact ⟨hne, h⟩
  | x :: r, acc, h, w, hw => by
    unfold wordsGo at hw
    split at hw
    · split at hw
      · exact words_clean r [] (by simp) w hw
      · rename_i hne
        rcases List.mem_cons.1 hw with rfl | hw
        · exact ⟨hne, h⟩
        · exact words_clean r [] (by simp) w hw
    · rename_i hb
      exact words_clean r (acc ++ [x]) (fun c hc => by
        rcases List.mem_append.1 hc with hc | hc
        · exact h c hc
        · simp at hc; subst hc; simpa using hb) w hw
theorem words_self (v : Str) : wordsB v = [v] ↔ v ≠ [] ∧ v.any blankB = false := by
  constructor
  · intro h
    have := words_clean v [] (by simp) v (by show v ∈ wordsB v; rw [h]; simp)
    exact ⟨this.1, by rw [List.any_eq_false]; intro c hc; simp [this.2 c hc]⟩
  · rintro ⟨h1, h2⟩
    have h2' : ∀ c ∈ v, blankB c = false := fun c hc => by
      rw [List.any_eq_false] at h2; simpa using h2 c hc
    have := wordsGo_run v [] [] h2'
    rw [List.append_nil, List.nil_append] at this
    show wordsGo v [] = _
    rw [this]; unfold wordsGo; rw [if_neg h1]
end W11
/- What turns change, and what they do not. -/
set_option linter.unusedSimpArgs false
set_option linter.unusedVariables false
namespace W11
open Go Go.AX Go.AX.Ty Go.Proofs

def setA : List Ty.Attr → Str → Str → List Ty.Attr
  | [], n, v => [⟨n, v⟩]
  | a :: r, n, v => if a.name = n then ⟨a.name, v⟩ :: r else a :: setA r n v
def withF (s : Str) (out x : Str) : Str := if x = s then out else if out = [] then x else out ++ [32] ++ x
def withoutB (l : List Str) (s : Str) : Str := l.foldl (withF s) []
def inB (l : List Str) (s : Str) : Bool := l.any fun x => x == s
def attrsB (q : Page) (t : Turn) (x : Ty.Node) : List Ty.Attr :=
  if t.kind = 1 then (if inB (classesB q t.node) t.name = true then x.attrs else if (attrB q t.node sClass).1 = [] then setA x.attrs sClass t.name else setA x.attrs sClass ((attrB q t.node sClass).1 ++ [32] ++ t.name))
  else if t.kind = 2 then (if inB (classesB q t.node) t.name = true then setA x.attrs sClass (withoutB (classesB q t.node) t.name) else x.attrs)
  else if t.kind = 3 then setA x.attrs t.name t.value
  else if t.kind = 4 then x.attrs.filter (fun a => !(a.name == t.name))
  else x.attrs
def withA (x : Ty.Node) (l : List Ty.Attr) : Ty.Node := ⟨x.name, l, x.text, x.up, x.kids⟩
def stepT (q : Page) (t : Turn) : Page := match nodeAt q t.node with
  | some x => if x.name = [] then q else q.set t.node.toNat (withA x (attrsB q t x))
  | none => q
def doB (p : Page) (l : List Turn) : Page := l.foldl stepT p
def mayT (s : Safe) (p : Page) (t : Turn) : Bool := elemB p t.node && (decide (t.name ≠ []) &&
  (if t.kind = 1 ∨ t.kind = 2 then inB s.classes t.name && !t.name.any blankB else if t.kind = 3 ∨ t.kind = 4 then inB s.attrs t.name && decide (t.name ≠ sClass) else false))

def getA (l : List Ty.Attr) (v : Str) : Str × Bool := match l.find? (fun a => a.name == v) with
  | some a => (a.value, true)
  | none => ([], false)
theorem find_set_other {l : List Ty.Attr} {n v w : Str} (h : ¬ n = v) : (setA l n w).find? (fun a => a.name == v) = l.find? (fun a => a.name == v) := by
  induction l with
  | nil => simp [setA, h]
  | cons a r ih =>
    simp only [setA]
    split
    · rename_i e
      subst e
      simp [h]
    · simp only [List.find?_cons, ih]
theorem find_set_same {l : List Ty.Attr} {n w : Str} : (setA l n w).find? (fun a => a.name == n) = some ⟨n, w⟩ := by
  induction l with
  | nil => simp [setA]
  | cons a r ih =>
    simp only [setA]
    split
    · rename_i e; subst e; simp
    · rename_i e
      simp only [List.find?_cons, ih]
      have : (a.name == n) = false := by simpa using e
      rw [this]
theorem find_filter_other {l : List Ty.Attr} {n v : Str} (h : ¬ n = v) : (l.filter (fun a => !(a.name == n))).find? (fun a => a.name == v) = l.find? (fun a => a.name == v) := by
  induction l with
  | nil => rfl
  | cons a r ih =>
    by_cases e : a.name = n
    · have e1 : (!(a.name == n)) = false := by simp [e]
      have e2 : (a.name == v) = false := by subst e; simpa using h
      rw [List.filter_cons, e1]
      simp only [Bool.false_eq_true, if_false, List.find?_cons, e2, ih]
    · have e1 : (!(a.name == n)) = true := by simpa using e
      rw [List.filter_cons, e1]
      simp only [if_true, List.find?_cons, ih]

theorem getA_set_other {l : List Ty.Attr} {n v w : Str} (h : ¬ n = v) : getA (setA l n w) v = getA l v := by unfold getA; rw [find_set_other h]
theorem getA_set_same {l : List Ty.Attr} {n w : Str} : getA (setA l n w) n = (w, true) := by unfold getA; rw [find_set_same]
theorem getA_filter_other {l : List Ty.Attr} {n v : Str} (h : ¬ n = v) : getA (l.filter (fun a => !(a.name == n))) v = getA l v := by unfold getA; rw [find_filter_other h]
/- words -/
theorem words_app : ∀ (s r acc : Str), wordsGo (s ++ 32 :: r) acc = wordsGo s acc ++ wordsGo r []
  | [], r, acc => by
    have hb : blankB 32 = true := by rfl
    have e : wordsGo (32 :: r) acc = if acc = [] then wordsGo r [] else acc :: wordsGo r [] := by
      simp only [wordsGo]; rw [if_pos hb]
    show wordsGo (32 :: r) acc = _
    rw [e]
    by_cases h : acc = []
    · rw [if_pos h]; simp [wordsGo, h]
    · rw [if_neg h]; simp [wordsGo, h]
  | c :: s, r, acc => by
    show wordsGo (c :: (s ++ 32 :: r)) acc = _
    rw [wordsGo, wordsGo]
    split
    · split
      · exact words_app s r []
      · rw [words_app s r []]; rfl
    · exact words_app s r _
theorem words_one {v : Str} (h1 : v ≠ []) (h2 : v.any blankB = false) : wordsB v = [v] := (words_self v).2 ⟨h1, h2⟩
theorem words_snoc {o v : Str} (h1 : v ≠ []) (h2 : v.any blankB = false) : wordsB (o ++ [32] ++ v) = wordsB o ++ [v] := by
  unfold wordsB
  rw [List.append_assoc]
  show wordsGo (o ++ 32 :: v) [] = _
  rw [words_app]
  congr 1
  exact words_one h1 h2
def clean (l : List Str) : Prop := ∀ w ∈ l, w ≠ [] ∧ w.any blankB = false
theorem words_cl (s : Str) : clean (wordsB s) := fun w hw => by
  have := words_clean s [] (by simp) w hw
  exact ⟨this.1, by rw [List.any_eq_false]; intro c hc; simp [this.2 c hc]⟩
theorem without_words (s : Str) : ∀ (l : List Str) (out : Str) (done : List Str), clean l → wordsB out = done → wordsB (l.foldl (withF s) out) = done ++ l.filter fun x => !(x == s)
  | [], out, done, _, h => by simpa using h
  | x :: r, out, done, hc, h => by
    have hx := hc x (by simp)
    have hr : clean r := fun w hw => hc w (by simp [hw])
    simp only [List.foldl_cons]
    by_cases e : x = s
    · have : (!(x == s)) = false := by simp [e]
      rw [List.filter_cons, this]
      simp only [Bool.false_eq_true, if_false]
      exact without_words s r _ done hr (by rw [withF, if_pos e]; exact h)
    · have : (!(x == s)) = true := by simpa using e
      rw [List.filter_cons, this]
      simp only [if_true]
      rw [without_words s r _ (done ++ [x]) hr ?_]
      · simp
      · rw [withF, if_neg e]
        split
        · rename_i e0
          subst e0
          have : done = [] := by rw [← h]; rfl
          subst this
          exact words_one hx.1 hx.2
        · rw [words_snoc hx.1 hx.2, h]
theorem words_without (o s : Str) : wordsB (withoutB (wordsB o) s) = (wordsB o).filter fun x => !(x == s) := by
  have := without_words s (wordsB o) [] [] (words_cl o) rfl
  unfold withoutB
  simpa using this

/- what is the same -/
def strip (x : Ty.Node) : Ty.Node := if x.name = [] then x else withA x []
def SameBut (p q : Page) : Prop := p.map strip = q.map strip
theorem strip_eq {x y : Ty.Node} (h : strip x = strip y) : x.name = y.name ∧ x.text = y.text ∧ x.up = y.up ∧ x.kids = y.kids ∧ (x.name = [] → x = y) := by
  unfold strip withA at h
  split at h
  · split at h
    · subst h; exact ⟨rfl, rfl, rfl, rfl, fun _ => rfl⟩
    · rename_i e1 e2
      rw [h] at e1
      exact (e2 e1).elim
  · split at h
    · rename_i e1 e2
      rw [← h] at e2
      exact (e1 e2).elim
    · rename_i e1 e2
      simp only [Ty.Node.mk.injEq] at h
      exact ⟨h.1, h.2.2.1, h.2.2.2.1, h.2.2.2.2, fun e => (e1 e).elim⟩
theorem SameBut.len {p q : Page} (h : SameBut p q) : p.length = q.length := by
  have := congrArg List.length h; simpa using this
theorem SameBut.symm {p q : Page} (h : SameBut p q) : SameBut q p := Eq.symm h
theorem SameBut.trans {p q r : Page} (h : SameBut p q) (h' : SameBut q r) : SameBut p r := Eq.trans h h'
theorem SameBut.get {p q : Page} (h : SameBut p q) {i : Nat} {x : Ty.Node} (hx : p[i]? = some x) : ∃ y, q[i]? = some y ∧ strip x = strip y := by
  have := congrArg (fun l => l[i]?) h
  simp only [List.getElem?_map, hx, Option.map_some] at this
  cases hy : q[i]? with
  | none => rw [hy] at this; simp at this
  | some y => rw [hy] at this; simp at this; exact ⟨y, rfl, this⟩
theorem SameBut.no {p q : Page} (h : SameBut p q) {i : Nat} (hx : p[i]? = none) : q[i]? = none := by
  rw [List.getElem?_eq_none_iff] at hx ⊢; have := h.len; omega
theorem SameBut.node {p q : Page} (h : SameBut p q) {n : Int} : (nodeAt p n = none ∧ nodeAt q n = none) ∨ ∃ x y, nodeAt p n = some x ∧ nodeAt q n = some y ∧ strip x = strip y := by
  unfold nodeAt
  split
  · cases hx : p[n.toNat]? with
    | none => exact .inl ⟨rfl, h.no hx⟩
    | some x => obtain ⟨y, hy, e⟩ := h.get hx; exact .inr ⟨x, y, rfl, hy, e⟩
  · exact .inl ⟨rfl, rfl⟩
theorem SameBut.elem {p q : Page} (h : SameBut p q) : elemB p = elemB q := by
  funext n
  unfold elemB
  rcases h.node (n := n) with ⟨a, b⟩ | ⟨x, y, a, b, e⟩
  · rw [a, b]
  · rw [a, b]; simp only; rw [(strip_eq e).1]
theorem SameBut.upOf {p q : Page} (h : SameBut p q) (k : Nat) : W11.upOf p k = W11.upOf q k := by
  unfold W11.upOf
  cases hx : p[k]? with
  | none => rw [h.no hx]
  | some x => obtain ⟨y, hy, e⟩ := h.get hx; rw [hy]; exact (strip_eq e).2.2.1
theorem SameBut.kidsOf {p q : Page} (h : SameBut p q) (m n : Nat) : W11.kidsOf p m n = W11.kidsOf q m n := by
  unfold W11.kidsOf
  have : W11.upOf p = W11.upOf q := funext h.upOf
  rw [this]
theorem SameBut.tree' {p q : Page} (h : SameBut p q) (t : TreeP p) : TreeP q := by
  refine ⟨?_, fun y hy => ?_, fun j y hj hy => ?_, fun j y hy => ?_⟩
  · intro e; subst e; have := h.len; have := t.ne; cases p with
    | nil => exact this rfl
    | cons a r => simp at *
  · obtain ⟨x, hx, e⟩ := h.symm.get hy
    have hr := t.root x hx
    obtain ⟨e1, e2, e3, e4, e5⟩ := strip_eq e
    have : y = x := e5 (by rw [e1]; exact hr.2.1)
    subst this; exact hr
  · obtain ⟨x, hx, e⟩ := h.symm.get hy
    have := t.up j x hj hx
    rw [(strip_eq e).2.2.1]; exact this
  · obtain ⟨x, hx, e⟩ := h.symm.get hy
    rw [(strip_eq e).2.2.2.1, t.kids j x hx, h.kidsOf, h.len]
theorem SameBut.tree {p q : Page} (h : SameBut p q) : treeB p = treeB q := by
  rw [Bool.eq_iff_iff, treeB_iff, treeB_iff]
  exact ⟨h.tree', h.symm.tree'⟩
theorem nodeAt_set {q : Page} {n m : Int} {x y : Ty.Node} (hx : nodeAt q n = some x) : nodeAt (q.set n.toNat y) m = if m = n then some y else nodeAt q m := by
  have hn : 0 ≤ n := by
    unfold nodeAt at hx
    split at hx
    · assumption
    · simp at hx
  unfold nodeAt at hx ⊢
  rw [if_pos hn] at hx
  have hl := getElem_lt hx
  by_cases hm : 0 ≤ m
  · rw [if_pos hm]
    rw [List.getElem?_set]
    by_cases e : m = n
    · subst e; rw [if_pos rfl, if_pos rfl, if_pos hl]
    · rw [if_neg (by omega), if_neg e, if_pos hm]
  · rw [if_neg hm, if_neg (by omega), if_neg hm]
theorem set_same {q : Page} {n : Int} {x : Ty.Node} {l : List Ty.Attr} (hx : nodeAt q n = some x) (hn : ¬ x.name = []) : SameBut q (q.set n.toNat (withA x l)) := by
  unfold nodeAt at hx
  split at hx
  · unfold SameBut
    rw [List.map_set]
    have e : strip (withA x l) = strip x := by simp [strip, withA, hn]
    rw [e]
    symm
    apply List.ext_getElem? 
    intro i
    rw [List.getElem?_set]
    by_cases h : n.toNat = i
    · subst h
      have hl := getElem_lt hx
      rw [if_pos rfl, if_pos (by simpa using hl), List.getElem?_map, hx]; rfl
    · rw [if_neg h]
  · simp at hx
theorem attrB_of {q : Page} {n : Int} {x : Ty.Node} (hx : nodeAt q n = some x) (hn : ¬ x.name = []) (v : Str) : attrB q n v = getA x.attrs v := by
  unfold attrB; rw [hx]; simp only; rw [if_neg hn]; rfl
theorem inB_sym (l : List Str) (v : Str) : inB l v = l.any fun x => v == x := by
  unfold inB; congr 1; funext x; rw [Bool.eq_iff_iff, beq_iff_eq, beq_iff_eq]; exact ⟨Eq.symm, Eq.symm⟩
end W11
