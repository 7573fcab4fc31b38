/- Searches in lists: the library's and the document's. -/
import Derived.Test.YtoilbphgflgbeaaGreatFx
set_option linter.unusedSimpArgs false
set_option linter.unusedVariables false
namespace W15
open Go Go.AX Go.AX.Ty Go.Proofs
def idxOf {α : Type} (p : α → Bool) (l : List α) : Int := match l.findIdx? p with
  | some i => i
  | none => -1
def Pre {α : Type} (p : α → Bool) (l : List α) (k : Nat) : Prop := ∀ y ∈ l.take k, p y = false
theorem Pre.zero {α : Type} (p : α → Bool) (l : List α) : Pre p l 0 := by simp [Pre]
theorem Pre.next {α : Type} {p : α → Bool} {l : List α} {k : Nat} {x : α} (hb : Pre p l k) (hx : l[k]? = some x) (hp : p x = false) : Pre p l (k + 1) := by
  intro y hy
  rw [List.take_add_one, hx] at hy
  simp only [Option.toList_some, List.mem_append, List.mem_singleton] at hy
  rcases hy with h | h
  · exact hb y h
  · rw [h]; exact hp
theorem Pre.all {α : Type} {p : α → Bool} {l : List α} {k : Nat} (hb : Pre p l k) (hk : k ≥ l.length) : ∀ y ∈ l, p y = false := by
  unfold Pre at hb; rwa [List.take_of_length_le hk] at hb
theorem idx_here {α : Type} {p : α → Bool} {l : List α} {k : Nat} {x : α} (hx : l[k]? = some x) (hp : p x = true) (hb : Pre p l k) : idxOf p l = k := by
  have : l.findIdx? p = some k := by
    rw [List.findIdx?_eq_some_iff_getElem]
    have hk : k < l.length := by
      rcases Nat.lt_or_ge k l.length with h | h
      · exact h
      · rw [List.getElem?_eq_none h] at hx; simp at hx
    have hg : l[k] = x := by rw [List.getElem?_eq_getElem hk] at hx; simpa using hx
    refine ⟨hk, by rw [hg]; exact hp, fun j hj => ?_⟩
    have : l[j] ∈ l.take k := by
      rw [List.mem_take_iff_getElem]
      exact ⟨j, by omega, rfl⟩
    simp [hb _ this]
  simp [idxOf, this]
theorem idx_none {α : Type} {p : α → Bool} {l : List α} (hb : ∀ y ∈ l, p y = false) : idxOf p l = -1 := by
  have : l.findIdx? p = none := List.findIdx?_eq_none_iff.2 hb
  simp [idxOf, this]
theorem idx_any {α : Type} {p : α → Bool} {l : List α} : decide (idxOf p l ≥ 0) = l.any p := by
  unfold idxOf
  cases h : l.findIdx? p with
  | none =>
    have := List.findIdx?_eq_none_iff.1 h
    have h2 : l.any p = false := by rw [List.any_eq_false]; intro x hx; simp [this x hx]
    rw [h2]; rfl
  | some i =>
    obtain ⟨hi, hp, _⟩ := List.findIdx?_eq_some_iff_getElem.1 h
    have h2 : l.any p = true := List.any_eq_true.2 ⟨l[i], List.getElem_mem hi, hp⟩
    rw [h2]; simp
theorem idx_cases {α : Type} (p : α → Bool) (l : List α) : (idxOf p l = -1 ∧ ∀ y ∈ l, p y = false) ∨ ∃ i x, idxOf p l = (i : Nat) ∧ i < l.length ∧ l[i]? = some x ∧ p x = true ∧ Pre p l i := by
  cases h : l.findIdx? p with
  | none =>
    have := List.findIdx?_eq_none_iff.1 h
    exact .inl ⟨idx_none this, this⟩
  | some i =>
    obtain ⟨hi, hp, hq⟩ := List.findIdx?_eq_some_iff_getElem.1 h
    refine .inr ⟨i, l[i], by simp [idxOf, h], hi, by simp [hi], hp, fun y hy => ?_⟩
    obtain ⟨j, hj, rfl⟩ := List.mem_take_iff_getElem.1 hy
    have := hq j (by omega)
    simpa using this
theorem any_here {α : Type} {p : α → Bool} {l : List α} {x : α} (hm : x ∈ l) (hp : p x = true) : l.any p = true := List.any_eq_true.2 ⟨x, hm, hp⟩
theorem any_no {α : Type} {p : α → Bool} {l : List α} (hb : ∀ y ∈ l, p y = false) : l.any p = false := by
  rw [List.any_eq_false]; intro x hx; simp [hb x hx]
theorem w_index_str (v : Str) (l : List Str) (hl : l.length ≤ 140737488355328) : PureF Tryz.prog 69 [Enc.av l, Enc.av v] (.int .i64 (idxOf (fun x => v == x) l)) := by
  refine pureF_W mix c69 (by kernel_rfl) (by kernel_rfl) (by simp [flats, flat_av, Go.AX.flat]) (by first | exact flat_av _ | simp [flat, flats, flat_av]) ?_
  simp -implicitDefEqProofs only [F69, go_sem, seval]
  refine LoopI_sl (fun k : Nat => l.length - k) (fun k => [(0, Enc.av l), (1, Enc.av v), (7, .int .i64 l.length), (8, .int .i64 k)]) (fun k s => k ≤ l.length ∧ Pre (fun x => v == x) l k) 0 ?_ ?_
  · simp -implicitDefEqProofs only [go_sem, seval]
    exact Pre.zero _ _
  rintro k ρ s ⟨h1, h2⟩
  rcases Nat.lt_or_ge k l.length with hk | hk
  · obtain ⟨x, hx, hd, hm⟩ := get_drop hk
    have hlt : ((k : Int) < (l.length : Int)) = True := eq_true (by omega)
    have w1 : IntKind.i64.wrap ((k : Int) + 1) = ((k + 1 : Nat) : Int) := by rw [wrap64 (by omega) (by omega)]; omega
    simp -implicitDefEqProofs only [hlt, hx, w1, go_sem, seval]
    (refine brI_both (fun h hT => ?_) (fun h hT => ?_) <;> try simp -implicitDefEqProofs only [hT, w1, go_sem, seval] <;> try clear hT)
    · rw [idx_here hx (by simpa using h) h2]
    · exact ⟨k + 1, by omega, rfl, by omega, h2.next hx (by simpa using h)⟩
  · have hlt : ((k : Int) < (l.length : Int)) = False := eq_false (by omega)
    simp -implicitDefEqProofs only [hlt, go_sem, seval]
    rw [idx_none (h2.all hk)]
theorem w_index_int (v : Int) (l : List Int) (hl : l.length ≤ 140737488355328) : PureF Tryz.prog 120 [Enc.av l, Enc.av v] (.int .i64 (idxOf (fun x => v == x) l)) := by
  refine pureF_W mix c120 (by kernel_rfl) (by kernel_rfl) (by simp [flats, flat_av, Go.AX.flat]) (by first | exact flat_av _ | simp [flat, flats, flat_av]) ?_
  simp -implicitDefEqProofs only [F120, go_sem, seval]
  refine LoopI_sl (fun k : Nat => l.length - k) (fun k => [(0, Enc.av l), (1, Enc.av v), (7, .int .i64 l.length), (8, .int .i64 k)]) (fun k s => k ≤ l.length ∧ Pre (fun x => v == x) l k) 0 ?_ ?_
  · simp -implicitDefEqProofs only [go_sem, seval]
    exact Pre.zero _ _
  rintro k ρ s ⟨h1, h2⟩
  rcases Nat.lt_or_ge k l.length with hk | hk
  · obtain ⟨x, hx, hd, hm⟩ := get_drop hk
    have hlt : ((k : Int) < (l.length : Int)) = True := eq_true (by omega)
    have w1 : IntKind.i64.wrap ((k : Int) + 1) = ((k + 1 : Nat) : Int) := by rw [wrap64 (by omega) (by omega)]; omega
    simp -implicitDefEqProofs only [hlt, hx, w1, go_sem, seval]
    (refine brI_both (fun h hT => ?_) (fun h hT => ?_) <;> try simp -implicitDefEqProofs only [hT, w1, go_sem, seval] <;> try clear hT)
    · rw [idx_here hx (by simpa using h) h2]
    · exact ⟨k + 1, by omega, rfl, by omega, h2.next hx (by simpa using h)⟩
  · have hlt : ((k : Int) < (l.length : Int)) = False := eq_false (by omega)
    simp -implicitDefEqProofs only [hlt, go_sem, seval]
    rw [idx_none (h2.all hk)]
end W15
/- Nodes, attributes. -/
set_option linter.unusedSimpArgs false
set_option linter.unusedVariables false
namespace W15
open Go Go.AX Go.AX.Ty Go.Proofs
abbrev Page := List Ty.Node
def nodeAt (p : Page) (n : Int) : Option Ty.Node := if 0 ≤ n then p[n.toNat]? else none
def elemB (p : Page) (n : Int) : Bool := match nodeAt p n with
  | some x => decide (x.name ≠ [])
  | none => false
theorem nodeAt_nat (p : Page) (k : Nat) : nodeAt p (k : Int) = p[k]? := by simp [nodeAt]
theorem nodeAt_neg {p : Page} {n : Int} (h : ¬ 0 ≤ n) : nodeAt p n = none := by simp [nodeAt, h]
theorem node_cases (p : Page) (n : Int) : (nodeAt p n = none ∧ (¬ 0 ≤ n ∨ ¬ n < p.length)) ∨ ∃ k x, n = (k : Nat) ∧ k < p.length ∧ p[k]? = some x ∧ nodeAt p n = some x := by
  by_cases h : 0 ≤ n
  · obtain ⟨k, rfl⟩ := Int.eq_ofNat_of_zero_le h
    rcases Nat.lt_or_ge k p.length with hk | hk
    · exact .inr ⟨k, p[k], rfl, hk, by simp [hk], by rw [nodeAt_nat]; simp [hk]⟩
    · exact .inl ⟨by rw [nodeAt_nat]; simp [hk], .inr (by omega)⟩
  · exact .inl ⟨nodeAt_neg h, .inl h⟩
theorem w_Element (p : Page) (n : Int) : PureF Tryz.prog 122 [Enc.av p, Enc.av n] (.bool (elemB p n)) := by
  refine pureF_W mix c122 (by kernel_rfl) (by kernel_rfl) (by simp [flats, flat_av, Go.AX.flat]) (by first | exact flat_av _ | simp [flat, flats, flat_av]) ?_
  rcases node_cases p n with ⟨e, h⟩ | ⟨k, x, rfl, hk, hx, e⟩
  · have e2 : elemB p n = false := by simp [elemB, e]
    rw [e2]
    simp -implicitDefEqProofs only [F122, go_sem, seval]
    repeat' (refine brI_both (fun h hT => ?_) (fun h hT => ?_) <;> try simp -implicitDefEqProofs only [hT, go_sem, seval] <;> try clear hT)
    all_goals (first | omega | (exfalso; omega))
  · have hlt : ((k : Int) < (p.length : Int)) = True := eq_true (by omega)
    have hge : ((k : Int) ≥ 0) = True := eq_true (by omega)
    have e2 : elemB p k = decide (x.name ≠ []) := by simp [elemB, e]
    rw [e2]
    simp -implicitDefEqProofs only [F122, hlt, hge, hx, go_sem, seval]
    by_cases h : x.name = [] <;> simp [h]
end W15
/- Attributes, classes. -/
set_option linter.unusedSimpArgs false
set_option linter.unusedVariables false
namespace W15
open Go Go.AX Go.AX.Ty Go.Proofs
theorem w_attr1 (a : Attr) (v : Str) : PureF Tryz.prog 210 [Enc.av a, .vp [.str v]] (.bool (a.name == v)) := by
  refine pureF_W mix c210 (by kernel_rfl) (by kernel_rfl) (by simp [flats, flat_av, Go.AX.flat]) (by first | exact flat_av _ | simp [flat, flats, flat_av]) ?_
  simp -implicitDefEqProofs only [F210, go_sem, seval]
theorem w_idxF_Attr (g : Nat) (cs : List AV) (p : Attr → Bool) (hcs : flats cs = true) (l : List Attr) (hp : ∀ x ∈ l, PureF Tryz.prog g [Enc.av x, .vp cs] (.bool (p x))) (hl : l.length ≤ 140737488355328) :
    PureF Tryz.prog 209 [Enc.av l, .fn (.func g) [] [.vp cs]] (.int .i64 (idxOf p l)) := by
  refine pureF_W mix c209 (by kernel_rfl) (by kernel_rfl) (by simp [flats, flat_av, Go.AX.flat, hcs]) (by first | exact flat_av _ | simp [flat, flats, flat_av]) ?_
  simp -implicitDefEqProofs only [F209, go_sem, seval]
  refine LoopI_sl (fun k : Nat => l.length - k) (fun k => [(0, Enc.av l), (1, .fn (.func g) [] [.vp cs]), (7, .int .i64 l.length), (8, .int .i64 k)]) (fun k s => k ≤ l.length ∧ Pre p l k) 0 ?_ ?_
  · simp -implicitDefEqProofs only [go_sem, seval]
    exact Pre.zero _ _
  rintro k ρ ⟨hh, mm⟩ ⟨h1, h2⟩
  rcases Nat.lt_or_ge k l.length with hk | hk
  · obtain ⟨x, hx, hd, hm⟩ := get_drop hk
    have hlt : ((k : Int) < (l.length : Int)) = True := eq_true (by omega)
    have w1 : IntKind.i64.wrap ((k : Int) + 1) = ((k + 1 : Nat) : Int) := by rw [wrap64 (by omega) (by omega)]; omega
    simp -implicitDefEqProofs only [hlt, hx, w1, go_sem, seval]
    refine callI_pure (hp x hm) ?_
    simp -implicitDefEqProofs only [go_sem, seval]
    (refine brI_both (fun h hT => ?_) (fun h hT => ?_) <;> try simp -implicitDefEqProofs only [hT, w1, go_sem, seval] <;> try clear hT)
    · rw [idx_here hx h h2]
    · exact ⟨k + 1, by omega, rfl, by omega, h2.next hx (by simpa using h)⟩
  · have hlt : ((k : Int) < (l.length : Int)) = False := eq_false (by omega)
    simp -implicitDefEqProofs only [hlt, go_sem, seval]
    rw [idx_none (h2.all hk)]
def attrB (p : Page) (n : Int) (v : Str) : Str × Bool := match nodeAt p n with
  | some x => if x.name = [] then ([], false) else match x.attrs.find? (fun a => a.name == v) with
    | some a => (a.value, true)
    | none => ([], false)
  | none => ([], false)
theorem find_of_idx {α : Type} {p : α → Bool} {l : List α} {i : Nat} {x : α} (hx : l[i]? = some x) (hp : p x = true) (hb : Pre p l i) : l.find? p = some x := by
  rw [List.find?_eq_some_iff_append]
  have hi : i < l.length := by
    rcases Nat.lt_or_ge i l.length with h | h
    · exact h
    · rw [List.getElem?_eq_none h] at hx; simp at hx
  have hg : l[i] = x := by rw [List.getElem?_eq_getElem hi] at hx; simpa using hx
  refine ⟨hp, l.take i, l.drop (i + 1), ?_, fun a ha => by simp [hb a ha]⟩
  rw [← hg, ← List.drop_eq_getElem_cons hi, List.take_append_drop]
theorem w_Attr (p : Page) (hp : Enc.ok p) (n : Int) (v : Str) : PureF Tryz.prog 195 [Enc.av p, Enc.av n, Enc.av v] (.tup [.str (attrB p n v).1, .bool (attrB p n v).2]) := by
  refine pureF_W mix c195 (by kernel_rfl) (by kernel_rfl) (by simp [flats, flat_av, Go.AX.flat]) (by first | exact flat_av _ | simp [flat, flats, flat_av]) ?_
  simp -implicitDefEqProofs only [F195, go_sem, seval]
  refine callI_pure (w_Element p n) ?_
  simp -implicitDefEqProofs only [go_sem, seval]
  rcases node_cases p n with ⟨e, h⟩ | ⟨k, x, rfl, hk, hx, e⟩
  · have e2 : elemB p n = false := by simp [elemB, e]
    have e3 : attrB p n v = ([], false) := by simp [attrB, e]
    rw [e3]
    simp -implicitDefEqProofs only [e2, go_sem, seval]
  · have e2 : elemB p k = decide (x.name ≠ []) := by simp [elemB, e]
    by_cases hn : x.name = []
    · have e3 : attrB p k v = ([], false) := by simp [attrB, e, hn]
      have e4 : elemB p k = false := by rw [e2]; simp [hn]
      rw [e3]
      simp -implicitDefEqProofs only [e4, go_sem, seval]
    · have e4 : elemB p k = true := by rw [e2]; simp [hn]
      have hok := (Node.ok_iff x).1 (hp.2 x (List.mem_of_getElem? hx))
      simp -implicitDefEqProofs only [e4, hx, go_sem, seval]
      refine callI_d (w_idxF_Attr 210 [.str v] (fun a => a.name == v) rfl x.attrs (fun a _ => w_attr1 a v) hok.2.1.1) ?_
      simp -implicitDefEqProofs only [go_sem, seval]
      rcases idx_cases (fun a : Attr => a.name == v) x.attrs with ⟨i1, i2⟩ | ⟨i, y, i1, i2, i3, i4, i5⟩
      · have e3 : attrB p k v = ([], false) := by
          simp only [attrB, e, if_neg hn]
          rw [List.find?_eq_none.2 (fun a ha => by simp [i2 a ha])]
        rw [e3, i1]
        simp -implicitDefEqProofs only [go_sem, seval]
      · have e3 : attrB p k v = (y.value, true) := by
          simp only [attrB, e, if_neg hn]
          rw [find_of_idx i3 i4 i5]
        have hge : ((i : Int) < 0) = False := eq_false (by omega)
        rw [e3, i1]
        simp -implicitDefEqProofs only [hx, i3, hge, go_sem, seval]
end W15
/- Attributes, states: the document's; what is in a list. -/
set_option linter.unusedSimpArgs false
set_option linter.unusedVariables false
namespace W15
open Go Go.AX Go.AX.Ty Go.Proofs
theorem w_contains_str (l : List Str) (v : Str) (hl : l.length ≤ 140737488355328) : PureF Tryz.prog 39 [Enc.av l, Enc.av v] (.bool (l.any fun x => v == x)) := by
  refine pureF_W mix c39 (by kernel_rfl) (by kernel_rfl) (by simp [flats, flat_av, Go.AX.flat]) (by first | exact flat_av _ | simp [flat, flats, flat_av]) ?_
  simp -implicitDefEqProofs only [F39, go_sem, seval]
  refine callI_pure (w_index_str v l hl) ?_
  simp -implicitDefEqProofs only [go_sem, seval]
  rw [idx_any]
theorem w_index_state (v : Ty.State) (l : List Ty.State) (hl : l.length ≤ 140737488355328) : PureF Tryz.prog 199 [Enc.av l, Enc.av v] (.int .i64 (idxOf (fun x => v.node == x.node && v.name == x.name) l)) := by
  refine pureF_W mix c199 (by kernel_rfl) (by kernel_rfl) (by simp [flats, flat_av, Go.AX.flat]) (by first | exact flat_av _ | simp [flat, flats, flat_av]) ?_
  simp -implicitDefEqProofs only [F199, go_sem, seval]
  refine LoopI_sl (fun k : Nat => l.length - k) (fun k => [(0, Enc.av l), (3, .ptr 0 0 0), (7, .int .i64 l.length), (8, .int .i64 k)]) (fun k s => s = ⟨[(0, .cells 0 [.int .i64 v.node, .str v.name] false)], 1⟩ ∧ k ≤ l.length ∧ Pre (fun x => v.node == x.node && v.name == x.name) l k) 0 ?_ ?_
  · simp -implicitDefEqProofs only [go_sem, seval]
    exact Pre.zero _ _
  rintro k ρ s ⟨rfl, h1, h2⟩
  rcases Nat.lt_or_ge k l.length with hk | hk
  · obtain ⟨x, hx, hd, hm⟩ := get_drop hk
    have hlt : ((k : Int) < (l.length : Int)) = True := eq_true (by omega)
    have w1 : IntKind.i64.wrap ((k : Int) + 1) = ((k + 1 : Nat) : Int) := by rw [wrap64 (by omega) (by omega)]; omega
    simp -implicitDefEqProofs only [hlt, hx, w1, go_sem, seval]
    refine andI_intro (by (first | omega | (simp [indepB, indep1, apart1, Nat.testBit_eq_decide_div_mod_eq]; done) | (simp [indepB, indep1, apart1, Nat.testBit_eq_decide_div_mod_eq]; omega) | kernel_rfl)) ?_
    simp -implicitDefEqProofs only [go_sem, seval]
    repeat' (refine brI_both (fun h hT => ?_) (fun h hT => ?_) <;> try simp -implicitDefEqProofs only [hT, w1, go_sem, seval] <;> try clear hT)
    all_goals first
      | (rw [idx_here hx (by simp_all) h2]; done)
      | exact ⟨k + 1, by omega, rfl, by omega, h2.next hx (by simp_all)⟩
      | trace_state
  · have hlt : ((k : Int) < (l.length : Int)) = False := eq_false (by omega)
    simp -implicitDefEqProofs only [hlt, go_sem, seval]
    rw [idx_none (h2.all hk)]
theorem w_contains_state (l : List State) (v : State) (hl : l.length ≤ 140737488355328) : PureF Tryz.prog 177 [Enc.av l, Enc.av v] (.bool (l.any fun x => v.node == x.node && v.name == x.name)) := by
  refine pureF_W mix c177 (by kernel_rfl) (by kernel_rfl) (by simp [flats, flat_av, Go.AX.flat]) (by first | exact flat_av _ | simp [flat, flats, flat_av]) ?_
  simp -implicitDefEqProofs only [F177, go_sem, seval]
  refine callI_pure (w_index_state v l hl) ?_
  simp -implicitDefEqProofs only [go_sem, seval]
  rw [idx_any]
theorem w_attr (p : Page) (st : List State) (hp : Enc.ok p) (n : Int) (v : Str) (l : List Str) (hl : l.length ≤ 140737488355328) : PureF Tryz.prog 175 [.agg [Enc.av p, Enc.av st], Enc.av n, Enc.av v, Enc.av l] (.bool ((attrB p n v).2 && (decide (l.length = 0) || l.any fun x => (attrB p n v).1 == x))) := by
  refine pureF_W mix c175 (by kernel_rfl) (by kernel_rfl) (by simp [flats, flat_av, Go.AX.flat]) (by first | exact flat_av _ | simp [flat, flats, flat_av]) ?_
  simp -implicitDefEqProofs only [F175, go_sem, seval]
  refine callI_pure (w_Attr p hp n v) ?_
  simp -implicitDefEqProofs only [go_sem, seval]
  generalize attrB p n v = r
  obtain ⟨a, b⟩ := r
  cases b
  · simp -implicitDefEqProofs only [go_sem, seval]
    rfl
  · simp -implicitDefEqProofs only [go_sem, seval]
    by_cases h0 : l.length = 0
    · have h1 : ((l.length : Int) = 0) = True := eq_true (by omega)
      simp -implicitDefEqProofs only [h1, h0, go_sem, seval]
      simp
    · have h1 : ((l.length : Int) = 0) = False := eq_false (by omega)
      simp -implicitDefEqProofs only [h1, go_sem, seval]
      refine callI_pure (w_contains_str l a hl) ?_
      simp -implicitDefEqProofs only [h1, go_sem, seval]
      simp [h0]
end W15
/- Words of texts: plain laws. -/
set_option linter.unusedSimpArgs false
set_option linter.unusedVariables false
namespace W15
open Go Go.AX Go.AX.Ty Go.Proofs
def blankB (c : UInt8) : Bool := c == 32 || c == 9 || c == 10 || c == 12 || c == 13
def wordsGo : Str → Str → List Str
  | [], acc => if acc = [] then [] else [acc]
  | c :: r, acc => if blankB c = true then (if acc = [] then wordsGo r [] else acc :: wordsGo r []) else wordsGo r (acc ++ [c])
def wordsB (s : Str) : List Str := wordsGo s []
theorem wordsGo_run : ∀ (a r acc : Str), (∀ c ∈ a, blankB c = false) → wordsGo (a ++ r) acc = wordsGo r (acc ++ a)
  | [], r, acc, _ => by simp
  | c :: a, r, acc, h => by
    have h1 := h c (by simp)
    show wordsGo (c :: (a ++ r)) acc = _
    rw [wordsGo, if_neg (by simp [h1]), wordsGo_run a r _ fun x hx => h x (by simp [hx])]
    simp
theorem decL_spec (b : UInt8) (l : List UInt8) : (b.toNat < 128 ∧ decL (b :: l) = (b.toNat, 1)) ∨ (128 ≤ b.toNat ∧ 128 ≤ (decL (b :: l)).1 ∧ (decL (b :: l)).1 ≤ 1114111 ∧ Utf8.valid (decL (b :: l)).1 = true ∧ 1 ≤ (decL (b :: l)).2 ∧ (decL (b :: l)).2 ≤ (b :: l).length ∧ ∀ c ∈ (b :: l).take (decL (b :: l)).2, 128 ≤ c.toNat) := by
  have hc : ∀ k, (decide (k < (b :: l).length) && ((b :: l).getD k 0).toNat / 64 == 2) = true → k < (b :: l).length ∧ 128 ≤ ((b :: l).getD k 0).toNat := fun k h => by
    simp only [Bool.and_eq_true, decide_eq_true_eq, beq_iff_eq] at h
    omega
  have ht : ∀ n, n ≤ (b :: l).length → (∀ k, k < n → 128 ≤ ((b :: l).getD k 0).toNat) → ∀ c ∈ (b :: l).take n, 128 ≤ c.toNat := fun n hn h c hc => by
    obtain ⟨i, hi, rfl⟩ := List.mem_take_iff_getElem.1 hc
    have := h i (by omega)
    rwa [List.getD_eq_getElem?_getD, List.getElem?_eq_getElem (by omega)] at this
  by_cases h0 : b.toNat < 128
  · left; exact ⟨h0, by simp [decL, h0]⟩
  right
  refine ⟨by omega, ?_⟩
  have hb : ((b :: l).getD 0 0).toNat = b.toNat := rfl
  have one : (65533, 1) = decL (b :: l) → 128 ≤ (decL (b :: l)).1 ∧ (decL (b :: l)).1 ≤ 1114111 ∧ Utf8.valid (decL (b :: l)).1 = true ∧ 1 ≤ (decL (b :: l)).2 ∧ (decL (b :: l)).2 ≤ (b :: l).length ∧ ∀ c ∈ (b :: l).take (decL (b :: l)).2, 128 ≤ c.toNat := fun e => by
    rw [← e]
    refine ⟨by decide, by decide, by decide, by decide, by simp, ht 1 (by simp) fun k hk => ?_⟩
    rw [show k = 0 by omega, hb]; omega
  unfold decL at one ⊢
  simp only [hb] at one ⊢
  rw [if_neg h0] at one ⊢
  split
  · rename_i h1
    simp only [Bool.and_eq_true] at h1
    obtain ⟨k1, c1⟩ := hc 1 (by simpa using h1.2)
    split
    · rename_i h2
      simp only
      have := ((b :: l).getD 1 0).toNat_lt
      refine ⟨by omega, by omega, ?_, by omega, by omega, ht 2 (by omega) fun k hk => ?_⟩
      · simp only [Utf8.valid, Bool.or_eq_true, Bool.and_eq_true, decide_eq_true_eq]; omega
      · rcases Nat.lt_or_ge k 1 with h | h
        · rw [show k = 0 by omega, hb]; omega
        · rw [show k = 1 by omega]; exact c1
    · rename_i h2
      rw [if_pos (by simp only [Bool.and_eq_true]; exact h1), if_neg h2] at one
      exact one rfl
  · rename_i h1
    rw [if_neg h1] at one
    split
    · rename_i h3
      simp only [Bool.and_eq_true] at h3
      obtain ⟨k1, c1⟩ := hc 1 (by simpa using h3.1.2)
      obtain ⟨k2, c2⟩ := hc 2 (by simpa using h3.2)
      split
      · rename_i h2
        simp only [Bool.and_eq_true, decide_eq_true_eq] at h2
        simp only
        refine ⟨by omega, ?_, h2.2, by omega, by omega, ht 3 (by omega) fun k hk => ?_⟩
        · omega
        · rcases Nat.lt_or_ge k 1 with h | h
          · rw [show k = 0 by omega, hb]; omega
          · rcases Nat.lt_or_ge k 2 with h' | h'
            · rw [show k = 1 by omega]; exact c1
            · rw [show k = 2 by omega]; exact c2
      · rename_i h2
        rw [if_pos (by simp only [Bool.and_eq_true]; exact h3), if_neg h2] at one
        exact one rfl
    · rename_i h3
      rw [if_neg h3] at one
      split
      · rename_i h4
        simp only [Bool.and_eq_true] at h4
        obtain ⟨k1, c1⟩ := hc 1 (by simpa using h4.1.1.2)
        obtain ⟨k2, c2⟩ := hc 2 (by simpa using h4.1.2)
        obtain ⟨k3, c3⟩ := hc 3 (by simpa using h4.2)
        split
        · rename_i h2
          simp only [Bool.and_eq_true, decide_eq_true_eq] at h2
          simp only
          refine ⟨by omega, ?_, h2.2, by omega, by omega, ht 4 (by omega) fun k hk => ?_⟩
          · have := h2.2
            simp only [Utf8.valid, Bool.or_eq_true, Bool.and_eq_true, decide_eq_true_eq] at this
            omega
          · rcases Nat.lt_or_ge k 1 with h | h
            · rw [show k = 0 by omega, hb]; omega
            · rcases Nat.lt_or_ge k 2 with h' | h'
              · rw [show k = 1 by omega]; exact c1
              · rcases Nat.lt_or_ge k 3 with h'' | h''
                · rw [show k = 2 by omega]; exact c2
                · rw [show k = 3 by omega]; exact c3
        · rename_i h2
          rw [if_pos (by simp only [Bool.and_eq_true]; exact h4), if_neg h2] at one
          exact one rfl
      · rename_i h4
        rw [if_neg h4] at one
        exact one rfl
end W15
/- Words of texts: the library's. -/
set_option linter.unusedSimpArgs false
set_option linter.unusedVariables false
namespace W15
open Go Go.AX Go.AX.Ty Go.Proofs
theorem ofNat_last (n : Nat) : 128 ≤ (UInt8.ofNat (128 + n % 64)).toNat := by
  have : n % 64 < 64 := Nat.mod_lt _ (by decide)
  simp [UInt8.toNat_ofNat]; omega
theorem encL_spec (r : Int) (h1 : 128 ≤ r) (hv : Utf8.valid r = true) : (∃ a b, encL r = [a, b] ∧ 128 ≤ b.toNat) ∨ (∃ a b c, encL r = [a, b, c] ∧ 128 ≤ c.toNat) ∨ ∃ a b c d, encL r = [a, b, c, d] ∧ 128 ≤ d.toNat := by
  unfold encL Utf8.encode
  rw [if_pos hv]
  simp only
  rw [if_neg (by omega)]
  split
  · exact .inl ⟨_, _, rfl, ofNat_last _⟩
  · split
    · exact .inr (.inl ⟨_, _, _, rfl, ofNat_last _⟩)
    · exact .inr (.inr ⟨_, _, _, _, rfl, ofNat_last _⟩)
abbrev blanks : Str := [32, 10, 9, 12, 13]
theorem idxL_far : ∀ (l : Str) (c : UInt8) (i : Nat), (∀ x ∈ l, x.toNat < 128) → 128 ≤ c.toNat → idxL c l i = -1
  | [], c, i, _, _ => rfl
  | x :: r, c, i, h, hc => by
    have := h x (by simp)
    rw [idxL, if_neg (by intro e; subst e; omega)]
    exact idxL_far r c _ (fun y hy => h y (by simp [hy])) hc
theorem w_IndexByte0 (l : Str) (n : Int) : PureF Tryz.prog 223 [.str l, .int .u8 n] (.int .i64 (idxL (UInt8.ofNat n.toNat) l 0)) := by
  refine pureF_W mix c223 (by kernel_rfl) (by kernel_rfl) (by simp [flats, flat_av, Go.AX.flat]) (by first | exact flat_av _ | simp [flat, flats, flat_av]) ?_
  simp -implicitDefEqProofs only [F223, go_sem, seval]
theorem w_IndexByte (l : Str) (n : Int) : PureF Tryz.prog 217 [.str l, .int .u8 n] (.int .i64 (idxL (UInt8.ofNat n.toNat) l 0)) := by
  refine pureF_W mix c217 (by kernel_rfl) (by kernel_rfl) (by simp [flats, flat_av, Go.AX.flat]) (by first | exact flat_av _ | simp [flat, flats, flat_av]) ?_
  simp -implicitDefEqProofs only [F217, go_sem, seval]
  refine callI_pure (w_IndexByte0 l n) ?_
  simp -implicitDefEqProofs only [go_sem, seval]
theorem w_ValidRune (r : Int) (hv : Utf8.valid r = true) : PureF Tryz.prog 218 [.int .i32 r] (.bool true) := by
  simp only [Utf8.valid, Bool.or_eq_true, Bool.and_eq_true, decide_eq_true_eq] at hv
  refine pureF_W mix c218 (by kernel_rfl) (by kernel_rfl) (by simp [flats, flat_av, Go.AX.flat]) (by first | exact flat_av _ | simp [flat, flats, flat_av]) ?_
  simp -implicitDefEqProofs only [F218, go_sem, seval]
  repeat' (refine brI_both (fun h hT => ?_) (fun h hT => ?_) <;> try simp -implicitDefEqProofs only [hT, go_sem, seval] <;> try clear hT)
  all_goals omega
theorem w_IndexRune (r : Int) (h0 : 0 ≤ r) (hv : Utf8.valid r = true) : PureF Tryz.prog 211 [.str blanks, .int .i32 r] (.int .i64 (if r < 128 then idxL (UInt8.ofNat r.toNat) blanks 0 else -1)) := by
  refine pureF_W mix c211 (by kernel_rfl) (by kernel_rfl) (by simp [flats, flat_av, Go.AX.flat]) (by first | exact flat_av _ | simp [flat, flats, flat_av]) ?_
  have g0 : (0 ≤ r) = True := eq_true h0
  by_cases h1 : r < 128
  · have g1 : (r < 128) = True := eq_true h1
    have g2 : IntKind.u8.wrap r = r := by simp [IntKind.wrap, IntKind.bits, IntKind.signed]; omega
    simp -implicitDefEqProofs only [F211, g0, g1, g2, go_sem, seval]
    refine callI_pure (w_IndexByte blanks r) ?_
    simp -implicitDefEqProofs only [go_sem, seval]
  have g1 : (r < 128) = False := eq_false h1
  rw [if_neg h1]
  by_cases h2 : r = 65533
  · have g2 : (r = 65533) = True := eq_true h2
    simp -implicitDefEqProofs only [F211, g0, g1, g2, go_sem, seval]
    rw [LoopI_def]
    refine ⟨6, ?_⟩
    have d1 : decL [32, 10, 9, 12, 13] = (32, 1) := rfl
    have d2 : decL [10, 9, 12, 13] = (10, 1) := rfl
    have d3 : decL [9, 12, 13] = (9, 1) := rfl
    have d4 : decL [12, 13] = (12, 1) := rfl
    have d5 : decL [13] = (13, 1) := rfl
    simp -implicitDefEqProofs only [d1, d2, d3, d4, d5, go_sem, seval]
  have g2 : (r = 65533) = False := eq_false h2
  simp -implicitDefEqProofs only [F211, g0, g1, g2, go_sem, seval]
  refine callI_pure (w_ValidRune r hv) ?_
  simp -implicitDefEqProofs only [go_sem, seval]
  have hI : ∀ (l : Str) (c : UInt8), (∀ x ∈ l, x.toNat < 128) → 128 ≤ c.toNat → PureF Tryz.prog 217 [.str l, .int .u8 (c.toNat : Int)] (.int .i64 (-1)) := fun l c h1 h2 =>
    (w_IndexByte l c.toNat).at (by rw [Int.toNat_natCast, UInt8.ofNat_toNat, idxL_far l c 0 h1 h2])
  rcases encL_spec r (by omega) hv with ⟨a, b, e, hb⟩ | ⟨a, b, c, e, hb⟩ | ⟨a, b, c, d, e, hb⟩
  all_goals
    simp -implicitDefEqProofs only [e, go_sem, seval]
    rw [LoopI_def]
    refine ⟨1, ?_⟩
    simp -implicitDefEqProofs only [go_sem, seval]
    refine andI_intro (by kernel_rfl) ?_
    simp -implicitDefEqProofs only [go_sem, seval]
    refine brI_both (fun h hT => ?_) (fun h hT => ?_)
    · exfalso; (try simp at h); omega
    · simp -implicitDefEqProofs only [hT, go_sem, seval]
      refine dcallI_pure (hI _ _ (by decide) hb) ?_
      simp -implicitDefEqProofs only [go_sem, seval]
      refine andI_intro (by kernel_rfl) ?_
      simp -implicitDefEqProofs only [go_sem, seval]
end W15
/- Words of texts: the document's; what is a blank. -/
set_option linter.unusedSimpArgs false
set_option linter.unusedVariables false
namespace W15
open Go Go.AX Go.AX.Ty Go.Proofs
def runeBlank (r : Int) : Bool := decide (r < 128) && blankB (UInt8.ofNat r.toNat)
theorem idxL_blank (c : UInt8) : decide (idxL c blanks 0 ≥ 0) = blankB c := by
  simp only [idxL, blankB]
  by_cases h1 : c = 32
  · subst h1; rfl
  by_cases h2 : c = 10
  · subst h2; rfl
  by_cases h3 : c = 9
  · subst h3; rfl
  by_cases h4 : c = 12
  · subst h4; rfl
  by_cases h5 : c = 13
  · subst h5; rfl
  simp [h1, h2, h3, h4, h5, Ne.symm h1, Ne.symm h2, Ne.symm h3, Ne.symm h4, Ne.symm h5]
theorem w_ContainsRune (r : Int) (h0 : 0 ≤ r) (hv : Utf8.valid r = true) : PureF Tryz.prog 198 [.str blanks, .int .i32 r] (.bool (runeBlank r)) := by
  refine pureF_W mix c198 (by kernel_rfl) (by kernel_rfl) (by simp [flats, flat_av, Go.AX.flat]) (by first | exact flat_av _ | simp [flat, flats, flat_av]) ?_
  simp -implicitDefEqProofs only [F198, go_sem, seval]
  refine callI_pure (w_IndexRune r h0 hv) ?_
  simp -implicitDefEqProofs only [go_sem, seval]
  unfold runeBlank
  by_cases h : r < 128
  · rw [if_pos h, idxL_blank]; simp [h]
  · rw [if_neg h]; simp [h]
theorem w_Classes1 (r : Int) (h0 : 0 ≤ r) (hv : Utf8.valid r = true) : PureF Tryz.prog 197 [.int .i32 r] (.bool (runeBlank r)) := by
  refine pureF_W mix c197 (by kernel_rfl) (by kernel_rfl) (by simp [flats, flat_av, Go.AX.flat]) (by first | exact flat_av _ | simp [flat, flats, flat_av]) ?_
  simp -implicitDefEqProofs only [F197, go_sem, seval]
  refine callI_pure (w_ContainsRune r h0 hv) ?_
  simp -implicitDefEqProofs only [go_sem, seval]
theorem blankB_nat (c : UInt8) : blankB c = (decide ((c.toNat : Int) = 32) || (decide ((c.toNat : Int) = 9) || (decide ((c.toNat : Int) = 10) || (decide ((c.toNat : Int) = 12) || decide ((c.toNat : Int) = 13))))) := by
  have e : ∀ k : UInt8, (c == k) = decide ((c.toNat : Int) = (k.toNat : Int)) := fun k => by
    rw [Bool.eq_iff_iff, beq_iff_eq, decide_eq_true_eq]; constructor
    · intro h; rw [h]
    · intro h; exact UInt8.toNat_inj.1 (by omega)
  simp only [blankB, e, Bool.or_assoc]; rfl
end W15
/- Words of texts: the library's FieldsFunc. -/
set_option linter.unusedSimpArgs false
set_option linter.unusedVariables false
namespace W15
open Go Go.AX Go.AX.Ty Go.Proofs
structure Sp where
  a : Nat
  b : Nat
instance : Enc Sp := ⟨2, fun x => [.int .i64 x.a, .int .i64 x.b], fun x => .agg [.int .i64 x.a, .int .i64 x.b], fun x => True, fun _ => rfl, fun _ => rfl, fun _ => .inl rfl, fun _ => rfl⟩
theorem Sp.ecells (x : Sp) : Enc.cells x = [.int .i64 x.a, .int .i64 x.b] := rfl
theorem Sp.clen (l : List Sp) : (cellsL l).length = l.length * 2 := cellsL_len l
def subS (s : Str) (x : Sp) : Str := (s.drop x.a).take (x.b - x.a)
theorem xor64 {n : Int} (h0 : 0 ≤ n) (h1 : n ≤ 9223372036854775807) : xorA .i64 n = -1 - n := by
  obtain ⟨k, rfl⟩ := Int.eq_ofNat_of_zero_le h0
  have e : (BitVec.ofInt 64 (-1) ^^^ BitVec.ofInt 64 (k : Int)) = ~~~ (BitVec.ofNat 64 k) := by
    have : BitVec.ofInt 64 (-1) = BitVec.allOnes 64 := rfl
    rw [this, BitVec.allOnes_xor]; rfl
  show IntKind.i64.wrap ((BitVec.ofInt 64 (-1) ^^^ BitVec.ofInt 64 (k : Int)).toNat : Int) = _
  rw [e, BitVec.toNat_not, BitVec.toNat_ofNat]
  simp [IntKind.wrap, IntKind.bits, IntKind.signed]; omega
theorem blankB_lt {c : UInt8} (h : blankB c = true) : c.toNat < 128 := by
  rw [blankB_nat] at h
  simp only [Bool.or_eq_true, decide_eq_true_eq] at h
  omega
theorem runeBlank_nat (c : UInt8) (h : c.toNat < 128) : runeBlank (c.toNat : Int) = blankB c := by
  have h1 : (c.toNat : Int) < 128 := by omega
  unfold runeBlank; rw [Int.toNat_natCast, UInt8.ofNat_toNat]; simp [h1]
theorem runeBlank_big {r : Int} (h : 128 ≤ r) : runeBlank r = false := by
  have h1 : ¬ r < 128 := by omega
  simp [runeBlank, h1]
structure FF (s : Str) (sp : List Sp) (start : Int) (pos : Nat) : Prop where
  le : pos ≤ s.length
  st : start < 0 ∨ (0 ≤ start ∧ start < pos)
  lo : -1000001 ≤ start
  len : sp.length ≤ pos
  ok : ∀ x ∈ sp, x.a ≤ x.b ∧ x.b ≤ s.length
  sum : sp.map (subS s) ++ wordsGo (s.drop pos) (if start < 0 then [] else (s.take pos).drop start.toNat) = wordsB s
theorem FF.init (s : Str) : FF s [] (-1) 0 := ⟨by simp, .inl (by decide), by decide, by simp, by simp, by simp [wordsB]⟩
theorem FF.skip {s : Str} {sp : List Sp} {start : Int} {pos : Nat} (h : FF s sp start pos) {c : UInt8} (hc : s[pos]? = some c) (hb : blankB c = true) (h0 : start < 0) : FF s sp start (pos + 1) := by
  have hk : pos < s.length := by
    rcases Nat.lt_or_ge pos s.length with h' | h'
    · exact h'
    · rw [List.getElem?_eq_none h'] at hc; simp at hc
  have hd : s.drop pos = c :: s.drop (pos + 1) := by
    rw [List.drop_eq_getElem_cons hk]
    rw [List.getElem?_eq_getElem hk] at hc; simp at hc; rw [hc]
  refine ⟨hk, .inl h0, h.lo, by have := h.len; omega, h.ok, ?_⟩
  have := h.sum
  rw [hd, if_pos h0, wordsGo, if_pos hb, if_pos rfl] at this
  rw [if_pos h0]; exact this
theorem FF.cut {s : Str} {sp : List Sp} {a pos : Nat} (h : FF s sp (a : Int) pos) {c : UInt8} (hc : s[pos]? = some c) (hb : blankB c = true) (hl : s.length ≤ 1000000) : FF s (sp ++ [⟨a, pos⟩]) (-1 - (a : Int)) (pos + 1) := by
  have hk : pos < s.length := by
    rcases Nat.lt_or_ge pos s.length with h' | h'
    · exact h'
    · rw [List.getElem?_eq_none h'] at hc; simp at hc
  have hd : s.drop pos = c :: s.drop (pos + 1) := by
    rw [List.drop_eq_getElem_cons hk]
    rw [List.getElem?_eq_getElem hk] at hc; simp at hc; rw [hc]
  have ha := h.st
  have hlen := h.len
  refine ⟨hk, .inl (by omega), by omega, by simp; omega, fun x hx => ?_, ?_⟩
  · rcases List.mem_append.1 hx with hx | hx
    · exact h.ok x hx
    · simp at hx; subst hx; simp only; omega
  have := h.sum
  rw [hd, if_neg (by omega), Int.toNat_natCast, wordsGo, if_pos hb, if_neg (by rw [← List.length_eq_zero_iff, List.length_drop, List.length_take]; omega)] at this
  rw [if_pos (by omega), List.map_append, List.append_assoc, List.map_singleton, List.singleton_append]
  have e : subS s ⟨a, pos⟩ = (s.take pos).drop a := by simp only [subS, List.drop_take]
  rw [e]; exact this
theorem FF.run {s : Str} {sp : List Sp} {start : Int} {pos n : Nat} (h : FF s sp start pos) (hn : pos + n ≤ s.length) (hn1 : 1 ≤ n) (hb : ∀ c ∈ (s.drop pos).take n, blankB c = false) : FF s sp (if start < 0 then (pos : Int) else start) (pos + n) := by
  have hlen := h.len
  have hsum := h.sum
  have e : s.drop pos = (s.drop pos).take n ++ s.drop (pos + n) := by rw [← List.drop_drop, List.take_append_drop]
  rw [e, wordsGo_run _ _ _ hb] at hsum
  by_cases h0 : start < 0
  · rw [if_pos h0]
    rw [if_pos h0, List.nil_append] at hsum
    refine ⟨hn, .inr (by omega), by omega, by omega, h.ok, ?_⟩
    rw [if_neg (by omega), Int.toNat_natCast, List.drop_take, show pos + n - pos = n by omega]
    exact hsum
  · rw [if_neg h0]
    rw [if_neg h0] at hsum
    have hst := h.st
    refine ⟨hn, .inr (by omega), h.lo, by omega, h.ok, ?_⟩
    rw [if_neg h0]
    have e2 : (s.take (pos + n)).drop start.toNat = (s.take pos).drop start.toNat ++ (s.drop pos).take n := by
      rw [List.take_add, List.drop_append_of_le_length (by rw [List.length_take]; omega)]
    rw [e2]; exact hsum
theorem FF.end0 {s : Str} {sp : List Sp} {start : Int} {pos : Nat} (h : FF s sp start pos) (hp : pos = s.length) (h0 : start < 0) : sp.map (subS s) = wordsB s := by
  have := h.sum
  rw [if_pos h0, show s.drop pos = [] by rw [List.drop_eq_nil_iff]; omega, wordsGo, if_pos rfl, List.append_nil] at this
  exact this
theorem FF.end1 {s : Str} {sp : List Sp} {a pos : Nat} (h : FF s sp (a : Int) pos) (hp : pos = s.length) : (sp ++ [(⟨a, s.length⟩ : Sp)]).map (subS s) = wordsB s := by
  have := h.sum
  have hst := h.st
  rw [if_neg (by omega), show s.drop pos = [] by rw [List.drop_eq_nil_iff]; omega, wordsGo, Int.toNat_natCast, if_neg (by rw [← List.length_eq_zero_iff, List.length_drop, List.length_take]; omega)] at this
  rw [List.map_append, List.map_singleton]
  have e : subS s ⟨a, s.length⟩ = (s.take pos).drop a := by simp only [subS, List.drop_take, hp]
  rw [e]; exact this
theorem w_FieldsFunc (s : Str) (hl : s.length ≤ 1000000) : PureF Tryz.prog 196 [Enc.av s, .fn (.func 197) [] []] (Enc.av (wordsB s)) := by
  refine pureF_W mix c196 (by kernel_rfl) (by kernel_rfl) (by simp [flats, flat_av, Go.AX.flat]) (by first | exact flat_av _ | simp [flat, flats, flat_av]) ?_
  simp -implicitDefEqProofs only [F196, go_sem, seval]
  refine LoopI_sl (fun p : List Sp × Int × Nat => s.length - p.2.2) (fun p => [(0, Enc.av s), (1, .fn (.func 197) [] []), (5, .sl 0 (p.1.length * 2) 0 p.1.length 2), (6, .int .i64 p.2.1), (14, .ptr 1 0 0)])
    (fun p st => FF s p.1 p.2.1 p.2.2 ∧ 2 ≤ st.next ∧ AX.look 0 st.heap = some (.cells (p.1.length * 2) (cellsL p.1) false) ∧ AX.look 1 st.heap = some (.iter s p.2.2)) ([], -1, 0) ?_ ?_
  · simp -implicitDefEqProofs only [cellsL, go_sem, seval]
    exact ⟨FF.init s, rfl⟩
  rintro ⟨sp, start, pos⟩ ρ ⟨g, m⟩ ⟨h1, h2, h3, h4⟩
  dsimp only at h1 h2 h3 h4
  have m0 : (m = 0) = False := eq_false (by omega)
  have m1 : (m = 1) = False := eq_false (by omega)
  have hc : (cellsL sp).length = sp.length * 2 := Sp.clen sp
  have ht : List.take (sp.length * 2) (cellsL sp) = cellsL sp := List.take_of_length_le (by omega)
  have hbd : ((sp.length + 1) * 16 ≤ 140737488355328) = True := eq_true (by have := h1.len; have := h1.le; omega)
  have hmx : (sp.length * 2 ≤ sp.length * 2 + 1) = True := eq_true (by omega)
  have hm2 : (sp.length + 1) * 2 = sp.length * 2 + 2 := by omega
  have hsn : ∀ x : Sp, cellsL (sp ++ [x]) = cellsL sp ++ [.int .i64 x.a, .int .i64 x.b] := fun x => by rw [cellsL_append]; rfl
  rcases Nat.lt_or_ge pos s.length with hk | hk
  · obtain ⟨c, hx, hd, hm⟩ := get_drop hk
    have hlt : (pos < s.length) = True := eq_true hk
    have hspec := decL_spec c (s.drop (pos + 1))
    rw [← hd] at hspec
    simp -implicitDefEqProofs only [h4, hlt, m0, m1, go_sem, seval]
    have hpl := h1.le
    generalize decL (List.drop pos s) = d at hspec
    obtain ⟨r, n⟩ := d
    dsimp only at hspec
    have hv : 0 ≤ (r : Int) ∧ Utf8.valid (r : Int) = true ∧ pos + n ≤ s.length ∧ 1 ≤ n ∧ ((runeBlank (r : Int) = true ∧ blankB c = true ∧ n = 1) ∨ (runeBlank (r : Int) = false ∧ ∀ x ∈ (s.drop pos).take n, blankB x = false)) := by
      rcases hspec with ⟨a1, a2⟩ | ⟨a1, a2, a3, a4, a5, a6, a7⟩
      · simp only [Prod.mk.injEq] at a2
        obtain ⟨rfl, rfl⟩ := a2
        refine ⟨by omega, by simp only [Utf8.valid, Bool.or_eq_true, Bool.and_eq_true, decide_eq_true_eq]; omega, by omega, by omega, ?_⟩
        rw [runeBlank_nat c a1]
        cases hb : blankB c
        · right
          refine ⟨rfl, fun x hx' => ?_⟩
          rw [hd] at hx'
          simp at hx'
          rw [hx', hb]
        · left; exact ⟨rfl, rfl, rfl⟩
      · refine ⟨by omega, a4, ?_, a5, .inr ⟨runeBlank_big (by omega), fun x hx' => ?_⟩⟩
        · rw [List.length_drop] at a6; omega
        · have := a7 x hx'
          cases hb : blankB x
          · rfl
          · have := blankB_lt hb; omega
    obtain ⟨v1, v2, v3, v4, v5⟩ := hv
    have v6 := w_Classes1 r v1 v2
    rcases v5 with ⟨b1, b2, b3⟩ | ⟨b1, b2⟩
    · subst b3
      rw [b1] at v6
      refine callI_pure v6 ?_
      simp -implicitDefEqProofs only [go_sem, seval]
      refine brI_both (fun h hT => ?_) (fun h hT => ?_)
      · obtain ⟨a, rfl⟩ := Int.eq_ofNat_of_zero_le (show 0 ≤ start by omega)
        have hx64 : xorA .i64 (a : Int) = -1 - (a : Int) := xor64 (by omega) (by have := h1.st; omega)
        simp -implicitDefEqProofs only [h3, h4, hc, ht, hbd, hmx, m0, m1, hx64, go_sem, seval]
        refine ⟨(sp ++ [⟨a, pos⟩], -1 - (a : Int), pos + 1), by simp only; omega, ?_⟩
        have el : (sp ++ [(⟨a, pos⟩ : Sp)]).length = sp.length + 1 := by simp
        simp only [el, hsn, hm2, true_and, and_true]
        exact ⟨h1.cut hx b2 hl, by omega⟩
      · simp -implicitDefEqProofs only [h3, h4, go_sem, seval]
        refine ⟨(sp, start, pos + 1), by simp only; omega, ?_⟩
        simp only [true_and, and_true]
        exact ⟨h1.skip hx b2 (by omega), h2⟩
    · have hrun := h1.run v3 v4 b2
      rw [b1] at v6
      refine callI_pure v6 ?_
      simp -implicitDefEqProofs only [go_sem, seval]
      refine brI_both (fun h hT => ?_) (fun h hT => ?_)
      · rw [if_pos h] at hrun
        simp -implicitDefEqProofs only [h3, h4, go_sem, seval]
        refine ⟨(sp, (pos : Int), pos + n), by simp only; omega, ?_⟩
        simp only [true_and, and_true]
        exact ⟨hrun, h2⟩
      · rw [if_neg h] at hrun
        simp -implicitDefEqProofs only [h3, h4, go_sem, seval]
        refine ⟨(sp, start, pos + n), by simp only; omega, ?_⟩
        simp only [true_and, and_true]
        exact ⟨hrun, h2⟩
  · have hlt : (pos < s.length) = False := eq_false (by omega)
    have hpl := h1.le
    simp -implicitDefEqProofs only [h4, hlt, go_sem, seval]
    refine brI_both (fun h hT => ?_) (fun h hT => ?_)
    · obtain ⟨a, rfl⟩ := Int.eq_ofNat_of_zero_le (show 0 ≤ start by omega)
      have hend := h1.end1 (by omega)
      have hok : ∀ x ∈ sp ++ [(⟨a, s.length⟩ : Sp)], x.a ≤ x.b ∧ x.b ≤ s.length := fun x hx => by
        rcases List.mem_append.1 hx with hx | hx
        · exact h1.ok x hx
        · simp at hx; subst hx; have := h1.st; simp only; omega
      have hspl := h1.len
      have el : (sp ++ [(⟨a, s.length⟩ : Sp)]).length = sp.length + 1 := by simp
      have hsq := hsn ⟨a, s.length⟩
      have hm3 : sp.length * 2 + 2 = (sp.length + 1) * 2 := by omega
      have m3 : (m + 1 = 0) = False := eq_false (by omega)
      have m4 : (m + 1 = 1) = False := eq_false (by omega)
      have m5 : (0 = m + 1) = False := eq_false (by omega)
      have lsq : (⟨a, s.length⟩ : Sp).a = a ∧ (⟨a, s.length⟩ : Sp).b = s.length := ⟨rfl, rfl⟩
      simp only at hsq
      simp -implicitDefEqProofs only [h3, h4, hc, ht, hbd, hmx, m0, m1, m3, m4, m5, go_sem, seval]
      generalize hSQ : sp ++ [(⟨a, s.length⟩ : Sp)] = SQ at hend hok el hsq
      rw [← hsq, hm3, ← el]
      have hcap3 : (sp.length ≤ 9223372036854775806) = True := eq_true (by omega)
      have hcap1 : ((SQ).length * 16 ≤ 140737488355328 ∧ (SQ).length ≤ 9223372036854775807) = True := eq_true (by omega)
      have hcap2 : ((SQ).length ≤ 9223372036854775806) = True := eq_true (by omega)
      have rep : ∀ q : Nat, (List.replicate q [AV.str []]).flatten = List.replicate q (.str []) := fun q => by
        induction q with
        | zero => rfl
        | succ q ih => rw [List.replicate_succ, List.flatten_cons, ih]; rfl
      simp -implicitDefEqProofs only [h3, h4, hT, hcap1, hcap2, rep, m0, m1, hc, ht, hbd, hmx, m3, m4, m5, hcap3, go_sem, seval]
      refine LoopI_sl (fun k : Nat => (SQ).length - k) (fun k => [(0, Enc.av s), (9, .sl (m + 1) (SQ).length 0 (SQ).length 1), (47, .sl 0 ((SQ).length * 2) 0 (SQ).length 2), (48, .int .i64 (SQ).length), (49, .int .i64 k)])
        (fun k st => k ≤ (SQ).length ∧ (m + 1) + 1 ≤ st.next ∧ AX.look 0 st.heap = some (.cells ((SQ).length * 2) (cellsL (SQ)) false) ∧ AX.look (m + 1) st.heap = some (.cells (SQ).length (cellsL (((SQ).take k).map (subS s)) ++ List.replicate ((SQ).length - k) (.str [])) false)) 0 ?_ ?_
      · simp -implicitDefEqProofs only [h3, h4, m0, m1, rep, hc, ht, hbd, hmx, m3, m4, m5, hcap3, go_sem, seval]
        try simp [cellsL]
      rintro k ρ ⟨g2, q⟩ ⟨j1, j2, j3, j4⟩
      dsimp only at j2 j3 j4
      have q0 : (q = 0) = False := eq_false (by omega)
      have qm : (q = (m + 1)) = False := eq_false (by omega)
      have n0 : (((m + 1)) = 0) = False := eq_false (by omega)
      have i0 : (0 < q) = True := eq_true (by omega)
      have im : (((m + 1)) < q) = True := eq_true (by omega)
      have cA : (cellsL (((SQ).take k).map (subS s))).length = k := by rw [cellsL_len]; simp [Enc.sz]; omega
      have cC : (cellsL (((SQ).take k).map (subS s)) ++ List.replicate ((SQ).length - k) (AV.str [])).length = (SQ).length := by rw [List.length_append, cA, List.length_replicate]; omega
      rcases Nat.lt_or_ge k (SQ).length with hk2 | hk2
      · obtain ⟨y, hy, hd2, hm2'⟩ := get_drop hk2
        have yok := hok y hm2'
        have hlt2 : ((k : Int) < ((SQ).length : Int)) = True := eq_true (by omega)
        have hltn : (k < (SQ).length) = True := eq_true hk2
        have hle : (k * 2 ≤ (SQ).length * 2) = True := eq_true (by omega)
        have hle1 : (k + 1 ≤ (SQ).length) = True := eq_true (by omega)
        have ya : (y.a ≤ y.b) = True := eq_true yok.1
        have yb : (y.b ≤ s.length) = True := eq_true yok.2
        have w1 : IntKind.i64.wrap ((k : Int) + 1) = ((k + 1 : Nat) : Int) := by rw [wrap64 (by omega) (by omega)]; omega
        have hdr : List.drop (k * 2) (cellsL (SQ)) = .int .i64 y.a :: .int .i64 y.b :: cellsL ((SQ).drop (k + 1)) := by
          have := cellsL_drop (SQ) k
          rw [hd2] at this
          exact this
        have hsl : (cellsL (SQ)).length = (SQ).length * 2 := Sp.clen (SQ)
        have tA : List.take k (cellsL (((SQ).take k).map (subS s)) ++ List.replicate ((SQ).length - k) (AV.str [])) = cellsL (((SQ).take k).map (subS s)) := by rw [List.take_append_of_le_length (by omega), List.take_of_length_le (by omega)]
        have dA : List.drop (k + 1) (cellsL (((SQ).take k).map (subS s)) ++ List.replicate ((SQ).length - k) (AV.str [])) = List.replicate ((SQ).length - (k + 1)) (.str []) := by
          rw [List.drop_append, List.drop_of_length_le (by omega), cA, List.nil_append, List.drop_replicate]; congr 1; omega
        have hfin : cellsL (((SQ).take (k + 1)).map (subS s)) = cellsL (((SQ).take k).map (subS s)) ++ [.str (subS s y)] := by
          rw [List.take_add_one, hy]
          simp only [Option.toList_some, List.map_append, List.map_singleton, cellsL_append]; rfl
        simp -implicitDefEqProofs only [hlt2, hltn, hle, hle1, hy, w1, j3, j4, hsl, hdr, q0, qm, n0, i0, im, ya, yb, cC, tA, dA, go_sem, seval]
        refine ⟨k + 1, by omega, ?_⟩
        simp only [true_and, and_true, Nat.succ_le_of_lt hk2]
        rw [hfin, List.append_assoc]
        exact ⟨by omega, by simp only [subS, List.append_assoc, List.singleton_append]⟩
      · have hlt2 : ((k : Int) < ((SQ).length : Int)) = False := eq_false (by omega)
        simp -implicitDefEqProofs only [hlt2, go_sem, seval]
        have hkn : k = (SQ).length := by omega
        subst hkn
        rw [List.take_length, Nat.sub_self, List.replicate_zero, List.append_nil] at j4
        rw [List.take_length] at cA
        rw [viewIs_sl _ j4 (by omega), Nat.mul_one, List.take_of_length_le (by omega), hend]
        rw [← hend, List.length_map]
    · have hend := h1.end0 (by omega) (by omega)
      have hok := h1.ok
      have hspl := h1.len
      have hcap1 : ((sp).length * 16 ≤ 140737488355328 ∧ (sp).length ≤ 9223372036854775807) = True := eq_true (by omega)
      have hcap2 : ((sp).length ≤ 9223372036854775806) = True := eq_true (by omega)
      have rep : ∀ q : Nat, (List.replicate q [AV.str []]).flatten = List.replicate q (.str []) := fun q => by
        induction q with
        | zero => rfl
        | succ q ih => rw [List.replicate_succ, List.flatten_cons, ih]; rfl
      simp -implicitDefEqProofs only [h3, h4, hT, hcap1, hcap2, rep, m0, m1, hc, ht, go_sem, seval]
      refine LoopI_sl (fun k : Nat => (sp).length - k) (fun k => [(0, Enc.av s), (9, .sl m (sp).length 0 (sp).length 1), (47, .sl 0 ((sp).length * 2) 0 (sp).length 2), (48, .int .i64 (sp).length), (49, .int .i64 k)])
        (fun k st => k ≤ (sp).length ∧ m + 1 ≤ st.next ∧ AX.look 0 st.heap = some (.cells ((sp).length * 2) (cellsL (sp)) false) ∧ AX.look m st.heap = some (.cells (sp).length (cellsL (((sp).take k).map (subS s)) ++ List.replicate ((sp).length - k) (.str [])) false)) 0 ?_ ?_
      · simp -implicitDefEqProofs only [h3, h4, m0, m1, rep, hc, ht, go_sem, seval]
        try simp [cellsL]
      rintro k ρ ⟨g2, q⟩ ⟨j1, j2, j3, j4⟩
      dsimp only at j2 j3 j4
      have q0 : (q = 0) = False := eq_false (by omega)
      have qm : (q = m) = False := eq_false (by omega)
      have n0 : ((m) = 0) = False := eq_false (by omega)
      have i0 : (0 < q) = True := eq_true (by omega)
      have im : ((m) < q) = True := eq_true (by omega)
      have cA : (cellsL (((sp).take k).map (subS s))).length = k := by rw [cellsL_len]; simp [Enc.sz]; omega
      have cC : (cellsL (((sp).take k).map (subS s)) ++ List.replicate ((sp).length - k) (AV.str [])).length = (sp).length := by rw [List.length_append, cA, List.length_replicate]; omega
      rcases Nat.lt_or_ge k (sp).length with hk2 | hk2
      · obtain ⟨y, hy, hd2, hm2'⟩ := get_drop hk2
        have yok := hok y hm2'
        have hlt2 : ((k : Int) < ((sp).length : Int)) = True := eq_true (by omega)
        have hltn : (k < (sp).length) = True := eq_true hk2
        have hle : (k * 2 ≤ (sp).length * 2) = True := eq_true (by omega)
        have hle1 : (k + 1 ≤ (sp).length) = True := eq_true (by omega)
        have ya : (y.a ≤ y.b) = True := eq_true yok.1
        have yb : (y.b ≤ s.length) = True := eq_true yok.2
        have w1 : IntKind.i64.wrap ((k : Int) + 1) = ((k + 1 : Nat) : Int) := by rw [wrap64 (by omega) (by omega)]; omega
        have hdr : List.drop (k * 2) (cellsL (sp)) = .int .i64 y.a :: .int .i64 y.b :: cellsL ((sp).drop (k + 1)) := by
          have := cellsL_drop (sp) k
          rw [hd2] at this
          exact this
        have hsl : (cellsL (sp)).length = (sp).length * 2 := Sp.clen (sp)
        have tA : List.take k (cellsL (((sp).take k).map (subS s)) ++ List.replicate ((sp).length - k) (AV.str [])) = cellsL (((sp).take k).map (subS s)) := by rw [List.take_append_of_le_length (by omega), List.take_of_length_le (by omega)]
        have dA : List.drop (k + 1) (cellsL (((sp).take k).map (subS s)) ++ List.replicate ((sp).length - k) (AV.str [])) = List.replicate ((sp).length - (k + 1)) (.str []) := by
          rw [List.drop_append, List.drop_of_length_le (by omega), cA, List.nil_append, List.drop_replicate]; congr 1; omega
        have hfin : cellsL (((sp).take (k + 1)).map (subS s)) = cellsL (((sp).take k).map (subS s)) ++ [.str (subS s y)] := by
          rw [List.take_add_one, hy]
          simp only [Option.toList_some, List.map_append, List.map_singleton, cellsL_append]; rfl
        simp -implicitDefEqProofs only [hlt2, hltn, hle, hle1, hy, w1, j3, j4, hsl, hdr, q0, qm, n0, i0, im, ya, yb, cC, tA, dA, go_sem, seval]
        refine ⟨k + 1, by omega, ?_⟩
        simp only [true_and, and_true, Nat.succ_le_of_lt hk2]
        rw [hfin, List.append_assoc]
        exact ⟨by omega, by simp only [subS, List.append_assoc, List.singleton_append]⟩
      · have hlt2 : ((k : Int) < ((sp).length : Int)) = False := eq_false (by omega)
        simp -implicitDefEqProofs only [hlt2, go_sem, seval]
        have hkn : k = (sp).length := by omega
        subst hkn
        rw [List.take_length, Nat.sub_self, List.replicate_zero, List.append_nil] at j4
        rw [List.take_length] at cA
        rw [viewIs_sl _ j4 (by omega), Nat.mul_one, List.take_of_length_le (by omega), hend]
        rw [← hend, List.length_map]
end W15
/- Classes, kin. -/
set_option linter.unusedSimpArgs false
set_option linter.unusedVariables false
namespace W15
open Go Go.AX Go.AX.Ty Go.Proofs
structure PgOk (p : Page) : Prop where
  ok : Enc.ok p
  len : p.length ≤ 1000
  kids : ∀ x ∈ p, x.kids.length ≤ 1000
  attrs : ∀ x ∈ p, ∀ a ∈ x.attrs, a.value.length ≤ 1000000
theorem nodeAt_mem {p : Page} {n : Int} {x : Ty.Node} (h : nodeAt p n = some x) : x ∈ p := by
  unfold nodeAt at h
  split at h
  · exact List.mem_of_getElem? h
  · simp at h
theorem attrB_len {p : Page} (h : PgOk p) (n : Int) (v : Str) : (attrB p n v).1.length ≤ 1000000 := by
  unfold attrB
  split
  · rename_i x hx
    split
    · simp
    · split
      · rename_i a ha
        exact h.attrs x (nodeAt_mem hx) a (List.mem_of_find?_eq_some ha)
      · simp
  · simp
abbrev sClass : Str := [99, 108, 97, 115, 115]
def classesB (p : Page) (n : Int) : List Str := wordsB (attrB p n sClass).1
theorem w_Classes (p : Page) (hp : PgOk p) (n : Int) : PureF Tryz.prog 176 [Enc.av p, Enc.av n] (Enc.av (classesB p n)) := by
  refine pureF_W mix c176 (by kernel_rfl) (by kernel_rfl) (by simp [flats, flat_av, Go.AX.flat]) (by first | exact flat_av _ | simp [flat, flats, flat_av]) ?_
  simp -implicitDefEqProofs only [F176, go_sem, seval]
  refine callI_pure (w_Attr p hp.ok n sClass) ?_
  simp -implicitDefEqProofs only [go_sem, seval]
  refine callI_pure (w_FieldsFunc _ (attrB_len hp n sClass)) ?_
  simp -implicitDefEqProofs only [go_sem, seval]
  rfl
theorem w_Clone (l : List Int) (hne : l ≠ []) (hl : l.length ≤ 1000000) (h : List (Nat × AX.Obj)) (m : Nat) : ACalls Tryz.prog 213 [Enc.av l] ⟨h, m⟩ fun v s' => v = .sl m l.length 0 l.length 1 ∧ s' = ⟨(m, .cells l.length (cellsL l) false) :: h, m + 1⟩ := by
  refine acalls_W mix (C0_ok _) c213 (by kernel_rfl) (Nat.le_of_ble_eq_true (by kernel_rfl)) ?_
  have hc : (cellsL l).length = l.length := by rw [cellsL_len]; simp [Enc.sz]
  have ht : List.take l.length (cellsL l) = cellsL l := List.take_of_length_le (by omega)
  have hb : (l.length * 8 ≤ 140737488355328) = True := eq_true (by omega)
  have h0 : 0 < l.length := List.length_pos_iff.2 hne
  have hT : (0 < l.length) = True := eq_true h0
  have hz : (l.length = 0) = False := eq_false (by omega)
  have hmx : (1 ≤ l.length) = True := eq_true (by omega)
  simp -implicitDefEqProofs only [F213, hT, hz, hc, ht, hb, hmx, go_sem, seval]
theorem w_kin1 (p : Page) (k : Int) {h : List (Nat × AX.Obj)} {m b : Nat} {sn : Bool} (hb : AX.look b h = some (.cells 0 [Enc.av p] sn)) : ACalls Tryz.prog 214 [.int .i64 k, .ptr b 0 0] ⟨h, m⟩ fun v s' => v = .bool (!elemB p k) ∧ s' = ⟨h, m⟩ := by
  refine acalls_W mix (C0_ok _) c214 (by kernel_rfl) (Nat.le_of_ble_eq_true (by kernel_rfl)) ?_
  simp -implicitDefEqProofs only [F214, hb, go_sem, seval]
  refine callI_pure (w_Element p k) ?_
  simp -implicitDefEqProofs only [go_sem, seval]
theorem w_idxF_int_sl1 {g c : Nat} {q : Int → Bool} {l : List Int} {h : List (Nat × AX.Obj)} {m b : Nat} (hb : AX.look b h = some (.cells l.length (cellsL l) false)) (hl : l.length ≤ 1000000)
    (hp : ∀ x ∈ l, ACalls Tryz.prog g [.int .i64 x, .ptr c 0 0] ⟨h, m⟩ (fun v s' => v = .bool (q x) ∧ s' = ⟨h, m⟩)) :
    ACalls Tryz.prog 181 [.sl b l.length 0 l.length 1, .fn (.func g) [] [.ptr c 0 0]] ⟨h, m⟩ fun v s' => v = .int .i64 (idxOf q l) ∧ s' = ⟨h, m⟩ := by
  refine acalls_W mix (C0_ok _) c181 (by kernel_rfl) (Nat.le_of_ble_eq_true (by kernel_rfl)) ?_
  simp -implicitDefEqProofs only [F181, go_sem, seval]
  refine LoopI_sl (fun k : Nat => l.length - k) (fun k => [(0, .sl b l.length 0 l.length 1), (1, .fn (.func g) [] [.ptr c 0 0]), (7, .int .i64 l.length), (8, .int .i64 k)]) (fun k s => s = ⟨h, m⟩ ∧ k ≤ l.length ∧ Pre q l k) 0 ?_ ?_
  · simp -implicitDefEqProofs only [go_sem, seval]
    exact Pre.zero _ _
  rintro k ρ s ⟨rfl, h1, h2⟩
  rcases Nat.lt_or_ge k l.length with hk | hk
  · obtain ⟨x, hx, hd, hm⟩ := get_drop hk
    have hlt : ((k : Int) < (l.length : Int)) = True := eq_true (by omega)
    have hltn : (k < l.length) = True := eq_true hk
    have w1 : IntKind.i64.wrap ((k : Int) + 1) = ((k + 1 : Nat) : Int) := by rw [wrap64 (by omega) (by omega)]; omega
    have hc : (cellsL l).length = l.length := by rw [cellsL_len]; simp [Enc.sz]
    have hle : (k ≤ l.length) = True := eq_true (by omega)
    have hdr : List.drop k (cellsL l) = .int .i64 x :: cellsL (l.drop (k + 1)) := by
      have := cellsL_drop l k
      rw [hd] at this
      simp only [Enc.sz, Nat.mul_one] at this
      exact this
    simp -implicitDefEqProofs only [hlt, hltn, hx, w1, hb, hc, hle, hdr, go_sem, seval]
    refine callI_st (hp x hm) ?_
    simp -implicitDefEqProofs only [go_sem, seval]
    (refine brI_both (fun h hT => ?_) (fun h hT => ?_) <;> try simp -implicitDefEqProofs only [hT, w1, go_sem, seval] <;> try clear hT)
    · rw [idx_here hx h h2]
    · exact ⟨k + 1, by omega, rfl, by omega, h2.next hx (by simpa using h)⟩
  · have hlt : ((k : Int) < (l.length : Int)) = False := eq_false (by omega)
    simp -implicitDefEqProofs only [hlt, go_sem, seval]
    rw [idx_none (h2.all hk)]
theorem putAt_putAt (b : Nat) (o o' : AX.Obj) : ∀ h : List (Nat × AX.Obj), putAt b o (putAt b o' h) = putAt b o h
  | [] => rfl
  | (k, x) :: r => by
    simp only [putAt]
    split
    · rename_i e; simp [putAt, e]
    · rename_i e; simp [putAt, e, putAt_putAt b o o' r]
theorem putAt_same {b : Nat} {o : AX.Obj} : ∀ {h : List (Nat × AX.Obj)}, AX.look b h = some o → putAt b o h = h
  | [], e => by simp [AX.look] at e
  | (k, x) :: r, e => by
    simp only [AX.look] at e
    simp only [putAt]
    split at e
    · rename_i e2; simp at e; subst e; rw [if_pos e2, e2]
    · rename_i e2; rw [if_neg e2, putAt_same e]
theorem w_DeleteFunc {c : Nat} {q : Int → Bool} {l : List Int} {h : List (Nat × AX.Obj)} {m b : Nat} (hb : AX.look b h = some (.cells l.length (cellsL l) false)) (hl : l.length ≤ 1000000)
    (hp : ∀ (h' : List (Nat × AX.Obj)) (x : Int), (∀ id, id ≠ b → AX.look id h' = AX.look id h) → ACalls Tryz.prog 214 [.int .i64 x, .ptr c 0 0] ⟨h', m⟩ (fun v s' => v = .bool (q x) ∧ s' = ⟨h', m⟩)) :
    ACalls Tryz.prog 212 [.sl b l.length 0 l.length 1, .fn (.func 214) [] [.ptr c 0 0]] ⟨h, m⟩ fun v s' => v = .sl b l.length 0 (l.filter fun x => !q x).length 1 ∧
      s' = ⟨putAt b (.cells l.length (cellsL (l.filter fun x => !q x) ++ List.replicate (l.length - (l.filter fun x => !q x).length) (.int .i64 0)) false) h, m⟩ := by
  refine acalls_W mix (C0_ok _) c212 (by kernel_rfl) (Nat.le_of_ble_eq_true (by kernel_rfl)) ?_
  have cl : ∀ l' : List Int, (cellsL l').length = l'.length := fun l' => by rw [cellsL_len]; simp [Enc.sz]
  have hc := cl l
  have ht : List.take l.length (cellsL l) = cellsL l := List.take_of_length_le (by omega)
  simp -implicitDefEqProofs only [F212, hb, hc, ht, go_sem, seval]
  refine callI_st (w_idxF_int_sl1 hb hl fun x _ => hp h x fun _ _ => rfl) ?_
  rcases idx_cases q l with ⟨e, hno⟩ | ⟨i, x, e, hi, hx, hqx, hpre⟩
  · rw [e]
    simp -implicitDefEqProofs only [go_sem, seval]
    have ef : l.filter (fun x => !q x) = l := List.filter_eq_self.2 fun a ha => by simp [hno a ha]
    rw [ef, Nat.sub_self, List.replicate_zero, List.append_nil, putAt_same hb]
    exact ⟨rfl, rfl⟩
  · rw [e]
    have e1 : ((i : Int) = -1) = False := eq_false (by omega)
    have w1 : IntKind.i64.wrap ((i : Int) + 1) = ((i + 1 : Nat) : Int) := by rw [wrap64 (by omega) (by omega)]; omega
    simp -implicitDefEqProofs only [e1, w1, go_sem, seval]
    have fst : ∀ j, (l.take j).filter (fun x => !q x) = ((l.take j).filter (fun x => !q x)) := fun _ => rfl
    have f0 : (l.take i).filter (fun x => !q x) = l.take i := List.filter_eq_self.2 fun a ha => by simp [hpre a ha]
    have f1 : (l.take (i + 1)).filter (fun x => !q x) = l.take i := by
      rw [List.take_add_one, hx, List.filter_append, f0]; simp [hqx]
    have hd0 : l = l.take i ++ x :: l.drop (i + 1) := by
      have : l.drop i = x :: l.drop (i + 1) := by
        rw [List.drop_eq_getElem_cons hi]
        rw [List.getElem?_eq_getElem hi] at hx; simp at hx; rw [hx]
      rw [← this, List.take_append_drop]
    refine LoopI_sl (fun p : Nat × Nat × List AV => l.length - p.2.1) (fun p => [(0, .sl b l.length 0 l.length 1), (1, .fn (.func 214) [] [.ptr c 0 0]), (5, .int .i64 p.1), (6, .int .i64 p.2.1)])
      (fun p s => p.2.1 ≤ l.length ∧ p.1 < p.2.1 ∧ p.1 = ((l.take p.2.1).filter fun x => !q x).length ∧ p.2.2.length = p.2.1 - p.1 ∧ s = ⟨putAt b (.cells l.length (cellsL ((l.take p.2.1).filter fun x => !q x) ++ (p.2.2 ++ cellsL (l.drop p.2.1))) false) h, m⟩) (i, i + 1, [.int .i64 x]) ?_ ?_
    · simp -implicitDefEqProofs only [f1, go_sem, seval]
      refine ⟨by omega, by rw [List.length_take]; omega, by simp, ?_⟩
      have : cellsL (l.take i) ++ (AV.int .i64 x :: cellsL (l.drop (i + 1))) = cellsL l := by
        conv => rhs; rw [hd0]
        rw [cellsL_append]; rfl
      rw [this, putAt_same hb]
    rintro ⟨i', j, X⟩ ρ s ⟨h1, h2, h3, h4, h5⟩
    dsimp only at h1 h2 h3 h4 h5
    subst h5
    generalize hF : (l.take j).filter (fun x => !q x) = F at h3
    have cF := cl F
    have e2 : ∀ D : List AV, List.drop j (cellsL F ++ (X ++ D)) = D := fun D => by
      rw [← List.append_assoc, List.drop_left' (by rw [List.length_append, cF]; omega)]
    have hcs : (cellsL F ++ (X ++ cellsL (l.drop j))).length = l.length := by
      rw [List.length_append, List.length_append, cF, cl, List.length_drop]; omega
    have htk : List.take i' (cellsL F ++ (X ++ cellsL (l.drop j))) = cellsL F := by rw [List.take_left' (by rw [cF]; omega)]
    have lk : AX.look b (putAt b (.cells l.length (cellsL F ++ (X ++ cellsL (l.drop j))) false) h) = some (.cells l.length (cellsL F ++ (X ++ cellsL (l.drop j))) false) := look_put_eq hb
    rcases Nat.lt_or_ge j l.length with hj | hj
    · obtain ⟨y, hy, hdy, hmy⟩ := get_drop hj
      have hlt : ((j : Int) < (l.length : Int)) = True := eq_true (by omega)
      have hltn : (j < l.length) = True := eq_true hj
      have hle : (j ≤ l.length) = True := eq_true (by omega)
      have w2 : IntKind.i64.wrap ((j : Int) + 1) = ((j + 1 : Nat) : Int) := by rw [wrap64 (by omega) (by omega)]; omega
      have w3 : IntKind.i64.wrap ((i' : Int) + 1) = ((i' + 1 : Nat) : Int) := by rw [wrap64 (by omega) (by omega)]; omega
      have hdr : List.drop j (cellsL F ++ (X ++ cellsL (l.drop j))) = .int .i64 y :: cellsL (l.drop (j + 1)) := by
        rw [e2, hdy]; rfl
      have hcall := hp (putAt b (.cells l.length (cellsL F ++ (X ++ cellsL (l.drop j))) false) h) y fun id hid => look_put_ne (Ne.symm hid)
      simp -implicitDefEqProofs only [hlt, hltn, hle, w2, lk, hcs, hdr, go_sem, seval]
      refine callI_st hcall ?_
      simp -implicitDefEqProofs only [go_sem, seval]
      refine brI_both (fun hq hT => ?_) (fun hq hT => ?_)
      · simp -implicitDefEqProofs only [w2, go_sem, seval]
        refine ⟨(i', j + 1, X ++ [.int .i64 y]), by simp only; omega, ?_⟩
        have fn : (l.take (j + 1)).filter (fun x => !q x) = F := by
          rw [List.take_add_one, hy, List.filter_append, hF]; simp [hq]
        rw [fn]
        simp only [true_and, and_true]
        refine ⟨by omega, by omega, h3, by simp; omega, ?_⟩
        rw [hdy, List.append_assoc]; rfl
      · have hq' : q y = false := by simpa using hq
        cases X with
        | nil => simp at h4; omega
        | cons a X =>
          simp only [List.length_cons] at h4
          have hlt2 : (i' < l.length) = True := eq_true (by omega)
          have hle2 : (i' + 1 ≤ l.length) = True := eq_true (by omega)
          have hdi : List.drop (i' + 1) (cellsL F ++ (a :: X ++ cellsL (l.drop j))) = X ++ cellsL (l.drop j) := by
            rw [List.drop_append, List.drop_of_length_le (by rw [cF]; omega), cF, List.nil_append, show i' + 1 - F.length = 1 by omega]; rfl
          simp only [List.cons_append] at lk hcs htk hdi
          simp -implicitDefEqProofs only [w2, w3, hlt2, hle2, lk, hb, hcs, htk, hdi, go_sem, seval]
          refine ⟨(i' + 1, j + 1, X ++ [.int .i64 y]), by simp only; omega, ?_⟩
          have fn : (l.take (j + 1)).filter (fun x => !q x) = F ++ [y] := by
            rw [List.take_add_one, hy, List.filter_append, hF]; simp [hq']
          rw [fn]
          simp only [true_and, and_true]
          refine ⟨by omega, by omega, by simp; omega, by simp; omega, ?_⟩
          rw [putAt_putAt, cellsL_append, hdy]
          simp only [List.append_assoc, List.singleton_append, cellsL, List.append_nil, List.nil_append, List.cons_append]
          rfl
    · have hlt : ((j : Int) < (l.length : Int)) = False := eq_false (by omega)
      have hjl : j = l.length := by omega
      have d0 : l.drop j = [] := by rw [List.drop_eq_nil_iff]; omega
      rw [List.take_of_length_le (by omega)] at hF
      have hlt2 : (i' < l.length) = True := eq_true (by omega)
      have hle2 : (i' ≤ l.length) = True := eq_true (by omega)
      have cX : List.drop l.length (cellsL F ++ (X ++ cellsL (l.drop j))) = [] := by rw [List.drop_eq_nil_iff]; omega
      have hsum : i' + (l.length - i') = l.length := by omega
      have hpos : (0 < l.length - i') = True := eq_true (by omega)
      have rep : ∀ q : Nat, (List.replicate q [AV.int .i64 0]).flatten = List.replicate q (.int .i64 0) := fun q => by
        induction q with
        | zero => rfl
        | succ q ih => rw [List.replicate_succ, List.flatten_cons, ih]; rfl
      rw [hF, ← h3]
      by_cases hi0 : i' = 0
      · subst hi0
        have hpos : (0 < l.length) = True := eq_true (by omega)
        have hF0 : F = [] := List.length_eq_zero_iff.1 h3.symm
        simp -implicitDefEqProofs only [hlt, hpos, lk, hb, hcs, htk, rep, cX, Nat.sub_zero, Nat.mul_one, go_sem, seval]
        rw [putAt_putAt, hF0]
      · simp -implicitDefEqProofs only [hlt, hlt2, hle2, hi0, lk, hb, hcs, htk, hsum, hpos, rep, cX, Nat.mul_one, go_sem, seval]
        rw [putAt_putAt]
end W15
/- Kin: the program's, the document's. -/
set_option linter.unusedSimpArgs false
set_option linter.unusedVariables false
namespace W15
open Go Go.AX Go.AX.Ty Go.Proofs
def kinB (p : Page) (n : Int) : List Int := match nodeAt p n with
  | some x => if x.name = [] then [] else match nodeAt p x.up with
    | some y => y.kids.filter (elemB p)
    | none => []
  | none => []
theorem w_Kin (p : Page) (hp : PgOk p) (n : Int) (hk : ∀ x y, nodeAt p n = some x → nodeAt p x.up = some y → y.kids ≠ []) : PureF Tryz.prog 200 [Enc.av p, Enc.av n] (Enc.av (kinB p n)) := by
  refine pureF_W mix c200 (by kernel_rfl) (by kernel_rfl) (by simp [flats, flat_av, Go.AX.flat]) (by first | exact flat_av _ | simp [flat, flats, flat_av]) ?_
  simp -implicitDefEqProofs only [F200, go_sem, seval]
  refine dcallI_pure (w_Element p n) ?_
  simp -implicitDefEqProofs only [go_sem, seval]
  rcases node_cases p n with ⟨e, h⟩ | ⟨k, x, rfl, hkl, hx, e⟩
  · have e2 : elemB p n = false := by simp [elemB, e]
    have e3 : kinB p n = [] := by simp [kinB, e]
    rw [e3, e2]
    simp -implicitDefEqProofs only [go_sem, seval]
    refine andI_intro (by kernel_rfl) ?_
    simp -implicitDefEqProofs only [cellsL, go_sem, seval]
  have e2 : elemB p k = decide (x.name ≠ []) := by simp [elemB, e]
  by_cases hn : x.name = []
  · have e3 : kinB p k = [] := by simp [kinB, e, hn]
    have e4 : elemB p k = false := by rw [e2]; simp [hn]
    rw [e3, e4]
    simp -implicitDefEqProofs only [go_sem, seval]
    refine andI_intro (by kernel_rfl) ?_
    simp -implicitDefEqProofs only [cellsL, go_sem, seval]
  have e4 : elemB p k = true := by rw [e2]; simp [hn]
  rw [e4]
  simp -implicitDefEqProofs only [hx, go_sem, seval]
  rcases node_cases p x.up with ⟨f, h⟩ | ⟨u, y, hu, hul, hy, f⟩
  · have e3 : kinB p k = [] := by simp [kinB, e, hn, f]
    rw [e3]
    refine brI_both (fun g hT => ?_) (fun g hT => ?_)
    · simp -implicitDefEqProofs only [hT, hx, go_sem, seval]
      refine andI_intro (by kernel_rfl) ?_
      simp -implicitDefEqProofs only [cellsL, go_sem, seval]
    · have hge : (x.up ≥ (p.length : Int)) = True := eq_true (by omega)
      simp -implicitDefEqProofs only [hT, hx, hge, go_sem, seval]
      refine andI_intro (by kernel_rfl) ?_
      simp -implicitDefEqProofs only [cellsL, go_sem, seval]
  have e3 : kinB p k = y.kids.filter (elemB p) := by simp [kinB, e, hn, f]
  rw [e3]
  have g1 : ((u : Int) < 0) = False := eq_false (by omega)
  have g2 : ((u : Int) ≥ (p.length : Int)) = False := eq_false (by omega)
  have hkids := hp.kids y (nodeAt_mem f)
  simp -implicitDefEqProofs only [hu, g1, g2, hx, hy, go_sem, seval]
  refine andI_intro (by kernel_rfl) ?_
  simp -implicitDefEqProofs only [hu, g1, g2, hx, hy, go_sem, seval]
  refine dcallI_gen (w_Clone y.kids (hk x y e f) (by omega) _ _) (wf_of (by kernel_rfl)) (by simp) (wf_of (by kernel_rfl)) ?_
  have hc : (cellsL y.kids).length = y.kids.length := by rw [cellsL_len]; simp [Enc.sz]
  have ht : List.take y.kids.length (cellsL y.kids) = cellsL y.kids := List.take_of_length_le (by omega)
  simp -implicitDefEqProofs only [hc, ht, go_sem, seval]
  refine dcallI_gen (w_DeleteFunc (c := 0) (q := fun k => !elemB p k) (l := y.kids) rfl (by omega) fun h' x0 hid => w_kin1 p x0 (by rw [hid 0 (by decide)]; rfl)) (wf_of (by kernel_rfl)) (by simp) (wf_of (by kernel_rfl)) ?_
  simp -implicitDefEqProofs only [hc, ht, go_sem, seval]
  have ef : (y.kids.filter fun k => !!elemB p k) = y.kids.filter (elemB p) := by simp
  refine andI_intro (by kernel_rfl) ?_
  simp only [Bool.not_not]
  generalize hF : y.kids.filter (elemB p) = F
  have hFl : F.length ≤ y.kids.length := by rw [← hF]; exact List.length_filter_le _ _
  have cF : (cellsL F).length = F.length := by rw [cellsL_len]; simp [Enc.sz]
  have tF : List.take F.length (cellsL F ++ List.replicate (y.kids.length - F.length) (AV.int .i64 0)) = cellsL F := by rw [List.take_left' (by rw [cF])]
  have lF : (F.length ≤ (cellsL F ++ List.replicate (y.kids.length - F.length) (AV.int .i64 0)).length) = True := eq_true (by rw [List.length_append, cF]; omega)
  simp -implicitDefEqProofs only [hc, ht, go_sem, seval]
  simp only [viewIs, view, St.get, AX.look, if_true, Nat.mul_one, Nat.zero_add, lF, List.drop_zero, tF, true_and, Option.map_some, if_false]
  try simp [viewIs, view, St.get, AX.look, putAt, lF, tF]
  trace_state
end W15
/- Kin of the document; places. -/
set_option linter.unusedSimpArgs false
set_option linter.unusedVariables false
namespace W15
open Go Go.AX Go.AX.Ty Go.Proofs
def placeB (p : Page) (n : Int) : Int := 1 + idxOf (fun x => n == x) (kinB p n)
theorem kin_len {p : Page} (hp : PgOk p) (n : Int) : (kinB p n).length ≤ 1000 := by
  unfold kinB
  split
  · split
    · simp
    · split
      · rename_i y hy
        exact Nat.le_trans (List.length_filter_le _ _) (hp.kids y (nodeAt_mem hy))
      · simp
  · simp
theorem w_place (p : Page) (st : List Ty.State) (hp : PgOk p) (n : Int) (hk : ∀ x y, nodeAt p n = some x → nodeAt p x.up = some y → y.kids ≠ []) :
    PureF Tryz.prog 179 [.agg [Enc.av p, Enc.av st], Enc.av n] (.int .i64 (placeB p n)) := by
  refine pureF_W mix c179 (by kernel_rfl) (by kernel_rfl) (by simp [flats, flat_av, Go.AX.flat]) (by first | exact flat_av _ | simp [flat, flats, flat_av]) ?_
  simp -implicitDefEqProofs only [F179, go_sem, seval]
  refine callI_pure (w_Kin p hp n hk) ?_
  simp -implicitDefEqProofs only [go_sem, seval]
  refine callI_pure (w_index_int n _ (by have := kin_len hp n; omega)) ?_
  have w1 : IntKind.i64.wrap (1 + idxOf (fun x => n == x) (kinB p n)) = placeB p n := by
    have := kin_len hp n
    rw [wrap64]
    · rfl
    · rcases idx_cases (fun x => n == x) (kinB p n) with ⟨e, _⟩ | ⟨i, x, e, hi, _⟩ <;> omega
    · rcases idx_cases (fun x => n == x) (kinB p n) with ⟨e, _⟩ | ⟨i, x, e, hi, _⟩ <;> omega
  simp -implicitDefEqProofs only [w1, go_sem, seval]
end W15
/- The places of an nth. -/
set_option linter.unusedSimpArgs false
set_option linter.unusedVariables false
namespace W15
open Go Go.AX Go.AX.Ty Go.Proofs
def nthB (a b i : Int) : Bool :=
  if a < -1000000000 ∨ a > 1000000000 then false else if b < -1000000000 ∨ b > 1000000000 then false else if i < -1000000000 ∨ i > 1000000000 then false
  else if a = 0 then decide (i = b) else decide ((IntKind.i64.wrap (i - b)).tmod a = 0) && decide (IntKind.i64.wrap ((IntKind.i64.wrap (i - b)).tdiv a) ≥ 0)
theorem w_Nth (a b i : Int) : PureF Tryz.prog 178 [.int .i64 a, .int .i64 b, .int .i64 i] (.bool (nthB a b i)) := by
  refine pureF_W mix c178 (by kernel_rfl) (by kernel_rfl) (by simp [flats, flat_av, Go.AX.flat]) (by first | exact flat_av _ | simp [flat, flats, flat_av]) ?_
  simp -implicitDefEqProofs only [F178, elemA, go_sem, seval]
  rw [LoopI_def]
  refine ⟨4, ?_⟩
  simp -implicitDefEqProofs only [elemA, go_sem, seval]
  repeat' (refine brI_both (fun h hT => ?_) (fun h hT => ?_) <;> try simp -implicitDefEqProofs only [hT, *, elemA, go_sem, seval] <;> try clear hT)
  all_goals (simp only [nthB, AV.bool.injEq])
  all_goals (repeat' split)
  all_goals (first | omega | rfl | (simp_all; done) | (rw [Bool.eq_iff_iff]; simp; done) | skip)
  all_goals (simp_all; try omega)
end W15
