/- What the bound gives: how many names a list may hold. -/
import Derived.Test.YtaaobfeieelolaaRows
import Derived.ProofKit
import Derived.SizedLaws
import Derived.Deep.CondSized
import Derived.Test.YtaaobfeieelolaaAxE
set_option linter.unusedSimpArgs false
set_option linter.unusedVariables false
namespace Go.Proofs.Ytaaobfeieelolaa
open Go.ChangeShapes Go.WideShapes Go.ChangeAt Go.RowKit Go.AX Go.AX.Ty

theorem bulk_one {H : Type} (d : DataW H) : 1 ≤ Rows.uptoBulk d := by
  cases d with
  | lit l => cases l <;> simp [Rows.uptoBulk]
  | _ => simp [Rows.uptoBulk]
theorem bulk_part {H : Type} {d : DataW H} {l : List (DataW H)} (h : d ∈ l) : Rows.uptoBulk d ≤ Rows.uptoBulkAll l := by
  induction l with
  | nil => cases h
  | cons x r ih =>
    simp only [Rows.uptoBulkAll]
    rcases List.mem_cons.1 h with rfl | e
    · omega
    · have := ih e; omega
theorem bulk_length {H : Type} (l : List (DataW H)) : l.length ≤ Rows.uptoBulkAll l := by
  induction l with
  | nil => simp [Rows.uptoBulkAll]
  | cons x r ih => have := bulk_one x; simp only [Rows.uptoBulkAll, List.length_cons]; omega

section
variable {P : Program} {t e : TypeId} {H : Type} {enc : TypeId × Value → H} {W : World} {sp : Nat → Bool} {hd : Bool} {cs : List Value} {x : DataW H × List MemPlace} {n : Nat}
theorem bulk_field {fs : Array Field} (hu : P.underlying t = some (.struct fs)) {rows : List (Nat × Nat × TypeId)} (hf : fs.toList.map (fieldRow P) = rows) (h : DataW.trod enc P W 0 sp hd n t cs = some x) :
    ∀ r ∈ rows, ∃ m y, DataW.trod enc P W 0 sp hd m r.2.2 ((cs.drop r.1).take r.2.1) = some y ∧ Rows.uptoBulk y.1 ≤ Rows.uptoBulk x.1 := by
  cases n with
  | zero => simp [DataW.trod] at h
  | succ n =>
    simp only [DataW.trod, hu] at h
    split at h
    · rename_i hc
      intro r hr
      rw [← hf, List.mem_map] at hr
      obtain ⟨f, hf1, rfl⟩ := hr
      simp only [Option.map_eq_some_iff] at h
      obtain ⟨ys, hys, rfl⟩ := h
      obtain ⟨i, hi⟩ := List.mem_iff_getElem?.1 hf1
      obtain ⟨y, hyi, hy⟩ := (mapM_get hys).2 i f hi
      refine ⟨n, y, hy, ?_⟩
      simp only [Rows.uptoBulk]
      have := bulk_part (List.mem_map.2 ⟨y, List.mem_of_getElem? hyi, rfl⟩ : y.1 ∈ ys.map (·.1))
      omega
    · simp at h
theorem bulk_slice (hu : P.underlying t = some (.slice e)) (h : DataW.trod enc P W 0 sp hd n t cs = some x) {k : Nat} {xs : List AV} {c : Ctx} (hr : RepL c [.ps k xs] cs) : k ≤ Rows.uptoBulk x.1 := by
  simp only [RepL] at hr
  obtain ⟨u, us', rfl, r1, rfl⟩ := hr
  cases n with
  | zero => simp [DataW.trod] at h
  | succ n =>
    simp only [Rep] at r1
    have hu' : ∃ a q, u = .slice a k q := by
      rcases r1 with ⟨rfl, _, a, q, rfl⟩ | ⟨k', o, q, rfl, _⟩
      · exact ⟨a, q, rfl⟩
      · exact ⟨_, q, rfl⟩
    obtain ⟨a, q, rfl⟩ := hu'
    rcases Nat.eq_zero_or_pos k with hk | hk
    · omega
    cases a with
    | none => rcases r1 with ⟨rfl, _⟩ | ⟨k', o, q, e, _⟩ <;> simp_all
    | some a =>
      simp only [DataW.trod, hu] at h
      split at h
      · simp only [Option.bind_eq_some_iff] at h
        obtain ⟨elems, hel, hx⟩ := h
        obtain ⟨hl, _⟩ := mapM_get hel
        simp only [Option.map_eq_some_iff] at hx
        obtain ⟨rest, _, rfl⟩ := hx
        rw [List.length_range] at hl
        simp only [Rows.uptoBulk]
        have := bulk_length (elems.map (·.1))
        rw [List.length_map, hl] at this
        omega
      · simp at h
end
theorem repL_cut {c : Ctx} {A B D : List AV} {cs : List Value} (h : RepL c (A ++ B ++ D) cs) : RepL c B ((cs.drop A.length).take B.length) := by
  have key : ∀ (A B : List AV) (cs : List Value), RepL c (A ++ B) cs → RepL c B (cs.drop A.length) := by
    intro A
    induction A with
    | nil => intro B cs h; simpa using h
    | cons x r ih =>
      intro B cs h
      simp only [List.cons_append, RepL] at h
      obtain ⟨u, us', rfl, _, h2⟩ := h
      simpa using ih B us' h2
  have key2 : ∀ (A B : List AV) (cs : List Value), RepL c (A ++ B) cs → RepL c A (cs.take A.length) := by
    intro A
    induction A with
    | nil => intro B cs h; simp [RepL]
    | cons x r ih =>
      intro B cs h
      simp only [List.cons_append, RepL] at h
      obtain ⟨u, us', rfl, h1, h2⟩ := h
      simp only [List.length_cons, List.take_succ_cons, RepL]
      exact ⟨u, _, rfl, h1, ih B us' h2⟩
  rw [List.append_assoc] at h
  exact key2 B D _ (key A (B ++ D) cs h)
theorem bulk_safe {H : Type} {enc : TypeId × Value → H} {W : World} {sp : Nat → Bool} {hd : Bool} {cs : List Value} {x : DataW H × List MemPlace} {n : Nat} {c : Ctx} (a : Ty.Safe) (h : DataW.trod enc Try.prog W 0 sp hd n 24 cs = some x)
    (hr : RepL c (Enc.cells a) cs) : a.classes.length ≤ Rows.uptoBulk x.1 ∧ a.attrs.length ≤ Rows.uptoBulk x.1 := by
  have hf := bulk_field Try.underlying24 (rows := [(0, 1, 22), (1, 1, 22)]) (by kernel_rfl) h
  rw [Safe.ecells] at hr
  constructor
  · obtain ⟨m, y, h1, h2⟩ := hf (0, 1, 22) (by simp)
    exact Nat.le_trans (bulk_slice Try.underlying22 h1 (repL_cut (A := []) (B := [_]) (D := [_]) hr)) h2
  · obtain ⟨m, y, h1, h2⟩ := hf (1, 1, 22) (by simp)
    exact Nat.le_trans (bulk_slice Try.underlying22 h1 (repL_cut (A := [_]) (B := [_]) (D := []) hr)) h2
/-- of an argument -/
theorem bulk_arg {α : Type} [Enc α] {H : Type} {enc : TypeId × Value → H} {W : World} {t : TypeId} {v : Value} {d : DataW H} {ps : List MemPlace} {a : α} {Q : Nat → Prop} (hav : Enc.av a = .agg (Enc.cells a))
    (hb : ∀ (cs : List Value) (x : DataW H × List MemPlace) (n : Nat), DataW.trod enc Try.prog W 0 (fun _ => true) true n t cs = some x → RepL (ctx0 W) (Enc.cells a) cs → Q (Rows.uptoBulk x.1))
    (h : DataW.Trod enc Try.prog W 0 (fun _ => true) true t v d ps) (r : Rep (ctx0 W) (Enc.av a) v) : Q (Rows.uptoBulk d) := by
  obtain ⟨n, hn⟩ := h
  rw [hav] at r
  simp only [Rep] at r
  obtain ⟨us, rfl, r⟩ := r
  exact hb _ _ n hn (by simpa [Value.cells] using r)
theorem bulk_le {H : Type} {l : List (DataW H)} (hk : Rows.uptoSmall H l = true) : Rows.uptoBulkAll l ≤ 1048576 := of_decide_eq_true hk
end Go.Proofs.Ytaaobfeieelolaa
