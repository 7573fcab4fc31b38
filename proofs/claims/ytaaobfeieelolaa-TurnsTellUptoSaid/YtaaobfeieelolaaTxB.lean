/- Turns: the document's guards; lists of attributes. -/
import Derived.Test.YtaaobfeieelolaaTxA
import Derived.Test.YtaaobfeieelolaaFx
set_option linter.unusedSimpArgs false
set_option linter.unusedVariables false
namespace W11
open Go Go.AX Go.AX.Ty Go.Proofs

theorem w_rBlankS (s : Str) (hl : s.length ≤ 140737488355328) : PureF Try.prog 32 [.str s] (.bool (s.any blankB)) := by
  refine pureF_W mix c32 (by kernel_rfl) (by kernel_rfl) (by simp [flats, flat_av, Go.AX.flat]) (by first | exact flat_av _ | simp [flat, flats, flat_av]) ?_
  simp -implicitDefEqProofs only [F32, go_sem]
  refine LoopI_sl (fun k : Nat => s.length - k) (fun k => [(0, .str s), (3, .int .i64 k)]) (fun k st => k ≤ s.length ∧ Pre blankB s k) 0 ?_ ?_
  · simp -implicitDefEqProofs only [go_sem, reduceCtorEq, ↓reduceIte]
    exact Pre.zero _ _
  rintro k ρ ⟨g, m⟩ ⟨h1, h2⟩
  rcases Nat.lt_or_ge k s.length with hk | hk
  · obtain ⟨x, hx, hd, hm⟩ := get_drop hk
    have hlt : ((k : Int) < (s.length : Int)) = True := eq_true (by omega)
    have w1 : IntKind.i64.wrap ((k : Int) + 1) = ((k + 1 : Nat) : Int) := by rw [wrap64 (by omega) (by omega)]; omega
    simp -implicitDefEqProofs only [hlt, hx, w1, go_sem, Nat.reduceEqDiff, reduceCtorEq, ↓reduceIte]
    refine callI_pure (w_Blank x) ?_
    cases hb : blankB x
    · simp -implicitDefEqProofs only [w1, go_sem, Nat.reduceEqDiff, reduceCtorEq, ↓reduceIte]
      exact ⟨k + 1, by omega, rfl, by omega, h2.next hx hb⟩
    · simp -implicitDefEqProofs only [go_sem, ↓reduceIte]
      rw [any_here hm hb]
  · have hlt : ((k : Int) < (s.length : Int)) = False := eq_false (by omega)
    simp -implicitDefEqProofs only [hlt, go_sem, Nat.reduceEqDiff, reduceCtorEq, ↓reduceIte]
    rw [any_no (h2.all hk)]
theorem w_rMay (s : Safe) (hs : Enc.ok s) (p : Page) (t : Turn) (ht : Enc.ok t) : PureF Try.prog 13 [Enc.av s, Enc.av p, Enc.av t] (.bool (mayT s p t)) := by
  refine pureF_W mix c13 (by kernel_rfl) (by kernel_rfl) (by simp [flats, flat_av, Go.AX.flat]) (by first | exact flat_av _ | simp [flat, flats, flat_av]) ?_
  have hs' := (Safe.ok_iff s).1 hs
  have ht' := (Turn.ok_iff t).1 ht
  have i1 := w_In t.name s.classes hs'.1.1
  have i2 := w_In t.name s.attrs hs'.2.1
  have hb := w_rBlankS t.name ht'.2.2.1
  unfold mayT inB
  simp -implicitDefEqProofs only [F13, go_sem, Nat.reduceAdd, Nat.reduceEqDiff, Nat.reduceLeDiff, ↓reduceIte]
  refine callI_pure (w_rElement p t.node) ?_
  cases he : elemB p t.node
  · simp -implicitDefEqProofs only [go_sem, Nat.reduceEqDiff, reduceCtorEq, ↓reduceIte]
    rfl
  by_cases h0 : t.name = []
  · simp -implicitDefEqProofs only [h0, go_sem, Nat.reduceAdd, Nat.reduceEqDiff, Nat.reduceLeDiff, reduceCtorEq, ↓reduceIte]
    try simp [h0]
  have n0 : (t.name = []) = False := eq_false h0
  by_cases k1 : t.kind = 1
  · have f1 : (t.kind = 1) = True := eq_true k1
    simp -implicitDefEqProofs only [n0, f1, go_sem, Nat.reduceAdd, Nat.reduceEqDiff, Nat.reduceLeDiff, reduceCtorEq, ↓reduceIte]
    refine callI_pure i1 ?_
    cases hc : s.classes.any fun x => x == t.name
    · simp -implicitDefEqProofs only [go_sem, Nat.reduceEqDiff, ↓reduceIte]
      simp [n0, k1]
    · simp -implicitDefEqProofs only [go_sem, Nat.reduceAdd, Nat.reduceEqDiff, Nat.reduceLeDiff, ↓reduceIte]
      refine callI_pure hb ?_
      simp -implicitDefEqProofs only [go_sem, Nat.reduceEqDiff, ↓reduceIte]
      simp [n0, k1]
  have f1 : (t.kind = 1) = False := eq_false k1
  by_cases k2 : t.kind = 2
  · have f2 : (t.kind = 2) = True := eq_true k2
    simp -implicitDefEqProofs only [n0, f1, f2, go_sem, Nat.reduceAdd, Nat.reduceEqDiff, Nat.reduceLeDiff, reduceCtorEq, ↓reduceIte]
    refine callI_pure i1 ?_
    cases hc : s.classes.any fun x => x == t.name
    · simp -implicitDefEqProofs only [go_sem, Nat.reduceEqDiff, ↓reduceIte]
      simp [n0, k2]
    · simp -implicitDefEqProofs only [go_sem, Nat.reduceAdd, Nat.reduceEqDiff, Nat.reduceLeDiff, ↓reduceIte]
      refine callI_pure hb ?_
      simp -implicitDefEqProofs only [go_sem, Nat.reduceEqDiff, ↓reduceIte]
      simp [n0, k2]
  have f2 : (t.kind = 2) = False := eq_false k2
  by_cases k3 : t.kind = 3
  · have f3 : (t.kind = 3) = True := eq_true k3
    simp -implicitDefEqProofs only [n0, f1, f2, f3, go_sem, Nat.reduceAdd, Nat.reduceEqDiff, Nat.reduceLeDiff, reduceCtorEq, ↓reduceIte]
    refine callI_pure i2 ?_
    cases hc : s.attrs.any fun x => x == t.name
    · simp -implicitDefEqProofs only [go_sem, Nat.reduceEqDiff, ↓reduceIte]
      (simp [n0, k3]; try (rw [Bool.eq_iff_iff]; simp))
    · simp -implicitDefEqProofs only [go_sem, Nat.reduceAdd, Nat.reduceEqDiff, Nat.reduceLeDiff, ↓reduceIte]
      (simp [n0, k3]; try (rw [Bool.eq_iff_iff]; simp))
  have f3 : (t.kind = 3) = False := eq_false k3
  by_cases k4 : t.kind = 4
  · have f4 : (t.kind = 4) = True := eq_true k4
    simp -implicitDefEqProofs only [n0, f1, f2, f3, f4, go_sem, Nat.reduceAdd, Nat.reduceEqDiff, Nat.reduceLeDiff, reduceCtorEq, ↓reduceIte]
    refine callI_pure i2 ?_
    cases hc : s.attrs.any fun x => x == t.name
    · simp -implicitDefEqProofs only [go_sem, Nat.reduceEqDiff, ↓reduceIte]
      (simp [n0, k4]; try (rw [Bool.eq_iff_iff]; simp))
    · simp -implicitDefEqProofs only [go_sem, Nat.reduceAdd, Nat.reduceEqDiff, Nat.reduceLeDiff, ↓reduceIte]
      (simp [n0, k4]; try (rw [Bool.eq_iff_iff]; simp))
  have f4 : (t.kind = 4) = False := eq_false k4
  simp -implicitDefEqProofs only [n0, f1, f2, f3, f4, go_sem, Nat.reduceAdd, Nat.reduceEqDiff, Nat.reduceLeDiff, ↓reduceIte]
  try simp [n0, k1, k2, k3, k4]
def badT (t : Turn) : Bool := decide ((t.name.length : Int) > 100) || decide ((t.value.length : Int) > 100)
def smallT (l : List Turn) : Bool := decide (l.length ≤ 20) && !l.any badT
theorem w_rSmallT (l : List Turn) (hl : Enc.ok l) : PureF Try.prog 9 [Enc.av l] (.bool (smallT l)) := by
  refine pureF_W mix c9 (by kernel_rfl) (by kernel_rfl) (by simp [flats, flat_av, Go.AX.flat]) (by first | exact flat_av _ | simp [flat, flats, flat_av]) ?_
  unfold smallT
  have hll := hl.1
  by_cases hbig : l.length ≤ 20
  case neg =>
    have h0 : ((0 : Int) < (l.length : Int)) = True := eq_true (by omega)
    have hb : ((l.length : Int) ≤ 20) = False := eq_false (by omega)
    simp -implicitDefEqProofs only [F9, go_sem]
    rw [LoopI_def]
    refine ⟨1, ?_⟩
    simp -implicitDefEqProofs only [hb, h0, go_sem, Nat.reduceEqDiff, reduceCtorEq, ↓reduceIte]
    simp [hbig]
  have hb : ((l.length : Int) ≤ 20) = True := eq_true (by omega)
  simp -implicitDefEqProofs only [F9, go_sem]
  refine LoopI_sl (fun k : Nat => l.length - k) (fun k => [(0, Enc.av l), (3, .int .i64 k)]) (fun k st => k ≤ l.length ∧ Pre badT l k) 0 ?_ ?_
  · simp -implicitDefEqProofs only [go_sem, reduceCtorEq, ↓reduceIte]
    exact Pre.zero _ _
  rintro k ρ ⟨g, m⟩ ⟨h1, h2⟩
  rcases Nat.lt_or_ge k l.length with hk | hk
  · obtain ⟨x, hx, hd, hm⟩ := get_drop hk
    have hlt : ((k : Int) < (l.length : Int)) = True := eq_true (by omega)
    have w1 : IntKind.i64.wrap ((k : Int) + 1) = ((k + 1 : Nat) : Int) := by rw [wrap64 (by omega) (by omega)]; omega
    by_cases b1 : (x.name.length : Int) > 100
    · have f1 : ((x.name.length : Int) > 100) = True := eq_true b1
      have hbd : badT x = true := by simp [badT, b1]
      simp -implicitDefEqProofs only [hlt, hb, hx, w1, f1, go_sem, Nat.reduceEqDiff, reduceCtorEq, ↓reduceIte]
      rw [any_here hm hbd]; simp
    have f1 : ((x.name.length : Int) > 100) = False := eq_false b1
    by_cases b2 : (x.value.length : Int) > 100
    · have f2 : ((x.value.length : Int) > 100) = True := eq_true b2
      have hbd : badT x = true := by simp [badT, b2]
      simp -implicitDefEqProofs only [hlt, hb, hx, w1, f1, f2, go_sem, Nat.reduceEqDiff, reduceCtorEq, ↓reduceIte]
      rw [any_here hm hbd]; simp
    have f2 : ((x.value.length : Int) > 100) = False := eq_false b2
    have hbd : badT x = false := by simp only [badT, f1, f2, decide_false, Bool.or_self]
    simp -implicitDefEqProofs only [hlt, hb, hx, w1, f1, f2, go_sem, Nat.reduceEqDiff, reduceCtorEq, ↓reduceIte]
    exact ⟨k + 1, by omega, rfl, by omega, h2.next hx hbd⟩
  · have hlt : ((k : Int) < (l.length : Int)) = False := eq_false (by omega)
    simp -implicitDefEqProofs only [hlt, hb, go_sem, Nat.reduceEqDiff, reduceCtorEq, ↓reduceIte]
    try (rw [any_no (h2.all hk)]; try simp [hbig])
theorem w_rWithout (l : List Str) (s : Str) (hl : l.length ≤ 10000000) (hb : ∀ k, (((l.take k).foldl (withF s) [])).length ≤ 10000000) (hx : ∀ x ∈ l, x.length ≤ 10000000) : PureF Try.prog 59 [Enc.av l, .str s] (.str (withoutB l s)) := by
  refine pureF_W mix c59 (by kernel_rfl) (by kernel_rfl) (by simp [flats, flat_av, Go.AX.flat]) (by first | exact flat_av _ | simp [flat, flats, flat_av]) ?_
  simp -implicitDefEqProofs only [F59, go_sem]
  refine LoopI_sl (fun k : Nat => l.length - k) (fun k => [(0, Enc.av l), (1, .str s), (5, .str ((l.take k).foldl (withF s) [])), (6, .int .i64 k)]) (fun k st => k ≤ l.length) 0 ?_ ?_
  · simp -implicitDefEqProofs only [go_sem, Nat.reduceEqDiff, reduceCtorEq, ↓reduceIte]
    try rfl
  rintro k ρ ⟨g, m⟩ h1
  have hbk := hb k
  rcases Nat.lt_or_ge k l.length with hk | hk
  · obtain ⟨x, hx', hd, hm⟩ := get_drop hk
    have hlt : ((k : Int) < (l.length : Int)) = True := eq_true (by omega)
    have w1 : IntKind.i64.wrap ((k : Int) + 1) = ((k + 1 : Nat) : Int) := by rw [wrap64 (by omega) (by omega)]; omega
    have hsn : (l.take (k + 1)).foldl (withF s) [] = withF s ((l.take k).foldl (withF s) []) x := by rw [take_snoc hx', List.foldl_append]; rfl
    have hxl := hx x hm
    generalize (l.take k).foldl (withF s) [] = out at hbk hsn
    have c1 : (out.length + 1 ≤ 9223372036854775807) = True := eq_true (by omega)
    have c2 : (out.length + 1 + x.length ≤ 9223372036854775807) = True := eq_true (by omega)
    have c3 : (out.length + x.length ≤ 9223372036854775807) = True := eq_true (by omega)
    by_cases e : x = s
    · have f : (x = s) = True := eq_true e
      simp -implicitDefEqProofs only [hlt, hx', w1, f, go_sem, Nat.reduceEqDiff, reduceCtorEq, ↓reduceIte]
      exact ⟨k + 1, by omega, ⟨by rw [hsn, withF, if_pos e], rfl⟩, by omega⟩
    · have f : (x = s) = False := eq_false e
      by_cases eo : out = []
      · subst eo
        have c4 : (x.length ≤ 9223372036854775807) = True := eq_true (by omega)
        simp -implicitDefEqProofs only [hlt, hx', w1, f, c4, go_sem, Nat.reduceEqDiff, reduceCtorEq, ↓reduceIte]
        exact ⟨k + 1, by omega, ⟨by rw [hsn, withF, if_neg e, if_pos rfl], rfl⟩, by omega⟩
      · have fo : (out = []) = False := eq_false eo
        simp -implicitDefEqProofs only [hlt, hx', w1, f, fo, c1, c2, c3, List.length_append, go_sem, Nat.reduceEqDiff, reduceCtorEq, ↓reduceIte]
        exact ⟨k + 1, by omega, ⟨by rw [hsn, withF, if_neg e, if_neg eo], rfl⟩, by omega⟩
  · have hlt : ((k : Int) < (l.length : Int)) = False := eq_false (by omega)
    simp -implicitDefEqProofs only [hlt, go_sem, Nat.reduceEqDiff, reduceCtorEq, ↓reduceIte]
    rw [List.take_of_length_le (by omega)]; rfl
end W11
/- Turns: the document's; a list of attributes, of which one has a value. -/
set_option linter.unusedSimpArgs false
set_option linter.unusedVariables false
namespace W11
open Go Go.AX Go.AX.Ty Go.Proofs

theorem attrs_len (l : List Ty.Attr) : (cellsL l).length = l.length * 2 := Attr.clen l
theorem setA_app : ∀ {l : List Ty.Attr} {n v : Str}, (∀ a ∈ l, ¬ a.name = n) → setA l n v = l ++ [⟨n, v⟩]
  | [], n, v, _ => rfl
  | a :: r, n, v, h => by
    simp only [setA]
    rw [if_neg (h a (by simp)), setA_app fun b hb => h b (by simp [hb])]; rfl
theorem w_rSet (l : List Ty.Attr) (n v : Str) (hl : l.length ≤ 1000000) : PureF Try.prog 58 [Enc.av l, .str n, .str v] (Enc.av (setA l n v)) := by
  refine pureF_W mix c58 (by kernel_rfl) (by kernel_rfl) (by simp [flats, flat_av, Go.AX.flat]) (by first | exact flat_av _ | simp [flat, flats, flat_av]) ?_
  simp -implicitDefEqProofs only [F58, go_sem, ↓reduceIte]
  refine LoopI_sl (fun q : Nat × Bool × List Ty.Attr => l.length - q.1) (fun q => [(0, Enc.av l), (1, .str n), (2, .str v), (7, .sl 0 (q.1 * 2) 0 q.1 2), (8, .bool q.2.1), (9, .int .i64 q.1)])
    (fun q st => q.1 ≤ l.length ∧ 1 ≤ st.next ∧ q.2.2.length = q.1 ∧ AX.look 0 st.heap = some (.cells (q.1 * 2) (cellsL q.2.2) false) ∧
      (if q.2.1 = true then q.2.2 ++ l.drop q.1 = setA l n v else q.2.2 = l.take q.1 ∧ ∀ a ∈ q.2.2, ¬ a.name = n)) (0, false, []) ?_ ?_
  · simp -implicitDefEqProofs only [go_sem, Nat.reduceEqDiff, reduceCtorEq, ↓reduceIte]
    exact ⟨rfl, by simp⟩
  rintro ⟨i, dn, out⟩ ρ ⟨g, m⟩ ⟨h1, h2, h3, h4, h5⟩
  dsimp only at h1 h2 h3 h4 h5
  have m0 : (m = 0) = False := eq_false (by omega)
  have m1 : (m + 1 = 0) = False := eq_false (by omega)
  have m2 : (m + 1 = m) = False := eq_false (by omega)
  have n0 : (0 = m) = False := eq_false (by omega)
  have n1 : (0 = m + 1) = False := eq_false (by omega)
  have hcl : (cellsL out).length = i * 2 := by rw [attrs_len, h3]
  have ht : List.take (i * 2) (cellsL out) = cellsL out := List.take_of_length_le (by omega)
  have hbd : ((i + 1) * 32 ≤ 140737488355328) = True := eq_true (by omega)
  have f0 : (i * 2 ≤ i * 2 + 1) = True := eq_true (by omega)
  have he : i * 2 + 2 = (i + 1) * 2 := by omega
  rcases Nat.lt_or_ge i l.length with hi | hi
  · obtain ⟨x, hx, hd, hm⟩ := get_drop hi
    have hlt : ((i : Int) < (l.length : Int)) = True := eq_true (by omega)
    have w1 : IntKind.i64.wrap ((i : Int) + 1) = ((i + 1 : Nat) : Int) := by rw [wrap64 (by omega) (by omega)]; omega
    by_cases e : x.name = n
    · have f : (x.name = n) = True := eq_true e
      cases dn
      · simp only [Bool.false_eq_true, if_false] at h5
        simp -implicitDefEqProofs only [hlt, hx, w1, f, h4, m0, m1, m2, n0, n1, hcl, ht, hbd, f0, go_sem, Nat.reduceAdd, Nat.reduceEqDiff, Nat.reduceLeDiff, reduceCtorEq, ↓reduceIte]
        refine ⟨(i + 1, true, out ++ [⟨x.name, v⟩]), by simp only; omega, ⟨by simp only [he], rfl, rfl⟩, by simp only; omega, by simp [h3], by simp only [he, cellsL_append]; rfl, ?_⟩
        simp only [if_true]
        have hs : setA l n v = out ++ setA (l.drop i) n v := by
          have key : ∀ (a b : List Ty.Attr), (∀ y ∈ a, ¬ y.name = n) → setA (a ++ b) n v = a ++ setA b n v := by
            intro a
            induction a with
            | nil => intro b _; rfl
            | cons y r ih => intro b hy; simp only [List.cons_append, setA]; rw [if_neg (hy y (by simp)), ih b fun z hz => hy z (by simp [hz])]
          have h6 := key out (l.drop i) h5.2
          rw [h5.1, List.take_append_drop] at h6
          rw [h6, ← h5.1]
        rw [hs, hd, setA, if_pos e]; simp
      · simp only [if_true] at h5
        simp -implicitDefEqProofs only [hlt, hx, w1, f, h4, m0, m1, m2, n0, n1, hcl, ht, hbd, f0, go_sem, Nat.reduceAdd, Nat.reduceEqDiff, Nat.reduceLeDiff, reduceCtorEq, ↓reduceIte]
        refine ⟨(i + 1, true, out ++ [x]), by simp only; omega, ⟨by simp only [he], rfl, rfl⟩, by simp only; omega, by simp [h3], by simp only [he, cellsL_append]; rfl, ?_⟩
        simp only [if_true]
        rw [← h5, hd]; simp
    · have f : (x.name = n) = False := eq_false e
      simp -implicitDefEqProofs only [hlt, hx, w1, f, h4, m0, m1, m2, n0, n1, hcl, ht, hbd, f0, go_sem, Nat.reduceAdd, Nat.reduceEqDiff, Nat.reduceLeDiff, reduceCtorEq, ↓reduceIte]
      refine ⟨(i + 1, dn, out ++ [x]), by simp only; omega, ⟨by simp only [he], rfl, rfl⟩, by simp only; omega, by simp [h3], by simp only [he, cellsL_append]; rfl, ?_⟩
      cases dn
      · simp only [Bool.false_eq_true, if_false] at h5 ⊢
        refine ⟨by rw [h5.1, take_snoc hx], fun a ha => ?_⟩
        rcases List.mem_append.1 ha with ha | ha
        · exact h5.2 a ha
        · simp at ha; subst ha; exact e
      · simp only [if_true] at h5 ⊢
        rw [← h5, hd]; simp
  · have hlt : ((i : Int) < (l.length : Int)) = False := eq_false (by omega)
    have htl : l.take i = l := List.take_of_length_le (by omega)
    cases dn
    · simp only [Bool.false_eq_true, if_false] at h5
      have hs : setA l n v = out ++ [⟨n, v⟩] := by rw [h5.1, htl]; exact setA_app (by rw [h5.1, htl] at h5; exact h5.2)
      simp -implicitDefEqProofs only [hlt, h4, m0, m1, m2, n0, n1, hcl, ht, hbd, f0, go_sem, Nat.reduceAdd, Nat.reduceEqDiff, Nat.reduceLeDiff, reduceCtorEq, ↓reduceIte]
      rw [viewIs_sl (cs := cellsL out ++ [AV.str n, AV.str v]) (sn := false) _ (by simp only [AX.look, look_putAt, h4]; rw [if_neg (by omega)]; rfl) (by rw [List.length_append, hcl]; simp; omega)]
      rw [List.take_of_length_le (by rw [List.length_append, hcl]; simp; omega), hs]
      simp [cellsL_append, h3]; rfl
    · simp only [if_true] at h5
      rw [drop_all hi, List.append_nil] at h5
      simp -implicitDefEqProofs only [hlt, h4, m0, m1, m2, n0, n1, hcl, ht, hbd, f0, go_sem, Nat.reduceEqDiff, reduceCtorEq, ↓reduceIte]
      rw [viewIs_sl _ h4 (by omega), List.take_of_length_le (by omega), ← h5, h3]
end W11
/- A pure call that gives plain values leaves no trace, by what it sees at once. -/
set_option linter.unusedSimpArgs false
set_option linter.unusedVariables false
namespace W11
open Go Go.AX Go.AX.Ty Go.Proofs

/-- THE TRACELESS CALL. -/
theorem unseeV {P : Program} {f : FuncId} {args xs : List AV} {v : AV} {s : St} {ps : List (Nat × AX.Obj)} (hv : views s.get args = some (xs, ps)) (h : PureF P f xs v) (hp : plainV v = true) :
    ACalls P f args s fun v' s' => v' = v ∧ s' = s := by
  obtain ⟨h, ha, _⟩ := h
  refine ⟨h.1, fun c w vs hs hr => ?_⟩
  obtain ⟨c1, g1, g2, _, g4⟩ := views_sound args xs ps hv c s vs hs (Since.refl s) hr
  have h0 : Sat ⟨fun _ _ => none, c1.m⟩ ⟨[], 0⟩ w := ⟨g1.mem, fun id o ho => by simp [St.get, AX.look] at ho, fun id id' o o' k ho => by simp [St.get, AX.look] at ho, fun _ _ _ => rfl, fun id o ho => by simp [St.get, AX.look] at ho, fun b e k z hb => by simp at hb⟩
  refine (h.2 _ w vs h0 (RepL.flat (c := c1) (c' := ⟨fun _ _ => none, c1.m⟩) (fun _ _ _ h => h) _ _ ha g4)).mono fun e w' ⟨v', u, c', s', e1, r, h1, h2, h3⟩ => ?_
  subst h3
  have hsame : ∀ k, k < w.heap.size → w'.heap[k]? = w.heap[k]? := fun k hk => (h2.same k hk fun ⟨id, o, ho, _⟩ => by simp [St.get, AX.look] at ho).1
  have hin : ∀ k o u, c.m k o = some u → k < w.heap.size := fun k o u hu => by
    have := (hs.mem k o u hu).1
    rcases Nat.lt_or_ge k w.heap.size with h | h
    · exact h
    · exfalso
      simp [World.cell?, Array.getElem?_eq_none h] at this
  let m2 : Nat → Nat → Option Value := fun k o => if k < w.heap.size then c.m k o else none
  have hm2 : ∀ k o, k < w.heap.size → m2 k o = c.m k o := fun k o hk => if_pos hk
  have hle : c.le ⟨c.σ, m2⟩ := ⟨fun _ _ _ h => h, fun k o u hu => by rw [← hu]; exact hm2 k o (hin k o u hu)⟩
  have hcell : ∀ k o, k < w.heap.size → w'.cell? ⟨k, o, none⟩ = w.cell? ⟨k, o, none⟩ := fun k o hk => by
    simp only [World.cell?, hsame k hk]
  refine ⟨v', u, ⟨c.σ, m2⟩, s, e1, rep_plain hp r, ⟨fun k o u hu => ?_, fun id o ho => ?_, fun id id' o o' k ho ho' => hs.inj id id' o o' k ho ho', hs.fresh, hs.top, fun b e k z hb => ?_⟩,
    ⟨hle, h2.size, fun k hk _ => ⟨hsame k hk, fun o => hm2 k o hk⟩, fun k hf => .inl hf, Nat.le_refl _, fun _ _ _ _ => rfl, fun id o ho => .inl ⟨o, ho⟩, h2.os⟩, rfl, rfl⟩
  · simp only [m2] at hu
    split at hu
    · rename_i hk
      rw [hcell k o hk]
      exact hs.mem k o u hu
    · simp at hu
  · refine (hs.obj id o ho).move hle fun k hk => ?_
    simp only [blk, Option.map_eq_some_iff] at hk
    obtain ⟨⟨k1, z1⟩, hs1, rfl⟩ := hk
    have := hs.low _ _ _ _ hs1
    exact ⟨hsame _ this, fun i => hm2 _ i this⟩
  · exact Nat.lt_of_lt_of_le (hs.low _ _ _ _ hb) h2.size

theorem callI_us {P : Program} {f : FuncId} {args : List AV} {s : St} {xs : List AV} {s' : St} {K : AV → St → Prop} {v : AV} (h : PureF P f xs v) (hp : plainV v = true) (hv : (views s.get args).map Prod.fst = some xs) (hk : @stK s ⟨K v⟩) : @CallI P f args s xs s' ⟨K⟩ := by
  simp only [Option.map_eq_some_iff] at hv
  obtain ⟨⟨ys, ps⟩, hv, rfl⟩ := hv
  exact .inl ((unseeV hv h hp).mono fun v' s'' ⟨h1, h2⟩ => by subst h1; subst h2; exact hk)
end W11
/- Turns: the document's; what an element's attributes are behind one. -/
set_option linter.unusedSimpArgs false
set_option linter.unusedVariables false
namespace W11
open Go Go.AX Go.AX.Ty Go.Proofs

theorem nodes_len (q : Page) : (cellsL q).length = q.length * 5 := Node.clen q
theorem w_rClassesO (q : Page) (hq : PgOk q) (n : Int) {h : List (Nat × AX.Obj)} {m A e : Nat} {sn : Bool} (hA : AX.look A h = some (.cells e (cellsL q) sn)) (hAm : A < m) :
    ACalls Try.prog 23 [.sl A e 0 q.length 5, .int .i64 n] ⟨h, m⟩ fun v s' => v = Enc.av (classesB q n) ∧ s' = ⟨h, m⟩ := by
  unfold classesB
  refine acalls_same (flat_av _) (acalls_W mix (C0_ok _) c23 (by kernel_rfl) (Nat.le_of_ble_eq_true (by kernel_rfl)) ?_)
  have hle : (q.length * 5 ≤ (cellsL q).length) = True := eq_true (by rw [nodes_len]; omega)
  have ht : List.take (q.length * 5) (cellsL q) = cellsL q := List.take_of_length_le (by rw [nodes_len]; omega)
  simp -implicitDefEqProofs only [F23, hA, hle, ht, go_sem, Nat.reduceEqDiff, reduceCtorEq, ↓reduceIte]
  refine callI_us (w_rAttr q hq.ok n sClass) rfl (by simp -implicitDefEqProofs only [hA, hle, ht, Option.map_some, go_sem, ↓reduceIte]) ?_
  simp -implicitDefEqProofs only [go_sem, Nat.reduceEqDiff, ↓reduceIte]
  refine callI_pure (w_Words _ (attrB_len hq n sClass)) ?_
  simp -implicitDefEqProofs only [go_sem, ↓reduceIte]
  exact ⟨by simp, fun _ _ => trivial⟩
def wsum (l : List Str) : Nat := (l.map fun w => 1 + w.length).sum
theorem withF_len (s : Str) : ∀ (l : List Str) (out : Str), (l.foldl (withF s) out).length ≤ out.length + wsum l
  | [], out => by simp [wsum]
  | x :: r, out => by
    have := withF_len s r (withF s out x)
    have h2 : (withF s out x).length ≤ out.length + (1 + x.length) := by
      unfold withF
      split
      · omega
      · split
        · omega
        · simp; omega
    simp only [List.foldl_cons]
    have h3 : wsum (x :: r) = (1 + x.length) + wsum r := by simp [wsum]
    omega
theorem wsum_take (l : List Str) (k : Nat) : wsum (l.take k) ≤ wsum l := by
  have h : wsum l = wsum (l.take k) + wsum (l.drop k) := by
    unfold wsum
    rw [← List.sum_append, ← List.map_append, List.take_append_drop]
  omega
theorem wsum_words : ∀ (s acc : Str), wsum (wordsGo s acc) ≤ s.length + acc.length + 1
  | [], acc => by
    unfold wordsGo
    split
    · simp [wsum]
    · simp [wsum]; omega
  | c :: r, acc => by
    unfold wordsGo
    split
    · split
      · have := wsum_words r []; simp at this ⊢; omega
      · have := wsum_words r []
        have h3 : wsum (acc :: wordsGo r []) = (1 + acc.length) + wsum (wordsGo r []) := by simp [wsum]
        rw [h3]; simp at this ⊢; omega
    · have := wsum_words r (acc ++ [c]); simp at this ⊢; omega
theorem classes_sum {q : Page} (hq : PgOk q) (n : Int) : wsum (classesB q n) ≤ 1000001 := by
  have h1 := wsum_words (attrB q n sClass).1 []
  have h2 := attrB_len hq n sClass
  simp only [List.length_nil] at h1
  unfold classesB wordsB; omega
theorem wsum_len : ∀ l : List Str, l.length ≤ wsum l
  | [] => by simp
  | x :: r => by have := wsum_len r; have h3 : wsum (x :: r) = (1 + x.length) + wsum r := by simp [wsum]
                 rw [h3]; simp; omega
theorem wsum_mem {x : Str} : ∀ {l : List Str}, x ∈ l → x.length ≤ wsum l
  | [], h => by simp at h
  | y :: r, h => by
    have h3 : wsum (y :: r) = (1 + y.length) + wsum r := by simp [wsum]
    rcases List.mem_cons.1 h with rfl | h
    · omega
    · have := wsum_mem h; omega
theorem w_rAttrsO (q : Page) (hq : PgOk q) (t : Turn) (ht : Enc.ok t) (htn : t.name.length ≤ 1000000) {k : Nat} {x : Ty.Node} (hk : t.node = (k : Int)) (hx : q[k]? = some x) (hxl : x.attrs.length ≤ 1000000) {h : List (Nat × AX.Obj)} {m A e : Nat} {sn : Bool} (hA : AX.look A h = some (.cells e (cellsL q) sn)) (hAm : A < m) :
    ACalls Try.prog 37 [.sl A e 0 q.length 5, Enc.av t] ⟨h, m⟩ fun v s' => v = Enc.av (attrsB q t x) ∧ s' = ⟨h, m⟩ := by
  refine acalls_same (flat_av _) (acalls_W mix (C0_ok _) c37 (by kernel_rfl) (Nat.le_of_ble_eq_true (by kernel_rfl)) ?_)
  have hle : (q.length * 5 ≤ (cellsL q).length) = True := eq_true (by rw [nodes_len]; omega)
  have htk : List.take (q.length * 5) (cellsL q) = cellsL q := List.take_of_length_le (by rw [nodes_len]; omega)
  have hkl : (k < q.length) = True := eq_true (getElem_lt hx)
  have hdk : List.drop (k * 5) (cellsL q) = Enc.cells x ++ cellsL (q.drop (k + 1)) := by
    have h1 : (cellsL q).drop (k * 5) = cellsL (q.drop k) := cellsL_drop q k
    obtain ⟨y, hy, hd, _⟩ := get_drop (getElem_lt hx)
    rw [hx] at hy; cases hy
    rw [h1, hd]; rfl
  have hdk1 : List.drop (k * 5 + 1) (cellsL q) = .ps x.attrs.length (cellsL x.attrs) :: ([.str x.text, .int .i64 x.up, .ps x.kids.length (cellsL x.kids)] ++ cellsL (q.drop (k + 1))) := by
    rw [← List.drop_drop, hdk, Node.ecells]; rfl
  have hkl1 : (k * 5 + 1 ≤ (cellsL q).length) = True := eq_true (by rw [nodes_len]; have := getElem_lt hx; omega)
  have hmA : (m = A) = False := eq_false (by omega)
  have hAm' : (A = m) = False := eq_false (by omega)
  have hcl := w_rClassesO q hq (k : Int) (h := (m, .cells 0 [.int .i64 t.kind, .int .i64 t.node, .str t.name, .str t.value] false) :: h) (m := m + 1) (A := A) (e := e) (sn := sn) (by simp only [AX.look]; rw [if_neg (by omega)]; exact hA) (by omega)
  have hcs := classes_sum hq (k : Int)
  have hcll := wsum_len (classesB q (k : Int))
  have hin := w_In t.name (classesB q (k : Int)) (by omega)
  have hal := attrB_len hq (k : Int) sClass
  have hattr := w_rAttr q hq.ok (k : Int) sClass
  have hwo := w_rWithout (classesB q (k : Int)) t.name (by omega) (fun j => by have := withF_len t.name ((classesB q (k : Int)).take j) []; have h2 := wsum_take (classesB q (k : Int)) j; simp only [List.length_nil] at this; omega) (fun y hy => by have := wsum_mem hy; omega)
  have hset := fun n v => w_rSet x.attrs n v hxl
  rw [hk] at hcl
  unfold attrsB inB
  rw [hk, Turn.eav]
  have fr : ∀ (o : AX.Obj) (id : Nat), id < m → (if m = id then some o else AX.look id h) = AX.look id h := fun o id hid => if_neg (by omega)
  simp -implicitDefEqProofs only [F37, hk, hA, hle, htk, hmA, hAm', hkl, hdk1, hkl1, Node.ecells, go_sem, Nat.reduceAdd, Nat.reduceEqDiff, Nat.reduceLeDiff, reduceCtorEq, ↓reduceIte]
  refine callI_st hcl ?_
  generalize classesB q (k : Int) = C at hin hwo hcs hcll
  generalize attrB q (k : Int) sClass = AB at hattr hal
  by_cases k1 : t.kind = 1
  · have f1 : (t.kind = 1) = True := eq_true k1
    simp -implicitDefEqProofs only [f1, hA, hle, htk, hmA, hAm', go_sem, Nat.reduceAdd, Nat.reduceEqDiff, Nat.reduceLeDiff, ↓reduceIte]
    refine callI_pure hin ?_
    cases hc : C.any fun y => y == t.name
    · simp -implicitDefEqProofs only [hA, hle, htk, hmA, hAm', go_sem, Nat.reduceAdd, Nat.reduceEqDiff, Nat.reduceLeDiff, reduceCtorEq, ↓reduceIte]
      refine callI_us hattr rfl (by simp -implicitDefEqProofs only [hA, hle, htk, hmA, hAm', Option.map_some, go_sem, ↓reduceIte]) ?_
      by_cases e0 : AB.1 = []
      · have fe : (AB.1 = []) = True := eq_true e0
        simp -implicitDefEqProofs only [fe, hA, hle, htk, hmA, hAm', go_sem, Nat.reduceAdd, Nat.reduceEqDiff, Nat.reduceLeDiff, ↓reduceIte]
        refine callI_pure (hset _ _) ?_
        simp -implicitDefEqProofs only [fe, go_sem, ↓reduceIte]
        exact ⟨by simp [k1], fr _⟩
      · have fe : (AB.1 = []) = False := eq_false e0
        have c1 : (AB.1.length + 1 ≤ 9223372036854775807) = True := eq_true (by omega)
        have c2 : (AB.1.length + 1 + t.name.length ≤ 9223372036854775807) = True := eq_true (by omega)
        simp -implicitDefEqProofs only [fe, hA, hle, htk, hmA, hAm', c1, c2, List.length_append, go_sem, Nat.reduceAdd, Nat.reduceEqDiff, Nat.reduceLeDiff, ↓reduceIte]
        refine callI_pure (hset _ _) ?_
        simp -implicitDefEqProofs only [fe, go_sem, ↓reduceIte]
        exact ⟨by simp [k1], fr _⟩
    · simp -implicitDefEqProofs only [hA, hle, htk, hmA, hAm', go_sem, Nat.reduceEqDiff, ↓reduceIte]
      exact ⟨by simp [k1], fr _⟩
  have f1 : (t.kind = 1) = False := eq_false k1
  by_cases k2 : t.kind = 2
  · have f2 : (t.kind = 2) = True := eq_true k2
    simp -implicitDefEqProofs only [f1, f2, hA, hle, htk, hmA, hAm', go_sem, Nat.reduceAdd, Nat.reduceEqDiff, Nat.reduceLeDiff, ↓reduceIte]
    refine callI_pure hin ?_
    cases hc : C.any fun y => y == t.name
    · simp -implicitDefEqProofs only [hA, hle, htk, hmA, hAm', go_sem, Nat.reduceEqDiff, ↓reduceIte]
      exact ⟨by simp [k1, k2], fr _⟩
    · simp -implicitDefEqProofs only [hA, hle, htk, hmA, hAm', go_sem, Nat.reduceAdd, Nat.reduceEqDiff, Nat.reduceLeDiff, ↓reduceIte]
      refine callI_pure hwo ?_
      simp -implicitDefEqProofs only [go_sem, Nat.reduceEqDiff, ↓reduceIte]
      refine callI_pure (hset _ _) ?_
      simp -implicitDefEqProofs only [go_sem, ↓reduceIte]
      exact ⟨by simp [k1, k2], fr _⟩
  have f2 : (t.kind = 2) = False := eq_false k2
  by_cases k3 : t.kind = 3
  · have f3 : (t.kind = 3) = True := eq_true k3
    simp -implicitDefEqProofs only [f1, f2, f3, hA, hle, htk, hmA, hAm', go_sem, Nat.reduceAdd, Nat.reduceEqDiff, Nat.reduceLeDiff, ↓reduceIte]
    refine callI_pure (hset _ _) ?_
    simp -implicitDefEqProofs only [go_sem, ↓reduceIte]
    exact ⟨by simp [k1, k2, k3], fr _⟩
  have f3 : (t.kind = 3) = False := eq_false k3
  by_cases k4 : t.kind = 4
  case neg =>
    have f4 : (t.kind = 4) = False := eq_false k4
    simp -implicitDefEqProofs only [f1, f2, f3, f4, hA, hle, htk, hmA, hAm', go_sem, Nat.reduceAdd, Nat.reduceEqDiff, ↓reduceIte]
    exact ⟨by simp [k1, k2, k3, k4], fr _⟩
  have f4 : (t.kind = 4) = True := eq_true k4
  have p1 : (m + 1 = m) = False := eq_false (by omega)
  have p2 : (m = m + 1) = False := eq_false (by omega)
  simp -implicitDefEqProofs only [f1, f2, f3, f4, hA, hle, htk, hmA, hAm', p1, p2, go_sem, Nat.reduceAdd, Nat.reduceEqDiff, ↓reduceIte]
  refine LoopI_sl (fun i : Nat => x.attrs.length - i) (fun i => [(3, .ptr m 0 0), (5, Enc.av x.attrs), (9, .sl (m + 1) (((x.attrs.take i).filter fun a => !(a.name == t.name)).length * 2) 0 ((x.attrs.take i).filter fun a => !(a.name == t.name)).length 2), (10, .int .i64 i)])
    (fun i st => i ≤ x.attrs.length ∧ m + 2 ≤ st.next ∧ AX.look m st.heap = some (.cells 0 [.int .i64 t.kind, .int .i64 k, .str t.name, .str t.value] false) ∧
      AX.look (m + 1) st.heap = some (.cells (((x.attrs.take i).filter fun a => !(a.name == t.name)).length * 2) (cellsL ((x.attrs.take i).filter fun a => !(a.name == t.name))) false) ∧ ∀ id, id < m → AX.look id st.heap = AX.look id h) 0 ?_ ?_
  · simp -implicitDefEqProofs only [p1, p2, go_sem, Nat.reduceEqDiff, ↓reduceIte]
    exact ⟨rfl, fun id hid => by rw [if_neg (by omega), if_neg (by omega)]⟩
  rintro i ρ ⟨g, m'⟩ ⟨h1, h2, h3, h4, h5⟩
  dsimp only at h1 h2 h3 h4 h5
  have q0 : (m' = m) = False := eq_false (by omega)
  have q1 : (m' = m + 1) = False := eq_false (by omega)
  have q2 : (m + 1 = m') = False := eq_false (by omega)
  have q3 : (m < m') = True := eq_true (by omega)
  have q4 : (m + 1 < m') = True := eq_true (by omega)
  rcases Nat.lt_or_ge i x.attrs.length with hi | hi
  · obtain ⟨y, hy, hyd, hym⟩ := get_drop hi
    have hlt : ((i : Int) < (x.attrs.length : Int)) = True := eq_true (by omega)
    have w1 : IntKind.i64.wrap ((i : Int) + 1) = ((i + 1 : Nat) : Int) := by rw [wrap64 (by omega) (by omega)]; omega
    have hsn : (x.attrs.take (i + 1)).filter (fun a => !(a.name == t.name)) = (x.attrs.take i).filter (fun a => !(a.name == t.name)) ++ (if y.name = t.name then [] else [y]) := by
      rw [take_snoc hy, List.filter_append]
      congr 1
      by_cases e : y.name = t.name <;> simp [e]
    have hFl : ((x.attrs.take i).filter fun a => !(a.name == t.name)).length ≤ i := Nat.le_trans (List.length_filter_le _ _) (by rw [List.length_take]; omega)
    by_cases e : y.name = t.name
    · have fe : (y.name = t.name) = True := eq_true e
      rw [if_pos e, List.append_nil] at hsn
      simp -implicitDefEqProofs only [hlt, hy, w1, h3, fe, q3, q4, go_sem, Nat.reduceAdd, Nat.reduceEqDiff, Nat.reduceLeDiff, ↓reduceIte]
      refine andI_intro (by (first | omega | (simp [indepB, indep1, apart1, Nat.testBit_eq_decide_div_mod_eq]; done) | (simp [indepB, indep1, apart1, Nat.testBit_eq_decide_div_mod_eq]; omega) | kernel_rfl)) ?_
      simp -implicitDefEqProofs only [hlt, hy, w1, h3, fe, go_sem, Nat.reduceEqDiff, ↓reduceIte]
      exact ⟨i + 1, by omega, ⟨by rw [hsn], rfl⟩, by omega, h2, by rw [hsn]; exact h4, h5⟩
    · have fe : (y.name = t.name) = False := eq_false e
      rw [if_neg e] at hsn
      have hcl' := attrs_len ((x.attrs.take i).filter fun a => !(a.name == t.name))
      generalize ((x.attrs.take i).filter fun a => !(a.name == t.name)) = F at h4 hFl hsn hcl'
      have g1 : List.take (F.length * 2) (cellsL F) = cellsL F := List.take_of_length_le (by omega)
      have g2 : ((F.length + 1) * 32 ≤ 140737488355328) = True := eq_true (by omega)
      have g3 : (F.length * 2 ≤ F.length * 2 + 1) = True := eq_true (by omega)
      have g4 : F.length * 2 + 2 = (F.length + 1) * 2 := by omega
      simp -implicitDefEqProofs only [hlt, hy, w1, h3, fe, q3, q4, go_sem, Nat.reduceAdd, Nat.reduceEqDiff, Nat.reduceLeDiff, ↓reduceIte]
      refine andI_intro (by (first | omega | (simp [indepB, indep1, apart1, Nat.testBit_eq_decide_div_mod_eq]; done) | (simp [indepB, indep1, apart1, Nat.testBit_eq_decide_div_mod_eq]; omega) | kernel_rfl)) ?_
      simp -implicitDefEqProofs only [hlt, hy, w1, h3, h4, fe, hcl', g1, g2, g3, q0, q1, q2, p1, p2, go_sem, Nat.reduceAdd, Nat.reduceEqDiff, Nat.reduceLeDiff, reduceCtorEq, ↓reduceIte]
      have hl2 : (F ++ [y]).length = F.length + 1 := by simp
      refine ⟨i + 1, by omega, ⟨by rw [hsn, hl2, g4], rfl⟩, by omega, by omega, ?_, fun id hid => ?_⟩
      · rw [hsn, hl2, g4, cellsL_append]; rfl
      · (try simp only [AX.look, look_putAt]); rw [if_neg (by omega), if_neg (by omega)]; exact h5 id hid
  · have hlt : ((i : Int) < (x.attrs.length : Int)) = False := eq_false (by omega)
    have htl : x.attrs.take i = x.attrs := List.take_of_length_le (by omega)
    rw [htl] at h4 ⊢
    simp -implicitDefEqProofs only [hlt, go_sem, Nat.reduceEqDiff, ↓reduceIte]
    rw [if_neg k1, if_neg k2, if_neg k3, if_pos k4]
    refine ⟨⟨?_, by simp [idsD]⟩, h5⟩
    rw [viewIs_sl _ h4 (by rw [attrs_len]; omega), List.take_of_length_le (by rw [attrs_len]; omega)]
end W11
/- Turns: the document's; all of them. -/
set_option linter.unusedSimpArgs false
set_option linter.unusedVariables false
namespace W11
open Go Go.AX Go.AX.Ty Go.Proofs

structure PgB (c d : Nat) (p : Page) : Prop where
  ok : Enc.ok p
  len : p.length ≤ 1000
  kids : ∀ x ∈ p, x.kids.length ≤ 1000
  num : ∀ x ∈ p, x.attrs.length ≤ c
  val : ∀ x ∈ p, ∀ a ∈ x.attrs, a.value.length ≤ d
theorem PgB.pg {c d : Nat} {p : Page} (h : PgB c d p) (hd : d ≤ 1000000) : PgOk p := ⟨h.ok, h.len, h.kids, fun x hx a ha => by have := h.val x hx a ha; omega⟩
theorem PgB.mono {c d c' d' : Nat} {p : Page} (h : PgB c d p) (hc : c ≤ c') (hd : d ≤ d') : PgB c' d' p := ⟨h.ok, h.len, h.kids, fun x hx => by have := h.num x hx; omega, fun x hx a ha => by have := h.val x hx a ha; omega⟩
theorem setA_mem {l : List Ty.Attr} {n v : Str} {a : Ty.Attr} (h : a ∈ setA l n v) : a ∈ l ∨ a = ⟨n, v⟩ := by
  induction l with
  | nil => simp [setA] at h; exact .inr h
  | cons b r ih =>
    simp only [setA] at h
    split at h
    · rename_i e
      rcases List.mem_cons.1 h with rfl | h
      · exact .inr (by rw [e])
      · exact .inl (by simp [h])
    · rcases List.mem_cons.1 h with rfl | h
      · exact .inl (by simp)
      · rcases ih h with h | h
        · exact .inl (by simp [h])
        · exact .inr h
theorem setA_len (l : List Ty.Attr) (n v : Str) : (setA l n v).length ≤ l.length + 1 := by
  induction l with
  | nil => simp [setA]
  | cons b r ih => simp only [setA]; split <;> simp; omega
theorem PgB.attr {c d : Nat} {p : Page} (h : PgB c d p) (n : Int) (v : Str) : (attrB p n v).1.length ≤ d := by
  unfold attrB
  split
  · rename_i x hx
    split
    · simp
    · split
      · rename_i a ha
        exact h.val x (nodeAt_mem hx) a (List.mem_of_find?_eq_some ha)
      · simp
  · simp
theorem attrsB_bd {c d : Nat} {p : Page} (h : PgB c d p) {t : Turn} (hn : t.name.length ≤ 100) (hv : t.value.length ≤ 100) {x : Ty.Node} (hx : x ∈ p) :
    (attrsB p t x).length ≤ c + 1 ∧ ∀ a ∈ attrsB p t x, a ∈ x.attrs ∨ ((a.name = sClass ∨ a.name = t.name) ∧ a.value.length ≤ d + 101) := by
  have hc := h.num x hx
  have keep : x.attrs.length ≤ c + 1 ∧ ∀ a ∈ x.attrs, a ∈ x.attrs ∨ ((a.name = sClass ∨ a.name = t.name) ∧ a.value.length ≤ d + 101) := ⟨by omega, fun a ha => .inl ha⟩
  have set : ∀ n v, (n = sClass ∨ n = t.name) → v.length ≤ d + 101 → (setA x.attrs n v).length ≤ c + 1 ∧ ∀ a ∈ setA x.attrs n v, a ∈ x.attrs ∨ ((a.name = sClass ∨ a.name = t.name) ∧ a.value.length ≤ d + 101) := fun n v hnn hvl =>
    ⟨by have := setA_len x.attrs n v; omega, fun a ha => by rcases setA_mem ha with ha | rfl; exact .inl ha; exact .inr ⟨hnn, hvl⟩⟩
  have ha := h.attr t.node sClass
  unfold attrsB
  split
  · split
    · exact keep
    · split
      · exact set _ _ (.inl rfl) (by omega)
      · exact set _ _ (.inl rfl) (by simp; omega)
  · split
    · split
      · refine set _ _ (.inl rfl) ?_
        have h1 := withF_len t.name (classesB p t.node) []
        have h2 := wsum_words (attrB p t.node sClass).1 []
        simp only [List.length_nil] at h1 h2
        unfold withoutB
        unfold classesB wordsB at h1 ⊢
        omega
      · exact keep
    · split
      · exact set _ _ (.inr rfl) (by omega)
      · split
        · refine ⟨?_, fun a ha => .inl (List.mem_filter.1 ha).1⟩
          have := List.length_filter_le (fun a : Ty.Attr => !(a.name == t.name)) x.attrs
          omega
        · exact keep
theorem PgB.step {c d : Nat} {p : Page} (h : PgB c d p) (hc : c ≤ 1000000) (hd : d ≤ 1000000) {t : Turn} (hn : t.name.length ≤ 100) (hv : t.value.length ≤ 100) : PgB (c + 1) (d + 101) (stepT p t) := by
  unfold stepT
  split
  · rename_i x hx
    split
    · exact h.mono (by omega) (by omega)
    · have hxm := nodeAt_mem hx
      obtain ⟨b1, b2⟩ := attrsB_bd h hn hv hxm
      have hxok := (Node.ok_iff x).1 (h.ok.2 x hxm)
      have hval : ∀ a ∈ attrsB p t x, a.value.length ≤ d + 101 := fun a ha => by
        rcases b2 a ha with h1 | h1
        · have := h.val x hxm a h1; omega
        · exact h1.2
      have hnew : Enc.ok (withA x (attrsB p t x)) := (Node.ok_iff _).2 ⟨hxok.1, ⟨by show (attrsB p t x).length ≤ _; omega, fun a ha => by
        rcases b2 a ha with h1 | h1
        · exact hxok.2.1.2 a h1
        · refine (Attr.ok_iff a).2 ⟨?_, ?_⟩
          · rcases h1.1 with e | e
            · rw [e]; show ([99, 108, 97, 115, 115] : Str).length ≤ _; simp
            · rw [e]; show t.name.length ≤ _; omega
          · show a.value.length ≤ _; omega⟩, hxok.2.2.1, hxok.2.2.2.1, hxok.2.2.2.2⟩
      have mem : ∀ y ∈ p.set t.node.toNat (withA x (attrsB p t x)), y ∈ p ∨ y = withA x (attrsB p t x) := fun y hy => List.mem_or_eq_of_mem_set hy
      refine ⟨⟨by show (List.set p _ _).length ≤ _; rw [List.length_set]; exact h.ok.1, fun y hy => ?_⟩, by rw [List.length_set]; exact h.len, fun y hy => ?_, fun y hy => ?_, fun y hy a ha => ?_⟩
      · rcases mem y hy with hy | rfl
        · exact h.ok.2 y hy
        · exact hnew
      · rcases mem y hy with hy | rfl
        · exact h.kids y hy
        · exact h.kids x hxm
      · rcases mem y hy with hy | rfl
        · have := h.num y hy; omega
        · exact b1
      · rcases mem y hy with hy | rfl
        · have := h.val y hy a ha; omega
        · exact hval a ha
  · exact h.mono (by omega) (by omega)
theorem stepT_len (p : Page) (t : Turn) : (stepT p t).length = p.length := by
  unfold stepT
  split
  · split
    · rfl
    · rw [List.length_set]
  · rfl
theorem doB_len : ∀ (l : List Turn) (p : Page), (doB p l).length = p.length
  | [], p => rfl
  | t :: r, p => by
    show (doB (stepT p t) r).length = _
    rw [doB_len r, stepT_len]
theorem doB_snoc {l : List Turn} {i : Nat} {t : Turn} (h : l[i]? = some t) (p : Page) : doB p (l.take (i + 1)) = stepT (doB p (l.take i)) t := by
  unfold doB; rw [take_snoc h, List.foldl_append]; rfl
theorem PgB.turns {c d : Nat} : ∀ (l : List Turn) {p : Page}, PgB c d p → c + l.length ≤ 1000000 → d + l.length * 101 ≤ 1000000 → (∀ t ∈ l, t.name.length ≤ 100 ∧ t.value.length ≤ 100) → PgB (c + l.length) (d + l.length * 101) (doB p l)
  | [], p, h, _, _, _ => by simpa [doB] using h
  | t :: r, p, h, h1, h2, h3 => by
    simp only [List.length_cons] at h1 h2 ⊢
    have hs := h.step (by omega) (by omega) (h3 t (by simp)).1 (h3 t (by simp)).2
    have := PgB.turns r hs (by omega) (by omega) fun x hx => h3 x (by simp [hx])
    show PgB _ _ (doB (stepT p t) r)
    exact this.mono (by omega) (by omega)
theorem cells_set {q : Page} {k : Nat} {y : Ty.Node} (hk : k < q.length) : List.take (k * 5) (cellsL q) ++ Enc.cells y ++ List.drop (k * 5 + 5) (cellsL q) = cellsL (q.set k y) := by
  have h1 : (cellsL q).take (k * 5) = cellsL (q.take k) := cellsL_take q k
  have h2 : (cellsL q).drop ((k + 1) * 5) = cellsL (q.drop (k + 1)) := cellsL_drop q (k + 1)
  have e : k * 5 + 5 = (k + 1) * 5 := by omega
  rw [e, h1, h2, List.set_eq_take_append_cons_drop, if_pos hk, cellsL_append]
  simp [cellsL]
theorem stepT_no {q : Page} {t : Turn} (h : elemB q t.node = false) : stepT q t = q := by
  unfold elemB at h
  unfold stepT
  split
  · rename_i x hx
    rw [hx] at h
    rw [if_pos (by simpa using h)]
  · rfl
set_option maxHeartbeats 1600000 in
theorem w_rDo (p : Page) {c d : Nat} (hp : PgB c d p) (l : List Turn) (hl : l.length ≤ 1000) (hc : c ≤ 1000) (hd : d ≤ 10000) (hok : ∀ t ∈ l, Enc.ok t) (ht : ∀ t ∈ l, t.name.length ≤ 100 ∧ t.value.length ≤ 100) :
    PureF Try.prog 18 [Enc.av p, Enc.av l] (Enc.av (doB p l)) := by
  refine pureF_W mix c18 (by kernel_rfl) (by kernel_rfl) (by simp [flats, flat_av, Go.AX.flat]) (by first | exact flat_av _ | simp [flat, flats, flat_av]) ?_
  have hpl := hp.len
  have hcp := nodes_len p
  have htp : List.take (p.length * 5) (cellsL p) = cellsL p := List.take_of_length_le (by omega)
  have hbd : (p.length * 88 ≤ 140737488355328) = True := eq_true (by omega)
  have start : ∀ (K : Prop), (p.length = 0 → K) → ((p.length = 0) = False → (1 ≤ p.length * 5) = True → K) → K := fun K h1 h2 => by
    by_cases h : p.length = 0
    · exact h1 h
    · exact h2 (eq_false h) (eq_true (by omega))
  refine start _ (fun h0 => ?_) (fun h0 h1 => ?_)
  · have hp0 : p = [] := List.eq_nil_of_length_eq_zero h0
    simp -implicitDefEqProofs only [F18, h0, hcp, htp, hbd, go_sem, Nat.reduceEqDiff, reduceCtorEq, ↓reduceIte]
    refine LoopI_sl (fun i : Nat => l.length - i) (fun i => [(1, Enc.av l), (5, .sl 0 (p.length * 5) 0 p.length 5), (6, .int .i64 i)])
      (fun i st => i ≤ l.length ∧ 1 ≤ st.next ∧ AX.look 0 st.heap = some (.cells (p.length * 5) (cellsL (doB p (l.take i))) false)) 0 ?_ ?_
    · simp -implicitDefEqProofs only [h0, hp0, go_sem, Nat.reduceEqDiff, ↓reduceIte]
      try rfl
    rintro i ρ ⟨g, m⟩ ⟨k1, k2, k3⟩
    dsimp only at k2 k3
    rcases Nat.lt_or_ge i l.length with hi | hi
    · obtain ⟨t, hx, hdr, hm⟩ := get_drop hi
      have hlt : ((i : Int) < (l.length : Int)) = True := eq_true (by omega)
      have w1 : IntKind.i64.wrap ((i : Int) + 1) = ((i + 1 : Nat) : Int) := by rw [wrap64 (by omega) (by omega)]; omega
      have hsn := doB_snoc hx p
      have hlk : (l.take i).length = i := by rw [List.length_take]; omega
      have hB := PgB.turns (l.take i) hp (by omega) (by omega) fun y hy => ht y (List.mem_of_mem_take hy)
      have hql := doB_len (l.take i) p
      rw [hlk] at hB
      generalize doB p (l.take i) = q at k3 hsn hB hql
      have hqp := hB.pg (by omega)
      have hcq := nodes_len q
      rw [hql] at hcq
      have hle : (p.length * 5 ≤ (cellsL q).length) = True := eq_true (by omega)
      have htq : List.take (p.length * 5) (cellsL q) = cellsL q := List.take_of_length_le (by omega)
      have hE := w_rElement q t.node
      rw [eav_L, hql] at hE
      simp -implicitDefEqProofs only [hlt, hx, k3, hle, htq, go_sem, Nat.reduceEqDiff, ↓reduceIte]
      refine callI_us hE rfl (by simp -implicitDefEqProofs only [k3, hle, htq, Option.map_some, go_sem, ↓reduceIte]) ?_
      cases he : elemB q t.node
      · simp -implicitDefEqProofs only [w1, go_sem, Nat.reduceEqDiff, ↓reduceIte]
        exact ⟨i + 1, by omega, rfl, by omega, k2, by rw [hsn, stepT_no he]; exact k3⟩
      obtain ⟨k, x, ek, hxk, hn⟩ := elem_at he
      have hkq := getElem_lt hxk
      have hxm := List.mem_of_getElem? hxk
      have hkl : (k < p.length) = True := eq_true (by omega)
      have hk5 : (k * 5 ≤ (cellsL q).length) = True := eq_true (by omega)
      have hk6 : (k * 5 + 5 ≤ (cellsL q).length) = True := eq_true (by omega)
      have hdk : List.drop (k * 5) (cellsL q) = .str x.name :: .ps x.attrs.length (cellsL x.attrs) :: .str x.text :: .int .i64 x.up :: .ps x.kids.length (cellsL x.kids) :: cellsL (q.drop (k + 1)) := by
        have h1 : (cellsL q).drop (k * 5) = cellsL (q.drop k) := cellsL_drop q k
        obtain ⟨y, hy, hd, _⟩ := get_drop hkq
        rw [hxk] at hy; cases hy
        rw [h1, hd]; rfl
      have m0 : (m = 0) = False := eq_false (by omega)
      have n0 : (0 = m) = False := eq_false (by omega)
      have i0 : (0 < m + 1) = True := eq_true (by omega)
      have hxn := hB.num x hxm
      have hA := w_rAttrsO q hqp t (hok t hm) (by have := (ht t hm).1; omega) ek hxk (by omega) (h := (m, .cells 0 [.str x.name, .ps x.attrs.length (cellsL x.attrs), .str x.text, .int .i64 x.up, .ps x.kids.length (cellsL x.kids)] false) :: g) (m := m + 1) (A := 0) (e := p.length * 5) (sn := false) (by simp only [AX.look]; rw [if_neg (by omega)]; exact k3) (by omega)
      rw [hql, Turn.eav, ek] at hA
      have hst : stepT q t = q.set k (withA x (attrsB q t x)) := by
        unfold stepT
        rw [ek, nodeAt_nat, hxk]
        simp only
        rw [if_neg hn, Int.toNat_natCast]
      simp -implicitDefEqProofs only [ek, hx, hkl, hk5, hk6, hdk, k3, m0, n0, i0, hle, htq, go_sem, Nat.reduceAdd, Nat.reduceEqDiff, Nat.reduceLeDiff, ↓reduceIte]
      refine callI_st hA ?_
      simp -implicitDefEqProofs only [ek, hx, hkl, hk5, hk6, hdk, k3, m0, n0, i0, hle, htq, go_sem, Nat.reduceAdd, Nat.reduceEqDiff, Nat.reduceLeDiff, ↓reduceIte]
      refine andI_intro (by (first | omega | (simp [indepB, indep1, apart1, Nat.testBit_eq_decide_div_mod_eq]; done) | (simp [indepB, indep1, apart1, Nat.testBit_eq_decide_div_mod_eq]; omega) | kernel_rfl)) ?_
      simp -implicitDefEqProofs only [ek, hx, hkl, hk5, hk6, hdk, k3, m0, n0, i0, w1, go_sem, Nat.reduceEqDiff, Nat.reduceLeDiff, ↓reduceIte]
      exact ⟨i + 1, by omega, rfl, by omega, by rw [hsn, hst, ← cells_set hkq]; rfl⟩
    · have hlt : ((i : Int) < (l.length : Int)) = False := eq_false (by omega)
      have htl : l.take i = l := List.take_of_length_le (by omega)
      rw [htl] at k3
      have hql := doB_len l p
      simp -implicitDefEqProofs only [hlt, go_sem, Nat.reduceEqDiff, ↓reduceIte]
      rw [viewIs_sl _ k3 (by rw [nodes_len, hql]; omega), List.take_of_length_le (by rw [nodes_len, hql]; omega), hql]
  · simp -implicitDefEqProofs only [F18, h0, h1, hcp, htp, hbd, go_sem, Nat.reduceEqDiff, reduceCtorEq, ↓reduceIte]
    refine LoopI_sl (fun i : Nat => l.length - i) (fun i => [(1, Enc.av l), (5, .sl 0 (p.length * 5) 0 p.length 5), (6, .int .i64 i)])
      (fun i st => i ≤ l.length ∧ 1 ≤ st.next ∧ AX.look 0 st.heap = some (.cells (p.length * 5) (cellsL (doB p (l.take i))) false)) 0 ?_ ?_
    · simp -implicitDefEqProofs only [go_sem, Nat.reduceEqDiff, ↓reduceIte]
      try rfl
    rintro i ρ ⟨g, m⟩ ⟨k1, k2, k3⟩
    dsimp only at k2 k3
    rcases Nat.lt_or_ge i l.length with hi | hi
    · obtain ⟨t, hx, hdr, hm⟩ := get_drop hi
      have hlt : ((i : Int) < (l.length : Int)) = True := eq_true (by omega)
      have w1 : IntKind.i64.wrap ((i : Int) + 1) = ((i + 1 : Nat) : Int) := by rw [wrap64 (by omega) (by omega)]; omega
      have hsn := doB_snoc hx p
      have hlk : (l.take i).length = i := by rw [List.length_take]; omega
      have hB := PgB.turns (l.take i) hp (by omega) (by omega) fun y hy => ht y (List.mem_of_mem_take hy)
      have hql := doB_len (l.take i) p
      rw [hlk] at hB
      generalize doB p (l.take i) = q at k3 hsn hB hql
      have hqp := hB.pg (by omega)
      have hcq := nodes_len q
      rw [hql] at hcq
      have hle : (p.length * 5 ≤ (cellsL q).length) = True := eq_true (by omega)
      have htq : List.take (p.length * 5) (cellsL q) = cellsL q := List.take_of_length_le (by omega)
      have hE := w_rElement q t.node
      rw [eav_L, hql] at hE
      simp -implicitDefEqProofs only [hlt, hx, k3, hle, htq, go_sem, Nat.reduceEqDiff, ↓reduceIte]
      refine callI_us hE rfl (by simp -implicitDefEqProofs only [k3, hle, htq, Option.map_some, go_sem, ↓reduceIte]) ?_
      cases he : elemB q t.node
      · simp -implicitDefEqProofs only [w1, go_sem, Nat.reduceEqDiff, ↓reduceIte]
        exact ⟨i + 1, by omega, rfl, by omega, k2, by rw [hsn, stepT_no he]; exact k3⟩
      obtain ⟨k, x, ek, hxk, hn⟩ := elem_at he
      have hkq := getElem_lt hxk
      have hxm := List.mem_of_getElem? hxk
      have hkl : (k < p.length) = True := eq_true (by omega)
      have hk5 : (k * 5 ≤ (cellsL q).length) = True := eq_true (by omega)
      have hk6 : (k * 5 + 5 ≤ (cellsL q).length) = True := eq_true (by omega)
      have hdk : List.drop (k * 5) (cellsL q) = .str x.name :: .ps x.attrs.length (cellsL x.attrs) :: .str x.text :: .int .i64 x.up :: .ps x.kids.length (cellsL x.kids) :: cellsL (q.drop (k + 1)) := by
        have h1 : (cellsL q).drop (k * 5) = cellsL (q.drop k) := cellsL_drop q k
        obtain ⟨y, hy, hd, _⟩ := get_drop hkq
        rw [hxk] at hy; cases hy
        rw [h1, hd]; rfl
      have m0 : (m = 0) = False := eq_false (by omega)
      have n0 : (0 = m) = False := eq_false (by omega)
      have i0 : (0 < m + 1) = True := eq_true (by omega)
      have hxn := hB.num x hxm
      have hA := w_rAttrsO q hqp t (hok t hm) (by have := (ht t hm).1; omega) ek hxk (by omega) (h := (m, .cells 0 [.str x.name, .ps x.attrs.length (cellsL x.attrs), .str x.text, .int .i64 x.up, .ps x.kids.length (cellsL x.kids)] false) :: g) (m := m + 1) (A := 0) (e := p.length * 5) (sn := false) (by simp only [AX.look]; rw [if_neg (by omega)]; exact k3) (by omega)
      rw [hql, Turn.eav, ek] at hA
      have hst : stepT q t = q.set k (withA x (attrsB q t x)) := by
        unfold stepT
        rw [ek, nodeAt_nat, hxk]
        simp only
        rw [if_neg hn, Int.toNat_natCast]
      simp -implicitDefEqProofs only [ek, hx, hkl, hk5, hk6, hdk, k3, m0, n0, i0, hle, htq, go_sem, Nat.reduceAdd, Nat.reduceEqDiff, Nat.reduceLeDiff, ↓reduceIte]
      refine callI_st hA ?_
      simp -implicitDefEqProofs only [ek, hx, hkl, hk5, hk6, hdk, k3, m0, n0, i0, hle, htq, go_sem, Nat.reduceAdd, Nat.reduceEqDiff, Nat.reduceLeDiff, ↓reduceIte]
      refine andI_intro (by (first | omega | (simp [indepB, indep1, apart1, Nat.testBit_eq_decide_div_mod_eq]; done) | (simp [indepB, indep1, apart1, Nat.testBit_eq_decide_div_mod_eq]; omega) | kernel_rfl)) ?_
      simp -implicitDefEqProofs only [ek, hx, hkl, hk5, hk6, hdk, k3, m0, n0, i0, w1, go_sem, Nat.reduceEqDiff, Nat.reduceLeDiff, ↓reduceIte]
      exact ⟨i + 1, by omega, rfl, by omega, by rw [hsn, hst, ← cells_set hkq]; rfl⟩
    · have hlt : ((i : Int) < (l.length : Int)) = False := eq_false (by omega)
      have htl : l.take i = l := List.take_of_length_le (by omega)
      rw [htl] at k3
      have hql := doB_len l p
      simp -implicitDefEqProofs only [hlt, go_sem, Nat.reduceEqDiff, ↓reduceIte]
      rw [viewIs_sl _ k3 (by rw [nodes_len, hql]; omega), List.take_of_length_le (by rw [nodes_len, hql]; omega), hql]
theorem w_rAllT (s : Safe) (hs : Enc.ok s) (p : Page) {c d : Nat} (hp : PgB c d p) (l : List Turn) (hl : l.length ≤ 1000) (hc : c ≤ 1000) (hd : d ≤ 10000) (hok : ∀ t ∈ l, Enc.ok t) (ht : ∀ t ∈ l, t.name.length ≤ 100 ∧ t.value.length ≤ 100) :
    PureF Try.prog 15 [Enc.av s, Enc.av p, Enc.av l] (.tup [Enc.av (if l.all (mayT s p) = true then doB p l else p), .bool (l.all (mayT s p))]) := by
  refine pureF_W mix c15 (by kernel_rfl) (by kernel_rfl) (by simp [flats, flat_av, Go.AX.flat]) (by simp [flat, flats, flat_av]) ?_
  simp -implicitDefEqProofs only [F15, go_sem]
  refine LoopI_sl (fun i : Nat => l.length - i) (fun i => [(1, Enc.av p), (2, Enc.av l), (3, .ptr 0 0 0), (8, .int .i64 i)])
    (fun i st => i ≤ l.length ∧ Pre (fun t => !mayT s p t) l i ∧ st = ⟨[(0, .cells 0 [.ps s.classes.length (cellsL s.classes), .ps s.attrs.length (cellsL s.attrs)] false)], 1⟩) 0 ?_ ?_
  · simp -implicitDefEqProofs only [go_sem, Nat.reduceEqDiff, ↓reduceIte]
    exact Pre.zero _ _
  rintro i ρ st ⟨h1, h2, rfl⟩
  rcases Nat.lt_or_ge i l.length with hi | hi
  · obtain ⟨t, hx, hdr, hm⟩ := get_drop hi
    have hlt : ((i : Int) < (l.length : Int)) = True := eq_true (by omega)
    have w1 : IntKind.i64.wrap ((i : Int) + 1) = ((i + 1 : Nat) : Int) := by rw [wrap64 (by omega) (by omega)]; omega
    have hmay := w_rMay s hs p t (hok t hm)
    rw [Safe.eav, Turn.eav] at hmay
    simp -implicitDefEqProofs only [hlt, hx, go_sem, Nat.reduceAdd, Nat.reduceEqDiff, Nat.reduceLeDiff, ↓reduceIte]
    refine dcallI_pure hmay ?_
    simp -implicitDefEqProofs only [hlt, hx, go_sem, ↓reduceIte]
    refine andI_intro (by kernel_rfl) ?_
    cases hmt : mayT s p t
    · have hall : l.all (mayT s p) = false := by
        rw [← Bool.not_eq_true, List.all_eq_true]; intro h; rw [h t hm] at hmt; simp at hmt
      rw [hall]
      simp -implicitDefEqProofs only [go_sem, Nat.reduceEqDiff, ↓reduceIte]
      try rfl
    · simp -implicitDefEqProofs only [w1, go_sem, Nat.reduceEqDiff, ↓reduceIte]
      exact ⟨i + 1, by omega, rfl, by omega, h2.next hx (by simp [hmt])⟩
  · have hlt : ((i : Int) < (l.length : Int)) = False := eq_false (by omega)
    have hall : l.all (mayT s p) = true := by
      rw [List.all_eq_true]; intro t ht'; have := h2.all hi t ht'; simpa using this
    rw [hall, if_pos rfl]
    simp -implicitDefEqProofs only [hlt, go_sem, Nat.reduceEqDiff, ↓reduceIte]
    refine callI_pure (w_rDo p hp l hl hc hd hok ht) ?_
    simp -implicitDefEqProofs only [go_sem, Nat.reduceEqDiff, ↓reduceIte]
    try rfl
end W11
/- Guards. -/
set_option linter.unusedSimpArgs false
set_option linter.unusedVariables false
namespace W11
open Go Go.AX Go.AX.Ty Go.Proofs

theorem strs_len (l : List Str) : (cellsL l).length = l.length := by rw [cellsL_len]; simp [Enc.sz]
theorem strs_drop {l : List Str} {k : Nat} {x : Str} (h : l[k]? = some x) : List.drop k (cellsL l) = AV.str x :: List.drop (k + 1) (cellsL l) := by
  have h1 : (cellsL l).drop (k * 1) = cellsL (l.drop k) := cellsL_drop l k
  have h2 : (cellsL l).drop ((k + 1) * 1) = cellsL (l.drop (k + 1)) := cellsL_drop l (k + 1)
  rw [Nat.mul_one] at h1 h2
  obtain ⟨y, hy, hd, _⟩ := get_drop (getElem_lt h)
  rw [h] at hy; cases hy
  rw [h1, h2, hd]; rfl
def fewS (s : Safe) : Bool := decide ((s.classes ++ s.attrs).length ≤ 20) && !(s.classes ++ s.attrs).any fun v => decide ((v.length : Int) > 100)
theorem w_rFew (s : Safe) (hs : Enc.ok s) (hb1 : s.classes.length ≤ 1048576) (hb2 : s.attrs.length ≤ 1048576) : PureF Try.prog 10 [Enc.av s] (.bool (fewS s)) := by
  refine pureF_W mix c10 (by kernel_rfl) (by kernel_rfl) (by simp [flats, flat_av, Go.AX.flat]) (by first | exact flat_av _ | simp [flat, flats, flat_av]) ?_
  have hs' := (Safe.ok_iff s).1 hs
  have c1 : (cellsL s.classes).length = s.classes.length := strs_len _
  have c2 : (cellsL s.attrs).length = s.attrs.length := strs_len _
  have t1 : List.take s.classes.length (cellsL s.classes) = cellsL s.classes := List.take_of_length_le (by omega)
  have b1 : (s.classes.length * 16 ≤ 140737488355328) = True := eq_true (by omega)
  have b2 : (s.attrs.length * 16 ≤ 140737488355328) = True := eq_true (by omega)
  have b3 : ((s.classes.length + s.attrs.length) * 16 ≤ 140737488355328) = True := eq_true (by omega)
  have hll : (s.classes ++ s.attrs).length = s.classes.length + s.attrs.length := List.length_append
  have hcl : cellsL (s.classes ++ s.attrs) = cellsL s.classes ++ cellsL s.attrs := cellsL_append _ _
  generalize hl : s.classes ++ s.attrs = l at hll hcl
  unfold fewS
  rw [hl]
  by_cases h1 : s.classes.length = 0
  · have e1 : cellsL s.classes = [] := List.eq_nil_of_length_eq_zero (by omega)
    by_cases h2 : s.attrs.length = 0
    · have e2 : cellsL s.attrs = [] := List.eq_nil_of_length_eq_zero (by omega)
      simp -implicitDefEqProofs only [F10, h1, h2, e1, e2, go_sem, Nat.reduceAdd, Nat.reduceEqDiff, Nat.reduceLeDiff, reduceCtorEq, ↓reduceIte]
      refine andI_intro (by kernel_rfl) ?_
      have hL : l = [] := List.eq_nil_of_length_eq_zero (by omega)
      subst hL
      simp -implicitDefEqProofs only [go_sem]
      rw [LoopI_def]
      refine ⟨1, ?_⟩
      simp -implicitDefEqProofs only [go_sem, Int.reduceLE, Int.reduceLT, Nat.reduceEqDiff, ↓reduceIte]
      simp
    · have h2z := eq_false h2
      have m2 : (1 ≤ s.attrs.length) = True := eq_true (by omega)
      simp -implicitDefEqProofs only [F10, h1, e1, h2z, c2, b2, m2, go_sem, Nat.reduceAdd, Nat.reduceEqDiff, Nat.reduceLeDiff, reduceCtorEq, ↓reduceIte]
      refine andI_intro (by kernel_rfl) ?_
      have hL : s.attrs.length = l.length := by omega
      have hC : cellsL s.attrs = cellsL l := by rw [hcl]; rw [e1]; rfl
      simp -implicitDefEqProofs only [go_sem]
      rw [hL, hC]
      by_cases hbig : l.length ≤ 20
      case neg =>
        have hb : ((l.length : Int) ≤ 20) = False := eq_false (by omega)
        rw [LoopI_def]
        refine ⟨1, ?_⟩
        have h0 : ((0 : Int) < (l.length : Int)) = True := eq_true (by omega)
        simp -implicitDefEqProofs only [hb, h0, go_sem, Nat.reduceEqDiff, ↓reduceIte]
        simp [hbig]
      have hb : ((l.length : Int) ≤ 20) = True := eq_true (by omega)
      refine LoopI_sl (fun k : Nat => l.length - k) (fun k => [(3, .sl 1 l.length 0 l.length 1), (4, .int .i64 k)]) (fun k st => k ≤ l.length ∧ 2 ≤ st.next ∧ Pre (fun v : Str => decide ((v.length : Int) > 100)) l k ∧ AX.look 1 st.heap = some (.cells l.length (cellsL l) false)) 0 ?_ ?_
      · simp -implicitDefEqProofs only [go_sem, Nat.reduceEqDiff, ↓reduceIte]
        exact Pre.zero _ _
      rintro k ρ ⟨g, m⟩ ⟨g1, g2, g3, g4⟩
      dsimp only at g2 g4
      rcases Nat.lt_or_ge k l.length with hk | hk
      · obtain ⟨x, hx, hd, hm⟩ := get_drop hk
        have hlt : ((k : Int) < (l.length : Int)) = True := eq_true (by omega)
        have hlt2 : (k < l.length) = True := eq_true (by omega)
        have w1 : IntKind.i64.wrap ((k : Int) + 1) = ((k + 1 : Nat) : Int) := by rw [wrap64 (by omega) (by omega)]; omega
        have hgx : List.drop k (cellsL l) = AV.str x :: List.drop (k + 1) (cellsL l) := strs_drop hx
        have hkl : (k ≤ (cellsL l).length) = True := eq_true (by rw [strs_len]; omega)
        simp -implicitDefEqProofs only [hlt, hlt2, hb, hx, g4, hgx, hkl, go_sem, Nat.reduceEqDiff, ↓reduceIte]
        (refine brI_both (fun h hT => ?_) (fun h hT => ?_) <;> try simp -implicitDefEqProofs only [hT, w1, go_sem, Nat.reduceEqDiff, ↓reduceIte] <;> try clear hT)
        · rw [any_here hm (by simpa using h)]; simp
        · exact ⟨k + 1, by omega, rfl, by omega, g2, g3.next hx (by simpa using h), g4⟩
      · have hlt : ((k : Int) < (l.length : Int)) = False := eq_false (by omega)
        simp -implicitDefEqProofs only [hlt, hb, go_sem, Nat.reduceEqDiff, ↓reduceIte]
        rw [any_no (g3.all hk)]; simp [hbig]
  · have h1z := eq_false h1
    have m1 : (1 ≤ s.classes.length) = True := eq_true (by omega)
    by_cases h2 : s.attrs.length = 0
    · have e2 : cellsL s.attrs = [] := List.eq_nil_of_length_eq_zero (by omega)
      simp -implicitDefEqProofs only [F10, h1z, h2, e2, c1, b1, m1, go_sem, Nat.reduceAdd, Nat.reduceEqDiff, Nat.reduceLeDiff, reduceCtorEq, ↓reduceIte]
      refine andI_intro (by kernel_rfl) ?_
      have hL : s.classes.length = l.length := by omega
      have hC : cellsL s.classes = cellsL l := by rw [hcl]; rw [e2, List.append_nil]
      simp -implicitDefEqProofs only [go_sem]
      rw [hL, hC]
      by_cases hbig : l.length ≤ 20
      case neg =>
        have hb : ((l.length : Int) ≤ 20) = False := eq_false (by omega)
        rw [LoopI_def]
        refine ⟨1, ?_⟩
        have h0 : ((0 : Int) < (l.length : Int)) = True := eq_true (by omega)
        simp -implicitDefEqProofs only [hb, h0, go_sem, Nat.reduceEqDiff, ↓reduceIte]
        simp [hbig]
      have hb : ((l.length : Int) ≤ 20) = True := eq_true (by omega)
      refine LoopI_sl (fun k : Nat => l.length - k) (fun k => [(3, .sl 1 l.length 0 l.length 1), (4, .int .i64 k)]) (fun k st => k ≤ l.length ∧ 2 ≤ st.next ∧ Pre (fun v : Str => decide ((v.length : Int) > 100)) l k ∧ AX.look 1 st.heap = some (.cells l.length (cellsL l) false)) 0 ?_ ?_
      · simp -implicitDefEqProofs only [go_sem, Nat.reduceEqDiff, ↓reduceIte]
        exact Pre.zero _ _
      rintro k ρ ⟨g, m⟩ ⟨g1, g2, g3, g4⟩
      dsimp only at g2 g4
      rcases Nat.lt_or_ge k l.length with hk | hk
      · obtain ⟨x, hx, hd, hm⟩ := get_drop hk
        have hlt : ((k : Int) < (l.length : Int)) = True := eq_true (by omega)
        have hlt2 : (k < l.length) = True := eq_true (by omega)
        have w1 : IntKind.i64.wrap ((k : Int) + 1) = ((k + 1 : Nat) : Int) := by rw [wrap64 (by omega) (by omega)]; omega
        have hgx : List.drop k (cellsL l) = AV.str x :: List.drop (k + 1) (cellsL l) := strs_drop hx
        have hkl : (k ≤ (cellsL l).length) = True := eq_true (by rw [strs_len]; omega)
        simp -implicitDefEqProofs only [hlt, hlt2, hb, hx, g4, hgx, hkl, go_sem, Nat.reduceEqDiff, ↓reduceIte]
        (refine brI_both (fun h hT => ?_) (fun h hT => ?_) <;> try simp -implicitDefEqProofs only [hT, w1, go_sem, Nat.reduceEqDiff, ↓reduceIte] <;> try clear hT)
        · rw [any_here hm (by simpa using h)]; simp
        · exact ⟨k + 1, by omega, rfl, by omega, g2, g3.next hx (by simpa using h), g4⟩
      · have hlt : ((k : Int) < (l.length : Int)) = False := eq_false (by omega)
        simp -implicitDefEqProofs only [hlt, hb, go_sem, Nat.reduceEqDiff, ↓reduceIte]
        rw [any_no (g3.all hk)]; simp [hbig]
    · have h2z := eq_false h2
      have m3 : (s.classes.length + 1 ≤ s.classes.length + s.attrs.length) = True := eq_true (by omega)
      simp -implicitDefEqProofs only [F10, h1z, h2z, c1, c2, t1, b1, b2, b3, m1, m3, go_sem, Nat.reduceAdd, Nat.reduceEqDiff, Nat.reduceLeDiff, reduceCtorEq, ↓reduceIte]
      refine andI_intro (by kernel_rfl) ?_
      have hL : s.classes.length + s.attrs.length = l.length := by omega
      have hC : cellsL s.classes ++ cellsL s.attrs = cellsL l := by rw [hcl]
      simp -implicitDefEqProofs only [go_sem]
      rw [hL, hC]
      by_cases hbig : l.length ≤ 20
      case neg =>
        have hb : ((l.length : Int) ≤ 20) = False := eq_false (by omega)
        rw [LoopI_def]
        refine ⟨1, ?_⟩
        have h0 : ((0 : Int) < (l.length : Int)) = True := eq_true (by omega)
        simp -implicitDefEqProofs only [hb, h0, go_sem, Nat.reduceEqDiff, ↓reduceIte]
        simp [hbig]
      have hb : ((l.length : Int) ≤ 20) = True := eq_true (by omega)
      refine LoopI_sl (fun k : Nat => l.length - k) (fun k => [(3, .sl 1 l.length 0 l.length 1), (4, .int .i64 k)]) (fun k st => k ≤ l.length ∧ 2 ≤ st.next ∧ Pre (fun v : Str => decide ((v.length : Int) > 100)) l k ∧ AX.look 1 st.heap = some (.cells l.length (cellsL l) false)) 0 ?_ ?_
      · simp -implicitDefEqProofs only [go_sem, Nat.reduceEqDiff, ↓reduceIte]
        exact Pre.zero _ _
      rintro k ρ ⟨g, m⟩ ⟨g1, g2, g3, g4⟩
      dsimp only at g2 g4
      rcases Nat.lt_or_ge k l.length with hk | hk
      · obtain ⟨x, hx, hd, hm⟩ := get_drop hk
        have hlt : ((k : Int) < (l.length : Int)) = True := eq_true (by omega)
        have hlt2 : (k < l.length) = True := eq_true (by omega)
        have w1 : IntKind.i64.wrap ((k : Int) + 1) = ((k + 1 : Nat) : Int) := by rw [wrap64 (by omega) (by omega)]; omega
        have hgx : List.drop k (cellsL l) = AV.str x :: List.drop (k + 1) (cellsL l) := strs_drop hx
        have hkl : (k ≤ (cellsL l).length) = True := eq_true (by rw [strs_len]; omega)
        simp -implicitDefEqProofs only [hlt, hlt2, hb, hx, g4, hgx, hkl, go_sem, Nat.reduceEqDiff, ↓reduceIte]
        (refine brI_both (fun h hT => ?_) (fun h hT => ?_) <;> try simp -implicitDefEqProofs only [hT, w1, go_sem, Nat.reduceEqDiff, ↓reduceIte] <;> try clear hT)
        · rw [any_here hm (by simpa using h)]; simp
        · exact ⟨k + 1, by omega, rfl, by omega, g2, g3.next hx (by simpa using h), g4⟩
      · have hlt : ((k : Int) < (l.length : Int)) = False := eq_false (by omega)
        simp -implicitDefEqProofs only [hlt, hb, go_sem, Nat.reduceEqDiff, ↓reduceIte]
        rw [any_no (g3.all hk)]; simp [hbig]
end W11
/- What turns do, plainly. -/
set_option linter.unusedSimpArgs false
set_option linter.unusedVariables false
namespace W11
open Go Go.AX Go.AX.Ty Go.Proofs

def clsOf (l : List Ty.Attr) : List Str := wordsB (getA l sClass).1
def attrsN (l : List Ty.Attr) (t : Turn) : List Ty.Attr :=
  if t.kind = 1 then (if inB (clsOf l) t.name = true then l else if (getA l sClass).1 = [] then setA l sClass t.name else setA l sClass ((getA l sClass).1 ++ [32] ++ t.name))
  else if t.kind = 2 then (if inB (clsOf l) t.name = true then setA l sClass (withoutB (clsOf l) t.name) else l)
  else if t.kind = 3 then setA l t.name t.value
  else if t.kind = 4 then l.filter (fun a => !(a.name == t.name))
  else l
theorem classesB_of {q : Page} {n : Int} {x : Ty.Node} (hx : nodeAt q n = some x) (hn : ¬ x.name = []) : classesB q n = clsOf x.attrs := by
  unfold classesB clsOf; rw [attrB_of hx hn]
theorem attrsB_N {q : Page} {t : Turn} {x : Ty.Node} (hx : nodeAt q t.node = some x) (hn : ¬ x.name = []) : attrsB q t x = attrsN x.attrs t := by
  unfold attrsB attrsN; rw [classesB_of hx hn, attrB_of hx hn]
theorem stepT_elem {q : Page} {t : Turn} {x : Ty.Node} (hx : nodeAt q t.node = some x) (hn : ¬ x.name = []) : stepT q t = q.set t.node.toNat (withA x (attrsN x.attrs t)) := by
  unfold stepT; rw [hx]; simp only; rw [if_neg hn, attrsB_N hx hn]
theorem elem_node {q : Page} {n : Int} (h : elemB q n = true) : ∃ x, nodeAt q n = some x ∧ ¬ x.name = [] := by
  unfold elemB at h
  split at h
  · rename_i x hx; exact ⟨x, hx, by simpa using h⟩
  · simp at h
theorem node_step {q : Page} {t : Turn} {x : Ty.Node} (hx : nodeAt q t.node = some x) (hn : ¬ x.name = []) (m : Int) : nodeAt (stepT q t) m = if m = t.node then some (withA x (attrsN x.attrs t)) else nodeAt q m := by
  rw [stepT_elem hx hn, nodeAt_set hx]
theorem step_same (q : Page) (t : Turn) : SameBut q (stepT q t) := by
  cases h : elemB q t.node
  · rw [stepT_no h]; rfl
  · obtain ⟨x, hx, hn⟩ := elem_node h
    rw [stepT_elem hx hn]; exact set_same hx hn
theorem setA_setA (l : List Ty.Attr) (n v w : Str) : setA (setA l n v) n w = setA l n w := by
  induction l with
  | nil => simp [setA]
  | cons a r ih =>
    simp only [setA]
    split
    · rename_i e; simp [setA, e]
    · rename_i e; simp [setA, e, ih]
theorem inB_mem {l : List Str} {s : Str} : inB l s = true ↔ s ∈ l := by
  unfold inB; simp
theorem cls_set (l : List Ty.Attr) (v : Str) : clsOf (setA l sClass v) = wordsB v := by unfold clsOf; rw [getA_set_same]
theorem cls_drop {l : List Ty.Attr} {t : Turn} (h : t.kind = 2) : clsOf (attrsN l t) = (clsOf l).filter fun x => !(x == t.name) := by
  have h1 : ¬ t.kind = 1 := by omega
  unfold attrsN
  rw [if_neg h1, if_pos h]
  split
  · rw [cls_set]; exact words_without _ _
  · rename_i e
    symm
    rw [List.filter_eq_self]
    intro x hx
    have : ¬ x = t.name := fun e2 => e (inB_mem.2 (e2 ▸ hx))
    simpa using this
theorem cls_add {l : List Ty.Attr} {t : Turn} (h : t.kind = 1) (hp : wordsB t.name = [t.name]) : clsOf (attrsN l t) = if inB (clsOf l) t.name = true then clsOf l else clsOf l ++ [t.name] := by
  have hp' := (words_self t.name).1 hp
  unfold attrsN
  rw [if_pos h]
  split
  · rfl
  · split
    · rename_i e
      rw [cls_set, hp]
      unfold clsOf; rw [e]; rfl
    · rw [cls_set, words_snoc hp'.1 hp'.2]; rfl
theorem attrsN_twice {l : List Ty.Attr} {t : Turn} (h : t.kind ≠ 1 ∨ wordsB t.name = [t.name]) : attrsN (attrsN l t) t = attrsN l t := by
  by_cases k1 : t.kind = 1
  · have hw : wordsB t.name = [t.name] := h.resolve_left (fun e => e k1)
    have := cls_add (l := l) k1 hw
    have hin : inB (clsOf (attrsN l t)) t.name = true := by
      rw [this]; split
      · assumption
      · rw [inB_mem]; simp
    generalize attrsN l t = m at hin
    unfold attrsN
    rw [if_pos k1, if_pos hin]
  by_cases k2 : t.kind = 2
  · have := cls_drop (l := l) k2
    have hin : ¬ inB (clsOf (attrsN l t)) t.name = true := by
      rw [this, inB_mem]; simp
    generalize attrsN l t = m at hin
    unfold attrsN
    rw [if_neg k1, if_pos k2, if_neg hin]
  by_cases k3 : t.kind = 3
  · unfold attrsN
    simp only [if_neg k1, if_neg k2, if_pos k3, setA_setA]
  by_cases k4 : t.kind = 4
  · unfold attrsN
    simp only [if_neg k1, if_neg k2, if_neg k3, if_pos k4, List.filter_filter, Bool.and_self]
  · unfold attrsN
    simp only [if_neg k1, if_neg k2, if_neg k3, if_neg k4]
theorem step_twice {p : Page} {t : Turn} (h : t.kind ≠ 1 ∨ wordsB t.name = [t.name]) : stepT (stepT p t) t = stepT p t := by
  cases he : elemB p t.node
  · rw [stepT_no he, stepT_no he]
  · obtain ⟨x, hx, hn⟩ := elem_node he
    have h1 : nodeAt (stepT p t) t.node = some (withA x (attrsN x.attrs t)) := by rw [node_step hx hn, if_pos rfl]
    rw [stepT_elem h1 (by exact hn)]
    rw [stepT_elem hx hn]
    rw [List.set_set]
    have : (withA (withA x (attrsN x.attrs t)) (attrsN (withA x (attrsN x.attrs t)).attrs t)) = withA x (attrsN x.attrs t) := by
      show withA x (attrsN (attrsN x.attrs t) t) = _
      rw [attrsN_twice h]
    rw [this]

/- classes behind a turn -/
theorem cls_step {p : Page} {t : Turn} (he : elemB p t.node = true) (h : t.kind = 1 ∨ t.kind = 2) (hw : wordsB t.name = [t.name]) :
    classesB (stepT p t) t.node = if t.kind = 1 then (if inB (classesB p t.node) t.name = true then classesB p t.node else classesB p t.node ++ [t.name]) else (classesB p t.node).filter fun x => !(x == t.name) := by
  obtain ⟨x, hx, hn⟩ := elem_node he
  have h1 : nodeAt (stepT p t) t.node = some (withA x (attrsN x.attrs t)) := by rw [node_step hx hn, if_pos rfl]
  rw [classesB_of h1 (by exact hn), classesB_of hx hn]
  show clsOf (attrsN x.attrs t) = _
  rcases h with k1 | k2
  · rw [if_pos k1, cls_add k1 hw]
  · rw [if_neg (by omega), cls_drop k2]
theorem keep_in {p : Page} {t : Turn} (he : elemB p t.node = true) (h : t.kind = 1 ∨ t.kind = 2) (hw : wordsB t.name = [t.name]) : inB (classesB (stepT p t) t.node) t.name = decide (t.kind = 1) := by
  rw [cls_step he h hw, Bool.eq_iff_iff, inB_mem, decide_eq_true_eq]
  split
  · rename_i k
    split
    · rename_i e; exact ⟨fun _ => k, fun _ => inB_mem.1 e⟩
    · exact ⟨fun _ => k, fun _ => by simp⟩
  · rename_i k
    exact ⟨fun h' => by simp at h', fun h' => (k h').elim⟩
theorem keep_other {p : Page} {t : Turn} (he : elemB p t.node = true) (h : t.kind = 1 ∨ t.kind = 2) (hw : wordsB t.name = [t.name]) {o : Str} (ho : ¬ o = t.name) : inB (classesB p t.node) o = inB (classesB (stepT p t) t.node) o := by
  rw [cls_step he h hw, Bool.eq_iff_iff, inB_mem, inB_mem]
  split
  · split
    · rfl
    · simp [ho]
  · simp [ho]
/- attributes behind a turn -/
theorem attr_step {p : Page} {t : Turn} (he : elemB p t.node = true) (v : Str) : ∃ l : List Ty.Attr, attrB p t.node v = getA l v ∧ attrB (stepT p t) t.node v = getA (attrsN l t) v := by
  obtain ⟨x, hx, hn⟩ := elem_node he
  have h1 : nodeAt (stepT p t) t.node = some (withA x (attrsN x.attrs t)) := by rw [node_step hx hn, if_pos rfl]
  exact ⟨x.attrs, attrB_of hx hn v, attrB_of h1 (by exact hn) v⟩
theorem getA_no {l : List Ty.Attr} {n : Str} (h : ∀ a ∈ l, ¬ a.name = n) : getA l n = ([], false) := by
  unfold getA
  have : l.find? (fun a => a.name == n) = none := by rw [List.find?_eq_none]; intro a ha; simpa using h a ha
  rw [this]
theorem keep_set {p : Page} {t : Turn} (he : elemB p t.node = true) (h : t.kind = 3) : attrB (stepT p t) t.node t.name = (t.value, true) := by
  obtain ⟨l, _, h2⟩ := attr_step he t.name
  rw [h2]; unfold attrsN
  rw [if_neg (by omega), if_neg (by omega), if_pos h, getA_set_same]
theorem keep_unset {p : Page} {t : Turn} (he : elemB p t.node = true) (h : t.kind = 4) : (attrB (stepT p t) t.node t.name).2 = false := by
  obtain ⟨l, _, h2⟩ := attr_step he t.name
  rw [h2]; unfold attrsN
  rw [if_neg (by omega), if_neg (by omega), if_neg (by omega), if_pos h, getA_no]
  intro a ha
  simp at ha
  exact ha.2
theorem keep_attr {p : Page} {t : Turn} (he : elemB p t.node = true) (h : ¬ (t.kind = 1 ∨ t.kind = 2)) {o : Str} (ho : ¬ o = t.name) : attrB (stepT p t) t.node o = attrB p t.node o := by
  obtain ⟨l, h1, h2⟩ := attr_step he o
  rw [h1, h2]; unfold attrsN
  rw [if_neg (by omega), if_neg (by omega)]
  split
  · exact getA_set_other (Ne.symm ho)
  · split
    · exact getA_filter_other (Ne.symm ho)
    · rfl

/- two turns -/
theorem elem_step {p : Page} {t : Turn} (n : Int) : elemB (stepT p t) n = elemB p n := by rw [(step_same p t).elem]
theorem apart_two {p : Page} {a b : Turn} (hab : ¬ a.node = b.node) : stepT (stepT p a) b = stepT (stepT p b) a := by
  cases ha : elemB p a.node
  · rw [stepT_no ha, stepT_no (t := a) (by rw [elem_step]; exact ha)]
  cases hb : elemB p b.node
  · rw [stepT_no hb, stepT_no (t := b) (by rw [elem_step]; exact hb)]
  obtain ⟨x, hx, hxn⟩ := elem_node ha
  obtain ⟨y, hy, hyn⟩ := elem_node hb
  have hy' : nodeAt (stepT p a) b.node = some y := by rw [node_step hx hxn, if_neg (Ne.symm hab)]; exact hy
  have hx' : nodeAt (stepT p b) a.node = some x := by rw [node_step hy hyn, if_neg hab]; exact hx
  rw [stepT_elem hy' hyn, stepT_elem hx' hxn, stepT_elem hx hxn, stepT_elem hy hyn]
  have h0 : ∀ {n : Int} {z : Ty.Node}, nodeAt p n = some z → 0 ≤ n := fun {n z} h => by
    unfold nodeAt at h
    split at h
    · assumption
    · simp at h
  have h1 := h0 hx
  have h2 := h0 hy
  exact List.set_comm _ _ (by omega)
def clsT (C : List Str) (t : Turn) : List Str := if t.kind = 1 then (if inB C t.name = true then C else C ++ [t.name]) else C.filter fun x => !(x == t.name)
theorem clsT_mem {C : List Str} {t : Turn} {x : Str} : x ∈ clsT C t ↔ if t.kind = 1 then x ∈ C ∨ x = t.name else x ∈ C ∧ ¬ x = t.name := by
  unfold clsT
  split
  · split
    · rename_i e
      exact ⟨.inl, fun h => h.elim id fun e2 => e2 ▸ inB_mem.1 e⟩
    · simp
  · simp
theorem clsT_two {C : List Str} {a b : Turn} (hab : ¬ a.name = b.name) : (∀ x, x ∈ clsT (clsT C a) b → x ∈ clsT (clsT C b) a) ∧ (clsT (clsT C a) b).length = (clsT (clsT C b) a).length := by
  refine ⟨fun x hx => ?_, ?_⟩
  · rw [clsT_mem, clsT_mem] at hx ⊢
    by_cases ka : a.kind = 1
    · by_cases kb : b.kind = 1
      · simp only [ka, kb, if_true] at hx ⊢
        rcases hx with (h | h) | h
        · exact .inl (.inl h)
        · exact .inr h
        · exact .inl (.inr h)
      · simp only [ka, kb, if_true, if_false] at hx ⊢
        rcases hx with ⟨h | h, h2⟩
        · exact .inl ⟨h, h2⟩
        · exact .inr h
    · by_cases kb : b.kind = 1
      · simp only [ka, kb, if_true, if_false] at hx ⊢
        rcases hx with ⟨h, h2⟩ | h
        · exact ⟨.inl h, h2⟩
        · exact ⟨.inr h, fun e => hab (e.symm.trans h)⟩
      · simp only [ka, kb, if_false] at hx ⊢
        exact ⟨⟨hx.1.1, hx.2⟩, hx.1.2⟩
  · have hin : ∀ {t u : Turn}, ¬ t.name = u.name → inB (clsT C u) t.name = inB C t.name := fun {t u} h => by
      rw [Bool.eq_iff_iff, inB_mem, inB_mem, clsT_mem]
      split <;> simp [h]
    have ia := hin hab
    have ib := hin (Ne.symm hab)
    have len1 : ∀ {D : List Str} {t : Turn}, t.kind = 1 → (clsT D t).length = D.length + if inB D t.name = true then 0 else 1 := fun {D t} k => by
      unfold clsT; rw [if_pos k]; split <;> simp
    have fil : ∀ {D : List Str} {t : Turn}, ¬ t.kind = 1 → clsT D t = D.filter fun x => !(x == t.name) := fun {D t} k => by unfold clsT; rw [if_neg k]
    have mix : ∀ {t u : Turn}, ¬ t.name = u.name → t.kind = 1 → ¬ u.kind = 1 → inB (clsT C u) t.name = inB C t.name → (clsT (clsT C t) u).length = (clsT (clsT C u) t).length := fun {t u} hne k1 k2 hi => by
      rw [len1 k1, hi, fil k2, fil k2]
      unfold clsT
      rw [if_pos k1]
      split
      · rfl
      · rw [List.filter_append]
        have : (!(t.name == u.name)) = true := by simpa using hne
        rw [List.filter_cons, this]; simp
    by_cases k1 : a.kind = 1
    · by_cases k2 : b.kind = 1
      · rw [len1 k2, len1 k1, len1 k1, len1 k2, ia, ib]; omega
      · exact mix hab k1 k2 ia
    · by_cases k2 : b.kind = 1
      · exact (mix (Ne.symm hab) k2 k1 ib).symm
      · rw [fil k2, fil k1, fil k1, fil k2, List.filter_filter, List.filter_filter]
        congr 1
        apply List.filter_congr
        intro x _; exact Bool.and_comm _ _
theorem apart_cls {p : Page} {a b : Turn} (hn : a.node = b.node) (ha : elemB p a.node = true) (ka : a.kind = 1 ∨ a.kind = 2) (kb : b.kind = 1 ∨ b.kind = 2) (hwa : wordsB a.name = [a.name]) (hwb : wordsB b.name = [b.name]) (hab : ¬ a.name = b.name) :
    (∀ x ∈ classesB (stepT (stepT p a) b) a.node, x ∈ classesB (stepT (stepT p b) a) a.node) ∧ (classesB (stepT (stepT p a) b) a.node).length = (classesB (stepT (stepT p b) a) a.node).length := by
  have hb : elemB p b.node = true := by rw [← hn]; exact ha
  have e1 : classesB (stepT (stepT p a) b) a.node = clsT (clsT (classesB p a.node) a) b := by
    rw [hn, cls_step (p := stepT p a) (by rw [elem_step]; exact hb) kb hwb, ← hn, cls_step ha ka hwa]; rfl
  have e2 : classesB (stepT (stepT p b) a) a.node = clsT (clsT (classesB p a.node) b) a := by
    rw [cls_step (p := stepT p b) (by rw [elem_step]; exact ha) ka hwa, hn, cls_step hb kb hwb]; rfl
  rw [e1, e2]
  exact clsT_two hab
/- back -/
theorem back_cls {p : Page} {a b : Turn} (hn : a.node = b.node) (hs : a.name = b.name) (ha : elemB p a.node = true) (ka : a.kind = 1) (kb : b.kind = 2) (hw : wordsB a.name = [a.name]) (hno : inB (classesB p a.node) a.name = false) : classesB (stepT (stepT p a) b) a.node = classesB p a.node := by
  have hb : elemB p b.node = true := by rw [← hn]; exact ha
  rw [hn, cls_step (p := stepT p a) (by rw [elem_step]; exact hb) (.inr kb) (by rw [← hs]; exact hw), if_neg (by omega), ← hn, cls_step ha (.inl ka) hw, if_pos ka, hno]
  simp only [Bool.false_eq_true, if_false]
  rw [List.filter_append, ← hs]
  have h1 : (classesB p a.node).filter (fun x => !(x == a.name)) = classesB p a.node := by
    rw [List.filter_eq_self]
    intro x hx
    have : ¬ x = a.name := fun e => by rw [← e, ← Bool.not_eq_true, inB_mem] at hno; exact hno hx
    simpa using this
  rw [h1]; simp
theorem back_attr {p : Page} {a b : Turn} (hn : a.node = b.node) (hs : a.name = b.name) (ka : a.kind = 3) (kb : b.kind = 4) (hno : (attrB p a.node a.name).2 = false) : stepT (stepT p a) b = p := by
  cases ha : elemB p a.node
  · have hb : elemB p b.node = false := by rw [← hn]; exact ha
    rw [stepT_no ha, stepT_no hb]
  obtain ⟨x, hx, hxn⟩ := elem_node ha
  have h1 : nodeAt (stepT p a) b.node = some (withA x (attrsN x.attrs a)) := by rw [node_step hx hxn, if_pos hn.symm]
  rw [stepT_elem h1 (by exact hxn), stepT_elem hx hxn, ← hn, List.set_set]
  have hall : ∀ y ∈ x.attrs, ¬ y.name = a.name := by
    rw [attrB_of hx hxn] at hno
    unfold getA at hno
    intro y hy e
    split at hno
    · simp at hno
    · rename_i h
      rw [List.find?_eq_none] at h
      exact absurd e (by simpa using h y hy)
  have e1 : attrsN x.attrs a = setA x.attrs a.name a.value := by unfold attrsN; rw [if_neg (by omega), if_neg (by omega), if_pos ka]
  have e2 : ∀ l : List Ty.Attr, (∀ y ∈ l, ¬ y.name = a.name) → (setA l a.name a.value).filter (fun y => !(y.name == b.name)) = l := by
    intro l
    rw [← hs]
    induction l with
    | nil => intro _; simp [setA]
    | cons y r ih =>
      intro h
      have hy := h y (by simp)
      simp only [setA]
      rw [if_neg hy, List.filter_cons]
      have : (!(y.name == a.name)) = true := by simpa using hy
      rw [this]
      simp only [if_true]
      rw [ih fun z hz => h z (by simp [hz])]
  have e3 : withA (withA x (attrsN x.attrs a)) (attrsN (withA x (attrsN x.attrs a)).attrs b) = x := by
    show withA x (attrsN (attrsN x.attrs a) b) = x
    have : attrsN (attrsN x.attrs a) b = x.attrs := by
      rw [e1]
      generalize hL : setA x.attrs a.name a.value = L
      have : attrsN L b = L.filter (fun y => !(y.name == b.name)) := by unfold attrsN; rw [if_neg (by omega), if_neg (by omega), if_neg (by omega), if_pos kb]
      rw [this, ← hL]; exact e2 _ hall
    rw [this]; rfl
  rw [e3]
  unfold nodeAt at hx
  split at hx
  · apply List.ext_getElem?
    intro i
    rw [List.getElem?_set]
    split
    · rename_i e; subst e
      split
      · exact hx.symm
      · rename_i hh; rw [List.getElem?_eq_none (by omega)]
    · rfl
  · simp at hx
/- more may change -/
theorem mayT_more {s s' : Safe} {p : Page} {t : Turn} (h1 : ∀ x, inB s.classes x = true → inB s'.classes x = true) (h2 : ∀ x, inB s.attrs x = true → inB s'.attrs x = true) (h : mayT s p t = true) : mayT s' p t = true := by
  unfold mayT at h ⊢
  simp only [Bool.and_eq_true] at h ⊢
  refine ⟨h.1, h.2.1, ?_⟩
  have h3 := h.2.2
  split
  · rename_i k
    rw [if_pos k] at h3
    simp only [Bool.and_eq_true] at h3 ⊢
    exact ⟨h1 _ h3.1, h3.2⟩
  · rename_i k
    rw [if_neg k] at h3
    split
    · rename_i k'
      rw [if_pos k'] at h3
      simp only [Bool.and_eq_true] at h3 ⊢
      exact ⟨h2 _ h3.1, h3.2⟩
    · rename_i k'
      rw [if_neg k'] at h3
      exact h3
theorem mayT_none (p : Page) (t : Turn) : mayT ⟨[], []⟩ p t = false := by
  unfold mayT
  rw [Bool.and_eq_false_iff]; right
  rw [Bool.and_eq_false_iff]; right
  split
  · simp [inB]
  · split <;> simp [inB]
end W11
/- The fixed calls: values. -/
set_option linter.unusedVariables false
namespace W11
open Go Go.AX Go.AX.Ty Go.Proofs
def fxP : Page := [⟨[], [], [], -1, [1]⟩, ⟨[97], [⟨[99, 108, 97, 115, 115], [97, 32, 98]⟩], [], 0, [2]⟩, ⟨[98], [⟨[120], [49]⟩], [], 1, []⟩]
def fxQ : Page := [⟨[], [], [], -1, [1]⟩, ⟨[97], [⟨[99, 108, 97, 115, 115], [98, 32, 99]⟩], [], 0, [2]⟩, ⟨[98], [⟨[120], [50]⟩, ⟨[99, 108, 97, 115, 115], [100]⟩], [], 1, []⟩]
def fxS : Safe := ⟨[[99], [120, 32, 121]], [[120], [99, 108, 97, 115, 115]]⟩
def fxL : List Turn := [⟨1, 1, [99], []⟩, ⟨2, 1, [97], []⟩, ⟨3, 2, [120], [50]⟩, ⟨3, 2, [121], []⟩, ⟨1, 2, [100], []⟩, ⟨4, 2, [121], []⟩, ⟨4, 0, [121], []⟩]
def fxT : List Turn := [⟨2, 1, [97], []⟩]
def fxPage : AV := .ps 3 [(.str []), (.ps 0 []), (.str []), (.int .i64 (-1)), (.ps 1 [(.int .i64 1)]), (.str [97]), (.ps 1 [.str [99, 108, 97, 115, 115], .str [97, 32, 98]]), (.str []), (.int .i64 0), (.ps 1 [(.int .i64 2)]), (.str [98]), (.ps 1 [.str [120], .str [49]]), (.str []), (.int .i64 1), (.ps 0 [])]
theorem fxPage_eq : fxPage = Enc.av fxP := rfl
theorem fx_parse : PureF Try.prog 27 [.str [60, 97, 32, 99, 108, 97, 115, 115, 61, 39, 97, 32, 98, 39, 62, 60, 98, 32, 120, 61, 49, 62, 60, 47, 98, 62, 60, 47, 97, 62]] (.tup [fxPage, .int .i64 0]) := pureF_evk mix T_ok T_in (n := 1000000) (by kernel_rfl) (by kernel_rfl) (by kernel_rfl)
theorem fx_text : PureF Try.prog 28 [Enc.av fxQ] (.str [60, 97, 32, 99, 108, 97, 115, 115, 61, 34, 98, 32, 99, 34, 62, 60, 98, 32, 120, 61, 34, 50, 34, 32, 99, 108, 97, 115, 115, 61, 34, 100, 34, 62, 60, 47, 98, 62, 60, 47, 97, 62]) := pureF_evk mix T_ok T_in (n := 1000000) (by kernel_rfl) (by kernel_rfl) (by kernel_rfl)
end W11
