/- What holds of a node: the program's, the document's. -/
import Derived.Test.YtdbcomcockkkbaaGreatMbA
import Derived.Test.YtdbcomcockkkbaaGreatAyE
set_option linter.unusedSimpArgs false
set_option linter.unusedVariables false
namespace W14
open Go Go.AX Go.AX.Ty Go.Proofs

mutual
def holdsB (p : Page) (st : List Ty.State) (n : Int) : Simple → Bool
  | .mk kind name value a b l =>
    if kind = 1 then true
    else if kind = 2 then (match nodeAt p n with | some x => decide (x.name = name) | none => false)
    else if kind = 3 then (attrB p n [105, 100]).2 && decide ((attrB p n [105, 100]).1 = name)
    else if kind = 4 then (classesB p n).any fun x => name == x
    else if kind = 5 then (attrB p n name).2
    else if kind = 6 then (attrB p n name).2 && decide ((attrB p n name).1 = value)
    else if kind = 7 then st.any fun x => n == x.node && name == x.name
    else if kind = 8 then nthB a b (placeB p n)
    else if kind = 9 then (match nodeAt p n with | some x => decide (x.up = 0) && decide (placeB p n = 1) | none => false)
    else if kind = 10 then (match nodeAt p n with | some x => decide (x.kids.length = 0) | none => false)
    else if kind = 11 then !holdsAny p st n l
    else false
def holdsAny (p : Page) (st : List Ty.State) (n : Int) : List Simple → Bool
  | [] => false
  | x :: r => holdsB p st n x || holdsAny p st n r
end
theorem holdsAny_eq (p : Page) (st : List Ty.State) (n : Int) : ∀ l, holdsAny p st n l = l.any (holdsB p st n)
  | [] => rfl
  | x :: r => by rw [holdsAny, holdsAny_eq p st n r]; rfl
theorem simple_lt {x y : Simple} (h : y ∈ x.l) : sizeOf y < sizeOf x := by
  cases x
  simp only [Simple.l] at h
  have := List.sizeOf_lt_of_mem h
  simp only [Simple.mk.sizeOf_spec]; omega
theorem sym_any (l : List Str) (v : Str) : (l.any fun x => x == v) = l.any fun x => v == x := by
  have : (fun x => x == v) = fun x : Str => v == x := by funext x; rw [Bool.eq_iff_iff, beq_iff_eq, beq_iff_eq]; exact ⟨Eq.symm, Eq.symm⟩
  rw [this]
theorem words_le (s : Str) : ∀ acc : Str, (wordsGo s acc).length ≤ s.length + 1 := by
  induction s with
  | nil => intro acc; rw [wordsGo]; split <;> simp
  | cons c r ih =>
    intro acc
    rw [wordsGo]
    split
    · split
      · have := ih []; simp; omega
      · have := ih []; simp; omega
    · have := ih (acc ++ [c]); simp; omega
theorem classes_len {p : Page} (hp : PgOk p) (n : Int) : (classesB p n).length ≤ 140737488355328 := by
  have h1 := words_le (attrB p n sClass).1 []
  have h2 := attrB_len hp n sClass
  unfold classesB wordsB; omega
theorem place_bd {p : Page} (hp : PgOk p) (n : Int) : 0 ≤ placeB p n ∧ placeB p n ≤ 1001 := by
  have := kin_len hp n
  unfold placeB
  rcases idx_cases (fun x => n == x) (kinB p n) with ⟨e, _⟩ | ⟨i, x, e, hi, _⟩ <;> omega

/-- where a node is, and who its kin are -/
structure At (p : Page) (st : List Ty.State) (k : Nat) (x : Ty.Node) : Prop where
  pg : PgOk p
  st : st.length ≤ 100000
  at' : p[k]? = some x
  el : x.name ≠ []
  kin : ∀ x y, nodeAt p k = some x → nodeAt p x.up = some y → y.kids ≠ []

end W14
/- What holds of a node: the document's. -/
set_option linter.unusedSimpArgs false
set_option linter.unusedVariables false
namespace W14
open Go Go.AX Go.AX.Ty Go.Proofs

theorem w_rHolds {p : Page} {st : List Ty.State} {k : Nat} {nd : Ty.Node} (ha : At p st k nd) : ∀ (N : Nat) (x : Simple), sizeOf x ≤ N → Enc.ok x →
    PureF Tryz.prog 62 [Enc.av p, Enc.av st, Enc.av (k : Int), Enc.av x] (.bool (holdsB p st k x)) := by
  intro N
  induction N with
  | zero => intro x hx; cases x; simp only [Simple.mk.sizeOf_spec] at hx; omega
  | succ N ih =>
  intro x hN hok
  have hsub : ∀ y ∈ x.l, PureF Tryz.prog 62 [Enc.av p, Enc.av st, Enc.av (k : Int), Enc.av y] (.bool (holdsB p st k y)) := fun y hy =>
    ih y (by have := simple_lt hy; omega) (((Simple.ok_iff x).1 hok).2.2.2.2.2.2 y hy)
  have hxok := (Simple.ok_iff x).1 hok
  have hx := ha.at'
  have hnode : nodeAt p (k : Int) = some nd := by rw [nodeAt_nat]; exact hx
  have hpl := place_bd ha.pg k
  obtain ⟨kind, name, value, a, b, l⟩ := x
  refine pureF_W mix c62 (by kernel_rfl) (by kernel_rfl) (by simp [flats, flat_av, Go.AX.flat]) (by first | exact flat_av _ | simp [flat, flats, flat_av]) ?_
  simp only [Simple.kind, Simple.name, Simple.value, Simple.a, Simple.b, Simple.l] at hxok hsub
  simp only [Simple.eav, Simple.kind, Simple.name, Simple.value, Simple.a, Simple.b, Simple.l]
  rw [holdsB]
  by_cases g1 : kind = 1
  · have f1 : (kind = 1) = True := eq_true g1
    rw [if_pos g1]
    simp -implicitDefEqProofs only [F62, f1, go_sem, Nat.reduceAdd, Nat.reduceEqDiff, ↓reduceIte]
  rw [if_neg g1]
  have f1 : (kind = 1) = False := eq_false g1
  by_cases g2 : kind = 2
  · have f2 : (kind = 2) = True := eq_true g2
    rw [if_pos g2]
    simp -implicitDefEqProofs only [F62, f1, f2, go_sem, Nat.reduceAdd, Nat.reduceEqDiff, reduceCtorEq, ↓reduceIte]
    simp -implicitDefEqProofs only [hx, go_sem, Nat.reduceAdd, Nat.reduceEqDiff, Nat.reduceLeDiff, ↓reduceIte]
    refine andI_intro (by kernel_rfl) ?_
    simp -implicitDefEqProofs only [hx, go_sem, ↓reduceIte]
    rw [hnode]
    simp [Bool.beq_eq_decide_eq]
  rw [if_neg g2]
  have f2 : (kind = 2) = False := eq_false g2
  by_cases g3 : kind = 3
  · have f3 : (kind = 3) = True := eq_true g3
    rw [if_pos g3]
    simp -implicitDefEqProofs only [F62, f1, f2, f3, go_sem, Nat.reduceAdd, Nat.reduceEqDiff, reduceCtorEq, ↓reduceIte]
    refine callI_pure (w_rAttr p ha.pg.ok k [105, 100]) ?_
    simp -implicitDefEqProofs only [go_sem, Nat.reduceEqDiff, ↓reduceIte]
    generalize attrB p k [105, 100] = r
    obtain ⟨r1, r2⟩ := r
    cases r2
    · simp -implicitDefEqProofs only [go_sem, Nat.reduceEqDiff, ↓reduceIte]
      try simp
    · simp -implicitDefEqProofs only [go_sem, Nat.reduceAdd, Nat.reduceEqDiff, Nat.reduceLeDiff, ↓reduceIte]
      try simp [Bool.beq_eq_decide_eq]
  rw [if_neg g3]
  have f3 : (kind = 3) = False := eq_false g3
  by_cases g4 : kind = 4
  · have f4 : (kind = 4) = True := eq_true g4
    rw [if_pos g4]
    simp -implicitDefEqProofs only [F62, f1, f2, f3, f4, go_sem, Nat.reduceAdd, Nat.reduceEqDiff, reduceCtorEq, ↓reduceIte]
    refine dcallI_pure (w_rClasses p ha.pg k) ?_
    simp -implicitDefEqProofs only [go_sem, Nat.reduceAdd, Nat.reduceEqDiff, Nat.reduceLeDiff, ↓reduceIte]
    refine dcallI_pure (w_In name _ (classes_len ha.pg k)) ?_
    simp -implicitDefEqProofs only [go_sem, ↓reduceIte]
    refine andI_intro (by kernel_rfl) ?_
    simp -implicitDefEqProofs only [go_sem, ↓reduceIte]
    rw [sym_any]
  rw [if_neg g4]
  have f4 : (kind = 4) = False := eq_false g4
  by_cases g5 : kind = 5
  · have f5 : (kind = 5) = True := eq_true g5
    rw [if_pos g5]
    simp -implicitDefEqProofs only [F62, f1, f2, f3, f4, f5, go_sem, Nat.reduceAdd, Nat.reduceEqDiff, Nat.reduceLeDiff, reduceCtorEq, ↓reduceIte]
    refine callI_pure (w_rAttr p ha.pg.ok k name) ?_
    simp -implicitDefEqProofs only [go_sem, Nat.reduceEqDiff, ↓reduceIte]
  rw [if_neg g5]
  have f5 : (kind = 5) = False := eq_false g5
  by_cases g6 : kind = 6
  · have f6 : (kind = 6) = True := eq_true g6
    rw [if_pos g6]
    simp -implicitDefEqProofs only [F62, f1, f2, f3, f4, f5, f6, go_sem, Nat.reduceAdd, Nat.reduceEqDiff, Nat.reduceLeDiff, reduceCtorEq, ↓reduceIte]
    refine callI_pure (w_rAttr p ha.pg.ok k name) ?_
    simp -implicitDefEqProofs only [go_sem, Nat.reduceEqDiff, ↓reduceIte]
    generalize attrB p k name = r
    obtain ⟨r1, r2⟩ := r
    cases r2
    · simp -implicitDefEqProofs only [go_sem, Nat.reduceEqDiff, ↓reduceIte]
      try simp
    · simp -implicitDefEqProofs only [go_sem, Nat.reduceAdd, Nat.reduceEqDiff, Nat.reduceLeDiff, ↓reduceIte]
      try simp [Bool.beq_eq_decide_eq]
  rw [if_neg g6]
  have f6 : (kind = 6) = False := eq_false g6
  by_cases g7 : kind = 7
  · have f7 : (kind = 7) = True := eq_true g7
    rw [if_pos g7]
    simp -implicitDefEqProofs only [F62, f1, f2, f3, f4, f5, f6, f7, go_sem, Nat.reduceAdd, Nat.reduceEqDiff, Nat.reduceLeDiff, ↓reduceIte]
    refine callI_pure (w_state k name st (by have := ha.st; omega)) ?_
    simp -implicitDefEqProofs only [go_sem, ↓reduceIte]
    congr 2
    funext y
    rw [Bool.eq_iff_iff]; simp only [Bool.and_eq_true, beq_iff_eq]
    exact ⟨fun ⟨u, v⟩ => ⟨u.symm, v.symm⟩, fun ⟨u, v⟩ => ⟨u.symm, v.symm⟩⟩
  rw [if_neg g7]
  have f7 : (kind = 7) = False := eq_false g7
  by_cases g8 : kind = 8
  · have f8 : (kind = 8) = True := eq_true g8
    rw [if_pos g8]
    simp -implicitDefEqProofs only [F62, f1, f2, f3, f4, f5, f6, f7, f8, go_sem, Nat.reduceAdd, Nat.reduceEqDiff, Nat.reduceLeDiff, reduceCtorEq, ↓reduceIte]
    refine dcallI_pure (w_rplace p ha.pg k) ?_
    simp -implicitDefEqProofs only [go_sem, Nat.reduceEqDiff, ↓reduceIte]
    refine dcallI_pure (w_rNth a b (placeB p k) hxok.2.2.2.1 hxok.2.2.2.2.1 (by omega)) ?_
    simp -implicitDefEqProofs only [go_sem, ↓reduceIte]
    refine andI_intro (by kernel_rfl) ?_
    simp -implicitDefEqProofs only [go_sem, ↓reduceIte]
  rw [if_neg g8]
  have f8 : (kind = 8) = False := eq_false g8
  by_cases g9 : kind = 9
  · have f9 : (kind = 9) = True := eq_true g9
    rw [if_pos g9]
    simp -implicitDefEqProofs only [F62, f1, f2, f3, f4, f5, f6, f7, f8, f9, go_sem, Nat.reduceAdd, Nat.reduceEqDiff, reduceCtorEq, ↓reduceIte]
    rw [hnode]
    by_cases u0 : nd.up = 0
    · simp -implicitDefEqProofs only [hx, u0, go_sem, Nat.reduceEqDiff, reduceCtorEq, ↓reduceIte]
      refine callI_pure (w_rplace p ha.pg k) ?_
      simp -implicitDefEqProofs only [go_sem, Nat.reduceEqDiff, ↓reduceIte]
      simp [Bool.beq_eq_decide_eq, u0]
    · simp -implicitDefEqProofs only [hx, u0, go_sem, Nat.reduceEqDiff, ↓reduceIte]
      simp [u0]
  rw [if_neg g9]
  have f9 : (kind = 9) = False := eq_false g9
  by_cases g10 : kind = 10
  · have f10 : (kind = 10) = True := eq_true g10
    rw [if_pos g10]
    simp -implicitDefEqProofs only [F62, f1, f2, f3, f4, f5, f6, f7, f8, f9, f10, go_sem, Nat.reduceAdd, Nat.reduceEqDiff, reduceCtorEq, ↓reduceIte]
    rw [hnode]
    simp -implicitDefEqProofs only [hx, go_sem, ↓reduceIte]
    congr 1; rw [Bool.eq_iff_iff, beq_iff_eq, decide_eq_true_eq]; omega
  rw [if_neg g10]
  have f10 : (kind = 10) = False := eq_false g10
  by_cases g11 : kind = 11
  · have f11 : (kind = 11) = True := eq_true g11
    rw [if_pos g11]
    simp -implicitDefEqProofs only [F62, f1, f2, f3, f4, f5, f6, f7, f8, f9, f10, f11, go_sem, Nat.reduceAdd, Nat.reduceEqDiff, ↓reduceIte]
    rw [holdsAny_eq]
    have hl := hxok.2.2.2.2.2.1
    refine LoopI_sl (fun i : Nat => l.length - i) (fun i => [(0, Enc.av p), (1, Enc.av st), (2, Enc.av (k : Int)), (7, .ptr 0 0 0), (15, .int .i64 i)])
      (fun i s => i ≤ l.length ∧ 1 ≤ s.next ∧ AX.look 0 s.heap = some (.cells 0 [.int .i64 11, .str name, .str value, .int .i64 a, .int .i64 b, .ps l.length (cellsL l)] false) ∧ Pre (holdsB p st k) l i) 0 ?_ ?_
    · rw [g11]
      simp -implicitDefEqProofs only [go_sem, Int.reduceBEq, Nat.reduceEqDiff, reduceCtorEq, ↓reduceIte]
      exact Pre.zero _ _
    rintro i ρ ⟨g, m⟩ ⟨h1, h2, h3, h4⟩
    dsimp only at h2 h3
    have i0 : (0 < m) = True := eq_true (by omega)
    rcases Nat.lt_or_ge i l.length with hi | hi
    · obtain ⟨y, hy, hd, hm⟩ := get_drop hi
      have hlt : ((i : Int) < (l.length : Int)) = True := eq_true (by omega)
      have w1 : IntKind.i64.wrap ((i : Int) + 1) = ((i + 1 : Nat) : Int) := by rw [wrap64 (by omega) (by omega)]; omega
      have hy2 := hsub y hm
      rw [Simple.eav] at hy2
      simp -implicitDefEqProofs only [hlt, hy, h3, i0, go_sem, Nat.reduceAdd, Nat.reduceEqDiff, Nat.reduceLeDiff, reduceCtorEq, ↓reduceIte]
      refine callI_pure hy2 ?_
      simp -implicitDefEqProofs only [h3, i0, go_sem, ↓reduceIte]
      (refine brI_both (fun h hT => ?_) (fun h hT => ?_) <;> try simp -implicitDefEqProofs only [hT, w1, h3, i0, go_sem, Nat.reduceEqDiff, reduceCtorEq, ↓reduceIte] <;> try clear hT)
      · rw [any_here hm h]; rfl
      · refine ⟨i + 1, by omega, ?_⟩
        exact ⟨rfl, by omega, h2, h4.next hy (by simpa using h)⟩
    · have hlt : ((i : Int) < (l.length : Int)) = False := eq_false (by omega)
      simp -implicitDefEqProofs only [hlt, h3, go_sem, Nat.reduceAdd, Nat.reduceEqDiff, Nat.reduceLeDiff, reduceCtorEq, ↓reduceIte]
      rw [any_no (h4.all hi)]; rfl
  rw [if_neg g11]
  have f11 : (kind = 11) = False := eq_false g11
  simp -implicitDefEqProofs only [F62, f1, f2, f3, f4, f5, f6, f7, f8, f9, f10, f11, go_sem, Nat.reduceAdd, Nat.reduceEqDiff, ↓reduceIte]
end W14
/- Trees; who stands how. -/
set_option linter.unusedSimpArgs false
set_option linter.unusedVariables false
namespace W14
open Go Go.AX Go.AX.Ty Go.Proofs

def upOf (p : Page) (k : Nat) : Int := match p[k]? with
  | some x => x.up
  | none => -1
/-- those of the first ones whose parent is a node -/
def kidsOf (p : Page) (m : Nat) (n : Nat) : List Int := ((List.range m).filter fun k => decide (1 ≤ k) && (upOf p k == (n : Int))).map fun k : Nat => (k : Int)
structure TreeP (p : Page) : Prop where
  ne : p ≠ []
  root : ∀ x, p[0]? = some x → x.up = -1 ∧ x.name = [] ∧ x.text = [] ∧ x.attrs = []
  up : ∀ (k : Nat) x, 1 ≤ k → p[k]? = some x → 0 ≤ x.up ∧ x.up < (k : Int)
  kids : ∀ (n : Nat) x, p[n]? = some x → x.kids = kidsOf p p.length n
theorem mem_kidsOf {p : Page} {m n : Nat} {a : Int} : a ∈ kidsOf p m n ↔ ∃ k : Nat, a = k ∧ k < m ∧ 1 ≤ k ∧ upOf p k = n := by
  simp only [kidsOf, List.mem_map, List.mem_filter, List.mem_range, Bool.and_eq_true, decide_eq_true_eq, beq_iff_eq]
  exact ⟨fun ⟨k, ⟨h1, h2, h3⟩, h4⟩ => ⟨k, h4.symm, h1, h2, h3⟩, fun ⟨k, h4, h1, h2, h3⟩ => ⟨k, ⟨h1, h2, h3⟩, h4.symm⟩⟩
theorem upOf_eq {p : Page} {k : Nat} {x : Ty.Node} (h : p[k]? = some x) : upOf p k = x.up := by simp [upOf, h]
theorem getElem_lt {α : Type} {l : List α} {k : Nat} {x : α} (h : l[k]? = some x) : k < l.length := by
  rcases Nat.lt_or_ge k l.length with h' | h'
  · exact h'
  · rw [List.getElem?_eq_none h'] at h; simp at h
/-- an element of a tree is not the root, and stands among its parent's kids -/
theorem TreeP.parent {p : Page} (t : TreeP p) {k : Nat} {x : Ty.Node} (hx : p[k]? = some x) (hn : x.name ≠ []) : 1 ≤ k ∧ ∃ (u : Nat) (y : Ty.Node), x.up = u ∧ u < k ∧ p[u]? = some y ∧ (k : Int) ∈ y.kids := by
  have hk : 1 ≤ k := by
    rcases Nat.lt_or_ge k 1 with h | h
    · exfalso
      have : k = 0 := by omega
      subst this
      exact hn (t.root x hx).2.1
    · exact h
  obtain ⟨h1, h2⟩ := t.up k x hk hx
  have hlt := getElem_lt hx
  refine ⟨hk, x.up.toNat, p[x.up.toNat]'(by omega), by omega, by omega, by simp, ?_⟩
  rw [t.kids x.up.toNat _ (List.getElem?_eq_getElem (by omega))]
  exact mem_kidsOf.2 ⟨k, rfl, hlt, hk, by rw [upOf_eq hx]; omega⟩
theorem TreeP.at {p : Page} {st : List Ty.State} (t : TreeP p) (hp : PgOk p) (hs : st.length ≤ 100000) {k : Nat} {x : Ty.Node} (hx : p[k]? = some x) (hn : x.name ≠ []) : At p st k x := by
  refine ⟨hp, hs, hx, hn, fun a b h1 h2 => ?_⟩
  rw [nodeAt_nat, hx] at h1
  simp only [Option.some.injEq] at h1
  subst h1
  obtain ⟨hk, u, y, e, hu, hy, hm⟩ := t.parent hx hn
  rw [e, nodeAt_nat, hy] at h2
  simp only [Option.some.injEq] at h2
  subst h2
  intro h0; rw [h0] at hm; simp at hm
theorem TreeP.kin {p : Page} (t : TreeP p) {k : Nat} {x : Ty.Node} (hx : p[k]? = some x) (hn : x.name ≠ []) : (k : Int) ∈ kinB p k := by
  obtain ⟨hk, u, y, e, hu, hy, hm⟩ := t.parent hx hn
  have h1 : nodeAt p (k : Int) = some x := by rw [nodeAt_nat]; exact hx
  have h2 : nodeAt p x.up = some y := by rw [e, nodeAt_nat]; exact hy
  simp only [kinB, h1, h2, if_neg hn, List.mem_filter]
  exact ⟨hm, by simp [elemB, h1, hn]⟩

def aboveF (p : Page) : Nat → Int → List Int
  | 0, _ => []
  | f + 1, n => match nodeAt p n with
    | some x => if x.up > 0 then x.up :: aboveF p f x.up else []
    | none => []
/-- who a node lies in, the nearest first -/
def aboveB (p : Page) (n : Int) : List Int := aboveF p (n.toNat + 1) n
theorem aboveF_mono {p : Page} (t : TreeP p) : ∀ (f g : Nat) (k : Nat), k < f → k < g → aboveF p f k = aboveF p g k
  | 0, _, _, h, _ => by omega
  | _ + 1, 0, _, _, h => by omega
  | f + 1, g + 1, k, h1, h2 => by
    simp only [aboveF, nodeAt_nat]
    cases hx : p[k]? with
    | none => rfl
    | some x =>
      simp only
      by_cases h0 : x.up > 0
      · rw [if_pos h0, if_pos h0]
        have hk : 1 ≤ k := by
          rcases Nat.lt_or_ge k 1 with h | h
          · have : k = 0 := by omega
            subst this
            have := (t.root x hx).1; omega
          · exact h
        have := t.up k x hk hx
        obtain ⟨u, hu⟩ := Int.eq_ofNat_of_zero_le this.1
        rw [hu]
        rw [aboveF_mono t f g u (by omega) (by omega)]
      · rw [if_neg h0, if_neg h0]
theorem above_step {p : Page} (t : TreeP p) {k : Nat} {x : Ty.Node} (hx : p[k]? = some x) : aboveB p k = if x.up > 0 then x.up :: aboveB p x.up else [] := by
  unfold aboveB
  rw [aboveF, nodeAt_nat, hx]
  simp only [Int.toNat_natCast]
  by_cases h0 : x.up > 0
  · rw [if_pos h0, if_pos h0]
    have hk : 1 ≤ k := by
      rcases Nat.lt_or_ge k 1 with h | h
      · have : k = 0 := by omega
        subst this
        have := (t.root x hx).1; omega
      · exact h
    have := t.up k x hk hx
    obtain ⟨u, hu⟩ := Int.eq_ofNat_of_zero_le this.1
    rw [hu, Int.toNat_natCast, aboveF_mono t k (u + 1) u (by omega) (by omega)]
  · rw [if_neg h0, if_neg h0]

end W14
/- Who stands how. -/
set_option linter.unusedSimpArgs false
set_option linter.unusedVariables false
namespace W14
open Go Go.AX Go.AX.Ty Go.Proofs

theorem ints_len (l : List Int) : (cellsL l).length = l.length := by rw [cellsL_len]; simp [Enc.sz]
theorem ints_take (l : List Int) (k : Nat) : List.take k (cellsL l) = cellsL (l.take k) := by have := cellsL_take l k; simpa [Enc.sz] using this
theorem ints_drop (l : List Int) (k : Nat) : List.drop k (cellsL l) = cellsL (l.drop k) := by have := cellsL_drop l k; simpa [Enc.sz] using this
/-- those ahead of a node among its kin -/
def aheadB (p : Page) (n : Int) : List Int := (kinB p n).take (idxOf (fun x => n == x) (kinB p n)).toNat
def relatedB (p : Page) (n : Int) (c : Int) : List Int :=
  if c = 1 then aboveB p n else if c = 2 then (aboveB p n).take 1 else if c = 3 then (aheadB p n).drop ((aheadB p n).length - 1) else if c = 4 then aheadB p n else []
theorem above_len {p : Page} (t : TreeP p) : ∀ (k : Nat), k < p.length → (aboveB p k).length ≤ k := fun k => by
  induction k using Nat.strongRecOn with
  | ind k ih =>
  intro hk
  rw [above_step t (List.getElem?_eq_getElem hk)]
  split
  · rename_i h
    have hk1 : 1 ≤ k := by
      rcases Nat.lt_or_ge k 1 with h' | h'
      · have : k = 0 := by omega
        subst this
        have := (t.root _ (List.getElem?_eq_getElem hk)).1; omega
      · exact h'
    have h2 := t.up k _ hk1 (List.getElem?_eq_getElem hk)
    obtain ⟨u, hu⟩ := Int.eq_ofNat_of_zero_le h2.1
    rw [hu]
    have := ih u (by omega) (by omega)
    simp only [List.length_cons]; omega
  · simp
theorem not_any_not (l : List Simple) (f : Simple → Bool) : (l.any fun x => !f x) = !l.all f := by
  rw [Bool.eq_iff_iff]; simp
end W14
/- What is known of parts and nodes: the map. -/
set_option linter.unusedSimpArgs false
set_option linter.unusedVariables false
namespace W14
open Go Go.AX Go.AX.Ty Go.Proofs

/-- what is known: node, part, how -/
abbrev Kn := List (Int × Int × Int)
def key (a b : Int) : AV := .agg [.int .i64 a, .int .i64 b]
def encE (L : Kn) : List (AV × AV) := L.map fun t => (key t.1 t.2.1, .int .i64 t.2.2)
def kget : Kn → Int → Int → Int
  | [], _, _ => 0
  | t :: r, a, b => if t.1 = a ∧ t.2.1 = b then t.2.2 else kget r a b
def kset : Kn → Int → Int → Int → Kn
  | [], a, b, v => [(a, b, v)]
  | t :: r, a, b, v => if t.1 = a ∧ t.2.1 = b then (a, b, v) :: r else t :: kset r a b v
abbrev trK : EqT := .node [(0, none, .int), (1, none, .int)]
theorem kget_kset (a b v a' b' : Int) : ∀ L : Kn, kget (kset L a b v) a' b' = if a = a' ∧ b = b' then v else kget L a' b'
  | [] => by simp [kset, kget]
  | t :: r => by
    have ih := kget_kset a b v a' b' r
    simp only [kset]
    by_cases h : t.1 = a ∧ t.2.1 = b
    · rw [if_pos h]
      simp only [kget]
      by_cases h2 : a = a' ∧ b = b'
      · simp [h2]
      · rw [if_neg h2, if_neg h2, if_neg (by rw [h.1, h.2]; exact h2)]
    · rw [if_neg h]
      simp only [kget, ih]
      by_cases h2 : a = a' ∧ b = b'
      · obtain ⟨rfl, rfl⟩ := h2; rw [if_neg h]; simp
      · simp [h2]
theorem eqv_key (a b a' b' : Int) : eqv trK (key a b) (key a' b') = some (a == a' && b == b') := by
  simp [eqv, eqvs, key, partOf]
theorem mfind_enc (a b : Int) : ∀ (L : Kn) (i : Nat), (mfind trK (key a b) (encE L) i = some none ∧ kget L a b = 0 ∧ ∀ v, kset L a b v = L ++ [(a, b, v)]) ∨
    ∃ j, j < L.length ∧ mfind trK (key a b) (encE L) i = some (some (i + j, key a b, .int .i64 (kget L a b))) ∧ ∀ v, kset L a b v = L.set j (a, b, v)
  | [], i => .inl ⟨rfl, rfl, fun _ => rfl⟩
  | t :: r, i => by
    obtain ⟨x, y, w⟩ := t
    simp only [encE, List.map_cons, mfind, eqv_key]
    by_cases h : x = a ∧ y = b
    · obtain ⟨rfl, rfl⟩ := h
      right
      refine ⟨0, by simp, ?_, fun v => ?_⟩
      · simp [kget]
      · simp [kset]
    · have hb : (a == x && b == y) = false := by
        rw [Bool.eq_false_iff]; intro hh
        simp only [Bool.and_eq_true, beq_iff_eq] at hh
        exact h ⟨hh.1.symm, hh.2.symm⟩
      rw [hb]
      simp only
      rcases mfind_enc a b r (i + 1) with ⟨h1, h2, h3⟩ | ⟨j, h1, h2, h3⟩
      · left
        refine ⟨h1, ?_, fun v => ?_⟩
        · simp only [kget]; rw [if_neg h]; exact h2
        · simp only [kset]; rw [if_neg h, h3 v]; rfl
      · right
        refine ⟨j + 1, by simp; omega, ?_, fun v => ?_⟩
        · rw [show i + (j + 1) = i + 1 + j by omega]
          simp only [kget]; rw [if_neg h]; exact h2
        · simp only [kset]; rw [if_neg h, h3 v]; rfl
theorem lkp_enc (L : Kn) (a b : Int) : lkpA trK (.int .i64 0) false (key a b) (encE L) = some (.int .i64 (kget L a b)) := by
  unfold lkpA
  rcases mfind_enc a b L 0 with ⟨h1, h2, _⟩ | ⟨j, _, h2, _⟩
  · rw [h1, h2]; rfl
  · rw [h2]; rfl
theorem mup_enc (L : Kn) (a b v : Int) : mupA trK (key a b) (.int .i64 v) (encE L) = some (encE (kset L a b v)) := by
  unfold mupA
  rcases mfind_enc a b L 0 with ⟨h1, _, h3⟩ | ⟨j, hj, h2, h3⟩
  · rw [h1, h3 v]; simp [encE]
  · rw [h2, h3 v]
    have : sameK (key a b) (key a b) = true := by simp [sameK, sameKs, sameK1, key]
    simp only [this, if_true, Nat.zero_add]
    simp [encE, List.map_set]
theorem lkp_enc' (L : Kn) (a b : Int) : lkpA trK (.int .i64 0) false (.agg [.int .i64 a, .int .i64 b]) (encE L) = some (.int .i64 (kget L a b)) := lkp_enc L a b
theorem mup_enc' (L : Kn) (a b v : Int) : mupA trK (.agg [.int .i64 a, .int .i64 b]) (.int .i64 v) (encE L) = some (encE (kset L a b v)) := mup_enc L a b v

/-- does a node fit the first parts, up to one? -/
def fitsB (p : Page) (st : List Ty.State) (parts : List Part) : Nat → Int → Bool
  | 0, n => elemB p n && (match parts[0]? with | some q => q.l.all (holdsB p st n) | none => false)
  | k + 1, n => elemB p n && (match parts[k + 1]? with | some q => q.l.all (holdsB p st n) && (relatedB p n q.comb).any (fitsB p st parts k) | none => false)
theorem cl_encE (L : Kn) (m : Nat) : ClO m (.map (encE L)) := fun q hq => by
  simp only [encE, List.mem_map] at hq
  obtain ⟨t, _, rfl⟩ := hq
  simp [key, Cl, Cls]

def restB (p : Page) (st : List Ty.State) (parts : List Part) (n : Int) (q : Part) : Nat → Bool
  | 0 => true
  | j + 1 => (relatedB p n q.comb).any (fitsB p st parts j)
theorem fitsB_step (p : Page) (st : List Ty.State) (parts : List Part) (k : Nat) (n : Int) (q : Part) (hq : parts[k]? = some q) :
    fitsB p st parts k n = (elemB p n && (q.l.all (holdsB p st n) && restB p st parts n q k)) := by
  cases k with
  | zero => simp [fitsB, hq, restB]
  | succ j => simp [fitsB, hq, restB]
end W14
/- Is a page a tree? The document's. -/
set_option linter.unusedSimpArgs false
set_option linter.unusedVariables false
namespace W14
open Go Go.AX Go.AX.Ty Go.Proofs

open Classical in
noncomputable def treeB (p : Page) : Bool := decide (TreeP p)
theorem treeB_true {p : Page} (h : TreeP p) : treeB p = true := by unfold treeB; exact @decide_eq_true _ (Classical.propDecidable _) h
theorem treeB_false {p : Page} (h : ¬ TreeP p) : treeB p = false := by unfold treeB; exact @decide_eq_false _ (Classical.propDecidable _) h
theorem treeB_iff {p : Page} : treeB p = true ↔ TreeP p := by unfold treeB; exact @decide_eq_true_iff _ (Classical.propDecidable _)

theorem take_eq_of {α : Type} {a b : List α} {k : Nat} (h : a.take k = b.take k) (ha : k = a.length) (hb : a.length = b.length) : a = b := by
  rw [List.take_of_length_le (by omega), List.take_of_length_le (by omega)] at h; exact h
theorem w_Ints (a b : List Int) (hl : a.length ≤ 140737488355328) : PureF Tryz.prog 41 [Enc.av a, Enc.av b] (.bool (decide (a = b))) := by
  refine pureF_W mix c41 (by kernel_rfl) (by kernel_rfl) (by simp [flats, flat_av, Go.AX.flat]) (by first | exact flat_av _ | simp [flat, flats, flat_av]) ?_
  by_cases hlen : a.length = b.length
  case neg =>
    have hne : ((a.length : Int) = (b.length : Int)) = False := eq_false (by omega)
    rw [decide_eq_false (fun e => hlen (by rw [e]))]
    simp -implicitDefEqProofs only [F41, hne, go_sem, Nat.reduceEqDiff, reduceCtorEq, ↓reduceIte]
  have hne : ((a.length : Int) = (b.length : Int)) = True := eq_true (by omega)
  simp -implicitDefEqProofs only [F41, hne, go_sem, Nat.reduceEqDiff, reduceCtorEq, ↓reduceIte]
  refine LoopI_sl (fun k : Nat => a.length - k) (fun k => [(0, Enc.av a), (1, Enc.av b), (5, .int .i64 k)]) (fun k s => k ≤ a.length ∧ a.take k = b.take k) 0 ?_ ?_
  · simp -implicitDefEqProofs only [List.take_zero, go_sem, Nat.reduceEqDiff, reduceCtorEq, ↓reduceIte]
  rintro k ρ ⟨g, m⟩ ⟨h1, h2⟩
  rcases Nat.lt_or_ge k a.length with hk | hk
  · obtain ⟨x, hx, hd, hm⟩ := get_drop hk
    obtain ⟨y, hy, hd2, hm2⟩ := get_drop (show k < b.length by omega)
    have hlt : ((k : Int) < (a.length : Int)) = True := eq_true (by omega)
    have w1 : IntKind.i64.wrap ((k : Int) + 1) = ((k + 1 : Nat) : Int) := by rw [wrap64 (by omega) (by omega)]; omega
    simp -implicitDefEqProofs only [hlt, hx, hy, w1, go_sem, Nat.reduceEqDiff, reduceCtorEq, ↓reduceIte]
    refine andI_intro (by kernel_rfl) ?_
    by_cases hxy : x = y
    · simp -implicitDefEqProofs only [hxy, w1, go_sem, Nat.reduceEqDiff, reduceCtorEq, ↓reduceIte]
      refine ⟨k + 1, by omega, rfl, by omega, ?_⟩
      rw [List.take_add_one, List.take_add_one, h2, hx, hy, hxy]
    · simp -implicitDefEqProofs only [hxy, go_sem, ↓reduceIte]
      rw [decide_eq_false (fun e => hxy (by rw [e, hy] at hx; simpa using hx.symm))]
  · have hlt : ((k : Int) < (a.length : Int)) = False := eq_false (by omega)
    simp -implicitDefEqProofs only [hlt, go_sem, Nat.reduceEqDiff, reduceCtorEq, ↓reduceIte]
    rw [decide_eq_true (take_eq_of h2 (by omega) hlen)]
theorem w_Equal (a b : List Int) (hl : a.length ≤ 140737488355328) : PureF Tryz.prog 83 [Enc.av a, Enc.av b] (.bool (decide (a = b))) := by
  refine pureF_W mix c83 (by kernel_rfl) (by kernel_rfl) (by simp [flats, flat_av, Go.AX.flat]) (by first | exact flat_av _ | simp [flat, flats, flat_av]) ?_
  by_cases hlen : a.length = b.length
  case neg =>
    have hne : ((a.length : Int) = (b.length : Int)) = False := eq_false (by omega)
    rw [decide_eq_false (fun e => hlen (by rw [e]))]
    simp -implicitDefEqProofs only [F83, hne, go_sem, Nat.reduceEqDiff, reduceCtorEq, ↓reduceIte]
  have hne : ((a.length : Int) = (b.length : Int)) = True := eq_true (by omega)
  simp -implicitDefEqProofs only [F83, hne, go_sem, Nat.reduceEqDiff, reduceCtorEq, ↓reduceIte]
  refine LoopI_sl (fun k : Nat => a.length - k) (fun k => [(0, Enc.av a), (1, Enc.av b), (12, .int .i64 a.length), (13, .int .i64 k)]) (fun k s => k ≤ a.length ∧ a.take k = b.take k) 0 ?_ ?_
  · simp -implicitDefEqProofs only [List.take_zero, go_sem, Nat.reduceEqDiff, reduceCtorEq, ↓reduceIte]
  rintro k ρ ⟨g, m⟩ ⟨h1, h2⟩
  rcases Nat.lt_or_ge k a.length with hk | hk
  · obtain ⟨x, hx, hd, hm⟩ := get_drop hk
    obtain ⟨y, hy, hd2, hm2⟩ := get_drop (show k < b.length by omega)
    have hlt : ((k : Int) < (a.length : Int)) = True := eq_true (by omega)
    have w1 : IntKind.i64.wrap ((k : Int) + 1) = ((k + 1 : Nat) : Int) := by rw [wrap64 (by omega) (by omega)]; omega
    simp -implicitDefEqProofs only [hlt, hx, hy, w1, go_sem, Nat.reduceEqDiff, reduceCtorEq, ↓reduceIte]
    refine andI_intro (by kernel_rfl) ?_
    by_cases hxy : x = y
    · simp -implicitDefEqProofs only [hxy, w1, go_sem, Nat.reduceEqDiff, reduceCtorEq, ↓reduceIte]
      refine ⟨k + 1, by omega, rfl, by omega, ?_⟩
      rw [List.take_add_one, List.take_add_one, h2, hx, hy, hxy]
    · simp -implicitDefEqProofs only [hxy, go_sem, ↓reduceIte]
      rw [decide_eq_false (fun e => hxy (by rw [e, hy] at hx; simpa using hx.symm))]
  · have hlt : ((k : Int) < (a.length : Int)) = False := eq_false (by omega)
    simp -implicitDefEqProofs only [hlt, go_sem, Nat.reduceEqDiff, reduceCtorEq, ↓reduceIte]
    rw [decide_eq_true (take_eq_of h2 (by omega) hlen)]

theorem kidsOf_succ (p : Page) (m n : Nat) (hm : 1 ≤ m) : kidsOf p (m + 1) n = kidsOf p m n ++ (if upOf p m = n then [(m : Int)] else []) := by
  unfold kidsOf
  rw [List.range_succ, List.filter_append, List.map_append]
  congr 1
  by_cases h : upOf p m = n <;> simp [h, hm]
theorem kidsOf_one (p : Page) (n : Nat) : kidsOf p 1 n = [] := by
  simp [kidsOf, List.range_succ]
theorem kidsOf_len (p : Page) (m n : Nat) : (kidsOf p m n).length ≤ m := by
  unfold kidsOf
  rw [List.length_map]
  exact Nat.le_trans (List.length_filter_le _ _) (by simp)

theorem w_rTree (p : Page) (hp : PgOk p) : PureF Tryz.prog 20 [Enc.av p] (.bool (treeB p)) := by
  refine pureF_W mix c20 (by kernel_rfl) (by kernel_rfl) (by simp [flats, flat_av, Go.AX.flat]) (by first | exact flat_av _ | simp [flat, flats, flat_av]) ?_
  have hpl := hp.len
  cases hpe : p with
  | nil =>
    rw [treeB_false (fun t => t.ne rfl)]
    simp -implicitDefEqProofs only [F20, go_sem, Int.reduceNeg, Nat.reduceEqDiff, reduceCtorEq, ↓reduceIte]
  | cons x r =>
  rw [← hpe]
  have h0 : p[0]? = some x := by rw [hpe]; rfl
  have hl0 : ((p.length : Int) = 0) = False := eq_false (by rw [hpe]; simp; omega)
  have nroot : ∀ (P : Prop), (∀ t : TreeP p, P) → ¬ P → treeB p = false := fun P h1 h2 => treeB_false fun t => h2 (h1 t)
  simp -implicitDefEqProofs only [F20, hl0, h0, go_sem, Int.reduceNeg, Int.reduceToNat, Nat.reduceEqDiff, reduceCtorEq, ↓reduceIte]
  by_cases r1 : x.up = -1
  case neg =>
    rw [nroot _ (fun t => (t.root x h0).1) r1]
    simp -implicitDefEqProofs only [r1, hl0, h0, go_sem, Int.reduceNeg, Nat.reduceEqDiff, reduceCtorEq, ↓reduceIte]
  by_cases r2 : x.name = []
  case neg =>
    rw [nroot _ (fun t => (t.root x h0).2.1) r2]
    simp -implicitDefEqProofs only [r1, r2, hl0, h0, go_sem, Int.reduceNeg, Int.reduceToNat, Nat.reduceEqDiff, reduceCtorEq, ↓reduceIte]
  by_cases r3 : x.text = []
  case neg =>
    rw [nroot _ (fun t => (t.root x h0).2.2.1) r3]
    simp -implicitDefEqProofs only [r1, r2, r3, hl0, h0, go_sem, Int.reduceNeg, Int.reduceToNat, Nat.reduceEqDiff, reduceCtorEq, ↓reduceIte]
  by_cases r4 : x.attrs = []
  case neg =>
    rw [nroot _ (fun t => (t.root x h0).2.2.2) r4]
    have hg : ((x.attrs.length : Int) > 0) = True := eq_true (by have := List.length_pos_iff.2 r4; omega)
    simp -implicitDefEqProofs only [r1, r2, r3, hg, hl0, h0, go_sem, Int.reduceNeg, Int.reduceToNat, Nat.reduceEqDiff, reduceCtorEq, ↓reduceIte]
  have hg : ((x.attrs.length : Int) > 0) = False := eq_false (by rw [r4]; simp)
  simp -implicitDefEqProofs only [r1, r2, r3, hg, hl0, h0, go_sem, Int.reduceNeg, Int.reduceToNat, Nat.reduceEqDiff, reduceCtorEq, ↓reduceIte]
  refine LoopI_sl (fun k : Nat => p.length - k) (fun k => [(0, Enc.av p), (3, .int .i64 k)]) (fun k s => s = ⟨[], 0⟩ ∧ 1 ≤ k ∧ k ≤ p.length ∧ ∀ j y, 1 ≤ j → j < k → p[j]? = some y → 0 ≤ y.up ∧ y.up < (j : Int)) 1 ?_ ?_
  · simp -implicitDefEqProofs only [go_sem, Int.reduceNeg, reduceCtorEq, ↓reduceIte]
    refine ⟨by rw [hpe]; simp, fun j y h1 h2 => by omega⟩
  rintro k ρ s ⟨rfl, h1, h2, h3⟩
  rcases Nat.lt_or_ge k p.length with hk | hk
  · obtain ⟨y, hy, hd, hm⟩ := get_drop hk
    have hlt : ((k : Int) < (p.length : Int)) = True := eq_true (by omega)
    have w1 : IntKind.i64.wrap ((k : Int) + 1) = ((k + 1 : Nat) : Int) := by rw [wrap64 (by omega) (by omega)]; omega
    simp -implicitDefEqProofs only [hlt, hy, go_sem, Nat.reduceEqDiff, reduceCtorEq, ↓reduceIte]
    by_cases u1 : y.up < 0
    · rw [nroot _ (fun t => (t.up k y h1 hy).1) (by omega)]
      simp -implicitDefEqProofs only [u1, hy, go_sem, Nat.reduceEqDiff, reduceCtorEq, ↓reduceIte]
    by_cases u2 : y.up ≥ (k : Int)
    · rw [nroot _ (fun t => (t.up k y h1 hy).2) (by omega)]
      simp -implicitDefEqProofs only [u1, u2, hy, go_sem, Nat.reduceEqDiff, reduceCtorEq, ↓reduceIte]
    simp -implicitDefEqProofs only [u1, u2, hy, w1, go_sem, Nat.reduceEqDiff, reduceCtorEq, ↓reduceIte]
    refine ⟨k + 1, by omega, rfl, by omega, by omega, fun j z h4 h5 hz => ?_⟩
    rcases Nat.lt_or_ge j k with h | h
    · exact h3 j z h4 h hz
    · have : j = k := by omega
      subst this
      rw [hy] at hz
      simp only [Option.some.injEq] at hz
      subst hz; omega
  have hlt : ((k : Int) < (p.length : Int)) = False := eq_false (by omega)
  have hup : ∀ (j : Nat) y, 1 ≤ j → p[j]? = some y → 0 ≤ y.up ∧ y.up < (j : Int) := fun j y a b => h3 j y a (by have := getElem_lt b; omega) b
  simp -implicitDefEqProofs only [hlt, go_sem, Nat.reduceEqDiff, reduceCtorEq, ↓reduceIte]
  refine LoopI_sl (fun n : Nat => p.length - n) (fun n => [(0, Enc.av p), (4, .int .i64 n)]) (fun n s => n ≤ p.length ∧ ∀ j y, j < n → p[j]? = some y → y.kids = kidsOf p p.length j) 0 ?_ ?_
  · simp -implicitDefEqProofs only [go_sem, reduceCtorEq, ↓reduceIte]
    exact fun j y h => h.elim
  clear h1 h2 h3 hk hlt
  rintro n ρ ⟨g, m⟩ ⟨h1, h2⟩
  rcases Nat.lt_or_ge n p.length with hn | hn
  · obtain ⟨y, hy, hd, hm⟩ := get_drop hn
    have hlt : ((n : Int) < (p.length : Int)) = True := eq_true (by omega)
    have wn : IntKind.i64.wrap ((n : Int) + 1) = ((n + 1 : Nat) : Int) := by rw [wrap64 (by omega) (by omega)]; omega
    simp -implicitDefEqProofs only [hlt, go_sem, Nat.reduceEqDiff, reduceCtorEq, ↓reduceIte]
    refine LoopI_sl (fun k : Nat => p.length - k) (fun k => [(0, Enc.av p), (4, .int .i64 n), (5, .sl m (kidsOf p k n).length 0 (kidsOf p k n).length 1), (6, .int .i64 k)])
      (fun k s => 1 ≤ k ∧ k ≤ p.length ∧ m + 1 ≤ s.next ∧ AX.look m s.heap = some (.cells (kidsOf p k n).length (cellsL (kidsOf p k n)) false)) 1 ?_ ?_
    · simp -implicitDefEqProofs only [kidsOf_one, cellsL, go_sem, Nat.reduceEqDiff, reduceCtorEq, ↓reduceIte]
      rw [hpe]; simp
    rintro k ρ ⟨g2, q⟩ ⟨k1, k2, k3, k4⟩
    dsimp only at k3 k4
    have hF := kidsOf_len p k n
    have hfn := kidsOf_succ p k n k1
    generalize hFd : kidsOf p k n = F at k4 hF hfn
    have hc : (cellsL F).length = F.length := ints_len F
    have ht : List.take F.length (cellsL F) = cellsL F := List.take_of_length_le (by omega)
    have q0 : (q = m) = False := eq_false (by omega)
    rcases Nat.lt_or_ge k p.length with hk | hk
    · obtain ⟨z, hz, _, _⟩ := get_drop hk
      have hlt2 : ((k : Int) < (p.length : Int)) = True := eq_true (by omega)
      have w1 : IntKind.i64.wrap ((k : Int) + 1) = ((k + 1 : Nat) : Int) := by rw [wrap64 (by omega) (by omega)]; omega
      have hbd : ((F.length + 1) * 8 ≤ 140737488355328) = True := eq_true (by omega)
      have hmx : (F.length ≤ F.length) = True := eq_true (by omega)
      rw [upOf_eq hz] at hfn
      by_cases hu : z.up = (n : Int)
      · rw [if_pos hu] at hfn
        have hu' : (z.up = (n : Int)) = True := eq_true hu
        simp -implicitDefEqProofs only [hlt2, hz, hu', k4, hc, ht, hbd, hmx, q0, w1, go_sem, Nat.reduceEqDiff, Nat.reduceLeDiff, reduceCtorEq, ↓reduceIte]
        refine ⟨k + 1, by omega, ?_⟩
        rw [hfn, cellsL_append]
        simp only [List.length_append, List.length_cons, List.length_nil, Nat.zero_add, true_and, and_true]
        first | exact ⟨by omega, by omega, by omega, rfl⟩ | exact ⟨by omega, by omega, rfl⟩ | exact ⟨by omega, rfl⟩ | trace_state
      · rw [if_neg hu, List.append_nil] at hfn
        have hu' : (z.up = (n : Int)) = False := eq_false hu
        simp -implicitDefEqProofs only [hlt2, hz, hu', k4, w1, go_sem, Nat.reduceEqDiff, reduceCtorEq, ↓reduceIte]
        refine ⟨k + 1, by omega, ?_⟩
        rw [hfn]
        exact ⟨⟨rfl, rfl⟩, by omega, by omega, k3, rfl⟩
    · have hlt2 : ((k : Int) < (p.length : Int)) = False := eq_false (by omega)
      have hkl : k = p.length := by omega
      subst hkl
      simp -implicitDefEqProofs only [hlt2, hy, k4, hc, ht, go_sem, Nat.reduceEqDiff, reduceCtorEq, ↓reduceIte]
      refine callI_pure (w_Ints F y.kids (by omega)) ?_
      simp -implicitDefEqProofs only [go_sem, ↓reduceIte]
      by_cases hFk : F = y.kids
      · simp -implicitDefEqProofs only [hFk, wn, go_sem, Nat.reduceEqDiff, reduceCtorEq, ↓reduceIte]
        refine ⟨n + 1, by omega, rfl, by omega, fun j z h3 hz => ?_⟩
        rcases Nat.lt_or_ge j n with h | h
        · exact h2 j z h hz
        · have : j = n := by omega
          subst this
          rw [hy] at hz
          simp only [Option.some.injEq] at hz
          subst hz; rw [← hFk, ← hFd]
      · simp -implicitDefEqProofs only [hFk, go_sem, ↓reduceIte]
        rw [nroot _ (fun t => (t.kids n y hy)) (fun e => hFk (by rw [e, ← hFd]))]
  · have hlt : ((n : Int) < (p.length : Int)) = False := eq_false (by omega)
    simp -implicitDefEqProofs only [hlt, go_sem, Nat.reduceEqDiff, reduceCtorEq, ↓reduceIte]
    rw [treeB_true ⟨by rw [hpe]; simp, fun a ha => ?_, hup, fun j y hy => h2 j y (by have := getElem_lt hy; omega) hy⟩]
    rw [h0] at ha
    simp only [Option.some.injEq] at ha
    subst ha
    exact ⟨r1, r2, r3, r4⟩
end W14
/- Is a page a tree? The program's. -/
set_option linter.unusedSimpArgs false
set_option linter.unusedVariables false
namespace W14
open Go Go.AX Go.AX.Ty Go.Proofs

/-- the rows of kids that are built: one for each node -/
structure Rows (h : List (Nat × AX.Obj)) (m : Nat) (cs : List AV) (N : Nat) (K : Nat → List Int) (ids : Nat → Nat) : Prop where
  len : cs.length = N
  cell : ∀ i, i < N → cs[i]? = some (if K i = [] then .nils else .sl (ids i) (K i).length 0 (K i).length 1)
  obj : ∀ i, i < N → K i ≠ [] → AX.look (ids i) h = some (.cells (K i).length (cellsL (K i)) false)
  lo : ∀ i, i < N → K i ≠ [] → 1 ≤ ids i ∧ ids i < m
  inj : ∀ i j, i < N → j < N → K i ≠ [] → K j ≠ [] → ids i = ids j → i = j

theorem Rows.congr {h : List (Nat × AX.Obj)} {m : Nat} {cs : List AV} {N : Nat} {K K' : Nat → List Int} {ids : Nat → Nat} (R : Rows h m cs N K ids) (e : ∀ i, K i = K' i) : Rows h m cs N K' ids := by
  have : K = K' := funext e
  rw [← this]; exact R
theorem Rows.push {h : List (Nat × AX.Obj)} {m : Nat} {cs : List AV} {N : Nat} {K : Nat → List Int} {ids : Nat → Nat} (R : Rows h m cs N K ids) (o : AX.Obj) : Rows ((m, o) :: h) (m + 1) cs N K ids :=
  ⟨R.len, R.cell, fun i hi hk => by
    have := (R.lo i hi hk).2
    simp only [AX.look]; rw [if_neg (by omega)]; exact R.obj i hi hk, fun i hi hk => by have := R.lo i hi hk; omega, R.inj⟩
theorem Rows.put0 {h : List (Nat × AX.Obj)} {m : Nat} {cs : List AV} {N : Nat} {K : Nat → List Int} {ids : Nat → Nat} (R : Rows h m cs N K ids) (o : AX.Obj) : Rows (putAt 0 o h) m cs N K ids :=
  ⟨R.len, R.cell, fun i hi hk => by
    have := (R.lo i hi hk).1
    rw [look_put_ne (by omega)]; exact R.obj i hi hk, R.lo, R.inj⟩
theorem set_get {cs : List AV} {u i : Nat} {v : AV} (hu : u < cs.length) : (cs.take u ++ v :: cs.drop (u + 1))[i]? = if i = u then some v else cs[i]? := by
  have e : cs.take u ++ v :: cs.drop (u + 1) = cs.set u v := by rw [List.set_eq_take_append_cons_drop, if_pos hu]
  rw [e, List.getElem?_set]
  by_cases h : u = i
  · rw [if_pos h, if_pos h.symm, if_pos (by omega)]
  · rw [if_neg h, if_neg (Ne.symm h)]
theorem Rows.add0 {h : List (Nat × AX.Obj)} {m : Nat} {cs : List AV} {N : Nat} {K : Nat → List Int} {ids : Nat → Nat} (R : Rows h m cs N K ids) {u : Nat} (hu : u < N) (hK : K u = []) (k : Int) {K' : Nat → List Int} (hK' : ∀ i, K' i = if i = u then K u ++ [k] else K i) (hm : 1 ≤ m) :
    Rows ((m, .cells 1 [.int .i64 k] false) :: h) (m + 1) (cs.take u ++ .sl m 1 0 1 1 :: cs.drop (u + 1)) N K' (fun i => if i = u then m else ids i) := by
  have hl := R.len
  refine ⟨?_, fun i hi => ?_, fun i hi hk => ?_, fun i hi hk => ?_, fun i j hi hj hki hkj he => ?_⟩
  · rw [List.length_append, List.length_take, List.length_cons, List.length_drop]; omega
  · rw [set_get (by omega), hK' i]
    by_cases h : i = u
    · subst h; simp [hK]
    · rw [if_neg h, if_neg h]; simp only [if_neg h]; exact R.cell i hi
  · rw [hK' i] at hk ⊢
    by_cases h : i = u
    · subst h; simp [hK, AX.look, cellsL, Enc.cells]
    · rw [if_neg h] at hk
      simp only [if_neg h]
      have := (R.lo i hi hk).2
      simp only [AX.look]; rw [if_neg (by omega)]; exact R.obj i hi hk
  · rw [hK' i] at hk
    by_cases h : i = u
    · simp only [if_pos h]; omega
    · rw [if_neg h] at hk
      simp only [if_neg h]
      have := R.lo i hi hk; omega
  · rw [hK' i] at hki
    rw [hK' j] at hkj
    by_cases h : i = u
    · by_cases h' : j = u
      · omega
      · rw [if_neg h'] at hkj
        simp only [if_pos h, if_neg h'] at he
        have := R.lo j hj hkj; omega
    · rw [if_neg h] at hki
      by_cases h' : j = u
      · simp only [if_neg h, if_pos h'] at he
        have := R.lo i hi hki; omega
      · rw [if_neg h'] at hkj
        simp only [if_neg h, if_neg h'] at he
        exact R.inj i j hi hj hki hkj he
theorem Rows.add1 {h : List (Nat × AX.Obj)} {m : Nat} {cs : List AV} {N : Nat} {K : Nat → List Int} {ids : Nat → Nat} (R : Rows h m cs N K ids) {u : Nat} (hu : u < N) (hK : K u ≠ []) (k : Int) {K' : Nat → List Int} (hK' : ∀ i, K' i = if i = u then K u ++ [k] else K i) :
    Rows (putAt (ids u) (.cells ((K u).length + 1) (cellsL (K u) ++ [.int .i64 k]) false) h) m (cs.take u ++ .sl (ids u) ((K u).length + 1) 0 ((K u).length + 1) 1 :: cs.drop (u + 1)) N K' ids := by
  have hl := R.len
  have hne : ∀ i, K' i ≠ [] → K i ≠ [] ∨ i = u := fun i h => by
    rw [hK' i] at h
    by_cases h' : i = u
    · exact .inr h'
    · rw [if_neg h'] at h; exact .inl h
  refine ⟨?_, fun i hi => ?_, fun i hi hk => ?_, fun i hi hk => ?_, fun i j hi hj hki hkj he => ?_⟩
  · rw [List.length_append, List.length_take, List.length_cons, List.length_drop]; omega
  · rw [set_get (by omega), hK' i]
    by_cases h : i = u
    · subst h; simp
    · rw [if_neg h, if_neg h]; exact R.cell i hi
  · rw [hK' i] at hk ⊢
    by_cases h : i = u
    · subst h
      rw [if_pos rfl, look_put_eq (R.obj i hi hK), cellsL_append]
      simp; rfl
    · rw [if_neg h] at hk ⊢
      rw [look_put_ne (fun e => h (R.inj i u hi hu hk hK e.symm))]; exact R.obj i hi hk
  · rcases hne i hk with h | h
    · exact R.lo i hi h
    · subst h; exact R.lo i hi hK
  · have a : K i ≠ [] := by rcases hne i hki with h | h; exact h; subst h; exact hK
    have b : K j ≠ [] := by rcases hne j hkj with h | h; exact h; subst h; exact hK
    exact R.inj i j hi hj a b he

theorem w_Tree (p : Page) (hp : PgOk p) : PureF Tryz.prog 55 [Enc.av p] (.bool (treeB p)) := by
  refine pureF_W mix c55 (by kernel_rfl) (by kernel_rfl) (by simp [flats, flat_av, Go.AX.flat]) (by first | exact flat_av _ | simp [flat, flats, flat_av]) ?_
  have hpl := hp.len
  cases hpe : p with
  | nil =>
    rw [treeB_false (fun t => t.ne rfl)]
    simp -implicitDefEqProofs only [F55, go_sem, Int.reduceNeg, Nat.reduceEqDiff, reduceCtorEq, ↓reduceIte]
    refine andI_intro (by kernel_rfl) ?_
    simp -implicitDefEqProofs only [go_sem, ↓reduceIte]
  | cons x r =>
  rw [← hpe]
  have h0 : p[0]? = some x := by rw [hpe]; rfl
  have hl0 : ((p.length : Int) = 0) = False := eq_false (by rw [hpe]; simp; omega)
  have nroot : ∀ (P : Prop), (∀ t : TreeP p, P) → ¬ P → treeB p = false := fun P h1 h2 => treeB_false fun t => h2 (h1 t)
  simp -implicitDefEqProofs only [F55, hl0, h0, go_sem, Int.reduceNeg, Int.reduceToNat, Nat.reduceEqDiff, reduceCtorEq, ↓reduceIte]
  have hxok := (Node.ok_iff x).1 (hp.ok.2 x (List.mem_of_getElem? h0))
  have hcat : (List.length x.name + List.length x.text ≤ 9223372036854775807) = True := eq_true (by have h1 : List.length x.name ≤ 140737488355328 := hxok.1; have h2 : List.length x.text ≤ 140737488355328 := hxok.2.2.1; omega)
  by_cases r1 : x.up = -1
  case neg =>
    rw [nroot _ (fun t => (t.root x h0).1) r1]
    simp -implicitDefEqProofs only [r1, hl0, h0, go_sem, Int.reduceNeg, Nat.reduceEqDiff, reduceCtorEq, ↓reduceIte]
    refine andI_intro (by kernel_rfl) ?_
    simp -implicitDefEqProofs only [go_sem, Int.reduceNeg, ↓reduceIte]
  by_cases r2 : x.name ++ x.text = []
  case neg =>
    rw [nroot (x.name ++ x.text = []) (fun t => by rw [(t.root x h0).2.1, (t.root x h0).2.2.1]; rfl) r2]
    simp -implicitDefEqProofs only [r1, r2, hcat, hl0, h0, go_sem, Int.reduceNeg, Int.reduceToNat, Nat.reduceEqDiff, reduceCtorEq, ↓reduceIte]
    refine andI_intro (by kernel_rfl) ?_
    simp -implicitDefEqProofs only [go_sem, Int.reduceNeg, ↓reduceIte]
  by_cases r4 : x.attrs = []
  case neg =>
    rw [nroot _ (fun t => (t.root x h0).2.2.2) r4]
    have hg : ((x.attrs.length : Int) > 0) = True := eq_true (by have := List.length_pos_iff.2 r4; omega)
    simp -implicitDefEqProofs only [r1, r2, hcat, hg, hl0, h0, go_sem, Int.reduceNeg, Int.reduceToNat, Nat.reduceEqDiff, reduceCtorEq, ↓reduceIte]
    refine andI_intro (by kernel_rfl) ?_
    simp -implicitDefEqProofs only [go_sem, Int.reduceNeg, ↓reduceIte]
  have hg : ((x.attrs.length : Int) > 0) = False := eq_false (by rw [r4]; simp)
  have hcap : (p.length * 24 ≤ 140737488355328 ∧ p.length ≤ 9223372036854775807) = True := eq_true (by omega)
  have hcap2 : (p.length * 24 ≤ 140737488355328) = True := eq_true (by omega)
  have hcap3 : (p.length ≤ 9223372036854775807) = True := eq_true (by omega)
  have rep : ∀ q : Nat, (List.replicate q [AV.nils]).flatten = List.replicate q .nils := fun q => by
    induction q with
    | zero => rfl
    | succ q ih => rw [List.replicate_succ, List.flatten_cons, ih]; rfl
  simp -implicitDefEqProofs only [r1, r2, hcat, hg, hl0, h0, go_sem, Int.reduceNeg, Int.reduceToNat, Nat.reduceEqDiff, reduceCtorEq, ↓reduceIte]
  refine andI_intro (by kernel_rfl) ?_
  simp -implicitDefEqProofs only [hcap, hcap2, hcap3, rep, go_sem, Int.reduceNeg, reduceCtorEq, ↓reduceIte]
  refine LoopI_sl (fun q : Nat × List AV × (Nat → Nat) => p.length - q.1) (fun q => [(0, Enc.av p), (3, .sl 0 p.length 0 p.length 1), (41, Enc.av p), (42, .int .i64 p.length), (43, .int .i64 q.1)])
    (fun q s => q.1 ≤ p.length ∧ (∀ (j : Nat) y, 1 ≤ j → j < q.1 → p[j]? = some y → 0 ≤ y.up ∧ y.up < (j : Int)) ∧ 1 ≤ s.next ∧ AX.look 0 s.heap = some (.cells p.length q.2.1 false) ∧ Rows s.heap s.next q.2.1 p.length (kidsOf p q.1) q.2.2) (0, List.replicate p.length .nils, fun _ => 0) ?_ ?_
  · simp -implicitDefEqProofs only [hcap, rep, go_sem, Int.reduceNeg, Nat.reduceEqDiff, reduceCtorEq, ↓reduceIte]
    refine ⟨fun j y _ h => h.elim, by simp, fun i hi => ?_, fun i hi h => (h (by simp [kidsOf])).elim, fun i hi h => (h (by simp [kidsOf])).elim, fun i j _ _ h => (h (by simp [kidsOf])).elim⟩
    rw [if_pos (by simp [kidsOf])]; simp [hi]
  rintro ⟨k, cs, ids⟩ ρ ⟨g, m⟩ ⟨h1, h2, h3, h4, h5⟩
  dsimp only at h1 h2 h3 h4 h5
  rcases Nat.lt_or_ge k p.length with hk | hk
  · obtain ⟨y, hy, hd, hm⟩ := get_drop hk
    have hlt : ((k : Int) < (p.length : Int)) = True := eq_true (by omega)
    have w1 : IntKind.i64.wrap ((k : Int) + 1) = ((k + 1 : Nat) : Int) := by rw [wrap64 (by omega) (by omega)]; omega
    have m0 : (m = 0) = False := eq_false (by omega)
    have i0 : (0 < m) = True := eq_true (by omega)
    have i1 : (0 < m + 1) = True := eq_true (by omega)
    have i2 : (0 < m + 1 + 1) = True := eq_true (by omega)
    simp -implicitDefEqProofs only [hlt, hy, h4, m0, i0, i1, i2, go_sem, Nat.reduceAdd, Nat.reduceEqDiff, Nat.reduceLeDiff, reduceCtorEq, ↓reduceIte]
    by_cases hk0 : k = 0
    · have z0 : ((k : Int) = 0) = True := eq_true (by omega)
      simp -implicitDefEqProofs only [z0, w1, go_sem, Nat.reduceEqDiff, Nat.reduceLeDiff, reduceCtorEq, ↓reduceIte]
      refine ⟨(k + 1, cs, ids), by simp only; omega, rfl, by simp only; omega, fun j z a b hz => by simp only at b; omega, ?_⟩
      rw [if_neg (by omega)]
      refine ⟨h4, (h5.push _).congr fun i => ?_⟩
      subst hk0
      rw [kidsOf_one]; simp [kidsOf]
    have z0 : ((k : Int) = 0) = False := eq_false (by omega)
    by_cases u1 : y.up < 0
    · rw [nroot _ (fun t => (t.up k y (by omega) hy).1) (by omega)]
      simp -implicitDefEqProofs only [z0, u1, hy, go_sem, Nat.reduceAdd, Nat.reduceEqDiff, Nat.reduceLeDiff, reduceCtorEq, ↓reduceIte]
    by_cases u2 : y.up ≥ (k : Int)
    · rw [nroot _ (fun t => (t.up k y (by omega) hy).2) (by omega)]
      simp -implicitDefEqProofs only [z0, u1, u2, hy, go_sem, Nat.reduceAdd, Nat.reduceEqDiff, Nat.reduceLeDiff, ↓reduceIte]
    obtain ⟨u, hu⟩ := Int.eq_ofNat_of_zero_le (show 0 ≤ y.up by omega)
    have hul : (u < p.length) = True := eq_true (by omega)
    have hcl := h5.len
    have hle : (u ≤ cs.length) = True := eq_true (by omega)
    rw [hu] at u1 u2
    have hcell := h5.cell u (by omega)
    have hdr : List.drop u cs = (if kidsOf p k u = [] then AV.nils else .sl (ids u) (kidsOf p k u).length 0 (kidsOf p k u).length 1) :: List.drop (u + 1) cs := by
      rw [List.drop_eq_getElem_cons (by omega)]
      rw [List.getElem?_eq_getElem (by omega)] at hcell
      simp only [Option.some.injEq] at hcell
      rw [hcell]
    have hle' : (u ≤ p.length) = True := eq_true (by omega)
    have hle1 : (u + 1 ≤ cs.length) = True := eq_true (by omega)
    have hle2 : (u + 1 ≤ p.length) = True := eq_true (by omega)
    have hK' : ∀ i, kidsOf p (k + 1) i = if i = u then kidsOf p k u ++ [(k : Int)] else kidsOf p k i := fun i => by
      rw [kidsOf_succ p k i (by omega), upOf_eq hy, hu]
      by_cases h : i = u
      · subst h; simp
      · rw [if_neg (by omega), if_neg h, List.append_nil]
    have hup' : ∀ (j : Nat) z, 1 ≤ j → j < k + 1 → p[j]? = some z → 0 ≤ z.up ∧ z.up < (j : Int) := fun j z a b hz => by
      rcases Nat.lt_or_ge j k with h | h
      · exact h2 j z a h hz
      · have : j = k := by omega
        subst this
        rw [hy] at hz
        simp only [Option.some.injEq] at hz
        subst hz; omega
    have m1 : (m + 1 = 0) = False := eq_false (by omega)
    have m2 : (m + 1 + 1 = 0) = False := eq_false (by omega)
    have n1 : (m + 1 = m) = False := eq_false (by omega)
    have n2 : (m + 1 + 1 = m) = False := eq_false (by omega)
    have n3 : (m + 1 + 1 = m + 1) = False := eq_false (by omega)
    have n4 : (0 = m) = False := eq_false (by omega)
    have i3 : (0 < m + 1 + 1 + 1) = True := eq_true (by omega)
    have j1 : (m < m + 1 + 1) = True := eq_true (by omega)
    have j2 : (m + 1 < m + 1 + 1) = True := eq_true (by omega)
    have j3 : (m < m + 1 + 1 + 1) = True := eq_true (by omega)
    have j4 : (m + 1 < m + 1 + 1 + 1) = True := eq_true (by omega)
    by_cases hK : kidsOf p k u = []
    · rw [if_pos hK] at hdr
      simp -implicitDefEqProofs only [z0, u1, u2, hy, hu, hul, h4, m0, i0, i1, i2, i3, hle, hle', hdr, hle1, hle2, hcl, m1, m2, n1, n2, n3, n4, j1, j2, j3, j4, w1, go_sem, Nat.reduceAdd, Nat.reduceEqDiff, Nat.reduceLeDiff, reduceCtorEq, ↓reduceIte]
      refine andI_intro (by (first | omega | (simp [indepB, indep1, apart1, Nat.testBit_eq_decide_div_mod_eq]; done) | (simp [indepB, indep1, apart1, Nat.testBit_eq_decide_div_mod_eq]; omega) | kernel_rfl)) ?_
      simp -implicitDefEqProofs only [z0, u1, u2, hy, hu, hul, h4, m0, i0, i1, i2, i3, hle, hle', hdr, hle1, hle2, hcl, m1, m2, n1, n2, n3, n4, j1, j2, j3, j4, w1, go_sem, Nat.reduceEqDiff, Nat.reduceLeDiff, reduceCtorEq, ↓reduceIte]
      have e : List.take u cs ++ [AV.sl (m + 1 + 1) 1 0 1 1] ++ List.drop (u + 1) cs = List.take u cs ++ AV.sl (m + 1 + 1) 1 0 1 1 :: List.drop (u + 1) cs := by simp
      rw [e]
      exact ⟨(k + 1, _, _), by simp only; omega, rfl, by simp only; omega, hup', rfl, (((h5.put0 _).push _).push _).add0 (by omega) hK (k : Int) hK' (by omega)⟩
    · rw [if_neg hK] at hdr
      have hobj := h5.obj u (by omega) hK
      have hlo := h5.lo u (by omega) hK
      have hKl := kidsOf_len p k u
      have b0 : (ids u = 0) = False := eq_false (by omega)
      have b1 : (0 = ids u) = False := eq_false (by omega)
      have b2 : (m = ids u) = False := eq_false (by omega)
      have b3 : (m + 1 = ids u) = False := eq_false (by omega)
      have b4 : (ids u = m) = False := eq_false (by omega)
      have b5 : (ids u < m + 1 + 1) = True := eq_true (by omega)
      have hc1 : (cellsL (kidsOf p k u)).length = (kidsOf p k u).length := ints_len _
      have ht : List.take (kidsOf p k u).length (cellsL (kidsOf p k u)) = cellsL (kidsOf p k u) := List.take_of_length_le (by omega)
      have hbd : (((kidsOf p k u).length + 1) * 8 ≤ 140737488355328) = True := eq_true (by omega)
      simp -implicitDefEqProofs only [z0, u1, u2, hy, hu, hul, h4, m0, i0, i1, i2, i3, hle, hle', hdr, hle1, hle2, hcl, m1, m2, n1, n2, n3, n4, j1, j2, j3, j4, w1, hobj, b0, b1, b2, b3, b4, b5, hc1, ht, hbd, go_sem, Nat.reduceAdd, Nat.reduceEqDiff, Nat.reduceLeDiff, reduceCtorEq, ↓reduceIte]
      refine andI_intro (by (first | omega | (simp [indepB, indep1, apart1, Nat.testBit_eq_decide_div_mod_eq]; done) | (simp [indepB, indep1, apart1, Nat.testBit_eq_decide_div_mod_eq]; omega) | kernel_rfl)) ?_
      simp -implicitDefEqProofs only [z0, u1, u2, hy, hu, hul, h4, m0, i0, i1, i2, i3, hle, hle', hdr, hle1, hle2, hcl, m1, m2, n1, n2, n3, n4, j1, j2, j3, j4, w1, hobj, b0, b1, b2, b3, b4, b5, hc1, ht, hbd, go_sem, Nat.reduceEqDiff, Nat.reduceLeDiff, reduceCtorEq, ↓reduceIte]
      have e : List.take u cs ++ [AV.sl (ids u) ((kidsOf p k u).length + 1) 0 ((kidsOf p k u).length + 1) 1] ++ List.drop (u + 1) cs = List.take u cs ++ AV.sl (ids u) ((kidsOf p k u).length + 1) 0 ((kidsOf p k u).length + 1) 1 :: List.drop (u + 1) cs := by simp
      rw [e]
      exact ⟨(k + 1, _, ids), by simp only; omega, rfl, by simp only; omega, hup', rfl, ((((h5.add1 (by omega) hK (k : Int) hK').put0 _).push _).push _)⟩
  · have hlt : ((k : Int) < (p.length : Int)) = False := eq_false (by omega)
    have hkl : k = p.length := by omega
    subst hkl
    have hups : ∀ (j : Nat) z, 1 ≤ j → p[j]? = some z → 0 ≤ z.up ∧ z.up < (j : Int) := fun j z a hz => h2 j z a (getElem_lt hz) hz
    simp -implicitDefEqProofs only [hlt, go_sem, Nat.reduceEqDiff, reduceCtorEq, ↓reduceIte]
    refine LoopI_sl (fun n : Nat => p.length - n) (fun n => [(0, Enc.av p), (3, .sl 0 p.length 0 p.length 1), (72, Enc.av p), (73, .int .i64 p.length), (74, .int .i64 n)])
      (fun n s => n ≤ p.length ∧ (∀ (j : Nat) z, j < n → p[j]? = some z → z.kids = kidsOf p p.length j) ∧ 1 ≤ s.next ∧ AX.look 0 s.heap = some (.cells p.length cs false) ∧
        ∀ i, i < p.length → kidsOf p p.length i ≠ [] → (1 ≤ ids i ∧ ids i < s.next) ∧ ∃ sn, AX.look (ids i) s.heap = some (.cells (kidsOf p p.length i).length (cellsL (kidsOf p p.length i)) sn)) 0 ?_ ?_
    · simp -implicitDefEqProofs only [go_sem, Nat.reduceEqDiff, reduceCtorEq, ↓reduceIte]
      exact ⟨fun j z h => h.elim, h3, h4, fun i hi hk => ⟨h5.lo i hi hk, false, h5.obj i hi hk⟩⟩
    have hcs := h5.cell
    have hcl := h5.len
    have hinj := h5.inj
    clear h1 h2 h3 h4 h5 hk hlt
    rintro n ρ ⟨g2, m⟩ ⟨h1, h2, h3, h4, h5⟩
    dsimp only at h3 h4 h5
    rcases Nat.lt_or_ge n p.length with hn | hn
    · obtain ⟨y, hy, hd, hm⟩ := get_drop hn
      have hlt : ((n : Int) < (p.length : Int)) = True := eq_true (by omega)
      have w1 : IntKind.i64.wrap ((n : Int) + 1) = ((n + 1 : Nat) : Int) := by rw [wrap64 (by omega) (by omega)]; omega
      have m0 : (m = 0) = False := eq_false (by omega)
      have n4 : (0 = m) = False := eq_false (by omega)
      have i0 : (0 < m) = True := eq_true (by omega)
      have i1 : (0 < m + 1) = True := eq_true (by omega)
      have hnl : (n < p.length) = True := eq_true hn
      have hle : (n ≤ cs.length) = True := eq_true (by omega)
      have hle' : (n ≤ p.length) = True := eq_true (by omega)
      have hyk := hp.kids y hm
      have hcell := hcs n hn
      have hdr : List.drop n cs = (if kidsOf p p.length n = [] then AV.nils else .sl (ids n) (kidsOf p p.length n).length 0 (kidsOf p p.length n).length 1) :: List.drop (n + 1) cs := by
        rw [List.drop_eq_getElem_cons (by omega)]
        rw [List.getElem?_eq_getElem (by omega)] at hcell
        simp only [Option.some.injEq] at hcell
        rw [hcell]
      have hnext : y.kids = kidsOf p p.length n → ∀ (j : Nat) z, j < n + 1 → p[j]? = some z → z.kids = kidsOf p p.length j := fun e j z hj hz => by
        rcases Nat.lt_or_ge j n with h | h
        · exact h2 j z h hz
        · have : j = n := by omega
          subst this
          rw [hy] at hz
          simp only [Option.some.injEq] at hz
          subst hz; exact e
      have hno : ¬ y.kids = kidsOf p p.length n → treeB p = false := fun e => nroot _ (fun t => t.kids n y hy) e
      by_cases hK : kidsOf p p.length n = []
      · rw [if_pos hK] at hdr
        rw [hK] at hnext hno
        simp -implicitDefEqProofs only [hlt, hnl, hy, h4, m0, n4, i0, i1, hle, hle', hdr, hcl, go_sem, Nat.reduceAdd, Nat.reduceEqDiff, Nat.reduceLeDiff, reduceCtorEq, ↓reduceIte]
        refine dcallI_pure (w_Equal y.kids [] (by omega)) ?_
        simp -implicitDefEqProofs only [hlt, hnl, hy, h4, m0, n4, i0, i1, hle, hle', hdr, hcl, go_sem, ↓reduceIte]
        refine andI_intro (by (first | omega | (simp [indepB, indep1, apart1, Nat.testBit_eq_decide_div_mod_eq]; done) | (simp [indepB, indep1, apart1, Nat.testBit_eq_decide_div_mod_eq]; omega) | kernel_rfl)) ?_
        by_cases e : y.kids = []
        · simp -implicitDefEqProofs only [e, w1, h4, m0, n4, go_sem, Nat.reduceEqDiff, Nat.reduceLeDiff, reduceCtorEq, ↓reduceIte]
          refine ⟨n + 1, by omega, rfl, by omega, hnext e, fun i hi hk => ?_⟩
          obtain ⟨a, sn, b⟩ := h5 i hi hk
          exact ⟨by omega, sn, by rw [if_neg (by omega)]; exact b⟩
        · simp -implicitDefEqProofs only [e, go_sem, ↓reduceIte]
          rw [hno e]
      · rw [if_neg hK] at hdr
        obtain ⟨⟨a1, a2⟩, sn, hob⟩ := h5 n hn hK
        have b0 : (ids n = 0) = False := eq_false (by omega)
        have b1 : (m = ids n) = False := eq_false (by omega)
        have b2 : (ids n = m) = False := eq_false (by omega)
        have b3 : (ids n < m + 1) = True := eq_true (by omega)
        have b4 : (0 = ids n) = False := eq_false (by omega)
        have hc1 : (cellsL (kidsOf p p.length n)).length = (kidsOf p p.length n).length := ints_len _
        have ht : List.take (kidsOf p p.length n).length (cellsL (kidsOf p p.length n)) = cellsL (kidsOf p p.length n) := List.take_of_length_le (by omega)
        cases sn
        all_goals
          simp -implicitDefEqProofs only [hlt, hnl, hy, h4, m0, n4, i0, i1, hle, hle', hdr, hcl, hob, b0, b1, b2, b3, b4, hc1, ht, go_sem, Nat.reduceAdd, Nat.reduceEqDiff, Nat.reduceLeDiff, reduceCtorEq, ↓reduceIte]
          refine dcallI_pure (w_Equal y.kids (kidsOf p p.length n) (by omega)) ?_
          simp -implicitDefEqProofs only [hlt, hnl, hy, h4, m0, n4, i0, i1, hle, hle', hdr, hcl, hob, b0, b1, b2, b3, b4, hc1, ht, go_sem, ↓reduceIte]
          refine andI_intro (by (first | omega | (simp [indepB, indep1, apart1, Nat.testBit_eq_decide_div_mod_eq]; done) | (simp [indepB, indep1, apart1, Nat.testBit_eq_decide_div_mod_eq]; omega) | kernel_rfl)) ?_
          by_cases e : y.kids = kidsOf p p.length n
          · simp -implicitDefEqProofs only [e, w1, h4, hob, b0, b1, b2, b3, b4, m0, n4, go_sem, Nat.reduceEqDiff, Nat.reduceLeDiff, reduceCtorEq, ↓reduceIte]
            refine ⟨n + 1, by omega, rfl, by omega, hnext e, fun i hi hk => ?_⟩
            obtain ⟨a, sn, b⟩ := h5 i hi hk
            rw [if_neg (by omega)]
            by_cases hni : ids n = ids i
            · have : n = i := hinj n i hn hi hK hk hni
              subst this
              exact ⟨by omega, true, by rw [if_pos rfl]⟩
            · exact ⟨by omega, sn, by rw [if_neg hni]; exact b⟩
          · simp -implicitDefEqProofs only [e, go_sem, ↓reduceIte]
            rw [hno e]
    · have hlt : ((n : Int) < (p.length : Int)) = False := eq_false (by omega)
      simp -implicitDefEqProofs only [hlt, go_sem, Nat.reduceEqDiff, reduceCtorEq, ↓reduceIte]
      have hne := List.append_eq_nil_iff.1 r2
      rw [treeB_true ⟨by rw [hpe]; simp, fun a ha => ?_, hups, fun j y hy => h2 j y (by have := getElem_lt hy; omega) hy⟩]
      rw [h0] at ha
      simp only [Option.some.injEq] at ha
      subst ha
      exact ⟨r1, hne.1, hne.2, r4⟩
end W14
/- The program's answers. -/
set_option linter.unusedSimpArgs false
set_option linter.unusedVariables false
namespace W14
open Go Go.AX Go.AX.Ty Go.Proofs

theorem elem_at {p : Page} {n : Int} (h : elemB p n = true) : ∃ (k : Nat) (x : Ty.Node), n = k ∧ p[k]? = some x ∧ x.name ≠ [] := by
  rcases node_cases p n with ⟨e, _⟩ | ⟨k, x, e1, _, hx, e⟩
  · simp [elemB, e] at h
  · simp only [elemB, e, decide_eq_true_eq] at h
    exact ⟨k, x, e1, hx, h⟩
/-- does a node fit a selector? -/
noncomputable def isB (p : Page) (st : List Ty.State) (n : Int) (parts : List Part) : Bool := treeB p && (decide (parts ≠ []) && fitsB p st parts (parts.length - 1) n)
theorem fitsB_elem {p : Page} {st : List Ty.State} {parts : List Part} {k : Nat} {n : Int} (h : elemB p n = false) : fitsB p st parts k n = false := by
  cases k <;> simp [fitsB, h]
def OwnG (lo : Nat) (h : List (Nat × AX.Obj)) (m : Nat) (v : AV) (l : List Int) : Prop := (l = [] ∧ v = .nils) ∨ ∃ b, v = .sl b l.length 0 l.length 1 ∧ b < m ∧ lo ≤ b ∧ AX.look b h = some (.cells l.length (cellsL l) false)
noncomputable def allTo (p : Page) (st : List Ty.State) (parts : List Part) (k : Nat) : List Int := ((List.range k).filter fun n : Nat => isB p st n parts).map fun n : Nat => (n : Int)
noncomputable def allB (p : Page) (st : List Ty.State) (parts : List Part) : List Int := allTo p st parts p.length
theorem allTo_succ (p : Page) (st : List Ty.State) (parts : List Part) (k : Nat) : allTo p st parts (k + 1) = allTo p st parts k ++ (if isB p st k parts = true then [(k : Int)] else []) := by
  unfold allTo
  rw [List.range_succ, List.filter_append, List.map_append]
  congr 1
  by_cases h : isB p st k parts = true <;> simp [h]
theorem allTo_len (p : Page) (st : List Ty.State) (parts : List Part) (k : Nat) : (allTo p st parts k).length ≤ k := by
  unfold allTo
  rw [List.length_map]
  exact Nat.le_trans (List.length_filter_le _ _) (by simp)
end W14
/- Guards. -/
set_option linter.unusedSimpArgs false
set_option linter.unusedVariables false
namespace W14
open Go Go.AX Go.AX.Ty Go.Proofs

mutual
def siz : Simple → Nat
  | .mk _ _ _ _ _ l => 1 + sizL l
def sizL : List Simple → Nat
  | [] => 0
  | x :: r => siz x + sizL r
end
theorem siz_eq (x : Simple) : siz x = 1 + sizL x.l := by cases x; simp only [siz, Simple.l]
theorem len_sizL : ∀ l : List Simple, l.length ≤ sizL l
  | [] => by simp [sizL]
  | x :: r => by have := len_sizL r; have := siz_eq x; simp only [List.length_cons, sizL]; omega

def badS (n v : Str) : Bool := decide (n.length > 100) || decide (v.length > 100)
mutual
def cu (m : Int) : Simple → Int → Int
  | .mk _ nm v _ _ l, n => if badS nm v then m + 1 else cuL m l (n + 1)
def cuL (m : Int) : List Simple → Int → Int
  | [], n => n
  | x :: r, n => if n ≤ m then cuL m r (cu m x n) else n
end
theorem cu_eq (m : Int) (x : Simple) (n : Int) : cu m x n = if badS x.name x.value then m + 1 else cuL m x.l (n + 1) := by
  cases x; simp only [cu, Simple.name, Simple.value, Simple.l]; rfl
theorem cuL_big (m : Int) : ∀ (l : List Simple) (n : Int), m < n → cuL m l n = n
  | [], n, _ => by simp [cuL]
  | x :: r, n, h => by simp only [cuL]; rw [if_neg (by omega)]
mutual
/-- texts of at most 100 bytes, in all depths -/
def shortS : Simple → Prop
  | .mk _ nm v _ _ l => nm.length ≤ 100 ∧ v.length ≤ 100 ∧ shortL l
def shortL : List Simple → Prop
  | [] => True
  | x :: r => shortS x ∧ shortL r
end
mutual
theorem cu_ok (m : Int) : ∀ (x : Simple) (n : Int), n ≤ m → (n ≤ cu m x n ∧ cu m x n ≤ m + 1) ∧ (cu m x n ≤ m → cu m x n = n + siz x ∧ shortS x)
  | .mk _ nm v _ _ l, n, hn => by
    simp only [cu, siz, shortS]
    by_cases hb : badS nm v = true
    · rw [if_pos hb]; refine ⟨by omega, fun h => by omega⟩
    · rw [if_neg hb]
      simp [badS] at hb
      obtain ⟨h1, h2⟩ := cuL_ok m l (n + 1) (by omega)
      refine ⟨by omega, fun h => ?_⟩
      obtain ⟨h3, h4⟩ := h2 h
      exact ⟨by omega, by omega, by omega, h4⟩
theorem cuL_ok (m : Int) : ∀ (l : List Simple) (n : Int), n ≤ m + 1 → (n ≤ cuL m l n ∧ cuL m l n ≤ m + 1) ∧ (cuL m l n ≤ m → cuL m l n = n + sizL l ∧ shortL l)
  | [], n, hn => by simp [cuL, sizL, shortL]; omega
  | x :: r, n, hn => by
    simp only [cuL, sizL, shortL]
    by_cases h : n ≤ m
    · rw [if_pos h]
      obtain ⟨h1, h2⟩ := cu_ok m x n h
      obtain ⟨h3, h4⟩ := cuL_ok m r (cu m x n) (by omega)
      refine ⟨by omega, fun h' => ?_⟩
      obtain ⟨h5, h6⟩ := h4 h'
      obtain ⟨h7, h8⟩ := h2 (by omega)
      exact ⟨by omega, h8, h6⟩
    · rw [if_neg h]; exact ⟨by omega, fun h' => by omega⟩
end

theorem w_count (m : Int) (hm : 0 ≤ m ∧ m ≤ 1000000) : ∀ (N : Nat) (l : List Simple), sizL l ≤ N → Enc.ok l → ∀ n : Int, 0 ≤ n → n ≤ m + 1 →
    PureF Tryz.prog 46 [Enc.av l, Enc.av n, Enc.av m] (Enc.av (cuL m l n)) := fun N => by
  induction N using Nat.strongRecOn with
  | ind N ih =>
  intro l hN hok n hn0 hn1
  refine pureF_W mix c46 (by kernel_rfl) (by kernel_rfl) (by simp [flats, flat_av, Go.AX.flat]) (by first | exact flat_av _ | simp [flat, flats, flat_av]) ?_
  simp -implicitDefEqProofs only [F46, go_sem]
  refine LoopI_sl (fun p : Nat × Int => l.length - p.1) (fun p => [(0, Enc.av l), (1, .int .i64 p.2), (2, .int .i64 m), (7, .int .i64 p.1)])
    (fun p s => p.1 ≤ l.length ∧ 0 ≤ p.2 ∧ p.2 ≤ m + 1 ∧ cuL m (l.drop p.1) p.2 = cuL m l n ∧ sizL (l.drop p.1) ≤ N) (0, n) ?_ ?_
  · simp -implicitDefEqProofs only [go_sem, Nat.reduceEqDiff, reduceCtorEq, ↓reduceIte]
    (try simp); omega
  rintro ⟨k, q⟩ ρ ⟨hp, nx⟩ ⟨h1, h2, h3, h4, h5⟩
  dsimp only at h1 h2 h3 h4 h5
  rcases Nat.lt_or_ge k l.length with hk | hk
  · obtain ⟨x, hx, hd, hm'⟩ := get_drop hk
    have hlt : ((k : Int) < (l.length : Int)) = True := eq_true (by omega)
    have hox := hok.2 x hm'
    rw [Simple.ok_iff] at hox
    simp only [hd, sizL] at h5
    rw [siz_eq] at h5
    have w1 : IntKind.i64.wrap ((k : Int) + 1) = ((k + 1 : Nat) : Int) := by have := hok.1; rw [wrap64 (by omega) (by omega)]; omega
    have w2 : IntKind.i64.wrap (q + 1) = q + 1 := wrap64 (by omega) (by omega)
    have w3 : IntKind.i64.wrap (m + 1) = m + 1 := wrap64 (by omega) (by omega)
    rcases Int.lt_or_le m q with hq | hq
    · have hT : (q ≤ m) = False := eq_false (by omega)
      rw [cuL_big m _ _ hq] at h4
      simp -implicitDefEqProofs only [hlt, hT, hx, ← h4, go_sem, Nat.reduceEqDiff, reduceCtorEq, ↓reduceIte]
    · have hT : (q ≤ m) = True := eq_true hq
      rw [hd] at h4
      simp only [cuL, if_pos hq, cu_eq] at h4
      have ih' := ih (N - 1) (by omega) x.l (by omega) hox.2.2.2.2.2 (q + 1) (by omega) (by omega)
      have hbd := (cuL_ok m x.l (q + 1) (by omega)).1
      simp -implicitDefEqProofs only [hlt, hT, hx, w1, w2, w3, go_sem, Nat.reduceEqDiff, reduceCtorEq, ↓reduceIte]
      repeat' (first
        | contradiction
        | (refine brI_both (fun h hT => ?_) (fun h hT => ?_) <;> try simp -implicitDefEqProofs only [hT, hx, w1, w2, w3, go_sem, Nat.reduceEqDiff, reduceCtorEq, ↓reduceIte] <;> try clear hT)
        | (refine callI_pure ih' ?_; simp -implicitDefEqProofs only [hx, w1, w2, w3, go_sem, Nat.reduceEqDiff, reduceCtorEq, ↓reduceIte]))
      · rw [if_pos (by simp [badS]; omega), cuL_big m _ _ (by omega)] at h4; rw [h4]
      · rw [if_pos (by simp [badS]; omega), cuL_big m _ _ (by omega)] at h4; rw [h4]
      · rw [if_neg (by simp [badS]; omega)] at h4
        refine ⟨(k + 1, _), by simp only; omega, ⟨rfl, rfl⟩, ?_⟩
        simp only; exact ⟨by omega, by omega, by omega, h4, by omega⟩
  · have hlt : ((k : Int) < (l.length : Int)) = False := eq_false (by omega)
    rw [drop_all hk] at h4
    simp only [cuL] at h4
    simp -implicitDefEqProofs only [hlt, h4, go_sem, Nat.reduceEqDiff, reduceCtorEq, ↓reduceIte]

/-- all of a complex selector's -/
def cuP (m : Int) : List Part → Int → Int
  | [], n => n
  | p :: r, n => if n ≤ m then cuP m r (cuL m p.l n) else n
/-- are there at most so many simple selectors, and parts, of texts of 100 bytes? -/
def smallC (m : Int) : List Complex → Int → Bool
  | [], n => decide (n ≤ m)
  | x :: r, n => if n ≤ m then (if (x.pseudo.length : Int) > 100 then false else smallC m r (cuP m x.parts (n + x.parts.length))) else false
theorem cuP_big (m : Int) : ∀ (l : List Part) (n : Int), m < n → cuP m l n = n
  | [], n, _ => by simp [cuP]
  | x :: r, n, h => by simp only [cuP]; rw [if_neg (by omega)]
def sizN : List Part → Nat
  | [] => 0
  | p :: r => sizL p.l + sizN r
def shortP : List Part → Prop
  | [] => True
  | p :: r => shortL p.l ∧ shortP r
theorem cuP_ok (m : Int) : ∀ (l : List Part) (n : Int), cuP m l n ≤ m → cuP m l n = n + sizN l ∧ shortP l
  | [], n, h => by simp [cuP, sizN, shortP]
  | p :: r, n, h => by
    simp only [cuP, sizN, shortP] at h ⊢
    by_cases hn : n ≤ m
    · rw [if_pos hn] at h ⊢
      obtain ⟨h1, h2⟩ := cuP_ok m r _ h
      have h3 := (cuL_ok m p.l n (by omega))
      obtain ⟨h4, h5⟩ := h3.2 (by omega)
      exact ⟨by omega, h5, h2⟩
    · rw [if_neg hn] at h; omega
theorem smallC_ok (m : Int) : ∀ (l : List Complex) (n : Int), smallC m l n = true → n ≤ m ∧ ∀ x ∈ l, (n + x.parts.length + sizN x.parts ≤ m ∧ shortP x.parts ∧ x.pseudo.length ≤ 100)
  | [], n, h => by simp [smallC] at h; simp [h]
  | x :: r, n, h => by
    simp only [smallC] at h
    split at h
    · split at h
      · simp at h
      · rename_i h1 h2
        obtain ⟨h3, h4⟩ := smallC_ok m r _ h
        obtain ⟨h5, h6⟩ := cuP_ok m x.parts _ h3
        refine ⟨h1, fun y hy => ?_⟩
        rcases List.mem_cons.1 hy with rfl | hy
        · exact ⟨by omega, h6, by omega⟩
        · obtain ⟨h7, h8, h9⟩ := h4 y hy
          exact ⟨by omega, h8, h9⟩
    · simp at h

theorem w_Small4 (m : Int) (hm : 0 ≤ m ∧ m ≤ 1000000) (l : List Complex) (hok : Enc.ok l) : PureF Tryz.prog 31 [Enc.av l, Enc.av m] (Enc.av (smallC m l l.length)) := by
  refine pureF_W mix c31 (by kernel_rfl) (by kernel_rfl) (by simp [flats, flat_av, Go.AX.flat]) (by first | exact flat_av _ | simp [flat, flats, flat_av]) ?_
  have hlen := hok.1
  simp -implicitDefEqProofs only [F31, go_sem, reduceCtorEq, ↓reduceIte]
  refine LoopI_sl (fun p : Nat × Int => l.length - p.1) (fun p => [(0, Enc.av l), (1, .int .i64 m), (5, .int .i64 p.2), (6, .int .i64 p.1)])
    (fun p s => p.1 ≤ l.length ∧ 0 ≤ p.2 ∧ p.2 ≤ 10000000000000000 ∧ smallC m (l.drop p.1) p.2 = smallC m l l.length) (0, l.length) ?_ ?_
  · simp -implicitDefEqProofs only [go_sem, Nat.reduceEqDiff, reduceCtorEq, ↓reduceIte]
    (try simp); omega
  rintro ⟨k, q⟩ ρ ⟨hp, nx⟩ ⟨h1, h2, h3, h4⟩
  dsimp only at h1 h2 h3 h4
  rcases Nat.lt_or_ge k l.length with hk | hk
  · obtain ⟨x, hx, hd, hm'⟩ := get_drop hk
    have hlt : ((k : Int) < (l.length : Int)) = True := eq_true (by omega)
    have hox := hok.2 x hm'
    have hxl := hox.1.1
    rw [hd] at h4
    have w1 : IntKind.i64.wrap ((k : Int) + 1) = ((k + 1 : Nat) : Int) := by rw [wrap64 (by omega) (by omega)]; omega
    rcases Int.lt_or_le m q with hq | hq
    · have hT : (q ≤ m) = False := eq_false (by omega)
      simp only [smallC, if_neg (show ¬ q ≤ m by omega)] at h4
      simp -implicitDefEqProofs only [hlt, hT, hx, ← h4, decide_false, go_sem, Nat.reduceEqDiff, reduceCtorEq, ↓reduceIte]
    · have hT : (q ≤ m) = True := eq_true hq
      simp only [smallC, if_pos hq] at h4
      have w2 : IntKind.i64.wrap (q + (x.parts.length : Int)) = q + x.parts.length := wrap64 (by omega) (by omega)
      simp -implicitDefEqProofs only [hlt, hT, hx, w2, go_sem, Nat.reduceEqDiff, reduceCtorEq, ↓reduceIte]
      refine LoopI_sl (fun p : Nat × Int => x.parts.length - p.1) (fun p => [(0, Enc.av l), (1, .int .i64 m), (5, .int .i64 p.2), (6, .int .i64 k), (7, .int .i64 p.1)])
        (fun p s => p.1 ≤ x.parts.length ∧ 0 ≤ p.2 ∧ p.2 ≤ 10000000000000000 ∧ cuP m (x.parts.drop p.1) p.2 = cuP m x.parts (q + x.parts.length)) (0, q + x.parts.length) ?_ ?_
      · simp -implicitDefEqProofs only [go_sem, Nat.reduceEqDiff, reduceCtorEq, ↓reduceIte]
        (try simp); omega
      rintro ⟨j, r⟩ ρ ⟨hp, nx⟩ ⟨g1, g2, g3, g4⟩
      dsimp only at g1 g2 g3 g4
      rcases Nat.lt_or_ge j x.parts.length with hj | hj
      · obtain ⟨y, hy, he, hn'⟩ := get_drop hj
        have hoy := hox.1.2 y hn'
        have hlt2 : ((j : Int) < (x.parts.length : Int)) = True := eq_true (by omega)
        rw [he] at g4
        have w3 : IntKind.i64.wrap ((j : Int) + 1) = ((j + 1 : Nat) : Int) := by rw [wrap64 (by omega) (by omega)]; omega
        rcases Int.lt_or_le m r with hr | hr
        · have hT2 : (r ≤ m) = False := eq_false (by omega)
          rw [cuP_big m _ _ hr] at g4
          by_cases hps : (x.pseudo.length : Int) > 100
          · have hP := eq_true hps
            rw [if_pos hps] at h4
            simp -implicitDefEqProofs only [hx, hlt2, hT2, hy, w1, hP, ← h4, go_sem, Nat.reduceEqDiff, reduceCtorEq, ↓reduceIte]
          · have hP := eq_false hps
            rw [if_neg hps] at h4
            simp -implicitDefEqProofs only [hx, hlt2, hT2, hy, w1, hP, go_sem, Nat.reduceEqDiff, reduceCtorEq, ↓reduceIte]
            refine ⟨(k + 1, _), by simp only; omega, ⟨rfl, rfl⟩, ?_⟩
            simp only
            rw [g4]
            exact ⟨by omega, by omega, by omega, h4⟩
        · have hT2 : (r ≤ m) = True := eq_true hr
          have hbd := (cuL_ok m y.l r (by omega)).1
          simp only [cuP, if_pos hr] at g4
          simp -implicitDefEqProofs only [hx, hlt2, hT2, hy, w1, w3, go_sem, Nat.reduceEqDiff, reduceCtorEq, ↓reduceIte]
          refine callI_pure (w_count m hm _ y.l (Nat.le_refl _) hoy.2 r g2 (by omega)) ?_
          simp -implicitDefEqProofs only [hx, w3, go_sem, Nat.reduceEqDiff, reduceCtorEq, ↓reduceIte]
          refine ⟨(j + 1, _), by simp only; omega, ⟨rfl, rfl⟩, ?_⟩
          simp only
          exact ⟨by omega, by omega, by omega, g4⟩
      · have hlt2 : ((j : Int) < (x.parts.length : Int)) = False := eq_false (by omega)
        rw [drop_all hj] at g4
        simp only [cuP] at g4
        by_cases hps : (x.pseudo.length : Int) > 100
        · have hP := eq_true hps
          rw [if_pos hps] at h4
          simp -implicitDefEqProofs only [hx, hlt2, w1, hP, ← h4, go_sem, Nat.reduceEqDiff, reduceCtorEq, ↓reduceIte]
        · have hP := eq_false hps
          rw [if_neg hps] at h4
          simp -implicitDefEqProofs only [hx, hlt2, w1, hP, go_sem, Nat.reduceEqDiff, reduceCtorEq, ↓reduceIte]
          refine ⟨(k + 1, _), by simp only; omega, ⟨rfl, rfl⟩, ?_⟩
          simp only
          rw [g4]
          exact ⟨by omega, by omega, by omega, h4⟩
  · have hlt : ((k : Int) < (l.length : Int)) = False := eq_false (by omega)
    rw [drop_all hk] at h4
    simp only [smallC] at h4
    simp -implicitDefEqProofs only [hlt, ← h4, go_sem, Nat.reduceEqDiff, reduceCtorEq, ↓reduceIte]

def badN (m : Int) (x : Ty.Node) : Bool := decide ((x.name.length : Int) > 100) || (decide ((x.text.length : Int) > 300) || (decide ((x.attrs.length : Int) > 20) || (decide ((x.kids.length : Int) > m) || x.attrs.any fun a => decide ((a.name.length : Int) > 100) || decide ((a.value.length : Int) > 100))))
def smallPg (m : Int) (p : Page) : Bool := decide ((p.length : Int) ≤ m) && !p.any (badN m)
theorem smallPg_ok {m : Int} {p : Page} (hm : m ≤ 1000) (hok : Enc.ok p) (h : smallPg m p = true) : PgOk p := by
  simp only [smallPg, Bool.and_eq_true, decide_eq_true_eq, Bool.not_eq_true', List.any_eq_false] at h
  refine ⟨hok, by omega, fun x hx => ?_, fun x hx a ha => ?_⟩
  · have := h.2 x hx
    simp only [badN, Bool.or_eq_true, decide_eq_true_eq, not_or] at this
    omega
  · have := h.2 x hx
    simp only [badN, Bool.or_eq_true, decide_eq_true_eq, not_or, List.any_eq_true, not_exists, not_and] at this
    have := this.2.2.2.2 a ha
    omega
theorem w_Small10 (m : Int) (p : Page) (hok : Enc.ok p) : PureF Tryz.prog 30 [Enc.av p, Enc.av m] (.bool (smallPg m p)) := by
  refine pureF_W mix c30 (by kernel_rfl) (by kernel_rfl) (by simp [flats, flat_av, Go.AX.flat]) (by first | exact flat_av _ | simp [flat, flats, flat_av]) ?_
  have hlen := hok.1
  unfold smallPg
  by_cases hbig : (p.length : Int) ≤ m
  case neg =>
    have hb : ((p.length : Int) ≤ m) = False := eq_false hbig
    simp -implicitDefEqProofs only [F30, go_sem]
    rw [LoopI_def]
    refine ⟨1, ?_⟩
    by_cases h0 : (0 : Int) < (p.length : Int)
    · simp -implicitDefEqProofs only [hb, h0, go_sem, Nat.reduceEqDiff, reduceCtorEq, ↓reduceIte]
      simp [hbig]
    · simp -implicitDefEqProofs only [hb, h0, go_sem, Nat.reduceEqDiff, reduceCtorEq, ↓reduceIte]
      simp [hbig]
  have hb : ((p.length : Int) ≤ m) = True := eq_true hbig
  simp -implicitDefEqProofs only [F30, go_sem]
  refine LoopI_sl (fun k : Nat => p.length - k) (fun k => [(0, Enc.av p), (1, Enc.av m), (5, .int .i64 k)]) (fun k s => k ≤ p.length ∧ Pre (badN m) p k) 0 ?_ ?_
  · simp -implicitDefEqProofs only [go_sem, Nat.reduceEqDiff, reduceCtorEq, ↓reduceIte]
    exact Pre.zero _ _
  rintro k ρ ⟨g, q⟩ ⟨h1, h2⟩
  rcases Nat.lt_or_ge k p.length with hk | hk
  · obtain ⟨x, hx, hd, hm⟩ := get_drop hk
    have hlt : ((k : Int) < (p.length : Int)) = True := eq_true (by omega)
    have w1 : IntKind.i64.wrap ((k : Int) + 1) = ((k + 1 : Nat) : Int) := by rw [wrap64 (by omega) (by omega)]; omega
    have hbad : badN m x = true → (decide ((p.length : Int) ≤ m) && !p.any (badN m)) = false := fun h => by rw [any_here hm h]; simp
    have hal := ((Node.ok_iff x).1 (hok.2 x hm)).2.1.1
    simp -implicitDefEqProofs only [hlt, hb, hx, go_sem, Nat.reduceAdd, Nat.reduceEqDiff, Nat.reduceLeDiff, reduceCtorEq, ↓reduceIte]
    by_cases b1 : (x.name.length : Int) > 100
    · rw [hbad (by simp [badN, b1])]
      simp -implicitDefEqProofs only [b1, go_sem, Nat.reduceEqDiff, reduceCtorEq, ↓reduceIte]
    by_cases b2 : (x.text.length : Int) > 300
    · rw [hbad (by simp [badN, b2])]
      simp -implicitDefEqProofs only [b1, b2, go_sem, Nat.reduceAdd, Nat.reduceEqDiff, Nat.reduceLeDiff, reduceCtorEq, ↓reduceIte]
    by_cases b3 : (x.attrs.length : Int) > 20
    · rw [hbad (by simp [badN, b3])]
      simp -implicitDefEqProofs only [b1, b2, b3, go_sem, Nat.reduceAdd, Nat.reduceEqDiff, Nat.reduceLeDiff, reduceCtorEq, ↓reduceIte]
    by_cases b4 : (x.kids.length : Int) > m
    · rw [hbad (by simp [badN, b4])]
      simp -implicitDefEqProofs only [b1, b2, b3, b4, go_sem, Nat.reduceAdd, Nat.reduceEqDiff, Nat.reduceLeDiff, reduceCtorEq, ↓reduceIte]
    simp -implicitDefEqProofs only [b1, b2, b3, b4, go_sem, Nat.reduceAdd, Nat.reduceEqDiff, Nat.reduceLeDiff, reduceCtorEq, ↓reduceIte]
    refine LoopI_sl (fun j : Nat => x.attrs.length - j) (fun j => [(0, Enc.av p), (1, Enc.av m), (5, .int .i64 k), (6, .ptr q 0 0), (7, .int .i64 j)])
      (fun j s => j ≤ x.attrs.length ∧ q + 1 ≤ s.next ∧ AX.look q s.heap = some (.cells 0 (Enc.cells x) false) ∧ Pre (fun a : Attr => decide ((a.name.length : Int) > 100) || decide ((a.value.length : Int) > 100)) x.attrs j) 0 ?_ ?_
    · simp -implicitDefEqProofs only [go_sem, Nat.reduceEqDiff, reduceCtorEq, ↓reduceIte]
      exact Pre.zero _ _
    rintro j ρ ⟨g2, q2⟩ ⟨j1, j2, j3, j4⟩
    dsimp only at j2 j3
    rw [Node.ecells] at j3
    rcases Nat.lt_or_ge j x.attrs.length with hj | hj
    · obtain ⟨a, ha, _, ham⟩ := get_drop hj
      have hlt2 : ((j : Int) < (x.attrs.length : Int)) = True := eq_true (by omega)
      have w2 : IntKind.i64.wrap ((j : Int) + 1) = ((j + 1 : Nat) : Int) := by rw [wrap64 (by omega) (by omega)]; omega
      by_cases a1 : (a.name.length : Int) > 100
      · rw [hbad (by simp only [badN]; rw [any_here ham (by simp [a1])]; simp)]
        simp -implicitDefEqProofs only [hlt2, ha, j3, a1, go_sem, Nat.reduceAdd, Nat.reduceEqDiff, Nat.reduceLeDiff, reduceCtorEq, ↓reduceIte]
      by_cases a2 : (a.value.length : Int) > 100
      · rw [hbad (by simp only [badN]; rw [any_here ham (by simp [a2])]; simp)]
        simp -implicitDefEqProofs only [hlt2, ha, j3, a1, a2, go_sem, Nat.reduceAdd, Nat.reduceEqDiff, Nat.reduceLeDiff, reduceCtorEq, ↓reduceIte]
      simp -implicitDefEqProofs only [hlt2, ha, j3, a1, a2, w2, go_sem, Nat.reduceAdd, Nat.reduceEqDiff, Nat.reduceLeDiff, reduceCtorEq, ↓reduceIte]
      refine ⟨j + 1, by omega, ?_⟩
      exact ⟨rfl, by omega, j2, j4.next ha (by simp; omega)⟩
    · have hlt2 : ((j : Int) < (x.attrs.length : Int)) = False := eq_false (by omega)
      simp -implicitDefEqProofs only [hlt2, j3, w1, go_sem, Nat.reduceAdd, Nat.reduceEqDiff, Nat.reduceLeDiff, reduceCtorEq, ↓reduceIte]
      refine ⟨k + 1, by omega, rfl, by omega, h2.next hx ?_⟩
      simp only [badN, Bool.or_eq_false_iff, decide_eq_false_iff_not]
      exact ⟨b1, b2, b3, b4, any_no (j4.all hj)⟩
  · have hlt : ((k : Int) < (p.length : Int)) = False := eq_false (by omega)
    simp -implicitDefEqProofs only [hlt, hb, go_sem, Nat.reduceEqDiff, reduceCtorEq, ↓reduceIte]
    rw [any_no (h2.all hk)]; simp [hbig]

def fewB (st : List Ty.State) : Bool := decide (st.length ≤ 30) && !st.any fun x => decide ((x.name.length : Int) > 100)
theorem w_Few (st : List Ty.State) (hok : Enc.ok st) : PureF Tryz.prog 19 [Enc.av st] (.bool (fewB st)) := by
  refine pureF_W mix c19 (by kernel_rfl) (by kernel_rfl) (by simp [flats, flat_av, Go.AX.flat]) (by first | exact flat_av _ | simp [flat, flats, flat_av]) ?_
  have hlen := hok.1
  unfold fewB
  by_cases hbig : st.length ≤ 30
  case neg =>
    have hb : ((st.length : Int) ≤ 30) = False := eq_false (by omega)
    simp -implicitDefEqProofs only [F19, go_sem]
    rw [LoopI_def]
    refine ⟨1, ?_⟩
    have h0 : ((0 : Int) < (st.length : Int)) = True := eq_true (by omega)
    simp -implicitDefEqProofs only [hb, h0, go_sem, Nat.reduceEqDiff, reduceCtorEq, ↓reduceIte]
    simp [hbig]
  have hb : ((st.length : Int) ≤ 30) = True := eq_true (by omega)
  simp -implicitDefEqProofs only [F19, go_sem]
  refine LoopI_sl (fun k : Nat => st.length - k) (fun k => [(0, Enc.av st), (3, .int .i64 k)]) (fun k s => k ≤ st.length ∧ Pre (fun x : Ty.State => decide ((x.name.length : Int) > 100)) st k) 0 ?_ ?_
  · simp -implicitDefEqProofs only [go_sem, reduceCtorEq, ↓reduceIte]
    exact Pre.zero _ _
  rintro k ρ ⟨g, q⟩ ⟨h1, h2⟩
  rcases Nat.lt_or_ge k st.length with hk | hk
  · obtain ⟨x, hx, hd, hm⟩ := get_drop hk
    have hlt : ((k : Int) < (st.length : Int)) = True := eq_true (by omega)
    have w1 : IntKind.i64.wrap ((k : Int) + 1) = ((k + 1 : Nat) : Int) := by rw [wrap64 (by omega) (by omega)]; omega
    simp -implicitDefEqProofs only [hlt, hb, hx, go_sem, Nat.reduceEqDiff, reduceCtorEq, ↓reduceIte]
    (refine brI_both (fun h hT => ?_) (fun h hT => ?_) <;> try simp -implicitDefEqProofs only [hT, w1, go_sem, Nat.reduceEqDiff, reduceCtorEq, ↓reduceIte] <;> try clear hT)
    · rw [any_here hm (by simpa using h)]; simp
    · exact ⟨k + 1, by omega, rfl, by omega, h2.next hx (by simpa using h)⟩
  · have hlt : ((k : Int) < (st.length : Int)) = False := eq_false (by omega)
    simp -implicitDefEqProofs only [hlt, hb, go_sem, Nat.reduceEqDiff, reduceCtorEq, ↓reduceIte]
    rw [any_no (h2.all hk)]; simp [hbig]

end W14
/- Who stands how: the document's. -/
set_option linter.unusedSimpArgs false
set_option linter.unusedVariables false
namespace W14
open Go Go.AX Go.AX.Ty Go.Proofs

theorem above_nil {p : Page} (t : TreeP p) {k : Nat} {x : Ty.Node} (hx : p[k]? = some x) (h : ¬ x.up > 0) : aboveB p k = [] := by
  rw [above_step t hx, if_neg h]
theorem w_in12 (p : Page) (hp : PgOk p) (t : TreeP p) {k : Nat} {x : Ty.Node} (hx : p[k]? = some x) (m : Int) (hm : 1 ≤ m) :
    PureF Tryz.prog 126 [Enc.av p, Enc.av (k : Int), Enc.av m] (.bool (decide (m ∈ aboveB p k))) := by
  refine pureF_W mix c126 (by kernel_rfl) (by kernel_rfl) (by simp [flats, flat_av, Go.AX.flat]) (by first | exact flat_av _ | simp [flat, flats, flat_av]) ?_
  have hk := getElem_lt hx
  simp -implicitDefEqProofs only [F126, go_sem]
  refine LoopI_sl (fun c : Int => (c + 1).toNat) (fun c => [(0, Enc.av p), (1, .int .i64 c), (2, Enc.av m)])
    (fun c s => -1 ≤ c ∧ c < p.length ∧ (c > 0 → decide (m ∈ aboveB p c) = decide (m ∈ aboveB p k)) ∧ (¬ c > 0 → decide (m ∈ aboveB p k) = false)) (k : Int) ?_ ?_
  · simp -implicitDefEqProofs only [go_sem, Int.reduceNeg, Nat.reduceEqDiff, reduceCtorEq, ↓reduceIte]
    refine ⟨by omega, by omega, fun _ => trivial, fun h => ?_⟩
    have h0 : k = 0 := by omega
    have := t.root x (by rw [← h0]; exact hx)
    rw [above_nil t hx (by omega)]; simp
  rintro c ρ ⟨g, q⟩ ⟨h1, h2, h3, h4⟩
  by_cases hc : c > 0
  · obtain ⟨j, rfl⟩ := Int.eq_ofNat_of_zero_le (show 0 ≤ c by omega)
    have hcT : ((j : Int) > 0) = True := eq_true hc
    obtain ⟨y, hy⟩ : ∃ y, p[j]? = some y := ⟨p[j]'(by omega), by simp⟩
    have hyup := t.up j y (by omega) hy
    have h5 := h3 hc
    rw [above_step t hy] at h5
    simp -implicitDefEqProofs only [hcT, hy, go_sem, Nat.reduceEqDiff, reduceCtorEq, ↓reduceIte]
    by_cases he : y.up = m
    · rw [if_pos (by omega)] at h5
      rw [← h5]
      simp -implicitDefEqProofs only [he, go_sem, ↓reduceIte]
      simp [he]
    · simp -implicitDefEqProofs only [he, go_sem, Int.reduceNeg, Nat.reduceEqDiff, reduceCtorEq, ↓reduceIte]
      refine ⟨y.up, by omega, rfl, by omega, by omega, fun h => ?_, fun h => ?_⟩
      · rw [if_pos h] at h5
        rw [← h5]
        simp [Ne.symm he]
      · rw [if_neg h] at h5
        have h6 := h5.symm
        simp at h6
        exact h6
  · have hcT : (c > 0) = False := eq_false hc
    simp -implicitDefEqProofs only [hcT, go_sem, reduceCtorEq, ↓reduceIte]
    rw [h4 hc]

def standsB (p : Page) (k m : Nat) (x y : Ty.Node) (c : Int) : Bool :=
  if c = 1 then decide ((m : Int) ∈ aboveB p k) else if c = 2 then decide (x.up = m) else if c = 3 then decide (x.up = y.up) && decide (placeB p m = placeB p k - 1)
  else if c = 4 then decide (x.up = y.up) && decide (placeB p m < placeB p k) else false
theorem w_Stands (p : Page) (hp : PgOk p) (t : TreeP p) {k m : Nat} {x y : Ty.Node} (hx : p[k]? = some x) (hy : p[m]? = some y) (hm : 1 ≤ m) (c : Int) :
    PureF Tryz.prog 100 [Enc.av p, Enc.av (k : Int), Enc.av (m : Int), Enc.av c] (.bool (standsB p k m x y c)) := by
  refine pureF_W mix c100 (by kernel_rfl) (by kernel_rfl) (by simp [flats, flat_av, Go.AX.flat]) (by first | exact flat_av _ | simp [flat, flats, flat_av]) ?_
  unfold standsB
  have b1 := place_bd hp k
  have b2 := place_bd hp m
  have w1 : IntKind.i64.wrap (placeB p k - 1) = placeB p k - 1 := wrap64 (by omega) (by omega)
  simp -implicitDefEqProofs only [F100, hx, hy, go_sem, Nat.reduceEqDiff, reduceCtorEq, ↓reduceIte]
  refine andI_intro (by kernel_rfl) ?_
  by_cases c1 : c = 1
  · rw [if_pos c1]
    simp -implicitDefEqProofs only [c1, hx, go_sem, Nat.reduceEqDiff, reduceCtorEq, ↓reduceIte]
    refine callI_pure (w_in12 p hp t hx m (by omega)) ?_
    simp -implicitDefEqProofs only [go_sem, ↓reduceIte]
  rw [if_neg c1]
  by_cases c2 : c = 2
  · have f1 : ((2 : Int) = 1) = False := eq_false (by decide)
    rw [if_pos c2]
    simp -implicitDefEqProofs only [c2, hx, go_sem, Int.reduceBEq, Nat.reduceEqDiff, reduceCtorEq, ↓reduceIte]
    simp [Bool.beq_eq_decide_eq]
  rw [if_neg c2]
  by_cases c3 : c = 3
  · rw [if_pos c3]
    by_cases hu : x.up = y.up
    · simp -implicitDefEqProofs only [c3, hx, hu, go_sem, Int.reduceBEq, Nat.reduceEqDiff, reduceCtorEq, ↓reduceIte]
      refine callI_pure (w_rplace p hp m) ?_
      simp -implicitDefEqProofs only [go_sem, Nat.reduceEqDiff, reduceCtorEq, ↓reduceIte]
      refine callI_pure (w_rplace p hp k) ?_
      simp -implicitDefEqProofs only [w1, go_sem, Nat.reduceEqDiff, ↓reduceIte]
      simp [hu, Bool.beq_eq_decide_eq]
    · simp -implicitDefEqProofs only [c3, hx, hu, go_sem, Int.reduceBEq, Nat.reduceEqDiff, ↓reduceIte]
      simp [hu]
  rw [if_neg c3]
  by_cases c4 : c = 4
  · rw [if_pos c4]
    by_cases hu : x.up = y.up
    · simp -implicitDefEqProofs only [c4, hx, hu, go_sem, Int.reduceBEq, Nat.reduceEqDiff, reduceCtorEq, ↓reduceIte]
      refine callI_pure (w_rplace p hp m) ?_
      simp -implicitDefEqProofs only [go_sem, Nat.reduceEqDiff, reduceCtorEq, ↓reduceIte]
      refine callI_pure (w_rplace p hp k) ?_
      simp -implicitDefEqProofs only [go_sem, Nat.reduceEqDiff, ↓reduceIte]
      simp [hu]
    · simp -implicitDefEqProofs only [c4, hx, hu, go_sem, Int.reduceBEq, Nat.reduceEqDiff, ↓reduceIte]
      simp [hu]
  rw [if_neg c4]
  simp -implicitDefEqProofs only [c1, c2, c3, c4, go_sem, Nat.reduceEqDiff, ↓reduceIte]

theorem kin_nodup {p : Page} (t : TreeP p) {k : Nat} {x : Ty.Node} (hx : p[k]? = some x) (hn : x.name ≠ []) : ∃ (u : Nat) (z : Ty.Node), x.up = u ∧ p[u]? = some z ∧ kinB p k = (kidsOf p p.length u).filter (elemB p) ∧ (kinB p k).Nodup := by
  obtain ⟨hk, u, z, e, hu, hz, hm⟩ := t.parent hx hn
  have h1 : nodeAt p (k : Int) = some x := by rw [nodeAt_nat]; exact hx
  have h2 : nodeAt p x.up = some z := by rw [e, nodeAt_nat]; exact hz
  have e1 : kinB p k = (kidsOf p p.length u).filter (elemB p) := by
    simp only [kinB, h1, h2, if_neg hn]
    rw [t.kids u z hz]
  refine ⟨u, z, e, hz, e1, ?_⟩
  rw [e1]
  refine List.Pairwise.filter _ ?_
  unfold kidsOf
  refine List.Pairwise.map _ ?_ (List.Pairwise.filter _ List.nodup_range)
  intro a b hab he
  exact hab (by omega)
theorem idx_of_get {l : List Int} (hd : l.Nodup) {j : Nat} {m : Int} (h : l[j]? = some m) : idxOf (fun x => m == x) l = j := by
  have hj := getElem_lt h
  rcases idx_cases (fun x => m == x) l with ⟨e, hno⟩ | ⟨i, y, e, hi, hy, hp, _⟩
  · have := hno m (List.mem_of_getElem? h); simp at this
  · rw [e]
    simp only [beq_iff_eq] at hp
    subst hp
    have : i = j := (List.getElem?_inj hi hd).1 (by rw [hy, h])
    omega
theorem mem_take_idx {l : List Int} {m : Int} {i : Nat} : m ∈ l.take i ↔ (0 ≤ idxOf (fun x => m == x) l ∧ idxOf (fun x => m == x) l < i) := by
  rcases idx_cases (fun x => m == x) l with ⟨e, hno⟩ | ⟨j, y, e, hj, hy, hp, hpre⟩
  · rw [e]
    constructor
    · intro h; have := hno m (List.mem_of_mem_take h); simp at this
    · omega
  · rw [e]
    simp only [beq_iff_eq] at hp
    subst hp
    constructor
    · intro h
      refine ⟨by omega, ?_⟩
      rcases Nat.lt_or_ge j i with h' | h'
      · omega
      · exfalso
        have : m ∈ l.take j := by
          have e2 : l.take i = (l.take j).take i := by rw [List.take_take, Nat.min_eq_left h']
          rw [e2] at h
          exact List.mem_of_mem_take h
        have := hpre m this
        simp at this
    · intro h
      rw [List.mem_take_iff_getElem]
      refine ⟨j, by omega, ?_⟩
      rw [List.getElem?_eq_getElem hj] at hy
      simpa using hy

/-- WHO STANDS SO, AND WHO IS FOUND, ARE THE SAME -/
theorem stands_related {p : Page} (t : TreeP p) {k m : Nat} {x y : Ty.Node} (hx : p[k]? = some x) (hxn : x.name ≠ []) (hy : p[m]? = some y) (hyn : y.name ≠ []) (c : Int) :
    standsB p k m x y c = decide ((m : Int) ∈ relatedB p k c) := by
  obtain ⟨u, z, eu, hz, ek, hnd⟩ := kin_nodup t hx hxn
  obtain ⟨u', z', eu', hz', em, hnd'⟩ := kin_nodup t hy hyn
  have hm1 := (t.parent hy hyn).1
  have hkk := t.kin hx hxn
  have hmm := t.kin hy hyn
  have memup : (m : Int) ∈ kinB p k → x.up = y.up := fun h => by
    rw [ek, List.mem_filter] at h
    obtain ⟨j, h1, _, _, h4⟩ := mem_kidsOf.1 h.1
    have : j = m := by omega
    subst this
    rw [upOf_eq hy] at h4
    omega
  have same : x.up = y.up → kinB p m = kinB p k := fun h => by
    have : u = u' := by omega
    subst this
    rw [ek, em]
  have ip : ∀ (a : Nat) (w : Ty.Node), (a : Int) ∈ kinB p a → 0 ≤ idxOf (fun x => (a : Int) == x) (kinB p a) := fun a w h => by
    rcases idx_cases (fun x => (a : Int) == x) (kinB p a) with ⟨e, hno⟩ | ⟨j, y, e, hj, _⟩
    · have := hno _ h; simp at this
    · omega
  have ik := ip k x hkk
  have im := ip m y hmm
  unfold standsB relatedB
  by_cases c1 : c = 1
  · rw [if_pos c1, if_pos c1]
  rw [if_neg c1, if_neg c1]
  by_cases c2 : c = 2
  · rw [if_pos c2, if_pos c2, above_step t hx]
    by_cases h : x.up > 0
    · rw [if_pos h]
      simp [eq_comm]
    · rw [if_neg h]
      simp; omega
  rw [if_neg c2, if_neg c2]
  by_cases c3 : c = 3
  · rw [if_pos c3, if_pos c3]
    unfold aheadB placeB
    generalize hi : idxOf (fun x => (k : Int) == x) (kinB p k) = i at ik
    obtain ⟨i, rfl⟩ := Int.eq_ofNat_of_zero_le ik
    have hil : i < (kinB p k).length := by
      rcases idx_cases (fun x => (k : Int) == x) (kinB p k) with ⟨e, hno⟩ | ⟨j, y, e, hj, _⟩ <;> omega
    rw [Int.toNat_natCast, List.length_take, Nat.min_eq_left (by omega)]
    rw [Bool.eq_iff_iff, Bool.and_eq_true, decide_eq_true_eq, decide_eq_true_eq, decide_eq_true_eq]
    constructor
    · rintro ⟨h1, h2⟩
      rw [same h1] at h2 im
      rcases idx_cases (fun x => (m : Int) == x) (kinB p k) with ⟨e, hno⟩ | ⟨j, w, e, hj, hw, hp, _⟩
      · omega
      · simp only [beq_iff_eq] at hp
        subst hp
        have hji : j = i - 1 := by omega
        have : (List.take i (kinB p k)).drop (i - 1) = [(m : Int)] := by
          rw [List.drop_take, show i - (i - 1) = 1 by omega, List.drop_eq_getElem_cons (by omega)]
          rw [List.getElem?_eq_getElem (by omega)] at hw
          simp only [Option.some.injEq] at hw
          subst hji
          simp [hw]
        rw [this]; simp
    · intro h
      have h1 := memup (List.mem_of_mem_take (List.mem_of_mem_drop h))
      refine ⟨h1, ?_⟩
      rw [same h1]
      rcases Nat.lt_or_ge 0 i with h0 | h0
      · rw [List.drop_take, show i - (i - 1) = 1 by omega, List.drop_eq_getElem_cons (by omega)] at h
        simp only [List.take_succ_cons, List.take_zero, List.mem_singleton] at h
        rw [idx_of_get hnd (j := i - 1) (by rw [List.getElem?_eq_getElem (by omega), h])]
        omega
      · have : i = 0 := by omega
        subst this
        simp at h
  rw [if_neg c3, if_neg c3]
  by_cases c4 : c = 4
  · rw [if_pos c4, if_pos c4]
    unfold aheadB placeB
    rw [Bool.eq_iff_iff, Bool.and_eq_true, decide_eq_true_eq, decide_eq_true_eq, decide_eq_true_eq, mem_take_idx]
    constructor
    · rintro ⟨h1, h2⟩
      rw [same h1] at h2 im
      exact ⟨im, by omega⟩
    · rintro ⟨h1, h2⟩
      have hmem : (m : Int) ∈ kinB p k := by
        rcases idx_cases (fun x => (m : Int) == x) (kinB p k) with ⟨e, hno⟩ | ⟨j, w, e, hj, hw, hp, _⟩
        · omega
        · simp only [beq_iff_eq] at hp
          rw [hp]; exact List.mem_of_getElem? hw
      have h3 := memup hmem
      refine ⟨h3, ?_⟩
      rw [same h3]; omega
  rw [if_neg c4, if_neg c4]
  simp
end W14
/- The document's answers. -/
set_option linter.unusedSimpArgs false
set_option linter.unusedVariables false
namespace W14
open Go Go.AX Go.AX.Ty Go.Proofs

theorem w_each {p : Page} {st : List Ty.State} {k : Nat} {nd : Ty.Node} (ha : At p st k nd) (l : List Simple) (hok : Enc.ok l) :
    PureF Tryz.prog 70 [Enc.av p, Enc.av st, Enc.av (k : Int), Enc.av l] (.bool (l.all (holdsB p st k))) := by
  refine pureF_W mix c70 (by kernel_rfl) (by kernel_rfl) (by simp [flats, flat_av, Go.AX.flat]) (by first | exact flat_av _ | simp [flat, flats, flat_av]) ?_
  have hl := hok.1
  have e : l.all (holdsB p st k) = !l.any fun x => !holdsB p st k x := by rw [not_any_not]; simp
  rw [e]
  simp -implicitDefEqProofs only [F70, go_sem]
  refine LoopI_sl (fun i : Nat => l.length - i) (fun i => [(0, Enc.av p), (1, Enc.av st), (2, Enc.av (k : Int)), (3, Enc.av l), (9, .int .i64 i)]) (fun i s => i ≤ l.length ∧ Pre (fun x => !holdsB p st k x) l i) 0 ?_ ?_
  · simp -implicitDefEqProofs only [go_sem, Nat.reduceEqDiff, reduceCtorEq, ↓reduceIte]
    exact Pre.zero _ _
  rintro i ρ ⟨g, m⟩ ⟨h1, h2⟩
  rcases Nat.lt_or_ge i l.length with hi | hi
  · obtain ⟨y, hy, hd, hm⟩ := get_drop hi
    have hlt : ((i : Int) < (l.length : Int)) = True := eq_true (by omega)
    have w1 : IntKind.i64.wrap ((i : Int) + 1) = ((i + 1 : Nat) : Int) := by rw [wrap64 (by omega) (by omega)]; omega
    have hh := w_rHolds ha (sizeOf y) y (Nat.le_refl _) (hok.2 y hm)
    rw [Simple.eav] at hh
    simp -implicitDefEqProofs only [hlt, hy, go_sem, Nat.reduceEqDiff, Nat.reduceLeDiff, reduceCtorEq, ↓reduceIte]
    refine callI_pure hh ?_
    cases hb : holdsB p st k y
    · simp -implicitDefEqProofs only [go_sem, ↓reduceIte]
      rw [any_here hm (by simp [hb])]; rfl
    · simp -implicitDefEqProofs only [w1, go_sem, Nat.reduceEqDiff, reduceCtorEq, ↓reduceIte]
      exact ⟨i + 1, by omega, rfl, by omega, h2.next hy (by simp [hb])⟩
  · have hlt : ((i : Int) < (l.length : Int)) = False := eq_false (by omega)
    simp -implicitDefEqProofs only [hlt, go_sem, Nat.reduceEqDiff, reduceCtorEq, ↓reduceIte]
    rw [any_no (h2.all hi)]; rfl

/-- which nodes fit the first parts -/
def rowB (p : Page) (st : List Ty.State) (parts : List Part) (j : Nat) : List Bool := (List.range p.length).map fun n : Nat => fitsB p st parts j n
theorem row_get {p : Page} {st : List Ty.State} {parts : List Part} {j m : Nat} (h : m < p.length) : (rowB p st parts j)[m]? = some (fitsB p st parts j m) := by
  simp [rowB, h]
theorem related_pos {p : Page} (t : TreeP p) {k : Nat} {x : Ty.Node} (hx : p[k]? = some x) (hn : x.name ≠ []) (c : Int) {a : Int} (h : a ∈ relatedB p k c) : ∃ m : Nat, a = m ∧ 1 ≤ m ∧ m < p.length := by
  have hab : ∀ (k : Nat), k < p.length → ∀ a ∈ aboveB p k, ∃ m : Nat, a = m ∧ 1 ≤ m ∧ m < p.length := fun k => by
    induction k using Nat.strongRecOn with
    | ind k ih =>
    intro hk a ha
    rw [above_step t (List.getElem?_eq_getElem hk)] at ha
    split at ha
    · rename_i h0
      have hk1 : 1 ≤ k := by
        rcases Nat.lt_or_ge k 1 with h' | h'
        · have : k = 0 := by omega
          subst this
          have := (t.root _ (List.getElem?_eq_getElem hk)).1; omega
        · exact h'
      have h2 := t.up k _ hk1 (List.getElem?_eq_getElem hk)
      obtain ⟨u, hu⟩ := Int.eq_ofNat_of_zero_le h2.1
      rw [hu] at ha
      rcases List.mem_cons.1 ha with rfl | ha
      · exact ⟨u, rfl, by omega, by omega⟩
      · exact ih u (by omega) (by omega) a ha
    · simp at ha
  have hah : ∀ a ∈ aheadB p k, ∃ m : Nat, a = m ∧ 1 ≤ m ∧ m < p.length := fun a ha => by
    obtain ⟨u, z, _, _, ek, _⟩ := kin_nodup t hx hn
    have h1 := List.mem_of_mem_take ha
    rw [ek, List.mem_filter] at h1
    obtain ⟨j, h2, h3, h4, _⟩ := mem_kidsOf.1 h1.1
    exact ⟨j, h2, h4, h3⟩
  unfold relatedB at h
  split at h
  · exact hab k (getElem_lt hx) a h
  · split at h
    · exact hab k (getElem_lt hx) a (List.mem_of_mem_take h)
    · split at h
      · exact hah a (List.mem_of_mem_drop h)
      · split at h
        · exact hah a h
        · simp at h

theorem w_some {p : Page} {st : List Ty.State} {parts : List Part} (hp : PgOk p) (t : TreeP p) (j : Nat) {k : Nat} {x : Ty.Node} (hx : p[k]? = some x) (hn : x.name ≠ []) (c : Int) :
    PureF Tryz.prog 71 [Enc.av p, Enc.av (rowB p st parts j), Enc.av (k : Int), Enc.av c] (.bool ((relatedB p k c).any (fitsB p st parts j))) := by
  refine pureF_W mix c71 (by kernel_rfl) (by kernel_rfl) (by simp [flats, flat_av, Go.AX.flat]) (by first | exact flat_av _ | simp [flat, flats, flat_av]) ?_
  have hpl := hp.len
  have hlr : (rowB p st parts j).length = p.length := by simp [rowB]
  simp -implicitDefEqProofs only [F71, hlr, go_sem]
  refine LoopI_sl (fun m : Nat => p.length - m) (fun m => [(0, Enc.av p), (1, .ps p.length (cellsL (rowB p st parts j))), (2, Enc.av (k : Int)), (3, Enc.av c), (9, .int .i64 m)])
    (fun m s => 1 ≤ m ∧ m ≤ p.length ∧ ∀ a : Nat, 1 ≤ a → a < m → ¬ (fitsB p st parts j a = true ∧ (a : Int) ∈ relatedB p k c)) 1 ?_ ?_
  · simp -implicitDefEqProofs only [go_sem, Nat.reduceEqDiff, reduceCtorEq, ↓reduceIte]
    refine ⟨by have := getElem_lt hx; omega, fun a h1 h2 => by omega⟩
  rintro m ρ ⟨g, q⟩ ⟨h1, h2, h3⟩
  rcases Nat.lt_or_ge m p.length with hm | hm
  · have hlt : ((m : Int) < (p.length : Int)) = True := eq_true (by omega)
    have hltn : (m < p.length) = True := eq_true hm
    have w1 : IntKind.i64.wrap ((m : Int) + 1) = ((m + 1 : Nat) : Int) := by rw [wrap64 (by omega) (by omega)]; omega
    have hg : elemA m 1 (.ps p.length (cellsL (rowB p st parts j))) = some (.vp (Enc.cells (fitsB p st parts j m) ++ cellsL ((rowB p st parts j).drop (m + 1)))) := by
      have := elemA_Bool (rowB p st parts j) m
      rw [hlr, row_get hm] at this
      exact this
    have next : ¬ (fitsB p st parts j m = true ∧ (m : Int) ∈ relatedB p k c) → ∀ a : Nat, 1 ≤ a → a < m + 1 → ¬ (fitsB p st parts j a = true ∧ (a : Int) ∈ relatedB p k c) := fun h a ha1 ha2 => by
      rcases Nat.lt_or_ge a m with h' | h'
      · exact h3 a ha1 h'
      · have : a = m := by omega
        subst this; exact h
    cases hf : fitsB p st parts j m
    · rw [hf] at hg
      simp -implicitDefEqProofs only [hlt, hltn, hg, w1, go_sem, Nat.reduceEqDiff, reduceCtorEq, ↓reduceIte]
      exact ⟨m + 1, by omega, rfl, by omega, by omega, next (by simp [hf])⟩
    · rw [hf] at hg
      have hel : elemB p m = true := by
        cases he : elemB p m
        · rw [fitsB_elem he] at hf; simp at hf
        · rfl
      obtain ⟨m', y, e1, hy, hyn⟩ := elem_at hel
      have : m' = m := by omega
      subst this
      have hst := w_Stands p hp t hx hy h1 c
      rw [stands_related t hx hn hy hyn c] at hst
      simp -implicitDefEqProofs only [hlt, hltn, hg, go_sem, Nat.reduceEqDiff, reduceCtorEq, ↓reduceIte]
      refine callI_pure hst ?_
      by_cases hr : ((m' : Int) ∈ relatedB p k c)
      · simp -implicitDefEqProofs only [hr, go_sem, Nat.reduceEqDiff, ↓reduceIte]
        rw [List.any_eq_true.2 ⟨_, hr, hf⟩]
      · simp -implicitDefEqProofs only [hr, w1, go_sem, Nat.reduceEqDiff, reduceCtorEq, ↓reduceIte]
        exact ⟨m' + 1, by omega, rfl, by omega, by omega, next (fun h => hr h.2)⟩
  · have hlt : ((m : Int) < (p.length : Int)) = False := eq_false (by omega)
    simp -implicitDefEqProofs only [hlt, go_sem, Nat.reduceEqDiff, reduceCtorEq, ↓reduceIte]
    have : (relatedB p k c).any (fitsB p st parts j) = false := by
      rw [List.any_eq_false]
      intro a ha
      obtain ⟨b, rfl, hb1, hb2⟩ := related_pos t hx hn c ha
      intro hf
      exact h3 b hb1 (by omega) ⟨hf, ha⟩
    rw [this]
end W14
/- The document's answers: which fit. -/
set_option linter.unusedSimpArgs false
set_option linter.unusedVariables false
namespace W14
open Go Go.AX Go.AX.Ty Go.Proofs

def rowAt (p : Page) (st : List Ty.State) (parts : List Part) : Nat → List Bool
  | 0 => List.replicate p.length false
  | j + 1 => rowB p st parts j
theorem rowAt_len (p : Page) (st : List Ty.State) (parts : List Part) (j : Nat) : (rowAt p st parts j).length = p.length := by
  cases j <;> simp [rowAt, rowB]
theorem bools_len (l : List Bool) : (cellsL l).length = l.length := by rw [cellsL_len]; simp [Enc.sz]
theorem bools_rep (q : Nat) : cellsL (List.replicate q false) = List.replicate q (AV.bool false) := by
  induction q with
  | zero => rfl
  | succ q ih => rw [List.replicate_succ, cellsL, ih]; rfl
theorem w_Fits (p : Page) (st : List Ty.State) (c : Complex) (hp : PgOk p) (t : TreeP p) (hs : st.length ≤ 100000) (hc : Enc.ok c) :
    PureF Tryz.prog 44 [Enc.av p, Enc.av st, Enc.av c] (Enc.av (rowAt p st c.parts c.parts.length)) := by
  refine pureF_W mix c44 (by kernel_rfl) (by kernel_rfl) (by simp [flats, flat_av, Go.AX.flat]) (by first | exact flat_av _ | simp [flat, flats, flat_av]) ?_
  have hpl := hp.len
  have hne : 0 < p.length := List.length_pos_iff.2 t.ne
  have hparts := ((Complex.ok_iff c).1 hc).1
  have hpn := hparts.1
  generalize hP : c.parts = parts at hparts hpn
  have hcap : (p.length * 1 ≤ 140737488355328 ∧ p.length ≤ 9223372036854775807) = True := eq_true (by omega)
  have hcap2 : (p.length ≤ 140737488355328) = True := eq_true (by omega)
  have hcap3 : (p.length ≤ 9223372036854775807) = True := eq_true (by omega)
  have rep : ∀ q : Nat, (List.replicate q [AV.bool false]).flatten = List.replicate q (.bool false) := fun q => by
    induction q with
    | zero => rfl
    | succ q ih => rw [List.replicate_succ, List.flatten_cons, ih]; rfl
  simp -implicitDefEqProofs only [F44, hP, hcap, hcap2, hcap3, rep, go_sem, Nat.reduceAdd, reduceCtorEq, ↓reduceIte]
  refine LoopI_sl (fun q : Nat × Nat => parts.length - q.1) (fun q => [(0, Enc.av p), (1, Enc.av st), (5, .ptr 0 0 0), (7, .sl q.2 p.length 0 p.length 1), (8, .int .i64 q.1)])
    (fun q s => q.1 ≤ parts.length ∧ (1 ≤ q.2 ∧ q.2 < s.next) ∧ AX.look 0 s.heap = some (.cells 0 [Enc.av parts, .str c.pseudo] false) ∧ ∃ sn, AX.look q.2 s.heap = some (.cells p.length (cellsL (rowAt p st parts q.1)) sn)) (0, 1) ?_ ?_
  · simp -implicitDefEqProofs only [hcap, hcap2, hcap3, rep, go_sem, Nat.reduceEqDiff, reduceCtorEq, ↓reduceIte]
    refine ⟨false, ?_⟩
    rw [rowAt, bools_rep]
  rintro ⟨i, A⟩ ρ ⟨g, m⟩ ⟨h1, ⟨h2, h3⟩, h4, sn, h5⟩
  dsimp only at h1 h2 h3 h4 h5
  have hlr := rowAt_len p st parts i
  rcases Nat.lt_or_ge i parts.length with hi | hi
  · obtain ⟨q, hq, hd, hqm⟩ := get_drop hi
    have hqok := (Part.ok_iff q).1 (hparts.2 q hqm)
    have hlt : ((i : Int) < (parts.length : Int)) = True := eq_true (by omega)
    have wi : IntKind.i64.wrap ((i : Int) + 1) = ((i + 1 : Nat) : Int) := by rw [wrap64 (by omega) (by omega)]; omega
    have m0 : (m = 0) = False := eq_false (by omega)
    have mA : (m = A) = False := eq_false (by omega)
    simp -implicitDefEqProofs only [hlt, hcap, hcap2, hcap3, rep, h4, go_sem, Nat.reduceAdd, Nat.reduceEqDiff, reduceCtorEq, ↓reduceIte]
    refine LoopI_sl (fun n : Nat => p.length - n) (fun n => [(0, Enc.av p), (1, Enc.av st), (5, .ptr 0 0 0), (7, .sl A p.length 0 p.length 1), (8, .int .i64 i), (9, .sl m p.length 0 p.length 1), (10, .int .i64 n)])
      (fun n s => 1 ≤ n ∧ n ≤ p.length ∧ m + 1 ≤ s.next ∧ AX.look 0 s.heap = some (.cells 0 [Enc.av parts, .str c.pseudo] false) ∧ (∃ sn, AX.look A s.heap = some (.cells p.length (cellsL (rowAt p st parts i)) sn)) ∧
        AX.look m s.heap = some (.cells p.length (cellsL ((rowB p st parts i).take n) ++ List.replicate (p.length - n) (.bool false)) false)) 1 ?_ ?_
    · simp -implicitDefEqProofs only [hcap, hcap2, hcap3, rep, m0, mA, h4, h5, go_sem, Nat.reduceEqDiff, reduceCtorEq, ↓reduceIte]
      have e0 : fitsB p st parts i ((0 : Nat) : Int) = false := by
        refine fitsB_elem ?_
        have hx : p[0]? = some p[0] := by simp [hne]
        have := (t.root _ hx).2.1
        simp [elemB, nodeAt, hx, this]
      have e1 : (rowB p st parts i).take 1 = [false] := by
        have := row_get (p := p) (st := st) (parts := parts) (j := i) hne
        rw [e0] at this
        cases hr : rowB p st parts i with
        | nil => rw [hr] at this; simp at this
        | cons a r => rw [hr] at this; simp at this; simp [this]
      rw [e1]
      obtain ⟨pl, hpl'⟩ : ∃ pl, p.length = pl + 1 := ⟨p.length - 1, by omega⟩
      rw [hpl']
      simp [List.replicate_succ, cellsL, Enc.cells]
    rintro n ρ ⟨g2, m2⟩ ⟨k1, k2, k3, k4, ⟨sn2, k5⟩, k6⟩
    dsimp only at k3 k4 k5 k6
    have n0 : (0 = m) = False := eq_false (by omega)
    have nA : (A = m) = False := eq_false (by omega)
    have n0A : (A = 0) = False := eq_false (by omega)
    have n0A' : (0 = A) = False := eq_false (by omega)
    have hcA : (cellsL (rowAt p st parts i)).length = p.length := by rw [bools_len, hlr]
    have htA : List.take p.length (cellsL (rowAt p st parts i)) = cellsL (rowAt p st parts i) := List.take_of_length_le (by omega)
    have hrl : (rowB p st parts i).length = p.length := by simp [rowB]
    rcases Nat.lt_or_ge n p.length with hn | hn
    · have hltn : ((n : Int) < (p.length : Int)) = True := eq_true (by omega)
      have hnl : (n < p.length) = True := eq_true hn
      have hn1 : (n + 1 ≤ p.length) = True := eq_true (by omega)
      have w1 : IntKind.i64.wrap ((n : Int) + 1) = ((n + 1 : Nat) : Int) := by rw [wrap64 (by omega) (by omega)]; omega
      have cN : (cellsL ((rowB p st parts i).take n)).length = n := by rw [bools_len, List.length_take, hrl]; omega
      have cC : (cellsL ((rowB p st parts i).take n) ++ List.replicate (p.length - n) (AV.bool false)).length = p.length := by rw [List.length_append, cN, List.length_replicate]; omega
      have tN : List.take n (cellsL ((rowB p st parts i).take n) ++ List.replicate (p.length - n) (AV.bool false)) = cellsL ((rowB p st parts i).take n) := by rw [List.take_left' cN]
      have dN : List.drop (n + 1) (cellsL ((rowB p st parts i).take n) ++ List.replicate (p.length - n) (AV.bool false)) = List.replicate (p.length - (n + 1)) (.bool false) := by
        rw [List.drop_append, List.drop_of_length_le (by omega), cN, List.nil_append, List.drop_replicate]; congr 1; omega
      have hfin : cellsL ((rowB p st parts i).take (n + 1)) = cellsL ((rowB p st parts i).take n) ++ [.bool (fitsB p st parts i n)] := by
        rw [List.take_add_one, row_get hn]
        simp only [Option.toList_some, cellsL_append]; rfl
      have hstep := fitsB_step p st parts i n q hq
      simp -implicitDefEqProofs only [hltn, go_sem, Nat.reduceEqDiff, reduceCtorEq, ↓reduceIte]
      refine callI_pure (w_rElement p n) ?_
      cases he : elemB p n
      · simp -implicitDefEqProofs only [k4, k5, k6, n0, nA, n0A, n0A', hnl, hn1, cC, tN, dN, w1, go_sem, Nat.reduceEqDiff, reduceCtorEq, ↓reduceIte]
        have hb : fitsB p st parts i (n : Nat) = false := by rw [hstep]; simp [he, restB]
        refine ⟨n + 1, by omega, rfl, by omega, by omega, k3, ?_, ?_, ?_⟩
        · rw [if_neg (by omega)]
        · first | (rw [if_neg (by omega)]; exact ⟨_, rfl⟩) | exact ⟨_, rfl⟩
        · rw [hfin, hb]
      obtain ⟨n', x, e1, hx, hxn⟩ := elem_at he
      have : n' = n := by omega
      subst this
      have ha := t.at hp hs hx hxn
      simp -implicitDefEqProofs only [k4, k5, k6, n0, nA, n0A, n0A', hq, go_sem, Nat.reduceAdd, Nat.reduceEqDiff, reduceCtorEq, ↓reduceIte]
      refine callI_pure (w_each ha q.l hqok.2) ?_
      cases hall : q.l.all (holdsB p st n')
      · simp -implicitDefEqProofs only [k4, k5, k6, n0, nA, n0A, n0A', hq, hnl, hn1, cC, tN, dN, w1, go_sem, Nat.reduceEqDiff, reduceCtorEq, ↓reduceIte]
        have hb : fitsB p st parts i (n' : Nat) = false := by rw [hstep]; simp [he, hall, restB]
        refine ⟨n' + 1, by omega, rfl, by omega, by omega, k3, ?_, ?_, ?_⟩
        · rw [if_neg (by omega)]
        · first | (rw [if_neg (by omega)]; exact ⟨_, rfl⟩) | exact ⟨_, rfl⟩
        · rw [hfin, hb]
      cases i with
      | zero =>
        simp -implicitDefEqProofs only [k4, k5, k6, n0, nA, n0A, n0A', hq, hnl, hn1, cC, tN, dN, w1, go_sem, Nat.reduceEqDiff, reduceCtorEq, ↓reduceIte]
        have hb : fitsB p st parts 0 (n' : Nat) = true := by rw [hstep]; simp [he, hall, restB]
        refine ⟨n' + 1, by omega, rfl, by omega, by omega, k3, ?_, ?_, ?_⟩
        · rw [if_neg (by omega)]
        · first | (rw [if_neg (by omega)]; exact ⟨_, rfl⟩) | exact ⟨_, rfl⟩
        · rw [hfin, hb]
      | succ j =>
        have z0 : (((j + 1 : Nat) : Int) = 0) = False := eq_false (by omega)
        have hsome := w_some (st := st) (parts := parts) hp t j hx hxn q.comb
        rw [eav_L (rowB p st parts j)] at hsome
        simp only [rowAt] at k5 hcA htA hlr
        rw [hlr] at hsome
        cases sn2
        all_goals
          simp -implicitDefEqProofs only [k4, k5, k6, n0, nA, n0A, n0A', hq, hnl, hn1, cC, tN, dN, w1, z0, hcA, htA, go_sem, Nat.reduceAdd, Nat.reduceEqDiff, reduceCtorEq, ↓reduceIte]
          refine callI_pure hsome ?_
          simp -implicitDefEqProofs only [k4, k5, k6, n0, nA, n0A, n0A', hq, hnl, hn1, cC, tN, dN, w1, z0, hcA, htA, go_sem, Nat.reduceEqDiff, reduceCtorEq, ↓reduceIte]
          have hb : fitsB p st parts (j + 1) (n' : Nat) = (relatedB p n' q.comb).any (fitsB p st parts j) := by rw [hstep]; simp [he, hall, restB]
          refine ⟨n' + 1, by omega, rfl, by omega, by omega, k3, ?_, ?_, ?_⟩
          · rw [if_neg (by omega)]
          · first | (rw [if_neg (by omega)]; exact ⟨_, rfl⟩) | exact ⟨_, rfl⟩
          · rw [hfin, hb]
    · have hltn : ((n : Int) < (p.length : Int)) = False := eq_false (by omega)
      have hnl : n = p.length := by omega
      subst hnl
      simp -implicitDefEqProofs only [hltn, wi, go_sem, Nat.reduceEqDiff, reduceCtorEq, ↓reduceIte]
      refine ⟨(i + 1, m), by simp only; omega, ⟨rfl, rfl⟩, by simp only; omega, by simp only; omega, k4, false, ?_⟩
      rw [k6, List.take_of_length_le (by omega), Nat.sub_self, List.replicate_zero, List.append_nil]; rfl
  · have hlt : ((i : Int) < (parts.length : Int)) = False := eq_false (by omega)
    have hil : i = parts.length := by omega
    subst hil
    simp -implicitDefEqProofs only [hlt, h4, go_sem, Nat.reduceAdd, Nat.reduceEqDiff, reduceCtorEq, ↓reduceIte]
    rw [viewIs_sl _ h5 (by rw [bools_len, hlr]; omega), Nat.mul_one, List.take_of_length_le (by rw [bools_len, hlr]; omega), hlr]

theorem w_rAll (p : Page) (st : List Ty.State) (hp : PgOk p) (hs : st.length ≤ 100000) (c : Complex) (hc : Enc.ok c) :
    PureF Tryz.prog 22 [Enc.av p, Enc.av st, Enc.av c] (Enc.av (allB p st c.parts)) := by
  refine pureF_W mix c22 (by kernel_rfl) (by kernel_rfl) (by simp [flats, flat_av, Go.AX.flat]) (by first | exact flat_av _ | simp [flat, flats, flat_av]) ?_
  have hpl := hp.len
  have hcl : c.parts.length ≤ 140737488355328 := ((Complex.ok_iff c).1 hc).1.1
  have none' : (∀ n : Int, isB p st n c.parts = false) → allB p st c.parts = [] := fun h => by
    unfold allB allTo
    rw [List.filter_eq_nil_iff.2 (fun a _ => by simp [h])]; rfl
  simp -implicitDefEqProofs only [F22, go_sem, Nat.reduceAdd, reduceCtorEq, ↓reduceIte]
  refine callI_pure (w_rTree p hp) ?_
  cases ht : treeB p
  · rw [none' fun n => by simp [isB, ht]]
    simp -implicitDefEqProofs only [go_sem, Nat.reduceEqDiff, reduceCtorEq, ↓reduceIte]
    simp [viewIs, view, St.get, AX.look, cellsL]
  by_cases hpe : c.parts = []
  · rw [none' fun n => by simp [isB, hpe]]
    have h0 : ((c.parts.length : Int) = 0) = True := eq_true (by rw [hpe]; rfl)
    simp -implicitDefEqProofs only [h0, go_sem, Nat.reduceAdd, Nat.reduceEqDiff, reduceCtorEq, ↓reduceIte]
    simp [viewIs, view, St.get, AX.look, cellsL]
  have hlen : 0 < c.parts.length := List.length_pos_iff.2 hpe
  have h0 : ((c.parts.length : Int) = 0) = False := eq_false (by omega)
  have t := treeB_iff.1 ht
  simp -implicitDefEqProofs only [h0, go_sem, Nat.reduceAdd, Nat.reduceEqDiff, reduceCtorEq, ↓reduceIte]
  refine callI_pure (w_Fits p st c hp t hs hc) ?_
  have hrl := rowAt_len p st c.parts c.parts.length
  have hget : ∀ n : Nat, n < p.length → (rowAt p st c.parts c.parts.length)[n]? = some (isB p st n c.parts) := fun n hn => by
    obtain ⟨j, hj⟩ : ∃ j, c.parts.length = j + 1 := ⟨c.parts.length - 1, by omega⟩
    rw [hj, rowAt, row_get hn]
    simp [isB, ht, hpe, hj]
  generalize rowAt p st c.parts c.parts.length = R at hrl hget
  simp -implicitDefEqProofs only [hrl, go_sem, ↓reduceIte]
  unfold allB
  refine LoopI_sl (fun k : Nat => p.length - k) (fun k => [(7, .sl 1 (allTo p st c.parts k).length 0 (allTo p st c.parts k).length 1), (8, .ps p.length (cellsL R)), (9, .int .i64 k)])
    (fun k s => k ≤ p.length ∧ 2 ≤ s.next ∧ AX.look 1 s.heap = some (.cells (allTo p st c.parts k).length (cellsL (allTo p st c.parts k)) false)) 0 ?_ ?_
  · simp -implicitDefEqProofs only [go_sem, Nat.reduceEqDiff, ↓reduceIte]
    simp [allTo, cellsL]
  rintro k ρ ⟨g, m⟩ ⟨h1, h2, h3⟩
  dsimp only at h2 h3
  have hsucc := allTo_succ p st c.parts k
  have hF := allTo_len p st c.parts k
  have m1 : (m = 1) = False := eq_false (by omega)
  rcases Nat.lt_or_ge k p.length with hk | hk
  · have hlt : ((k : Int) < (p.length : Int)) = True := eq_true (by omega)
    have w1 : IntKind.i64.wrap ((k : Int) + 1) = ((k + 1 : Nat) : Int) := by rw [wrap64 (by omega) (by omega)]; omega
    have hg : elemA k 1 (.ps p.length (cellsL R)) = some (.vp (Enc.cells (isB p st k c.parts) ++ cellsL (R.drop (k + 1)))) := by
      have := elemA_Bool R k
      rw [hrl, hget k hk] at this
      exact this
    generalize allTo p st c.parts k = F at h3 hsucc hF
    cases hb : isB p st k c.parts
    · rw [hb] at hg
      rw [hb, if_neg (by simp), List.append_nil] at hsucc
      simp -implicitDefEqProofs only [hlt, hg, h3, w1, go_sem, Nat.reduceEqDiff, ↓reduceIte]
      refine ⟨k + 1, by omega, ?_⟩
      rw [hsucc]
      exact ⟨⟨rfl, rfl⟩, by omega, h2, rfl⟩
    · rw [hb] at hg
      rw [hb, if_pos rfl] at hsucc
      have hc1 := ints_len F
      have ht1 : List.take F.length (cellsL F) = cellsL F := List.take_of_length_le (by omega)
      have hbd : ((F.length + 1) * 8 ≤ 140737488355328) = True := eq_true (by omega)
      have hsn : cellsL (F ++ [(k : Int)]) = cellsL F ++ [.int .i64 k] := by rw [cellsL_append]; rfl
      have hl2 : (F ++ [(k : Int)]).length = F.length + 1 := by simp
      simp -implicitDefEqProofs only [hlt, hg, h3, w1, hc1, ht1, hbd, m1, go_sem, Nat.reduceEqDiff, Nat.reduceLeDiff, reduceCtorEq, ↓reduceIte]
      refine ⟨k + 1, by omega, ?_⟩
      rw [hsucc, hl2, hsn]
      exact ⟨⟨rfl, rfl⟩, by omega, by omega, rfl⟩
  · have hlt : ((k : Int) < (p.length : Int)) = False := eq_false (by omega)
    have hkl : k = p.length := by omega
    subst hkl
    simp -implicitDefEqProofs only [hlt, go_sem, Nat.reduceEqDiff, ↓reduceIte]
    have hc1 := ints_len (allTo p st c.parts p.length)
    rw [viewIs_sl _ h3 (by omega), Nat.mul_one, List.take_of_length_le (by omega)]
theorem isB_bd {p : Page} {st : List Ty.State} {n : Int} {parts : List Part} (h : isB p st n parts = true) : ∃ k : Nat, n = k ∧ k < p.length := by
  simp only [isB, Bool.and_eq_true] at h
  have he : elemB p n = true := by
    cases he : elemB p n
    · rw [fitsB_elem he] at h; simp at h
    · rfl
  obtain ⟨k, x, e, hx, _⟩ := elem_at he
  exact ⟨k, e, getElem_lt hx⟩
theorem all_any {p : Page} {st : List Ty.State} {n : Int} {parts : List Part} : ((allB p st parts).any fun x => x == n) = isB p st n parts := by
  rw [Bool.eq_iff_iff, List.any_eq_true]
  constructor
  · rintro ⟨x, hx, hxn⟩
    simp only [beq_iff_eq] at hxn
    subst hxn
    simp only [allB, allTo, List.mem_map, List.mem_filter] at hx
    obtain ⟨k, ⟨_, h2⟩, rfl⟩ := hx
    exact h2
  · intro h
    obtain ⟨k, rfl, hk⟩ := isB_bd h
    refine ⟨k, ?_, by simp⟩
    simp only [allB, allTo, List.mem_map, List.mem_filter, List.mem_range]
    exact ⟨k, ⟨hk, h⟩, rfl⟩
theorem allB_len (p : Page) (st : List Ty.State) (parts : List Part) : (allB p st parts).length ≤ p.length := allTo_len p st parts p.length
end W14
/- Three values: what is not, And, Or. -/
set_option linter.unusedSimpArgs false
set_option linter.unusedVariables false
namespace W14
open Go Go.AX Go.AX.Ty Go.Proofs

def clip (a : Int) : Int := if 2 < (if 0 > a then 0 else a) then 2 else (if 0 > a then 0 else a)
def kmin (a b : Int) : Int := if b < a then b else a
def kmax (a b : Int) : Int := if b > a then b else a
def kAnd (l : List Int) : Int := l.foldl (fun a x => kmin a (clip x)) 2
def kOr (l : List Int) : Int := l.foldl (fun a x => kmax a (clip x)) 0
def kNot (a : Int) : Int := 2 - clip a
theorem clip_bd (a : Int) : 0 ≤ clip a ∧ clip a ≤ 2 := by unfold clip; split <;> split <;> omega
theorem clip_id {a : Int} (h : 0 ≤ a ∧ a ≤ 2) : clip a = a := by unfold clip; repeat' split <;> omega
theorem take_snoc {α : Type} {l : List α} {k : Nat} {y : α} (h : l[k]? = some y) : l.take (k + 1) = l.take k ++ [y] := by
  rw [List.take_add_one, h]; rfl
theorem kAnd_snoc (l : List Int) (x : Int) : kAnd (l ++ [x]) = kmin (kAnd l) (clip x) := by simp [kAnd]
theorem kOr_snoc (l : List Int) (x : Int) : kOr (l ++ [x]) = kmax (kOr l) (clip x) := by simp [kOr]
theorem w_within (a : Int) : PureF Tryz.prog 45 [.int .i64 a] (.int .i64 (clip a)) := by
  refine pureF_W mix c45 (by kernel_rfl) (by kernel_rfl) (by simp [flats, flat_av, Go.AX.flat]) (by first | exact flat_av _ | simp [flat, flats, flat_av]) ?_
  simp -implicitDefEqProofs only [F45, go_sem, reduceCtorEq, ↓reduceIte]
  rfl
theorem wrap_not (a : Int) : IntKind.i64.wrap (2 - clip a) = kNot a := by
  have := clip_bd a
  rw [wrap64 (by omega) (by omega)]; rfl
theorem w_Not (a : Int) : PureF Tryz.prog 26 [.int .i64 a] (.int .i64 (kNot a)) := by
  refine pureF_W mix c26 (by kernel_rfl) (by kernel_rfl) (by simp [flats, flat_av, Go.AX.flat]) (by first | exact flat_av _ | simp [flat, flats, flat_av]) ?_
  simp -implicitDefEqProofs only [F26, go_sem, reduceCtorEq, ↓reduceIte]
  refine callI_pure (w_within a) ?_
  simp -implicitDefEqProofs only [wrap_not, go_sem, ↓reduceIte]
theorem w_of (b : Bool) : PureF Tryz.prog 58 [.bool b] (.int .i64 (if b = true then 2 else 0)) := by
  refine pureF_W mix c58 (by kernel_rfl) (by kernel_rfl) (by simp [flats, flat_av, Go.AX.flat]) (by first | exact flat_av _ | simp [flat, flats, flat_av]) ?_
  cases b
  · simp -implicitDefEqProofs only [F58, go_sem, reduceCtorEq, ↓reduceIte]
  · simp -implicitDefEqProofs only [F58, go_sem, reduceCtorEq, ↓reduceIte]
theorem w_And (l : List Int) (hl : l.length ≤ 140737488355328) : PureF Tryz.prog 27 [Enc.av l] (.int .i64 (kAnd l)) := by
  refine pureF_W mix c27 (by kernel_rfl) (by kernel_rfl) (by simp [flats, flat_av, Go.AX.flat]) (by first | exact flat_av _ | simp [flat, flats, flat_av]) ?_
  simp -implicitDefEqProofs only [F27, go_sem, reduceCtorEq, ↓reduceIte]
  refine LoopI_sl (fun k : Nat => l.length - k) (fun k => [(6, Enc.av l), (7, .int .i64 l.length), (8, .int .i64 k), (3, .int .i64 (kAnd (l.take k)))]) (fun k s => k ≤ l.length) 0 ?_ ?_
  · simp -implicitDefEqProofs only [go_sem, Nat.reduceEqDiff, ↓reduceIte]
    rfl
  rintro k ρ ⟨g, m⟩ h1
  rcases Nat.lt_or_ge k l.length with hk | hk
  · obtain ⟨x, hx, hd, hm⟩ := get_drop hk
    have hlt : ((k : Int) < (l.length : Int)) = True := eq_true (by omega)
    have w1 : IntKind.i64.wrap ((k : Int) + 1) = ((k + 1 : Nat) : Int) := by rw [wrap64 (by omega) (by omega)]; omega
    simp -implicitDefEqProofs only [hlt, hx, w1, go_sem, Nat.reduceEqDiff, ↓reduceIte]
    refine callI_pure (w_within x) ?_
    simp -implicitDefEqProofs only [hlt, hx, w1, go_sem, Nat.reduceEqDiff, ↓reduceIte]
    exact ⟨k + 1, by omega, by rw [take_snoc hx, kAnd_snoc]; exact ⟨rfl, rfl⟩, by omega⟩
  · have hlt : ((k : Int) < (l.length : Int)) = False := eq_false (by omega)
    simp -implicitDefEqProofs only [hlt, go_sem, Nat.reduceEqDiff, ↓reduceIte]
    rw [List.take_of_length_le (by omega)]
theorem w_Or (l : List Int) (hl : l.length ≤ 140737488355328) : PureF Tryz.prog 28 [Enc.av l] (.int .i64 (kOr l)) := by
  refine pureF_W mix c28 (by kernel_rfl) (by kernel_rfl) (by simp [flats, flat_av, Go.AX.flat]) (by first | exact flat_av _ | simp [flat, flats, flat_av]) ?_
  simp -implicitDefEqProofs only [F28, go_sem, reduceCtorEq, ↓reduceIte]
  refine LoopI_sl (fun k : Nat => l.length - k) (fun k => [(6, Enc.av l), (7, .int .i64 l.length), (8, .int .i64 k), (3, .int .i64 (kOr (l.take k)))]) (fun k s => k ≤ l.length) 0 ?_ ?_
  · simp -implicitDefEqProofs only [go_sem, Nat.reduceEqDiff, ↓reduceIte]
    rfl
  rintro k ρ ⟨g, m⟩ h1
  rcases Nat.lt_or_ge k l.length with hk | hk
  · obtain ⟨x, hx, hd, hm⟩ := get_drop hk
    have hlt : ((k : Int) < (l.length : Int)) = True := eq_true (by omega)
    have w1 : IntKind.i64.wrap ((k : Int) + 1) = ((k + 1 : Nat) : Int) := by rw [wrap64 (by omega) (by omega)]; omega
    simp -implicitDefEqProofs only [hlt, hx, w1, go_sem, Nat.reduceEqDiff, ↓reduceIte]
    refine callI_pure (w_within x) ?_
    simp -implicitDefEqProofs only [hlt, hx, w1, go_sem, Nat.reduceEqDiff, ↓reduceIte]
    exact ⟨k + 1, by omega, by rw [take_snoc hx, kOr_snoc]; exact ⟨rfl, rfl⟩, by omega⟩
  · have hlt : ((k : Int) < (l.length : Int)) = False := eq_false (by omega)
    simp -implicitDefEqProofs only [hlt, go_sem, Nat.reduceEqDiff, ↓reduceIte]
    rw [List.take_of_length_le (by omega)]
end W14
/- Has a text a blank? The library's ContainsAny. -/
set_option linter.unusedSimpArgs false
set_option linter.unusedVariables false
namespace W14
open Go Go.AX Go.AX.Ty Go.Proofs

/-- what of all bytes is a blank -/
def blankTab : List AV := (List.range 256).map fun i => .bool (blankB (UInt8.ofNat i))
theorem blankTab_get (c : UInt8) : blankTab[c.toNat]? = some (.bool (blankB c)) := by
  have h : c.toNat < 256 := c.toNat_lt
  simp [blankTab, h, UInt8.ofNat_toNat]
theorem w_makeSet : PureF Tryz.prog 159 [.str blanks] (.tup [.agg blankTab, .bool true]) := pureF_evk mix T_ok T_in (n := 1000000) (by kernel_rfl) (by kernel_rfl) (by kernel_rfl)
theorem w_setHas (c : UInt8) {h : List (Nat × AX.Obj)} {m b : Nat} {sn : Bool} (hb : AX.look b h = some (.cells 0 blankTab sn)) :
    ACalls Tryz.prog 160 [.ptr b 0 0, .int .u8 c.toNat] ⟨h, m⟩ fun v s' => v = .bool (blankB c) ∧ s' = ⟨h, m⟩ := by
  refine acalls_W mix (C0_ok _) c160 (by kernel_rfl) (Nat.le_of_ble_eq_true (by kernel_rfl)) ?_
  have hlt : (c.toNat < 256) = True := eq_true c.toNat_lt
  have hle : (c.toNat ≤ blankTab.length) = True := eq_true (by have := c.toNat_lt; simp [blankTab]; omega)
  have hg : List.drop c.toNat blankTab = .bool (blankB c) :: List.drop (c.toNat + 1) blankTab := by
    obtain ⟨x, hx, hd, _⟩ := get_drop (l := blankTab) (k := c.toNat) (by have := c.toNat_lt; simp [blankTab]; omega)
    rw [blankTab_get c] at hx
    simp at hx
    rw [hd, ← hx]
  simp -implicitDefEqProofs only [F160, hb, hlt, hle, hg, go_sem, Nat.reduceEqDiff, reduceCtorEq, ↓reduceIte]
theorem w_useSet (n : Int) : PureF Tryz.prog 158 [.int .i64 n] (.bool (decide (n > 8))) := by
  refine pureF_W mix c158 (by kernel_rfl) (by kernel_rfl) (by simp [flats, flat_av, Go.AX.flat]) (by first | exact flat_av _ | simp [flat, flats, flat_av]) ?_
  simp -implicitDefEqProofs only [F158, go_sem, reduceCtorEq, ↓reduceIte]
set_option maxRecDepth 100000 in
theorem w_IndexAny (s : Str) (hl : s.length ≤ 140737488355328) : PureF Tryz.prog 139 [.str s, .str blanks] (.int .i64 (idxOf blankB s)) := by
  refine pureF_W mix c139 (by kernel_rfl) (by kernel_rfl) (by simp [flats, flat_av, Go.AX.flat]) (by first | exact flat_av _ | simp [flat, flats, flat_av]) ?_
  simp -implicitDefEqProofs only [F139, go_sem, Int.reduceBEq, Int.reduceNeg, Nat.reduceAdd, Nat.reduceEqDiff, reduceCtorEq, ↓reduceIte]
  refine callI_pure (w_useSet s.length) ?_
  by_cases h8 : (s.length : Int) > 8
  · rw [decide_eq_true h8]
    simp -implicitDefEqProofs only [go_sem, Nat.reduceEqDiff, ↓reduceIte]
    refine callI_pure w_makeSet ?_
    have hbl : (blankTab.length = 256) = True := eq_true (by simp [blankTab])
    simp -implicitDefEqProofs only [go_sem, Nat.reduceAdd, Nat.reduceEqDiff, ↓reduceIte]
    refine andI_intro ⟨by simp [blankTab], by kernel_rfl⟩ ?_
    simp -implicitDefEqProofs only [go_sem, Nat.reduceEqDiff, ↓reduceIte]
    refine LoopI_sl (fun k : Nat => s.length - k) (fun k => [(0, .str s), (6, .ptr 0 0 0), (8, .int .i64 k)]) (fun k st => k ≤ s.length ∧ Pre blankB s k ∧ AX.look 0 st.heap = some (.cells 0 blankTab false)) 0 ?_ ?_
    · simp -implicitDefEqProofs only [go_sem, Nat.reduceEqDiff, reduceCtorEq, ↓reduceIte]
      exact Pre.zero _ _
    rintro k ρ ⟨g, m⟩ ⟨h1, h2, h3⟩
    dsimp only at h3
    rcases Nat.lt_or_ge k s.length with hk | hk
    · obtain ⟨x, hx, hd, hm⟩ := get_drop hk
      have hlt : ((k : Int) < (s.length : Int)) = True := eq_true (by omega)
      have w1 : IntKind.i64.wrap ((k : Int) + 1) = ((k + 1 : Nat) : Int) := by rw [wrap64 (by omega) (by omega)]; omega
      simp -implicitDefEqProofs only [hlt, hx, w1, h3, go_sem, Nat.reduceEqDiff, reduceCtorEq, ↓reduceIte]
      refine callI_st (w_setHas x h3) ?_
      cases hb : blankB x
      · simp -implicitDefEqProofs only [hlt, hx, w1, h3, go_sem, Nat.reduceEqDiff, reduceCtorEq, ↓reduceIte]
        exact ⟨k + 1, by omega, rfl, by omega, h2.next hx hb⟩
      · simp -implicitDefEqProofs only [hlt, hx, w1, h3, go_sem, Nat.reduceEqDiff, reduceCtorEq, ↓reduceIte]
        rw [idx_here hx hb h2]
    · have hlt : ((k : Int) < (s.length : Int)) = False := eq_false (by omega)
      simp -implicitDefEqProofs only [hlt, go_sem, Int.reduceNeg, Nat.reduceEqDiff, reduceCtorEq, ↓reduceIte]
      rw [idx_none (h2.all hk)]
  · rw [decide_eq_false h8]
    simp -implicitDefEqProofs only [go_sem, reduceCtorEq, ↓reduceIte]
    refine LoopI_sl (fun k : Nat => s.length - k) (fun k => [(0, .str s), (1, .str blanks), (45, .ptr 0 0 0)]) (fun k st => k ≤ s.length ∧ Pre blankB s k ∧ AX.look 0 st.heap = some (.iter s k)) 0 ?_ ?_
    · simp -implicitDefEqProofs only [go_sem, Nat.reduceEqDiff, reduceCtorEq, ↓reduceIte]
      exact Pre.zero _ _
    rintro pos ρ ⟨g, m⟩ ⟨h1, h2, h3⟩
    dsimp only at h3
    rcases Nat.lt_or_ge pos s.length with hk | hk
    · obtain ⟨c, hx, hd, hm⟩ := get_drop hk
      have hlt : (pos < s.length) = True := eq_true hk
      have hspec := decL_spec c (s.drop (pos + 1))
      rw [← hd] at hspec
      simp -implicitDefEqProofs only [h3, hlt, go_sem, Nat.reduceEqDiff, reduceCtorEq, ↓reduceIte]
      generalize decL (List.drop pos s) = d at hspec
      obtain ⟨r, n⟩ := d
      dsimp only at hspec
      rcases hspec with ⟨a1, a2⟩ | ⟨a1, a2, a3, a4, a5, a6, a7⟩
      · simp only [Prod.mk.injEq] at a2
        obtain ⟨rfl, rfl⟩ := a2
        have v1 := w_IndexRune c.toNat (by omega) (by simp only [Utf8.valid, Bool.or_eq_true, Bool.and_eq_true, decide_eq_true_eq]; omega)
        rw [if_pos (by omega)] at v1
        have e1 : UInt8.ofNat ((c.toNat : Int).toNat) = c := by rw [Int.toNat_natCast, UInt8.ofNat_toNat]
        rw [e1] at v1
        have hbl := idxL_blank c
        refine callI_pure v1 ?_
        cases hb : blankB c
        · rw [hb] at hbl
          have hge : (idxL c blanks 0 ≥ 0) = False := eq_false (by simpa using hbl)
          simp -implicitDefEqProofs only [hge, h3, go_sem, Nat.reduceEqDiff, reduceCtorEq, ↓reduceIte]
          exact ⟨pos + 1, by omega, by omega, h2.next hx hb, rfl⟩
        · rw [hb] at hbl
          have hge : (idxL c blanks 0 ≥ 0) = True := eq_true (by simpa using hbl)
          simp -implicitDefEqProofs only [hge, h3, go_sem, Nat.reduceEqDiff, ↓reduceIte]
          rw [idx_here hx hb h2]
      · have v1 := w_IndexRune r (by omega) a4
        rw [if_neg (by omega)] at v1
        refine callI_pure v1 ?_
        simp -implicitDefEqProofs only [h3, go_sem, Int.reduceGE, Int.reduceNeg, Nat.reduceEqDiff, reduceCtorEq, ↓reduceIte]
        rw [List.length_drop] at a6
        refine ⟨pos + n, by omega, by omega, ?_, rfl⟩
        intro y hy
        rw [List.take_add] at hy
        rcases List.mem_append.1 hy with hy | hy
        · exact h2 y hy
        · have := a7 y hy
          cases hb : blankB y
          · rfl
          · have := blankB_lt hb; omega
    · have hlt : (pos < s.length) = False := eq_false (by omega)
      simp -implicitDefEqProofs only [h3, hlt, go_sem, Int.reduceNeg, Nat.reduceEqDiff, reduceCtorEq, ↓reduceIte]
      rw [idx_none (h2.all hk)]
theorem w_ContainsAny (s : Str) (hl : s.length ≤ 140737488355328) : PureF Tryz.prog 115 [.str s, .str blanks] (.bool (s.any blankB)) := by
  refine pureF_W mix c115 (by kernel_rfl) (by kernel_rfl) (by simp [flats, flat_av, Go.AX.flat]) (by first | exact flat_av _ | simp [flat, flats, flat_av]) ?_
  simp -implicitDefEqProofs only [F115, go_sem, Nat.reduceEqDiff, reduceCtorEq, ↓reduceIte]
  refine callI_pure (w_IndexAny s hl) ?_
  simp -implicitDefEqProofs only [go_sem, ↓reduceIte]
  rw [idx_any]
end W14
/- What may change: classes, attributes. -/
set_option linter.unusedSimpArgs false
set_option linter.unusedVariables false
namespace W14
open Go Go.AX Go.AX.Ty Go.Proofs

def classS (s : Safe) (v : Str) : Bool := decide (v ≠ []) && (!v.any blankB && s.classes.any (fun x => v == x))
def attrS (s : Safe) (v : Str) : Bool := if v = sClass then s.classes.any (classS s) else decide (v ≠ []) && s.attrs.any (fun x => v == x)
abbrev sId : Str := [105, 100]
def mayS (s : Safe) (x : Simple) : Bool := if x.kind = 3 then attrS s sId else if x.kind = 4 then classS s x.name else if x.kind = 5 ∨ x.kind = 6 then attrS s x.name else decide (x.kind = 7)
theorem beq_dec (a b : Int) : (a == b) = decide (a = b) := by rw [Bool.eq_iff_iff]; simp
theorem w_safeClass (s : Safe) (hs : Enc.ok s) (v : Str) (hv : v.length ≤ 140737488355328) : PureF Tryz.prog 85 [Enc.av s, .str v] (.bool (classS s v)) := by
  refine pureF_W mix c85 (by kernel_rfl) (by kernel_rfl) (by simp [flats, flat_av, Go.AX.flat]) (by first | exact flat_av _ | simp [flat, flats, flat_av]) ?_
  have hs' := (Safe.ok_iff s).1 hs
  unfold classS
  by_cases h0 : v = []
  · subst h0
    simp -implicitDefEqProofs only [F85, go_sem, Nat.reduceEqDiff, ↓reduceIte]
    try simp
  · have h1 : (v = []) = False := eq_false h0
    have hc := w_ContainsAny v hv
    simp -implicitDefEqProofs only [F85, h1, go_sem, Nat.reduceEqDiff, ↓reduceIte]
    refine callI_pure hc ?_
    cases hb : v.any blankB
    · simp -implicitDefEqProofs only [h1, go_sem, Nat.reduceAdd, Nat.reduceEqDiff, ↓reduceIte]
      refine callI_pure (w_contains_str s.classes v hs'.1.1) ?_
      simp -implicitDefEqProofs only [h1, go_sem, Nat.reduceEqDiff, ↓reduceIte]
      try simp [h1]
    · simp -implicitDefEqProofs only [h1, go_sem, Nat.reduceEqDiff, ↓reduceIte]
      simp
theorem w_idxF_safe (s : Safe) (hs : Enc.ok s) (l : List Str) (hl : l.length ≤ 140737488355328) (hv : ∀ v ∈ l, v.length ≤ 140737488355328) :
    PureF Tryz.prog 138 [Enc.av l, .fn (.func 85) [Enc.av s] []] (.int .i64 (idxOf (classS s) l)) := by
  refine pureF_W mix c138 (by kernel_rfl) (by kernel_rfl) (by simp [flats, flat_av, Go.AX.flat]) (by first | exact flat_av _ | simp [flat, flats, flat_av]) ?_
  simp -implicitDefEqProofs only [F138, go_sem, Int.reduceNeg, reduceCtorEq, ↓reduceIte]
  refine LoopI_sl (fun k : Nat => l.length - k) (fun k => [(0, Enc.av l), (1, .fn (.func 85) [Enc.av s] []), (7, .int .i64 l.length), (8, .int .i64 k)]) (fun k st => k ≤ l.length ∧ Pre (classS s) l k) 0 ?_ ?_
  · simp -implicitDefEqProofs only [go_sem, Nat.reduceEqDiff, reduceCtorEq, ↓reduceIte]
    exact Pre.zero _ _
  rintro k ρ ⟨hh, mm⟩ ⟨h1, h2⟩
  rcases Nat.lt_or_ge k l.length with hk | hk
  · obtain ⟨x, hx, hd, hm⟩ := get_drop hk
    have hlt : ((k : Int) < (l.length : Int)) = True := eq_true (by omega)
    have w1 : IntKind.i64.wrap ((k : Int) + 1) = ((k + 1 : Nat) : Int) := by rw [wrap64 (by omega) (by omega)]; omega
    simp -implicitDefEqProofs only [hlt, hx, w1, go_sem, Nat.reduceEqDiff, reduceCtorEq, ↓reduceIte]
    refine callI_pure (w_safeClass s hs x (hv x hm)) ?_
    simp -implicitDefEqProofs only [go_sem, ↓reduceIte]
    (refine brI_both (fun h hT => ?_) (fun h hT => ?_) <;> try simp -implicitDefEqProofs only [hT, w1, go_sem, Nat.reduceEqDiff, reduceCtorEq, ↓reduceIte] <;> try clear hT)
    · rw [idx_here hx h h2]
    · exact ⟨k + 1, by omega, rfl, by omega, h2.next hx (by simpa using h)⟩
  · have hlt : ((k : Int) < (l.length : Int)) = False := eq_false (by omega)
    simp -implicitDefEqProofs only [hlt, go_sem, Int.reduceNeg, Nat.reduceEqDiff, reduceCtorEq, ↓reduceIte]
    rw [idx_none (h2.all hk)]
theorem w_conF_safe (s : Safe) (hs : Enc.ok s) (l : List Str) (hl : l.length ≤ 140737488355328) (hv : ∀ v ∈ l, v.length ≤ 140737488355328) :
    PureF Tryz.prog 114 [Enc.av l, .fn (.func 85) [Enc.av s] []] (.bool (l.any (classS s))) := by
  refine pureF_W mix c114 (by kernel_rfl) (by kernel_rfl) (by simp [flats, flat_av, Go.AX.flat]) (by first | exact flat_av _ | simp [flat, flats, flat_av]) ?_
  have := w_idxF_safe s hs l hl hv
  simp -implicitDefEqProofs only [F114, go_sem, Nat.reduceEqDiff, reduceCtorEq, ↓reduceIte]
  refine callI_pure this ?_
  simp -implicitDefEqProofs only [go_sem, ↓reduceIte]
  rw [idx_any]
theorem w_safeAttr (s : Safe) (hs : Enc.ok s) (v : Str) : PureF Tryz.prog 84 [Enc.av s, .str v] (.bool (attrS s v)) := by
  refine pureF_W mix c84 (by kernel_rfl) (by kernel_rfl) (by simp [flats, flat_av, Go.AX.flat]) (by first | exact flat_av _ | simp [flat, flats, flat_av]) ?_
  have hs' := (Safe.ok_iff s).1 hs
  unfold attrS
  by_cases hc : v = sClass
  · subst hc
    rw [if_pos rfl]
    have := w_conF_safe s hs s.classes hs'.1.1 (fun v hv => hs'.1.2 v hv)
    simp -implicitDefEqProofs only [F84, go_sem, Nat.reduceAdd, Nat.reduceEqDiff, ↓reduceIte]
    refine callI_pure this ?_
    simp -implicitDefEqProofs only [go_sem, ↓reduceIte]
  · rw [if_neg hc]
    have h1 : (v = [99, 108, 97, 115, 115]) = False := eq_false hc
    by_cases h0 : v = []
    · subst h0
      simp -implicitDefEqProofs only [F84, go_sem, Nat.reduceEqDiff, reduceCtorEq, ↓reduceIte]
      try simp
    · have h2 : (v = []) = False := eq_false h0
      simp -implicitDefEqProofs only [F84, h1, h2, go_sem, Nat.reduceAdd, Nat.reduceEqDiff, Nat.reduceLeDiff, ↓reduceIte]
      refine callI_pure (w_contains_str s.attrs v hs'.2.1) ?_
      simp -implicitDefEqProofs only [h2, go_sem, Nat.reduceEqDiff, ↓reduceIte]
      try simp [h2]
theorem w_safeMay (s : Safe) (hs : Enc.ok s) (x : Simple) (hx : Enc.ok x) : PureF Tryz.prog 57 [Enc.av s, Enc.av x] (.bool (mayS s x)) := by
  refine pureF_W mix c57 (by kernel_rfl) (by kernel_rfl) (by simp [flats, flat_av, Go.AX.flat]) (by first | exact flat_av _ | simp [flat, flats, flat_av]) ?_
  have hx' := (Simple.ok_iff x).1 hx
  unfold mayS
  have a1 := w_safeAttr s hs sId
  have a2 := w_safeAttr s hs x.name
  have a3 := w_safeClass s hs x.name hx'.2.1
  rw [Safe.eav] at a1 a2 a3
  by_cases h3 : x.kind = 3
  · rw [if_pos h3]
    simp -implicitDefEqProofs only [F57, h3, go_sem, Nat.reduceAdd, Nat.reduceEqDiff, reduceCtorEq, ↓reduceIte]
    refine callI_pure a1 ?_
    simp -implicitDefEqProofs only [go_sem, ↓reduceIte]
  have e3 : (x.kind = 3) = False := eq_false h3
  rw [if_neg h3]
  by_cases h4 : x.kind = 4
  · rw [if_pos h4]
    simp -implicitDefEqProofs only [F57, h4, go_sem, Int.reduceBEq, Nat.reduceAdd, Nat.reduceEqDiff, Nat.reduceLeDiff, reduceCtorEq, ↓reduceIte]
    refine callI_pure a3 ?_
    simp -implicitDefEqProofs only [go_sem, ↓reduceIte]
  have e4 : (x.kind = 4) = False := eq_false h4
  rw [if_neg h4]
  by_cases h5 : x.kind = 5
  · rw [if_pos (.inl h5)]
    simp -implicitDefEqProofs only [F57, h5, go_sem, Int.reduceBEq, Nat.reduceAdd, Nat.reduceEqDiff, Nat.reduceLeDiff, reduceCtorEq, ↓reduceIte]
    refine callI_pure a2 ?_
    simp -implicitDefEqProofs only [go_sem, ↓reduceIte]
  have e5 : (x.kind = 5) = False := eq_false h5
  by_cases h6 : x.kind = 6
  · rw [if_pos (.inr h6)]
    simp -implicitDefEqProofs only [F57, h6, go_sem, Int.reduceBEq, Nat.reduceAdd, Nat.reduceEqDiff, Nat.reduceLeDiff, reduceCtorEq, ↓reduceIte]
    refine callI_pure a2 ?_
    simp -implicitDefEqProofs only [go_sem, ↓reduceIte]
  have e6 : (x.kind = 6) = False := eq_false h6
  rw [if_neg (by simp [h5, h6])]
  simp -implicitDefEqProofs only [F57, e3, e4, e5, e6, go_sem, Nat.reduceAdd, Nat.reduceEqDiff, ↓reduceIte]
  rw [beq_dec]
end W14
/- Calls that look at a world with a map, and leave all as it is. -/
set_option linter.unusedSimpArgs false
set_option linter.unusedVariables false
namespace W14
open Go Go.AX Go.AX.Ty Go.Proofs
/-- a world, with its map -/
def wav (s : Safe) (p : Page) (parts : List Part) (r : Nat) : AV := .agg [.ps s.classes.length (cellsL s.classes), .ps s.attrs.length (cellsL s.attrs), .ps p.length (cellsL p), .ps parts.length (cellsL parts), .map r]
theorem w_wattr0 (s : Safe) (p : Page) (hp : PgOk p) (parts : List Part) (r : Nat) (n : Int) (v : Str) : PS Tryz.prog 88 [wav s p parts r, .int .i64 n, .str v, .nils] (.bool (attrB p n v).2) := by
  intro h m
  refine acalls_same rfl (acalls_W mix (C0_ok _) c88 (by kernel_rfl) (Nat.le_of_ble_eq_true (by kernel_rfl)) ?_)
  unfold wav
  simp -implicitDefEqProofs only [F88, go_sem, Nat.reduceAdd, Nat.reduceEqDiff, Nat.reduceLeDiff, ↓reduceIte]
  refine callI_pure (w_Attr p hp.ok n v) ?_
  cases hb : (attrB p n v).2
  · simp -implicitDefEqProofs only [go_sem, Nat.reduceEqDiff, ↓reduceIte]
    exact ⟨by simp, fun id hid => by (try simp only [AX.look]); (try simp only at hid); repeat rw [if_neg (by omega)]⟩
  · simp -implicitDefEqProofs only [go_sem, Nat.reduceEqDiff, reduceCtorEq, ↓reduceIte]
    exact ⟨by simp, fun id hid => by (try simp only [AX.look]); (try simp only at hid); repeat rw [if_neg (by omega)]⟩
theorem w_wattr1 (s : Safe) (p : Page) (hp : PgOk p) (parts : List Part) (r : Nat) (n : Int) (v x : Str) {h : List (Nat × AX.Obj)} {m b : Nat} {sn : Bool} (hb : AX.look b h = some (.cells 1 [.str x] sn)) (hbm : b < m) :
    ACalls Tryz.prog 88 [wav s p parts r, .int .i64 n, .str v, .sl b 1 0 1 1] ⟨h, m⟩ fun v' s' => v' = .bool ((attrB p n v).2 && decide ((attrB p n v).1 = x)) ∧ s' = ⟨h, m⟩ := by
  refine acalls_same rfl (acalls_W mix (C0_ok _) c88 (by kernel_rfl) (Nat.le_of_ble_eq_true (by kernel_rfl)) ?_)
  have n1 : (m = b) = False := eq_false (by omega)
  unfold wav
  simp -implicitDefEqProofs only [F88, n1, hb, go_sem, Nat.reduceAdd, Nat.reduceEqDiff, Nat.reduceLeDiff, ↓reduceIte]
  refine callI_pure (w_Attr p hp.ok n v) ?_
  cases hc : (attrB p n v).2
  · simp -implicitDefEqProofs only [n1, hb, go_sem, Nat.reduceEqDiff, ↓reduceIte]
    exact ⟨⟨by simp, by simp⟩, fun id hid => by (try simp only [AX.look]); (try simp only at hid); repeat rw [if_neg (by omega)]⟩
  · simp -implicitDefEqProofs only [n1, hb, go_sem, Int.reduceBEq, Int.reduceToNat, Nat.reduceEqDiff, ↓reduceIte]
    exact ⟨⟨by rw [Bool.beq_eq_decide_eq]; simp [eq_comm], by simp⟩, fun id hid => by (try simp only [AX.look]); (try simp only at hid); repeat rw [if_neg (by omega)]⟩
end W14
/- What holds of an element: the program's. -/
set_option linter.unusedSimpArgs false
set_option linter.unusedVariables false
namespace W14
open Go Go.AX Go.AX.Ty Go.Proofs

set_option maxHeartbeats 1000000 in
theorem w_holds (s : Safe) {p : Page} (parts : List Part) (r : Nat) {k : Nat} {nd : Ty.Node} (ha : At p [] k nd) (x : Simple) (hok : Enc.ok x) (h11 : x.kind ≠ 11) :
    PS Tryz.prog 59 [wav s p parts r, .int .i64 k, Enc.av x] (.bool (holdsB p [] k x)) := by
  intro h m
  have hxok := (Simple.ok_iff x).1 hok
  have hx := ha.at'
  have hnode : nodeAt p (k : Int) = some nd := by rw [nodeAt_nat]; exact hx
  have hpl := place_bd ha.pg k
  have hw1 : IntKind.i64.wrap (1 + idxOf (fun x => (k : Int) == x) (kinB p k)) = placeB p k := by
    unfold placeB at hpl ⊢
    rw [wrap64 (by omega) (by omega)]
  obtain ⟨kind, name, value, a, b, l⟩ := x
  simp only [Simple.kind, Simple.name, Simple.value, Simple.a, Simple.b, Simple.l] at hxok h11
  simp only [Simple.eav, Simple.kind, Simple.name, Simple.value, Simple.a, Simple.b, Simple.l]
  refine acalls_same rfl (acalls_W mix (C0_ok _) c59 (by kernel_rfl) (Nat.le_of_ble_eq_true (by kernel_rfl)) ?_)
  have n1 : (m = m + 1) = False := eq_false (by omega)
  have n2 : (m + 1 = m) = False := eq_false (by omega)
  have n3 : (m < m + 1 + 1) = True := eq_true (by omega)
  have n4 : (m + 1 < m + 1 + 1) = True := eq_true (by omega)
  rw [holdsB, wav]
  simp -implicitDefEqProofs only [F59, n1, n2, go_sem, Nat.reduceAdd, Nat.reduceEqDiff, Nat.reduceLeDiff, ↓reduceIte]
  refine callI_pure (w_Kin p ha.pg k ha.kin) ?_
  simp -implicitDefEqProofs only [n1, n2, go_sem, Nat.reduceEqDiff, ↓reduceIte]
  refine callI_pure (w_index_int k (kinB p k) (by have := kin_len ha.pg k; omega)) ?_
  by_cases g1 : kind = 1
  · have f1 : (kind = 1) = True := eq_true g1
    rw [if_pos g1]
    simp -implicitDefEqProofs only [n1, n2, n3, n4, hw1, f1, go_sem, Nat.reduceAdd, Nat.reduceEqDiff, ↓reduceIte]
    exact ⟨by simp, fun id hid => by (try simp only [AX.look]); (try simp only at hid); repeat rw [if_neg (by omega)]⟩
  rw [if_neg g1]
  have f1 : (kind = 1) = False := eq_false g1
  by_cases g2 : kind = 2
  · have f2 : (kind = 2) = True := eq_true g2
    rw [if_pos g2]
    simp -implicitDefEqProofs only [n1, n2, n3, n4, hw1, f1, f2, go_sem, Nat.reduceAdd, Nat.reduceEqDiff, Nat.reduceLeDiff, ↓reduceIte]
    try simp -implicitDefEqProofs only [n1, n2, n3, n4, hw1, hx, go_sem, Nat.reduceAdd, Nat.reduceEqDiff, Nat.reduceLeDiff, ↓reduceIte]
    refine andI_intro (by (first | omega | (simp [indepB, indep1, apart1, Nat.testBit_eq_decide_div_mod_eq]; done) | (simp [indepB, indep1, apart1, Nat.testBit_eq_decide_div_mod_eq]; omega) | kernel_rfl)) ?_
    simp -implicitDefEqProofs only [n1, n2, n3, n4, hw1, hx, go_sem, ↓reduceIte]
    rw [hnode]
    exact ⟨⟨by simp [Bool.beq_eq_decide_eq], by simp⟩, fun id hid => by (try simp only [AX.look]); (try simp only at hid); repeat rw [if_neg (by omega)]⟩
  rw [if_neg g2]
  have f2 : (kind = 2) = False := eq_false g2
  by_cases g3 : kind = 3
  · have f3 : (kind = 3) = True := eq_true g3
    rw [if_pos g3]
    simp -implicitDefEqProofs only [n1, n2, n3, n4, hw1, f1, f2, f3, go_sem, Nat.reduceAdd, Nat.reduceEqDiff, Nat.reduceLeDiff, ↓reduceIte]
    refine callI_st (w_wattr1 s p ha.pg parts r k [105, 100] name (b := m + 1 + 1) (sn := false) (by simp only [AX.look, ↓reduceIte]) (by omega)) ?_
    simp -implicitDefEqProofs only [n1, n2, n3, n4, hw1, go_sem, ↓reduceIte]
    exact ⟨by simp, fun id hid => by (try simp only [AX.look]); (try simp only at hid); repeat rw [if_neg (by omega)]⟩
  rw [if_neg g3]
  have f3 : (kind = 3) = False := eq_false g3
  by_cases g4 : kind = 4
  · have f4 : (kind = 4) = True := eq_true g4
    rw [if_pos g4]
    simp -implicitDefEqProofs only [n1, n2, n3, n4, hw1, f1, f2, f3, f4, go_sem, Nat.reduceAdd, Nat.reduceEqDiff, Nat.reduceLeDiff, ↓reduceIte]
    refine dcallI_pure (w_Classes p ha.pg k) ?_
    simp -implicitDefEqProofs only [n1, n2, n3, n4, hw1, go_sem, Nat.reduceAdd, Nat.reduceEqDiff, Nat.reduceLeDiff, ↓reduceIte]
    refine dcallI_pure (w_contains_str _ name (classes_len ha.pg k)) ?_
    simp -implicitDefEqProofs only [n1, n2, n3, n4, hw1, go_sem, ↓reduceIte]
    refine andI_intro (by (first | omega | (simp [indepB, indep1, apart1, Nat.testBit_eq_decide_div_mod_eq]; done) | (simp [indepB, indep1, apart1, Nat.testBit_eq_decide_div_mod_eq]; omega) | kernel_rfl)) ?_
    simp -implicitDefEqProofs only [n1, n2, n3, n4, hw1, go_sem, ↓reduceIte]
    exact ⟨by simp, fun id hid => by (try simp only [AX.look]); (try simp only at hid); repeat rw [if_neg (by omega)]⟩
  rw [if_neg g4]
  have f4 : (kind = 4) = False := eq_false g4
  by_cases g5 : kind = 5
  · have f5 : (kind = 5) = True := eq_true g5
    rw [if_pos g5]
    simp -implicitDefEqProofs only [n1, n2, n3, n4, hw1, f1, f2, f3, f4, f5, go_sem, Nat.reduceAdd, Nat.reduceEqDiff, Nat.reduceLeDiff, ↓reduceIte]
    refine callI_st (w_wattr0 s p ha.pg parts r k name _ _) ?_
    simp -implicitDefEqProofs only [n1, n2, n3, n4, hw1, go_sem, ↓reduceIte]
    exact ⟨by simp, fun id hid => by (try simp only [AX.look]); (try simp only at hid); repeat rw [if_neg (by omega)]⟩
  rw [if_neg g5]
  have f5 : (kind = 5) = False := eq_false g5
  by_cases g6 : kind = 6
  · have f6 : (kind = 6) = True := eq_true g6
    rw [if_pos g6]
    simp -implicitDefEqProofs only [n1, n2, n3, n4, hw1, f1, f2, f3, f4, f5, f6, go_sem, Nat.reduceAdd, Nat.reduceEqDiff, Nat.reduceLeDiff, ↓reduceIte]
    refine callI_st (w_wattr1 s p ha.pg parts r k name value (b := m + 1 + 1) (sn := false) (by simp only [AX.look, ↓reduceIte]) (by omega)) ?_
    simp -implicitDefEqProofs only [n1, n2, n3, n4, hw1, go_sem, ↓reduceIte]
    exact ⟨by simp, fun id hid => by (try simp only [AX.look]); (try simp only at hid); repeat rw [if_neg (by omega)]⟩
  rw [if_neg g6]
  have f6 : (kind = 6) = False := eq_false g6
  by_cases g7 : kind = 7
  · subst g7
    rw [if_pos rfl]
    simp -implicitDefEqProofs only [n1, n2, n3, n4, hw1, go_sem, Int.reduceBEq, Nat.reduceAdd, Nat.reduceEqDiff, ↓reduceIte]
    exact ⟨by simp, fun id hid => by (try simp only [AX.look]); (try simp only at hid); repeat rw [if_neg (by omega)]⟩
  rw [if_neg g7]
  by_cases g8 : kind = 8
  · have f8 : (kind = 8) = True := eq_true g8
    rw [if_pos g8]
    simp -implicitDefEqProofs only [n1, n2, n3, n4, hw1, f1, f2, f3, f4, f5, f6, f8, go_sem, Nat.reduceAdd, Nat.reduceEqDiff, Nat.reduceLeDiff, ↓reduceIte]
    refine callI_pure (w_Nth a b (placeB p k)) ?_
    simp -implicitDefEqProofs only [n1, n2, n3, n4, hw1, go_sem, ↓reduceIte]
    exact ⟨by simp, fun id hid => by (try simp only [AX.look]); (try simp only at hid); repeat rw [if_neg (by omega)]⟩
  rw [if_neg g8]
  have f8 : (kind = 8) = False := eq_false g8
  by_cases g9 : kind = 9
  · have f9 : (kind = 9) = True := eq_true g9
    rw [if_pos g9]
    simp -implicitDefEqProofs only [n1, n2, n3, n4, hw1, f1, f2, f3, f4, f5, f6, f8, f9, go_sem, Nat.reduceAdd, Nat.reduceEqDiff, Nat.reduceLeDiff, ↓reduceIte]
    rw [hnode]
    by_cases u0 : nd.up = 0
    · simp -implicitDefEqProofs only [n1, n2, n3, n4, hw1, hx, u0, go_sem, Nat.reduceEqDiff, ↓reduceIte]
      exact ⟨⟨by simp [Bool.beq_eq_decide_eq, u0], by simp⟩, fun id hid => by (try simp only [AX.look]); (try simp only at hid); repeat rw [if_neg (by omega)]⟩
    · simp -implicitDefEqProofs only [n1, n2, n3, n4, hw1, hx, u0, go_sem, Nat.reduceEqDiff, ↓reduceIte]
      exact ⟨⟨by simp [u0], by simp⟩, fun id hid => by (try simp only [AX.look]); (try simp only at hid); repeat rw [if_neg (by omega)]⟩
  rw [if_neg g9]
  have f9 : (kind = 9) = False := eq_false g9
  by_cases g10 : kind = 10
  · have f10 : (kind = 10) = True := eq_true g10
    rw [if_pos g10]
    simp -implicitDefEqProofs only [n1, n2, n3, n4, hw1, f1, f2, f3, f4, f5, f6, f8, f9, f10, go_sem, Nat.reduceAdd, Nat.reduceEqDiff, Nat.reduceLeDiff, ↓reduceIte]
    rw [hnode]
    simp -implicitDefEqProofs only [n1, n2, n3, n4, hw1, hx, go_sem, ↓reduceIte]
    exact ⟨⟨by congr 1; rw [Bool.eq_iff_iff, beq_iff_eq, decide_eq_true_eq]; omega, by simp⟩, fun id hid => by (try simp only [AX.look]); (try simp only at hid); repeat rw [if_neg (by omega)]⟩
  rw [if_neg g10]
  have f10 : (kind = 10) = False := eq_false g10
  rw [if_neg h11]
  simp -implicitDefEqProofs only [n1, n2, n3, n4, hw1, f1, f2, f3, f4, f5, f6, f8, f9, f10, go_sem, Nat.reduceAdd, Nat.reduceEqDiff, ↓reduceIte]
  exact ⟨by simp, fun id hid => by (try simp only [AX.look]); (try simp only at hid); repeat rw [if_neg (by omega)]⟩
end W14
