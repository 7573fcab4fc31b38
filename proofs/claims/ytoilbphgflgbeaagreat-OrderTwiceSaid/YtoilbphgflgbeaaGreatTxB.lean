/- What holds of a node: the program's, the document's. -/
import Derived.Test.YtoilbphgflgbeaaGreatTxA
set_option linter.unusedSimpArgs false
set_option linter.unusedVariables false
namespace W15
open Go Go.AX Go.AX.Ty Go.Proofs
mutual
def holdsB (p : Page) (st : List Ty.State) (n : Int) : Simple → Bool
  | .mk kind name value a b l =>
    if kind = 1 then true
    else if kind = 2 then (match nodeAt p n with | some x => decide (x.name = name) | none => false)
    else if kind = 3 then (attrB p n [105, 100]).2 && decide ((attrB p n [105, 100]).1 = name)
    else if kind = 4 then (classesB p n).any fun x => name == x
    else if kind = 5 then (attrB p n name).2
    else if kind = 6 then (attrB p n name).2 && decide ((attrB p n name).1 = value)
    else if kind = 7 then st.any fun x => n == x.node && name == x.name
    else if kind = 8 then nthB a b (placeB p n)
    else if kind = 9 then (match nodeAt p n with | some x => decide (x.up = 0) && decide (placeB p n = 1) | none => false)
    else if kind = 10 then (match nodeAt p n with | some x => decide (x.kids.length = 0) | none => false)
    else if kind = 11 then !holdsAny p st n l
    else false
def holdsAny (p : Page) (st : List Ty.State) (n : Int) : List Simple → Bool
  | [] => false
  | x :: r => holdsB p st n x || holdsAny p st n r
end
theorem holdsAny_eq (p : Page) (st : List Ty.State) (n : Int) : ∀ l, holdsAny p st n l = l.any (holdsB p st n)
  | [] => rfl
  | x :: r => by rw [holdsAny, holdsAny_eq p st n r]; rfl
theorem simple_lt {x y : Simple} (h : y ∈ x.l) : sizeOf y < sizeOf x := by
  cases x
  simp only [Simple.l] at h
  have := List.sizeOf_lt_of_mem h
  simp only [Simple.mk.sizeOf_spec]; omega
theorem words_le (s : Str) : ∀ acc : Str, (wordsGo s acc).length ≤ s.length + 1 := by
  induction s with
  | nil => intro acc; rw [wordsGo]; split <;> simp
  | cons c r ih =>
    intro acc
    rw [wordsGo]
    split
    · split
      · have := ih []; simp; omega
      · have := ih []; simp; omega
    · have := ih (acc ++ [c]); simp; omega
theorem classes_len {p : Page} (hp : PgOk p) (n : Int) : (classesB p n).length ≤ 140737488355328 := by
  have h1 := words_le (attrB p n sClass).1 []
  have h2 := attrB_len hp n sClass
  unfold classesB wordsB; omega
theorem place_bd {p : Page} (hp : PgOk p) (n : Int) : 0 ≤ placeB p n ∧ placeB p n ≤ 1001 := by
  have := kin_len hp n
  unfold placeB
  rcases idx_cases (fun x => n == x) (kinB p n) with ⟨e, _⟩ | ⟨i, x, e, hi, _⟩ <;> omega
structure At (p : Page) (st : List Ty.State) (k : Nat) (x : Ty.Node) : Prop where
  pg : PgOk p
  st : st.length ≤ 100000
  at' : p[k]? = some x
  el : x.name ≠ []
  kin : ∀ x y, nodeAt p k = some x → nodeAt p x.up = some y → y.kids ≠ []
theorem w_idxF_Simple (g : Nat) (cs ds : List AV) (q : Simple → Bool) (hcs : flats cs = true) (hds : flats ds = true) (l : List Simple) (hp : ∀ x ∈ l, PureF Tryz.prog g [Enc.av x, .vp cs, .vp ds] (.bool (q x))) (hl : l.length ≤ 140737488355328) :
    PureF Tryz.prog 174 [Enc.av l, .fn (.func g) [] [.vp cs, .vp ds]] (.int .i64 (idxOf q l)) := by
  refine pureF_W mix c174 (by kernel_rfl) (by kernel_rfl) (by simp [flats, flat_av, Go.AX.flat, hcs, hds]) (by first | exact flat_av _ | simp [flat, flats, flat_av]) ?_
  simp -implicitDefEqProofs only [F174, go_sem, seval]
  refine LoopI_sl (fun k : Nat => l.length - k) (fun k => [(0, Enc.av l), (1, .fn (.func g) [] [.vp cs, .vp ds]), (7, .int .i64 l.length), (8, .int .i64 k)]) (fun k s => k ≤ l.length ∧ Pre q l k) 0 ?_ ?_
  · simp -implicitDefEqProofs only [go_sem, seval]
    exact Pre.zero _ _
  rintro k ρ ⟨hh, mm⟩ ⟨h1, h2⟩
  rcases Nat.lt_or_ge k l.length with hk | hk
  · obtain ⟨x, hx, hd, hm⟩ := get_drop hk
    have hlt : ((k : Int) < (l.length : Int)) = True := eq_true (by omega)
    have w1 : IntKind.i64.wrap ((k : Int) + 1) = ((k + 1 : Nat) : Int) := by rw [wrap64 (by omega) (by omega)]; omega
    simp -implicitDefEqProofs only [hlt, hx, w1, go_sem, seval]
    have hp' := hp x hm
    rw [Simple.eav] at hp'
    refine callI_pure hp' ?_
    simp -implicitDefEqProofs only [go_sem, seval]
    (refine brI_both (fun h hT => ?_) (fun h hT => ?_) <;> try simp -implicitDefEqProofs only [hT, w1, go_sem, seval] <;> try clear hT)
    · rw [idx_here hx h h2]
    · exact ⟨k + 1, by omega, rfl, by omega, h2.next hx (by simpa using h)⟩
  · have hlt : ((k : Int) < (l.length : Int)) = False := eq_false (by omega)
    simp -implicitDefEqProofs only [hlt, go_sem, seval]
    rw [idx_none (h2.all hk)]
theorem w_conF_Simple (g : Nat) (cs ds : List AV) (q : Simple → Bool) (hcs : flats cs = true) (hds : flats ds = true) (l : List Simple) (hp : ∀ x ∈ l, PureF Tryz.prog g [Enc.av x, .vp cs, .vp ds] (.bool (q x))) (hl : l.length ≤ 140737488355328) :
    PureF Tryz.prog 156 [Enc.av l, .fn (.func g) [] [.vp cs, .vp ds]] (.bool (l.any q)) := by
  refine pureF_W mix c156 (by kernel_rfl) (by kernel_rfl) (by simp [flats, flat_av, Go.AX.flat, hcs, hds]) (by first | exact flat_av _ | simp [flat, flats, flat_av]) ?_
  simp -implicitDefEqProofs only [F156, go_sem, seval]
  refine callI_pure (w_idxF_Simple g cs ds q hcs hds l hp hl) ?_
  simp -implicitDefEqProofs only [go_sem, seval]
  rw [idx_any]
theorem w_holds1 (p : Page) (st : List Ty.State) (n : Int) (x : Simple) (h : PureF Tryz.prog 158 [.agg [Enc.av p, Enc.av st], Enc.av n, Enc.av x] (.bool (holdsB p st n x))) :
    PureF Tryz.prog 180 [Enc.av x, .vp [Enc.av p, Enc.av st], .vp [Enc.av n]] (.bool (holdsB p st n x)) := by
  refine pureF_W mix c180 (by kernel_rfl) (by kernel_rfl) (by simp [flats, flat_av, Go.AX.flat]) (by first | exact flat_av _ | simp [flat, flats, flat_av]) ?_
  rw [Simple.eav] at h
  simp -implicitDefEqProofs only [F180, go_sem, seval]
  repeat' first
    | (refine dcallI_pure h ?_; simp -implicitDefEqProofs only [go_sem, seval])
    | (refine callI_pure h ?_; simp -implicitDefEqProofs only [go_sem, seval])
    | (refine andI_intro (by (first | omega | (simp [indepB, indep1, apart1, Nat.testBit_eq_decide_div_mod_eq]; done) | (simp [indepB, indep1, apart1, Nat.testBit_eq_decide_div_mod_eq]; omega) | kernel_rfl)) ?_; simp -implicitDefEqProofs only [go_sem, seval])
theorem w_holds {p : Page} {st : List Ty.State} {k : Nat} {nd : Ty.Node} (ha : At p st k nd) : ∀ (N : Nat) (x : Simple), sizeOf x ≤ N → Enc.ok x →
    PureF Tryz.prog 158 [.agg [Enc.av p, Enc.av st], Enc.av (k : Int), Enc.av x] (.bool (holdsB p st k x)) := by
  intro N
  induction N with
  | zero => intro x hx; cases x; simp only [Simple.mk.sizeOf_spec] at hx; omega
  | succ N ih =>
  intro x hN hok
  have hsub : ∀ y ∈ x.l, PureF Tryz.prog 180 [Enc.av y, .vp [Enc.av p, Enc.av st], .vp [Enc.av (k : Int)]] (.bool (holdsB p st k y)) := fun y hy =>
    w_holds1 p st k y (ih y (by have := simple_lt hy; omega) (((Simple.ok_iff x).1 hok).2.2.2.2.2.2 y hy))
  have hxok := (Simple.ok_iff x).1 hok
  have hx := ha.at'
  have hnode : nodeAt p (k : Int) = some nd := by rw [nodeAt_nat]; exact hx
  have hpl := place_bd ha.pg k
  obtain ⟨kind, name, value, a, b, l⟩ := x
  refine pureF_W mix c158 (by kernel_rfl) (by kernel_rfl) (by simp [flats, flat_av, Go.AX.flat]) (by first | exact flat_av _ | simp [flat, flats, flat_av]) ?_
  simp only [Simple.kind, Simple.name, Simple.value, Simple.a, Simple.b, Simple.l] at hxok hsub
  simp only [Simple.eav, Simple.kind, Simple.name, Simple.value, Simple.a, Simple.b, Simple.l]
  rw [holdsB]
  by_cases g1 : kind = 1
  · have f1 : (kind = 1) = True := eq_true g1
    rw [if_pos g1]
    simp -implicitDefEqProofs only [F158, f1, go_sem, seval]
  rw [if_neg g1]
  have f1 : (kind = 1) = False := eq_false g1
  by_cases g2 : kind = 2
  · have f2 : (kind = 2) = True := eq_true g2
    rw [if_pos g2]
    simp -implicitDefEqProofs only [F158, f1, f2, go_sem, seval]
    simp -implicitDefEqProofs only [hx, go_sem, seval]
    refine andI_intro (by kernel_rfl) ?_
    simp -implicitDefEqProofs only [hx, go_sem, seval]
    rw [hnode]
    simp [Bool.beq_eq_decide_eq]
  rw [if_neg g2]
  have f2 : (kind = 2) = False := eq_false g2
  by_cases g3 : kind = 3
  · have f3 : (kind = 3) = True := eq_true g3
    rw [if_pos g3]
    simp -implicitDefEqProofs only [F158, f1, f2, f3, go_sem, seval]
    refine callI_pure (w_attr p st ha.pg.ok k [105, 100] [name] (by simp)) ?_
    simp -implicitDefEqProofs only [go_sem, seval]
    simp [Bool.beq_eq_decide_eq]
  rw [if_neg g3]
  have f3 : (kind = 3) = False := eq_false g3
  by_cases g4 : kind = 4
  · have f4 : (kind = 4) = True := eq_true g4
    rw [if_pos g4]
    simp -implicitDefEqProofs only [F158, f1, f2, f3, f4, go_sem, seval]
    refine dcallI_pure (w_Classes p ha.pg k) ?_
    simp -implicitDefEqProofs only [go_sem, seval]
    refine dcallI_pure (w_contains_str _ name (classes_len ha.pg k)) ?_
    simp -implicitDefEqProofs only [go_sem, seval]
    refine andI_intro (by kernel_rfl) ?_
    simp -implicitDefEqProofs only [go_sem, seval]
  rw [if_neg g4]
  have f4 : (kind = 4) = False := eq_false g4
  by_cases g5 : kind = 5
  · have f5 : (kind = 5) = True := eq_true g5
    rw [if_pos g5]
    simp -implicitDefEqProofs only [F158, f1, f2, f3, f4, f5, go_sem, seval]
    refine callI_pure (w_attr p st ha.pg.ok k name [] (by simp)) ?_
    simp -implicitDefEqProofs only [go_sem, seval]
    simp [Bool.beq_eq_decide_eq]
  rw [if_neg g5]
  have f5 : (kind = 5) = False := eq_false g5
  by_cases g6 : kind = 6
  · have f6 : (kind = 6) = True := eq_true g6
    rw [if_pos g6]
    simp -implicitDefEqProofs only [F158, f1, f2, f3, f4, f5, f6, go_sem, seval]
    refine callI_pure (w_attr p st ha.pg.ok k name [value] (by simp)) ?_
    simp -implicitDefEqProofs only [go_sem, seval]
    simp [Bool.beq_eq_decide_eq]
  rw [if_neg g6]
  have f6 : (kind = 6) = False := eq_false g6
  by_cases g7 : kind = 7
  · have f7 : (kind = 7) = True := eq_true g7
    rw [if_pos g7]
    simp -implicitDefEqProofs only [F158, f1, f2, f3, f4, f5, f6, f7, go_sem, seval]
    refine callI_pure (w_contains_state st ⟨k, name⟩ (by have := ha.st; omega)) ?_
    simp -implicitDefEqProofs only [go_sem, seval]
  rw [if_neg g7]
  have f7 : (kind = 7) = False := eq_false g7
  by_cases g8 : kind = 8
  · have f8 : (kind = 8) = True := eq_true g8
    rw [if_pos g8]
    simp -implicitDefEqProofs only [F158, f1, f2, f3, f4, f5, f6, f7, f8, go_sem, seval]
    refine dcallI_pure (w_place p st ha.pg k ha.kin) ?_
    simp -implicitDefEqProofs only [go_sem, seval]
    refine dcallI_pure (w_Nth a b (placeB p k)) ?_
    simp -implicitDefEqProofs only [go_sem, seval]
    refine andI_intro (by kernel_rfl) ?_
    simp -implicitDefEqProofs only [go_sem, seval]
  rw [if_neg g8]
  have f8 : (kind = 8) = False := eq_false g8
  by_cases g9 : kind = 9
  · have f9 : (kind = 9) = True := eq_true g9
    rw [if_pos g9]
    simp -implicitDefEqProofs only [F158, f1, f2, f3, f4, f5, f6, f7, f8, f9, go_sem, seval]
    rw [hnode]
    by_cases u0 : nd.up = 0
    · simp -implicitDefEqProofs only [hx, u0, go_sem, seval]
      refine callI_pure (w_place p st ha.pg k ha.kin) ?_
      simp -implicitDefEqProofs only [go_sem, seval]
      simp [Bool.beq_eq_decide_eq, u0]
    · simp -implicitDefEqProofs only [hx, u0, go_sem, seval]
      simp [u0]
  rw [if_neg g9]
  have f9 : (kind = 9) = False := eq_false g9
  by_cases g10 : kind = 10
  · have f10 : (kind = 10) = True := eq_true g10
    rw [if_pos g10]
    simp -implicitDefEqProofs only [F158, f1, f2, f3, f4, f5, f6, f7, f8, f9, f10, go_sem, seval]
    rw [hnode]
    simp -implicitDefEqProofs only [hx, go_sem, seval]
    congr 1; rw [Bool.eq_iff_iff, beq_iff_eq, decide_eq_true_eq]; omega
  rw [if_neg g10]
  have f10 : (kind = 10) = False := eq_false g10
  by_cases g11 : kind = 11
  · have f11 : (kind = 11) = True := eq_true g11
    rw [if_pos g11]
    simp -implicitDefEqProofs only [F158, f1, f2, f3, f4, f5, f6, f7, f8, f9, f10, f11, go_sem, seval]
    refine callI_d (w_conF_Simple 180 [Enc.av p, Enc.av st] [Enc.av (k : Int)] (holdsB p st k) (by simp [flats, flat_av]) (by simp [flats, flat_av]) l hsub hxok.2.2.2.2.2.1) ?_
    simp -implicitDefEqProofs only [go_sem, seval]
    rw [holdsAny_eq]
  rw [if_neg g11]
  have f11 : (kind = 11) = False := eq_false g11
  simp -implicitDefEqProofs only [F158, f1, f2, f3, f4, f5, f6, f7, f8, f9, f10, f11, go_sem, seval]
end W15
/- What holds of a node: the document's. -/
set_option linter.unusedSimpArgs false
set_option linter.unusedVariables false
namespace W15
open Go Go.AX Go.AX.Ty Go.Proofs
end W15
/- Trees; who stands how. -/
set_option linter.unusedSimpArgs false
set_option linter.unusedVariables false
namespace W15
open Go Go.AX Go.AX.Ty Go.Proofs
def upOf (p : Page) (k : Nat) : Int := match p[k]? with
  | some x => x.up
  | none => -1
def kidsOf (p : Page) (m : Nat) (n : Nat) : List Int := ((List.range m).filter fun k => decide (1 ≤ k) && (upOf p k == (n : Int))).map fun k : Nat => (k : Int)
structure TreeP (p : Page) : Prop where
  ne : p ≠ []
  root : ∀ x, p[0]? = some x → x.up = -1 ∧ x.name = [] ∧ x.text = [] ∧ x.attrs = []
  up : ∀ (k : Nat) x, 1 ≤ k → p[k]? = some x → 0 ≤ x.up ∧ x.up < (k : Int)
  kids : ∀ (n : Nat) x, p[n]? = some x → x.kids = kidsOf p p.length n
theorem mem_kidsOf {p : Page} {m n : Nat} {a : Int} : a ∈ kidsOf p m n ↔ ∃ k : Nat, a = k ∧ k < m ∧ 1 ≤ k ∧ upOf p k = n := by
  simp only [kidsOf, List.mem_map, List.mem_filter, List.mem_range, Bool.and_eq_true, decide_eq_true_eq, beq_iff_eq]
  exact ⟨fun ⟨k, ⟨h1, h2, h3⟩, h4⟩ => ⟨k, h4.symm, h1, h2, h3⟩, fun ⟨k, h4, h1, h2, h3⟩ => ⟨k, ⟨h1, h2, h3⟩, h4.symm⟩⟩
theorem upOf_eq {p : Page} {k : Nat} {x : Ty.Node} (h : p[k]? = some x) : upOf p k = x.up := by simp [upOf, h]
theorem getElem_lt {α : Type} {l : List α} {k : Nat} {x : α} (h : l[k]? = some x) : k < l.length := by
  rcases Nat.lt_or_ge k l.length with h' | h'
  · exact h'
  · rw [List.getElem?_eq_none h'] at h; simp at h
theorem TreeP.parent {p : Page} (t : TreeP p) {k : Nat} {x : Ty.Node} (hx : p[k]? = some x) (hn : x.name ≠ []) : 1 ≤ k ∧ ∃ (u : Nat) (y : Ty.Node), x.up = u ∧ u < k ∧ p[u]? = some y ∧ (k : Int) ∈ y.kids := by
  have hk : 1 ≤ k := by
    rcases Nat.lt_or_ge k 1 with h | h
    · exfalso
      have : k = 0 := by omega
      subst this
      exact hn (t.root x hx).2.1
    · exact h
  obtain ⟨h1, h2⟩ := t.up k x hk hx
  have hlt := getElem_lt hx
  refine ⟨hk, x.up.toNat, p[x.up.toNat]'(by omega), by omega, by omega, by simp, ?_⟩
  rw [t.kids x.up.toNat _ (List.getElem?_eq_getElem (by omega))]
  exact mem_kidsOf.2 ⟨k, rfl, hlt, hk, by rw [upOf_eq hx]; omega⟩
theorem TreeP.at {p : Page} {st : List Ty.State} (t : TreeP p) (hp : PgOk p) (hs : st.length ≤ 100000) {k : Nat} {x : Ty.Node} (hx : p[k]? = some x) (hn : x.name ≠ []) : At p st k x := by
  refine ⟨hp, hs, hx, hn, fun a b h1 h2 => ?_⟩
  rw [nodeAt_nat, hx] at h1
  simp only [Option.some.injEq] at h1
  subst h1
  obtain ⟨hk, u, y, e, hu, hy, hm⟩ := t.parent hx hn
  rw [e, nodeAt_nat, hy] at h2
  simp only [Option.some.injEq] at h2
  subst h2
  intro h0; rw [h0] at hm; simp at hm
theorem TreeP.kin {p : Page} (t : TreeP p) {k : Nat} {x : Ty.Node} (hx : p[k]? = some x) (hn : x.name ≠ []) : (k : Int) ∈ kinB p k := by
  obtain ⟨hk, u, y, e, hu, hy, hm⟩ := t.parent hx hn
  have h1 : nodeAt p (k : Int) = some x := by rw [nodeAt_nat]; exact hx
  have h2 : nodeAt p x.up = some y := by rw [e, nodeAt_nat]; exact hy
  simp only [kinB, h1, h2, if_neg hn, List.mem_filter]
  exact ⟨hm, by simp [elemB, h1, hn]⟩
def aboveF (p : Page) : Nat → Int → List Int
  | 0, _ => []
  | f + 1, n => match nodeAt p n with
    | some x => if x.up > 0 then x.up :: aboveF p f x.up else []
    | none => []
def aboveB (p : Page) (n : Int) : List Int := aboveF p (n.toNat + 1) n
theorem aboveF_mono {p : Page} (t : TreeP p) : ∀ (f g : Nat) (k : Nat), k < f → k < g → aboveF p f k = aboveF p g k
  | 0, _, _, h, _ => by omega
  | _ + 1, 0, _, _, h => by omega
  | f + 1, g + 1, k, h1, h2 => by
    simp only [aboveF, nodeAt_nat]
    cases hx : p[k]? with
    | none => rfl
    | some x =>
      simp only
      by_cases h0 : x.up > 0
      · rw [if_pos h0, if_pos h0]
        have hk : 1 ≤ k := by
          rcases Nat.lt_or_ge k 1 with h | h
          · have : k = 0 := by omega
            subst this
            have := (t.root x hx).1; omega
          · exact h
        have := t.up k x hk hx
        obtain ⟨u, hu⟩ := Int.eq_ofNat_of_zero_le this.1
        rw [hu]
        rw [aboveF_mono t f g u (by omega) (by omega)]
      · rw [if_neg h0, if_neg h0]
theorem above_step {p : Page} (t : TreeP p) {k : Nat} {x : Ty.Node} (hx : p[k]? = some x) : aboveB p k = if x.up > 0 then x.up :: aboveB p x.up else [] := by
  unfold aboveB
  rw [aboveF, nodeAt_nat, hx]
  simp only [Int.toNat_natCast]
  by_cases h0 : x.up > 0
  · rw [if_pos h0, if_pos h0]
    have hk : 1 ≤ k := by
      rcases Nat.lt_or_ge k 1 with h | h
      · have : k = 0 := by omega
        subst this
        have := (t.root x hx).1; omega
      · exact h
    have := t.up k x hk hx
    obtain ⟨u, hu⟩ := Int.eq_ofNat_of_zero_le this.1
    rw [hu, Int.toNat_natCast, aboveF_mono t k (u + 1) u (by omega) (by omega)]
  · rw [if_neg h0, if_neg h0]
def Own (h : List (Nat × AX.Obj)) (m : Nat) (v : AV) (l : List Int) : Prop := (l = [] ∧ v = .nils) ∨ ∃ b, v = .sl b l.length 0 l.length 1 ∧ b < m ∧ b ≠ 0 ∧ AX.look b h = some (.cells l.length (cellsL l) false)
theorem w_above (p : Page) (st : List Ty.State) (hp : PgOk p) (t : TreeP p) {k : Nat} {x : Ty.Node} (hx : p[k]? = some x) :
    PureF Tryz.prog 182 [.agg [Enc.av p, Enc.av st], Enc.av (k : Int)] (Enc.av (aboveB p k)) := by
  refine pureF_W mix c182 (by kernel_rfl) (by kernel_rfl) (by simp [flats, flat_av, Go.AX.flat]) (by first | exact flat_av _ | simp [flat, flats, flat_av]) ?_
  simp -implicitDefEqProofs only [F182, hx, go_sem, seval]
  rw [above_step t hx]
  have hxk : 1 ≤ k ∨ x.up = -1 := by
    rcases Nat.lt_or_ge k 1 with h | h
    · have : k = 0 := by omega
      subst this
      exact .inr (t.root x hx).1
    · exact .inl h
  have hlt := getElem_lt hx
  refine LoopI_sl (fun q : List Int × AV × Int => (q.2.2 + 1).toNat) (fun q => [(1, .int .i64 q.2.2), (2, .ptr 0 0 0), (5, q.2.1)])
    (fun q s => 1 ≤ s.next ∧ AX.look 0 s.heap = some (.cells 0 [Enc.av p, Enc.av st] false) ∧ Own s.heap s.next q.2.1 q.1 ∧ -1 ≤ q.2.2 ∧ q.2.2 < p.length ∧ q.1.length + q.2.2 ≤ 1000 ∧
      q.1 ++ (if q.2.2 > 0 then q.2.2 :: aboveB p q.2.2 else []) = (if x.up > 0 then x.up :: aboveB p x.up else [])) ([], .nils, x.up) ?_ ?_
  · simp -implicitDefEqProofs only [go_sem, seval]
    have hpl := hp.len
    refine ⟨.inl ⟨rfl, rfl⟩, ?_⟩
    rcases hxk with h | h
    · have := t.up k x h hx
      simp; omega
    · rw [h]; simp; omega
  rintro ⟨out, v, c⟩ ρ ⟨g, m⟩ ⟨h1, h2, h3, h4, h5, h6, h7⟩
  dsimp only at h1 h2 h3 h4 h5 h6 h7
  by_cases hc : c > 0
  · obtain ⟨j, rfl⟩ := Int.eq_ofNat_of_zero_le (show 0 ≤ c by omega)
    have hcT : ((j : Int) > 0) = True := eq_true hc
    obtain ⟨y, hy⟩ : ∃ y, p[j]? = some y := ⟨p[j]'(by omega), by simp⟩
    have hyup := t.up j y (by omega) hy
    have m0 : (m = 0) = False := eq_false (by omega)
    have m1 : (m + 1 = 0) = False := eq_false (by omega)
    have m2 : (m + 1 = m) = False := eq_false (by omega)
    have i0 : (0 < m) = True := eq_true (by omega)
    rw [if_pos hc, above_step t hy] at h7
    have hsn : cellsL (out ++ [(j : Int)]) = cellsL out ++ [.int .i64 j] := by rw [cellsL_append]; rfl
    have hl2 : (out ++ [(j : Int)]).length = out.length + 1 := by simp
    rcases h3 with ⟨rfl, rfl⟩ | ⟨b, rfl, hb1, hb2, hb3⟩
    · simp -implicitDefEqProofs only [hcT, hy, h2, m0, m1, m2, i0, go_sem, seval]
      refine ⟨([(j : Int)], .sl (m + 1) 1 0 1 1, y.up), by simp only; omega, ?_⟩
      simp only [true_and]
      simp only [List.length_nil] at h6
      refine ⟨.inr ⟨m + 1, rfl, by omega, by omega, ?_⟩, by omega, by omega, by simp; omega, h7⟩
      simp [AX.look, cellsL, Enc.cells]
    · have mb : (m = b) = False := eq_false (by omega)
      have b0 : (b = 0) = False := eq_false hb2
      have hc1 : (cellsL out).length = out.length := by rw [cellsL_len]; simp [Enc.sz]
      have ht : List.take out.length (cellsL out) = cellsL out := List.take_of_length_le (by omega)
      have hbd : ((out.length + 1) * 8 ≤ 140737488355328) = True := eq_true (by omega)
      simp -implicitDefEqProofs only [hcT, hy, h2, hb3, m0, m1, m2, i0, mb, b0, hc1, ht, hbd, go_sem, seval]
      refine ⟨(out ++ [(j : Int)], .sl b (out.length + 1) 0 (out.length + 1) 1, y.up), by simp only; omega, ?_⟩
      simp only [true_and]
      refine ⟨.inr ⟨b, by rw [hl2], by omega, hb2, ?_⟩, by omega, by omega, by rw [hl2]; omega, ?_⟩
      · rw [hl2, hsn]
        simp [AX.look, look_putAt, mb, hb3]
      · rw [List.append_assoc]; exact h7
  · have hcT : (c > 0) = False := eq_false hc
    simp -implicitDefEqProofs only [hcT, go_sem, seval]
    rw [if_neg hc, List.append_nil] at h7
    rw [← h7]
    rcases h3 with ⟨rfl, rfl⟩ | ⟨b, rfl, hb1, hb2, hb3⟩
    · simp [viewIs, view, cellsL]
    · have hc1 : (cellsL out).length = out.length := by rw [cellsL_len]; simp [Enc.sz]
      rw [viewIs_sl _ hb3 (by omega), Nat.mul_one, List.take_of_length_le (by omega)]
end W15
/- Who stands how. -/
set_option linter.unusedSimpArgs false
set_option linter.unusedVariables false
namespace W15
open Go Go.AX Go.AX.Ty Go.Proofs
theorem ints_len (l : List Int) : (cellsL l).length = l.length := by rw [cellsL_len]; simp [Enc.sz]
theorem ints_take (l : List Int) (k : Nat) : List.take k (cellsL l) = cellsL (l.take k) := by have := cellsL_take l k; simpa [Enc.sz] using this
theorem ints_drop (l : List Int) (k : Nat) : List.drop k (cellsL l) = cellsL (l.drop k) := by have := cellsL_drop l k; simpa [Enc.sz] using this
def aheadB (p : Page) (n : Int) : List Int := (kinB p n).take (idxOf (fun x => n == x) (kinB p n)).toNat
theorem w_ahead (p : Page) (st : List Ty.State) (hp : PgOk p) (t : TreeP p) {k : Nat} {x : Ty.Node} (ha : At p st k x) :
    PureF Tryz.prog 183 [.agg [Enc.av p, Enc.av st], Enc.av (k : Int)] (Enc.av (aheadB p k)) := by
  refine pureF_W mix c183 (by kernel_rfl) (by kernel_rfl) (by simp [flats, flat_av, Go.AX.flat]) (by first | exact flat_av _ | simp [flat, flats, flat_av]) ?_
  simp -implicitDefEqProofs only [F183, go_sem, seval]
  refine callI_pure (w_Kin p hp k ha.kin) ?_
  simp -implicitDefEqProofs only [go_sem, seval]
  refine callI_pure (w_index_int (k : Int) _ (by have := kin_len hp k; omega)) ?_
  have hm := t.kin ha.at' ha.el
  unfold aheadB
  generalize kinB p k = l at hm
  rcases idx_cases (fun x => (k : Int) == x) l with ⟨e, hno⟩ | ⟨i, y, e, hi, _⟩
  · have := hno _ hm; simp at this
  rw [e]
  have h1 : (i ≤ l.length) = True := eq_true (by omega)
  simp -implicitDefEqProofs only [h1, Nat.zero_mul, Nat.sub_zero, Nat.mul_one, ints_take, ints_len, go_sem, seval]
  rw [List.length_take, Nat.min_eq_left (by omega)]
def relatedB (p : Page) (n : Int) (c : Int) : List Int :=
  if c = 1 then aboveB p n else if c = 2 then (aboveB p n).take 1 else if c = 3 then (aheadB p n).drop ((aheadB p n).length - 1) else if c = 4 then aheadB p n else []
theorem above_len {p : Page} (t : TreeP p) : ∀ (k : Nat), k < p.length → (aboveB p k).length ≤ k := fun k => by
  induction k using Nat.strongRecOn with
  | ind k ih =>
  intro hk
  rw [above_step t (List.getElem?_eq_getElem hk)]
  split
  · rename_i h
    have hk1 : 1 ≤ k := by
      rcases Nat.lt_or_ge k 1 with h' | h'
      · have : k = 0 := by omega
        subst this
        have := (t.root _ (List.getElem?_eq_getElem hk)).1; omega
      · exact h'
    have h2 := t.up k _ hk1 (List.getElem?_eq_getElem hk)
    obtain ⟨u, hu⟩ := Int.eq_ofNat_of_zero_le h2.1
    rw [hu]
    have := ih u (by omega) (by omega)
    simp only [List.length_cons]; omega
  · simp
theorem w_related (p : Page) (st : List Ty.State) (hp : PgOk p) (t : TreeP p) {k : Nat} {x : Ty.Node} (ha : At p st k x) (c : Int) :
    PureF Tryz.prog 160 [.agg [Enc.av p, Enc.av st], Enc.av (k : Int), Enc.av c] (Enc.av (relatedB p k c)) := by
  refine pureF_W mix c160 (by kernel_rfl) (by kernel_rfl) (by simp [flats, flat_av, Go.AX.flat]) (by first | exact flat_av _ | simp [flat, flats, flat_av]) ?_
  unfold relatedB
  have hk := getElem_lt ha.at'
  have hal : (aboveB p k).length ≤ 1000 := by have := above_len t k hk; have := hp.len; omega
  have hhl : (aheadB p k).length ≤ 1000 := by
    unfold aheadB
    have := kin_len hp k
    rw [List.length_take]; omega
  by_cases c1 : c = 1
  · have f1 : (c = 1) = True := eq_true c1
    rw [if_pos c1]
    simp -implicitDefEqProofs only [F160, f1, go_sem, seval]
    refine callI_pure (w_above p st hp t ha.at') ?_
    simp -implicitDefEqProofs only [go_sem, seval]
  have f1 : (c = 1) = False := eq_false c1
  rw [if_neg c1]
  by_cases c2 : c = 2
  · have f2 : (c = 2) = True := eq_true c2
    rw [if_pos c2]
    simp -implicitDefEqProofs only [F160, f1, f2, go_sem, seval]
    refine callI_pure (w_above p st hp t ha.at') ?_
    generalize aboveB p k = l at hal
    cases l with
    | nil => simp -implicitDefEqProofs only [ints_len, cellsL, go_sem, seval]
    | cons a r =>
      have e1 : (((r.length + 1 : Nat) : Int) < 1) = False := eq_false (by omega)
      have e2 : (1 ≤ r.length + 1) = True := eq_true (by omega)
      have e3 : cellsL (List.take 1 (a :: r)) = [.int .i64 a] := rfl
      simp -implicitDefEqProofs only [e1, e2, ints_len, ints_take, e3, Nat.zero_mul, Nat.sub_zero, Nat.mul_one, go_sem, seval]
  have f2 : (c = 2) = False := eq_false c2
  rw [if_neg c2]
  by_cases c3 : c = 3
  · have f3 : (c = 3) = True := eq_true c3
    rw [if_pos c3]
    simp -implicitDefEqProofs only [F160, f1, f2, f3, go_sem, seval]
    refine callI_pure (w_ahead p st hp t ha) ?_
    generalize aheadB p k = l at hhl
    cases l with
    | nil =>
      have e0 : IntKind.i64.wrap (0 - 1) = -1 := rfl
      simp -implicitDefEqProofs only [ints_len, cellsL, e0, go_sem, seval]
    | cons a r =>
      have e0 : IntKind.i64.wrap (((r.length + 1 : Nat) : Int) - 1) = (r.length : Int) := by rw [wrap64 (by omega) (by simp at hhl; omega)]; omega
      have e1 : (if ((r.length : Nat) : Int) > 0 then ((r.length : Nat) : Int) else 0) = (r.length : Int) := by split <;> omega
      have e2 : (r.length ≤ r.length + 1) = True := eq_true (by omega)
      have e3 : r.length + 1 - r.length = 1 := by omega
      have e4 : (List.drop r.length (a :: r)).length = 1 := by rw [List.length_drop]; simp
      simp -implicitDefEqProofs only [e0, e1, e2, e3, ints_len, ints_drop, Nat.mul_one, Nat.add_sub_cancel, e4, go_sem, seval]
  have f3 : (c = 3) = False := eq_false c3
  rw [if_neg c3]
  by_cases c4 : c = 4
  · have f4 : (c = 4) = True := eq_true c4
    rw [if_pos c4]
    simp -implicitDefEqProofs only [F160, f1, f2, f3, f4, go_sem, seval]
    refine callI_pure (w_ahead p st hp t ha) ?_
    simp -implicitDefEqProofs only [go_sem, seval]
  have f4 : (c = 4) = False := eq_false c4
  rw [if_neg c4]
  simp -implicitDefEqProofs only [F160, f1, f2, f3, f4, cellsL, go_sem, seval]
end W15
/- What is known of parts and nodes: the map. -/
set_option linter.unusedSimpArgs false
set_option linter.unusedVariables false
namespace W15
open Go Go.AX Go.AX.Ty Go.Proofs
abbrev Kn := List (Int × Int × Int)
def key (a b : Int) : AV := .agg [.int .i64 a, .int .i64 b]
def encE (L : Kn) : List (AV × AV) := L.map fun t => (key t.1 t.2.1, .int .i64 t.2.2)
def kget : Kn → Int → Int → Int
  | [], _, _ => 0
  | t :: r, a, b => if t.1 = a ∧ t.2.1 = b then t.2.2 else kget r a b
def kset : Kn → Int → Int → Int → Kn
  | [], a, b, v => [(a, b, v)]
  | t :: r, a, b, v => if t.1 = a ∧ t.2.1 = b then (a, b, v) :: r else t :: kset r a b v
abbrev trK : EqT := .node [(0, none, .int), (1, none, .int)]
theorem kget_kset (a b v a' b' : Int) : ∀ L : Kn, kget (kset L a b v) a' b' = if a = a' ∧ b = b' then v else kget L a' b'
  | [] => by simp [kset, kget]
  | t :: r => by
    have ih := kget_kset a b v a' b' r
    simp only [kset]
    by_cases h : t.1 = a ∧ t.2.1 = b
    · rw [if_pos h]
      simp only [kget]
      by_cases h2 : a = a' ∧ b = b'
      · simp [h2]
      · rw [if_neg h2, if_neg h2, if_neg (by rw [h.1, h.2]; exact h2)]
    · rw [if_neg h]
      simp only [kget, ih]
      by_cases h2 : a = a' ∧ b = b'
      · obtain ⟨rfl, rfl⟩ := h2; rw [if_neg h]; simp
      · simp [h2]
theorem eqv_key (a b a' b' : Int) : eqv trK (key a b) (key a' b') = some (a == a' && b == b') := by
  simp [eqv, eqvs, key, partOf]
theorem mfind_enc (a b : Int) : ∀ (L : Kn) (i : Nat), (mfind trK (key a b) (encE L) i = some none ∧ kget L a b = 0 ∧ ∀ v, kset L a b v = L ++ [(a, b, v)]) ∨
    ∃ j, j < L.length ∧ mfind trK (key a b) (encE L) i = some (some (i + j, key a b, .int .i64 (kget L a b))) ∧ ∀ v, kset L a b v = L.set j (a, b, v)
  | [], i => .inl ⟨rfl, rfl, fun _ => rfl⟩
  | t :: r, i => by
    obtain ⟨x, y, w⟩ := t
    simp only [encE, List.map_cons, mfind, eqv_key]
    by_cases h : x = a ∧ y = b
    · obtain ⟨rfl, rfl⟩ := h
      right
      refine ⟨0, by simp, ?_, fun v => ?_⟩
      · simp [kget]
      · simp [kset]
    · have hb : (a == x && b == y) = false := by
        rw [Bool.eq_false_iff]; intro hh
        simp only [Bool.and_eq_true, beq_iff_eq] at hh
        exact h ⟨hh.1.symm, hh.2.symm⟩
      rw [hb]
      simp only
      rcases mfind_enc a b r (i + 1) with ⟨h1, h2, h3⟩ | ⟨j, h1, h2, h3⟩
      · left
        refine ⟨h1, ?_, fun v => ?_⟩
        · simp only [kget]; rw [if_neg h]; exact h2
        · simp only [kset]; rw [if_neg h, h3 v]; rfl
      · right
        refine ⟨j + 1, by simp; omega, ?_, fun v => ?_⟩
        · rw [show i + (j + 1) = i + 1 + j by omega]
          simp only [kget]; rw [if_neg h]; exact h2
        · simp only [kset]; rw [if_neg h, h3 v]; rfl
theorem lkp_enc (L : Kn) (a b : Int) : lkpA trK (.int .i64 0) false (key a b) (encE L) = some (.int .i64 (kget L a b)) := by
  unfold lkpA
  rcases mfind_enc a b L 0 with ⟨h1, h2, _⟩ | ⟨j, _, h2, _⟩
  · rw [h1, h2]; rfl
  · rw [h2]; rfl
theorem mup_enc (L : Kn) (a b v : Int) : mupA trK (key a b) (.int .i64 v) (encE L) = some (encE (kset L a b v)) := by
  unfold mupA
  rcases mfind_enc a b L 0 with ⟨h1, _, h3⟩ | ⟨j, hj, h2, h3⟩
  · rw [h1, h3 v]; simp [encE]
  · rw [h2, h3 v]
    have : sameK (key a b) (key a b) = true := by simp [sameK, sameKs, sameK1, key]
    simp only [this, if_true, Nat.zero_add]
    simp [encE, List.map_set]
theorem lkp_enc' (L : Kn) (a b : Int) : lkpA trK (.int .i64 0) false (.agg [.int .i64 a, .int .i64 b]) (encE L) = some (.int .i64 (kget L a b)) := lkp_enc L a b
theorem mup_enc' (L : Kn) (a b v : Int) : mupA trK (.agg [.int .i64 a, .int .i64 b]) (.int .i64 v) (encE L) = some (encE (kset L a b v)) := mup_enc L a b v
def fitsB (p : Page) (st : List Ty.State) (parts : List Part) : Nat → Int → Bool
  | 0, n => elemB p n && (match parts[0]? with | some q => q.l.all (holdsB p st n) | none => false)
  | k + 1, n => elemB p n && (match parts[k + 1]? with | some q => q.l.all (holdsB p st n) && (relatedB p n q.comb).any (fitsB p st parts k) | none => false)
def KnLt (p : Page) (st : List Ty.State) (parts : List Part) (L : Kn) (k : Nat) : Prop := ∀ (a : Int) (b : Nat), b < k → kget L a b = 0 ∨ kget L a b = if fitsB p st parts b a = true then 1 else 2
def KnGe (L L' : Kn) (k : Nat) : Prop := ∀ (a : Int) (b : Nat), k ≤ b → kget L' a b = kget L a b
theorem KnGe.trans {L L' L'' : Kn} {k : Nat} (h : KnGe L L' k) (h' : KnGe L' L'' k) : KnGe L L'' k := fun a b hb => by rw [h' a b hb, h a b hb]
theorem cl_encE (L : Kn) (m : Nat) : ClO m (.map (encE L)) := fun q hq => by
  simp only [encE, List.mem_map] at hq
  obtain ⟨t, _, rfl⟩ := hq
  simp [key, Cl, Cls]
def anyM (f : Kn → Int → Kn) (q : Int → Bool) : List Int → Kn → Kn
  | [], L => L
  | x :: r, L => if q x = true then f L x else anyM f q r (f L x)
def findN (p : Page) (st : List Ty.State) (parts : List Part) (k : Nat) (f : Kn → Int → Kn) (L : Kn) (n : Int) : Kn := match parts[k + 1]? with
  | some q => if (elemB p n && q.l.all (holdsB p st n)) = true then anyM f (fitsB p st parts k) (relatedB p n q.comb) L else L
  | none => L
def memo (p : Page) (st : List Ty.State) (parts : List Part) (k : Nat) (L3 L : Kn) (n : Int) : Kn := if kget L n k = 0 then (if fitsB p st parts k n = true then kset L3 n k 1 else L3) else L
def fitsM (p : Page) (st : List Ty.State) (parts : List Part) : Nat → Kn → Int → Kn
  | 0 => fun L n => memo p st parts 0 (kset L n 0 2) L n
  | k + 1 => fun L n => memo p st parts (k + 1) (findN p st parts k (fitsM p st parts k) (kset L n ((k + 1 : Nat) : Int) 2) n) L n
def findM (p : Page) (st : List Ty.State) (parts : List Part) : Nat → Kn → Int → Kn
  | 0 => fun L _ => L
  | k + 1 => fun L n => findN p st parts k (fitsM p st parts k) L n
theorem fitsM_eq (p : Page) (st : List Ty.State) (parts : List Part) (k : Nat) (L : Kn) (n : Int) : fitsM p st parts k L n = memo p st parts k (findM p st parts k (kset L n k 2) n) L n := by
  cases k <;> rfl
def MOk (p : Page) (st : List Ty.State) (parts : List Part) (k : Nat) (f : Kn → Int → Kn) : Prop := ∀ L n, KnLt p st parts L k → KnLt p st parts (f L n) k ∧ KnGe L (f L n) k
theorem fitsM_of {p : Page} {st : List Ty.State} {parts : List Part} {k : Nat} (hf : MOk p st parts k (findM p st parts k)) : MOk p st parts (k + 1) (fitsM p st parts k) := by
  intro L n hL
  rw [fitsM_eq]
  unfold memo
  by_cases h0 : kget L n k = 0
  · rw [if_pos h0]
    have hlt : KnLt p st parts (kset L n k 2) k := fun a b' hb => by
      rw [kget_kset, if_neg (by omega)]
      exact hL a b' (by omega)
    obtain ⟨e1, e2⟩ := hf (kset L n k 2) n hlt
    generalize findM p st parts k (kset L n k 2) n = L' at e1 e2
    have g1 : kget L' n k = 2 := by rw [e2 n k (Nat.le_refl _), kget_kset, if_pos ⟨rfl, rfl⟩]
    have g2 : ∀ a, a ≠ n → kget L' a k = kget L a k := fun a ha => by rw [e2 a k (Nat.le_refl _), kget_kset, if_neg (by intro hh; exact ha hh.1.symm)]
    have g3 : ∀ a (b' : Nat), k < b' → kget L' a b' = kget L a b' := fun a b' hb => by rw [e2 a b' (by omega), kget_kset, if_neg (by omega)]
    cases hfb : fitsB p st parts k n
    · rw [if_neg (by simp)]
      refine ⟨fun a b' hb => ?_, fun a b' hb => g3 a b' (by omega)⟩
      rcases Nat.lt_or_ge b' k with hk | hk
      · exact e1 a b' hk
      · have : b' = k := by omega
        subst this
        by_cases ha : a = n
        · subst ha; rw [g1, hfb]; exact .inr rfl
        · rw [g2 a ha]; exact hL a _ (by omega)
    · rw [if_pos rfl]
      refine ⟨fun a b' hb => ?_, fun a b' hb => ?_⟩
      · rw [kget_kset]
        split
        · rename_i ha
          obtain ⟨rfl, ha2⟩ := ha
          have : k = b' := by omega
          subst this
          rw [hfb]; exact .inr rfl
        · rename_i ha
          rcases Nat.lt_or_ge b' k with hk | hk
          · exact e1 a b' hk
          · have : b' = k := by omega
            subst this
            rw [g2 a (by intro hh; exact ha ⟨hh.symm, rfl⟩)]; exact hL a _ (by omega)
      · rw [kget_kset, if_neg (by omega)]
        exact g3 a b' (by omega)
  · rw [if_neg h0]; exact ⟨hL, fun _ _ _ => rfl⟩
theorem anyM_ok {p : Page} {st : List Ty.State} {parts : List Part} {k : Nat} {f : Kn → Int → Kn} (hf : MOk p st parts k f) (q : Int → Bool) : ∀ (l : List Int) (L : Kn), KnLt p st parts L k → KnLt p st parts (anyM f q l L) k ∧ KnGe L (anyM f q l L) k
  | [], L, h => ⟨h, fun _ _ _ => rfl⟩
  | x :: r, L, h => by
    obtain ⟨h1, h2⟩ := hf L x h
    simp only [anyM]
    split
    · exact ⟨h1, h2⟩
    · obtain ⟨h3, h4⟩ := anyM_ok hf q r _ h1
      exact ⟨h3, h2.trans h4⟩
theorem findM_ok (p : Page) (st : List Ty.State) (parts : List Part) : ∀ k, MOk p st parts k (findM p st parts k)
  | 0 => fun L n h => ⟨h, fun _ _ _ => rfl⟩
  | k + 1 => fun L n h => by
    show KnLt p st parts (findN p st parts k (fitsM p st parts k) L n) (k + 1) ∧ KnGe L (findN p st parts k (fitsM p st parts k) L n) (k + 1)
    unfold findN
    split
    · split
      · exact anyM_ok (fitsM_of (findM_ok p st parts k)) _ _ _ h
      · exact ⟨h, fun _ _ _ => rfl⟩
    · exact ⟨h, fun _ _ _ => rfl⟩
theorem fitsM_ok (p : Page) (st : List Ty.State) (parts : List Part) (k : Nat) : MOk p st parts (k + 1) (fitsM p st parts k) := fitsM_of (findM_ok p st parts k)
end W15
/- The matcher: what it knows, it keeps. -/
set_option linter.unusedSimpArgs false
set_option linter.unusedVariables false
namespace W15
open Go Go.AX Go.AX.Ty Go.Proofs
structure Mt (p : Page) (st : List Ty.State) (parts : List Part) (h : List (Nat × AX.Obj)) (m b r : Nat) (L : Kn) : Prop where
  obj : AX.look b h = some (.cells 0 [Enc.av p, Enc.av st, Enc.av parts, .map r] false)
  map : AX.look r h = some (.map (encE L))
  br : b ≠ r
  bm : b < m
  rm : r < m
  wf : Wf ⟨h, m⟩
theorem Mt.next {p : Page} {st : List Ty.State} {parts : List Part} {h : List (Nat × AX.Obj)} {m b r : Nat} {L : Kn} (M : Mt p st parts h m b r L) (o : AX.Obj) (L' : Kn) : Mt p st parts ((m, o) :: putAt r (.map (encE L')) h) (m + 1) b r L' := by
  have h1 := M.bm
  have h2 := M.rm
  refine ⟨?_, ?_, M.br, by omega, by omega, wf_push (wf_put M.wf)⟩
  · simp only [AX.look]; rw [if_neg (by omega), look_put_ne (Ne.symm M.br)]; exact M.obj
  · simp only [AX.look]; rw [if_neg (by omega), look_put_eq M.map]
theorem Mt.put {p : Page} {st : List Ty.State} {parts : List Part} {h : List (Nat × AX.Obj)} {m b r : Nat} {L : Kn} (M : Mt p st parts h m b r L) (L' : Kn) : Mt p st parts (putAt r (.map (encE L')) h) m b r L' :=
  ⟨by rw [look_put_ne (Ne.symm M.br)]; exact M.obj, by rw [look_put_eq M.map], M.br, M.bm, M.rm, wf_put M.wf⟩
def FindOk (p : Page) (st : List Ty.State) (parts : List Part) (k : Nat) : Prop := ∀ (n : Int) (h : List (Nat × AX.Obj)) (m b r : Nat) (L : Kn), Mt p st parts h m b r L → KnLt p st parts L k →
  ACalls Tryz.prog 138 [.ptr b 0 0, .int .i64 n, .int .i64 k] ⟨h, m⟩ fun v s' => v = .bool (fitsB p st parts k n) ∧ s' = ⟨putAt r (.map (encE (findM p st parts k L n))) h, m⟩
def FitsOk (p : Page) (st : List Ty.State) (parts : List Part) (k : Nat) : Prop := ∀ (n : Int) (h : List (Nat × AX.Obj)) (m b r : Nat) (L : Kn), Mt p st parts h m b r L → KnLt p st parts L (k + 1) →
  ACalls Tryz.prog 123 [.ptr b 0 0, .int .i64 n, .int .i64 k] ⟨h, m⟩ fun v s' => v = .bool (fitsB p st parts k n) ∧ s' = ⟨putAt r (.map (encE (fitsM p st parts k L n))) h, m⟩
theorem map_end {f : Nat} {args : List AV} {h : List (Nat × AX.Obj)} {m r : Nat} {es : List (AV × AV)} {u : Bool} {L' : Kn} (hr : AX.look r h = some (.map es)) (hrm : r < m)
    (H : ACalls Tryz.prog f args ⟨h, m⟩ fun v s' => v = .bool u ∧ ∀ id, id < m → AX.look id s'.heap = if id = r then some (.map (encE L')) else AX.look id h) :
    ACalls Tryz.prog f args ⟨h, m⟩ fun v s' => v = .bool u ∧ s' = ⟨putAt r (.map (encE L')) h, m⟩ := by
  refine ACalls.fin (H.mono ?_)
  rintro v s' ⟨rfl, h3⟩
  refine ⟨trivial, ⟨putAt r (.map (encE L')) h, m⟩, rfl, put_ex, fun id o hid ho => ?_, rfl, rfl⟩
  have h4 := h3 id hid
  simp only [St.get, look_putAt] at ho ⊢
  by_cases he : r = id
  · subst he
    rw [if_pos rfl, hr] at ho
    simp only [Option.map_some, Option.some.injEq] at ho
    subst ho
    rw [if_pos rfl] at h4
    exact ⟨h4, .inr (cl_encE L' _)⟩
  · rw [if_neg he] at ho
    rw [if_neg (Ne.symm he), ho] at h4
    exact ⟨h4, .inl ho⟩
theorem w_fits {p : Page} {st : List Ty.State} {parts : List Part} {k : Nat} (hfind : FindOk p st parts k) : FitsOk p st parts k := by
  intro n h m b r L hM hL
  refine map_end hM.map hM.rm (acalls_W mix (C0_ok _) c123 (by kernel_rfl) (Nat.le_of_ble_eq_true (by kernel_rfl)) ?_)
  rw [fitsM_eq]
  unfold memo
  have hobj := hM.obj
  have hmap := hM.map
  have hbr := hM.br
  have hbm := hM.bm
  have hrm := hM.rm
  have m1 : (m = b) = False := eq_false (by omega)
  have m2 : (m = r) = False := eq_false (by omega)
  have m3 : (b = r) = False := eq_false hbr
  have m4 : (r = b) = False := eq_false (Ne.symm hbr)
  have m5 : (r = m) = False := eq_false (by omega)
  have i1 : (b < m) = True := eq_true hbm
  have i2 : (r < m) = True := eq_true hrm
  have i3 : (b < m + 1) = True := eq_true (by omega)
  have i4 : (r < m + 1) = True := eq_true (by omega)
  simp -implicitDefEqProofs only [F123, hobj, hmap, m1, m2, m3, i1, i2, i3, i4, lkp_enc', mup_enc', go_sem, seval]
  refine andI_intro (by (first | omega | (simp [indepB, indep1, apart1, Nat.testBit_eq_decide_div_mod_eq]; done) | (simp [indepB, indep1, apart1, Nat.testBit_eq_decide_div_mod_eq]; omega) | kernel_rfl)) ?_
  by_cases h0 : kget L n k = 0
  · have f0 : (kget L n k = 0) = True := eq_true h0
    rw [if_pos h0]
    simp -implicitDefEqProofs only [f0, hobj, hmap, m1, m2, m3, m4, m5, i1, i2, i3, i4, lkp_enc', mup_enc', go_sem, seval]
    refine andI_intro (by (first | omega | (simp [indepB, indep1, apart1, Nat.testBit_eq_decide_div_mod_eq]; done) | (simp [indepB, indep1, apart1, Nat.testBit_eq_decide_div_mod_eq]; omega) | kernel_rfl)) ?_
    simp -implicitDefEqProofs only [f0, hobj, hmap, m1, m2, m3, m4, m5, i1, i2, i3, i4, lkp_enc', mup_enc', go_sem, seval]
    have hlt : KnLt p st parts (kset L n k 2) k := fun a b' hb => by
      rw [kget_kset, if_neg (by omega)]
      exact hL a b' (by omega)
    refine callI_st (hfind n _ _ b r (kset L n k 2) (hM.next _ _) hlt) ?_
    obtain ⟨e1, e2⟩ := findM_ok p st parts k (kset L n k 2) n hlt
    generalize findM p st parts k (kset L n k 2) n = L' at e1 e2
    have g1 : kget L' n k = 2 := by rw [e2 n k (Nat.le_refl _), kget_kset, if_pos ⟨rfl, rfl⟩]
    cases hfb : fitsB p st parts k n
    · simp -implicitDefEqProofs only [hobj, hmap, m1, m2, m3, m4, m5, i1, i2, i3, i4, lkp_enc', mup_enc', g1, go_sem, seval]
      refine andI_intro (by (first | omega | (simp [indepB, indep1, apart1, Nat.testBit_eq_decide_div_mod_eq]; done) | (simp [indepB, indep1, apart1, Nat.testBit_eq_decide_div_mod_eq]; omega) | kernel_rfl)) ?_
      simp -implicitDefEqProofs only [hobj, hmap, m1, m2, m3, m4, m5, i1, i2, i3, i4, lkp_enc', mup_enc', g1, go_sem, seval]
      intro id hid
      have hm : (m = id) = False := eq_false (by omega)
      by_cases hr : r = id
      · subst hr; simp [hm, hmap, look_putAt, m5, m2]
      · simp [hm, hr, Ne.symm hr, look_putAt]
    · have g5 : kget (kset L' n k 1) n k = 1 := by rw [kget_kset, if_pos ⟨rfl, rfl⟩]
      simp -implicitDefEqProofs only [hobj, hmap, m1, m2, m3, m4, m5, i1, i2, i3, i4, lkp_enc', mup_enc', g1, g5, go_sem, seval]
      refine andI_intro (by (first | omega | (simp [indepB, indep1, apart1, Nat.testBit_eq_decide_div_mod_eq]; done) | (simp [indepB, indep1, apart1, Nat.testBit_eq_decide_div_mod_eq]; omega) | kernel_rfl)) ?_
      simp -implicitDefEqProofs only [hobj, hmap, m1, m2, m3, m4, m5, i1, i2, i3, i4, lkp_enc', mup_enc', g1, g5, go_sem, seval]
      refine andI_intro (by (first | omega | (simp [indepB, indep1, apart1, Nat.testBit_eq_decide_div_mod_eq]; done) | (simp [indepB, indep1, apart1, Nat.testBit_eq_decide_div_mod_eq]; omega) | kernel_rfl)) ?_
      simp -implicitDefEqProofs only [hobj, hmap, m1, m2, m3, m4, m5, i1, i2, i3, i4, lkp_enc', mup_enc', g1, g5, go_sem, seval]
      intro id hid
      have hm : (m = id) = False := eq_false (by omega)
      by_cases hr : r = id
      · subst hr; simp [hm, hmap, look_putAt, m5, m2]
      · simp [hm, hr, Ne.symm hr, look_putAt]
  · have f0 : (kget L n k = 0) = False := eq_false h0
    rw [if_neg h0]
    simp -implicitDefEqProofs only [f0, hobj, hmap, m1, m2, m3, m4, m5, i1, i2, i3, i4, lkp_enc', mup_enc', go_sem, seval]
    refine andI_intro (by (first | omega | (simp [indepB, indep1, apart1, Nat.testBit_eq_decide_div_mod_eq]; done) | (simp [indepB, indep1, apart1, Nat.testBit_eq_decide_div_mod_eq]; omega) | kernel_rfl)) ?_
    simp -implicitDefEqProofs only [f0, hobj, hmap, m1, m2, m3, m4, m5, i1, i2, i3, i4, lkp_enc', mup_enc', go_sem, seval]
    have g1 := (hL n k (by omega)).resolve_left h0
    refine ⟨?_, fun id hid => ?_⟩
    · rw [g1]; cases fitsB p st parts k n <;> rfl
    · have hm : (m = id) = False := eq_false (by omega)
      by_cases hr : r = id
      · subst hr; simp [hmap, m2]
      · simp [hm, Ne.symm hr]
end W15
/- The matcher: finding. -/
set_option linter.unusedSimpArgs false
set_option linter.unusedVariables false
namespace W15
open Go Go.AX Go.AX.Ty Go.Proofs
theorem w_find1 {p : Page} {st : List Ty.State} {parts : List Part} {k : Nat} {nd : Ty.Node} (ha : At p st k nd) (x : Simple) (hok : Enc.ok x) {h : List (Nat × AX.Obj)} {m b r c d : Nat} {L : Kn} {s1 s2 : Bool} (M : Mt p st parts h m b r L)
    (hc : AX.look c h = some (.cells 0 [.ptr b 0 0] s1)) (hd : AX.look d h = some (.cells 0 [.int .i64 k] s2)) (hcm : c < m) (hdm : d < m) :
    ACalls Tryz.prog 157 [Enc.av x, .ptr c 0 0, .ptr d 0 0] ⟨h, m⟩ fun v s' => v = .bool (!holdsB p st k x) ∧ s' = ⟨h, m⟩ := by
  refine acalls_fin mix c157 (by kernel_rfl) (by kernel_rfl) (by simp [Cl, Cls]) rfl (fun id o ho => ⟨o, ho⟩) ?_
  have hobj := M.obj
  have hbm := M.bm
  have m1 : (m = b) = False := eq_false (by omega)
  have m2 : (m = c) = False := eq_false (by omega)
  have m3 : (m = d) = False := eq_false (by omega)
  have i1 : (b < m + 1) = True := eq_true (by omega)
  have i2 : (c < m + 1) = True := eq_true (by omega)
  have i3 : (d < m + 1) = True := eq_true (by omega)
  have hh := w_holds ha (sizeOf x) x (Nat.le_refl _) hok
  rw [Simple.eav] at hh ⊢
  simp -implicitDefEqProofs only [F157, hobj, hc, hd, m1, m2, m3, i1, i2, i3, go_sem, seval]
  refine dcallI_pure hh ?_
  simp -implicitDefEqProofs only [hobj, hc, hd, m1, m2, m3, i1, i2, i3, go_sem, seval]
  refine andI_intro (by (first | omega | (simp [indepB, indep1, apart1, Nat.testBit_eq_decide_div_mod_eq]; done) | (simp [indepB, indep1, apart1, Nat.testBit_eq_decide_div_mod_eq]; omega) | kernel_rfl)) ?_
  simp -implicitDefEqProofs only [hobj, hc, hd, m1, m2, m3, i1, i2, i3, go_sem, seval]
  intro id o hid ho
  rw [if_neg (by omega)]
  exact ⟨ho, .inl ho⟩
theorem w_idxF_Simple_st {g c d : Nat} {q : Simple → Bool} {l : List Simple} {h : List (Nat × AX.Obj)} {m : Nat} (hl : l.length ≤ 140737488355328)
    (hp : ∀ x ∈ l, ACalls Tryz.prog g [Enc.av x, .ptr c 0 0, .ptr d 0 0] ⟨h, m⟩ (fun v s' => v = .bool (q x) ∧ s' = ⟨h, m⟩)) :
    ACalls Tryz.prog 174 [Enc.av l, .fn (.func g) [] [.ptr c 0 0, .ptr d 0 0]] ⟨h, m⟩ fun v s' => v = .int .i64 (idxOf q l) ∧ s' = ⟨h, m⟩ := by
  refine acalls_W mix (C0_ok _) c174 (by kernel_rfl) (Nat.le_of_ble_eq_true (by kernel_rfl)) ?_
  simp -implicitDefEqProofs only [F174, go_sem, seval]
  refine LoopI_sl (fun k : Nat => l.length - k) (fun k => [(0, Enc.av l), (1, .fn (.func g) [] [.ptr c 0 0, .ptr d 0 0]), (7, .int .i64 l.length), (8, .int .i64 k)]) (fun k s => s = ⟨h, m⟩ ∧ k ≤ l.length ∧ Pre q l k) 0 ?_ ?_
  · simp -implicitDefEqProofs only [go_sem, seval]
    exact Pre.zero _ _
  rintro k ρ s ⟨rfl, h1, h2⟩
  rcases Nat.lt_or_ge k l.length with hk | hk
  · obtain ⟨x, hx, hd, hm⟩ := get_drop hk
    have hlt : ((k : Int) < (l.length : Int)) = True := eq_true (by omega)
    have w1 : IntKind.i64.wrap ((k : Int) + 1) = ((k + 1 : Nat) : Int) := by rw [wrap64 (by omega) (by omega)]; omega
    have hp' := hp x hm
    rw [Simple.eav] at hp'
    simp -implicitDefEqProofs only [hlt, hx, w1, go_sem, seval]
    refine callI_st hp' ?_
    simp -implicitDefEqProofs only [go_sem, seval]
    (refine brI_both (fun h hT => ?_) (fun h hT => ?_) <;> try simp -implicitDefEqProofs only [hT, w1, go_sem, seval] <;> try clear hT)
    · rw [idx_here hx h h2]
    · exact ⟨k + 1, by omega, rfl, by omega, h2.next hx (by simpa using h)⟩
  · have hlt : ((k : Int) < (l.length : Int)) = False := eq_false (by omega)
    simp -implicitDefEqProofs only [hlt, go_sem, seval]
    rw [idx_none (h2.all hk)]
theorem w_conF_Simple_st {g c d : Nat} {q : Simple → Bool} {l : List Simple} {h : List (Nat × AX.Obj)} {m : Nat} (hl : l.length ≤ 140737488355328)
    (hp : ∀ x ∈ l, ACalls Tryz.prog g [Enc.av x, .ptr c 0 0, .ptr d 0 0] ⟨h, m⟩ (fun v s' => v = .bool (q x) ∧ s' = ⟨h, m⟩)) :
    ACalls Tryz.prog 156 [Enc.av l, .fn (.func g) [] [.ptr c 0 0, .ptr d 0 0]] ⟨h, m⟩ fun v s' => v = .bool (l.any q) ∧ s' = ⟨h, m⟩ := by
  refine acalls_W mix (C0_ok _) c156 (by kernel_rfl) (Nat.le_of_ble_eq_true (by kernel_rfl)) ?_
  simp -implicitDefEqProofs only [F156, go_sem, seval]
  refine callI_st (w_idxF_Simple_st hl hp) ?_
  simp -implicitDefEqProofs only [go_sem, seval]
  rw [idx_any]
theorem w_find2 {p : Page} {st : List Ty.State} {parts : List Part} {k : Nat} (hf : FitsOk p st parts k) (hk1 : k ≤ 140737488355328) (n : Int) {h : List (Nat × AX.Obj)} {m b r c d : Nat} {L : Kn} {s1 s2 : Bool} (M : Mt p st parts h m b r L) (hL : KnLt p st parts L (k + 1))
    (hc : AX.look c h = some (.cells 0 [.ptr b 0 0] s1)) (hd : AX.look d h = some (.cells 0 [.int .i64 ((k + 1 : Nat) : Int)] s2)) :
    ACalls Tryz.prog 161 [.int .i64 n, .ptr c 0 0, .ptr d 0 0] ⟨h, m⟩ fun v s' => v = .bool (fitsB p st parts k n) ∧ s' = ⟨putAt r (.map (encE (fitsM p st parts k L n))) h, m⟩ := by
  refine acalls_W mix (C0_ok _) c161 (by kernel_rfl) (Nat.le_of_ble_eq_true (by kernel_rfl)) ?_
  have w1 : IntKind.i64.wrap (((k + 1 : Nat) : Int) - 1) = (k : Int) := by rw [wrap64 (by omega) (by omega)]; omega
  simp -implicitDefEqProofs only [F161, hc, hd, w1, go_sem, seval]
  refine callI_st (hf n h m b r L M hL) ?_
  simp -implicitDefEqProofs only [go_sem, seval]
theorem w_idxF_fits {p : Page} {st : List Ty.State} {parts : List Part} {k : Nat} (hf : FitsOk p st parts k) (hk1 : k ≤ 140737488355328) {l : List Int} (hl : l.length ≤ 1000000) {h : List (Nat × AX.Obj)} {m b r c d : Nat} {L : Kn} {s1 s2 : Bool} (M : Mt p st parts h m b r L) (hL : KnLt p st parts L (k + 1))
    (hc : AX.look c h = some (.cells 0 [.ptr b 0 0] s1)) (hd : AX.look d h = some (.cells 0 [.int .i64 ((k + 1 : Nat) : Int)] s2)) (hcr : c ≠ r) (hdr : d ≠ r) :
    ACalls Tryz.prog 181 [Enc.av l, .fn (.func 161) [] [.ptr c 0 0, .ptr d 0 0]] ⟨h, m⟩ fun v s' => v = .int .i64 (idxOf (fitsB p st parts k) l) ∧
      s' = ⟨putAt r (.map (encE (anyM (fitsM p st parts k) (fitsB p st parts k) l L))) h, m⟩ := by
  refine acalls_W mix (C0_ok _) c181 (by kernel_rfl) (Nat.le_of_ble_eq_true (by kernel_rfl)) ?_
  simp -implicitDefEqProofs only [F181, go_sem, seval]
  refine LoopI_sl (fun q : Nat × Kn => l.length - q.1) (fun q => [(0, Enc.av l), (1, .fn (.func 161) [] [.ptr c 0 0, .ptr d 0 0]), (7, .int .i64 l.length), (8, .int .i64 q.1)])
    (fun q s => s = ⟨putAt r (.map (encE q.2)) h, m⟩ ∧ q.1 ≤ l.length ∧ Pre (fitsB p st parts k) l q.1 ∧ KnLt p st parts q.2 (k + 1) ∧ anyM (fitsM p st parts k) (fitsB p st parts k) (l.drop q.1) q.2 = anyM (fitsM p st parts k) (fitsB p st parts k) l L) (0, L) ?_ ?_
  · simp -implicitDefEqProofs only [go_sem, seval]
    exact ⟨by rw [putAt_same M.map], Pre.zero _ _, hL⟩
  rintro ⟨i, Li⟩ ρ s ⟨h0, h1, h2, h3, h4⟩
  dsimp only at h0 h1 h2 h3 h4
  subst h0
  rcases Nat.lt_or_ge i l.length with hi | hi
  · obtain ⟨x, hx, hdx, hm⟩ := get_drop hi
    have hlt : ((i : Int) < (l.length : Int)) = True := eq_true (by omega)
    have w1 : IntKind.i64.wrap ((i : Int) + 1) = ((i + 1 : Nat) : Int) := by rw [wrap64 (by omega) (by omega)]; omega
    rw [hdx, anyM] at h4
    have hcall := w_find2 hf hk1 x (M.put Li) h3 (c := c) (d := d) (by rw [look_put_ne (Ne.symm hcr)]; exact hc) (by rw [look_put_ne (Ne.symm hdr)]; exact hd)
    simp -implicitDefEqProofs only [hlt, hx, w1, go_sem, seval]
    refine callI_st hcall ?_
    simp -implicitDefEqProofs only [go_sem, seval]
    refine brI_both (fun hq hT => ?_) (fun hq hT => ?_)
    · rw [if_pos hq] at h4
      simp -implicitDefEqProofs only [go_sem, seval]
      rw [idx_here hx hq h2, putAt_putAt, h4]
      exact ⟨rfl, rfl⟩
    · rw [if_neg hq] at h4
      simp -implicitDefEqProofs only [w1, go_sem, seval]
      exact ⟨(i + 1, fitsM p st parts k Li x), by simp only; omega, rfl, by rw [putAt_putAt], by simp only; omega, h2.next hx (by simpa using hq), (fitsM_ok p st parts k Li x h3).1, h4⟩
  · have hlt : ((i : Int) < (l.length : Int)) = False := eq_false (by omega)
    simp -implicitDefEqProofs only [hlt, go_sem, seval]
    rw [drop_all hi, anyM] at h4
    rw [idx_none (h2.all hi), h4]
    exact ⟨rfl, rfl⟩
theorem w_conF_fits {p : Page} {st : List Ty.State} {parts : List Part} {k : Nat} (hf : FitsOk p st parts k) (hk1 : k ≤ 140737488355328) {l : List Int} (hl : l.length ≤ 1000000) {h : List (Nat × AX.Obj)} {m b r c d : Nat} {L : Kn} {s1 s2 : Bool} (M : Mt p st parts h m b r L) (hL : KnLt p st parts L (k + 1))
    (hc : AX.look c h = some (.cells 0 [.ptr b 0 0] s1)) (hd : AX.look d h = some (.cells 0 [.int .i64 ((k + 1 : Nat) : Int)] s2)) (hcr : c ≠ r) (hdr : d ≠ r) :
    ACalls Tryz.prog 159 [Enc.av l, .fn (.func 161) [] [.ptr c 0 0, .ptr d 0 0]] ⟨h, m⟩ fun v s' => v = .bool (l.any (fitsB p st parts k)) ∧
      s' = ⟨putAt r (.map (encE (anyM (fitsM p st parts k) (fitsB p st parts k) l L))) h, m⟩ := by
  refine acalls_W mix (C0_ok _) c159 (by kernel_rfl) (Nat.le_of_ble_eq_true (by kernel_rfl)) ?_
  simp -implicitDefEqProofs only [F159, go_sem, seval]
  refine callI_st (w_idxF_fits hf hk1 hl M hL hc hd hcr hdr) ?_
  simp -implicitDefEqProofs only [go_sem, seval]
  rw [idx_any]
end W15
/- The matcher: finding, and fitting. -/
set_option linter.unusedSimpArgs false
set_option linter.unusedVariables false
namespace W15
open Go Go.AX Go.AX.Ty Go.Proofs
def restB (p : Page) (st : List Ty.State) (parts : List Part) (n : Int) (q : Part) : Nat → Bool
  | 0 => true
  | j + 1 => (relatedB p n q.comb).any (fitsB p st parts j)
theorem fitsB_step (p : Page) (st : List Ty.State) (parts : List Part) (k : Nat) (n : Int) (q : Part) (hq : parts[k]? = some q) :
    fitsB p st parts k n = (elemB p n && (q.l.all (holdsB p st n) && restB p st parts n q k)) := by
  cases k with
  | zero => simp [fitsB, hq, restB]
  | succ j => simp [fitsB, hq, restB]
theorem not_any_not (l : List Simple) (f : Simple → Bool) : (l.any fun x => !f x) = !l.all f := by
  rw [Bool.eq_iff_iff]; simp
theorem w_find {p : Page} {st : List Ty.State} {parts : List Part} (hp : PgOk p) (t : TreeP p) (hs : st.length ≤ 100000) (hparts : ∀ q ∈ parts, Enc.ok q) (k : Nat) (hk : k < parts.length) (hk1 : k ≤ 140737488355328)
    (hf : ∀ j, k = j + 1 → FitsOk p st parts j) : FindOk p st parts k := by
  intro n h m b r L hM hL
  obtain ⟨q, hq, _, hqm⟩ := get_drop hk
  have hqok := (Part.ok_iff q).1 (hparts q hqm)
  refine map_end hM.map hM.rm (acalls_W mix (C0_ok _) c138 (by kernel_rfl) (Nat.le_of_ble_eq_true (by kernel_rfl)) ?_)
  rw [fitsB_step p st parts k n q hq]
  have hobj := hM.obj
  have hmap := hM.map
  have hbr := hM.br
  have hbm := hM.bm
  have hrm := hM.rm
  have m1 : (m = b) = False := eq_false (by omega)
  have m2 : (m + 1 = b) = False := eq_false (by omega)
  have m3 : (m + 2 = b) = False := eq_false (by omega)
  have m4 : (m + 3 = b) = False := eq_false (by omega)
  have m1' : (m + 1 + 1 = b) = False := eq_false (by omega)
  have m2' : (m + 1 + 1 + 1 = b) = False := eq_false (by omega)
  have i1 : (b < m + 1 + 1 + 1) = True := eq_true (by omega)
  have i2 : (b < m + 1 + 1 + 1 + 1) = True := eq_true (by omega)
  have n1 : (m + 1 = m) = False := eq_false (by omega)
  have n2 : (m + 1 + 1 = m) = False := eq_false (by omega)
  have n3 : (m + 1 + 1 + 1 = m) = False := eq_false (by omega)
  have n4 : (m + 1 + 1 = m + 1) = False := eq_false (by omega)
  have n5 : (m + 1 + 1 + 1 = m + 1) = False := eq_false (by omega)
  have n6 : (m + 1 + 1 + 1 = m + 1 + 1) = False := eq_false (by omega)
  have j1 : (m < m + 1 + 1 + 1) = True := eq_true (by omega)
  have j2 : (m + 1 < m + 1 + 1 + 1) = True := eq_true (by omega)
  have j3 : (m + 1 + 1 < m + 1 + 1 + 1) = True := eq_true (by omega)
  have j4 : (m < m + 1 + 1 + 1 + 1) = True := eq_true (by omega)
  have j5 : (m + 1 < m + 1 + 1 + 1 + 1) = True := eq_true (by omega)
  have j6 : (m + 1 + 1 < m + 1 + 1 + 1 + 1) = True := eq_true (by omega)
  have j7 : (m + 1 + 1 + 1 < m + 1 + 1 + 1 + 1) = True := eq_true (by omega)
  simp -implicitDefEqProofs only [F138, hq, hobj, m1, m2, m3, m4, m1', m2', i1, i2, n1, n2, n3, n4, n5, n6, j1, j2, j3, j4, j5, j6, j7, go_sem, seval]
  refine andI_intro (by (first | omega | (simp [indepB, indep1, apart1, Nat.testBit_eq_decide_div_mod_eq]; done) | (simp [indepB, indep1, apart1, Nat.testBit_eq_decide_div_mod_eq]; omega) | kernel_rfl)) ?_
  simp -implicitDefEqProofs only [hq, hobj, m1, m2, m3, m4, m1', m2', i1, i2, n1, n2, n3, n4, n5, n6, j1, j2, j3, j4, j5, j6, j7, go_sem, seval]
  refine dcallI_pure (w_Element p n) ?_
  simp -implicitDefEqProofs only [hq, hobj, m1, m2, m3, m4, m1', m2', i1, i2, n1, n2, n3, n4, n5, n6, j1, j2, j3, j4, j5, j6, j7, go_sem, seval]
  have same : ∀ (o0 o1 o2 o3 : AX.Obj) (L' : Kn), L' = L → ∀ id, id < m → (if m + 1 + 1 + 1 = id then some o3 else if m + 1 + 1 = id then some o2 else if m + 1 = id then some o1 else if m = id then some o0 else AX.look id h) = if id = r then some (.map (encE L')) else AX.look id h := fun o0 o1 o2 o3 L' hL' id hid => by
    subst hL'
    rw [if_neg (by omega), if_neg (by omega), if_neg (by omega), if_neg (by omega)]
    by_cases hr : id = r
    · rw [if_pos hr, hr, hmap]
    · rw [if_neg hr]
  have noel : elemB p n = false → findM p st parts k L n = L := fun e2 => by
    cases k with
    | zero => rfl
    | succ j => show findN p st parts j _ L n = L; simp [findN, hq, e2]
  cases hel : elemB p n
  · rw [noel hel]
    simp -implicitDefEqProofs only [hq, hobj, m1, m2, m3, m4, m1', m2', i1, i2, n1, n2, n3, n4, n5, n6, j1, j2, j3, j4, j5, j6, j7, go_sem, seval]
    refine andI_intro (by (first | omega | (simp [indepB, indep1, apart1, Nat.testBit_eq_decide_div_mod_eq]; done) | (simp [indepB, indep1, apart1, Nat.testBit_eq_decide_div_mod_eq]; omega) | kernel_rfl)) ?_
    simp -implicitDefEqProofs only [hq, hobj, m1, m2, m3, m4, m1', m2', i1, i2, n1, n2, n3, n4, n5, n6, j1, j2, j3, j4, j5, j6, j7, go_sem, seval]
    exact ⟨rfl, same _ _ _ _ _ rfl⟩
  obtain ⟨kn, nd, rfl, hx, hne⟩ : ∃ (kn : Nat) (nd : Ty.Node), n = kn ∧ p[kn]? = some nd ∧ nd.name ≠ [] := by
    rcases node_cases p n with ⟨e, hno⟩ | ⟨kn, nd, e1, hkl, hx, e⟩
    · simp [elemB, e] at hel
    · simp only [elemB, e, decide_eq_true_eq] at hel
      exact ⟨kn, nd, e1, hx, hel⟩
  have ha := t.at hp hs hx hne
  have hMx : Mt p st parts ((m + 1 + 1 + 1, AX.Obj.cells 0 [AV.int IntKind.i64 q.comb, AV.ps q.l.length (cellsL q.l)] false) :: (m + 1 + 1, AX.Obj.cells 0 [AV.int IntKind.i64 k] false) :: (m + 1, AX.Obj.cells 0 [AV.int IntKind.i64 kn] false) :: (m, AX.Obj.cells 0 [AV.ptr b 0 0] false) :: h) (m + 1 + 1 + 1 + 1) b r L := by
    refine ⟨?_, ?_, hbr, by omega, by omega, wf_push (wf_push (wf_push (wf_push hM.wf)))⟩
    · simp only [AX.look]; rw [if_neg (by omega), if_neg (by omega), if_neg (by omega), if_neg (by omega)]; exact hobj
    · simp only [AX.look]; rw [if_neg (by omega), if_neg (by omega), if_neg (by omega), if_neg (by omega)]; exact hmap
  simp -implicitDefEqProofs only [hq, hobj, m1, m2, m3, m4, m1', m2', i1, i2, n1, n2, n3, n4, n5, n6, j1, j2, j3, j4, j5, j6, j7, go_sem, seval]
  have lk0 : AX.look m ((m + 1 + 1 + 1, AX.Obj.cells 0 [AV.int IntKind.i64 q.comb, AV.ps q.l.length (cellsL q.l)] false) :: (m + 1 + 1, AX.Obj.cells 0 [AV.int IntKind.i64 k] false) :: (m + 1, AX.Obj.cells 0 [AV.int IntKind.i64 kn] false) :: (m, AX.Obj.cells 0 [AV.ptr b 0 0] false) :: h) = some (.cells 0 [.ptr b 0 0] false) := by
    simp only [AX.look]; rw [if_neg (by omega), if_neg (by omega), if_neg (by omega), if_pos trivial]
  have lk1 : AX.look (m + 1) ((m + 1 + 1 + 1, AX.Obj.cells 0 [AV.int IntKind.i64 q.comb, AV.ps q.l.length (cellsL q.l)] false) :: (m + 1 + 1, AX.Obj.cells 0 [AV.int IntKind.i64 k] false) :: (m + 1, AX.Obj.cells 0 [AV.int IntKind.i64 kn] false) :: (m, AX.Obj.cells 0 [AV.ptr b 0 0] false) :: h) = some (.cells 0 [.int .i64 kn] false) := by
    simp only [AX.look]; rw [if_neg (by omega), if_neg (by omega), if_pos trivial]
  have lk2 : AX.look (m + 1 + 1) ((m + 1 + 1 + 1, AX.Obj.cells 0 [AV.int IntKind.i64 q.comb, AV.ps q.l.length (cellsL q.l)] false) :: (m + 1 + 1, AX.Obj.cells 0 [AV.int IntKind.i64 k] false) :: (m + 1, AX.Obj.cells 0 [AV.int IntKind.i64 kn] false) :: (m, AX.Obj.cells 0 [AV.ptr b 0 0] false) :: h) = some (.cells 0 [.int .i64 k] false) := by
    simp only [AX.look]; rw [if_neg (by omega), if_pos trivial]
  have hcon := w_conF_Simple_st (g := 157) (c := m) (d := m + 1) (q := fun x => !holdsB p st kn x) (l := q.l) hqok.2.1 fun x hxm => w_find1 ha x (hqok.2.2 x hxm) hMx (c := m) (d := m + 1) (s1 := false) (s2 := false) lk0 lk1 (by omega) (by omega)
  rw [not_any_not] at hcon
  have noall : q.l.all (holdsB p st kn) = false → findM p st parts k L kn = L := fun e2 => by
    cases k with
    | zero => rfl
    | succ j => show findN p st parts j _ L kn = L; simp [findN, hq, e2]
  cases hall : q.l.all (holdsB p st kn)
  · rw [hall] at hcon
    rw [noall hall]
    refine dcallI_gen hcon hMx.wf (Nat.le_refl _) hMx.wf ?_
    simp -implicitDefEqProofs only [hq, hobj, m1, m2, m3, m4, m1', m2', i1, i2, n1, n2, n3, n4, n5, n6, j1, j2, j3, j4, j5, j6, j7, go_sem, seval]
    refine andI_intro (by (first | omega | (simp [indepB, indep1, apart1, Nat.testBit_eq_decide_div_mod_eq]; done) | (simp [indepB, indep1, apart1, Nat.testBit_eq_decide_div_mod_eq]; omega) | kernel_rfl)) ?_
    simp -implicitDefEqProofs only [hq, hobj, m1, m2, m3, m4, m1', m2', i1, i2, n1, n2, n3, n4, n5, n6, j1, j2, j3, j4, j5, j6, j7, go_sem, seval]
    exact ⟨rfl, same _ _ _ _ _ rfl⟩
  rw [hall] at hcon
  refine dcallI_gen hcon hMx.wf (Nat.le_refl _) hMx.wf ?_
  simp -implicitDefEqProofs only [hq, hobj, m1, m2, m3, m4, m1', m2', i1, i2, n1, n2, n3, n4, n5, n6, j1, j2, j3, j4, j5, j6, j7, go_sem, seval]
  refine andI_intro (by (first | omega | (simp [indepB, indep1, apart1, Nat.testBit_eq_decide_div_mod_eq]; done) | (simp [indepB, indep1, apart1, Nat.testBit_eq_decide_div_mod_eq]; omega) | kernel_rfl)) ?_
  simp -implicitDefEqProofs only [hq, hobj, m1, m2, m3, m4, m1', m2', i1, i2, n1, n2, n3, n4, n5, n6, j1, j2, j3, j4, j5, j6, j7, go_sem, seval]
  have hrl : (relatedB p kn q.comb).length ≤ 1000000 := by
    have hkn := getElem_lt ha.at'
    have h1 := above_len t kn hkn
    have h2 := kin_len hp kn
    have h3 : (aheadB p kn).length ≤ 1000 := by unfold aheadB; rw [List.length_take]; omega
    have h4 := hp.len
    unfold relatedB
    repeat' split
    all_goals (try rw [List.length_take]); (try rw [List.length_drop]); (try omega)
    all_goals simp
  cases k with
  | zero =>
    simp -implicitDefEqProofs only [hq, hobj, m1, m2, m3, m4, m1', m2', i1, i2, n1, n2, n3, n4, n5, n6, j1, j2, j3, j4, j5, j6, j7, go_sem, seval]
    refine andI_intro (by (first | omega | (simp [indepB, indep1, apart1, Nat.testBit_eq_decide_div_mod_eq]; done) | (simp [indepB, indep1, apart1, Nat.testBit_eq_decide_div_mod_eq]; omega) | kernel_rfl)) ?_
    simp -implicitDefEqProofs only [hq, hobj, m1, m2, m3, m4, m1', m2', i1, i2, n1, n2, n3, n4, n5, n6, j1, j2, j3, j4, j5, j6, j7, go_sem, seval]
    exact ⟨rfl, same _ _ _ _ _ rfl⟩
  | succ j =>
    have z0 : (((j + 1 : Nat) : Int) = 0) = False := eq_false (by omega)
    simp -implicitDefEqProofs only [hq, hobj, z0, m1, m2, m3, m4, m1', m2', i1, i2, n1, n2, n3, n4, n5, n6, j1, j2, j3, j4, j5, j6, j7, go_sem, seval]
    refine dcallI_pure (w_related p st hp t ha q.comb) ?_
    simp -implicitDefEqProofs only [hq, hobj, z0, m1, m2, m3, m4, m1', m2', i1, i2, n1, n2, n3, n4, n5, n6, j1, j2, j3, j4, j5, j6, j7, go_sem, seval]
    refine dcallI_gen (w_conF_fits (hf j rfl) (by omega) hrl hMx hL lk0 lk2 (by omega) (by omega)) hMx.wf (Nat.le_refl _) (wf_put hMx.wf) ?_
    simp -implicitDefEqProofs only [hq, hobj, z0, m1, m2, m3, m4, m1', m2', i1, i2, n1, n2, n3, n4, n5, n6, j1, j2, j3, j4, j5, j6, j7, go_sem, seval]
    refine andI_intro (by (first | omega | (simp [indepB, indep1, apart1, Nat.testBit_eq_decide_div_mod_eq]; done) | (simp [indepB, indep1, apart1, Nat.testBit_eq_decide_div_mod_eq]; omega) | kernel_rfl)) ?_
    simp -implicitDefEqProofs only [hq, hobj, z0, m1, m2, m3, m4, m1', m2', i1, i2, n1, n2, n3, n4, n5, n6, j1, j2, j3, j4, j5, j6, j7, go_sem, seval]
    have hfm : findM p st parts (j + 1) L kn = anyM (fitsM p st parts j) (fitsB p st parts j) (relatedB p kn q.comb) L := by
      show findN p st parts j _ L kn = _
      simp [findN, hq, hel, hall]
    rw [hfm]
    refine ⟨rfl, fun id hid => ?_⟩
    rw [if_neg (by omega), if_neg (by omega), if_neg (by omega), if_neg (by omega)]
    simp only [AX.look]
    rw [if_neg (by omega), if_neg (by omega), if_neg (by omega), if_neg (by omega), look_putAt]
    by_cases hr : r = id
    · rw [if_pos hr, if_pos hr.symm, hmap]; rfl
    · rw [if_neg hr, if_neg (Ne.symm hr)]
theorem w_all {p : Page} {st : List Ty.State} {parts : List Part} (hp : PgOk p) (t : TreeP p) (hs : st.length ≤ 100000) (hparts : ∀ q ∈ parts, Enc.ok q) : ∀ k, k < parts.length → k ≤ 140737488355328 → FitsOk p st parts k
  | 0 => fun h1 h2 => w_fits (w_find hp t hs hparts 0 h1 h2 fun j hj => by omega)
  | k + 1 => fun h1 h2 => w_fits (w_find hp t hs hparts (k + 1) h1 h2 fun j hj => by
      have : j = k := by omega
      subst this
      exact w_all hp t hs hparts j (by omega) (by omega))
end W15
/- Is a page a tree? The document's. -/
set_option linter.unusedSimpArgs false
set_option linter.unusedVariables false
namespace W15
open Go Go.AX Go.AX.Ty Go.Proofs
open Classical in
noncomputable def treeB (p : Page) : Bool := decide (TreeP p)
theorem treeB_true {p : Page} (h : TreeP p) : treeB p = true := by unfold treeB; exact @decide_eq_true _ (Classical.propDecidable _) h
theorem treeB_false {p : Page} (h : ¬ TreeP p) : treeB p = false := by unfold treeB; exact @decide_eq_false _ (Classical.propDecidable _) h
theorem treeB_iff {p : Page} : treeB p = true ↔ TreeP p := by unfold treeB; exact @decide_eq_true_iff _ (Classical.propDecidable _)
theorem take_eq_of {α : Type} {a b : List α} {k : Nat} (h : a.take k = b.take k) (ha : k = a.length) (hb : a.length = b.length) : a = b := by
  rw [List.take_of_length_le (by omega), List.take_of_length_le (by omega)] at h; exact h
theorem w_Equal (a b : List Int) (hl : a.length ≤ 140737488355328) : PureF Tryz.prog 137 [Enc.av a, Enc.av b] (.bool (decide (a = b))) := by
  refine pureF_W mix c137 (by kernel_rfl) (by kernel_rfl) (by simp [flats, flat_av, Go.AX.flat]) (by first | exact flat_av _ | simp [flat, flats, flat_av]) ?_
  by_cases hlen : a.length = b.length
  case neg =>
    have hne : ((a.length : Int) = (b.length : Int)) = False := eq_false (by omega)
    rw [decide_eq_false (fun e => hlen (by rw [e]))]
    simp -implicitDefEqProofs only [F137, hne, go_sem, seval]
  have hne : ((a.length : Int) = (b.length : Int)) = True := eq_true (by omega)
  simp -implicitDefEqProofs only [F137, hne, go_sem, seval]
  refine LoopI_sl (fun k : Nat => a.length - k) (fun k => [(0, Enc.av a), (1, Enc.av b), (12, .int .i64 a.length), (13, .int .i64 k)]) (fun k s => k ≤ a.length ∧ a.take k = b.take k) 0 ?_ ?_
  · simp -implicitDefEqProofs only [List.take_zero, go_sem, seval]
  rintro k ρ ⟨g, m⟩ ⟨h1, h2⟩
  rcases Nat.lt_or_ge k a.length with hk | hk
  · obtain ⟨x, hx, hd, hm⟩ := get_drop hk
    obtain ⟨y, hy, hd2, hm2⟩ := get_drop (show k < b.length by omega)
    have hlt : ((k : Int) < (a.length : Int)) = True := eq_true (by omega)
    have w1 : IntKind.i64.wrap ((k : Int) + 1) = ((k + 1 : Nat) : Int) := by rw [wrap64 (by omega) (by omega)]; omega
    simp -implicitDefEqProofs only [hlt, hx, hy, w1, go_sem, seval]
    refine andI_intro (by kernel_rfl) ?_
    by_cases hxy : x = y
    · simp -implicitDefEqProofs only [hxy, w1, go_sem, seval]
      refine ⟨k + 1, by omega, rfl, by omega, ?_⟩
      rw [List.take_add_one, List.take_add_one, h2, hx, hy, hxy]
    · simp -implicitDefEqProofs only [hxy, go_sem, seval]
      rw [decide_eq_false (fun e => hxy (by rw [e, hy] at hx; simpa using hx.symm))]
  · have hlt : ((k : Int) < (a.length : Int)) = False := eq_false (by omega)
    simp -implicitDefEqProofs only [hlt, go_sem, seval]
    rw [decide_eq_true (take_eq_of h2 (by omega) hlen)]
theorem kidsOf_succ (p : Page) (m n : Nat) (hm : 1 ≤ m) : kidsOf p (m + 1) n = kidsOf p m n ++ (if upOf p m = n then [(m : Int)] else []) := by
  unfold kidsOf
  rw [List.range_succ, List.filter_append, List.map_append]
  congr 1
  by_cases h : upOf p m = n <;> simp [h, hm]
theorem kidsOf_one (p : Page) (n : Nat) : kidsOf p 1 n = [] := by
  simp [kidsOf, List.range_succ]
theorem kidsOf_len (p : Page) (m n : Nat) : (kidsOf p m n).length ≤ m := by
  unfold kidsOf
  rw [List.length_map]
  exact Nat.le_trans (List.length_filter_le _ _) (by simp)
end W15
/- Is a page a tree? The program's. -/
set_option linter.unusedSimpArgs false
set_option linter.unusedVariables false
namespace W15
open Go Go.AX Go.AX.Ty Go.Proofs
structure Rows (h : List (Nat × AX.Obj)) (m : Nat) (cs : List AV) (N : Nat) (K : Nat → List Int) (ids : Nat → Nat) : Prop where
  len : cs.length = N
  cell : ∀ i, i < N → cs[i]? = some (if K i = [] then .nils else .sl (ids i) (K i).length 0 (K i).length 1)
  obj : ∀ i, i < N → K i ≠ [] → AX.look (ids i) h = some (.cells (K i).length (cellsL (K i)) false)
  lo : ∀ i, i < N → K i ≠ [] → 1 ≤ ids i ∧ ids i < m
  inj : ∀ i j, i < N → j < N → K i ≠ [] → K j ≠ [] → ids i = ids j → i = j
theorem Rows.congr {h : List (Nat × AX.Obj)} {m : Nat} {cs : List AV} {N : Nat} {K K' : Nat → List Int} {ids : Nat → Nat} (R : Rows h m cs N K ids) (e : ∀ i, K i = K' i) : Rows h m cs N K' ids := by
  have : K = K' := funext e
  rw [← this]; exact R
theorem Rows.push {h : List (Nat × AX.Obj)} {m : Nat} {cs : List AV} {N : Nat} {K : Nat → List Int} {ids : Nat → Nat} (R : Rows h m cs N K ids) (o : AX.Obj) : Rows ((m, o) :: h) (m + 1) cs N K ids :=
  ⟨R.len, R.cell, fun i hi hk => by
    have := (R.lo i hi hk).2
    simp only [AX.look]; rw [if_neg (by omega)]; exact R.obj i hi hk, fun i hi hk => by have := R.lo i hi hk; omega, R.inj⟩
theorem Rows.put0 {h : List (Nat × AX.Obj)} {m : Nat} {cs : List AV} {N : Nat} {K : Nat → List Int} {ids : Nat → Nat} (R : Rows h m cs N K ids) (o : AX.Obj) : Rows (putAt 0 o h) m cs N K ids :=
  ⟨R.len, R.cell, fun i hi hk => by
    have := (R.lo i hi hk).1
    rw [look_put_ne (by omega)]; exact R.obj i hi hk, R.lo, R.inj⟩
theorem set_get {cs : List AV} {u i : Nat} {v : AV} (hu : u < cs.length) : (cs.take u ++ v :: cs.drop (u + 1))[i]? = if i = u then some v else cs[i]? := by
  have e : cs.take u ++ v :: cs.drop (u + 1) = cs.set u v := by rw [List.set_eq_take_append_cons_drop, if_pos hu]
  rw [e, List.getElem?_set]
  by_cases h : u = i
  · rw [if_pos h, if_pos h.symm, if_pos (by omega)]
  · rw [if_neg h, if_neg (Ne.symm h)]
theorem Rows.add0 {h : List (Nat × AX.Obj)} {m : Nat} {cs : List AV} {N : Nat} {K : Nat → List Int} {ids : Nat → Nat} (R : Rows h m cs N K ids) {u : Nat} (hu : u < N) (hK : K u = []) (k : Int) {K' : Nat → List Int} (hK' : ∀ i, K' i = if i = u then K u ++ [k] else K i) (hm : 1 ≤ m) :
    Rows ((m, .cells 1 [.int .i64 k] false) :: h) (m + 1) (cs.take u ++ .sl m 1 0 1 1 :: cs.drop (u + 1)) N K' (fun i => if i = u then m else ids i) := by
  have hl := R.len
  refine ⟨?_, fun i hi => ?_, fun i hi hk => ?_, fun i hi hk => ?_, fun i j hi hj hki hkj he => ?_⟩
  · rw [List.length_append, List.length_take, List.length_cons, List.length_drop]; omega
  · rw [set_get (by omega), hK' i]
    by_cases h : i = u
    · subst h; simp [hK]
    · rw [if_neg h, if_neg h]; simp only [if_neg h]; exact R.cell i hi
  · rw [hK' i] at hk ⊢
    by_cases h : i = u
    · subst h; simp [hK, AX.look, cellsL, Enc.cells]
    · rw [if_neg h] at hk
      simp only [if_neg h]
      have := (R.lo i hi hk).2
      simp only [AX.look]; rw [if_neg (by omega)]; exact R.obj i hi hk
  · rw [hK' i] at hk
    by_cases h : i = u
    · simp only [if_pos h]; omega
    · rw [if_neg h] at hk
      simp only [if_neg h]
      have := R.lo i hi hk; omega
  · rw [hK' i] at hki
    rw [hK' j] at hkj
    by_cases h : i = u
    · by_cases h' : j = u
      · omega
      · rw [if_neg h'] at hkj
        simp only [if_pos h, if_neg h'] at he
        have := R.lo j hj hkj; omega
    · rw [if_neg h] at hki
      by_cases h' : j = u
      · simp only [if_neg h, if_pos h'] at he
        have := R.lo i hi hki; omega
      · rw [if_neg h'] at hkj
        simp only [if_neg h, if_neg h'] at he
        exact R.inj i j hi hj hki hkj he
theorem Rows.add1 {h : List (Nat × AX.Obj)} {m : Nat} {cs : List AV} {N : Nat} {K : Nat → List Int} {ids : Nat → Nat} (R : Rows h m cs N K ids) {u : Nat} (hu : u < N) (hK : K u ≠ []) (k : Int) {K' : Nat → List Int} (hK' : ∀ i, K' i = if i = u then K u ++ [k] else K i) :
    Rows (putAt (ids u) (.cells ((K u).length + 1) (cellsL (K u) ++ [.int .i64 k]) false) h) m (cs.take u ++ .sl (ids u) ((K u).length + 1) 0 ((K u).length + 1) 1 :: cs.drop (u + 1)) N K' ids := by
  have hl := R.len
  have hne : ∀ i, K' i ≠ [] → K i ≠ [] ∨ i = u := fun i h => by
    rw [hK' i] at h
    by_cases h' : i = u
    · exact .inr h'
    · rw [if_neg h'] at h; exact .inl h
  refine ⟨?_, fun i hi => ?_, fun i hi hk => ?_, fun i hi hk => ?_, fun i j hi hj hki hkj he => ?_⟩
  · rw [List.length_append, List.length_take, List.length_cons, List.length_drop]; omega
  · rw [set_get (by omega), hK' i]
    by_cases h : i = u
    · subst h; simp
    · rw [if_neg h, if_neg h]; exact R.cell i hi
  · rw [hK' i] at hk ⊢
    by_cases h : i = u
    · subst h
      rw [if_pos rfl, look_put_eq (R.obj i hi hK), cellsL_append]
      simp; rfl
    · rw [if_neg h] at hk ⊢
      rw [look_put_ne (fun e => h (R.inj i u hi hu hk hK e.symm))]; exact R.obj i hi hk
  · rcases hne i hk with h | h
    · exact R.lo i hi h
    · subst h; exact R.lo i hi hK
  · have a : K i ≠ [] := by rcases hne i hki with h | h; exact h; subst h; exact hK
    have b : K j ≠ [] := by rcases hne j hkj with h | h; exact h; subst h; exact hK
    exact R.inj i j hi hj a b he
theorem w_Tree (p : Page) (hp : PgOk p) : PureF Tryz.prog 121 [Enc.av p] (.bool (treeB p)) := by
  refine pureF_W mix c121 (by kernel_rfl) (by kernel_rfl) (by simp [flats, flat_av, Go.AX.flat]) (by first | exact flat_av _ | simp [flat, flats, flat_av]) ?_
  have hpl := hp.len
  cases hpe : p with
  | nil =>
    rw [treeB_false (fun t => t.ne rfl)]
    simp -implicitDefEqProofs only [F121, go_sem, seval]
    refine andI_intro (by kernel_rfl) ?_
    simp -implicitDefEqProofs only [go_sem, seval]
  | cons x r =>
  rw [← hpe]
  have h0 : p[0]? = some x := by rw [hpe]; rfl
  have hl0 : ((p.length : Int) = 0) = False := eq_false (by rw [hpe]; simp; omega)
  have nroot : ∀ (P : Prop), (∀ t : TreeP p, P) → ¬ P → treeB p = false := fun P h1 h2 => treeB_false fun t => h2 (h1 t)
  simp -implicitDefEqProofs only [F121, hl0, h0, go_sem, seval]
  have hxok := (Node.ok_iff x).1 (hp.ok.2 x (List.mem_of_getElem? h0))
  have hcat : (List.length x.name + List.length x.text ≤ 9223372036854775807) = True := eq_true (by have h1 : List.length x.name ≤ 140737488355328 := hxok.1; have h2 : List.length x.text ≤ 140737488355328 := hxok.2.2.1; omega)
  by_cases r1 : x.up = -1
  case neg =>
    rw [nroot _ (fun t => (t.root x h0).1) r1]
    simp -implicitDefEqProofs only [r1, hl0, h0, go_sem, seval]
    refine andI_intro (by kernel_rfl) ?_
    simp -implicitDefEqProofs only [go_sem, seval]
  by_cases r2 : x.name ++ x.text = []
  case neg =>
    rw [nroot (x.name ++ x.text = []) (fun t => by rw [(t.root x h0).2.1, (t.root x h0).2.2.1]; rfl) r2]
    simp -implicitDefEqProofs only [r1, r2, hcat, hl0, h0, go_sem, seval]
    refine andI_intro (by kernel_rfl) ?_
    simp -implicitDefEqProofs only [go_sem, seval]
  by_cases r4 : x.attrs = []
  case neg =>
    rw [nroot _ (fun t => (t.root x h0).2.2.2) r4]
    have hg : ((x.attrs.length : Int) > 0) = True := eq_true (by have := List.length_pos_iff.2 r4; omega)
    simp -implicitDefEqProofs only [r1, r2, hcat, hg, hl0, h0, go_sem, seval]
    refine andI_intro (by kernel_rfl) ?_
    simp -implicitDefEqProofs only [go_sem, seval]
  have hg : ((x.attrs.length : Int) > 0) = False := eq_false (by rw [r4]; simp)
  have hcap : (p.length * 24 ≤ 140737488355328 ∧ p.length ≤ 9223372036854775807) = True := eq_true (by omega)
  have hcap2 : (p.length * 24 ≤ 140737488355328) = True := eq_true (by omega)
  have hcap3 : (p.length ≤ 9223372036854775807) = True := eq_true (by omega)
  have rep : ∀ q : Nat, (List.replicate q [AV.nils]).flatten = List.replicate q .nils := fun q => by
    induction q with
    | zero => rfl
    | succ q ih => rw [List.replicate_succ, List.flatten_cons, ih]; rfl
  simp -implicitDefEqProofs only [r1, r2, hcat, hg, hl0, h0, go_sem, seval]
  refine andI_intro (by kernel_rfl) ?_
  simp -implicitDefEqProofs only [hcap, hcap2, hcap3, rep, go_sem, seval]
  refine LoopI_sl (fun q : Nat × List AV × (Nat → Nat) => p.length - q.1) (fun q => [(0, Enc.av p), (3, .sl 0 p.length 0 p.length 1), (41, Enc.av p), (42, .int .i64 p.length), (43, .int .i64 q.1)])
    (fun q s => q.1 ≤ p.length ∧ (∀ (j : Nat) y, 1 ≤ j → j < q.1 → p[j]? = some y → 0 ≤ y.up ∧ y.up < (j : Int)) ∧ 1 ≤ s.next ∧ AX.look 0 s.heap = some (.cells p.length q.2.1 false) ∧ Rows s.heap s.next q.2.1 p.length (kidsOf p q.1) q.2.2) (0, List.replicate p.length .nils, fun _ => 0) ?_ ?_
  · simp -implicitDefEqProofs only [hcap, rep, go_sem, seval]
    refine ⟨fun j y _ h => h.elim, by simp, fun i hi => ?_, fun i hi h => (h (by simp [kidsOf])).elim, fun i hi h => (h (by simp [kidsOf])).elim, fun i j _ _ h => (h (by simp [kidsOf])).elim⟩
    rw [if_pos (by simp [kidsOf])]; simp [hi]
  rintro ⟨k, cs, ids⟩ ρ ⟨g, m⟩ ⟨h1, h2, h3, h4, h5⟩
  dsimp only at h1 h2 h3 h4 h5
  rcases Nat.lt_or_ge k p.length with hk | hk
  · obtain ⟨y, hy, hd, hm⟩ := get_drop hk
    have hlt : ((k : Int) < (p.length : Int)) = True := eq_true (by omega)
    have w1 : IntKind.i64.wrap ((k : Int) + 1) = ((k + 1 : Nat) : Int) := by rw [wrap64 (by omega) (by omega)]; omega
    have m0 : (m = 0) = False := eq_false (by omega)
    have i0 : (0 < m) = True := eq_true (by omega)
    have i1 : (0 < m + 1) = True := eq_true (by omega)
    have i2 : (0 < m + 1 + 1) = True := eq_true (by omega)
    simp -implicitDefEqProofs only [hlt, hy, h4, m0, i0, i1, i2, go_sem, seval]
    by_cases hk0 : k = 0
    · have z0 : ((k : Int) = 0) = True := eq_true (by omega)
      simp -implicitDefEqProofs only [z0, w1, go_sem, seval]
      refine ⟨(k + 1, cs, ids), by simp only; omega, rfl, by simp only; omega, fun j z a b hz => by simp only at b; omega, ?_⟩
      rw [if_neg (by omega)]
      refine ⟨h4, (h5.push _).congr fun i => ?_⟩
      subst hk0
      rw [kidsOf_one]; simp [kidsOf]
    have z0 : ((k : Int) = 0) = False := eq_false (by omega)
    by_cases u1 : y.up < 0
    · rw [nroot _ (fun t => (t.up k y (by omega) hy).1) (by omega)]
      simp -implicitDefEqProofs only [z0, u1, hy, go_sem, seval]
    by_cases u2 : y.up ≥ (k : Int)
    · rw [nroot _ (fun t => (t.up k y (by omega) hy).2) (by omega)]
      simp -implicitDefEqProofs only [z0, u1, u2, hy, go_sem, seval]
    obtain ⟨u, hu⟩ := Int.eq_ofNat_of_zero_le (show 0 ≤ y.up by omega)
    have hul : (u < p.length) = True := eq_true (by omega)
    have hcl := h5.len
    have hle : (u ≤ cs.length) = True := eq_true (by omega)
    rw [hu] at u1 u2
    have hcell := h5.cell u (by omega)
    have hdr : List.drop u cs = (if kidsOf p k u = [] then AV.nils else .sl (ids u) (kidsOf p k u).length 0 (kidsOf p k u).length 1) :: List.drop (u + 1) cs := by
      rw [List.drop_eq_getElem_cons (by omega)]
      rw [List.getElem?_eq_getElem (by omega)] at hcell
      simp only [Option.some.injEq] at hcell
      rw [hcell]
    have hle' : (u ≤ p.length) = True := eq_true (by omega)
    have hle1 : (u + 1 ≤ cs.length) = True := eq_true (by omega)
    have hle2 : (u + 1 ≤ p.length) = True := eq_true (by omega)
    have hK' : ∀ i, kidsOf p (k + 1) i = if i = u then kidsOf p k u ++ [(k : Int)] else kidsOf p k i := fun i => by
      rw [kidsOf_succ p k i (by omega), upOf_eq hy, hu]
      by_cases h : i = u
      · subst h; simp
      · rw [if_neg (by omega), if_neg h, List.append_nil]
    have hup' : ∀ (j : Nat) z, 1 ≤ j → j < k + 1 → p[j]? = some z → 0 ≤ z.up ∧ z.up < (j : Int) := fun j z a b hz => by
      rcases Nat.lt_or_ge j k with h | h
      · exact h2 j z a h hz
      · have : j = k := by omega
        subst this
        rw [hy] at hz
        simp only [Option.some.injEq] at hz
        subst hz; omega
    have m1 : (m + 1 = 0) = False := eq_false (by omega)
    have m2 : (m + 1 + 1 = 0) = False := eq_false (by omega)
    have n1 : (m + 1 = m) = False := eq_false (by omega)
    have n2 : (m + 1 + 1 = m) = False := eq_false (by omega)
    have n3 : (m + 1 + 1 = m + 1) = False := eq_false (by omega)
    have n4 : (0 = m) = False := eq_false (by omega)
    have i3 : (0 < m + 1 + 1 + 1) = True := eq_true (by omega)
    have j1 : (m < m + 1 + 1) = True := eq_true (by omega)
    have j2 : (m + 1 < m + 1 + 1) = True := eq_true (by omega)
    have j3 : (m < m + 1 + 1 + 1) = True := eq_true (by omega)
    have j4 : (m + 1 < m + 1 + 1 + 1) = True := eq_true (by omega)
    by_cases hK : kidsOf p k u = []
    · rw [if_pos hK] at hdr
      simp -implicitDefEqProofs only [z0, u1, u2, hy, hu, hul, h4, m0, i0, i1, i2, i3, hle, hle', hdr, hle1, hle2, hcl, m1, m2, n1, n2, n3, n4, j1, j2, j3, j4, w1, go_sem, seval]
      refine andI_intro (by (first | omega | (simp [indepB, indep1, apart1, Nat.testBit_eq_decide_div_mod_eq]; done) | (simp [indepB, indep1, apart1, Nat.testBit_eq_decide_div_mod_eq]; omega) | kernel_rfl)) ?_
      simp -implicitDefEqProofs only [z0, u1, u2, hy, hu, hul, h4, m0, i0, i1, i2, i3, hle, hle', hdr, hle1, hle2, hcl, m1, m2, n1, n2, n3, n4, j1, j2, j3, j4, w1, go_sem, seval]
      have e : List.take u cs ++ [AV.sl (m + 1 + 1) 1 0 1 1] ++ List.drop (u + 1) cs = List.take u cs ++ AV.sl (m + 1 + 1) 1 0 1 1 :: List.drop (u + 1) cs := by simp
      rw [e]
      exact ⟨(k + 1, _, _), by simp only; omega, rfl, by simp only; omega, hup', rfl, (((h5.put0 _).push _).push _).add0 (by omega) hK (k : Int) hK' (by omega)⟩
    · rw [if_neg hK] at hdr
      have hobj := h5.obj u (by omega) hK
      have hlo := h5.lo u (by omega) hK
      have hKl := kidsOf_len p k u
      have b0 : (ids u = 0) = False := eq_false (by omega)
      have b1 : (0 = ids u) = False := eq_false (by omega)
      have b2 : (m = ids u) = False := eq_false (by omega)
      have b3 : (m + 1 = ids u) = False := eq_false (by omega)
      have b4 : (ids u = m) = False := eq_false (by omega)
      have b5 : (ids u < m + 1 + 1) = True := eq_true (by omega)
      have hc1 : (cellsL (kidsOf p k u)).length = (kidsOf p k u).length := ints_len _
      have ht : List.take (kidsOf p k u).length (cellsL (kidsOf p k u)) = cellsL (kidsOf p k u) := List.take_of_length_le (by omega)
      have hbd : (((kidsOf p k u).length + 1) * 8 ≤ 140737488355328) = True := eq_true (by omega)
      simp -implicitDefEqProofs only [z0, u1, u2, hy, hu, hul, h4, m0, i0, i1, i2, i3, hle, hle', hdr, hle1, hle2, hcl, m1, m2, n1, n2, n3, n4, j1, j2, j3, j4, w1, hobj, b0, b1, b2, b3, b4, b5, hc1, ht, hbd, go_sem, seval]
      refine andI_intro (by (first | omega | (simp [indepB, indep1, apart1, Nat.testBit_eq_decide_div_mod_eq]; done) | (simp [indepB, indep1, apart1, Nat.testBit_eq_decide_div_mod_eq]; omega) | kernel_rfl)) ?_
      simp -implicitDefEqProofs only [z0, u1, u2, hy, hu, hul, h4, m0, i0, i1, i2, i3, hle, hle', hdr, hle1, hle2, hcl, m1, m2, n1, n2, n3, n4, j1, j2, j3, j4, w1, hobj, b0, b1, b2, b3, b4, b5, hc1, ht, hbd, go_sem, seval]
      have e : List.take u cs ++ [AV.sl (ids u) ((kidsOf p k u).length + 1) 0 ((kidsOf p k u).length + 1) 1] ++ List.drop (u + 1) cs = List.take u cs ++ AV.sl (ids u) ((kidsOf p k u).length + 1) 0 ((kidsOf p k u).length + 1) 1 :: List.drop (u + 1) cs := by simp
      rw [e]
      exact ⟨(k + 1, _, ids), by simp only; omega, rfl, by simp only; omega, hup', rfl, ((((h5.add1 (by omega) hK (k : Int) hK').put0 _).push _).push _)⟩
  · have hlt : ((k : Int) < (p.length : Int)) = False := eq_false (by omega)
    have hkl : k = p.length := by omega
    subst hkl
    have hups : ∀ (j : Nat) z, 1 ≤ j → p[j]? = some z → 0 ≤ z.up ∧ z.up < (j : Int) := fun j z a hz => h2 j z a (getElem_lt hz) hz
    simp -implicitDefEqProofs only [hlt, go_sem, seval]
    refine LoopI_sl (fun n : Nat => p.length - n) (fun n => [(0, Enc.av p), (3, .sl 0 p.length 0 p.length 1), (72, Enc.av p), (73, .int .i64 p.length), (74, .int .i64 n)])
      (fun n s => n ≤ p.length ∧ (∀ (j : Nat) z, j < n → p[j]? = some z → z.kids = kidsOf p p.length j) ∧ 1 ≤ s.next ∧ AX.look 0 s.heap = some (.cells p.length cs false) ∧
        ∀ i, i < p.length → kidsOf p p.length i ≠ [] → (1 ≤ ids i ∧ ids i < s.next) ∧ ∃ sn, AX.look (ids i) s.heap = some (.cells (kidsOf p p.length i).length (cellsL (kidsOf p p.length i)) sn)) 0 ?_ ?_
    · simp -implicitDefEqProofs only [go_sem, seval]
      exact ⟨fun j z h => h.elim, h3, h4, fun i hi hk => ⟨h5.lo i hi hk, false, h5.obj i hi hk⟩⟩
    have hcs := h5.cell
    have hcl := h5.len
    have hinj := h5.inj
    clear h1 h2 h3 h4 h5 hk hlt
    rintro n ρ ⟨g2, m⟩ ⟨h1, h2, h3, h4, h5⟩
    dsimp only at h3 h4 h5
    rcases Nat.lt_or_ge n p.length with hn | hn
    · obtain ⟨y, hy, hd, hm⟩ := get_drop hn
      have hlt : ((n : Int) < (p.length : Int)) = True := eq_true (by omega)
      have w1 : IntKind.i64.wrap ((n : Int) + 1) = ((n + 1 : Nat) : Int) := by rw [wrap64 (by omega) (by omega)]; omega
      have m0 : (m = 0) = False := eq_false (by omega)
      have n4 : (0 = m) = False := eq_false (by omega)
      have i0 : (0 < m) = True := eq_true (by omega)
      have i1 : (0 < m + 1) = True := eq_true (by omega)
      have hnl : (n < p.length) = True := eq_true hn
      have hle : (n ≤ cs.length) = True := eq_true (by omega)
      have hle' : (n ≤ p.length) = True := eq_true (by omega)
      have hyk := hp.kids y hm
      have hcell := hcs n hn
      have hdr : List.drop n cs = (if kidsOf p p.length n = [] then AV.nils else .sl (ids n) (kidsOf p p.length n).length 0 (kidsOf p p.length n).length 1) :: List.drop (n + 1) cs := by
        rw [List.drop_eq_getElem_cons (by omega)]
        rw [List.getElem?_eq_getElem (by omega)] at hcell
        simp only [Option.some.injEq] at hcell
        rw [hcell]
      have hnext : y.kids = kidsOf p p.length n → ∀ (j : Nat) z, j < n + 1 → p[j]? = some z → z.kids = kidsOf p p.length j := fun e j z hj hz => by
        rcases Nat.lt_or_ge j n with h | h
        · exact h2 j z h hz
        · have : j = n := by omega
          subst this
          rw [hy] at hz
          simp only [Option.some.injEq] at hz
          subst hz; exact e
      have hno : ¬ y.kids = kidsOf p p.length n → treeB p = false := fun e => nroot _ (fun t => t.kids n y hy) e
      by_cases hK : kidsOf p p.length n = []
      · rw [if_pos hK] at hdr
        rw [hK] at hnext hno
        simp -implicitDefEqProofs only [hlt, hnl, hy, h4, m0, n4, i0, i1, hle, hle', hdr, hcl, go_sem, seval]
        refine dcallI_pure (w_Equal y.kids [] (by omega)) ?_
        simp -implicitDefEqProofs only [hlt, hnl, hy, h4, m0, n4, i0, i1, hle, hle', hdr, hcl, go_sem, seval]
        refine andI_intro (by (first | omega | (simp [indepB, indep1, apart1, Nat.testBit_eq_decide_div_mod_eq]; done) | (simp [indepB, indep1, apart1, Nat.testBit_eq_decide_div_mod_eq]; omega) | kernel_rfl)) ?_
        by_cases e : y.kids = []
        · simp -implicitDefEqProofs only [e, w1, h4, m0, n4, go_sem, seval]
          refine ⟨n + 1, by omega, rfl, by omega, hnext e, fun i hi hk => ?_⟩
          obtain ⟨a, sn, b⟩ := h5 i hi hk
          exact ⟨by omega, sn, by rw [if_neg (by omega)]; exact b⟩
        · simp -implicitDefEqProofs only [e, go_sem, seval]
          rw [hno e]
      · rw [if_neg hK] at hdr
        obtain ⟨⟨a1, a2⟩, sn, hob⟩ := h5 n hn hK
        have b0 : (ids n = 0) = False := eq_false (by omega)
        have b1 : (m = ids n) = False := eq_false (by omega)
        have b2 : (ids n = m) = False := eq_false (by omega)
        have b3 : (ids n < m + 1) = True := eq_true (by omega)
        have b4 : (0 = ids n) = False := eq_false (by omega)
        have hc1 : (cellsL (kidsOf p p.length n)).length = (kidsOf p p.length n).length := ints_len _
        have ht : List.take (kidsOf p p.length n).length (cellsL (kidsOf p p.length n)) = cellsL (kidsOf p p.length n) := List.take_of_length_le (by omega)
        cases sn
        all_goals
          simp -implicitDefEqProofs only [hlt, hnl, hy, h4, m0, n4, i0, i1, hle, hle', hdr, hcl, hob, b0, b1, b2, b3, b4, hc1, ht, go_sem, seval]
          refine dcallI_pure (w_Equal y.kids (kidsOf p p.length n) (by omega)) ?_
          simp -implicitDefEqProofs only [hlt, hnl, hy, h4, m0, n4, i0, i1, hle, hle', hdr, hcl, hob, b0, b1, b2, b3, b4, hc1, ht, go_sem, seval]
          refine andI_intro (by (first | omega | (simp [indepB, indep1, apart1, Nat.testBit_eq_decide_div_mod_eq]; done) | (simp [indepB, indep1, apart1, Nat.testBit_eq_decide_div_mod_eq]; omega) | kernel_rfl)) ?_
          by_cases e : y.kids = kidsOf p p.length n
          · simp -implicitDefEqProofs only [e, w1, h4, hob, b0, b1, b2, b3, b4, m0, n4, go_sem, seval]
            refine ⟨n + 1, by omega, rfl, by omega, hnext e, fun i hi hk => ?_⟩
            obtain ⟨a, sn, b⟩ := h5 i hi hk
            rw [if_neg (by omega)]
            by_cases hni : ids n = ids i
            · have : n = i := hinj n i hn hi hK hk hni
              subst this
              exact ⟨by omega, true, by rw [if_pos rfl]⟩
            · exact ⟨by omega, sn, by rw [if_neg hni]; exact b⟩
          · simp -implicitDefEqProofs only [e, go_sem, seval]
            rw [hno e]
    · have hlt : ((n : Int) < (p.length : Int)) = False := eq_false (by omega)
      simp -implicitDefEqProofs only [hlt, go_sem, seval]
      have hne := List.append_eq_nil_iff.1 r2
      rw [treeB_true ⟨by rw [hpe]; simp, fun a ha => ?_, hups, fun j y hy => h2 j y (by have := getElem_lt hy; omega) hy⟩]
      rw [h0] at ha
      simp only [Option.some.injEq] at ha
      subst ha
      exact ⟨r1, hne.1, hne.2, r4⟩
end W15
/- The program's answers. -/
set_option linter.unusedSimpArgs false
set_option linter.unusedVariables false
namespace W15
open Go Go.AX Go.AX.Ty Go.Proofs
theorem w_of (p : Page) (st : List Ty.State) (c : Complex) (hp : PgOk p) (h : List (Nat × AX.Obj)) (m : Nat) :
    ACalls Tryz.prog 104 [Enc.av p, Enc.av st, Enc.av c] ⟨h, m⟩ fun v s' => v = .ptr (m + 1 + 1) 0 0 ∧
      s' = ⟨(m + 1 + 1, .cells 0 [if treeB p = true then Enc.av p else .nils, Enc.av st, Enc.av c.parts, .map (m + 1)] false) :: (m + 1, .map []) :: (m, .cells 0 [Enc.av c.parts, .str c.pseudo] false) :: h, m + 1 + 1 + 1⟩ := by
  refine acalls_W mix (C0_ok _) c104 (by kernel_rfl) (Nat.le_of_ble_eq_true (by kernel_rfl)) ?_
  have n1 : (m + 1 = m) = False := eq_false (by omega)
  have n2 : (m + 1 + 1 = m) = False := eq_false (by omega)
  simp -implicitDefEqProofs only [F104, n1, n2, go_sem, seval]
  refine callI_pure (w_Tree p hp) ?_
  cases ht : treeB p
  · simp -implicitDefEqProofs only [n1, n2, go_sem, seval]
  · simp -implicitDefEqProofs only [n1, n2, go_sem, seval]
noncomputable def isB (p : Page) (st : List Ty.State) (n : Int) (parts : List Part) : Bool := treeB p && (decide (parts ≠ []) && fitsB p st parts (parts.length - 1) n)
theorem fitsB_elem {p : Page} {st : List Ty.State} {parts : List Part} {k : Nat} {n : Int} (h : elemB p n = false) : fitsB p st parts k n = false := by
  cases k <;> simp [fitsB, h]
theorem w_last {p : Page} {st : List Ty.State} {parts : List Part} (hp : PgOk p) (t : TreeP p) (hs : st.length ≤ 100000) (hparts : Enc.ok parts) (n : Int) {h : List (Nat × AX.Obj)} {m b r : Nat} {L : Kn} (M : Mt p st parts h m b r L) (hL : KnLt p st parts L parts.length) :
    ACalls Tryz.prog 105 [.ptr b 0 0, .int .i64 n] ⟨h, m⟩ fun v s' => v = .bool (isB p st n parts) ∧ ∃ L', s' = ⟨putAt r (.map (encE L')) h, m⟩ ∧ KnLt p st parts L' parts.length := by
  refine acalls_W mix (C0_ok _) c105 (by kernel_rfl) (Nat.le_of_ble_eq_true (by kernel_rfl)) ?_
  have hobj := M.obj
  unfold isB
  rw [treeB_true t]
  simp -implicitDefEqProofs only [F105, hobj, go_sem, seval]
  refine callI_pure (w_Element p n) ?_
  cases he : elemB p n
  · simp -implicitDefEqProofs only [hobj, go_sem, seval]
    exact ⟨by rw [fitsB_elem he]; simp, L, by rw [putAt_same M.map], hL⟩
  cases hpe : parts with
  | nil =>
    subst hpe
    simp -implicitDefEqProofs only [hobj, go_sem, seval]
    exact ⟨by simp, L, by rw [putAt_same M.map], hL⟩
  | cons q qs =>
    rw [← hpe]
    have hpos : 0 < parts.length := by rw [hpe]; simp
    have hg : ((parts.length : Int) > 0) = True := eq_true (by omega)
    have hl := hparts.1
    have w1 : IntKind.i64.wrap ((parts.length : Int) - 1) = ((parts.length - 1 : Nat) : Int) := by rw [wrap64 (by omega) (by omega)]; omega
    have hne : parts ≠ [] := by rw [hpe]; simp
    simp -implicitDefEqProofs only [hobj, hg, w1, go_sem, seval]
    refine callI_st (w_all hp t hs hparts.2 (parts.length - 1) (by omega) (by omega) n h m b r L M (by rw [show parts.length - 1 + 1 = parts.length by omega]; exact hL)) ?_
    simp -implicitDefEqProofs only [hobj, hg, w1, go_sem, seval]
    have hok := (fitsM_ok p st parts (parts.length - 1) L n (by rw [show parts.length - 1 + 1 = parts.length by omega]; exact hL)).1
    rw [show parts.length - 1 + 1 = parts.length by omega] at hok
    exact ⟨by simp [hne], _, rfl, hok⟩
theorem w_last0 (st : List Ty.State) (parts : List Part) (n : Int) {h : List (Nat × AX.Obj)} {m b r : Nat} (hobj : AX.look b h = some (.cells 0 [.nils, Enc.av st, Enc.av parts, .map r] false)) :
    ACalls Tryz.prog 105 [.ptr b 0 0, .int .i64 n] ⟨h, m⟩ fun v s' => v = .bool false ∧ s' = ⟨h, m⟩ := by
  refine acalls_W mix (C0_ok _) c105 (by kernel_rfl) (Nat.le_of_ble_eq_true (by kernel_rfl)) ?_
  have he : elemB [] n = false := by
    unfold elemB nodeAt
    split
    · rename_i x hx; split at hx <;> simp at hx
    · rfl
  simp -implicitDefEqProofs only [F105, hobj, go_sem, seval]
  refine callI_pure ((w_Element [] n).at (by rw [he])) ?_
  simp -implicitDefEqProofs only [hobj, go_sem, seval]
theorem knLt_nil (p : Page) (st : List Ty.State) (parts : List Part) (k : Nat) : KnLt p st parts [] k := fun a b hb => .inl rfl
theorem w_Is (p : Page) (st : List Ty.State) (hp : PgOk p) (hs : st.length ≤ 100000) (n : Int) (c : Complex) (hc : Enc.ok c) :
    PureF Tryz.prog 78 [Enc.av p, Enc.av st, Enc.av n, Enc.av c] (.bool (isB p st n c.parts)) := by
  refine pureF_W mix c78 (by kernel_rfl) (by kernel_rfl) (by simp [flats, flat_av, Go.AX.flat]) (by first | exact flat_av _ | simp [flat, flats, flat_av]) ?_
  simp -implicitDefEqProofs only [F78, go_sem, seval]
  refine callI_st (w_of p st c hp _ _) ?_
  cases ht : treeB p
  · have e : isB p st n c.parts = false := by simp [isB, ht]
    rw [e]
    simp -implicitDefEqProofs only [go_sem, seval]
    refine callI_st (w_last0 st c.parts n (b := 3) (r := 2) rfl) ?_
    simp -implicitDefEqProofs only [go_sem, seval]
  · have t := treeB_iff.1 ht
    simp -implicitDefEqProofs only [go_sem, seval]
    refine callI_gen ((w_last hp t hs ((Complex.ok_iff c).1 hc).1 n (b := 3) (r := 2) (L := []) ⟨rfl, rfl, by decide, by decide, by decide, wf_of rfl⟩ (knLt_nil _ _ _ _)).mono ?_)
    rintro v s' ⟨rfl, L', rfl, _⟩
    simp -implicitDefEqProofs only [go_sem, seval]
theorem Mt.push {p : Page} {st : List Ty.State} {parts : List Part} {h : List (Nat × AX.Obj)} {m b r : Nat} {L : Kn} (M : Mt p st parts h m b r L) (o : AX.Obj) : Mt p st parts ((m, o) :: h) (m + 1) b r L := by
  have h1 := M.bm
  have h2 := M.rm
  refine ⟨?_, ?_, M.br, by omega, by omega, wf_push M.wf⟩
  · simp only [AX.look]; rw [if_neg (by omega)]; exact M.obj
  · simp only [AX.look]; rw [if_neg (by omega)]; exact M.map
end W15
/- Guards. -/
set_option linter.unusedSimpArgs false
set_option linter.unusedVariables false
namespace W15
open Go Go.AX Go.AX.Ty Go.Proofs
mutual
def siz : Simple → Nat
  | .mk _ _ _ _ _ l => 1 + sizL l
def sizL : List Simple → Nat
  | [] => 0
  | x :: r => siz x + sizL r
end
theorem siz_eq (x : Simple) : siz x = 1 + sizL x.l := by cases x; simp only [siz, Simple.l]
theorem len_sizL : ∀ l : List Simple, l.length ≤ sizL l
  | [] => by simp [sizL]
  | x :: r => by have := len_sizL r; have := siz_eq x; simp only [List.length_cons, sizL]; omega
def badS (n v : Str) : Bool := decide (n.length > 100) || decide (v.length > 100)
mutual
def cu (m : Int) : Simple → Int → Int
  | .mk _ nm v _ _ l, n => if badS nm v then m + 1 else cuL m l (n + 1)
def cuL (m : Int) : List Simple → Int → Int
  | [], n => n
  | x :: r, n => if n ≤ m then cuL m r (cu m x n) else n
end
theorem cu_eq (m : Int) (x : Simple) (n : Int) : cu m x n = if badS x.name x.value then m + 1 else cuL m x.l (n + 1) := by
  cases x; simp only [cu, Simple.name, Simple.value, Simple.l]; rfl
theorem cuL_big (m : Int) : ∀ (l : List Simple) (n : Int), m < n → cuL m l n = n
  | [], n, _ => by simp [cuL]
  | x :: r, n, h => by simp only [cuL]; rw [if_neg (by omega)]
mutual
def shortS : Simple → Prop
  | .mk _ nm v _ _ l => nm.length ≤ 100 ∧ v.length ≤ 100 ∧ shortL l
def shortL : List Simple → Prop
  | [] => True
  | x :: r => shortS x ∧ shortL r
end
mutual
theorem cu_ok (m : Int) : ∀ (x : Simple) (n : Int), n ≤ m → (n ≤ cu m x n ∧ cu m x n ≤ m + 1) ∧ (cu m x n ≤ m → cu m x n = n + siz x ∧ shortS x)
  | .mk _ nm v _ _ l, n, hn => by
    simp only [cu, siz, shortS]
    by_cases hb : badS nm v = true
    · rw [if_pos hb]; refine ⟨by omega, fun h => by omega⟩
    · rw [if_neg hb]
      simp [badS] at hb
      obtain ⟨h1, h2⟩ := cuL_ok m l (n + 1) (by omega)
      refine ⟨by omega, fun h => ?_⟩
      obtain ⟨h3, h4⟩ := h2 h
      exact ⟨by omega, by omega, by omega, h4⟩
theorem cuL_ok (m : Int) : ∀ (l : List Simple) (n : Int), n ≤ m + 1 → (n ≤ cuL m l n ∧ cuL m l n ≤ m + 1) ∧ (cuL m l n ≤ m → cuL m l n = n + sizL l ∧ shortL l)
  | [], n, hn => by simp [cuL, sizL, shortL]; omega
  | x :: r, n, hn => by
    simp only [cuL, sizL, shortL]
    by_cases h : n ≤ m
    · rw [if_pos h]
      obtain ⟨h1, h2⟩ := cu_ok m x n h
      obtain ⟨h3, h4⟩ := cuL_ok m r (cu m x n) (by omega)
      refine ⟨by omega, fun h' => ?_⟩
      obtain ⟨h5, h6⟩ := h4 h'
      obtain ⟨h7, h8⟩ := h2 (by omega)
      exact ⟨by omega, h8, h6⟩
    · rw [if_neg h]; exact ⟨by omega, fun h' => by omega⟩
end
theorem w_count (m : Int) (hm : 0 ≤ m ∧ m ≤ 1000000) : ∀ (N : Nat) (l : List Simple), sizL l ≤ N → Enc.ok l → ∀ n : Int, 0 ≤ n → n ≤ m + 1 →
    PureF Tryz.prog 129 [Enc.av l, Enc.av n, Enc.av m] (Enc.av (cuL m l n)) := fun N => by
  induction N using Nat.strongRecOn with
  | ind N ih =>
  intro l hN hok n hn0 hn1
  refine pureF_W mix c129 (by kernel_rfl) (by kernel_rfl) (by simp [flats, flat_av, Go.AX.flat]) (by first | exact flat_av _ | simp [flat, flats, flat_av]) ?_
  simp -implicitDefEqProofs only [F129, go_sem, seval]
  refine LoopI_sl (fun p : Nat × Int => l.length - p.1) (fun p => [(0, Enc.av l), (1, .int .i64 p.2), (2, .int .i64 m), (7, .int .i64 p.1)])
    (fun p s => p.1 ≤ l.length ∧ 0 ≤ p.2 ∧ p.2 ≤ m + 1 ∧ cuL m (l.drop p.1) p.2 = cuL m l n ∧ sizL (l.drop p.1) ≤ N) (0, n) ?_ ?_
  · simp -implicitDefEqProofs only [go_sem, seval]
    (try simp); omega
  rintro ⟨k, q⟩ ρ ⟨hp, nx⟩ ⟨h1, h2, h3, h4, h5⟩
  dsimp only at h1 h2 h3 h4 h5
  rcases Nat.lt_or_ge k l.length with hk | hk
  · obtain ⟨x, hx, hd, hm'⟩ := get_drop hk
    have hlt : ((k : Int) < (l.length : Int)) = True := eq_true (by omega)
    have hox := hok.2 x hm'
    rw [Simple.ok_iff] at hox
    simp only [hd, sizL] at h5
    rw [siz_eq] at h5
    have w1 : IntKind.i64.wrap ((k : Int) + 1) = ((k + 1 : Nat) : Int) := by have := hok.1; rw [wrap64 (by omega) (by omega)]; omega
    have w2 : IntKind.i64.wrap (q + 1) = q + 1 := wrap64 (by omega) (by omega)
    have w3 : IntKind.i64.wrap (m + 1) = m + 1 := wrap64 (by omega) (by omega)
    rcases Int.lt_or_le m q with hq | hq
    · have hT : (q ≤ m) = False := eq_false (by omega)
      rw [cuL_big m _ _ hq] at h4
      simp -implicitDefEqProofs only [hlt, hT, hx, ← h4, go_sem, seval]
    · have hT : (q ≤ m) = True := eq_true hq
      rw [hd] at h4
      simp only [cuL, if_pos hq, cu_eq] at h4
      have ih' := ih (N - 1) (by omega) x.l (by omega) hox.2.2.2.2.2 (q + 1) (by omega) (by omega)
      have hbd := (cuL_ok m x.l (q + 1) (by omega)).1
      simp -implicitDefEqProofs only [hlt, hT, hx, w1, w2, w3, go_sem, seval]
      repeat' (first
        | contradiction
        | (refine brI_both (fun h hT => ?_) (fun h hT => ?_) <;> try simp -implicitDefEqProofs only [hT, hx, w1, w2, w3, go_sem, seval] <;> try clear hT)
        | (refine callI_pure ih' ?_; simp -implicitDefEqProofs only [hx, w1, w2, w3, go_sem, seval]))
      · rw [if_pos (by simp [badS]; omega), cuL_big m _ _ (by omega)] at h4; rw [h4]
      · rw [if_pos (by simp [badS]; omega), cuL_big m _ _ (by omega)] at h4; rw [h4]
      · rw [if_neg (by simp [badS]; omega)] at h4
        refine ⟨(k + 1, _), by simp only; omega, ⟨rfl, rfl⟩, ?_⟩
        simp only; exact ⟨by omega, by omega, by omega, h4, by omega⟩
  · have hlt : ((k : Int) < (l.length : Int)) = False := eq_false (by omega)
    rw [drop_all hk] at h4
    simp only [cuL] at h4
    simp -implicitDefEqProofs only [hlt, h4, go_sem, seval]
def cuP (m : Int) : List Part → Int → Int
  | [], n => n
  | p :: r, n => if n ≤ m then cuP m r (cuL m p.l n) else n
def smallC (m : Int) : List Complex → Int → Bool
  | [], n => decide (n ≤ m)
  | x :: r, n => if n ≤ m then (if (x.pseudo.length : Int) > 100 then false else smallC m r (cuP m x.parts (n + x.parts.length))) else false
theorem cuP_big (m : Int) : ∀ (l : List Part) (n : Int), m < n → cuP m l n = n
  | [], n, _ => by simp [cuP]
  | x :: r, n, h => by simp only [cuP]; rw [if_neg (by omega)]
def sizN : List Part → Nat
  | [] => 0
  | p :: r => sizL p.l + sizN r
def shortP : List Part → Prop
  | [] => True
  | p :: r => shortL p.l ∧ shortP r
theorem cuP_ok (m : Int) : ∀ (l : List Part) (n : Int), cuP m l n ≤ m → cuP m l n = n + sizN l ∧ shortP l
  | [], n, h => by simp [cuP, sizN, shortP]
  | p :: r, n, h => by
    simp only [cuP, sizN, shortP] at h ⊢
    by_cases hn : n ≤ m
    · rw [if_pos hn] at h ⊢
      obtain ⟨h1, h2⟩ := cuP_ok m r _ h
      have h3 := (cuL_ok m p.l n (by omega))
      obtain ⟨h4, h5⟩ := h3.2 (by omega)
      exact ⟨by omega, h5, h2⟩
    · rw [if_neg hn] at h; omega
theorem smallC_ok (m : Int) : ∀ (l : List Complex) (n : Int), smallC m l n = true → n ≤ m ∧ ∀ x ∈ l, (n + x.parts.length + sizN x.parts ≤ m ∧ shortP x.parts ∧ x.pseudo.length ≤ 100)
  | [], n, h => by simp [smallC] at h; simp [h]
  | x :: r, n, h => by
    simp only [smallC] at h
    split at h
    · split at h
      · simp at h
      · rename_i h1 h2
        obtain ⟨h3, h4⟩ := smallC_ok m r _ h
        obtain ⟨h5, h6⟩ := cuP_ok m x.parts _ h3
        refine ⟨h1, fun y hy => ?_⟩
        rcases List.mem_cons.1 hy with rfl | hy
        · exact ⟨by omega, h6, by omega⟩
        · obtain ⟨h7, h8, h9⟩ := h4 y hy
          exact ⟨by omega, h8, h9⟩
    · simp at h
theorem w_Small4 (m : Int) (hm : 0 ≤ m ∧ m ≤ 1000000) (l : List Complex) (hok : Enc.ok l) : PureF Tryz.prog 110 [Enc.av l, Enc.av m] (Enc.av (smallC m l l.length)) := by
  refine pureF_W mix c110 (by kernel_rfl) (by kernel_rfl) (by simp [flats, flat_av, Go.AX.flat]) (by first | exact flat_av _ | simp [flat, flats, flat_av]) ?_
  have hlen := hok.1
  simp -implicitDefEqProofs only [F110, go_sem, seval]
  refine LoopI_sl (fun p : Nat × Int => l.length - p.1) (fun p => [(0, Enc.av l), (1, .int .i64 m), (5, .int .i64 p.2), (6, .int .i64 p.1)])
    (fun p s => p.1 ≤ l.length ∧ 0 ≤ p.2 ∧ p.2 ≤ 10000000000000000 ∧ smallC m (l.drop p.1) p.2 = smallC m l l.length) (0, l.length) ?_ ?_
  · simp -implicitDefEqProofs only [go_sem, seval]
    (try simp); omega
  rintro ⟨k, q⟩ ρ ⟨hp, nx⟩ ⟨h1, h2, h3, h4⟩
  dsimp only at h1 h2 h3 h4
  rcases Nat.lt_or_ge k l.length with hk | hk
  · obtain ⟨x, hx, hd, hm'⟩ := get_drop hk
    have hlt : ((k : Int) < (l.length : Int)) = True := eq_true (by omega)
    have hox := hok.2 x hm'
    have hxl := hox.1.1
    rw [hd] at h4
    have w1 : IntKind.i64.wrap ((k : Int) + 1) = ((k + 1 : Nat) : Int) := by rw [wrap64 (by omega) (by omega)]; omega
    rcases Int.lt_or_le m q with hq | hq
    · have hT : (q ≤ m) = False := eq_false (by omega)
      simp only [smallC, if_neg (show ¬ q ≤ m by omega)] at h4
      simp -implicitDefEqProofs only [hlt, hT, hx, ← h4, decide_false, go_sem, seval]
    · have hT : (q ≤ m) = True := eq_true hq
      simp only [smallC, if_pos hq] at h4
      have w2 : IntKind.i64.wrap (q + (x.parts.length : Int)) = q + x.parts.length := wrap64 (by omega) (by omega)
      simp -implicitDefEqProofs only [hlt, hT, hx, w2, go_sem, seval]
      refine LoopI_sl (fun p : Nat × Int => x.parts.length - p.1) (fun p => [(0, Enc.av l), (1, .int .i64 m), (5, .int .i64 p.2), (6, .int .i64 k), (7, .int .i64 p.1)])
        (fun p s => p.1 ≤ x.parts.length ∧ 0 ≤ p.2 ∧ p.2 ≤ 10000000000000000 ∧ cuP m (x.parts.drop p.1) p.2 = cuP m x.parts (q + x.parts.length)) (0, q + x.parts.length) ?_ ?_
      · simp -implicitDefEqProofs only [go_sem, seval]
        (try simp); omega
      rintro ⟨j, r⟩ ρ ⟨hp, nx⟩ ⟨g1, g2, g3, g4⟩
      dsimp only at g1 g2 g3 g4
      rcases Nat.lt_or_ge j x.parts.length with hj | hj
      · obtain ⟨y, hy, he, hn'⟩ := get_drop hj
        have hoy := hox.1.2 y hn'
        have hlt2 : ((j : Int) < (x.parts.length : Int)) = True := eq_true (by omega)
        rw [he] at g4
        have w3 : IntKind.i64.wrap ((j : Int) + 1) = ((j + 1 : Nat) : Int) := by rw [wrap64 (by omega) (by omega)]; omega
        rcases Int.lt_or_le m r with hr | hr
        · have hT2 : (r ≤ m) = False := eq_false (by omega)
          rw [cuP_big m _ _ hr] at g4
          by_cases hps : (x.pseudo.length : Int) > 100
          · have hP := eq_true hps
            rw [if_pos hps] at h4
            simp -implicitDefEqProofs only [hx, hlt2, hT2, hy, w1, hP, ← h4, go_sem, seval]
          · have hP := eq_false hps
            rw [if_neg hps] at h4
            simp -implicitDefEqProofs only [hx, hlt2, hT2, hy, w1, hP, go_sem, seval]
            refine ⟨(k + 1, _), by simp only; omega, ⟨rfl, rfl⟩, ?_⟩
            simp only
            rw [g4]
            exact ⟨by omega, by omega, by omega, h4⟩
        · have hT2 : (r ≤ m) = True := eq_true hr
          have hbd := (cuL_ok m y.l r (by omega)).1
          simp only [cuP, if_pos hr] at g4
          simp -implicitDefEqProofs only [hx, hlt2, hT2, hy, w1, w3, go_sem, seval]
          refine callI_pure (w_count m hm _ y.l (Nat.le_refl _) hoy.2 r g2 (by omega)) ?_
          simp -implicitDefEqProofs only [hx, w3, go_sem, seval]
          refine ⟨(j + 1, _), by simp only; omega, ⟨rfl, rfl⟩, ?_⟩
          simp only
          exact ⟨by omega, by omega, by omega, g4⟩
      · have hlt2 : ((j : Int) < (x.parts.length : Int)) = False := eq_false (by omega)
        rw [drop_all hj] at g4
        simp only [cuP] at g4
        by_cases hps : (x.pseudo.length : Int) > 100
        · have hP := eq_true hps
          rw [if_pos hps] at h4
          simp -implicitDefEqProofs only [hx, hlt2, w1, hP, ← h4, go_sem, seval]
        · have hP := eq_false hps
          rw [if_neg hps] at h4
          simp -implicitDefEqProofs only [hx, hlt2, w1, hP, go_sem, seval]
          refine ⟨(k + 1, _), by simp only; omega, ⟨rfl, rfl⟩, ?_⟩
          simp only
          rw [g4]
          exact ⟨by omega, by omega, by omega, h4⟩
  · have hlt : ((k : Int) < (l.length : Int)) = False := eq_false (by omega)
    rw [drop_all hk] at h4
    simp only [smallC] at h4
    simp -implicitDefEqProofs only [hlt, ← h4, go_sem, seval]
def badN (m : Int) (x : Ty.Node) : Bool := decide ((x.name.length : Int) > 100) || (decide ((x.text.length : Int) > 300) || (decide ((x.attrs.length : Int) > 20) || (decide ((x.kids.length : Int) > m) || x.attrs.any fun a => decide ((a.name.length : Int) > 100) || decide ((a.value.length : Int) > 100))))
def smallPg (m : Int) (p : Page) : Bool := decide ((p.length : Int) ≤ m) && !p.any (badN m)
theorem smallPg_ok {m : Int} {p : Page} (hm : m ≤ 1000) (hok : Enc.ok p) (h : smallPg m p = true) : PgOk p := by
  simp only [smallPg, Bool.and_eq_true, decide_eq_true_eq, Bool.not_eq_true', List.any_eq_false] at h
  refine ⟨hok, by omega, fun x hx => ?_, fun x hx a ha => ?_⟩
  · have := h.2 x hx
    simp only [badN, Bool.or_eq_true, decide_eq_true_eq, not_or] at this
    omega
  · have := h.2 x hx
    simp only [badN, Bool.or_eq_true, decide_eq_true_eq, not_or, List.any_eq_true, not_exists, not_and] at this
    have := this.2.2.2.2 a ha
    omega
theorem w_Small10 (m : Int) (p : Page) (hok : Enc.ok p) : PureF Tryz.prog 34 [Enc.av p, Enc.av m] (.bool (smallPg m p)) := by
  refine pureF_W mix c34 (by kernel_rfl) (by kernel_rfl) (by simp [flats, flat_av, Go.AX.flat]) (by first | exact flat_av _ | simp [flat, flats, flat_av]) ?_
  have hlen := hok.1
  unfold smallPg
  by_cases hbig : (p.length : Int) ≤ m
  case neg =>
    have hb : ((p.length : Int) ≤ m) = False := eq_false hbig
    simp -implicitDefEqProofs only [F34, go_sem, seval]
    rw [LoopI_def]
    refine ⟨1, ?_⟩
    by_cases h0 : (0 : Int) < (p.length : Int)
    · simp -implicitDefEqProofs only [hb, h0, go_sem, seval]
      simp [hbig]
    · simp -implicitDefEqProofs only [hb, h0, go_sem, seval]
      simp [hbig]
  have hb : ((p.length : Int) ≤ m) = True := eq_true hbig
  simp -implicitDefEqProofs only [F34, go_sem, seval]
  refine LoopI_sl (fun k : Nat => p.length - k) (fun k => [(0, Enc.av p), (1, Enc.av m), (5, .int .i64 k)]) (fun k s => k ≤ p.length ∧ Pre (badN m) p k) 0 ?_ ?_
  · simp -implicitDefEqProofs only [go_sem, seval]
    exact Pre.zero _ _
  rintro k ρ ⟨g, q⟩ ⟨h1, h2⟩
  rcases Nat.lt_or_ge k p.length with hk | hk
  · obtain ⟨x, hx, hd, hm⟩ := get_drop hk
    have hlt : ((k : Int) < (p.length : Int)) = True := eq_true (by omega)
    have w1 : IntKind.i64.wrap ((k : Int) + 1) = ((k + 1 : Nat) : Int) := by rw [wrap64 (by omega) (by omega)]; omega
    have hbad : badN m x = true → (decide ((p.length : Int) ≤ m) && !p.any (badN m)) = false := fun h => by rw [any_here hm h]; simp
    have hal := ((Node.ok_iff x).1 (hok.2 x hm)).2.1.1
    simp -implicitDefEqProofs only [hlt, hb, hx, go_sem, seval]
    by_cases b1 : (x.name.length : Int) > 100
    · rw [hbad (by simp [badN, b1])]
      simp -implicitDefEqProofs only [b1, go_sem, seval]
    by_cases b2 : (x.text.length : Int) > 300
    · rw [hbad (by simp [badN, b2])]
      simp -implicitDefEqProofs only [b1, b2, go_sem, seval]
    by_cases b3 : (x.attrs.length : Int) > 20
    · rw [hbad (by simp [badN, b3])]
      simp -implicitDefEqProofs only [b1, b2, b3, go_sem, seval]
    by_cases b4 : (x.kids.length : Int) > m
    · rw [hbad (by simp [badN, b4])]
      simp -implicitDefEqProofs only [b1, b2, b3, b4, go_sem, seval]
    simp -implicitDefEqProofs only [b1, b2, b3, b4, go_sem, seval]
    refine LoopI_sl (fun j : Nat => x.attrs.length - j) (fun j => [(0, Enc.av p), (1, Enc.av m), (5, .int .i64 k), (6, .ptr q 0 0), (7, .int .i64 j)])
      (fun j s => j ≤ x.attrs.length ∧ q + 1 ≤ s.next ∧ AX.look q s.heap = some (.cells 0 (Enc.cells x) false) ∧ Pre (fun a : Attr => decide ((a.name.length : Int) > 100) || decide ((a.value.length : Int) > 100)) x.attrs j) 0 ?_ ?_
    · simp -implicitDefEqProofs only [go_sem, seval]
      exact Pre.zero _ _
    rintro j ρ ⟨g2, q2⟩ ⟨j1, j2, j3, j4⟩
    dsimp only at j2 j3
    rw [Node.ecells] at j3
    rcases Nat.lt_or_ge j x.attrs.length with hj | hj
    · obtain ⟨a, ha, _, ham⟩ := get_drop hj
      have hlt2 : ((j : Int) < (x.attrs.length : Int)) = True := eq_true (by omega)
      have w2 : IntKind.i64.wrap ((j : Int) + 1) = ((j + 1 : Nat) : Int) := by rw [wrap64 (by omega) (by omega)]; omega
      by_cases a1 : (a.name.length : Int) > 100
      · rw [hbad (by simp only [badN]; rw [any_here ham (by simp [a1])]; simp)]
        simp -implicitDefEqProofs only [hlt2, ha, j3, a1, go_sem, seval]
      by_cases a2 : (a.value.length : Int) > 100
      · rw [hbad (by simp only [badN]; rw [any_here ham (by simp [a2])]; simp)]
        simp -implicitDefEqProofs only [hlt2, ha, j3, a1, a2, go_sem, seval]
      simp -implicitDefEqProofs only [hlt2, ha, j3, a1, a2, w2, go_sem, seval]
      refine ⟨j + 1, by omega, ?_⟩
      exact ⟨rfl, by omega, j2, j4.next ha (by simp; omega)⟩
    · have hlt2 : ((j : Int) < (x.attrs.length : Int)) = False := eq_false (by omega)
      simp -implicitDefEqProofs only [hlt2, j3, w1, go_sem, seval]
      refine ⟨k + 1, by omega, rfl, by omega, h2.next hx ?_⟩
      simp only [badN, Bool.or_eq_false_iff, decide_eq_false_iff_not]
      exact ⟨b1, b2, b3, b4, any_no (j4.all hj)⟩
  · have hlt : ((k : Int) < (p.length : Int)) = False := eq_false (by omega)
    simp -implicitDefEqProofs only [hlt, hb, go_sem, seval]
    rw [any_no (h2.all hk)]; simp [hbig]
def fewB (st : List Ty.State) : Bool := decide (st.length ≤ 30) && !st.any fun x => decide ((x.name.length : Int) > 100)
theorem w_Few (st : List Ty.State) (hok : Enc.ok st) : PureF Tryz.prog 35 [Enc.av st] (.bool (fewB st)) := by
  refine pureF_W mix c35 (by kernel_rfl) (by kernel_rfl) (by simp [flats, flat_av, Go.AX.flat]) (by first | exact flat_av _ | simp [flat, flats, flat_av]) ?_
  have hlen := hok.1
  unfold fewB
  by_cases hbig : st.length ≤ 30
  case neg =>
    have hb : ((st.length : Int) ≤ 30) = False := eq_false (by omega)
    simp -implicitDefEqProofs only [F35, go_sem, seval]
    rw [LoopI_def]
    refine ⟨1, ?_⟩
    have h0 : ((0 : Int) < (st.length : Int)) = True := eq_true (by omega)
    simp -implicitDefEqProofs only [hb, h0, go_sem, seval]
    simp [hbig]
  have hb : ((st.length : Int) ≤ 30) = True := eq_true (by omega)
  simp -implicitDefEqProofs only [F35, go_sem, seval]
  refine LoopI_sl (fun k : Nat => st.length - k) (fun k => [(0, Enc.av st), (3, .int .i64 k)]) (fun k s => k ≤ st.length ∧ Pre (fun x : Ty.State => decide ((x.name.length : Int) > 100)) st k) 0 ?_ ?_
  · simp -implicitDefEqProofs only [go_sem, seval]
    exact Pre.zero _ _
  rintro k ρ ⟨g, q⟩ ⟨h1, h2⟩
  rcases Nat.lt_or_ge k st.length with hk | hk
  · obtain ⟨x, hx, hd, hm⟩ := get_drop hk
    have hlt : ((k : Int) < (st.length : Int)) = True := eq_true (by omega)
    have w1 : IntKind.i64.wrap ((k : Int) + 1) = ((k + 1 : Nat) : Int) := by rw [wrap64 (by omega) (by omega)]; omega
    simp -implicitDefEqProofs only [hlt, hb, hx, go_sem, seval]
    (refine brI_both (fun h hT => ?_) (fun h hT => ?_) <;> try simp -implicitDefEqProofs only [hT, w1, go_sem, seval] <;> try clear hT)
    · rw [any_here hm (by simpa using h)]; simp
    · exact ⟨k + 1, by omega, rfl, by omega, h2.next hx (by simpa using h)⟩
  · have hlt : ((k : Int) < (st.length : Int)) = False := eq_false (by omega)
    simp -implicitDefEqProofs only [hlt, hb, go_sem, seval]
    rw [any_no (h2.all hk)]; simp [hbig]
end W15
/- Who stands how: the document's. -/
set_option linter.unusedSimpArgs false
set_option linter.unusedVariables false
namespace W15
open Go Go.AX Go.AX.Ty Go.Proofs
end W15
/- The document's answers. -/
set_option linter.unusedSimpArgs false
set_option linter.unusedVariables false
namespace W15
open Go Go.AX Go.AX.Ty Go.Proofs
end W15
/- The document's answers: which fit. -/
set_option linter.unusedSimpArgs false
set_option linter.unusedVariables false
namespace W15
open Go Go.AX Go.AX.Ty Go.Proofs
end W15
