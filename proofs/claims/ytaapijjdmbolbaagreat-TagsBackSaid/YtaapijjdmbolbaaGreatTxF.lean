/- The reference: One. -/
import Derived.Test.YtaapijjdmbolbaaGreatTxE
set_option linter.unusedSimpArgs false
set_option linter.unusedVariables false
namespace W09
open Go Go.AX Go.AX.Ty Go.Proofs
theorem w_rOne (t : Tag) (ht : TSz t) : PureF Tryz.prog 17 [Enc.av t] (.str (oneB t)) := by
  have ht' := ht
  obtain ⟨ht1, ht2, ht3, ht4⟩ := ht
  refine pureF_W mix c17 (by kernel_rfl) (by kernel_rfl) (by simp [flats, flat_av, Go.AX.flat]) (by first | exact flat_av _ | simp [flat, flats, flat_av]) ?_
  simp -implicitDefEqProofs only [F17, Tag.eav, go_sem, seval]
  by_cases k1 : t.kind = 1
  · have la : (t.name.length ≤ 9223372036854775806) = True := eq_true (by omega)
    have lb : (1 + t.name.length ≤ 9223372036854775807) = True := eq_true (by omega)
    have e : oneB t = [60] ++ t.name ++ attrsS t.attrs ++ [62] := by simp [oneB, k1]
    rw [e]
    simp -implicitDefEqProofs only [eq_true k1, la, lb, go_sem, seval]
    refine LoopI_sl (fun k : Nat => t.attrs.length - k) (fun k => [(1, .ptr 0 1 0), (3, .str (60 :: (t.name ++ attrsS (t.attrs.take k)))), (4, .int .i64 k)])
      (fun k st => st = ⟨[(0, .cells 1 [.int .i64 t.kind, .str t.name, .ps t.attrs.length (cellsL t.attrs), .str t.text] false)], 1⟩ ∧ k ≤ t.attrs.length) 0 ?_ ?_
    · simp -implicitDefEqProofs only [go_sem, seval]
      simp [attrsS]
    rintro k ρ st ⟨rfl, i1⟩
    have hle : (attrsS (t.attrs.take k)).length ≤ 8000000000 := by
      have := attrsS_len (t.attrs.take k) fun a ha => ht4 a (List.mem_of_mem_take ha)
      simp only [List.length_take] at this; omega
    rcases Nat.lt_or_ge k t.attrs.length with hk | hk
    · obtain ⟨x, hx, hd, hm⟩ := get_drop hk
      have hlt : ((k : Int) < (t.attrs.length : Int)) = True := eq_true (by omega)
      have w1 : IntKind.i64.wrap ((k : Int) + 1) = ((k + 1 : Nat) : Int) := by rw [wrap64 (by omega) (by omega)]; omega
      have hxm := ht4 x hm
      have hs5 := signs_len x.value
      have la1 : (x.name.length ≤ 9223372036854775806) = True := eq_true (by omega)
      have la2 : (x.name.length ≤ 9223372036854775804) = True := eq_true (by omega)
      have la3 : (1 + x.name.length ≤ 9223372036854775805) = True := eq_true (by omega)
      have la4 : (1 + x.name.length ≤ 9223372036854775807) = True := eq_true (by omega)
      have la5 : ((x.name ++ [61, 34]).length + 1 + (signsB x.value).length ≤ 9223372036854775807) = True := eq_true (by rw [List.length_append, List.length_cons, List.length_cons, List.length_nil]; omega)
      have la7 : ((x.name ++ [61, 34] ++ signsB x.value).length ≤ 9223372036854775805) = True := eq_true (by rw [List.length_append, List.length_append, List.length_cons, List.length_cons, List.length_nil]; omega)
      have la6 : ((t.name ++ attrsS (t.attrs.take k)).length ≤ 9223372036854775805) = True := eq_true (by rw [List.length_append]; omega)
      simp -implicitDefEqProofs only [hlt, hx, Attr.ecells, Attr.elem, la1, la2, la3, la4, go_sem, seval]
      refine dcallI_pure (w_rsigns x.value (by omega)) ?_
      have la8 : ((t.name ++ attrsS (t.attrs.take k)).length + 1 + ((x.name ++ [61, 34] ++ signsB x.value ++ [34]).length + 1) ≤ 9223372036854775807) = True := eq_true (by simp only [List.length_append, List.length_cons, List.length_nil]; omega)
      simp -implicitDefEqProofs only [la5, la6, la7, la8, go_sem, seval]
      refine andI_intro (by (first | omega | (simp [indepB, indep1, apart1, Nat.testBit_eq_decide_div_mod_eq]; done) | (simp [indepB, indep1, apart1, Nat.testBit_eq_decide_div_mod_eq]; omega) | kernel_rfl)) ?_
      simp -implicitDefEqProofs only [w1, go_sem, seval]
      have e1 : attrsS (t.attrs.take (k + 1)) = attrsS (t.attrs.take k) ++ attrS x := by
        unfold attrsS; rw [List.take_add_one, hx]; simp
      exact ⟨k + 1, by omega, ⟨by rw [e1]; simp [attrS], rfl⟩, hk⟩
    · have hlt : ((k : Int) < (t.attrs.length : Int)) = False := eq_false (by omega)
      have la6 : ((t.name ++ attrsS (t.attrs.take k)).length ≤ 9223372036854775805) = True := eq_true (by rw [List.length_append]; omega)
      simp -implicitDefEqProofs only [hlt, la6, go_sem, seval]
      rw [List.take_of_length_le hk]
  by_cases k2 : t.kind = 2
  · have e : oneB t = [60, 47] ++ t.name ++ [62] := by simp [oneB, k2]
    rw [e]
    have la : (t.name.length ≤ 9223372036854775805) = True := eq_true (by omega)
    have lb : (t.name.length ≤ 9223372036854775804) = True := eq_true (by omega)
    have lc : (2 + t.name.length ≤ 9223372036854775807) = True := eq_true (by omega)
    simp -implicitDefEqProofs only [eq_false k1, eq_true k2, la, lb, lc, go_sem, seval]
  by_cases k3 : t.kind = 3
  · have e : oneB t = signsB t.text := by simp [oneB, k3]
    rw [e]
    simp -implicitDefEqProofs only [eq_false k1, eq_false k2, eq_true k3, go_sem, seval]
    refine callI_pure (w_rsigns t.text (by omega)) ?_
    simp -implicitDefEqProofs only [go_sem, seval]
  have e : oneB t = [] := by simp [oneB, k1, k2, k3]
  rw [e]
  simp -implicitDefEqProofs only [eq_false k1, eq_false k2, eq_false k3, go_sem, seval]
end W09
/- The reference: Text, Attrs, Same, May, Void. -/
namespace W09
open Go Go.AX Go.AX.Ty Go.Proofs
def lastK (l : List Tag) (k : Nat) : Tag := (noTag :: l).getD k noTag
theorem lastK_succ {l : List Tag} {k : Nat} {t : Tag} (h : l[k]? = some t) : lastK l (k + 1) = t := by
  unfold lastK; rw [List.getD_cons_succ, List.getD_eq_getElem?_getD, h]; rfl
theorem w_rText (l : List Tag) (hl : l.length ≤ 10000) (hz : ∀ t ∈ l, TSz t) : PureF Tryz.prog 15 [Enc.av l] (.str (textB l)) := by
  refine pureF_W mix c15 (by kernel_rfl) (by kernel_rfl) (by simp [flats, flat_av, Go.AX.flat]) (by first | exact flat_av _ | simp [flat, flats, flat_av]) ?_
  simp -implicitDefEqProofs only [F15, go_sem, seval]
  refine LoopI_sl (fun x : Nat × Str => l.length - x.1) (fun x => [(0, Enc.av l), (3, .str x.2), (4, .int .i64 x.1)])
    (fun x st => st = ⟨[], 0⟩ ∧ x.1 ≤ l.length ∧ x.2.length ≤ x.1 * 9000000007 ∧ x.2 ++ textF (lastK l x.1) (l.drop x.1) = textB l) (0, []) ?_ ?_
  · simp -implicitDefEqProofs only [go_sem, seval]
    rfl
  rintro ⟨k, acc⟩ ρ st ⟨rfl, i1, i3, i4⟩
  simp only at i1 i3 i4
  rcases Nat.lt_or_ge k l.length with hk | hk
  · obtain ⟨t, hx, hd, hm⟩ := get_drop hk
    have hlt : ((k : Int) < (l.length : Int)) = True := eq_true (by omega)
    have w1 : IntKind.i64.wrap ((k : Int) + 1) = ((k + 1 : Nat) : Int) := by rw [wrap64 (by omega) (by omega)]; omega
    have ht := hz t hm
    have hone := oneB_len ht
    have hsl := sepB_len (last := lastK l k) ht
    have htl := ht.2.1
    rw [hd, textF, ← List.append_assoc] at i4
    have go : ∀ v : Str, v = sepB (lastK l k) t → ∃ y : Nat × Str, l.length - y.1 < l.length - k ∧ (AV.str (acc ++ v) = AV.str y.2 ∧ AV.int IntKind.i64 ((k + 1 : Nat) : Int) = AV.int IntKind.i64 (y.1 : Int)) ∧ y.1 ≤ l.length ∧ y.2.length ≤ y.1 * 9000000007 ∧ y.2 ++ textF (lastK l y.1) (l.drop y.1) = textB l := fun v hv => by
      refine ⟨(k + 1, acc ++ v), by show l.length - (k + 1) < _; omega, ⟨rfl, rfl⟩, hk, by simp only [List.length_append]; rw [hv]; omega, ?_⟩
      rw [hv, lastK_succ hx]; exact i4
    have a1 : (acc.length + 7 ≤ 9223372036854775807) = True := eq_true (by omega)
    have a2 : (acc.length ≤ 9223372036854775800) = True := eq_true (by omega)
    have a3 : (acc.length + (oneB t).length ≤ 9223372036854775807) = True := eq_true (by omega)
    have a4 : (acc.length + t.text.length ≤ 9223372036854775807) = True := eq_true (by omega)
    have a5 : ((acc ++ [60, 33, 45, 45, 45, 45, 62]).length + (oneB t).length ≤ 9223372036854775807) = True := eq_true (by simp only [List.length_append, List.length_cons, List.length_nil]; omega)
    rcases Nat.eq_zero_or_pos k with rfl | hk0
    · have h0 : ((0 : Int) < (l.length : Int)) = True := eq_true (by omega)
      have h1 : ((0 : Int) > 0) = False := eq_false (by omega)
      have el : lastK l 0 = noTag := rfl
      have w1' : IntKind.i64.wrap ((0 : Int) + 1) = 1 := w1
      have hx' : elemA 0 4 (.ps l.length (cellsL l)) = some (.vp (Enc.cells t ++ cellsL (l.drop (0 + 1)))) := by have := Tag.elem l 0; rw [hx] at this; exact this
      simp -implicitDefEqProofs only [h0, h1, hx, hx', Tag.ecells, Tag.elem, a3, w1, w1', go_sem, seval]
      refine callI_pure (w_rOne t ht) ?_
      simp -implicitDefEqProofs only [w1, w1', a3, a5, go_sem, seval]
      exact go _ (by rw [el]; simp [sepB, noTag])
    · have h0 : ((k : Int) > 0) = True := eq_true (by omega)
      have w2 : IntKind.i64.wrap ((k : Int) - 1) = ((k - 1 : Nat) : Int) := by rw [wrap64 (by omega) (by omega)]; omega
      obtain ⟨p, hp, hdp, _⟩ := get_drop (l := l) (k := k - 1) (by omega)
      have el : lastK l k = p := by have := lastK_succ hp; rwa [show k - 1 + 1 = k by omega] at this
      rw [el] at go
      have q : List.drop (k - 1 + 1) l = List.drop k l := by rw [show k - 1 + 1 = k by omega]
      by_cases k3 : t.kind = 3
      · by_cases p3 : p.kind = 3
        · have p1 : (p.kind = 1) = False := eq_false (by omega)
          simp -implicitDefEqProofs only [hlt, h0, hx, hp, Tag.ecells, Tag.elem, eq_true k3, eq_true p3, p1, w1, w2, a1, a2, a3, a4, a5, go_sem, seval]
          refine callI_pure (w_rOne t ht) ?_
          simp -implicitDefEqProofs only [w1, a3, a5, go_sem, seval]
          simp only [List.append_assoc]
          exact go (sApart ++ oneB t) (by simp [sepB, k3, p3])
        · by_cases p1 : p.kind = 1
          · by_cases pn : p.name = sStyle
            · have pn' : (p.name = [115, 116, 121, 108, 101]) = True := eq_true pn
              simp -implicitDefEqProofs only [hlt, h0, hx, hp, Tag.ecells, Tag.elem, eq_true k3, eq_false p3, eq_true p1, pn', w1, w2, a1, a2, a3, a4, a5, go_sem, seval]
              exact go _ (by simp [sepB, k3, p1, pn])
            · have pn' : (p.name = [115, 116, 121, 108, 101]) = False := eq_false pn
              simp -implicitDefEqProofs only [hlt, h0, hx, hp, Tag.ecells, Tag.elem, eq_true k3, eq_false p3, eq_true p1, pn', w1, w2, a1, a2, a3, a4, a5, go_sem, seval]
              refine callI_pure (w_rOne t ht) ?_
              simp -implicitDefEqProofs only [w1, a3, a5, go_sem, seval]
              exact go _ (by simp [sepB, k3, p1, pn])
          · simp -implicitDefEqProofs only [hlt, h0, hx, hp, Tag.ecells, Tag.elem, eq_true k3, eq_false p3, eq_false p1, w1, w2, a1, a2, a3, a4, a5, go_sem, seval]
            refine callI_pure (w_rOne t ht) ?_
            simp -implicitDefEqProofs only [w1, a3, a5, go_sem, seval]
            exact go _ (by simp [sepB, k3, p3, p1])
      · simp -implicitDefEqProofs only [hlt, h0, hx, hp, Tag.ecells, Tag.elem, eq_false k3, w1, w2, a1, a2, a3, a4, a5, go_sem, seval]
        refine callI_pure (w_rOne t ht) ?_
        simp -implicitDefEqProofs only [w1, a3, a5, go_sem, seval]
        exact go _ (by simp [sepB, k3])
  · have hlt : ((k : Int) < (l.length : Int)) = False := eq_false (by omega)
    rw [List.drop_of_length_le hk] at i4
    simp only [textF, List.append_nil] at i4
    simp -implicitDefEqProofs only [hlt, go_sem, seval]
    rw [i4]
theorem w_rAttrs (a b : List Ty.Attr) (ha : a.length ≤ 100000) : PureF Tryz.prog 22 [Enc.av a, Enc.av b] (.bool (decide (a = b))) := by
  refine pureF_W mix c22 (by kernel_rfl) (by kernel_rfl) (by simp [flats, flat_av, Go.AX.flat]) (by first | exact flat_av _ | simp [flat, flats, flat_av]) ?_
  by_cases hl : a.length = b.length
  · have hl' : ((a.length : Int) = (b.length : Int)) = True := eq_true (by omega)
    simp -implicitDefEqProofs only [F22, hl', go_sem, seval]
    refine LoopI_sl (fun k : Nat => a.length - k) (fun k => [(0, Enc.av a), (1, Enc.av b), (5, .int .i64 k)])
      (fun k st => k ≤ a.length ∧ decide (a = b) = decide (a.drop k = b.drop k)) 0 ?_ ?_
    · simp -implicitDefEqProofs only [List.drop_zero, go_sem, seval]
    rintro k ρ ⟨hh, mm⟩ ⟨n1, n2⟩
    rw [n2]
    have w1 : IntKind.i64.wrap ((k : Int) + 1) = ((k + 1 : Nat) : Int) := by rw [wrap64 (by omega) (by omega)]; omega
    rcases Nat.lt_or_ge k a.length with hn | hn
    · obtain ⟨x, hx, hdx, _⟩ := get_drop hn
      obtain ⟨y, hy, hdy, _⟩ := get_drop (hl ▸ hn)
      have h2 : ((k : Int) < (a.length : Int)) = True := eq_true (by omega)
      simp -implicitDefEqProofs only [h2, hx, hy, Attr.ecells, Attr.elem, go_sem, seval]
      refine andI_intro (by (first | omega | (simp [indepB, indep1, apart1, Nat.testBit_eq_decide_div_mod_eq]; done) | (simp [indepB, indep1, apart1, Nat.testBit_eq_decide_div_mod_eq]; omega) | kernel_rfl)) ?_
      rw [hdx, hdy]
      simp -implicitDefEqProofs only [go_sem, seval]
      refine brI_both (fun h hT => ?_) (fun h hT => ?_)
      · simp -implicitDefEqProofs only [w1, go_sem, seval]
        exact ⟨k + 1, by omega, rfl, by omega, by simp only [Bool.and_eq_true, beq_iff_eq] at h; simp [Attr.ext h.1 h.2]⟩
      · simp -implicitDefEqProofs only [go_sem, seval]
        have e : x ≠ y := fun e => h (by simp [e])
        simp [e]
    · have h2 : ((k : Int) < (a.length : Int)) = False := eq_false (by omega)
      simp -implicitDefEqProofs only [h2, go_sem, seval]
      rw [List.drop_of_length_le hn, List.drop_of_length_le (by omega)]; simp
  · have hl' : ((a.length : Int) = (b.length : Int)) = False := eq_false (by omega)
    simp -implicitDefEqProofs only [F22, hl', go_sem, seval]
    simp; intro h; exact hl (by rw [h])
theorem w_rSame (a b : List Tag) (hl0 : a.length ≤ 1000000) (ha : ∀ t ∈ a, t.attrs.length ≤ 100000) : PureF Tryz.prog 11 [Enc.av a, Enc.av b] (.bool (decide (a = b))) := by
  refine pureF_W mix c11 (by kernel_rfl) (by kernel_rfl) (by simp [flats, flat_av, Go.AX.flat]) (by first | exact flat_av _ | simp [flat, flats, flat_av]) ?_
  by_cases hl : a.length = b.length
  · have hl' : ((a.length : Int) = (b.length : Int)) = True := eq_true (by omega)
    simp -implicitDefEqProofs only [F11, hl', go_sem, seval]
    refine LoopI_sl (fun k : Nat => a.length - k) (fun k => [(0, Enc.av a), (1, Enc.av b), (5, .int .i64 k)])
      (fun k st => k ≤ a.length ∧ decide (a = b) = decide (a.drop k = b.drop k)) 0 ?_ ?_
    · simp -implicitDefEqProofs only [List.drop_zero, go_sem, seval]
    rintro k ρ ⟨hh, mm⟩ ⟨n1, n2⟩
    rw [n2]
    have w1 : IntKind.i64.wrap ((k : Int) + 1) = ((k + 1 : Nat) : Int) := by rw [wrap64 (by omega) (by omega)]; omega
    rcases Nat.lt_or_ge k a.length with hn | hn
    · obtain ⟨x, hx, hdx, hm⟩ := get_drop hn
      obtain ⟨y, hy, hdy, _⟩ := get_drop (hl ▸ hn)
      have h2 : ((k : Int) < (a.length : Int)) = True := eq_true (by omega)
      rw [hdx, hdy]
      have ne : x ≠ y → decide (x :: a.drop (k + 1) = y :: b.drop (k + 1)) = false := fun h => by simp [h]
      by_cases e1 : x.kind = y.kind
      · by_cases e2 : x.name = y.name
        · by_cases e3 : x.text = y.text
          · simp -implicitDefEqProofs only [h2, hx, hy, Tag.ecells, Tag.elem, eq_true e1, eq_true e2, eq_true e3, go_sem, seval]
            refine andI_intro (by kernel_rfl) ?_
            simp -implicitDefEqProofs only [eq_true e1, eq_true e2, eq_true e3, go_sem, seval]
            refine callI_pure (w_rAttrs x.attrs y.attrs (ha x hm)) ?_
            by_cases e4 : x.attrs = y.attrs
            · simp -implicitDefEqProofs only [eq_true e4, decide_true, w1, eq_true e1, eq_true e2, eq_true e3, go_sem, seval]
              exact ⟨k + 1, by omega, rfl, by omega, by simp [Tag.ext e1 e2 e4 e3]⟩
            · simp -implicitDefEqProofs only [eq_false e4, decide_false, eq_true e1, eq_true e2, eq_true e3, go_sem, seval]
              rw [ne fun h => e4 (by rw [h])]
          · simp -implicitDefEqProofs only [h2, hx, hy, Tag.ecells, Tag.elem, eq_true e1, eq_true e2, eq_false e3, go_sem, seval]
            refine andI_intro (by kernel_rfl) ?_
            simp -implicitDefEqProofs only [eq_true e1, eq_true e2, eq_false e3, go_sem, seval]
            rw [ne fun h => e3 (by rw [h])]
        · simp -implicitDefEqProofs only [h2, hx, hy, Tag.ecells, Tag.elem, eq_true e1, eq_false e2, go_sem, seval]
          refine andI_intro (by kernel_rfl) ?_
          simp -implicitDefEqProofs only [eq_true e1, eq_false e2, go_sem, seval]
          rw [ne fun h => e2 (by rw [h])]
      · simp -implicitDefEqProofs only [h2, hx, hy, Tag.ecells, Tag.elem, eq_false e1, go_sem, seval]
        refine andI_intro (by kernel_rfl) ?_
        simp -implicitDefEqProofs only [eq_false e1, go_sem, seval]
        rw [ne fun h => e1 (by rw [h])]
    · have h2 : ((k : Int) < (a.length : Int)) = False := eq_false (by omega)
      simp -implicitDefEqProofs only [h2, go_sem, seval]
      rw [List.drop_of_length_le hn, List.drop_of_length_le (by omega)]; simp
  · have hl' : ((a.length : Int) = (b.length : Int)) = False := eq_false (by omega)
    simp -implicitDefEqProofs only [F11, hl', go_sem, seval]
    simp; intro h; exact hl (by rw [h])
theorem w_rVoid (n : Str) : PureF Tryz.prog 21 [.str n] (.bool (voidB n)) := by
  refine pureF_W mix c21 (by kernel_rfl) (by kernel_rfl) (by simp [flats, flat_av, Go.AX.flat]) (by first | exact flat_av _ | simp [flat, flats, flat_av]) ?_
  unfold voidB
  by_cases e1 : n = [98, 114]
  · simp -implicitDefEqProofs only [F21, eq_true e1, go_sem, seval]
    simp [e1]
  by_cases e2 : n = [104, 114]
  · simp -implicitDefEqProofs only [F21, eq_false e1, eq_true e2, go_sem, seval]
    simp [e2]
  by_cases e3 : n = [105, 109, 103]
  · simp -implicitDefEqProofs only [F21, eq_false e1, eq_false e2, eq_true e3, go_sem, seval]
    simp [e3]
  by_cases e4 : n = [105, 110, 112, 117, 116]
  · simp -implicitDefEqProofs only [F21, eq_false e1, eq_false e2, eq_false e3, eq_true e4, go_sem, seval]
    simp [e4]
  by_cases e5 : n = [108, 105, 110, 107]
  · simp -implicitDefEqProofs only [F21, eq_false e1, eq_false e2, eq_false e3, eq_false e4, eq_true e5, go_sem, seval]
    simp [e5]
  by_cases e6 : n = [109, 101, 116, 97]
  · simp -implicitDefEqProofs only [F21, eq_false e1, eq_false e2, eq_false e3, eq_false e4, eq_false e5, eq_true e6, go_sem, seval]
    simp [e6]
  simp -implicitDefEqProofs only [F21, eq_false e1, eq_false e2, eq_false e3, eq_false e4, eq_false e5, eq_false e6, go_sem, seval]
  simp [e1, e2, e3, e4, e5, e6]
end W09
/- The reference: May, Small. -/
namespace W09
open Go Go.AX Go.AX.Ty Go.Proofs
theorem w_rMay (t : Tag) (ht : TSz t) (hx : (textB (mayL t)).length ≤ 400000) (hn : (allB (textB (mayL t))).length ≤ 1000000) (ha : ∀ x ∈ allB (textB (mayL t)), x.attrs.length ≤ 100000) : PureF Tryz.prog 19 [Enc.av t] (.bool (mayB t)) := by
  have hsh : TSz (shutT sStyle) := ⟨by decide, by decide, by decide, fun a h => by simp [shutT] at h⟩
  refine pureF_W mix c19 (by kernel_rfl) (by kernel_rfl) (by simp [flats, flat_av, Go.AX.flat]) (by first | exact flat_av _ | simp [flat, flats, flat_av]) ?_
  simp -implicitDefEqProofs only [F19, Tag.eav, go_sem, seval]
  by_cases k1 : t.kind = 1
  · by_cases k2 : t.name = sStyle
    · have k2' : (t.name = [115, 116, 121, 108, 101]) = True := eq_true k2
      have e : mayL t = [t, shutT sStyle] := by unfold mayL; rw [if_pos ⟨k1, k2⟩]
      unfold mayB
      rw [e] at hx hn ha ⊢
      simp -implicitDefEqProofs only [eq_true k1, k2', go_sem, seval]
      refine callI_pure (w_rText [t, shutT sStyle] (by show _ ≤ _; simp) (fun x hm => by simp only [List.mem_cons, List.not_mem_nil, or_false] at hm; rcases hm with rfl | rfl; exact ht; exact hsh)) ?_
      simp -implicitDefEqProofs only [go_sem, seval]
      refine callI_pure (w_rAll _ hx) ?_
      simp -implicitDefEqProofs only [go_sem, seval]
      refine callI_pure (w_rSame _ [t, shutT sStyle] hn ha) ?_
      simp -implicitDefEqProofs only [go_sem, seval]
    · have k2' : (t.name = [115, 116, 121, 108, 101]) = False := eq_false k2
      have e : mayL t = [t] := by unfold mayL; rw [if_neg (fun h => k2 h.2)]
      unfold mayB
      rw [e] at hx hn ha ⊢
      simp -implicitDefEqProofs only [eq_true k1, k2', go_sem, seval]
      refine callI_pure (w_rText [t] (by show _ ≤ _; simp) (fun x hm => by simp only [List.mem_cons, List.not_mem_nil, or_false] at hm; subst hm; exact ht)) ?_
      simp -implicitDefEqProofs only [go_sem, seval]
      refine callI_pure (w_rAll _ hx) ?_
      simp -implicitDefEqProofs only [go_sem, seval]
      refine callI_pure (w_rSame _ [t] hn ha) ?_
      simp -implicitDefEqProofs only [go_sem, seval]
  · have e : mayL t = [t] := by unfold mayL; rw [if_neg (fun h => k1 h.1)]
    unfold mayB
    rw [e] at hx hn ha ⊢
    simp -implicitDefEqProofs only [eq_false k1, go_sem, seval]
    refine callI_pure (w_rText [t] (by show _ ≤ _; simp) (fun x hm => by simp only [List.mem_cons, List.not_mem_nil, or_false] at hm; subst hm; exact ht)) ?_
    simp -implicitDefEqProofs only [go_sem, seval]
    refine callI_pure (w_rAll _ hx) ?_
    simp -implicitDefEqProofs only [go_sem, seval]
    refine callI_pure (w_rSame _ [t] hn ha) ?_
    simp -implicitDefEqProofs only [go_sem, seval]
def smA (a : Ty.Attr) : Bool := decide (a.name.length ≤ 200) && decide (a.value.length ≤ 200)
def smT (t : Tag) : Bool := decide (t.name.length ≤ 200) && decide (t.text.length ≤ 200) && decide (t.attrs.length ≤ 20) && t.attrs.all smA
def smL (l : List Tag) (n : Nat) : Bool := decide (l.length ≤ n) && l.all smT
theorem w_rSmall (l : List Tag) (n : Nat) (hl : l.length ≤ 4611686018427387904) (hn : n ≤ 1000000) : PureF Tryz.prog 9 [Enc.av l, .int .i64 n] (.bool (smL l n)) := by
  refine pureF_W mix c9 (by kernel_rfl) (by kernel_rfl) (by simp [flats, flat_av, Go.AX.flat]) (by first | exact flat_av _ | simp [flat, flats, flat_av]) ?_
  by_cases hln : l.length ≤ n
  · have hln' : ((l.length : Int) ≤ (n : Int)) = True := eq_true (by omega)
    simp -implicitDefEqProofs only [F9, go_sem, seval]
    refine LoopI_sl (fun k : Nat => l.length - k) (fun k => [(0, Enc.av l), (1, .int .i64 n), (5, .int .i64 k)])
      (fun k st => st = ⟨[], 0⟩ ∧ k ≤ l.length ∧ l.all smT = (l.drop k).all smT) 0 ?_ ?_
    · simp -implicitDefEqProofs only [List.drop_zero, go_sem, seval]
    rintro k ρ st ⟨rfl, n1, n2⟩
    have w1 : IntKind.i64.wrap ((k : Int) + 1) = ((k + 1 : Nat) : Int) := by rw [wrap64 (by omega) (by omega)]; omega
    have esm : smL l n = l.all smT := by unfold smL; rw [decide_eq_true hln]; rfl
    rw [esm, n2]
    rcases Nat.lt_or_ge k l.length with hk | hk
    · obtain ⟨t, hx, hd, hm⟩ := get_drop hk
      have h2 : ((k : Int) < (l.length : Int)) = True := eq_true (by omega)
      rw [hd, List.all_cons]
      by_cases e1 : t.name.length ≤ 200
      · have e1' : ((t.name.length : Int) > 200) = False := eq_false (by omega)
        by_cases e2 : t.text.length ≤ 200
        · have e2' : ((t.text.length : Int) > 200) = False := eq_false (by omega)
          by_cases e3 : t.attrs.length ≤ 20
          · have e3' : ((t.attrs.length : Int) > 20) = False := eq_false (by omega)
            simp -implicitDefEqProofs only [h2, hln', hx, Tag.ecells, Tag.elem, e1', e2', e3', go_sem, seval]
            have et : smT t = t.attrs.all smA := by simp [smT, e1, e2, e3]
            rw [et]
            refine LoopI_sl (fun j : Nat => t.attrs.length - j) (fun j => [(0, Enc.av l), (1, .int .i64 n), (5, .int .i64 k), (6, .int .i64 j)])
              (fun j st => st = ⟨[], 0⟩ ∧ j ≤ t.attrs.length ∧ t.attrs.all smA = (t.attrs.drop j).all smA) 0 ?_ ?_
            · simp -implicitDefEqProofs only [List.drop_zero, go_sem, seval]
            rintro j ρ st ⟨rfl, m1, m2⟩
            have v1 : IntKind.i64.wrap ((j : Int) + 1) = ((j + 1 : Nat) : Int) := by rw [wrap64 (by omega) (by omega)]; omega
            rw [m2]
            rcases Nat.lt_or_ge j t.attrs.length with hj | hj
            · obtain ⟨a, hax, had, _⟩ := get_drop hj
              have h3 : ((j : Int) < (t.attrs.length : Int)) = True := eq_true (by omega)
              rw [had, List.all_cons]
              by_cases f1 : a.name.length ≤ 200
              · have f1' : ((a.name.length : Int) > 200) = False := eq_false (by omega)
                by_cases f2 : a.value.length ≤ 200
                · have f2' : ((a.value.length : Int) > 200) = False := eq_false (by omega)
                  simp -implicitDefEqProofs only [h3, hx, hax, Tag.ecells, Tag.elem, Attr.ecells, Attr.elem, f1', f2', v1, go_sem, seval]
                  exact ⟨j + 1, by omega, rfl, by omega, by simp [smA, f1, f2]⟩
                · have f2' : ((a.value.length : Int) > 200) = True := eq_true (by omega)
                  simp -implicitDefEqProofs only [h3, hx, hax, Tag.ecells, Tag.elem, Attr.ecells, Attr.elem, f1', f2', v1, go_sem, seval]
                  simp [smA, f1, f2]
              · have f1' : ((a.name.length : Int) > 200) = True := eq_true (by omega)
                simp -implicitDefEqProofs only [h3, hx, hax, Tag.ecells, Tag.elem, Attr.ecells, Attr.elem, f1', v1, go_sem, seval]
                simp [smA, f1]
            · have h3 : ((j : Int) < (t.attrs.length : Int)) = False := eq_false (by omega)
              rw [List.drop_of_length_le hj] at m2 ⊢
              simp -implicitDefEqProofs only [h3, hx, Tag.ecells, Tag.elem, w1, go_sem, seval]
              exact ⟨k + 1, by omega, rfl, by omega, rfl⟩
          · have e3' : ((t.attrs.length : Int) > 20) = True := eq_true (by omega)
            simp -implicitDefEqProofs only [h2, hln', hx, Tag.ecells, Tag.elem, e1', e2', e3', go_sem, seval]
            simp [smT, e3]
        · have e2' : ((t.text.length : Int) > 200) = True := eq_true (by omega)
          simp -implicitDefEqProofs only [h2, hln', hx, Tag.ecells, Tag.elem, e1', e2', go_sem, seval]
          simp [smT, e2]
      · have e1' : ((t.name.length : Int) > 200) = True := eq_true (by omega)
        simp -implicitDefEqProofs only [h2, hln', hx, Tag.ecells, Tag.elem, e1', go_sem, seval]
        simp [smT, e1]
    · have h2 : ((k : Int) < (l.length : Int)) = False := eq_false (by omega)
      simp -implicitDefEqProofs only [h2, hln', go_sem, seval]
      rw [List.drop_of_length_le hk]; rfl
  · have hln' : ((l.length : Int) ≤ (n : Int)) = False := eq_false (by omega)
    have esm : smL l n = false := by unfold smL; rw [decide_eq_false hln]; rfl
    have h0 : ((0 : Int) < (l.length : Int)) = True := eq_true (by omega)
    rw [esm]
    simp -implicitDefEqProofs only [F9, go_sem, seval]
    rw [LoopI_def]
    refine ⟨1, ?_⟩
    simp -implicitDefEqProofs only [h0, hln', go_sem, seval]
    simp
end W09
