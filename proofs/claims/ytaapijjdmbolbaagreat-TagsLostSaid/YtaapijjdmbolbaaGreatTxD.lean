/- The scanner: a tag that opens. -/
import Derived.Test.YtaapijjdmbolbaaGreatTxC
import Derived.Test.YtaapijjdmbolbaaGreatTxB
set_option linter.unusedSimpArgs false
set_option linter.unusedVariables false
namespace W09
open Go Go.AX Go.AX.Ty Go.Proofs
theorem scn_new {b m : Nat} {u : Str} {X x : AX.Obj} {H : List (Nat × AX.Obj)} (T : Tag) (hb : b < m) (hx : AX.look b H = some x) :
    Scn b u [T] ⟨(m + 1, .cells 9 (cellsL [T]) false) :: (m, X) :: putAt b (.cells 1 [.str u, .sl (m + 1) 9 0 1 4] false) H, m + 1 + 1⟩ := by
  refine ⟨by show b < m + 1 + 1; omega, .sl (m + 1) 9 0 1 4, ?_, .inr ⟨m + 1, 9, rfl, by omega, Nat.lt_succ_self _, ?_⟩⟩
  · show AX.look b (_ :: _) = _
    simp only [AX.look]
    rw [if_neg (by omega), if_neg (by omega)]
    exact look_put_eq hx
  · show AX.look (m + 1) (_ :: _) = _
    simp only [AX.look, if_true]
theorem scn_add {b m d e : Nat} {u : Str} {X x y : AX.Obj} {l : List Tag} {H : List (Nat × AX.Obj)} (T : Tag) (hb : b < m) (hd : d < m) (hdb : d ≠ b) (hx : AX.look b H = some x) (hy : AX.look d H = some y) :
    Scn b u (l ++ [T]) ⟨(m, X) :: putAt b (.cells 1 [.str u, .sl d e 0 (l.length + 1) 4] false) (putAt d (.cells e (List.take (l.length * 4) (cellsL l) ++ cellsL [T]) false) H), m + 1⟩ := by
  refine ⟨by show b < m + 1; omega, .sl d e 0 (l.length + 1) 4, ?_, .inr ⟨d, e, by rw [List.length_append]; rfl, hdb, by show d < m + 1; omega, ?_⟩⟩
  · show AX.look b (_ :: _) = _
    simp only [AX.look]
    rw [if_neg (by omega)]
    exact look_put_eq (x := x) (by rw [look_put_ne hdb]; exact hx)
  · show AX.look d (_ :: _) = _
    simp only [AX.look]
    rw [if_neg (by omega), look_put_ne (Ne.symm hdb), look_put_eq hy, cellsL_append]
    rw [List.take_of_length_le (by rw [Tag.clen]; exact Nat.le_refl _)]
def ALs (m : Nat) (al : List Ty.Attr) (A : AV) (s : St) : Prop :=
  (al = [] ∧ A = .nils) ∨ ∃ a e, A = .sl a e 0 al.length 2 ∧ m < a ∧ a < s.next ∧ s.get a = some (.cells e (cellsL al) false)
theorem ALs.same {m : Nat} {al : List Ty.Attr} {A : AV} {s s' : St} (h : ALs m al A s) (hn : s.next ≤ s'.next) (hg : ∀ id, m < id → id < s.next → s'.get id = s.get id) : ALs m al A s' := by
  rcases h with h | ⟨a, e, h1, h2, h3, h4⟩
  · exact .inl h
  · exact .inr ⟨a, e, h1, h2, by omega, by rw [hg a h2 h3]; exact h4⟩
theorem nameLen_le (t : Str) : nameLen t ≤ t.length := by
  cases t with
  | nil => exact Nat.le_refl _
  | cons c r =>
    simp only [nameLen]
    split
    · have := tw_le (p := inNameB) r; simp; exact this
    · simp
theorem w_open {s : St} {b : Nat} {t : Str} {l : List Tag} (hS : Scn b t l s) (hl : l.length ≤ 1000000) (ht : t.length ≤ 1000000) :
    ACalls Tryz.prog 46 [.ptr b 1 0] s fun r s' => r = .tup [] ∧ Scn b (openB t).2 (l ++ [(openB t).1]) s' := by
  obtain ⟨h, m⟩ := s
  obtain ⟨hb, V, g, hT⟩ := hS
  refine acalls_W mix (C0_ok _) c46 (by kernel_rfl) (Nat.le_of_ble_eq_true (by kernel_rfl)) ?_
  have g' : AX.look b h = some (.cells 1 [.str t, V] false) := g
  have hb' : b < m := hb
  have ht1 : (t.drop 1).length ≤ 1000000 := by simp; omega
  simp -implicitDefEqProofs only [F46, go_sem, seval]
  refine callI_gen ((w_take g 1 (by omega) ht).mono fun x s1 ⟨e1, e2⟩ => ?_)
  subst e1
  obtain ⟨p1, p2, p3⟩ := put_facts g e2
  clear e2
  obtain ⟨h1, m1⟩ := s1
  simp only at p2; subst p2
  have p1' : AX.look b h1 = _ := p1
  simp -implicitDefEqProofs only [p1', go_sem, seval]
  refine callI_pure (w_name (t.drop 1) 0 ht1 (by omega)) ?_
  simp -implicitDefEqProofs only [List.drop_zero, go_sem, seval]
  have hnl : nameLen (t.drop 1) ≤ 1000000 := Nat.le_trans (nameLen_le _) ht1
  refine callI_gen ((w_take p1 (nameLen (t.drop 1)) hnl ht1).mono fun x s2 ⟨e3, e4⟩ => ?_)
  subst e3
  obtain ⟨q1, q2, q3⟩ := put_facts p1 e4
  clear e4
  obtain ⟨h2, m2⟩ := s2
  simp only at q2; subst q2
  have q1' : AX.look b h2 = _ := q1
  have qo : ∀ id, id ≠ b → AX.look id h2 = AX.look id h := fun id hid => (q3 id hid).trans (p3 id hid)
  clear q3 p3
  simp -implicitDefEqProofs only [go_sem, seval]
  refine callI_pure (w_small _ (by simp; omega)) ?_
  have hop : openB t = (openT (smallB ((t.drop 1).take (nameLen (t.drop 1)))) (attrsB [] ((t.drop 1).drop (nameLen (t.drop 1)))).1, (attrsB [] ((t.drop 1).drop (nameLen (t.drop 1)))).2) := rfl
  have hr0 : ((t.drop 1).drop (nameLen (t.drop 1))).length ≤ 1000000 := by simp; omega
  generalize smallB ((t.drop 1).take (nameLen (t.drop 1))) = nm at *
  generalize (t.drop 1).drop (nameLen (t.drop 1)) = r0 at *
  have q0 : (m2 = b) = False := eq_false (by omega)
  rw [hop]
  clear hop
  simp -implicitDefEqProofs only [go_sem, seval]
  refine LoopI_sl (fun x : Str × List Ty.Attr => x.1.length) (fun x => [(0, .ptr b 1 0), (2, .ptr m2 1 0)])
    (fun x st => st.get b = some (.cells 1 [.str x.1, V] false) ∧ (∀ id, id < m2 → id ≠ b → st.get id = AX.look id h) ∧ m2 < st.next ∧ (∃ A, st.get m2 = some (.cells 1 [.int .i64 1, .str nm, A, .str []] false) ∧ ALs m2 x.2 A st) ∧ x.1.length ≤ 1000000 ∧ x.2.length ≤ 16 ∧ attrsB [] r0 = attrsB x.2 x.1) (r0, []) ?_ ?_
  · simp -implicitDefEqProofs only [go_sem, seval]
    refine ⟨by rw [if_neg (by omega)]; exact q1', fun id j1 j2 => by rw [if_neg (by omega)]; exact qo id j2, ⟨_, rfl, .inl ⟨rfl, rfl⟩⟩, hr0⟩
  rintro ⟨u, al⟩ ρ ⟨h3, m3⟩ ⟨i1, i2, i3, ⟨A, i4, i5⟩, i6, i7, i8⟩
  have i1' : AX.look b h3 = _ := i1
  have i4' : AX.look m2 h3 = _ := i4
  simp only at i6 i7
  rw [i8]
  have i3' : m2 < m3 := i3
  have b3 : (b < m3) = True := eq_true (by omega)
  have b4 : (m2 < m3) = True := eq_true i3'
  have hlc := Tag.clen l
  have hle2 : ((l.length + 1) * 64 ≤ 140737488355328) = True := eq_true (by omega)
  have q2 : (m3 = b) = False := eq_false (by omega)
  have q3 : (m3 + 1 = b) = False := eq_false (by omega)
  cases u with
  | nil =>
    rw [attrsB_nil]
    rcases i5 with ⟨rfl, rfl⟩ | ⟨a, e, rfl, a1, a2, a3⟩
    · have hz : (0 : Nat) = 0 := rfl
      rcases hT with ⟨rfl, rfl⟩ | ⟨d, ed, rfl, d1, d2, d3⟩
      · simp -implicitDefEqProofs only [i1', i4', b3, b4, q2, q3, go_sem, seval]
        refine andI_intro (by (first | omega | (simp [indepB, indep1, apart1, Nat.testBit_eq_decide_div_mod_eq]; done) | (simp [indepB, indep1, apart1, Nat.testBit_eq_decide_div_mod_eq]; omega) | kernel_rfl)) ?_
        simp -implicitDefEqProofs only [i1', i4', b3, b4, q2, q3, go_sem, seval]
        exact scn_new (openT nm []) (by omega) (x := .cells 1 [.str [], .nils] false) (by exact i1')
      · have d2' : d < m2 := d2
        have d3' : AX.look d h3 = _ := (i2 d d2' d1).trans d3
        have md : (m3 = d) = False := eq_false (by omega)
        have db : (d = b) = False := eq_false d1
        have dl : (d < m3 + 1) = True := eq_true (by omega)
        simp -implicitDefEqProofs only [i1', i4', b3, b4, q2, q3, d3', md, db, dl, hlc, hle2, Nat.le_refl, go_sem, seval]
        refine andI_intro (by (first | omega | (simp [indepB, indep1, apart1, Nat.testBit_eq_decide_div_mod_eq]; done) | (simp [indepB, indep1, apart1, Nat.testBit_eq_decide_div_mod_eq]; omega) | kernel_rfl)) ?_
        simp -implicitDefEqProofs only [i1', i4', b3, b4, q2, q3, d3', md, db, dl, hlc, hle2, Nat.le_refl, go_sem, seval]
        exact scn_add (openT nm []) (by omega) (by omega) d1 (by exact i1') d3'
    · have a3' : AX.look a h3 = _ := a3
      have hal := Attr.clen al
      have ab : (a = b) = False := eq_false (by omega)
      have am : (a = m2) = False := eq_false (by omega)
      have a2' : a < m3 := a2
      have ma : (m3 = a) = False := eq_false (by omega)
      have ha1 : (al.length * 2 ≤ (cellsL al).length) = True := eq_true (by rw [hal]; exact Nat.le_refl _)
      have al3 : (a < m3) = True := eq_true a2'
      have al4 : (a < m3 + 1) = True := eq_true (by omega)
      have ha2 : List.take (al.length * 2) (cellsL al) = cellsL al := List.take_of_length_le (by rw [hal]; exact Nat.le_refl _)
      rcases hT with ⟨rfl, rfl⟩ | ⟨d, ed, rfl, d1, d2, d3⟩
      · simp -implicitDefEqProofs only [i1', i4', b3, b4, q2, q3, a3', ab, am, ma, ha1, ha2, al3, al4, go_sem, seval]
        refine andI_intro (by (first | omega | (simp [indepB, indep1, apart1, Nat.testBit_eq_decide_div_mod_eq]; done) | (simp [indepB, indep1, apart1, Nat.testBit_eq_decide_div_mod_eq]; omega) | kernel_rfl)) ?_
        simp -implicitDefEqProofs only [i1', i4', b3, b4, q2, q3, a3', ab, am, ma, ha1, ha2, al3, al4, go_sem, seval]
        exact scn_new (openT nm al) (by omega) (x := .cells 1 [.str [], .nils] false) (by rw [look_put_ne (by omega)]; exact i1')
      · have d2' : d < m2 := d2
        have d3' : AX.look d h3 = _ := (i2 d d2' d1).trans d3
        have md : (m3 = d) = False := eq_false (by omega)
        have db : (d = b) = False := eq_false d1
        have dl : (d < m3 + 1) = True := eq_true (by omega)
        have ad : (a = d) = False := eq_false (by omega)
        simp -implicitDefEqProofs only [i1', i4', b3, b4, q2, q3, a3', ab, am, ma, ha1, ha2, al3, al4, d3', md, db, dl, hlc, hle2, Nat.le_refl, ad, go_sem, seval]
        refine andI_intro (by (first | omega | (simp [indepB, indep1, apart1, Nat.testBit_eq_decide_div_mod_eq]; done) | (simp [indepB, indep1, apart1, Nat.testBit_eq_decide_div_mod_eq]; omega) | kernel_rfl)) ?_
        simp -implicitDefEqProofs only [i1', i4', b3, b4, q2, q3, a3', ab, am, ma, ha1, ha2, al3, al4, d3', md, db, dl, hlc, hle2, Nat.le_refl, ad, go_sem, seval]
        exact scn_add (openT nm al) (by omega) (by omega) d1 (by rw [look_put_ne (by omega)]; exact i1') (by rw [look_put_ne (by omega)]; exact d3')
  | cons c u =>
    have hgt : (((u.length + 1 : Nat) : Int) > 0) = True := eq_true (by omega)
    have hul : u.length + 1 ≤ 1000000 := i6
    rw [attrsB_cons]
    simp -implicitDefEqProofs only [i1', i4', b3, b4, hgt, go_sem, seval]
    by_cases h62 : c = 62
    · subst h62
      rw [if_pos rfl]
      simp -implicitDefEqProofs only [go_sem, seval]
      refine callI_gen ((w_take i1 1 (by omega) (by simp; omega)).mono fun x s4 ⟨e5, e6⟩ => ?_)
      subst e5
      obtain ⟨r1, r2, r3⟩ := put_facts i1 e6
      clear e6
      obtain ⟨h4, m4⟩ := s4
      simp only at r2; have r2 := r2.symm; subst r2
      have r1' : AX.look b h4 = some (.cells 1 [.str u, V] false) := r1
      have i4'' : AX.look m2 h4 = _ := (r3 m2 (by omega)).trans i4'
      have i2' : ∀ id, id < m2 → id ≠ b → AX.look id h4 = AX.look id h := fun id j1 j2 => (r3 id j2).trans (i2 id j1 j2)
      clear i1 i1' i4 i4' i2
      rcases i5 with ⟨rfl, rfl⟩ | ⟨a, e, rfl, a1, a2, a3⟩
      · have hz : (0 : Nat) = 0 := rfl
        rcases hT with ⟨rfl, rfl⟩ | ⟨d, ed, rfl, d1, d2, d3⟩
        · simp -implicitDefEqProofs only [r1', i4'', b3, b4, q2, q3, go_sem, seval]
          refine andI_intro (by (first | omega | (simp [indepB, indep1, apart1, Nat.testBit_eq_decide_div_mod_eq]; done) | (simp [indepB, indep1, apart1, Nat.testBit_eq_decide_div_mod_eq]; omega) | kernel_rfl)) ?_
          simp -implicitDefEqProofs only [r1', i4'', b3, b4, q2, q3, go_sem, seval]
          exact scn_new (openT nm []) (by omega) (x := .cells 1 [.str u, .nils] false) (by exact r1')
        · have d2' : d < m2 := d2
          have d3' : AX.look d h4 = _ := (i2' d d2' d1).trans d3
          have md : (m3 = d) = False := eq_false (by omega)
          have db : (d = b) = False := eq_false d1
          have dl : (d < m3 + 1) = True := eq_true (by omega)
          simp -implicitDefEqProofs only [r1', i4'', b3, b4, q2, q3, d3', md, db, dl, hlc, hle2, Nat.le_refl, go_sem, seval]
          refine andI_intro (by (first | omega | (simp [indepB, indep1, apart1, Nat.testBit_eq_decide_div_mod_eq]; done) | (simp [indepB, indep1, apart1, Nat.testBit_eq_decide_div_mod_eq]; omega) | kernel_rfl)) ?_
          simp -implicitDefEqProofs only [r1', i4'', b3, b4, q2, q3, d3', md, db, dl, hlc, hle2, Nat.le_refl, go_sem, seval]
          exact scn_add (openT nm []) (by omega) (by omega) d1 (by exact r1') d3'
      · have a3' : AX.look a h4 = _ := (r3 a (by omega)).trans a3
        have hal := Attr.clen al
        have ab : (a = b) = False := eq_false (by omega)
        have am : (a = m2) = False := eq_false (by omega)
        have a2' : a < m3 := a2
        have ma : (m3 = a) = False := eq_false (by omega)
        have ha1 : (al.length * 2 ≤ (cellsL al).length) = True := eq_true (by rw [hal]; exact Nat.le_refl _)
        have al3 : (a < m3) = True := eq_true a2'
        have al4 : (a < m3 + 1) = True := eq_true (by omega)
        have ha2 : List.take (al.length * 2) (cellsL al) = cellsL al := List.take_of_length_le (by rw [hal]; exact Nat.le_refl _)
        rcases hT with ⟨rfl, rfl⟩ | ⟨d, ed, rfl, d1, d2, d3⟩
        · simp -implicitDefEqProofs only [r1', i4'', b3, b4, q2, q3, a3', ab, am, ma, ha1, ha2, al3, al4, go_sem, seval]
          refine andI_intro (by (first | omega | (simp [indepB, indep1, apart1, Nat.testBit_eq_decide_div_mod_eq]; done) | (simp [indepB, indep1, apart1, Nat.testBit_eq_decide_div_mod_eq]; omega) | kernel_rfl)) ?_
          simp -implicitDefEqProofs only [r1', i4'', b3, b4, q2, q3, a3', ab, am, ma, ha1, ha2, al3, al4, go_sem, seval]
          exact scn_new (openT nm al) (by omega) (x := .cells 1 [.str u, .nils] false) (by rw [look_put_ne (by omega)]; exact r1')
        · have d2' : d < m2 := d2
          have d3' : AX.look d h4 = _ := (i2' d d2' d1).trans d3
          have md : (m3 = d) = False := eq_false (by omega)
          have db : (d = b) = False := eq_false d1
          have dl : (d < m3 + 1) = True := eq_true (by omega)
          have ad : (a = d) = False := eq_false (by omega)
          simp -implicitDefEqProofs only [r1', i4'', b3, b4, q2, q3, a3', ab, am, ma, ha1, ha2, al3, al4, d3', md, db, dl, hlc, hle2, Nat.le_refl, ad, go_sem, seval]
          refine andI_intro (by (first | omega | (simp [indepB, indep1, apart1, Nat.testBit_eq_decide_div_mod_eq]; done) | (simp [indepB, indep1, apart1, Nat.testBit_eq_decide_div_mod_eq]; omega) | kernel_rfl)) ?_
          simp -implicitDefEqProofs only [r1', i4'', b3, b4, q2, q3, a3', ab, am, ma, ha1, ha2, al3, al4, d3', md, db, dl, hlc, hle2, Nat.le_refl, ad, go_sem, seval]
          exact scn_add (openT nm al) (by omega) (by omega) d1 (by rw [look_put_ne (by omega)]; exact r1') (by rw [look_put_ne (by omega)]; exact d3')
    · rw [if_neg h62]
      have e62 : ((c.toNat : Int) = 62) = False := byte_ne (n := 62) (by omega) h62
      simp -implicitDefEqProofs only [e62, go_sem, seval]
      refine callI_pure (w_inAttr c) ?_
      have i8' : attrsB [] r0 = attrsB al (c :: u) := i8
      rw [attrsB_cons, if_neg h62] at i8'
      cases hin : inAttrB c with
      | false =>
        rw [if_pos hin] at i8'
        simp -implicitDefEqProofs only [go_sem, seval]
        refine callI_gen ((w_take i1 1 (by omega) (by simp; omega)).mono fun x s4 ⟨e5, e6⟩ => ?_)
        subst e5
        obtain ⟨r1, r2, r3⟩ := put_facts i1 e6
        clear e6
        simp -implicitDefEqProofs only [go_sem, seval]
        exact ⟨(u, al), Nat.lt_succ_self _, r1, fun id j1 j2 => (r3 id j2).trans (i2 id j1 j2), by rw [r2]; exact i3, ⟨A, (r3 m2 (by omega)).trans i4, i5.same (by rw [r2]; exact Nat.le_refl _) fun id j1 j2 => r3 id (by omega)⟩, by show u.length ≤ _; omega, i7, rfl⟩
      | true =>
        rw [if_neg (by simp [hin])] at i8'
        rw [if_neg (by simp)]
        obtain ⟨hcl, hone⟩ := hT.cl
        simp -implicitDefEqProofs only [go_sem, seval]
        refine callI_gen ((w_attr i1 (by show b < m3; omega) (cl_mono V (Nat.le_of_lt i3) hcl) hone (by simp; omega)).mono fun x s4 ⟨e5, e6⟩ => ?_)
        subst e5
        obtain ⟨r1, r2, r3⟩ := put_facts i1 e6
        clear e6
        have hal := attr_len (r := u) hin
        generalize attrB (c :: u) = W at *
        obtain ⟨⟨an, av⟩, w⟩ := W
        simp only at i8' r1 hal
        obtain ⟨h4, m4⟩ := s4
        simp only at r2; have r2 := r2.symm; subst r2
        have r1' : AX.look b h4 = some (.cells 1 [.str w, V] false) := r1
        have i4'' : AX.look m2 h4 = _ := (r3 m2 (by omega)).trans i4'
        have i2' : ∀ id, id < m2 → id ≠ b → AX.look id h4 = AX.look id h := fun id j1 j2 => (r3 id j2).trans (i2 id j1 j2)
        have j5 : ALs m2 al A ⟨h4, m3⟩ := i5.same (Nat.le_refl _) fun id j1 j2 => r3 id (by omega)
        clear i1 i1' i4 i4' i2 i5
        have mm : (m3 = m2) = False := eq_false (by omega)
        have mm1 : (m3 + 1 = m2) = False := eq_false (by omega)
        have mm2 : (m3 + 1 + 1 = m2) = False := eq_false (by omega)
        have G3 : St.get ⟨(m3, .cells 1 [.str an, .str av] false) :: h4, m3 + 1⟩ m3 = some (.cells 1 [.str an, .str av] false) := by show AX.look m3 (_ :: _) = _; simp only [AX.look, if_true]
        rcases j5 with ⟨rfl, rfl⟩ | ⟨a, e, rfl, a1, a2, a3⟩
        · simp -implicitDefEqProofs only [Attr.eav, i4'', mm, go_sem, seval]
          refine callI_st w_hasName0 ?_
          simp -implicitDefEqProofs only [i4'', mm, mm1, mm2, if_true, go_sem, seval]
          refine ⟨(w, [⟨an, av⟩]), by show w.length < _; simp only [List.length_cons] at hal; exact hal, ?_, fun id j1 j2 => ?_, by omega, ⟨_, rfl, .inr ⟨m3 + 1 + 1, 5, rfl, by omega, Nat.lt_succ_self _, ?_⟩⟩, by show w.length ≤ _; simp only [List.length_cons] at hal; omega, by show 1 ≤ 16; omega, rfl⟩
          · rw [if_neg (by omega), if_neg (by omega), if_neg (by omega), if_neg (by omega)]; exact r1'
          · rw [if_neg (by omega), if_neg (by omega), if_neg (by omega), if_neg (by omega)]; exact i2' id j1 j2
          · show AX.look _ (_ :: _) = _
            simp only [AX.look, if_true]; rfl
        · have a3' : AX.look a h4 = _ := a3
          have a2' : a < m3 := a2
          have ma : (m3 = a) = False := eq_false (by omega)
          have ma1 : (m3 + 1 = a) = False := eq_false (by omega)
          have am : (a = m2) = False := eq_false (by omega)
          have hal2 := Attr.clen al
          have i7' : al.length ≤ 16 := i7
          have ha1 : ((al.length + 1) * 32 ≤ 140737488355328) = True := eq_true (by omega)
          have ha0 : (al.length * 2 ≤ (cellsL al).length) = True := eq_true (by rw [hal2]; exact Nat.le_refl _)
          simp -implicitDefEqProofs only [Attr.eav, i4'', mm, a3', ma, ha0, go_sem, seval]
          refine callI_st (w_hasName (an := an) (av := av) (a := m3) (d := a) (e := e) (al := al) G3 (Nat.lt_succ_self _) (by show AX.look a (_ :: _) = _; simp only [AX.look, ma, if_false]; exact a3') (Nat.lt_succ_of_lt a2') (by omega)) ?_
          cases hany : anyA an al with
          | true =>
            simp -implicitDefEqProofs only [i4'', mm, go_sem, seval]
            refine ⟨(w, al), by show w.length < _; simp only [List.length_cons] at hal; exact hal, by rw [if_neg (by omega)]; exact r1', fun id j1 j2 => by rw [if_neg (by omega)]; exact i2' id j1 j2, by omega, ⟨_, rfl, .inr ⟨a, e, rfl, a1, Nat.lt_succ_of_lt a2', ?_⟩⟩, by show w.length ≤ _; simp only [List.length_cons] at hal; omega, i7, ?_⟩
            · show AX.look a (_ :: _) = _
              rw [AX.look, if_neg (by omega)]; exact a3'
            · unfold addA; rw [if_neg (by intro hh; have := hany.symm.trans hh.1; simp at this)]
          | false =>
            rcases Nat.lt_or_ge al.length 16 with h16 | h16
            · have h16' : ((al.length : Int) < 16) = True := eq_true (by omega)
              simp -implicitDefEqProofs only [i4'', mm, mm1, h16', a3', ma, ma1, am, hal2, ha1, Nat.le_refl, go_sem, seval]
              refine ⟨(w, al ++ [⟨an, av⟩]), by show w.length < _; simp only [List.length_cons] at hal; exact hal, ?_, fun id j1 j2 => ?_, by omega, ⟨_, rfl, .inr ⟨a, nextV false e (al.length * 2 + 2), by rw [List.length_append]; rfl, a1, by show a < m3 + 1 + 1; omega, ?_⟩⟩, by show w.length ≤ _; simp only [List.length_cons] at hal; omega, by rw [List.length_append]; show al.length + 1 ≤ 16; omega, ?_⟩
              · rw [if_neg (by omega), if_neg (by omega), if_neg (by omega), if_neg (by omega)]; exact r1'
              · rw [if_neg (by omega), if_neg (by omega), if_neg (by omega), if_neg (by omega)]; exact i2' id j1 j2
              · show AX.look a (_ :: _) = _
                simp only [AX.look]
                rw [if_neg (by omega), if_neg (by omega), look_put_ne (by omega), look_put_eq a3', cellsL_append, List.take_of_length_le (by rw [hal2]; exact Nat.le_refl _)]; rfl
              · unfold addA; rw [if_pos ⟨hany, h16⟩]
            · have h16' : ((al.length : Int) < 16) = False := eq_false (by omega)
              simp -implicitDefEqProofs only [i4'', mm, h16', go_sem, seval]
              refine ⟨(w, al), by show w.length < _; simp only [List.length_cons] at hal; exact hal, by rw [if_neg (by omega)]; exact r1', fun id j1 j2 => by rw [if_neg (by omega)]; exact i2' id j1 j2, by omega, ⟨_, rfl, .inr ⟨a, e, rfl, a1, Nat.lt_succ_of_lt a2', ?_⟩⟩, by show w.length ≤ _; simp only [List.length_cons] at hal; omega, i7, ?_⟩
              · show AX.look a (_ :: _) = _
                rw [AX.look, if_neg (by omega)]; exact a3'
              · unfold addA; rw [if_neg (by intro hh; have := hh.2; omega)]
end W09
/- The scanner: what stands in front; all. -/
namespace W09
open Go Go.AX Go.AX.Ty Go.Proofs
theorem List.drop_append_of_le_length' {α : Type} {l m : List α} {n k : Nat} (h : l.length = n) : List.drop (n + k) (l ++ m) = List.drop k m := by
  subst h; rw [List.drop_append, List.drop_of_length_le (by omega), List.nil_append, Nat.add_sub_cancel_left]
theorem w_next {s : St} {b : Nat} {t : Str} {l : List Tag} (hS : Scn b t l s) (hl : l.length ≤ 900000) (ht : t.length ≤ 1000000) (hne : t ≠ []) :
    ACalls Tryz.prog 23 [.ptr b 1 0] s fun r s' => r = .tup [] ∧ Scn b (nextB t).2 (l ++ (nextB t).1) s' := by
  obtain ⟨h, m⟩ := s
  have hS0 := hS
  obtain ⟨hb, V, g, hT⟩ := hS
  refine acalls_W mix (C0_ok _) c23 (by kernel_rfl) (Nat.le_of_ble_eq_true (by kernel_rfl)) ?_
  have g' : AX.look b h = some (.cells 1 [.str t, V] false) := g
  have hb' : b < m := hb
  unfold nextB
  simp -implicitDefEqProofs only [F23, g', go_sem, seval]
  refine callI_pure (w_has t [60, 33, 45, 45]) ?_
  cases k1 : hasB t [60, 33, 45, 45] with
  | true =>
    rw [if_pos rfl]
    simp -implicitDefEqProofs only [go_sem, seval]
    refine callI_gen ((w_take g 4 (by omega) ht).mono fun x s1 ⟨e1, e2⟩ => ?_)
    subst e1
    obtain ⟨p1, p2, p3⟩ := put_facts g e2
    simp -implicitDefEqProofs only [go_sem, seval]
    refine callI_gen ((w_upTo p1 (e := [45, 45, 62]) (by simp) (by simp; omega)).mono fun x s2 ⟨e3, e4⟩ => ?_)
    subst e3
    obtain ⟨q1, q2, q3⟩ := put_facts p1 e4
    simp -implicitDefEqProofs only [List.append_nil, go_sem, seval]
    exact ⟨by omega, V, q1, hT.same (Nat.le_of_eq (q2.trans p2).symm) fun id j1 j2 => by rw [q3 id j2, p3 id j2]⟩
  | false =>
  rw [if_neg (by simp)]
  simp -implicitDefEqProofs only [g', go_sem, seval]
  refine callI_pure (w_has t [60, 33]) ?_
  cases k2 : hasB t [60, 33] with
  | true =>
    rw [if_pos rfl]
    simp -implicitDefEqProofs only [go_sem, seval]
    refine callI_gen ((w_upTo g (e := [62]) (by simp) ht).mono fun x s1 ⟨e1, e2⟩ => ?_)
    subst e1
    obtain ⟨p1, p2, p3⟩ := put_facts g e2
    simp -implicitDefEqProofs only [List.append_nil, go_sem, seval]
    exact ⟨by omega, V, p1, hT.same (Nat.le_of_eq p2.symm) fun id j1 j2 => p3 id j2⟩
  | false =>
  rw [if_neg (by simp)]
  simp -implicitDefEqProofs only [g', go_sem, seval]
  refine callI_pure (w_has t [60, 47]) ?_
  cases k3 : hasB t [60, 47] with
  | true =>
    obtain ⟨r, hr⟩ := hasB_iff.1 k3
    have k4 : hasB t [60] = true := hasB_iff.2 ⟨47 :: r, by rw [hr]; rfl⟩
    have k5 : nameLen (t.drop 1) = 0 := by rw [hr]; rfl
    simp -implicitDefEqProofs only [g', go_sem, seval]
    refine callI_pure (w_name t 2 ht (by omega)) ?_
    by_cases h3 : 0 < nameLen (t.drop 2)
    · have h3' : ((nameLen (t.drop 2) : Int) > 0) = True := eq_true (by omega)
      rw [if_pos ⟨rfl, h3⟩]
      simp -implicitDefEqProofs only [h3', go_sem, seval]
      refine callI_gen ((w_take g 2 (by omega) ht).mono fun x s1 ⟨e1, e2⟩ => ?_)
      subst e1
      obtain ⟨p1, p2, p3⟩ := put_facts g e2
      clear e2
      obtain ⟨h1, m1⟩ := s1
      simp only at p2; have p2 := p2.symm; subst p2
      have p1' : AX.look b h1 = _ := p1
      have ht2 : (t.drop 2).length ≤ 1000000 := by simp; omega
      simp -implicitDefEqProofs only [p1', go_sem, seval]
      refine callI_pure (w_name (t.drop 2) 0 ht2 (by omega)) ?_
      simp -implicitDefEqProofs only [List.drop_zero, go_sem, seval]
      have hnl : nameLen (t.drop 2) ≤ 1000000 := Nat.le_trans (nameLen_le _) ht2
      refine callI_gen ((w_take p1 (nameLen (t.drop 2)) hnl ht2).mono fun x s2 ⟨e3, e4⟩ => ?_)
      subst e3
      obtain ⟨q1, q2, q3⟩ := put_facts p1 e4
      clear e4
      simp -implicitDefEqProofs only [go_sem, seval]
      refine callI_gen ((w_upTo q1 (e := [62]) (by simp) (by simp; omega)).mono fun x s3 ⟨e5, e6⟩ => ?_)
      subst e5
      obtain ⟨r1, r2, r3⟩ := put_facts q1 e6
      clear e6
      obtain ⟨h3, m3⟩ := s3
      have r2 : m3 = m := r2.trans q2
      have r2 := r2.symm; subst r2
      have r1' : AX.look b h3 = _ := r1
      have hsm := w_small ((t.drop 2).take (nameLen (t.drop 2))) (by simp; omega)
      have ro : ∀ id, id ≠ b → AX.look id h3 = AX.look id h := fun id j => (r3 id j).trans ((q3 id j).trans (p3 id j))
      clear r3 q3 p3
      generalize smallB ((t.drop 2).take (nameLen (t.drop 2))) = nm at *
      generalize (t.drop 2).take (nameLen (t.drop 2)) = nm0 at *
      have b3 : (b < m) = True := eq_true (by omega)
      have c2 : (m = b) = False := eq_false (by omega)
      have c3 : (m + 1 = b) = False := eq_false (by omega)
      have hlc := Tag.clen l
      have hle2 : ((l.length + 1) * 64 ≤ 140737488355328) = True := eq_true (by omega)
      rcases hT with ⟨rfl, rfl⟩ | ⟨d, ed, rfl, d1, d2, d3⟩
      · simp -implicitDefEqProofs only [r1', b3, c2, c3, go_sem, seval]
        refine dcallI_pure hsm ?_
        simp -implicitDefEqProofs only [r1', b3, c2, c3, go_sem, seval]
        refine andI_intro (by (first | omega | (simp [indepB, indep1, apart1, Nat.testBit_eq_decide_div_mod_eq]; done) | (simp [indepB, indep1, apart1, Nat.testBit_eq_decide_div_mod_eq]; omega) | kernel_rfl)) ?_
        simp -implicitDefEqProofs only [go_sem, seval]
        exact scn_new (shutT nm) (by omega) (x := .cells 1 [.str (restB [62] ((t.drop 2).drop (nameLen (t.drop 2)))), .nils] false) r1'
      · have d2' : d < m := d2
        have d3' : AX.look d h3 = _ := (ro d d1).trans d3
        have md : (m = d) = False := eq_false (by omega)
        have db : (d = b) = False := eq_false d1
        have dl : (d < m + 1) = True := eq_true (by omega)
        simp -implicitDefEqProofs only [r1', b3, c2, c3, d3', md, db, dl, hlc, hle2, Nat.le_refl, go_sem, seval]
        refine dcallI_pure hsm ?_
        simp -implicitDefEqProofs only [r1', b3, c2, c3, d3', md, db, dl, hlc, hle2, Nat.le_refl, go_sem, seval]
        refine andI_intro (by (first | omega | (simp [indepB, indep1, apart1, Nat.testBit_eq_decide_div_mod_eq]; done) | (simp [indepB, indep1, apart1, Nat.testBit_eq_decide_div_mod_eq]; omega) | kernel_rfl)) ?_
        simp -implicitDefEqProofs only [go_sem, seval]
        exact scn_add (shutT nm) (by omega) (by omega) d1 r1' d3'
    · have h3' : ((nameLen (t.drop 2) : Int) > 0) = False := eq_false (by omega)
      rw [if_neg (fun hh => h3 hh.2), if_neg (by rw [k5]; simp)]
      simp -implicitDefEqProofs only [h3', g', go_sem, seval]
      refine callI_pure (w_has t [60]) ?_
      rw [k4]
      simp -implicitDefEqProofs only [g', go_sem, seval]
      refine callI_pure (w_name t 1 ht (by omega)) ?_
      rw [k5]
      simp -implicitDefEqProofs only [go_sem, seval]
      refine callI_gen ((w_plainText hS0 (by omega) ht hne).mono fun x s1 ⟨e1, e2⟩ => ?_)
      subst e1
      simp -implicitDefEqProofs only [go_sem, seval]
      exact e2
  | false =>
    rw [if_neg (by simp)]
    simp -implicitDefEqProofs only [g', go_sem, seval]
    refine callI_pure (w_has t [60]) ?_
    cases k4 : hasB t [60] with
    | false =>
      rw [if_neg (by simp)]
      simp -implicitDefEqProofs only [go_sem, seval]
      refine callI_gen ((w_plainText hS0 (by omega) ht hne).mono fun x s1 ⟨e1, e2⟩ => ?_)
      subst e1
      simp -implicitDefEqProofs only [go_sem, seval]
      exact e2
    | true =>
      simp -implicitDefEqProofs only [g', go_sem, seval]
      refine callI_pure (w_name t 1 ht (by omega)) ?_
      by_cases h3 : 0 < nameLen (t.drop 1)
      · have h3' : ((nameLen (t.drop 1) : Int) > 0) = True := eq_true (by omega)
        rw [if_pos ⟨rfl, h3⟩]
        simp -implicitDefEqProofs only [h3', go_sem, seval]
        refine callI_gen ((w_open hS0 (by omega) ht).mono fun x s1 ⟨e1, e2⟩ => ?_)
        subst e1
        have hol := open_len t
        generalize hO : openB t = O at *
        obtain ⟨tg, u⟩ := O
        have htx : tg.text = [] ∧ tg.kind = 1 := by have := congrArg (·.1) hO; simp only [openB] at this; rw [← this]; exact ⟨rfl, rfl⟩
        simp only at e2 hol ⊢
        have e2' := e2
        obtain ⟨h1, m1⟩ := s1
        obtain ⟨ob, V1, og, ⟨hn, _⟩ | ⟨d, e, rfl, d1, d2, d3⟩⟩ := e2
        · simp at hn
        have og' : AX.look b h1 = _ := og
        have d3' : AX.look d h1 = _ := d3
        have ob' : (b < m1) = True := eq_true ob
        have d2' : (d < m1) = True := eq_true d2
        have w1 : IntKind.i64.wrap (((l.length + 1 : Nat) : Int) - 1) = ((l.length : Nat) : Int) := by rw [wrap64 (by omega) (by omega)]; omega
        have hlen : (l ++ [tg]).length = l.length + 1 := by simp
        have hdr : List.drop (l.length * 4 + 1) (cellsL (l ++ [tg])) = [.str tg.name, .ps tg.attrs.length (cellsL tg.attrs), .str tg.text] := by
          rw [cellsL_append, List.drop_append_of_le_length' (Tag.clen l)]; rfl
        have hcl : (l.length * 4 + 1 ≤ (cellsL (l ++ [tg])).length) = True := eq_true (by rw [Tag.clen, hlen]; omega)
        simp -implicitDefEqProofs only [og', d3', ob', d2', hlen, w1, hdr, hcl, go_sem, seval]
        refine andI_intro (by (first | omega | (simp [indepB, indep1, apart1, Nat.testBit_eq_decide_div_mod_eq]; done) | (simp [indepB, indep1, apart1, Nat.testBit_eq_decide_div_mod_eq]; omega) | kernel_rfl)) ?_
        by_cases hst : tg.name = sStyle
        · rw [if_pos hst]
          have hst' : (tg.name = [115, 116, 121, 108, 101]) = True := eq_true hst
          simp -implicitDefEqProofs only [hst', go_sem, seval]
          refine callI_gen ((w_raw og (by omega)).mono fun x s2 ⟨e3, e4⟩ => ?_)
          subst e3; subst e4
          have hru := raw_le u
          simp -implicitDefEqProofs only [go_sem, seval]
          refine callI_gen ((w_take og (rawB u) (by omega) (by omega)).mono fun x s2 ⟨e3, e4⟩ => ?_)
          subst e3
          have hS2 := Scn.text ob og (.inr ⟨d, e, rfl, d1, d2, d3⟩) e4
          simp -implicitDefEqProofs only [go_sem, seval]
          refine callI_gen ((w_put hS2 (u.take (rawB u)) (by rw [hlen]; omega)).mono fun x s3 ⟨e5, e6⟩ => ?_)
          subst e5
          simp -implicitDefEqProofs only [go_sem, seval]
          simpa using e6
        · rw [if_neg hst]
          have hst' : (tg.name = [115, 116, 121, 108, 101]) = False := eq_false hst
          simp -implicitDefEqProofs only [hst', go_sem, seval]
          exact e2'
      · have h3' : ((nameLen (t.drop 1) : Int) > 0) = False := eq_false (by omega)
        rw [if_neg (fun hh => h3 hh.2)]
        simp -implicitDefEqProofs only [h3', go_sem, seval]
        refine callI_gen ((w_plainText hS0 (by omega) ht hne).mono fun x s1 ⟨e1, e2⟩ => ?_)
        subst e1
        simp -implicitDefEqProofs only [go_sem, seval]
        exact e2
theorem viewIs_own {s : St} {d e : Nat} {l : List Tag} (h : s.get d = some (.cells e (cellsL l) false)) : viewIs s (.sl d e 0 l.length 4) (.ps l.length (cellsL l)) := by
  have h1 : l.length * 4 ≤ (cellsL l).length := by rw [Tag.clen]; exact Nat.le_refl _
  have h2 : List.take (l.length * 4) (cellsL l) = cellsL l := List.take_of_length_le (by rw [Tag.clen]; exact Nat.le_refl _)
  simp [viewIs, view, h, h1, h2]
theorem next_n (t : Str) : (nextB t).1.length ≤ 2 := by
  have hp : ∀ x, (putB x).length ≤ 1 := fun x => by unfold putB; split <;> simp
  unfold nextB
  repeat' split
  all_goals first | (simp; done) | (have := hp (plainB (t.take (1 + untag (t.drop 1)))); simp only; omega) | (have := hp ((openB t).2.take (rawB (openB t).2)); simp; omega)
theorem w_All (s : Str) (hs : s.length ≤ 400000) : PureF Tryz.prog 12 [.str s] (Enc.av (allB s)) := by
  refine pureF_W mix c12 (by kernel_rfl) (by kernel_rfl) (by simp [flats, flat_av, Go.AX.flat]) (by first | exact flat_av _ | simp [flat, flats, flat_av]) ?_
  simp -implicitDefEqProofs only [F12, go_sem, seval]
  refine LoopI_sl (fun x : Str × List Tag => x.1.length) (fun x => [(0, .str s), (3, .ptr 0 1 0)])
    (fun x st => Scn 0 x.1 x.2 st ∧ x.2.length + 2 * x.1.length ≤ 800000 ∧ x.1.length ≤ 400000 ∧ allB s = x.2 ++ allB x.1) (s, []) ?_ ?_
  · simp -implicitDefEqProofs only [go_sem, seval]
    exact ⟨⟨Nat.lt_succ_self _, .nils, by show AX.look 0 (_ :: _) = _; simp only [AX.look, if_true], .inl ⟨rfl, rfl⟩⟩, by omega, hs⟩
  rintro ⟨t, l⟩ ρ st ⟨i1, i2, i3, i4⟩
  simp only at i1 i2 i3 i4
  have hS := i1
  obtain ⟨h, m⟩ := st
  obtain ⟨hb, V, g, hT⟩ := i1
  have g' : AX.look 0 h = _ := g
  cases t with
  | nil =>
    rcases hT with ⟨rfl, rfl⟩ | ⟨d, e, rfl, d1, d2, d3⟩
    · simp -implicitDefEqProofs only [g', allB_nil, List.append_nil, i4, go_sem, seval]
      rfl
    · have d3' : AX.look d h = _ := d3
      simp -implicitDefEqProofs only [g', d3', allB_nil, List.append_nil, i4, go_sem, seval]
      exact viewIs_own d3
  | cons c r =>
    have hgt : (((r.length + 1 : Nat) : Int) > 0) = True := eq_true (by omega)
    simp -implicitDefEqProofs only [g', hgt, go_sem, seval]
    refine callI_gen ((w_next hS (by omega) (by omega) (by simp)).mono fun x s1 ⟨e1, e2⟩ => ?_)
    subst e1
    have hnx := next_len c r
    have hnn := next_n (c :: r)
    rw [allB_cons, ← List.append_assoc] at i4
    generalize nextB (c :: r) = X at *
    obtain ⟨tl, u⟩ := X
    simp only [List.length_cons] at hnx hnn e2 i2 i3 i4
    simp -implicitDefEqProofs only [go_sem, seval]
    exact ⟨(u, l ++ tl), hnx, e2, by simp only [List.length_append]; omega, by show u.length ≤ _; omega, i4⟩
end W09
/- tags.One. -/
namespace W09
open Go Go.AX Go.AX.Ty Go.Proofs
theorem sat_wf {c : Ctx} {s : St} {w : Go.World} (hs : Sat c s w) : Wf s := fun id hid => by
  cases hg : s.get id with
  | none => rfl
  | some o =>
    obtain ⟨k, z, hb⟩ := (hs.obj id o hg).bound
    rw [hs.fresh id _ hid] at hb; simp at hb
theorem acwf {P : Program} {f : FuncId} {args : List AV} {s : St} {R : AV → St → Prop} (h : ACalls P f args s R) : ACalls P f args s fun v s' => R v s' ∧ Wf s' :=
  ⟨h.1, fun c w vs hs hv => (h.2 c w vs hs hv).mono fun e w' ⟨v, u, c', s', h1, h2, h3, h4, h5⟩ => ⟨v, u, c', s', h1, h2, h3, h4, h5, sat_wf h3⟩⟩
theorem dcallI_w {P : Program} {f : FuncId} {args xs : List AV} {D W : List Nat} {s s0 s' : St} {K : AV → St → Entry → Prop} {v : AV} (Wr : List Nat) (h : ACalls P f args s (fun v' t => v' = v ∧ t = s')) (hw : Wf s) (hn : s.next ≤ s'.next) (hw' : Wf s')
    (hW : (∀ id ∈ Wr, id < s.next) ∧ ∀ id, id < s.next → id ∉ Wr → s'.get id = s.get id) (hk : @stK s' ⟨fun s' => K v s' ⟨List.range s.next, Wr, s.next, s'.next⟩⟩) : @DCallI P f args xs D W s s0 ⟨K⟩ :=
  .inr ⟨v, s', Wr, h, hw, hn, hw', hW, hk⟩
def attrS (a : Ty.Attr) : Str := [32] ++ a.name ++ [61, 34] ++ signsB a.value ++ [34]
def attrsS (al : List Ty.Attr) : Str := (al.map attrS).flatten
def oneB (t : Tag) : Str :=
  if t.kind = 1 then [60] ++ t.name ++ attrsS t.attrs ++ [62] else if t.kind = 2 then [60, 47] ++ t.name ++ [62] else if t.kind = 3 then signsB t.text else []
def TSz (t : Tag) : Prop := t.name.length ≤ 100000 ∧ t.text.length ≤ 100000 ∧ t.attrs.length ≤ 10000 ∧ ∀ a ∈ t.attrs, a.name.length ≤ 100000 ∧ a.value.length ≤ 100000
theorem attrsS_len : ∀ al : List Ty.Attr, (∀ a ∈ al, a.name.length ≤ 100000 ∧ a.value.length ≤ 100000) → (attrsS al).length ≤ al.length * 800000
  | [], _ => by simp [attrsS]
  | a :: r, h => by
    have ih := attrsS_len r fun x hx => h x (by simp [hx])
    have h1 := h a (by simp)
    have h2 := signs_len a.value
    simp only [attrsS, List.map_cons, List.flatten_cons, List.length_append, attrS, List.length_cons, List.length_nil] at ih ⊢
    omega
theorem oneB_len {t : Tag} (h : TSz t) : (oneB t).length ≤ 9000000000 := by
  obtain ⟨h1, h2, h3, h4⟩ := h
  have h5 := attrsS_len t.attrs h4
  have h6 := signs_len t.text
  unfold oneB
  split
  · simp only [List.length_append, List.length_cons, List.length_nil]; omega
  split
  · simp only [List.length_append, List.length_cons, List.length_nil]; omega
  split
  · omega
  · simp
theorem dsigns {h : List (Nat × AX.Obj)} {n : Nat} {xs : List AV} {D W : List Nat} {s0 : St} {K : AV → St → Entry → Prop} (hw : Wf ⟨h, n⟩)
    (hk : @stK ⟨(n + 2, .cells 1 (repI (n + 1)) false) :: (n + 1, .cells 17 sgS false) :: (n, .cells 17 sgS false) :: h, n + 3⟩ ⟨fun s' => K (.ptr (n + 2) 1 0) s' ⟨List.range n, [], n, n + 3⟩⟩) :
    @DCallI Tryz.prog 35 [] xs D W ⟨h, n⟩ s0 ⟨K⟩ :=
  dcallI_w [] (w_signsR h n) hw (by show n ≤ n + 3; omega) (wf_push (wf_push (wf_push hw))) ⟨by simp, fun id hid _ => by
    have hid' : id < n := hid
    show AX.look id (_ :: _) = AX.look id _
    simp only [AX.look]
    rw [if_neg (by omega), if_neg (by omega), if_neg (by omega)]⟩ hk
theorem drepl {h : List (Nat × AX.Obj)} {n : Nat} {x : Str} {xs : List AV} {D W : List Nat} {s0 : St} {K : AV → St → Entry → Prop} (hw : Wf ⟨h, n⟩) (hx : x.length ≤ 1000000)
    (hk : ∀ h', (∀ id, id < n → AX.look id h' = AX.look id h) → Wf ⟨h', n + 3⟩ → @stK ⟨h', n + 3⟩ ⟨fun s' => K (.str (signsB x)) s' ⟨List.range (n + 3), [n + 1, n + 2], n + 3, n + 3⟩⟩) :
    @DCallI Tryz.prog 36 [.ptr (n + 2) 1 0, .str x] xs D W ⟨(n + 2, .cells 1 (repI (n + 1)) false) :: (n + 1, .cells 17 sgS false) :: (n, .cells 17 sgS false) :: h, n + 3⟩ s0 ⟨K⟩ := by
  have hw3 : Wf ⟨(n + 2, .cells 1 (repI (n + 1)) false) :: (n + 1, .cells 17 sgS false) :: (n, .cells 17 sgS false) :: h, n + 3⟩ := wf_push (wf_push (wf_push hw))
  have g1 : St.get ⟨(n + 2, .cells 1 (repI (n + 1)) false) :: (n + 1, .cells 17 sgS false) :: (n, .cells 17 sgS false) :: h, n + 3⟩ (n + 1) = some (.cells 17 sgS false) := by
    show AX.look _ (_ :: _) = _; simp [AX.look]
  have g2 : St.get ⟨(n + 2, .cells 1 (repI (n + 1)) false) :: (n + 1, .cells 17 sgS false) :: (n, .cells 17 sgS false) :: h, n + 3⟩ (n + 1 + 1) = some (.cells 1 (repI (n + 1)) false) := by
    show AX.look _ (_ :: _) = _; simp [AX.look]
  have hR := w_ReplS (m := n + 1) x hx (Nat.le_refl (n + 3)) g1 g2
  generalize hs : St.mk ((n + 2, AX.Obj.cells 1 (repI (n + 1)) false) :: (n + 1, .cells 17 sgS false) :: (n, .cells 17 sgS false) :: h) (n + 3) = s at *
  have hnx : s.next = n + 3 := by rw [← hs]
  have hpg : ∀ id, (pastR s (n + 1) (.ifc 126 SG)).get id = if id = n + 1 then none else if id = n + 2 then some (.cells 1 (repF (.ifc 126 SG)) false) else s.get id := fun id => by
    unfold pastR
    rw [St.get_hide, St.get_put g2]
    by_cases h1 : id = n + 1
    · simp [h1]
    · by_cases h2 : id = n + 2
      · subst h2; simp
      · rw [if_neg (by simp [h1]), if_neg (by omega), if_neg h1, if_neg h2]
  have hpn : (pastR s (n + 1) (.ifc 126 SG)).next = n + 3 := by rw [← hnx]; rfl
  generalize pastR s (n + 1) (.ifc 126 SG) = s2 at *
  obtain ⟨h2, n2⟩ := s2
  simp only at hpn; subst hpn
  have hw2 : Wf ⟨h2, n + 3⟩ := fun id hid => by
    have hid' : n + 3 ≤ id := hid
    rw [hpg id, if_neg (by omega), if_neg (by omega)]
    exact hw3 id (by omega)
  have hlo : ∀ id, id < n → AX.look id h2 = AX.look id h := fun id hid => by
    have := hpg id
    rw [if_neg (by omega), if_neg (by omega), ← hs] at this
    refine this.trans ?_
    show AX.look id (_ :: _) = _
    simp only [AX.look]; rw [if_neg (by omega), if_neg (by omega), if_neg (by omega)]
  have hk2 := hk h2 hlo hw2
  rw [← hnx] at hk2 hw2 hR
  refine dcallI_w [n + 1, n + 2] hR hw3 (Nat.le_refl _) hw2 ⟨fun id hid => by simp at hid; omega, fun id hid hn => ?_⟩ hk2
  simp only [List.mem_cons, List.not_mem_nil, or_false, not_or] at hn
  have := hpg id
  rw [if_neg hn.1, if_neg hn.2] at this
  exact this
theorem w_String {s : St} {b : Nat} {l : Str} {D : List Nat} (h : Bld b l D s) (hl : l.length ≤ 9223372036854775807) :
    ACalls Tryz.prog 34 [.ptr b 0 0] s fun v s' => v = .str l := by
  obtain ⟨x, hx, hb, ⟨rfl, rfl, hg⟩ | ⟨d, E, rfl, hdb, hdn, hl0, hg, hE, hd⟩⟩ := h
  · exact (w_String_nil hg).mono fun v s' h => h.1
  · exact (w_String_some hg hd (by omega) (by omega) hl0 hl).mono fun v s' h => h.1
theorem words_lit {b n e k n' : Nat} {l : Str} {D : List Nat} {H : List (Nat × AX.Obj)} (ws : List Str) (hk : k = ws.length) (hn : n ≠ b) (hb : Bld b l D ⟨(n, .cells e (cellsL ws) false) :: H, n'⟩) (hD : n ∉ D) (hl : l.length + ws.flatten.length ≤ 140737488355328) (hw : ws.length ≤ 1000000) :
    ACalls Tryz.prog 33 [.ptr b 0 0, .sl n e 0 k 1] ⟨(n, .cells e (cellsL ws) false) :: H, n'⟩ fun v s' => (v = .tup [] ∧ BldR b (l ++ ws.flatten) D ⟨(n, .cells e (cellsL ws) true) :: H, n'⟩ s') ∧ Wf s' := by
  subst hk
  have hc : (cellsL ws).length = ws.length * 1 := cellsL_len ws
  have hv : views (St.get ⟨(n, .cells e (cellsL ws) false) :: H, n'⟩) [.ptr b 0 0, .sl n e 0 ws.length 1] = some ([.ptr b 0 0, .ps ws.length (cellsL ws)], [(n, .cells e (cellsL ws) true)]) := by
    have ht : List.take ws.length (cellsL ws) = cellsL ws := List.take_of_length_le (by rw [hc]; omega)
    have hle : ws.length ≤ (cellsL ws).length := by omega
    simp [views, view, St.get, AX.look, ht, hle]
  refine ACalls.views hv ?_
  have e1 : St.puts ⟨(n, .cells e (cellsL ws) false) :: H, n'⟩ [(n, .cells e (cellsL ws) true)] = ⟨(n, .cells e (cellsL ws) true) :: H, n'⟩ := by
    simp [St.puts, St.put, putAt]
  rw [e1]
  have hb' : Bld b l D ⟨(n, .cells e (cellsL ws) true) :: H, n'⟩ := hb.move (Nat.le_refl _) fun id hid => by
    show AX.look id (_ :: _) = AX.look id (_ :: _)
    have : n ≠ id := fun e => hD (by rw [e]; exact hid)
    simp only [AX.look, if_neg this]
  exact acwf (w_words ws hb' hl hw)
theorem bld_new {b n : Nat} {l : Str} {D : List Nat} {s : St} {o : AX.Obj} (h : Bld b l D s) (hn : n = s.next) : Bld b l D ⟨(n, o) :: s.heap, n + 1⟩ := by
  subst hn
  refine h.move (Nat.le_succ _) fun id hid => ?_
  have := h.lt id hid
  show AX.look id (_ :: _) = _
  simp only [AX.look]; rw [if_neg (by omega)]; rfl
theorem w_One (t : Tag) (ht : TSz t) : PureF Tryz.prog 16 [Enc.av t] (.str (oneB t)) := by
  obtain ⟨ht1, ht2, ht3, ht4⟩ := ht
  have hlen := oneB_len ⟨ht1, ht2, ht3, ht4⟩
  refine pureF_W mix c16 (by kernel_rfl) (by kernel_rfl) (by simp [flats, flat_av, Go.AX.flat]) (by first | exact flat_av _ | simp [flat, flats, flat_av]) ?_
  simp -implicitDefEqProofs only [F16, Tag.eav, go_sem, seval]
  by_cases k1 : t.kind = 1
  · have k1' := eq_true k1
    simp -implicitDefEqProofs only [k1', go_sem, seval]
    refine callI_gen ((words_lit (b := 1) (l := []) (D := [1]) [[60], t.name] rfl (by decide) ⟨.nilp, .inl rfl, by show 1 < 3; omega, .inl ⟨rfl, rfl, rfl⟩⟩ (by decide) (by simp; omega) (by show 2 ≤ 1000000; omega)).mono fun v s1 ⟨⟨hv, hR⟩, hw⟩ => ?_)
    subst hv
    obtain ⟨D1, b1, b2, b3, b4⟩ := hR
    have g0 : s1.get 0 = some (.cells 1 [.int .i64 t.kind, .str t.name, .ps t.attrs.length (cellsL t.attrs), .str t.text] false) := (b3 0 (by show 0 < 3; omega) (by decide)).trans rfl
    have hD1 : 0 ∉ D1 := fun h0 => by rcases b4 0 h0 with h | h <;> simp at h
    obtain ⟨h1, n1⟩ := s1
    have g0' : AX.look 0 h1 = _ := g0
    simp -implicitDefEqProofs only [g0', go_sem, seval]
    refine LoopI_sl (fun k : Nat => t.attrs.length - k) (fun k => [(3, .ptr 1 0 0), (15, .ps t.attrs.length (cellsL t.attrs)), (16, .int .i64 t.attrs.length), (17, .int .i64 k)])
      (fun k st => k ≤ t.attrs.length ∧ Wf st ∧ ∃ D, Bld 1 ([60] ++ t.name ++ attrsS (t.attrs.take k)) D st) 0 ?_ ?_
    · simp -implicitDefEqProofs only [go_sem, seval]
      refine ⟨hw, D1, by simpa [attrsS] using b1⟩
    rintro k ρ ⟨h2, n2⟩ ⟨i1, i2, D, i3⟩
    rcases Nat.lt_or_ge k t.attrs.length with hk | hk
    · obtain ⟨x, hx, hd, hm⟩ := get_drop hk
      have hlt : ((k : Int) < (t.attrs.length : Int)) = True := eq_true (by omega)
      have w1 : IntKind.i64.wrap ((k : Int) + 1) = ((k + 1 : Nat) : Int) := by rw [wrap64 (by omega) (by omega)]; omega
      simp -implicitDefEqProofs only [hlt, hx, Attr.ecells, Attr.elem, go_sem, seval]
      have f1 : (n2 + 1 + 2 = n2) = False := eq_false (by omega)
      have f2 : (n2 + 1 + 1 = n2) = False := eq_false (by omega)
      have f3 : (n2 + 1 = n2) = False := eq_false (by omega)
      have f4 : (n2 < n2 + 1 + 3) = True := eq_true (by omega)
      refine dsigns (wf_push i2) ?_
      simp -implicitDefEqProofs only [f1, f2, f3, f4, go_sem, seval]
      refine drepl (n := n2 + 1) (wf_push i2) (by have := (ht4 x hm).2; omega) fun h3 hl3 hw3 => ?_
      simp -implicitDefEqProofs only [go_sem, seval]
      refine andI_intro (by (simp [indepB, indep1, apart1, Nat.testBit_eq_decide_div_mod_eq]; repeat' (first | omega | (intro x hx; omega) | refine And.intro ?_ ?_))) ?_
      simp -implicitDefEqProofs only [go_sem, seval]
      have hlo : ∀ id, id < n2 → AX.look id h3 = AX.look id h2 := fun id hid => by
        rw [hl3 id (by omega)]
        simp only [AX.look]; rw [if_neg (by omega)]
      have hB : Bld 1 ([60] ++ t.name ++ attrsS (t.attrs.take k)) D ⟨h3, n2 + 1 + 3⟩ := i3.move (by show n2 ≤ n2 + 1 + 3; omega) fun id hid => hlo id (i3.lt id hid)
      have hlt1 := i3.self
      have hle : ([60] ++ t.name ++ attrsS (t.attrs.take k)).length ≤ 9000000000 := by
        have := attrsS_len (t.attrs.take k) fun a ha => ht4 a (List.mem_of_mem_take ha)
        simp only [List.length_append, List.length_cons, List.length_nil, List.length_take] at this ⊢; omega
      have hs5 := signs_len x.value
      have hxm := ht4 x hm
      refine callI_gen ((words_lit (n := n2 + 1 + 3) (n' := n2 + 1 + 3 + 1) (H := h3) [[32], x.name, [61, 34], signsB x.value, [34]] rfl (by have : 1 < n2 := hlt1; omega) (bld_new hB rfl) (fun hid => by have := i3.lt _ hid; have : n2 + 1 + 3 < n2 := this; omega) (by simp only [List.flatten_cons, List.flatten_nil, List.length_append, List.length_cons, List.length_nil] at hle ⊢; omega) (by show 5 ≤ 1000000; omega)).mono fun v s4 ⟨⟨hv, hR⟩, hw4⟩ => ?_)
      subst hv
      obtain ⟨D4, b1, b2, b3, b4⟩ := hR
      simp -implicitDefEqProofs only [w1, go_sem, seval]
      refine ⟨k + 1, by omega, rfl, hk, hw4, D4, ?_⟩
      have e1 : attrsS (t.attrs.take (k + 1)) = attrsS (t.attrs.take k) ++ attrS x := by
        unfold attrsS; rw [List.take_add_one, hx]; simp
      rw [e1]
      simpa [attrS] using b1
    · have hlt : ((k : Int) < (t.attrs.length : Int)) = False := eq_false (by omega)
      rw [List.take_of_length_le hk] at i3
      have hlt1 := i3.self
      have hle := attrsS_len t.attrs ht4
      simp -implicitDefEqProofs only [hlt, go_sem, seval]
      refine callI_gen ((words_lit (n := n2) (n' := n2 + 1) (H := h2) [[62]] rfl (by have : 1 < n2 := hlt1; omega) (bld_new i3 rfl) (fun hid => by have := i3.lt _ hid; have : n2 < n2 := this; omega) (by simp only [List.flatten_cons, List.flatten_nil, List.length_append, List.length_cons, List.length_nil] at hle ⊢; omega) (by show 1 ≤ 1000000; omega)).mono fun v s4 ⟨⟨hv, hR⟩, hw4⟩ => ?_)
      subst hv
      obtain ⟨D4, b1, b2, b3, b4⟩ := hR
      simp -implicitDefEqProofs only [go_sem, seval]
      have e : oneB t = [60] ++ t.name ++ attrsS t.attrs ++ [62] := by simp [oneB, k1]
      simp only [List.flatten_cons, List.flatten_nil, List.append_nil] at b1
      rw [← e] at b1
      refine callI_gen ((w_String b1 (by omega)).mono fun v s5 hv => ?_)
      subst hv
      simp -implicitDefEqProofs only [go_sem, seval]
  have k1' := eq_false k1
  by_cases k2 : t.kind = 2
  · have k2' := eq_true k2
    simp -implicitDefEqProofs only [k1', k2', go_sem, seval]
    refine callI_gen ((words_lit (b := 1) (l := []) (D := [1]) [[60, 47], t.name, [62]] rfl (by decide) ⟨.nilp, .inl rfl, by show 1 < 3; omega, .inl ⟨rfl, rfl, rfl⟩⟩ (by decide) (by simp; omega) (by show 3 ≤ 1000000; omega)).mono fun v s1 ⟨⟨hv, hR⟩, hw⟩ => ?_)
    subst hv
    obtain ⟨D1, b1, b2, b3, b4⟩ := hR
    simp -implicitDefEqProofs only [go_sem, seval]
    refine callI_gen ((w_String b1 (by simp; omega)).mono fun v s2 hv => ?_)
    subst hv
    simp -implicitDefEqProofs only [go_sem, seval]
    simp [oneB, k2]
  have k2' := eq_false k2
  by_cases k3 : t.kind = 3
  · have k3' := eq_true k3
    simp -implicitDefEqProofs only [k1', k2', k3', go_sem, seval]
    have hwf : Wf ⟨[(1, .cells 0 [.nilp, .nils] false), (0, .cells 1 [.int .i64 t.kind, .str t.name, .ps t.attrs.length (cellsL t.attrs), .str t.text] false)], 2⟩ := fun id hid => by
      have hid' : 2 ≤ id := hid
      show AX.look id _ = none
      simp only [AX.look]
      rw [if_neg (by omega), if_neg (by omega)]
    refine dsigns hwf ?_
    simp -implicitDefEqProofs only [go_sem, seval]
    refine drepl (n := 2) hwf (by omega) fun h3 hl3 hw3 => ?_
    simp -implicitDefEqProofs only [go_sem, seval]
    refine andI_intro (by (first | omega | (simp [indepB, indep1, apart1, Nat.testBit_eq_decide_div_mod_eq]; done) | (simp [indepB, indep1, apart1, Nat.testBit_eq_decide_div_mod_eq]; omega) | kernel_rfl)) ?_
    simp -implicitDefEqProofs only [go_sem, seval]
    have hs5 := signs_len t.text
    have hB : Bld 1 [] [1] ⟨h3, 5⟩ := ⟨.nilp, .inl rfl, by show 1 < 5; omega, .inl ⟨rfl, rfl, (hl3 1 (by omega)).trans rfl⟩⟩
    refine callI_gen ((words_lit (n := 5) (n' := 6) (H := h3) [signsB t.text] rfl (by omega) (bld_new hB rfl) (by decide) (by simp only [List.flatten_cons, List.flatten_nil, List.length_append, List.length_cons, List.length_nil]; omega) (by show 1 ≤ 1000000; omega)).mono fun v s4 ⟨⟨hv, hR⟩, hw4⟩ => ?_)
    subst hv
    obtain ⟨D4, b1, b2, b3, b4⟩ := hR
    simp -implicitDefEqProofs only [go_sem, seval]
    have e : oneB t = signsB t.text := by simp [oneB, k3]
    simp only [List.flatten_cons, List.flatten_nil, List.append_nil, List.nil_append] at b1
    rw [← e] at b1
    refine callI_gen ((w_String b1 (by omega)).mono fun v s5 hv => ?_)
    subst hv
    simp -implicitDefEqProofs only [go_sem, seval]
  have k3' := eq_false k3
  simp -implicitDefEqProofs only [k1', k2', k3', go_sem, seval]
  refine callI_gen ((w_String (l := []) (D := [1]) ⟨.nilp, .inl rfl, by show 1 < 2; omega, .inl ⟨rfl, rfl, rfl⟩⟩ (by simp)).mono fun v s2 hv => ?_)
  subst hv
  simp -implicitDefEqProofs only [go_sem, seval]
  simp [oneB, k1, k2, k3]
end W09
/- tags.Text. -/
namespace W09
open Go Go.AX Go.AX.Ty Go.Proofs
def sApart : Str := [60, 33, 45, 45, 45, 45, 62]
def sepB (last t : Tag) : Str :=
  if t.kind ≠ 3 ∨ (last.kind ≠ 3 ∧ (last.kind ≠ 1 ∨ last.name ≠ sStyle)) then oneB t else if last.kind = 3 then sApart ++ oneB t else t.text
def textF : Tag → List Tag → Str
  | _, [] => []
  | last, t :: r => sepB last t ++ textF t r
def noTag : Tag := ⟨0, [], [], []⟩
def textB (l : List Tag) : Str := textF noTag l
theorem sepB_len {last t : Tag} (h : TSz t) : (sepB last t).length ≤ 9000000007 := by
  have h1 := oneB_len h
  unfold sepB
  split
  · omega
  split
  · simp only [List.length_append, sApart, List.length_cons, List.length_nil]; omega
  · have := h.2.1; omega
theorem w_Text (l : List Tag) (hl : l.length ≤ 10000) (hz : ∀ t ∈ l, TSz t) : PureF Tryz.prog 14 [Enc.av l] (.str (textB l)) := by
  refine pureF_W mix c14 (by kernel_rfl) (by kernel_rfl) (by simp [flats, flat_av, Go.AX.flat]) (by first | exact flat_av _ | simp [flat, flats, flat_av]) ?_
  simp -implicitDefEqProofs only [F14, go_sem, seval]
  refine LoopI_sl (fun x : Nat × Str × Tag => l.length - x.1) (fun x => [(3, .ptr 0 0 0), (4, .ptr 1 1 0), (8, Enc.av l), (9, .int .i64 l.length), (10, .int .i64 x.1)])
    (fun x st => x.1 ≤ l.length ∧ Wf st ∧ x.2.1.length ≤ x.1 * 9000000007 ∧ x.2.1 ++ textF x.2.2 (l.drop x.1) = textB l ∧ (∃ A, A.one = true ∧ st.get 1 = some (.cells 1 [.int .i64 x.2.2.kind, .str x.2.2.name, A, .str x.2.2.text] false)) ∧ ∃ D, Bld 0 x.2.1 D st ∧ 1 ∉ D) (0, [], noTag) ?_ ?_
  · simp -implicitDefEqProofs only [go_sem, seval]
    refine ⟨fun id hid => ?_, rfl, ⟨.nils, rfl, rfl⟩, [0], ⟨.nilp, .inl rfl, by show 0 < 2; omega, .inl ⟨rfl, rfl, rfl⟩⟩, by decide⟩
    have hid' : 2 ≤ id := hid
    show AX.look id _ = none
    simp only [AX.look]
    rw [if_neg (by omega), if_neg (by omega)]
  rintro ⟨k, acc, last⟩ ρ ⟨h, m⟩ ⟨i1, i2, i3, i4, ⟨A, hA, i5⟩, D, i6, i7⟩
  simp only at i1 i3 i4 i5 i6
  have i5' : AX.look 1 h = _ := i5
  rcases Nat.lt_or_ge k l.length with hk | hk
  · obtain ⟨t, hx, hd, hm⟩ := get_drop hk
    have hlt : ((k : Int) < (l.length : Int)) = True := eq_true (by omega)
    have w1 : IntKind.i64.wrap ((k : Int) + 1) = ((k + 1 : Nat) : Int) := by rw [wrap64 (by omega) (by omega)]; omega
    have m0 : 1 < m := by
      rcases Nat.lt_or_ge 1 m with h1 | h1
      · exact h1
      · have := i2 1 h1; rw [i5] at this; simp at this
    have m1 : (m = 1) = False := eq_false (by omega)
    have mD : ∀ id ∈ D, id < m := i6.lt
    have ht := hz t hm
    have hsl := sepB_len (last := last) ht
    rw [hd, textF, ← List.append_assoc] at i4
    simp -implicitDefEqProofs only [hlt, hx, Tag.ecells, i5', m1, go_sem, seval]
    by_cases k3 : t.kind = 3
    · have k3' := eq_true k3
      by_cases l3 : last.kind = 3
      · have l3' := eq_true l3
        simp -implicitDefEqProofs only [k3', i5', m1, l3', go_sem, seval]
        refine callI_pure (w_One t ht) ?_
        simp -implicitDefEqProofs only [k3', i5', m1, go_sem, seval]
        have hsp : sepB last t = ([sApart, oneB t] : List Str).flatten := by simp [sepB, k3, l3]
        rw [hsp] at i4 hsl
        refine callI_gen ((words_lit (n := m + 1) (n' := m + 1 + 1) [sApart, oneB t] rfl (by omega) (bld_new (bld_new i6 rfl) rfl) (fun hid => by have := mD _ hid; omega) (by omega) (by show _ ≤ _; simp)).mono fun v s4 ⟨⟨hv, hR⟩, hw4⟩ => ?_)
        subst hv
        obtain ⟨D4, b1, b2, b3, b4⟩ := hR
        have gm := (b3 m (by show m < m + 1 + 1; omega) (fun hid => by have := mD _ hid; omega)).trans (show AX.look m (_ :: _) = _ by simp only [AX.look]; rw [if_neg (by omega), if_pos trivial])
        have g1 := (b3 1 (by show 1 < m + 1 + 1; omega) i7).trans (show AX.look 1 (_ :: _) = some (.cells 1 [.int .i64 last.kind, .str last.name, A, .str last.text] false) by simp only [AX.look]; rw [if_neg (by omega), if_neg (by omega)]; exact i5)
        have hD4 : 1 ∉ D4 := fun h1 => by rcases b4 1 h1 with h | h; exact i7 h; have : m + 1 + 1 ≤ 1 := h; omega
        obtain ⟨h4, m4⟩ := s4
        have gm' : AX.look m h4 = _ := gm
        have g1' : AX.look 1 h4 = _ := g1
        simp -implicitDefEqProofs only [gm', g1', m1, w1, go_sem, seval]
        refine ⟨(k + 1, acc ++ ([sApart, oneB t] : List Str).flatten, t), by show l.length - (k + 1) < _; omega, rfl, by show k + 1 ≤ _; omega, wf_put hw4, by simp only [List.length_append]; omega, i4, ⟨_, rfl, rfl⟩, D4, b1.move (Nat.le_refl _) fun id hid => look_put_ne fun e => hD4 (by rw [e]; exact hid), hD4⟩
      have l3' := eq_false l3
      by_cases l1 : last.kind = 1
      · have l1' := eq_true l1
        by_cases ls : last.name = sStyle
        · have ls' : (last.name = [115, 116, 121, 108, 101]) = True := eq_true ls
          simp -implicitDefEqProofs only [k3', i5', m1, l3', l1', ls', go_sem, seval]
          have hsp : sepB last t = ([t.text] : List Str).flatten := by simp [sepB, k3, l1, ls]
          rw [hsp] at i4 hsl
          refine callI_gen ((words_lit (n := m + 1) (n' := m + 1 + 1) [t.text] rfl (by omega) (bld_new (bld_new i6 rfl) rfl) (fun hid => by have := mD _ hid; omega) (by omega) (by show _ ≤ _; simp)).mono fun v s4 ⟨⟨hv, hR⟩, hw4⟩ => ?_)
          subst hv
          obtain ⟨D4, b1, b2, b3, b4⟩ := hR
          have gm := (b3 m (by show m < m + 1 + 1; omega) (fun hid => by have := mD _ hid; omega)).trans (show AX.look m (_ :: _) = _ by simp only [AX.look]; rw [if_neg (by omega), if_pos trivial])
          have g1 := (b3 1 (by show 1 < m + 1 + 1; omega) i7).trans (show AX.look 1 (_ :: _) = some (.cells 1 [.int .i64 last.kind, .str last.name, A, .str last.text] false) by simp only [AX.look]; rw [if_neg (by omega), if_neg (by omega)]; exact i5)
          have hD4 : 1 ∉ D4 := fun h1 => by rcases b4 1 h1 with h | h; exact i7 h; have : m + 1 + 1 ≤ 1 := h; omega
          obtain ⟨h4, m4⟩ := s4
          have gm' : AX.look m h4 = _ := gm
          have g1' : AX.look 1 h4 = _ := g1
          simp -implicitDefEqProofs only [gm', g1', m1, w1, go_sem, seval]
          refine ⟨(k + 1, acc ++ ([t.text] : List Str).flatten, t), by show l.length - (k + 1) < _; omega, rfl, by show k + 1 ≤ _; omega, wf_put hw4, by simp only [List.length_append]; omega, i4, ⟨_, rfl, rfl⟩, D4, b1.move (Nat.le_refl _) fun id hid => look_put_ne fun e => hD4 (by rw [e]; exact hid), hD4⟩
        · have ls' : (last.name = [115, 116, 121, 108, 101]) = False := eq_false ls
          simp -implicitDefEqProofs only [k3', i5', m1, l3', l1', ls', go_sem, seval]
          refine callI_pure (w_One t ht) ?_
          simp -implicitDefEqProofs only [k3', i5', m1, go_sem, seval]
          have hsp : sepB last t = ([oneB t] : List Str).flatten := by simp [sepB, k3, l3, l1, ls]
          rw [hsp] at i4 hsl
          refine callI_gen ((words_lit (n := m + 1) (n' := m + 1 + 1) [oneB t] rfl (by omega) (bld_new (bld_new i6 rfl) rfl) (fun hid => by have := mD _ hid; omega) (by omega) (by show _ ≤ _; simp)).mono fun v s4 ⟨⟨hv, hR⟩, hw4⟩ => ?_)
          subst hv
          obtain ⟨D4, b1, b2, b3, b4⟩ := hR
          have gm := (b3 m (by show m < m + 1 + 1; omega) (fun hid => by have := mD _ hid; omega)).trans (show AX.look m (_ :: _) = _ by simp only [AX.look]; rw [if_neg (by omega), if_pos trivial])
          have g1 := (b3 1 (by show 1 < m + 1 + 1; omega) i7).trans (show AX.look 1 (_ :: _) = some (.cells 1 [.int .i64 last.kind, .str last.name, A, .str last.text] false) by simp only [AX.look]; rw [if_neg (by omega), if_neg (by omega)]; exact i5)
          have hD4 : 1 ∉ D4 := fun h1 => by rcases b4 1 h1 with h | h; exact i7 h; have : m + 1 + 1 ≤ 1 := h; omega
          obtain ⟨h4, m4⟩ := s4
          have gm' : AX.look m h4 = _ := gm
          have g1' : AX.look 1 h4 = _ := g1
          simp -implicitDefEqProofs only [gm', g1', m1, w1, go_sem, seval]
          refine ⟨(k + 1, acc ++ ([oneB t] : List Str).flatten, t), by show l.length - (k + 1) < _; omega, rfl, by show k + 1 ≤ _; omega, wf_put hw4, by simp only [List.length_append]; omega, i4, ⟨_, rfl, rfl⟩, D4, b1.move (Nat.le_refl _) fun id hid => look_put_ne fun e => hD4 (by rw [e]; exact hid), hD4⟩
      have l1' := eq_false l1
      simp -implicitDefEqProofs only [k3', i5', m1, l3', l1', go_sem, seval]
      refine callI_pure (w_One t ht) ?_
      simp -implicitDefEqProofs only [k3', i5', m1, go_sem, seval]
      have hsp : sepB last t = ([oneB t] : List Str).flatten := by simp [sepB, k3, l3, l1]
      rw [hsp] at i4 hsl
      refine callI_gen ((words_lit (n := m + 1) (n' := m + 1 + 1) [oneB t] rfl (by omega) (bld_new (bld_new i6 rfl) rfl) (fun hid => by have := mD _ hid; omega) (by omega) (by show _ ≤ _; simp)).mono fun v s4 ⟨⟨hv, hR⟩, hw4⟩ => ?_)
      subst hv
      obtain ⟨D4, b1, b2, b3, b4⟩ := hR
      have gm := (b3 m (by show m < m + 1 + 1; omega) (fun hid => by have := mD _ hid; omega)).trans (show AX.look m (_ :: _) = _ by simp only [AX.look]; rw [if_neg (by omega), if_pos trivial])
      have g1 := (b3 1 (by show 1 < m + 1 + 1; omega) i7).trans (show AX.look 1 (_ :: _) = some (.cells 1 [.int .i64 last.kind, .str last.name, A, .str last.text] false) by simp only [AX.look]; rw [if_neg (by omega), if_neg (by omega)]; exact i5)
      have hD4 : 1 ∉ D4 := fun h1 => by rcases b4 1 h1 with h | h; exact i7 h; have : m + 1 + 1 ≤ 1 := h; omega
      obtain ⟨h4, m4⟩ := s4
      have gm' : AX.look m h4 = _ := gm
      have g1' : AX.look 1 h4 = _ := g1
      simp -implicitDefEqProofs only [gm', g1', m1, w1, go_sem, seval]
      refine ⟨(k + 1, acc ++ ([oneB t] : List Str).flatten, t), by show l.length - (k + 1) < _; omega, rfl, by show k + 1 ≤ _; omega, wf_put hw4, by simp only [List.length_append]; omega, i4, ⟨_, rfl, rfl⟩, D4, b1.move (Nat.le_refl _) fun id hid => look_put_ne fun e => hD4 (by rw [e]; exact hid), hD4⟩
    have k3' := eq_false k3
    simp -implicitDefEqProofs only [k3', i5', m1, go_sem, seval]
    refine callI_pure (w_One t ht) ?_
    simp -implicitDefEqProofs only [k3', i5', m1, go_sem, seval]
    have hsp : sepB last t = ([oneB t] : List Str).flatten := by simp [sepB, k3]
    rw [hsp] at i4 hsl
    refine callI_gen ((words_lit (n := m + 1) (n' := m + 1 + 1) [oneB t] rfl (by omega) (bld_new (bld_new i6 rfl) rfl) (fun hid => by have := mD _ hid; omega) (by omega) (by show _ ≤ _; simp)).mono fun v s4 ⟨⟨hv, hR⟩, hw4⟩ => ?_)
    subst hv
    obtain ⟨D4, b1, b2, b3, b4⟩ := hR
    have gm := (b3 m (by show m < m + 1 + 1; omega) (fun hid => by have := mD _ hid; omega)).trans (show AX.look m (_ :: _) = _ by simp only [AX.look]; rw [if_neg (by omega), if_pos trivial])
    have g1 := (b3 1 (by show 1 < m + 1 + 1; omega) i7).trans (show AX.look 1 (_ :: _) = some (.cells 1 [.int .i64 last.kind, .str last.name, A, .str last.text] false) by simp only [AX.look]; rw [if_neg (by omega), if_neg (by omega)]; exact i5)
    have hD4 : 1 ∉ D4 := fun h1 => by rcases b4 1 h1 with h | h; exact i7 h; have : m + 1 + 1 ≤ 1 := h; omega
    obtain ⟨h4, m4⟩ := s4
    have gm' : AX.look m h4 = _ := gm
    have g1' : AX.look 1 h4 = _ := g1
    simp -implicitDefEqProofs only [gm', g1', m1, w1, go_sem, seval]
    refine ⟨(k + 1, acc ++ ([oneB t] : List Str).flatten, t), by show l.length - (k + 1) < _; omega, rfl, by show k + 1 ≤ _; omega, wf_put hw4, by simp only [List.length_append]; omega, i4, ⟨_, rfl, rfl⟩, D4, b1.move (Nat.le_refl _) fun id hid => look_put_ne fun e => hD4 (by rw [e]; exact hid), hD4⟩
  · have hlt : ((k : Int) < (l.length : Int)) = False := eq_false (by omega)
    rw [List.drop_of_length_le hk] at i4
    simp only [textF, List.append_nil] at i4
    simp -implicitDefEqProofs only [hlt, go_sem, seval]
    rw [i4] at i6
    have hacc : (textB l).length ≤ l.length * 9000000007 := by rw [← i4]; have : k = l.length := by omega
                                                               subst this; exact i3
    refine callI_gen ((w_String i6 (by omega)).mono fun v s5 hv => ?_)
    subst hv
    simp -implicitDefEqProofs only [go_sem, seval]
end W09
/- slices.Equal, slices.EqualFunc, tags.same, slices.Contains, tags.Void. -/
namespace W09
open Go Go.AX Go.AX.Ty Go.Proofs
theorem w_EqualA (a b : List Ty.Attr) (ha : a.length ≤ 100000) : PureF Tryz.prog 60 [Enc.av a, Enc.av b] (.bool (decide (a = b))) := by
  refine pureF_W mix c60 (by kernel_rfl) (by kernel_rfl) (by simp [flats, flat_av, Go.AX.flat]) (by first | exact flat_av _ | simp [flat, flats, flat_av]) ?_
  by_cases hl : a.length = b.length
  · have hl' : ((a.length : Int) = (b.length : Int)) = True := eq_true (by omega)
    simp -implicitDefEqProofs only [F60, hl', go_sem, seval]
    refine LoopI_sl (fun k : Nat => a.length - k) (fun k => [(0, Enc.av a), (1, Enc.av b), (11, Enc.av a), (12, .int .i64 a.length), (13, .int .i64 k)])
      (fun k st => k ≤ a.length ∧ decide (a = b) = decide (a.drop k = b.drop k)) 0 ?_ ?_
    · simp -implicitDefEqProofs only [List.drop_zero, go_sem, seval]
    rintro k ρ ⟨hh, mm⟩ ⟨n1, n2⟩
    rw [n2]
    have w1 : IntKind.i64.wrap ((k : Int) + 1) = ((k + 1 : Nat) : Int) := by rw [wrap64 (by omega) (by omega)]; omega
    rcases Nat.lt_or_ge k a.length with hn | hn
    · obtain ⟨x, hx, hdx, _⟩ := get_drop hn
      obtain ⟨y, hy, hdy, _⟩ := get_drop (hl ▸ hn)
      have h2 : ((k : Int) < (a.length : Int)) = True := eq_true (by omega)
      simp -implicitDefEqProofs only [h2, hx, hy, Attr.ecells, Attr.elem, go_sem, seval]
      refine andI_intro (by (first | omega | (simp [indepB, indep1, apart1, Nat.testBit_eq_decide_div_mod_eq]; done) | (simp [indepB, indep1, apart1, Nat.testBit_eq_decide_div_mod_eq]; omega) | kernel_rfl)) ?_
      rw [hdx, hdy]
      simp -implicitDefEqProofs only [go_sem, seval]
      refine brI_both (fun h hT => ?_) (fun h hT => ?_)
      · simp -implicitDefEqProofs only [w1, go_sem, seval]
        exact ⟨k + 1, by omega, rfl, by omega, by simp only [Bool.and_eq_true, beq_iff_eq] at h; simp [Attr.ext h.1 h.2]⟩
      · simp -implicitDefEqProofs only [go_sem, seval]
        have e : x ≠ y := fun e => h (by simp [e])
        simp [e]
    · have h2 : ((k : Int) < (a.length : Int)) = False := eq_false (by omega)
      simp -implicitDefEqProofs only [h2, go_sem, seval]
      rw [List.drop_of_length_le hn, List.drop_of_length_le (by omega)]; simp
  · have hl' : ((a.length : Int) = (b.length : Int)) = False := eq_false (by omega)
    simp -implicitDefEqProofs only [F60, hl', go_sem, seval]
    simp; intro h; exact hl (by rw [h])
theorem w_same (a b : Tag) (ha : a.attrs.length ≤ 100000) : PureF Tryz.prog 39 [Enc.av a, Enc.av b] (.bool (decide (a = b))) := by
  refine pureF_W mix c39 (by kernel_rfl) (by kernel_rfl) (by simp [flats, flat_av, Go.AX.flat]) (by first | exact flat_av _ | simp [flat, flats, flat_av]) ?_
  simp -implicitDefEqProofs only [F39, Tag.eav, go_sem, seval]
  have ex : ∀ (p q : Prop) [Decidable p] [Decidable q], (p ↔ q) → decide p = decide q := fun p q _ _ h => by simp [h]
  by_cases e1 : a.kind = b.kind
  · by_cases e2 : a.name = b.name
    · by_cases e3 : a.text = b.text
      · simp -implicitDefEqProofs only [eq_true e1, eq_true e2, eq_true e3, go_sem, seval]
        refine callI_pure (w_EqualA a.attrs b.attrs ha) ?_
        simp -implicitDefEqProofs only [eq_true e1, eq_true e2, eq_true e3, go_sem, seval]
        congr 1
        exact ex _ _ ⟨fun h => Tag.ext e1 e2 h e3, fun h => by rw [h]⟩
      · simp -implicitDefEqProofs only [eq_true e1, eq_true e2, eq_false e3, go_sem, seval]
        simp; intro h; exact e3 (by rw [h])
    · simp -implicitDefEqProofs only [eq_true e1, eq_false e2, go_sem, seval]
      simp; intro h; exact e2 (by rw [h])
  · simp -implicitDefEqProofs only [eq_false e1, go_sem, seval]
    simp; intro h; exact e1 (by rw [h])
theorem w_EqualT (a b : List Tag) (hl0 : a.length ≤ 1000000) (ha : ∀ t ∈ a, t.attrs.length ≤ 100000) : PureF Tryz.prog 38 [Enc.av a, Enc.av b, .fn (.func 39) [] []] (.bool (decide (a = b))) := by
  refine pureF_W mix c38 (by kernel_rfl) (by kernel_rfl) (by simp [flats, flat_av, Go.AX.flat]) (by first | exact flat_av _ | simp [flat, flats, flat_av]) ?_
  by_cases hl : a.length = b.length
  · have hl' : ((a.length : Int) = (b.length : Int)) = True := eq_true (by omega)
    simp -implicitDefEqProofs only [F38, hl', go_sem, seval]
    refine LoopI_sl (fun k : Nat => a.length - k) (fun k => [(0, Enc.av a), (1, Enc.av b), (2, .fn (.func 39) [] []), (15, Enc.av a), (16, .int .i64 a.length), (17, .int .i64 k)])
      (fun k st => k ≤ a.length ∧ decide (a = b) = decide (a.drop k = b.drop k)) 0 ?_ ?_
    · simp -implicitDefEqProofs only [List.drop_zero, go_sem, seval]
    rintro k ρ ⟨hh, mm⟩ ⟨n1, n2⟩
    rw [n2]
    have w1 : IntKind.i64.wrap ((k : Int) + 1) = ((k + 1 : Nat) : Int) := by rw [wrap64 (by omega) (by omega)]; omega
    rcases Nat.lt_or_ge k a.length with hn | hn
    · obtain ⟨x, hx, hdx, hm⟩ := get_drop hn
      obtain ⟨y, hy, hdy, _⟩ := get_drop (hl ▸ hn)
      have h2 : ((k : Int) < (a.length : Int)) = True := eq_true (by omega)
      have m1 : (mm + 1 = mm) = False := eq_false (by omega)
      simp -implicitDefEqProofs only [h2, hx, hy, Tag.ecells, Tag.elem, m1, go_sem, seval]
      refine callI_pure (w_same x y (ha x hm)) ?_
      rw [hdx, hdy]
      by_cases e : x = y
      · simp -implicitDefEqProofs only [eq_true e, decide_true, w1, go_sem, seval]
        exact ⟨k + 1, by omega, rfl, by omega, by simp [e]⟩
      · simp -implicitDefEqProofs only [eq_false e, decide_false, go_sem, seval]
        simp [e]
    · have h2 : ((k : Int) < (a.length : Int)) = False := eq_false (by omega)
      simp -implicitDefEqProofs only [h2, go_sem, seval]
      rw [List.drop_of_length_le hn, List.drop_of_length_le (by omega)]; simp
  · have hl' : ((a.length : Int) = (b.length : Int)) = False := eq_false (by omega)
    simp -implicitDefEqProofs only [F38, hl', go_sem, seval]
    simp; intro h; exact hl (by rw [h])
theorem w_IndexS (a : List Str) (x : Str) (hl : a.length ≤ 1000000) : ∃ j : Int, PureF Tryz.prog 61 [Enc.av a, .str x] (.int .i64 j) ∧ decide (0 ≤ j) = decide (x ∈ a) := by
  refine ⟨match a.findIdx? (fun y => x = y) with | some j => (j : Int) | none => -1, ?_, ?_⟩
  · refine pureF_W mix c61 (by kernel_rfl) (by kernel_rfl) (by simp [flats, flat_av, Go.AX.flat]) (by first | exact flat_av _ | simp [flat, flats, flat_av]) ?_
    simp -implicitDefEqProofs only [F61, go_sem, seval]
    refine LoopI_sl (fun k : Nat => a.length - k) (fun k => [(0, Enc.av a), (1, .str x), (6, Enc.av a), (7, .int .i64 a.length), (8, .int .i64 k)])
      (fun k st => k ≤ a.length ∧ (match a.findIdx? (fun y => x = y) with | some j => (j : Int) | none => -1) = (match (a.drop k).findIdx? (fun y => x = y) with | some j => ((k + j : Nat) : Int) | none => -1)) 0 ?_ ?_
    · simp -implicitDefEqProofs only [List.drop_zero, Nat.zero_add, go_sem, seval]
    rintro k ρ ⟨hh, mm⟩ ⟨n1, n2⟩
    rw [n2]
    have w1 : IntKind.i64.wrap ((k : Int) + 1) = ((k + 1 : Nat) : Int) := by rw [wrap64 (by omega) (by omega)]; omega
    rcases Nat.lt_or_ge k a.length with hn | hn
    · obtain ⟨y, hx, hdx, _⟩ := get_drop hn
      have h2 : ((k : Int) < (a.length : Int)) = True := eq_true (by omega)
      rw [hdx]
      by_cases e : x = y
      · simp -implicitDefEqProofs only [h2, hx, eq_true e, go_sem, seval]
        rw [List.findIdx?_cons]
        simp [e]
      · simp -implicitDefEqProofs only [h2, hx, eq_false e, w1, go_sem, seval]
        refine ⟨k + 1, by omega, rfl, by omega, ?_⟩
        rw [List.findIdx?_cons]
        simp only [e, decide_false, Bool.false_eq_true, if_false]
        cases (a.drop (k + 1)).findIdx? (fun y => x = y) with
        | none => rfl
        | some j => simp only [Option.map_some]; rw [show k + 1 + j = k + (j + 1) by omega]
    · have h2 : ((k : Int) < (a.length : Int)) = False := eq_false (by omega)
      simp -implicitDefEqProofs only [h2, go_sem, seval]
      rw [List.drop_of_length_le hn]; rfl
  · have h1 : (a.findIdx? fun y => x = y).isSome = decide (x ∈ a) := by
      rw [List.findIdx?_isSome, Bool.eq_iff_iff]; simp
    rw [← h1]
    cases a.findIdx? (fun y => x = y) with
    | none => simp
    | some j => simp
def voidB (n : Str) : Bool := decide (n ∈ [[98, 114], [104, 114], [105, 109, 103], [105, 110, 112, 117, 116], [108, 105, 110, 107], [109, 101, 116, 97]])
theorem w_Contains (a : List Str) (x : Str) (hl : a.length ≤ 1000000) : PureF Tryz.prog 40 [Enc.av a, .str x] (.bool (decide (x ∈ a))) := by
  obtain ⟨j, h1, h2⟩ := w_IndexS a x hl
  refine pureF_W mix c40 (by kernel_rfl) (by kernel_rfl) (by simp [flats, flat_av, Go.AX.flat]) (by first | exact flat_av _ | simp [flat, flats, flat_av]) ?_
  simp -implicitDefEqProofs only [F40, go_sem, seval]
  refine callI_pure h1 ?_
  simp -implicitDefEqProofs only [go_sem, seval]
  rw [← h2]
theorem w_Void (n : Str) : PureF Tryz.prog 20 [.str n] (.bool (voidB n)) := by
  refine pureF_W mix c20 (by kernel_rfl) (by kernel_rfl) (by simp [flats, flat_av, Go.AX.flat]) (by first | exact flat_av _ | simp [flat, flats, flat_av]) ?_
  simp -implicitDefEqProofs only [F20, go_sem, seval]
  refine callI_pure (w_Contains [[98, 114], [104, 114], [105, 109, 103], [105, 110, 112, 117, 116], [108, 105, 110, 107], [109, 101, 116, 97]] n (by decide)) ?_
  simp -implicitDefEqProofs only [voidB, go_sem, seval]
end W09
/- tags.May. -/
namespace W09
open Go Go.AX Go.AX.Ty Go.Proofs
def mayL (t : Tag) : List Tag := if t.kind = 1 ∧ t.name = sStyle then [t, shutT sStyle] else [t]
def mayB (t : Tag) : Bool := decide (allB (textB (mayL t)) = mayL t)
theorem w_May (t : Tag) (ht : TSz t) (hx : (textB (mayL t)).length ≤ 400000) (hn : (allB (textB (mayL t))).length ≤ 1000000) (ha : ∀ x ∈ allB (textB (mayL t)), x.attrs.length ≤ 100000) : PureF Tryz.prog 18 [Enc.av t] (.bool (mayB t)) := by
  have hsh : TSz (shutT sStyle) := ⟨by decide, by decide, by decide, fun a h => by simp [shutT] at h⟩
  refine pureF_W mix c18 (by kernel_rfl) (by kernel_rfl) (by simp [flats, flat_av, Go.AX.flat]) (by first | exact flat_av _ | simp [flat, flats, flat_av]) ?_
  simp -implicitDefEqProofs only [F18, Tag.eav, go_sem, seval]
  by_cases k1 : t.kind = 1
  · by_cases k2 : t.name = sStyle
    · have k2' : (t.name = [115, 116, 121, 108, 101]) = True := eq_true k2
      have e : mayL t = [t, shutT sStyle] := by unfold mayL; rw [if_pos ⟨k1, k2⟩]
      unfold mayB
      rw [e] at hx hn ha ⊢
      simp -implicitDefEqProofs only [eq_true k1, k2', go_sem, seval]
      refine callI_pure (w_Text [t, shutT sStyle] (by show _ ≤ _; simp) (fun x hm => by simp only [List.mem_cons, List.not_mem_nil, or_false] at hm; rcases hm with rfl | rfl; exact ht; exact hsh)) ?_
      simp -implicitDefEqProofs only [go_sem, seval]
      refine callI_pure (w_All _ hx) ?_
      simp -implicitDefEqProofs only [go_sem, seval]
      refine callI_pure (w_EqualT _ [t, shutT sStyle] hn ha) ?_
      simp -implicitDefEqProofs only [go_sem, seval]
    · have k2' : (t.name = [115, 116, 121, 108, 101]) = False := eq_false k2
      have e : mayL t = [t] := by unfold mayL; rw [if_neg (fun h => k2 h.2)]
      unfold mayB
      rw [e] at hx hn ha ⊢
      simp -implicitDefEqProofs only [eq_true k1, k2', go_sem, seval]
      refine callI_pure (w_Text [t] (by show _ ≤ _; simp) (fun x hm => by simp only [List.mem_cons, List.not_mem_nil, or_false] at hm; subst hm; exact ht)) ?_
      simp -implicitDefEqProofs only [go_sem, seval]
      refine callI_pure (w_All _ hx) ?_
      simp -implicitDefEqProofs only [go_sem, seval]
      refine callI_pure (w_EqualT _ [t] hn ha) ?_
      simp -implicitDefEqProofs only [go_sem, seval]
  · have e : mayL t = [t] := by unfold mayL; rw [if_neg (fun h => k1 h.1)]
    unfold mayB
    rw [e] at hx hn ha ⊢
    simp -implicitDefEqProofs only [eq_false k1, go_sem, seval]
    refine callI_pure (w_Text [t] (by show _ ≤ _; simp) (fun x hm => by simp only [List.mem_cons, List.not_mem_nil, or_false] at hm; subst hm; exact ht)) ?_
    simp -implicitDefEqProofs only [go_sem, seval]
    refine callI_pure (w_All _ hx) ?_
    simp -implicitDefEqProofs only [go_sem, seval]
    refine callI_pure (w_EqualT _ [t] hn ha) ?_
    simp -implicitDefEqProofs only [go_sem, seval]
end W09
