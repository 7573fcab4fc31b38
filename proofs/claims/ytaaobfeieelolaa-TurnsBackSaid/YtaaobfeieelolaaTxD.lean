/- strings.Join, off the shelf. -/
import Derived.Test.YtaaobfeieelolaaTxA
import Derived.Test.YtaaobfeieelolaaTxS
import Derived.Test.YtaaobfeieelolaaTxC
import Derived.Test.YtaaobfeieelolaaTxB
set_option linter.unusedSimpArgs false
set_option linter.unusedVariables false
namespace W11
open Go Go.AX Go.AX.Ty Go.Proofs

theorem repAt_strs {c : Ctx} {k : Nat} : ∀ {l : List Str} {o : Nat}, RepAt c k o (cellsL l) → ∀ (j : Nat) (x : Str), l[j]? = some x → c.m k (o + j) = some (.string ⟨x.toArray⟩)
  | [], _, _, j, x, h => by simp at h
  | y :: r, o, ha, j, x, h => by
    have ha' : RepAt c k o (.str y :: cellsL r) := ha
    simp only [RepAt, Rep] at ha'
    obtain ⟨⟨u, e, rfl⟩, ha'⟩ := ha'
    cases j with
    | zero => simp at h; subst h; exact e
    | succ j =>
      simp at h
      have := repAt_strs ha' j x h
      rwa [show o + 1 + j = o + (j + 1) by omega] at this
theorem sat_below {c : Ctx} {s : St} {w w' : Go.World} (h : Sat c s w) (b : Go.RowKit.Below w.heap.size w w') : Sat c s w' ∧ Ext c s w c s w' := by
  have hlow : ∀ id o k, s.get id = some o → AX.blk c id o = some k → k < w.heap.size := fun id o k _ hb => by
    simp only [AX.blk, Option.map_eq_some_iff] at hb
    obtain ⟨⟨k1, z1⟩, hs1, rfl⟩ := hb
    exact h.low _ _ _ _ hs1
  refine ⟨⟨fun k o u hu => ?_, fun id o ho => ?_, h.inj, h.fresh, h.top, fun b' e k z hs => Nat.lt_of_lt_of_le (h.low _ _ _ _ hs) b.size⟩,
    ⟨Ctx.le_refl c, b.size, fun k hk _ => ⟨b.block k hk, fun _ => rfl⟩, fun _ hf => .inl hf, Nat.le_refl _, fun _ _ _ _ => rfl, fun _ o ho => .inl ⟨o, ho⟩, ⟨b.os, b.output, b.tape⟩⟩⟩
  · have hk : k < w.heap.size := by
      rcases Nat.lt_or_ge k w.heap.size with hh | hh
      · exact hh
      · rw [h.m_none hh] at hu; simp at hu
    rw [cell_of_heap (w := w) (b.block k hk)]; exact h.mem k o u hu
  · exact (h.obj id o ho).move (Ctx.le_refl c) fun k hk => ⟨b.block k (hlow _ _ _ ho hk), fun _ => rfl⟩
theorem map_toList : ∀ l : List Str, (l.map fun x => (⟨x.toArray⟩ : ByteArray)).map (·.data.toList) = l
  | [] => rfl
  | x :: r => by simp only [List.map_cons, map_toList r]
theorem callableJ : Callable Try.prog 56 := ⟨_, Try.func56, by kernel_rfl, by kernel_rfl⟩
theorem w_Join (l : List Str) (sep : Str) (hn : l.length ≤ 140737488355328) (hl : (Lib.join l sep).length ≤ 140737488355328) : PureF Try.prog 56 [Enc.av l, .str sep] (.str (Lib.join l sep)) := by
  refine ⟨⟨callableJ, fun c w vs hs hr => ?_⟩, by simp [flats, flat_av, Go.AX.flat], by simp [Go.AX.flat]⟩
  rw [eav_L] at hr
  simp only [RepL, Rep] at hr
  obtain ⟨u, us, rfl, hu, u2, us2, rfl, rfl, rfl⟩ := hr
  rcases hu with ⟨h0, _, a, q, rfl⟩ | ⟨k, o, q, rfl, hq, hat⟩
  · have hl0 : l = [] := List.eq_nil_of_length_eq_zero h0
    subst hl0
    refine (Try.strings_Join_none a q ⟨sep.toArray⟩ w).mono fun e w' ⟨h1, h2⟩ => ?_
    subst h2
    exact ⟨.str [], _, c, _, h1, by simp [Rep], hs, Ext.refl _ _ _, rfl⟩
  · by_cases h0 : l = []
    · subst h0
      refine (Try.strings_Join_none (some ⟨k, o, none⟩) q ⟨sep.toArray⟩ w).mono fun e w' ⟨h1, h2⟩ => ?_
      subst h2
      exact ⟨.str [], _, c, _, h1, by simp [Rep], hs, Ext.refl _ _ _, rfl⟩
    have hbs := repAt_strs hat
    have hlen : (l.map fun x => (⟨x.toArray⟩ : ByteArray)).length = l.length := List.length_map _
    have hbk : k < w.heap.size := by
      cases l with
      | nil => exact (h0 rfl).elim
      | cons x r =>
        have := hbs 0 x rfl
        rcases Nat.lt_or_ge k w.heap.size with hh | hh
        · exact hh
        · rw [hs.m_none hh] at this; simp at this
    have hj := Try.strings_Join k o q (l.map fun x => ⟨x.toArray⟩) ⟨sep.toArray⟩ w (fun j x hx => by
      rw [List.getElem?_map] at hx
      simp only [Option.map_eq_some_iff] at hx
      obtain ⟨y, hy, rfl⟩ := hx
      exact (hs.mem _ _ _ (hbs j y hy)).1) hbk (by rw [hlen]; exact hn) (by rw [hlen]; exact hq) (by rw [map_toList]; exact hl)
    rw [hlen, map_toList] at hj
    refine hj.mono fun e w' ⟨h1, h2⟩ => ?_
    obtain ⟨g1, g2⟩ := sat_below hs h2
    exact ⟨.str (Lib.join l sep), _, c, _, h1, by simp [Rep], g1, g2, rfl⟩
end W11
/- One turn is done. -/
set_option linter.unusedSimpArgs false
set_option linter.unusedVariables false
namespace W11
open Go Go.AX Go.AX.Ty Go.Proofs

theorem join_fold (s : Str) : ∀ (l : List Str) (out : Str), (∀ w ∈ l, w ≠ []) → l.foldl (withF s) out = if out = [] then Lib.join (l.filter fun x => !(x == s)) [32] else out ++ Lib.joinTail [32] (l.filter fun x => !(x == s))
  | [], out, _ => by
    simp only [List.foldl_nil, List.filter_nil]
    split
    · rename_i e; rw [e]; rfl
    · simp [Lib.joinTail]
  | x :: r, out, h => by
    have hx := h x (by simp)
    have hr : ∀ w ∈ r, w ≠ [] := fun w hw => h w (by simp [hw])
    rw [List.foldl_cons, join_fold s r _ hr]
    by_cases e : x = s
    · have e1 : (!(x == s)) = false := by simp [e]
      rw [List.filter_cons, e1]
      simp only [Bool.false_eq_true, if_false]
      rw [withF, if_pos e]
    · have e1 : (!(x == s)) = true := by simpa using e
      rw [List.filter_cons, e1]
      simp only [if_true]
      rw [withF, if_neg e]
      by_cases e0 : out = []
      · rw [if_pos e0, if_neg hx, if_pos e0, Lib.join_cons]
      · rw [if_neg e0, if_neg (by simp), if_neg e0]
        simp [Lib.joinTail]
theorem join_without (C : List Str) (s : Str) (h : ∀ w ∈ C, w ≠ []) : Lib.join (C.filter fun x => !(x == s)) [32] = withoutB C s := by
  unfold withoutB
  rw [join_fold s C [] h, if_pos rfl]

theorem Behind.back {h h' : List (Nat × AX.Obj)} {m m' A e : Nat} {L : List NR} {k : Nat} {r : AV} {y : Ty.Node} {s' : St} (b : Behind h' m' A e L k r y s') (hm : m ≤ m') (hf : ∀ id, id < m → AX.look id h' = AX.look id h) : Behind h m A e L k r y s' :=
  ⟨Nat.le_trans hm b.le, b.ex, fun id h1 h2 h3 => (b.fr id (by omega) h2 h3).trans (hf id h1)⟩
theorem Behind.no {h h' : List (Nat × AX.Obj)} {m m' A e : Nat} {L : List NR} {k : Nat} {x : Ty.Node} {r : AV} (hs : PgSt h' m' A e L) (hx : L[k]? = some (x, r)) (np : NP r) (hm : m ≤ m') (hf : ∀ id, id < m → AX.look id h' = AX.look id h) : Behind h m A e L k r x ⟨h', m'⟩ := by
  have : L.set k (x, r) = L := by
    apply List.ext_getElem?
    intro i
    rw [List.getElem?_set]
    split
    · rename_i e; subst e
      split
      · exact hx.symm
      · rename_i hh; rw [List.getElem?_eq_none (by omega)]
    · rfl
  exact ⟨hm, ⟨r, np, by rw [this]; exact hs⟩, fun id h1 _ _ => hf id h1⟩
theorem withA_same (x : Ty.Node) : withA x x.attrs = x := rfl

theorem w_do {h : List (Nat × AX.Obj)} {m A e : Nat} {L : List NR} (hs : PgSt h m A e L) {q : Page} (hq : L.map (·.1) = q) (hpg : PgOk q) (hl : ∀ x ∈ q, x.attrs.length ≤ 1000000) (t : Turn) (ht : t.name.length ≤ 1000000) {k : Nat} {x : Ty.Node} {r : AV} (hk : t.node = (k : Int)) (hx : L[k]? = some (x, r)) (np : NP r) :
    ACalls Try.prog 36 [.sl A e 0 L.length 5, Enc.av t] ⟨h, m⟩ fun v s' => v = .tup [] ∧ Behind h m A e L k r (withA x (attrsB q t x)) s' := by
  have hkL := getElem_lt hx
  have hxq : q[k]? = some x := by rw [← hq, List.getElem?_map, hx]; rfl
  have hxl := hl x (List.mem_of_getElem? hxq)
  have hAm := hs.lt
  have hkl : (k < L.length) = True := eq_true hkL
  have m4 : (m + 1 = m) = False := eq_false (by omega)
  have m5 : (m = m + 1) = False := eq_false (by omega)
  have m6 : (m + 1 + 1 = m) = False := eq_false (by omega)
  have m7 : (m = m + 1 + 1) = False := eq_false (by omega)
  have m8 : (m + 1 + 1 = m + 1) = False := eq_false (by omega)
  have m9 : (m + 1 = m + 1 + 1) = False := eq_false (by omega)
  generalize hC : classesB q (k : Int) = C
  have hcs : wsum C ≤ 1000001 := by rw [← hC]; exact classes_sum hpg _
  have hcl := wsum_len C
  have hclean : ∀ w ∈ C, w ≠ [] := fun w hw => (words_cl (attrB q (k : Int) sClass).1 w (by rw [← hC] at hw; exact hw)).1
  let o1 : AX.Obj := .cells 0 [.int .i64 t.kind, .int .i64 k, .str t.name, .str t.value] false
  let o2 : AX.Obj := .cells 0 [.ptr A e (k * 5)] false
  let o3 : AX.Obj := .cells C.length (cellsL C) false
  have fr2 : ∀ b, b < m → AX.look b ((m + 1, o2) :: (m, o1) :: h) = AX.look b h := fun b hb => by simp only [AX.look]; rw [if_neg (by omega), if_neg (by omega)]
  have hs2 : PgSt ((m + 1, o2) :: (m, o1) :: h) (m + 1 + 1) A e L := hs.frame (by omega) fr2 (wf_push (wf_push hs.wf))
  have fr3 : ∀ (o : AX.Obj) b, b < m → AX.look b ((m + 1 + 1, o) :: (m + 1, o2) :: (m, o1) :: h) = AX.look b h := fun o b hb => by simp only [AX.look]; rw [if_neg (by omega), if_neg (by omega), if_neg (by omega)]
  have hs3 : ∀ o : AX.Obj, PgSt ((m + 1 + 1, o) :: (m + 1, o2) :: (m, o1) :: h) (m + 1 + 1 + 1) A e L := fun o => hs.frame (by omega) (fr3 o) (wf_push (wf_push (wf_push hs.wf)))
  obtain ⟨ps2, v2⟩ := hs2.view
  obtain ⟨ps3, v3⟩ := (hs3 o3).view
  rw [hq] at v2 v3
  have hcls := w_ClassesO q hpg (k : Int) (k := C.length) (by rw [hC])
  rw [hC] at hcls
  have hcon := w_contains_str C t.name (by omega)
  have hattr := w_Attr q hpg.ok (k : Int) sClass
  have hal := attrB_len hpg (k : Int) sClass
  have hin : inB C t.name = C.any fun x => t.name == x := inB_sym _ _
  refine acalls_W mix (C0_ok _) c36 (by kernel_rfl) (Nat.le_of_ble_eq_true (by kernel_rfl)) ?_
  rw [Turn.eav]
  have hA := hs.blk
  have a0 : (m = A) = False := eq_false (by omega)
  have a1 : (m + 1 = A) = False := eq_false (by omega)
  have a2 : (m + 1 + 1 = A) = False := eq_false (by omega)
  have hle : (L.length * 5 ≤ (pcells L).length) = True := eq_true (by rw [pcells_len]; omega)
  have htk : List.take (L.length * 5) (pcells L) = pcells L := List.take_of_length_le (by rw [pcells_len]; omega)
  have hcc : (cellsL C).length = C.length := strs_len C
  have htc : List.take (C.length * 1) (cellsL C) = cellsL C := List.take_of_length_le (by omega)
  have htc1 : List.take C.length (cellsL C) = cellsL C := List.take_of_length_le (by omega)
  have hlc : (C.length ≤ (cellsL C).length) = True := eq_true (by omega)
  simp -implicitDefEqProofs only [F36, hk, hkl, m4, m5, hA, a0, a1, hle, htk, go_sem, Nat.reduceAdd, Nat.reduceEqDiff, Nat.reduceLeDiff, reduceCtorEq, ↓reduceIte]
  refine callI_ownv hcls (view_two v2 (y' := .int .i64 k) (q := []) rfl) ?_
  simp -implicitDefEqProofs only [m4, m5, m6, m7, m8, m9, hA, a0, a1, a2, hle, htk, hcc, htc, htc1, hlc, go_sem, Nat.reduceAdd, Nat.reduceEqDiff, Nat.reduceLeDiff, ↓reduceIte]
  refine callI_uv hcon rfl (view_two (view_sl (C := cellsL C) (cs := cellsL C) (sn := false) (by simp only [St.get, AX.look, if_true]) (by omega) htc (strs_lit _)) (y' := .str t.name) (q := []) rfl) ?_
  rw [← hin]
  simp -implicitDefEqProofs only [m4, m5, m6, m7, m8, m9, hA, a0, a1, a2, hle, htk, hcc, htc, hlc, go_sem, Nat.reduceAdd, Nat.reduceEqDiff, ↓reduceIte]
  have same : ∀ a : List Ty.Attr, attrsB q t x = a → a = x.attrs → Behind h m A e L k r (withA x (attrsB q t x)) ⟨(m + 1 + 1, o3) :: (m + 1, o2) :: (m, o1) :: h, m + 1 + 1 + 1⟩ := fun a h1 h2 => by
    rw [h1, h2, withA_same]; exact Behind.no (hs3 o3) hx np (by omega) (fr3 o3)
  by_cases k1 : t.kind = 1
  · have f1 : (t.kind = 1) = True := eq_true k1
    cases hc : inB C t.name
    · have hres : attrsB q t x = if (attrB q (k : Int) sClass).1 = [] then setA x.attrs sClass t.name else setA x.attrs sClass ((attrB q (k : Int) sClass).1 ++ [32] ++ t.name) := by
        unfold attrsB; rw [if_pos k1, hk, hC, hc]; simp
      simp -implicitDefEqProofs only [f1, m4, m5, m6, m7, m8, m9, hA, a0, a1, a2, hle, htk, hcc, htc, hlc, go_sem, Nat.reduceAdd, Nat.reduceEqDiff, Nat.reduceLeDiff, reduceCtorEq, ↓reduceIte]
      refine callI_uv hattr rfl (view_three v3 (y' := .int .i64 k) (q := []) rfl (z' := .str sClass) (r := []) rfl) ?_
      generalize (attrB q (k : Int) sClass).1 = o at hres hal
      simp -implicitDefEqProofs only [m4, m5, m6, m7, m8, m9, hA, a0, a1, a2, hle, htk, hcc, htc, hlc, go_sem, Nat.reduceEqDiff, ↓reduceIte]
      by_cases e0 : o = []
      · subst e0
        rw [if_pos rfl] at hres
        obtain ⟨⟨h', m'⟩, hset, hb⟩ := w_set (hs3 o3) hx np hxl sClass t.name
        have ct : (t.name.length ≤ 9223372036854775807) = True := eq_true (by omega)
        simp -implicitDefEqProofs only [ct, m4, m5, m6, m7, m8, m9, hA, a0, a1, a2, hle, htk, hcc, htc, hlc, go_sem, Nat.reduceAdd, Nat.reduceEqDiff, Nat.reduceLeDiff, ↓reduceIte]
        refine callI_st hset ?_
        simp -implicitDefEqProofs only [go_sem]
        rw [hres]
        exact hb.back (by omega) (fr3 o3)
      · rw [if_neg e0] at hres
        have fe : (o = []) = False := eq_false e0
        have c1 : (o.length + 1 ≤ 9223372036854775807) = True := eq_true (by omega)
        have c2 : (o.length + 1 + t.name.length ≤ 9223372036854775807) = True := eq_true (by omega)
        obtain ⟨⟨h', m'⟩, hset, hb⟩ := w_set (hs3 o3) hx np hxl sClass (o ++ [32] ++ t.name)
        simp -implicitDefEqProofs only [fe, c1, c2, List.length_append, m4, m5, m6, m7, m8, m9, hA, a0, a1, a2, hle, htk, hcc, htc, hlc, go_sem, Nat.reduceAdd, Nat.reduceEqDiff, Nat.reduceLeDiff, ↓reduceIte]
        refine callI_st hset ?_
        simp -implicitDefEqProofs only [go_sem]
        rw [hres]
        exact hb.back (by omega) (fr3 o3)
    · have hres : attrsB q t x = x.attrs := by
        unfold attrsB; rw [if_pos k1, hk, hC, hc]; simp
      simp -implicitDefEqProofs only [f1, m4, m5, m6, m7, m8, m9, hA, a0, a1, a2, hle, htk, hcc, htc, hlc, go_sem, Nat.reduceEqDiff, ↓reduceIte]
      exact same _ hres rfl
  have f1 : (t.kind = 1) = False := eq_false k1
  by_cases k2 : t.kind = 2
  · have f2 : (t.kind = 2) = True := eq_true k2
    cases hc : inB C t.name
    · have hres : attrsB q t x = x.attrs := by
        unfold attrsB; rw [if_neg k1, if_pos k2, hk, hC, hc]; simp
      simp -implicitDefEqProofs only [f1, f2, m4, m5, m6, m7, m8, m9, hA, a0, a1, a2, hle, htk, hcc, htc, hlc, go_sem, Nat.reduceEqDiff, ↓reduceIte]
      exact same _ hres rfl
    · have hres : attrsB q t x = setA x.attrs sClass (withoutB C t.name) := by
        unfold attrsB; rw [if_neg k1, if_pos k2, hk, hC, hc]; simp
      simp -implicitDefEqProofs only [f1, f2, m4, m5, m6, m7, m8, m9, hA, a0, a1, a2, hle, htk, hcc, htc, hlc, go_sem, Nat.reduceEqDiff, ↓reduceIte]
      have hdo := fun s => w_do1 s t
      simp only [hk] at hdo
      have hd := w_DelS (g := 55) (h := (m + 1 + 1, o3) :: (m + 1, o2) :: (m, o1) :: h) (m := m + 1 + 1 + 1) (b := m + 1 + 1) (c := m) (l := C) (X := [.int .i64 t.kind, .int .i64 k, .str t.name, .str t.value]) (sc := false) (by simp only [AX.look, if_true, o3]) (by omega) (by simp only [AX.look, m4, m6, if_false, if_true, o1]) (by omega) rfl rfl hdo
      simp only [putAt, if_true] at hd
      have hj := join_without C t.name hclean
      have hFl : (C.filter fun y => !(y == t.name)).length ≤ C.length := List.length_filter_le _ _
      have hwl : (withoutB C t.name).length ≤ 1000001 := by
        have := withF_len t.name C []
        simp only [List.length_nil] at this
        unfold withoutB; omega
      generalize hF : (C.filter fun y => !(y == t.name)) = F at hd hj hFl
      have hjoin := w_Join F [32] (by omega) (by rw [hj]; omega)
      rw [hj] at hjoin
      generalize List.replicate (C.length - F.length) (AV.str []) = R at hd
      have ho1 : o1 = .cells 0 [.int .i64 t.kind, .int .i64 k, .str t.name, .str t.value] false := rfl
      have ho2 : o2 = .cells 0 [.ptr A e (k * 5)] false := rfl
      have hs4 := hs3 (.cells C.length (cellsL F ++ R) false)
      have hcF : (cellsL F).length = F.length := strs_len F
      have htF : List.take (F.length * 1) (cellsL F ++ R) = cellsL F := List.take_left' (by omega)
      have htF1 : List.take F.length (cellsL F ++ R) = cellsL F := List.take_left' (by omega)
      have hlF : (F.length ≤ (cellsL F ++ R).length) = True := eq_true (by rw [List.length_append]; omega)
      obtain ⟨⟨h', m'⟩, hset, hb⟩ := w_set hs4 hx np hxl sClass (withoutB C t.name)
      obtain ⟨r', np', hs5⟩ := hb.ex
      refine callI_st hd ?_
      simp -implicitDefEqProofs only [m4, m5, m6, m7, m8, m9, hA, a0, a1, a2, hle, htk, hcc, htc, hlc, hcF, htF, htF1, hlF, ho1, ho2, go_sem, Nat.reduceEqDiff, ↓reduceIte]
      refine dcallI_uv hjoin rfl hs4.wf (view_two (view_sl (C := cellsL F) (cs := cellsL F ++ R) (sn := false) (by simp only [St.get, AX.look, if_true]) (by rw [List.length_append]; omega) htF (strs_lit _)) (y' := .str [32]) (q := []) rfl) ?_
      simp -implicitDefEqProofs only [m4, m5, m6, m7, m8, m9, hA, a0, a1, a2, hle, htk, hcc, htc, hlc, hcF, htF, htF1, hlF, ho1, ho2, go_sem, Nat.reduceEqDiff, ↓reduceIte]
      refine dcallI_w (List.range (m + 1 + 1 + 1)) hset hs4.wf hb.le hs5.wf ⟨fun id hid => List.mem_range.1 hid, fun id h1 h2 => absurd (List.mem_range.2 h1) h2⟩ ?_
      simp -implicitDefEqProofs only [go_sem]
      refine andI_intro (by (simp [indepB, indep1, apart1, Nat.testBit_eq_decide_div_mod_eq]; repeat' (first | omega | (intro x hx; omega) | refine And.intro ?_ ?_))) ?_
      simp -implicitDefEqProofs only [go_sem]
      rw [hres]
      exact hb.back (by omega) (fr3 _)
  have f2 : (t.kind = 2) = False := eq_false k2
  by_cases k3 : t.kind = 3
  · have f3 : (t.kind = 3) = True := eq_true k3
    have hres : attrsB q t x = setA x.attrs t.name t.value := by unfold attrsB; rw [if_neg k1, if_neg k2, if_pos k3]
    obtain ⟨⟨h', m'⟩, hset, hb⟩ := w_set (hs3 o3) hx np hxl t.name t.value
    simp -implicitDefEqProofs only [f1, f2, f3, m4, m5, m6, m7, m8, m9, hA, a0, a1, a2, hle, htk, hcc, htc, hlc, go_sem, Nat.reduceAdd, Nat.reduceEqDiff, Nat.reduceLeDiff, ↓reduceIte]
    refine callI_st hset ?_
    simp -implicitDefEqProofs only [go_sem]
    rw [hres]
    exact hb.back (by omega) (fr3 o3)
  have f3 : (t.kind = 3) = False := eq_false k3
  by_cases k4 : t.kind = 4
  · have f4 : (t.kind = 4) = True := eq_true k4
    have hres : attrsB q t x = x.attrs.filter (fun a => !(a.name == t.name)) := by unfold attrsB; rw [if_neg k1, if_neg k2, if_neg k3, if_pos k4]
    obtain ⟨⟨h', m'⟩, hset, hb⟩ := w_unset (hs3 o3) hx np hxl t.name
    simp -implicitDefEqProofs only [f1, f2, f3, f4, m4, m5, m6, m7, m8, m9, hA, a0, a1, a2, hle, htk, hcc, htc, hlc, go_sem, Nat.reduceAdd, Nat.reduceEqDiff, Nat.reduceLeDiff, ↓reduceIte]
    refine callI_st hset ?_
    simp -implicitDefEqProofs only [go_sem]
    rw [hres]
    exact hb.back (by omega) (fr3 o3)
  have f4 : (t.kind = 4) = False := eq_false k4
  have hres : attrsB q t x = x.attrs := by unfold attrsB; rw [if_neg k1, if_neg k2, if_neg k3, if_neg k4]
  simp -implicitDefEqProofs only [f1, f2, f3, f4, m4, m5, m6, m7, m8, m9, hA, a0, a1, a2, hle, htk, hcc, htc, hlc, go_sem, Nat.reduceEqDiff, ↓reduceIte]
  exact same _ hres rfl
end W11
/- Turns are done. -/
set_option linter.unusedSimpArgs false
set_option linter.unusedVariables false
namespace W11
open Go Go.AX Go.AX.Ty Go.Proofs

theorem stepT_nil (t : Turn) : stepT [] t = [] := by
  unfold stepT nodeAt
  split
  · rename_i x hx; split at hx <;> simp at hx
  · rfl
theorem doB_nil : ∀ l : List Turn, doB [] l = []
  | [] => rfl
  | t :: r => by show doB (stepT [] t) r = []; rw [stepT_nil, doB_nil r]
theorem elemB_nil (n : Int) : elemB ([] : Page) n = false := by unfold elemB nodeAt; split <;> simp_all
def plainL (p : Page) : List NR := p.map fun x => (x, plainR x)
theorem plainL_fst : ∀ p : Page, (plainL p).map (·.1) = p
  | [] => rfl
  | x :: r => by show x :: (plainL r).map (·.1) = _; rw [plainL_fst r]
theorem plainL_cells : ∀ p : Page, pcells (plainL p) = cellsL p
  | [] => rfl
  | x :: r => by show ncells (x, plainR x) ++ pcells (plainL r) = Enc.cells x ++ cellsL r; rw [plainL_cells r]; rfl
theorem plainL_at {p : Page} {i : Nat} {y : NR} (h : (plainL p)[i]? = some y) : y.2 = plainR y.1 := by
  simp only [plainL, List.getElem?_map, Option.map_eq_some_iff] at h
  obtain ⟨x, _, rfl⟩ := h; rfl
theorem map_set {L : List NR} {k : Nat} {y : NR} : (L.set k y).map (·.1) = (L.map (·.1)).set k y.1 := by rw [List.map_set]
theorem set_fst {p : Page} {k : Nat} {x : Ty.Node} (h : p[k]? = some x) : p.set k x = p := by
  apply List.ext_getElem?
  intro i
  rw [List.getElem?_set]
  split
  · rename_i e; subst e
    split
    · exact h.symm
    · rename_i hh; rw [List.getElem?_eq_none (by omega)]
  · rfl

theorem callI_all {P : Program} {f : FuncId} {args : List AV} {s : St} {xs : List AV} {s' : St} {K R : AV → St → Prop} (h : ACalls P f args s R) (hk : ∀ v s2, R v s2 → @stK s2 ⟨K v⟩) : @CallI P f args s xs s' ⟨K⟩ := .inl (h.mono fun v s'' hr => hk v s'' hr)
theorem w_Do (p : Page) {c d : Nat} (hp : PgB c d p) (l : List Turn) (hl : l.length ≤ 1000) (hc : c ≤ 1000) (hd : d ≤ 10000) (hok : ∀ t ∈ l, Enc.ok t) (ht : ∀ t ∈ l, t.name.length ≤ 100 ∧ t.value.length ≤ 100) :
    PureF Try.prog 17 [Enc.av p, Enc.av l] (Enc.av (doB p l)) := by
  refine pureF_WD mix c17 (by kernel_rfl) (by kernel_rfl) (by simp [flats, flat_av, Go.AX.flat]) (flat_av _) ?_
  have hpl := hp.len
  simp -implicitDefEqProofs only [F17, go_sem, reduceCtorEq, ↓reduceIte]
  refine callI_all (w_CloneP p (by omega) _ _) ?_
  rintro v s' (⟨h0, rfl, rfl⟩ | ⟨rfl, rfl⟩)
  · subst h0
    rw [doB_nil]
    simp -implicitDefEqProofs only [go_sem, ↓reduceIte]
    rw [LoopI_def]
    refine ⟨1, ?_⟩
    simp -implicitDefEqProofs only [go_sem, Int.reduceLT, Nat.reduceEqDiff, reduceCtorEq, ↓reduceIte]
    refine LoopI_sl (fun i : Nat => l.length - i) (fun i => [(0, .nils), (26, Enc.av l), (27, .int .i64 l.length), (28, .int .i64 i)])
      (fun i st => i ≤ l.length) 0 ?_ ?_
    · simp -implicitDefEqProofs only [go_sem, Nat.reduceEqDiff, reduceCtorEq, ↓reduceIte]
    rintro i ρ ⟨g, m⟩ h1
    rcases Nat.lt_or_ge i l.length with hi | hi
    · obtain ⟨t, hx, hdx, hmx⟩ := get_drop hi
      have hlt : ((i : Int) < (l.length : Int)) = True := eq_true (by omega)
      have w1 : IntKind.i64.wrap ((i : Int) + 1) = ((i + 1 : Nat) : Int) := by rw [wrap64 (by omega) (by omega)]; omega
      have hE := w_Element [] t.node
      rw [elemB_nil] at hE
      simp -implicitDefEqProofs only [hlt, hx, go_sem, Nat.reduceAdd, Nat.reduceEqDiff, Nat.reduceLeDiff, reduceCtorEq, ↓reduceIte]
      refine callI_pure hE ?_
      simp -implicitDefEqProofs only [w1, go_sem, Nat.reduceEqDiff, reduceCtorEq, ↓reduceIte]
      exact ⟨i + 1, by omega, rfl, by omega⟩
    · have hlt : ((i : Int) < (l.length : Int)) = False := eq_false (by omega)
      simp -implicitDefEqProofs only [hlt, go_sem, Nat.reduceEqDiff, reduceCtorEq, ↓reduceIte]
      try rfl
  · simp -implicitDefEqProofs only [go_sem, ↓reduceIte]
    refine LoopI_sl (fun i : Nat => p.length - i) (fun i => [(0, .sl 0 (p.length * 5) 0 p.length 5), (1, Enc.av l), (11, .int .i64 p.length), (12, .int .i64 i)])
      (fun i st => i ≤ p.length ∧ ∃ L : List NR, L.map (·.1) = p ∧ PgSt st.heap st.next 0 (p.length * 5) L ∧ (∀ (j : Nat) (y : NR), L[j]? = some y → if j < i then NP y.2 else y.2 = plainR y.1)) 0 ?_ ?_
    · simp -implicitDefEqProofs only [go_sem, Nat.reduceEqDiff, reduceCtorEq, ↓reduceIte]
      refine ⟨plainL p, plainL_fst p, ⟨by rw [plainL_cells]; rfl, by omega, fun i y hy => .inl (plainL_at hy), fun i j y z b hy hz hb _ => ?_, wf_of (by kernel_rfl)⟩, fun j y hy => plainL_at hy⟩
      rw [plainL_at hy] at hb; simp [plainR, refId] at hb
    rintro i ρ ⟨g, m⟩ ⟨h1, L, h2, h3, h4⟩
    dsimp only at h3
    have hLl : L.length = p.length := by rw [← h2, List.length_map]
    have hA := h3.blk
    have hAm := h3.lt
    have hpc := pcells_len L
    have m0 : (m = 0) = False := eq_false (by omega)
    have m1 : (0 = m) = False := eq_false (by omega)
    rcases Nat.lt_or_ge i p.length with hi | hi
    · obtain ⟨x, hx, hdx, hmx⟩ := get_drop hi
      have hLx : L[i]? = some (x, plainR x) := by
        have e1 : (L.map (·.1))[i]? = some x := by rw [h2]; exact hx
        rw [List.getElem?_map, Option.map_eq_some_iff] at e1
        obtain ⟨y, hy, rfl⟩ := e1
        have := h4 i y hy
        rw [if_neg (by omega)] at this
        rw [hy, ← this]
      have hlt : ((i : Int) < (p.length : Int)) = True := eq_true (by omega)
      have hltn : (i < p.length) = True := eq_true hi
      have w1 : IntKind.i64.wrap ((i : Int) + 1) = ((i + 1 : Nat) : Int) := by rw [wrap64 (by omega) (by omega)]; omega
      have hk1 : (i * 5 + 1 ≤ (pcells L).length) = True := eq_true (by omega)
      have hk3 : (i * 5 + 1 + 1 ≤ (pcells L).length) = True := eq_true (by omega)
      have hdr : List.drop (i * 5 + 1) (pcells L) = .ps x.attrs.length (cellsL x.attrs) :: ([.str x.text, .int .i64 x.up, .ps x.kids.length (cellsL x.kids)] ++ pcells (L.drop (i + 1))) := pcells_at1 hLx
      have next : ∀ {h' : List (Nat × AX.Obj)} {m' : Nat} {r' : AV}, NP r' → PgSt h' m' 0 (p.length * 5) (L.set i (x, r')) → ∃ L' : List NR, L'.map (·.1) = p ∧ PgSt h' m' 0 (p.length * 5) L' ∧ (∀ (j : Nat) (y : NR), L'[j]? = some y → if j < i + 1 then NP y.2 else y.2 = plainR y.1) := fun {h' m' r'} hn hp' => by
        refine ⟨L.set i (x, r'), by rw [map_set, h2, set_fst hx], hp', fun j y hy => ?_⟩
        by_cases hj : j = i
        · subst hj
          rw [List.getElem?_set_self (by omega)] at hy
          cases hy
          rw [if_pos (by omega)]; exact hn
        · rw [List.getElem?_set_ne (Ne.symm hj)] at hy
          have := h4 j y hy
          split at this
          · rw [if_pos (by omega)]; exact this
          · rw [if_neg (by omega)]; exact this
      have hxn := hp.num x hmx
      simp -implicitDefEqProofs only [hlt, hltn, hA, hk1, hdr, m0, m1, go_sem, Nat.reduceEqDiff, reduceCtorEq, ↓reduceIte]
      refine callI_all (w_CloneA x.attrs (by omega) _ _) ?_
      rintro v s' (⟨h0, rfl, rfl⟩ | ⟨rfl, rfl⟩)
      · simp -implicitDefEqProofs only [hlt, hltn, hA, hk1, hk3, hdr, m0, m1, w1, go_sem, Nat.reduceEqDiff, reduceCtorEq, ↓reduceIte]
        refine ⟨i + 1, by omega, rfl, by omega, next (r' := .nils) (.inl rfl) (h3.turn hLx (Nat.le_refl _) (wf_put h3.wf) ?_ (.inr (.inl ⟨rfl, h0⟩)) (fun b _ hb2 _ => look_put_ne (Ne.symm hb2)) (.inl rfl))⟩
        rw [look_put_eq hA, pcells_set2 (a := x.attrs) hLx]; rfl
      · simp -implicitDefEqProofs only [hlt, hltn, hA, hk1, hk3, hdr, m0, m1, w1, go_sem, Nat.reduceEqDiff, reduceCtorEq, ↓reduceIte]
        refine ⟨i + 1, by omega, rfl, by omega, next (r' := .sl m (x.attrs.length * 2) 0 x.attrs.length 2) (.inr ⟨_, _, _, rfl⟩) (h3.turn hLx (Nat.le_succ _) (wf_push (wf_put h3.wf)) ?_ (.inr (.inr ⟨m, x.attrs.length * 2, [], rfl, Nat.lt_succ_self _, by omega, ?_, rfl⟩)) (fun b hb1 hb2 _ => ?_) (.inr (.inr ⟨m, rfl, Nat.le_refl _⟩)))⟩
        · simp only [AX.look, m0, if_false]
          rw [look_put_eq hA, pcells_set2 (a := x.attrs) hLx]; rfl
        · simp only [AX.look, if_true, List.append_nil]
        · simp only [AX.look]
          rw [if_neg (by omega), look_put_ne (Ne.symm hb2)]
    · have hlt : ((i : Int) < (p.length : Int)) = False := eq_false (by omega)
      simp -implicitDefEqProofs only [hlt, go_sem, Nat.reduceEqDiff, reduceCtorEq, ↓reduceIte]
      have hnp : ∀ (j : Nat) (y : NR), L[j]? = some y → NP y.2 := fun j y hy => by
        have := h4 j y hy
        have hj := getElem_lt hy
        rw [if_pos (by omega)] at this; exact this
      clear h4 hA hpc m0 m1 hAm
      refine LoopI_sl (fun i : Nat => l.length - i) (fun i => [(0, .sl 0 (p.length * 5) 0 p.length 5), (26, Enc.av l), (27, .int .i64 l.length), (28, .int .i64 i)])
        (fun i st => i ≤ l.length ∧ ∃ L : List NR, L.map (·.1) = doB p (l.take i) ∧ PgSt st.heap st.next 0 (p.length * 5) L ∧ (∀ (j : Nat) (y : NR), L[j]? = some y → NP y.2)) 0 ?_ ?_
      · simp -implicitDefEqProofs only [go_sem, Nat.reduceEqDiff, reduceCtorEq, ↓reduceIte]
        exact ⟨L, h2, h3, hnp⟩
      clear hnp h3 h2 hLl
      rintro i ρ ⟨g, m⟩ ⟨k1, L, k2, k3, k4⟩
      dsimp only at k3
      have hLl : L.length = p.length := by rw [← doB_len (l.take i) p, ← k2, List.length_map]
      have hA := k3.blk
      have hAm := k3.lt
      have hpc := pcells_len L
      have m0 : (m = 0) = False := eq_false (by omega)
      have m1 : (0 = m) = False := eq_false (by omega)
      rcases Nat.lt_or_ge i l.length with hi | hi
      · obtain ⟨t, hx, hdr, hm⟩ := get_drop hi
        have hlt : ((i : Int) < (l.length : Int)) = True := eq_true (by omega)
        have w1 : IntKind.i64.wrap ((i : Int) + 1) = ((i + 1 : Nat) : Int) := by rw [wrap64 (by omega) (by omega)]; omega
        have hsn := doB_snoc hx p
        have hlk : (l.take i).length = i := by rw [List.length_take]; omega
        have hB := PgB.turns (l.take i) hp (by omega) (by omega) fun y hy => ht y (List.mem_of_mem_take hy)
        rw [hlk] at hB
        generalize doB p (l.take i) = q at k2 hsn hB
        have hqp := hB.pg (by omega)
        have hle : (p.length * 5 ≤ (pcells L).length) = True := eq_true (by omega)
        have htk : List.take (p.length * 5) (pcells L) = pcells L := List.take_of_length_le (by omega)
        have k5 : PgSt ((m, .cells 0 [.int .i64 t.kind, .int .i64 t.node, .str t.name, .str t.value] false) :: g) (m + 1) 0 (p.length * 5) L := k3.frame (by omega) (fun b hb => by simp only [AX.look]; rw [if_neg (by omega)]) (wf_push k3.wf)
        obtain ⟨ps, hv⟩ := k5.view
        rw [k2, hLl] at hv
        have hE := w_Element q t.node
        simp -implicitDefEqProofs only [hlt, hx, hA, hle, htk, m0, m1, go_sem, Nat.reduceAdd, Nat.reduceEqDiff, Nat.reduceLeDiff, reduceCtorEq, ↓reduceIte]
        refine callI_uv hE rfl (view_two hv (y' := .int .i64 t.node) (q := []) rfl) ?_
        cases he : elemB q t.node
        · simp -implicitDefEqProofs only [w1, go_sem, Nat.reduceEqDiff, reduceCtorEq, ↓reduceIte]
          exact ⟨i + 1, by omega, rfl, by omega, L, by rw [hsn, stepT_no he]; exact k2, k5, k4⟩
        obtain ⟨k, x, ek, hxk, hn⟩ := elem_at he
        have hLx : ∃ r, L[k]? = some (x, r) := by
          have e1 : (L.map (·.1))[k]? = some x := by rw [k2]; exact hxk
          rw [List.getElem?_map, Option.map_eq_some_iff] at e1
          obtain ⟨y, hy, rfl⟩ := e1
          exact ⟨y.2, hy⟩
        obtain ⟨r, hLx⟩ := hLx
        have hdo := w_do k5 k2 hqp (fun y hy => by have := hB.num y hy; omega) t (by have := (ht t hm).1; omega) ek hLx (k4 _ _ hLx)
        rw [hLl, Turn.eav] at hdo
        have hst : stepT q t = q.set k (withA x (attrsB q t x)) := by
          unfold stepT
          rw [ek, nodeAt_nat, hxk]
          simp only
          rw [if_neg hn, Int.toNat_natCast]
        simp -implicitDefEqProofs only [hlt, hx, hA, hle, htk, m0, m1, go_sem, Nat.reduceAdd, Nat.reduceEqDiff, reduceCtorEq, ↓reduceIte]
        refine callI_all hdo ?_
        rintro v ⟨h', m'⟩ ⟨rfl, hb⟩
        obtain ⟨r', np', k6⟩ := hb.ex
        simp -implicitDefEqProofs only [w1, go_sem, Nat.reduceEqDiff, reduceCtorEq, ↓reduceIte]
        refine ⟨i + 1, by omega, rfl, by omega, _, ?_, k6, fun j y hy => ?_⟩
        · rw [map_set, k2, hsn, hst]
        · by_cases hj : j = k
          · subst hj
            rw [List.getElem?_set_self (getElem_lt hLx)] at hy
            cases hy; exact np'
          · rw [List.getElem?_set_ne (Ne.symm hj)] at hy
            exact k4 j y hy
      · have hlt : ((i : Int) < (l.length : Int)) = False := eq_false (by omega)
        have htl : l.take i = l := List.take_of_length_le (by omega)
        rw [htl] at k2
        obtain ⟨ps, hv⟩ := k3.view8
        rw [k2, hLl] at hv
        simp -implicitDefEqProofs only [hlt, go_sem, Nat.reduceEqDiff, reduceCtorEq, ↓reduceIte]
        unfold viewNIs
        rw [hv]; rfl
end W11
/- All turns, if they may be. -/
set_option linter.unusedSimpArgs false
set_option linter.unusedVariables false
namespace W11
open Go Go.AX Go.AX.Ty Go.Proofs

theorem w_All (s : Safe) (hs : Enc.ok s) (p : Page) {c d : Nat} (hp : PgB c d p) (l : List Turn) (hl : l.length ≤ 1000) (hc : c ≤ 1000) (hd : d ≤ 10000) (hok : ∀ t ∈ l, Enc.ok t) (ht : ∀ t ∈ l, t.name.length ≤ 100 ∧ t.value.length ≤ 100) :
    PureF Try.prog 14 [Enc.av s, Enc.av p, Enc.av l] (.tup [Enc.av (if l.all (mayT s p) = true then doB p l else p), .bool (l.all (mayT s p))]) := by
  refine pureF_W mix c14 (by kernel_rfl) (by kernel_rfl) (by simp [flats, flat_av, Go.AX.flat]) (by simp [flat, flats, flat_av]) ?_
  simp -implicitDefEqProofs only [F14, go_sem, Nat.reduceEqDiff, ↓reduceIte]
  refine LoopI_sl (fun i : Nat => l.length - i) (fun i => [(1, Enc.av p), (2, Enc.av l), (3, .ptr 0 0 0), (10, Enc.av l), (11, .int .i64 l.length), (12, .int .i64 i)])
    (fun i st => i ≤ l.length ∧ Pre (fun t => !mayT s p t) l i ∧ 1 ≤ st.next ∧ AX.look 0 st.heap = some (.cells 0 [.ps s.classes.length (cellsL s.classes), .ps s.attrs.length (cellsL s.attrs)] false)) 0 ?_ ?_
  · simp -implicitDefEqProofs only [go_sem, Nat.reduceEqDiff, ↓reduceIte]
    exact Pre.zero _ _
  rintro i ρ ⟨g, m⟩ ⟨h1, h2, h3, h4⟩
  dsimp only at h3 h4
  have m0 : (m = 0) = False := eq_false (by omega)
  have m1 : (0 = m) = False := eq_false (by omega)
  rcases Nat.lt_or_ge i l.length with hi | hi
  · obtain ⟨t, hx, hdr, hm⟩ := get_drop hi
    have hlt : ((i : Int) < (l.length : Int)) = True := eq_true (by omega)
    have w1 : IntKind.i64.wrap ((i : Int) + 1) = ((i + 1 : Nat) : Int) := by rw [wrap64 (by omega) (by omega)]; omega
    have hmay := w_May s hs p t (hok t hm)
    rw [Safe.eav, Turn.eav] at hmay
    simp -implicitDefEqProofs only [hlt, hx, h4, m0, m1, go_sem, Nat.reduceAdd, Nat.reduceEqDiff, Nat.reduceLeDiff, ↓reduceIte]
    refine callI_pure hmay ?_
    cases hmt : mayT s p t
    · have hall : l.all (mayT s p) = false := by
        rw [← Bool.not_eq_true, List.all_eq_true]; intro h; rw [h t hm] at hmt; simp at hmt
      rw [hall]
      simp -implicitDefEqProofs only [go_sem, Nat.reduceEqDiff, ↓reduceIte]
      try rfl
    · simp -implicitDefEqProofs only [w1, go_sem, Nat.reduceEqDiff, Nat.reduceLeDiff, ↓reduceIte]
      exact ⟨i + 1, by omega, rfl, by omega, h2.next hx (by simp [hmt]), by simp only [AX.look, m0, if_false]; exact h4⟩
  · have hlt : ((i : Int) < (l.length : Int)) = False := eq_false (by omega)
    have hall : l.all (mayT s p) = true := by
      rw [List.all_eq_true]; intro t ht'; have := h2.all hi t ht'; simpa using this
    rw [hall, if_pos rfl]
    simp -implicitDefEqProofs only [hlt, go_sem, Nat.reduceEqDiff, ↓reduceIte]
    refine callI_pure (w_Do p hp l hl hc hd hok ht) ?_
    simp -implicitDefEqProofs only [go_sem, Nat.reduceEqDiff, ↓reduceIte]
    try rfl
end W11
/- The fixed calls: all of them. -/
set_option linter.unusedSimpArgs false
set_option linter.unusedVariables false
namespace W11
open Go Go.AX Go.AX.Ty Go.Proofs

theorem viewN_page (g : Nat → Option AX.Obj) (d : Nat) : viewN g (d + 1) fxPage = some (fxPage, []) := rfl
theorem view_page (g : Nat → Option AX.Obj) : view g fxPage = some (fxPage, []) := rfl
theorem fxP_ok : Enc.ok fxP := by simp [fxP, Enc.ok]
theorem fxP_B : PgB 20 1000 fxP := by
  refine ⟨fxP_ok, by decide, ?_, ?_, ?_⟩ <;> simp [fxP]
theorem nil_B : PgB 20 1000 [] := ⟨by simp [Enc.ok], by simp, by simp, by simp, by simp⟩
theorem fxL_ok : ∀ t ∈ fxL, Enc.ok t := by simp [fxL, Turn.ok_iff, Enc.ok]
theorem fxT_ok : ∀ t ∈ fxT, Enc.ok t := by simp [fxT, Turn.ok_iff, Enc.ok]
theorem fxL_len : ∀ t ∈ fxL, t.name.length ≤ 100 ∧ t.value.length ≤ 100 := by simp [fxL]
theorem fxT_len : ∀ t ∈ fxT, t.name.length ≤ 100 ∧ t.value.length ≤ 100 := by simp [fxT]
theorem fxS_ok : Enc.ok fxS := by simp [fxS, Safe.ok_iff, Enc.ok]
theorem fx_do : doB fxP fxL = fxQ := by kernel_rfl
theorem fx_all : fxT.all (mayT fxS fxP) = false := by kernel_rfl
theorem w_fixed : PureF Try.prog 11 [] (.bool true) := by
  have hDo := w_Do fxP fxP_B fxL (by decide) (by decide) (by decide) fxL_ok fxL_len
  have hNil := w_Do [] nil_B [] (by decide) (by decide) (by decide) (by simp) (by simp)
  have hAll := w_All fxS fxS_ok fxP fxP_B fxT (by decide) (by decide) (by decide) fxT_ok fxT_len
  rw [fx_do, ← fxPage_eq] at hDo
  rw [fx_all, if_neg (by decide), ← fxPage_eq] at hAll
  have hSame := w_rSame fxP fxP fxP_ok
  rw [decide_eq_true rfl, ← fxPage_eq] at hSame
  have hM0 := w_May fxS fxS_ok fxP ⟨1, 2, [99], []⟩ (by simp [Turn.ok_iff, Enc.ok])
  rw [show mayT fxS fxP ⟨1, 2, [99], []⟩ = true from by kernel_rfl, ← fxPage_eq] at hM0
  have hM1 := w_May fxS fxS_ok fxP ⟨1, 2, [120, 32, 121], []⟩ (by simp [Turn.ok_iff, Enc.ok])
  rw [show mayT fxS fxP ⟨1, 2, [120, 32, 121], []⟩ = false from by kernel_rfl, ← fxPage_eq] at hM1
  have hM2 := w_May fxS fxS_ok fxP ⟨3, 2, [99, 108, 97, 115, 115], []⟩ (by simp [Turn.ok_iff, Enc.ok])
  rw [show mayT fxS fxP ⟨3, 2, [99, 108, 97, 115, 115], []⟩ = false from by kernel_rfl, ← fxPage_eq] at hM2
  have hM3 := w_May fxS fxS_ok fxP ⟨1, 0, [99], []⟩ (by simp [Turn.ok_iff, Enc.ok])
  rw [show mayT fxS fxP ⟨1, 0, [99], []⟩ = false from by kernel_rfl, ← fxPage_eq] at hM3
  have hM4 := w_May fxS fxS_ok fxP ⟨4, 1, [120], []⟩ (by simp [Turn.ok_iff, Enc.ok])
  rw [show mayT fxS fxP ⟨4, 1, [120], []⟩ = true from by kernel_rfl, ← fxPage_eq] at hM4
  refine pureF_W mix c11 (by kernel_rfl) (by kernel_rfl) rfl rfl ?_
  simp -implicitDefEqProofs only [F11, go_sem]
  refine callI_pure fx_parse ?_
  simp -implicitDefEqProofs only [viewN_page, view_page, go_sem, Nat.reduceAdd, Nat.reduceEqDiff, Nat.reduceLeDiff, Nat.reduceMul, ↓reduceIte]
  refine callI_pure hDo ?_
  simp -implicitDefEqProofs only [viewN_page, view_page, go_sem, Nat.reduceAdd, Nat.reduceEqDiff, Nat.reduceLeDiff, reduceCtorEq, ↓reduceIte]
  refine callI_d hAll ?_
  simp -implicitDefEqProofs only [viewN_page, view_page, go_sem, Nat.reduceAdd, Nat.reduceEqDiff, reduceCtorEq, ↓reduceIte]
  refine andI_intro rfl ?_
  simp -implicitDefEqProofs only [viewN_page, view_page, go_sem, Nat.reduceEqDiff, reduceCtorEq, ↓reduceIte]
  refine callI_pure fx_text ?_
  simp -implicitDefEqProofs only [viewN_page, view_page, go_sem, Nat.reduceEqDiff, ↓reduceIte]
  refine callI_pure hSame ?_
  simp -implicitDefEqProofs only [viewN_page, view_page, go_sem, Nat.reduceAdd, Nat.reduceEqDiff, Nat.reduceLeDiff, reduceCtorEq, ↓reduceIte]
  refine callI_d hM0 ?_
  simp -implicitDefEqProofs only [viewN_page, view_page, go_sem, Nat.reduceAdd, Nat.reduceEqDiff, reduceCtorEq, ↓reduceIte]
  refine andI_intro rfl ?_
  simp -implicitDefEqProofs only [viewN_page, view_page, go_sem, Nat.reduceAdd, Nat.reduceEqDiff, Nat.reduceLeDiff, reduceCtorEq, ↓reduceIte]
  refine callI_d hM1 ?_
  simp -implicitDefEqProofs only [viewN_page, view_page, go_sem, Nat.reduceAdd, Nat.reduceEqDiff, reduceCtorEq, ↓reduceIte]
  refine andI_intro rfl ?_
  simp -implicitDefEqProofs only [viewN_page, view_page, go_sem, Nat.reduceAdd, Nat.reduceEqDiff, Nat.reduceLeDiff, reduceCtorEq, ↓reduceIte]
  refine callI_d hM2 ?_
  simp -implicitDefEqProofs only [viewN_page, view_page, go_sem, Nat.reduceAdd, Nat.reduceEqDiff, reduceCtorEq, ↓reduceIte]
  refine andI_intro rfl ?_
  simp -implicitDefEqProofs only [viewN_page, view_page, go_sem, Nat.reduceAdd, Nat.reduceEqDiff, Nat.reduceLeDiff, reduceCtorEq, ↓reduceIte]
  refine callI_d hM3 ?_
  simp -implicitDefEqProofs only [viewN_page, view_page, go_sem, Nat.reduceAdd, Nat.reduceEqDiff, reduceCtorEq, ↓reduceIte]
  refine andI_intro rfl ?_
  simp -implicitDefEqProofs only [viewN_page, view_page, go_sem, Nat.reduceAdd, Nat.reduceEqDiff, Nat.reduceLeDiff, reduceCtorEq, ↓reduceIte]
  refine callI_d hM4 ?_
  simp -implicitDefEqProofs only [viewN_page, view_page, go_sem, Nat.reduceAdd, Nat.reduceEqDiff, reduceCtorEq, ↓reduceIte]
  refine andI_intro rfl ?_
  simp -implicitDefEqProofs only [viewN_page, view_page, go_sem, Nat.reduceEqDiff, reduceCtorEq, ↓reduceIte]
  refine callI_pure hNil ?_
  simp -implicitDefEqProofs only [viewN_page, view_page, go_sem, Nat.reduceEqDiff, ↓reduceIte]
  try rfl
end W11
