/- order.last. -/
import Derived.Test.YtoilbphgflgbeaaGreatTxD
set_option linter.unusedSimpArgs false
set_option linter.unusedVariables false
namespace W15
open Go Go.AX Go.AX.Ty Go.Proofs
def lastStep (f : Ty.Item → Bool) (top : Option Placed) (x : Placed) : Option Placed :=
  if (f x.item && (match top with | none => true | some t => decide (t.layer ≤ x.layer))) = true then some x else top
def lastB (f : Ty.Item → Bool) (l : List Placed) : Option Placed := l.foldl (lastStep f) none
theorem last_snoc (f : Ty.Item → Bool) (l : List Placed) (x : Placed) : lastB f (l ++ [x]) = lastStep f (lastB f l) x := by
  unfold lastB; rw [List.foldl_append]; rfl
def zero8 : List AV := [.int .i64 0, .nils, .nils, .nils, .int .i64 0, .int .i64 0, .nils, .nils]
def zero9 : List AV := [.int .i64 0, .nils, .nils, .nils, .int .i64 0, .int .i64 0, .nils, .nils, .int .i64 0]
def topC (o : Option Placed) : List AV := match o with | some p => Enc.cells p | none => zero9
def zItem : Ty.Item := ⟨0, [], [], [], 0, 0, [], []⟩
def topI (o : Option Placed) : Ty.Item := match o with | some p => p.item | none => zItem
structure LastI (mf : AV) (O : AX.Obj) (top : Option Placed) (s : St) : Prop where
  n : 4 < s.next
  c0 : s.get 0 = some (.cells 0 [mf] false)
  c1 : s.get 1 = some (.cells 0 zero8 false)
  c2 : s.get 2 = some (.cells 0 (topC top) false)
  c3 : s.get 3 = some (.cells 0 [.bool top.isSome] false)
def ILast (f : Ty.Item → Bool) (mf : AV) (O : AX.Obj) (acc : List Placed) (D : List Nat) (s : St) : Prop := D = [0, 1, 2, 3, 4] ∧ s.get 4 = some O ∧ LastI mf O (lastB f acc) s
theorem LastI.move {mf : AV} {O : AX.Obj} {top : Option Placed} {s s' : St} (h : LastI mf O top s) (h1 : 4 < s'.next) (h2 : ∀ id, id < 4 → s'.get id = s.get id) : LastI mf O top s' :=
  ⟨h1, by rw [h2 0 (by omega)]; exact h.c0, by rw [h2 1 (by omega)]; exact h.c1, by rw [h2 2 (by omega)]; exact h.c2, by rw [h2 3 (by omega)]; exact h.c3⟩
theorem LastI.hide {mf : AV} {O : AX.Obj} {top : Option Placed} {s : St} (h : LastI mf O top s) : LastI mf O top (s.hide [4]) :=
  h.move h.n fun id hid => by rw [get_hide, if_neg (by omega)]
theorem LastI.join {mf : AV} {O : AX.Obj} {top : Option Placed} {s s2 : St} (hr : s.get 4 = some O) (h : LastI mf O top s2) : LastI mf O top (s.join s2 [4]) :=
  h.move h.n fun id hid => by rw [get_join _ _ _ _ hr, if_neg (by omega)]
theorem stepL {f : Ty.Item → Bool} {mf : AV} {O : AX.Obj} {acc : List Placed} {x : Placed} {s s2 : St} (hr : s.get 4 = some O) (h : LastI mf O (lastB f (acc ++ [x])) s2) (h1 : s.next ≤ s2.next) (h3 : ∀ id, id < s.next → 4 < id → s2.get id = s.get id) :
    AV.bool true = .bool true ∧ ∃ D', ILast f mf O (acc ++ [x]) D' (s.join s2 [4]) ∧ s.next ≤ (s.join s2 [4]).next ∧ (∀ id ∈ D', id ∈ [0, 1, 2, 3, 4] ∨ s.next ≤ id) ∧ ∀ id, id < s.next → id ∉ [0, 1, 2, 3, 4] → (s.join s2 [4]).get id = s.get id := by
  have hj := fun id => get_join s s2 4 id hr
  refine ⟨rfl, _, ⟨rfl, by rw [hj, if_pos rfl], h.join hr⟩, h1, fun id h => .inl h, fun id q1 q2 => ?_⟩
  have q3 : 4 < id := by simp only [List.mem_cons, List.not_mem_nil, or_false, not_or] at q2; omega
  rw [hj, if_neg (by omega)]; exact h3 id q1 q3
theorem rangeI_gen2 {P : Program} {N : Nat} {fo : AO} {ps : List Nat} {ca cb : ACode} {ρ : Env} {s : St} {Q : QBox} (h : ∀ ρ' : Env, ρ' = ρ → @RangeI P N fo ps ca cb ρ' s Q) : @RangeI P N fo ps ca cb ρ s Q := h ρ rfl
set_option maxHeartbeats 1600000 in
theorem w_lastO (w : Int) (l : List (List Ty.Item)) (ok : ShOk l) (g : Nat) (f : Ty.Item → Bool) (name : Str) (hf : ∀ p ∈ appB w l, PureF Tryz.prog g [Enc.av p.item, .vp [.str name]] (.bool (f p.item))) :
    PureF Tryz.prog 45 [.int .i64 w, Enc.av l, .fn (.func g) [] [.vp [.str name]]] (.tup [Enc.av (topI (lastB f (appB w l))), .bool (lastB f (appB w l)).isSome]) := by
  refine pureF_WO mix c45 (by kernel_rfl) (by kernel_rfl) (by simp [flats, flat_av, Go.AX.flat]) (by simp [flats, flat_av, Go.AX.flat]) ?_
  simp -implicitDefEqProofs only [F45, go_sem, seval]
  refine callI_pure (w_newCascade w l ok.flat ok.len ok.names) ?_
  simp -implicitDefEqProofs only [go_sem, seval]
  refine callI_pure (w_allc w (layersB l) l) ?_
  simp -implicitDefEqProofs only [go_sem, seval]
  refine rangeI_gen2 fun ρ hρ => ?_
  have h5 : ρ 5 = .ptr 0 0 0 := by rw [hρ]; rfl
  have h6 : ρ 6 = .ptr 1 0 0 := by rw [hρ]; rfl
  have h8 : ρ 8 = .ptr 2 0 0 := by rw [hρ]; rfl
  have h9 : ρ 9 = .ptr 3 0 0 := by rw [hρ]; rfl
  have h15 : evE ρ (.t 15) = .fn (.func 70) [] [.vp [.int .i64 w, .ps (layersB l).length (cellsL (layersB l)), .ps l.length (cellsL l)]] := by rw [hρ]; rfl
  clear hρ
  refine ⟨_, _, fun lp rec us s' => ∃ D, ILast f (.fn (.func g) [] [.vp [.str name]]) (.raw lp (.loop rec) (Frm 36 ρ) us) (appB w l) D s', h15, fun lp rec us okr => ?_, fun lp rec us s' okr hR => ?_⟩
  · have Y : YSpec lp (appB w l) (ILast f (.fn (.func g) [] [.vp [.str name]]) (.raw lp (.loop rec) (Frm 36 ρ) us)) := by
      refine ⟨fun ⟨h, _, h2⟩ id hid => ?_, fun ⟨h, h1, h2⟩ h3 h4 => ?_, ?_⟩
      · subst h; have := h2.n; simp only [List.mem_cons, List.not_mem_nil, or_false] at hid; omega
      · subst h; exact ⟨rfl, by rw [h4 4 (by simp)]; exact h1, h2.move (by have := h2.n; omega) fun id hid => h4 id (by simp only [List.mem_cons, List.not_mem_nil, or_false]; omega)⟩
      rintro acc D s x hT ⟨rfl, hr, h1⟩
      refine ayield_W mix hr okr rfl (by kernel_rfl) ?_
      have hmem : x ∈ appB w l := hT.subset (by simp)
      have hfx := hf x hmem
      have ep : updPs ρ [16] [Enc.av x] = upd ρ 16 (Enc.av x) := rfl
      rw [ep, Placed.eav]
      have h2 := h1.hide
      have hg := get_hide s 4
      have hn : (s.hide [4]).next = s.next := rfl
      generalize s.hide [4] = s0 at hg hn h2
      obtain ⟨gg, m⟩ := s0
      have g0 := h2.c0
      have g1 := h2.c1
      have g2 := h2.c2
      have g3 := h2.c3
      have gn := h2.n
      simp only [St.get] at g0 g1 g2 g3 hn hg gn
      have m0 : (m = 0) = False := eq_false (by omega)
      have m1 : (m = 1) = False := eq_false (by omega)
      have m2 : (m = 2) = False := eq_false (by omega)
      have m3 : (m = 3) = False := eq_false (by omega)
      simp -implicitDefEqProofs only [h5, h6, h8, h9, g0, g1, g2, g3, m0, m1, m2, m3, go_sem, seval]
      rw [Item.eav] at hfx
      refine callI_pure hfx ?_
      have hsn := last_snoc f acc x
      cases hb : f x.item
      · have hsn2 : lastB f (acc ++ [x]) = lastB f acc := by rw [hsn]; unfold lastStep; rw [hb]; rfl
        simp -implicitDefEqProofs only [go_sem, seval]
        refine stepL hr (by rw [hsn2]; exact h2.move (by simp only; omega) fun id hid => by simp only [St.get, AX.look]; rw [if_neg (by omega)]) (by simp only; omega) fun id q1 q2 => by simp only [St.get, AX.look]; rw [if_neg (by omega), hg, if_neg (by omega)]
      · generalize lastB f acc = top at *
        cases top with
        | none =>
          have hsn2 : lastB f (acc ++ [x]) = some x := by rw [hsn]; unfold lastStep; rw [hb]; rfl
          simp only [topC, zero9, zero8, Option.isSome_none] at g2 g3 g1
          simp -implicitDefEqProofs only [h8, h9, g2, g3, m0, m1, m2, m3, go_sem, seval]
          refine stepL hr (by rw [hsn2]; exact ⟨by simp only; omega, by simp only [St.get, AX.look, look_putAt, g0, g1, g2, g3, m0, m1, m2, m3, Nat.reduceEqDiff, if_false, if_true, Option.map_some, topC, Placed.ecells, Option.isSome_some, zero8, reduceCtorEq, Nat.reduceEqDiff], by simp only [St.get, AX.look, look_putAt, g0, g1, g2, g3, m0, m1, m2, m3, Nat.reduceEqDiff, if_false, if_true, Option.map_some, topC, Placed.ecells, Option.isSome_some, zero8, reduceCtorEq, Nat.reduceEqDiff], by simp only [St.get, AX.look, look_putAt, g0, g1, g2, g3, m0, m1, m2, m3, Nat.reduceEqDiff, if_false, if_true, Option.map_some, topC, Placed.ecells, Option.isSome_some, zero8, reduceCtorEq, Nat.reduceEqDiff], by simp only [St.get, AX.look, look_putAt, g0, g1, g2, g3, m0, m1, m2, m3, Nat.reduceEqDiff, if_false, if_true, Option.map_some, topC, Placed.ecells, Option.isSome_some, zero8, reduceCtorEq, Nat.reduceEqDiff]⟩) (by simp only; omega) fun id q1 q2 => by
            have a2 : ¬ 2 = id := by omega
            have a3 : ¬ 3 = id := by omega
            have am : ¬ m = id := by omega
            simp only [St.get, AX.look, look_putAt, a2, a3, am, if_false]
            rw [hg, if_neg (by omega)]
        | some p =>
          simp only [topC, Placed.ecells, zero8, Option.isSome_some] at g2 g3 g1
          by_cases hle : p.layer ≤ x.layer
          · have hsn2 : lastB f (acc ++ [x]) = some x := by rw [hsn]; unfold lastStep; rw [hb]; simp [hle]
            have fle : (x.layer ≥ p.layer) = True := eq_true hle
            simp -implicitDefEqProofs only [h8, h9, g2, g3, m0, m1, m2, m3, fle, go_sem, seval]
            refine stepL hr (by rw [hsn2]; exact ⟨by simp only; omega, by simp only [St.get, AX.look, look_putAt, g0, g1, g2, g3, m0, m1, m2, m3, Nat.reduceEqDiff, if_false, if_true, Option.map_some, topC, Placed.ecells, Option.isSome_some, zero8, reduceCtorEq, Nat.reduceEqDiff], by simp only [St.get, AX.look, look_putAt, g0, g1, g2, g3, m0, m1, m2, m3, Nat.reduceEqDiff, if_false, if_true, Option.map_some, topC, Placed.ecells, Option.isSome_some, zero8, reduceCtorEq, Nat.reduceEqDiff], by simp only [St.get, AX.look, look_putAt, g0, g1, g2, g3, m0, m1, m2, m3, Nat.reduceEqDiff, if_false, if_true, Option.map_some, topC, Placed.ecells, Option.isSome_some, zero8, reduceCtorEq, Nat.reduceEqDiff], by simp only [St.get, AX.look, look_putAt, g0, g1, g2, g3, m0, m1, m2, m3, Nat.reduceEqDiff, if_false, if_true, Option.map_some, topC, Placed.ecells, Option.isSome_some, zero8, reduceCtorEq, Nat.reduceEqDiff]⟩) (by simp only; omega) fun id q1 q2 => by
              have a2 : ¬ 2 = id := by omega
              have a3 : ¬ 3 = id := by omega
              have am : ¬ m = id := by omega
              simp only [St.get, AX.look, look_putAt, a2, a3, am, if_false]
              rw [hg, if_neg (by omega)]
          · have hsn2 : lastB f (acc ++ [x]) = some p := by rw [hsn]; unfold lastStep; rw [hb]; simp [hle]
            have fle : (x.layer ≥ p.layer) = False := eq_false hle
            simp -implicitDefEqProofs only [h8, h9, g2, g3, m0, m1, m2, m3, fle, go_sem, seval]
            refine stepL hr (by rw [hsn2]; exact ⟨by simp only; omega, by simp only [St.get, AX.look, look_putAt, g0, g1, g2, g3, m0, m1, m2, m3, Nat.reduceEqDiff, if_false, if_true, Option.map_some, topC, Placed.ecells, Option.isSome_some, zero8, reduceCtorEq, Nat.reduceEqDiff], by simp only [St.get, AX.look, look_putAt, g0, g1, g2, g3, m0, m1, m2, m3, Nat.reduceEqDiff, if_false, if_true, Option.map_some, topC, Placed.ecells, Option.isSome_some, zero8, reduceCtorEq, Nat.reduceEqDiff], by simp only [St.get, AX.look, look_putAt, g0, g1, g2, g3, m0, m1, m2, m3, Nat.reduceEqDiff, if_false, if_true, Option.map_some, topC, Placed.ecells, Option.isSome_some, zero8, reduceCtorEq, Nat.reduceEqDiff], by simp only [St.get, AX.look, look_putAt, g0, g1, g2, g3, m0, m1, m2, m3, Nat.reduceEqDiff, if_false, if_true, Option.map_some, topC, Placed.ecells, Option.isSome_some, zero8, reduceCtorEq, Nat.reduceEqDiff]⟩) (by simp only; omega) fun id q1 q2 => by
              have a2 : ¬ 2 = id := by omega
              have a3 : ¬ 3 = id := by omega
              have am : ¬ m = id := by omega
              simp only [St.get, AX.look, look_putAt, a2, a3, am, if_false]
              rw [hg, if_neg (by omega)]
    have he := w_allS Y w ok (acc := []) (by simp) (D := [0, 1, 2, 3, 4]) (s := St.push ⟨[(3, .cells 0 [.bool false] false), (2, .cells 0 zero9 false), (1, .cells 0 zero8 false), (0, .cells 0 [.fn (.func g) [] [.vp [.str name]]] false)], 4⟩ (.raw lp (.loop rec) (Frm 36 ρ) us)) ⟨rfl, rfl, by simp [St.push], rfl, rfl, rfl, rfl⟩
    exact he.mono fun v s' ⟨D, h, _⟩ => ⟨D, by simpa using h⟩
  · obtain ⟨D, _, hr, h1⟩ := hR
    refine ⟨_, _, .inl ⟨hr, ?_⟩⟩
    have h2 := LastI.hide h1
    generalize s'.hide [4] = s2 at h2
    obtain ⟨gg, m⟩ := s2
    have g0 := h2.c0
    have g1 := h2.c1
    have g2 := h2.c2
    have g3 := h2.c3
    simp only [St.get] at g0 g1 g2 g3
    generalize lastB f (appB w l) = top at *
    cases top with
    | none =>
      simp only [topC, zero9, zero8, Option.isSome_none] at g2 g3 g1
      simp -implicitDefEqProofs only [h5, h6, h8, h9, g0, g1, g2, g3, go_sem, seval]
      have gn := h2.n
      simp only at gn
      refine andI_intro (by (first | omega | (simp [indepB, indep1, apart1, Nat.testBit_eq_decide_div_mod_eq]; done) | (simp [indepB, indep1, apart1, Nat.testBit_eq_decide_div_mod_eq]; omega) | kernel_rfl)) ?_
      simp -implicitDefEqProofs only [h6, h9, g0, g1, g2, g3, go_sem, seval]
      repeat (refine andI_intro (by (first | omega | (simp [indepB, indep1, apart1, Nat.testBit_eq_decide_div_mod_eq]; done) | (simp [indepB, indep1, apart1, Nat.testBit_eq_decide_div_mod_eq]; omega) | kernel_rfl)) ?_; simp -implicitDefEqProofs only [h6, h9, g0, g1, g2, g3, go_sem, seval])
      unfold viewNIs topI
      rfl
    | some p =>
      simp only [topC, Placed.ecells, zero8, Option.isSome_some] at g2 g3 g1
      simp -implicitDefEqProofs only [h5, h6, h8, h9, g0, g1, g2, g3, go_sem, seval]
      have gn := h2.n
      simp only at gn
      refine andI_intro (by (first | omega | (simp [indepB, indep1, apart1, Nat.testBit_eq_decide_div_mod_eq]; done) | (simp [indepB, indep1, apart1, Nat.testBit_eq_decide_div_mod_eq]; omega) | kernel_rfl)) ?_
      simp -implicitDefEqProofs only [h6, h9, g0, g1, g2, g3, go_sem, seval]
      repeat (refine andI_intro (by (first | omega | (simp [indepB, indep1, apart1, Nat.testBit_eq_decide_div_mod_eq]; done) | (simp [indepB, indep1, apart1, Nat.testBit_eq_decide_div_mod_eq]; omega) | kernel_rfl)) ?_; simp -implicitDefEqProofs only [h6, h9, g0, g1, g2, g3, go_sem, seval])
      unfold viewNIs topI
      simp [viewN, viewList, wrapV, flats_cellsL]
end W15
/- Frames; fonts. -/
set_option linter.unusedSimpArgs false
set_option linter.unusedVariables false
namespace W15
open Go Go.AX Go.AX.Ty Go.Proofs
theorem w_Frames (w : Int) (name : Str) (l : List (List Ty.Item)) (ok : ShOk l) :
    PureF Tryz.prog 18 [.int .i64 w, .str name, Enc.av l] (.tup [Enc.av (topI (lastB (framesB name) (appB w l))).vals, .bool (lastB (framesB name) (appB w l)).isSome]) := by
  refine pureF_W mix c18 (by kernel_rfl) (by kernel_rfl) (by simp [flats, flat_av, Go.AX.flat]) (by simp [flats, flat_av, Go.AX.flat]) ?_
  simp -implicitDefEqProofs only [F18, go_sem, seval]
  refine callI_d (w_lastO w l ok 46 (framesB name) name fun p _ => w_frames1 p.item name) ?_
  simp -implicitDefEqProofs only [go_sem, seval]
theorem w_Backward (ds : List Ty.Decl) : PureF Tryz.prog 48 [Enc.av ds] (.fn (.func 75) [] [.vp [.ps ds.length (cellsL ds)]]) := by
  refine pureF_WD mix c48 (by kernel_rfl) (by kernel_rfl) (by simp [flats, flat_av]) (by simp [flat, flats, flats_cellsL]) ?_
  simp -implicitDefEqProofs only [F48, go_sem, seval]
  unfold viewNIs
  simp [viewN, viewList, wrapO, wrapV, wrapV2, St.get, AX.look, flats_cellsL]
structure BSpec (lp : Nat) (ds : List Ty.Decl) (stop : Ty.Decl → Bool) (I : St → Prop) (J : Ty.Decl → St → Prop) : Prop where
  go : ∀ {s : St} (d : Ty.Decl) (i : Int), d ∈ ds → stop d = false → I s → AYield Tryz.prog lp [.int .i64 i, Enc.av d] s fun v s' => v = .bool true ∧ I s'
  halt : ∀ {s : St} (d : Ty.Decl) (i : Int), d ∈ ds → stop d = true → I s → AYield Tryz.prog lp [.int .i64 i, Enc.av d] s fun v s' => v = .bool false ∧ J d s'
def bOut (I : St → Prop) (J : Ty.Decl → St → Prop) (o : Option Ty.Decl) (s : St) : Prop := match o with | some d => J d s | none => I s
theorem find_snoc {p : Ty.Decl → Bool} {ds : List Ty.Decl} {i : Nat} {d : Ty.Decl} (h : ds[i]? = some d) : (ds.take (i + 1)).reverse.find? p = if p d = true then some d else (ds.take i).reverse.find? p := by
  rw [List.take_add_one, h]
  simp only [Option.toList_some, List.reverse_append, List.reverse_singleton, List.singleton_append, List.find?_cons]
  cases p d <;> rfl
theorem w_Back1 {lp : Nat} {stop : Ty.Decl → Bool} {I : St → Prop} {J : Ty.Decl → St → Prop} {ds : List Ty.Decl} (B : BSpec lp ds stop I J) (hl : ds.length ≤ 1000000) {s : St} (hI : I s) :
    ACalls Tryz.prog 75 [.fn (.yield lp) [] [], .vp [.ps ds.length (cellsL ds)]] s fun v s' => bOut I J (ds.reverse.find? stop) s' := by
  obtain ⟨h0, m0⟩ := s
  refine acalls_W mix (C0_ok _) c75 (by kernel_rfl) (Nat.le_of_ble_eq_true (by kernel_rfl)) ?_
  have w0 : IntKind.i64.wrap ((ds.length : Int) - 1) = (ds.length : Int) - 1 := wrap64 (by omega) (by omega)
  simp -implicitDefEqProofs only [F75, w0, go_sem, seval]
  refine LoopI_sl (fun i : Nat => i) (fun i => [(0, .fn (.yield lp) [] []), (1, .vp [.ps ds.length (cellsL ds)]), (3, .int .i64 ((i : Int) - 1))]) (fun i s => i ≤ ds.length ∧ ds.reverse.find? stop = (ds.take i).reverse.find? stop ∧ I s) ds.length ?_ ?_
  · simp -implicitDefEqProofs only [go_sem, seval]
    exact ⟨by rw [List.take_length], hI⟩
  rintro i ρ ⟨g, m⟩ ⟨h1, h2, h3⟩
  rcases Nat.lt_or_ge 0 i with hk | hk
  · obtain ⟨d, hx, hdr, hm⟩ := get_drop (l := ds) (k := i - 1) (by omega)
    have hge : ((i : Int) - 1 ≥ 0) = True := eq_true (by omega)
    have w1 : IntKind.i64.wrap ((i : Int) - 1 - 1) = (((i - 1 : Nat) : Int) - 1) := by rw [wrap64 (by omega) (by omega)]; omega
    have hti : ((i : Int) - 1).toNat = i - 1 := by omega
    have hz0 : ((0 : Int) ≤ (i : Int) - 1) = True := eq_true (by omega)
    have hsn := find_snoc (p := stop) hx
    rw [show i - 1 + 1 = i by omega] at hsn
    cases hst : stop d
    · rw [hst] at hsn
      have hy := B.go d ((i : Int) - 1) hm hst h3
      rw [Decl.eav] at hy
      simp -implicitDefEqProofs only [hge, hti, hx, hz0, go_sem, seval]
      refine yieldI_all hy ?_
      rintro v ⟨g2, m2⟩ ⟨rfl, j1⟩
      simp -implicitDefEqProofs only [w1, go_sem, seval]
      exact ⟨i - 1, by omega, rfl, by omega, by rw [h2, hsn]; rfl, j1⟩
    · rw [hst] at hsn
      have hy := B.halt d ((i : Int) - 1) hm hst h3
      rw [Decl.eav] at hy
      simp -implicitDefEqProofs only [hge, hti, hx, hz0, go_sem, seval]
      refine yieldI_all hy ?_
      rintro v ⟨g2, m2⟩ ⟨rfl, j1⟩
      simp -implicitDefEqProofs only [go_sem, seval]
      rw [h2, hsn]
      exact j1
  · have hge : ((i : Int) - 1 ≥ 0) = False := eq_false (by omega)
    have hi : i = 0 := by omega
    subst hi
    simp -implicitDefEqProofs only [hge, go_sem, seval]
    rw [h2]; exact h3
end W15
/- Fonts. -/
set_option linter.unusedSimpArgs false
set_option linter.unusedVariables false
namespace W15
open Go Go.AX Go.AX.Ty Go.Proofs
structure FontI (x : Ty.Item) (b : Bool) (s : St) : Prop where
  n : 2 < s.next
  c0 : s.get 0 = some (.cells 0 (Enc.cells x) false)
  c1 : s.get 1 = some (.cells 0 [.bool b] false)
theorem FontI.move {x : Ty.Item} {b : Bool} {s s' : St} (h : FontI x b s) (h1 : 2 < s'.next) (h2 : ∀ id, id < 2 → s'.get id = s.get id) : FontI x b s' :=
  ⟨h1, by rw [h2 0 (by omega)]; exact h.c0, by rw [h2 1 (by omega)]; exact h.c1⟩
theorem FontI.hide {x : Ty.Item} {b : Bool} {s : St} (h : FontI x b s) : FontI x b (s.hide [2]) :=
  h.move h.n fun id hid => by rw [get_hide, if_neg (by omega)]
theorem FontI.join {x : Ty.Item} {b : Bool} {s s2 : St} {O : AX.Obj} (hr : s.get 2 = some O) (h : FontI x b s2) : FontI x b (s.join s2 [2]) :=
  h.move h.n fun id hid => by rw [get_join _ _ _ _ hr, if_neg (by omega)]
theorem get_put (s : St) (r id : Nat) (o : AX.Obj) : (s.put r o).get id = if r = id then (s.get id).map (fun _ => o) else s.get id := by
  simp only [St.put, St.get, look_putAt]
  split
  · rename_i h; subst h; rfl
  · rfl
theorem FontI.put {x : Ty.Item} {b : Bool} {s : St} {O : AX.Obj} (h : FontI x b s) : FontI x b (s.put 2 O) :=
  h.move h.n fun id hid => by rw [get_put, if_neg (by omega)]
set_option maxHeartbeats 1600000 in
theorem w_font1 (x : Ty.Item) (hl : x.decls.length ≤ 1000000) (hd : ∀ d ∈ x.decls, d.l.length ≤ 1000000) (name : Str) : PureF Tryz.prog 47 [Enc.av x, .vp [.str name]] (.bool (fontB name x)) := by
  obtain ⟨fv, hfv⟩ : ∃ fv : Ty.Decl → Bool, ∀ d, fv d = (decide (x.kind = 6) && (famB d.l == some name)) := ⟨_, fun _ => rfl⟩
  refine pureF_WO mix c47 (by kernel_rfl) (by kernel_rfl) (by simp [flats, flat, flat_av]) (by simp [flat]) ?_
  simp -implicitDefEqProofs only [F47, go_sem, seval]
  refine callI_pure (w_Backward x.decls) ?_
  simp -implicitDefEqProofs only [go_sem, seval]
  refine rangeI_gen2 fun ρ hρ => ?_
  have h1 : ρ 1 = .vp [.str name] := by rw [hρ]; rfl
  have h2 : ρ 2 = .ptr 0 0 0 := by rw [hρ]; rfl
  have h3 : ρ 3 = .ptr 1 0 0 := by rw [hρ]; rfl
  have h8 : evE ρ (.t 8) = .fn (.func 75) [] [.vp [.ps x.decls.length (cellsL x.decls)]] := by rw [hρ]; rfl
  clear hρ
  refine ⟨_, _, fun lp rec us s' => bOut (fun s => FontI x false s ∧ s.get 2 = some (.raw lp (.loop rec) (Frm 23 ρ) us)) (fun d s => FontI x (fv d) s ∧ s.get 2 = some (.raw lp (.loop (doneRec rec)) (Frm 23 ρ) us)) (x.decls.reverse.find? fun d => d.name == ffN) s', h8, fun lp rec us okr => ?_, fun lp rec us s' okr hR => ?_⟩
  · have B : BSpec lp x.decls (fun d => d.name == ffN) (fun s => FontI x false s ∧ s.get 2 = some (.raw lp (.loop rec) (Frm 23 ρ) us)) (fun d s => FontI x (fv d) s ∧ s.get 2 = some (.raw lp (.loop (doneRec rec)) (Frm 23 ρ) us)) := by
      have comm : ∀ {s : St} (d : Ty.Decl) (i : Int), d ∈ x.decls → FontI x false s ∧ s.get 2 = some (.raw lp (.loop rec) (Frm 23 ρ) us) → AYield Tryz.prog lp [.int .i64 i, Enc.av d] s fun v s' =>
          if (d.name == ffN) = true then v = .bool false ∧ (FontI x (fv d) s' ∧ s'.get 2 = some (.raw lp (.loop (doneRec rec)) (Frm 23 ρ) us)) else v = .bool true ∧ (FontI x false s' ∧ s'.get 2 = some (.raw lp (.loop rec) (Frm 23 ρ) us)) := by
        rintro s d i hdm ⟨hI, hr⟩
        refine ayield_W mix hr okr rfl (by kernel_rfl) ?_
        have ep : updPs ρ [9, 10] [.int .i64 i, Enc.av d] = upd (upd ρ 9 (.int .i64 i)) 10 (Enc.av d) := rfl
        rw [ep, Decl.eav]
        have hh := hI.hide
        have hj := fun (b : Bool) (s1 : St) => FontI.join (x := x) (b := b) (s2 := s1) hr
        have hj2 := fun s1 id => get_join s s1 2 id hr
        generalize s.hide [2] = s0 at hh
        obtain ⟨gg, m⟩ := s0
        have g0 := hh.c0
        have g1 := hh.c1
        have gn := hh.n
        simp only [St.get, Item.ecells] at g0 g1 gn
        have m0 : (m = 0) = False := eq_false (by omega)
        have m1 : (m = 1) = False := eq_false (by omega)
        by_cases hn : d.name = ffN
        · have fn : (d.name = [102, 111, 110, 116, 45, 102, 97, 109, 105, 108, 121]) = True := eq_true hn
          have hnb : (d.name == ffN) = true := by simp [hn]
          by_cases hk : x.kind = 6
          · have fk := eq_true hk
            have hfam := w_family d.l (hd d hdm) name
            simp -implicitDefEqProofs only [h1, h2, h3, g0, g1, m0, m1, fn, fk, go_sem, seval]
            refine callI_pure hfam ?_
            simp -implicitDefEqProofs only [h3, g1, m0, m1, fk, go_sem, seval]
            simp only [roundE]
            rw [if_pos hn]
            have hv : fv d = (famB d.l == some name) := by rw [hfv]; simp [hk]
            refine ⟨by simp, FontI.put (hj _ _ ⟨by simp only; omega, ?_, ?_⟩), ?_⟩
            · simp only [St.get, AX.look, look_putAt, m0, Nat.reduceEqDiff, if_false, g0, Item.ecells]
            · simp only [St.get, AX.look, look_putAt, m1, if_true, if_false, g1, Option.map_some, hv]
            · have := get_put (s.join ⟨(m, .cells 0 [.str d.name, .ps d.l.length (cellsL d.l), .bool d.important] false) :: putAt 1 (.cells 0 [.bool (famB d.l == some name)] false) gg, m + 1⟩ [2]) 2 2 (.raw lp (.loop (doneRec rec)) (Frm 23 ρ) us)
              rw [if_pos rfl, hj2, if_pos rfl] at this
              exact this
          · have fk := eq_false hk
            simp -implicitDefEqProofs only [h1, h2, h3, g0, g1, m0, m1, fn, fk, go_sem, seval]
            simp only [roundE]
            rw [if_pos hn]
            have hv : fv d = false := by rw [hfv]; simp [hk]
            refine ⟨by simp, FontI.put (hj _ _ ⟨by simp only; omega, ?_, ?_⟩), ?_⟩
            · simp only [St.get, AX.look, look_putAt, m0, Nat.reduceEqDiff, if_false, g0, Item.ecells]
            · simp only [St.get, AX.look, look_putAt, m1, if_true, if_false, g1, Option.map_some, hv]
            · have := get_put (s.join ⟨(m, .cells 0 [.str d.name, .ps d.l.length (cellsL d.l), .bool d.important] false) :: putAt 1 (.cells 0 [.bool false] false) gg, m + 1⟩ [2]) 2 2 (.raw lp (.loop (doneRec rec)) (Frm 23 ρ) us)
              rw [if_pos rfl, hj2, if_pos rfl] at this
              exact this
        · have fn : (d.name = [102, 111, 110, 116, 45, 102, 97, 109, 105, 108, 121]) = False := eq_false hn
          have hnb : (d.name == ffN) = false := by simp [hn]
          simp -implicitDefEqProofs only [h1, h2, h3, g0, g1, m0, m1, fn, go_sem, seval]
          simp only [roundE]
          rw [if_neg hn]
          refine ⟨by simp, hj _ _ ⟨by simp only; omega, ?_, ?_⟩, ?_⟩
          · simp only [St.get, AX.look, m0, if_false, g0, Item.ecells]
          · simp only [St.get, AX.look, m1, if_false, g1]
          · exact (hj2 _ 2).trans (if_pos rfl)
      refine ⟨fun d i hdm hst hI => (comm d i hdm hI).mono fun v s' h => ?_, fun d i hdm hst hI => (comm d i hdm hI).mono fun v s' h => ?_⟩
      · rw [if_neg (by rw [hst]; decide)] at h; exact h
      · rw [if_pos hst] at h; exact h
    have he := w_Back1 B hl (s := St.push ⟨[(1, .cells 0 [.bool false] false), (0, .cells 0 (Enc.cells x) false)], 2⟩ (.raw lp (.loop rec) (Frm 23 ρ) us)) ⟨⟨by simp [St.push], rfl, rfl⟩, rfl⟩
    rw [Item.ecells] at he
    exact he
  · cases hfd : x.decls.reverse.find? (fun d => d.name == ffN) with
    | none =>
      rw [hfd] at hR
      obtain ⟨hI, hr⟩ := hR
      refine ⟨_, _, .inl ⟨hr, ?_⟩⟩
      have hh := hI.hide
      generalize s'.hide [2] = s2 at hh
      obtain ⟨gg, m⟩ := s2
      have g0 := hh.c0
      have g1 := hh.c1
      simp only [St.get] at g0 g1
      have hff : fontB name x = false := by unfold fontB famD; rw [hfd]; simp
      simp -implicitDefEqProofs only [h3, g1, go_sem, seval]
      rw [hff]; rfl
    | some d =>
      rw [hfd] at hR
      obtain ⟨hI, hr⟩ := hR
      refine ⟨_, _, .inr ⟨hr, ?_⟩⟩
      have hh := hI.hide
      generalize s'.hide [2] = s2 at hh
      obtain ⟨gg, m⟩ := s2
      have g0 := hh.c0
      have g1 := hh.c1
      simp only [St.get] at g0 g1
      have hff : fontB name x = fv d := by rw [hfv]; unfold fontB famD; rw [hfd]
      simp -implicitDefEqProofs only [h3, g1, go_sem, seval]
      rw [hff]; rfl
end W15
/- Better. -/
set_option linter.unusedSimpArgs false
set_option linter.unusedVariables false
namespace W15
open Go Go.AX Go.AX.Ty Go.Proofs
theorem w_Font (w : Int) (name : Str) (l : List (List Ty.Item)) (ok : ShOk l) (hd : ∀ p ∈ appB w l, p.item.decls.length ≤ 1000000 ∧ ∀ d ∈ p.item.decls, d.l.length ≤ 1000000) :
    PureF Tryz.prog 20 [.int .i64 w, .str name, Enc.av l] (.tup [Enc.av (topI (lastB (fontB name) (appB w l))).decls, .bool (lastB (fontB name) (appB w l)).isSome]) := by
  refine pureF_W mix c20 (by kernel_rfl) (by kernel_rfl) (by simp [flats, flat_av, Go.AX.flat]) (by simp [flats, flat_av, Go.AX.flat]) ?_
  simp -implicitDefEqProofs only [F20, go_sem, seval]
  refine callI_d (w_lastO w l ok 47 (fontB name) name fun p hp => w_font1 p.item (hd p hp).1 (hd p hp).2 name) ?_
  simp -implicitDefEqProofs only [go_sem, seval]
theorem w_Compare (a b : Int) : PureF Tryz.prog 56 [.int .i64 a, .int .i64 b] (.int .i64 (cmpI a b)) := ⟨wt24 a b, rfl, rfl⟩
theorem w_Or (a b c : Int) : PureF Tryz.prog 57 [.ps 3 [.int .i64 a, .int .i64 b, .int .i64 c]] (.int .i64 (orI a b c)) := ⟨wt23 a b c, rfl, rfl⟩
def weighI (w v : W3) : Int := if ltW w v = true then -1 else if ltW v w = true then 1 else 0
theorem cmpI_eq (a : Int) : cmpI a a = 0 := by unfold cmpI; rw [if_neg (by omega), if_neg (by omega)]
theorem cmpI_ne {a b : Int} (h : a ≠ b) : cmpI a b ≠ 0 ∧ (cmpI a b > 0 ↔ b < a) := by
  unfold cmpI
  by_cases h1 : a < b
  · rw [if_pos h1]; constructor <;> omega
  · rw [if_neg h1, if_pos (by omega)]; constructor <;> omega
theorem cmpI_neg (a b : Int) : IntKind.i64.wrap (0 - cmpI a b) = cmpI b a := by
  unfold cmpI
  by_cases h1 : a < b
  · rw [if_pos h1, if_neg (by omega), if_pos h1]; rfl
  · rw [if_neg h1]
    by_cases h2 : b < a
    · rw [if_pos h2, if_pos h2]; rfl
    · rw [if_neg h2, if_neg h2, if_neg h1]; rfl
theorem gt_lt (w v : W3) : gtW w v = ltW v w := rfl
theorem weigh_eq (w : W3) : weighI w w = 0 := by
  have := gtW_irr w; rw [gt_lt] at this
  unfold weighI; rw [this]; rfl
theorem weigh_ne {w v : W3} (h : w ≠ v) : weighI w v ≠ 0 ∧ (weighI w v > 0 ↔ gtW w v = true) := by
  unfold weighI
  rcases gtW_tri w v with h1 | h1 | h1
  · exact absurd h1 h
  · have h2 := gtW_asym h1
    rw [gt_lt] at h2
    have h3 := h1
    rw [gt_lt] at h3
    rw [h2, if_neg (by decide), if_pos h3]
    simp [h1]
  · have h2 := gtW_asym h1
    rw [gt_lt] at h1
    rw [h1, if_pos rfl]
    simp [h2]
theorem or_gt (l l' p p' : Int) (w v : W3) : (orI (cmpI l l') (weighI w v) (cmpI p p') > 0) ↔ (if l = l' then (if w = v then p' < p else gtW w v = true) else l' < l) := by
  unfold orI
  by_cases h : l = l'
  · subst h
    rw [cmpI_eq, if_neg (by simp), if_pos rfl]
    by_cases h2 : w = v
    · subst h2
      rw [weigh_eq, if_neg (by simp), if_pos rfl]
      by_cases h3 : p = p'
      · subst h3; rw [cmpI_eq]; omega
      · exact (cmpI_ne h3).2
    · rw [if_pos (weigh_ne h2).1, if_neg h2]; exact (weigh_ne h2).2
  · rw [if_pos (cmpI_ne h).1, if_neg h]; exact (cmpI_ne h).2
theorem w_weigh (w v : W3) : PureF Tryz.prog 58 [Enc.av w, Enc.av v] (.int .i64 (weighI w v)) := by
  refine pureF_W mix c58 (by kernel_rfl) (by kernel_rfl) (by simp [flats, flat_av, Go.AX.flat]) (by first | exact flat_av _ | simp [flat, flats, flat_av]) ?_
  have h1 := vt13 w v
  have h2 := vt13 v w
  rw [W3.eav, W3.eav] at h1 h2
  unfold weighI
  simp -implicitDefEqProofs only [F58, go_sem, seval]
  refine callI_pure h1 ?_
  cases ltW w v
  · simp -implicitDefEqProofs only [go_sem, seval]
    refine callI_pure h2 ?_
    cases ltW v w
    · simp -implicitDefEqProofs only [go_sem, seval]
      try rfl
    · simp -implicitDefEqProofs only [go_sem, seval]
      try rfl
  · simp -implicitDefEqProofs only [go_sem, seval]
    try rfl
theorem w_Better (a b : Ty.Found) : PureF Tryz.prog 27 [Enc.av a, Enc.av b] (.bool (betterB a b)) := by
  refine pureF_W mix c27 (by kernel_rfl) (by kernel_rfl) (by simp [flats, flat_av, Go.AX.flat]) (by first | exact flat_av _ | simp [flat, flats, flat_av]) ?_
  obtain ⟨⟨an, al, ai⟩, ly, ⟨wa, wb, wc⟩, p⟩ := a
  obtain ⟨⟨bn, bl, bi⟩, ly', ⟨wa', wb', wc'⟩, p'⟩ := b
  have c1 := w_Compare ly ly'
  have c2 := w_Compare p p'
  have c3 := w_weigh ⟨wa, wb, wc⟩ ⟨wa', wb', wc'⟩
  rw [W3.eav, W3.eav] at c3
  cases ai <;> cases bi
  · simp -implicitDefEqProofs only [F27, go_sem, seval]
    refine callI_pure c1 ?_
    simp -implicitDefEqProofs only [go_sem, seval]
    refine dcallI_pure c3 ?_
    simp -implicitDefEqProofs only [go_sem, seval]
    refine dcallI_pure c2 ?_
    simp -implicitDefEqProofs only [go_sem, seval]
    have wn := cmpI_neg ly ly'
    refine dcallI_pure (w_Or (cmpI ly ly') (weighI ⟨wa, wb, wc⟩ ⟨wa', wb', wc'⟩) (cmpI p p')) ?_
    simp -implicitDefEqProofs only [go_sem, seval]
    refine andI_intro (by (first | omega | (simp [indepB, indep1, apart1, Nat.testBit_eq_decide_div_mod_eq]; done) | (simp [indepB, indep1, apart1, Nat.testBit_eq_decide_div_mod_eq]; omega) | kernel_rfl)) ?_
    simp -implicitDefEqProofs only [go_sem, seval]
    congr 1
    rw [Bool.eq_iff_iff, decide_eq_true_eq, or_gt]
    unfold betterB
    simp only [if_true]
    by_cases e1 : ly = ly'
    · subst e1; simp only [if_true]
      by_cases e2 : (⟨wa, wb, wc⟩ : W3) = ⟨wa', wb', wc'⟩
      · rw [if_pos e2, if_pos e2]; simp
      · rw [if_neg e2, if_neg e2]
    · rw [if_neg e1, if_neg e1]; simp
  · simp -implicitDefEqProofs only [F27, go_sem, seval]
    unfold betterB
    simp
  · simp -implicitDefEqProofs only [F27, go_sem, seval]
    unfold betterB
    simp
  · simp -implicitDefEqProofs only [F27, go_sem, seval]
    refine callI_pure c1 ?_
    simp -implicitDefEqProofs only [go_sem, seval]
    refine dcallI_pure c3 ?_
    simp -implicitDefEqProofs only [go_sem, seval]
    refine dcallI_pure c2 ?_
    simp -implicitDefEqProofs only [go_sem, seval]
    have wn := cmpI_neg ly ly'
    simp only [wn]
    refine dcallI_pure (w_Or (cmpI ly' ly) (weighI ⟨wa, wb, wc⟩ ⟨wa', wb', wc'⟩) (cmpI p p')) ?_
    simp -implicitDefEqProofs only [go_sem, seval]
    refine andI_intro (by (first | omega | (simp [indepB, indep1, apart1, Nat.testBit_eq_decide_div_mod_eq]; done) | (simp [indepB, indep1, apart1, Nat.testBit_eq_decide_div_mod_eq]; omega) | kernel_rfl)) ?_
    simp -implicitDefEqProofs only [go_sem, seval]
    congr 1
    rw [Bool.eq_iff_iff, decide_eq_true_eq, or_gt]
    unfold betterB
    simp only [if_true]
    by_cases e1 : ly = ly'
    · subst e1; simp only [if_true]
      by_cases e2 : (⟨wa, wb, wc⟩ : W3) = ⟨wa', wb', wc'⟩
      · rw [if_pos e2, if_pos e2]; simp
      · rw [if_neg e2, if_neg e2]
    · rw [if_neg (Ne.symm e1), if_neg e1]; simp
end W15
/- Better by the reference; winners. -/
set_option linter.unusedSimpArgs false
set_option linter.unusedVariables false
namespace W15
open Go Go.AX Go.AX.Ty Go.Proofs
def zFound : Ty.Found := ⟨⟨[], [], false⟩, 0, ⟨0, 0, 0⟩, 0⟩
def topF (o : Option Ty.Found) : Ty.Found := o.getD zFound
def zeroF : List AV := [.str [], .nils, .bool false, .int .i64 0, .int .i64 0, .int .i64 0, .int .i64 0, .int .i64 0]
def topFC (o : Option Ty.Found) : List AV := match o with | some p => Enc.cells p | none => zeroF
theorem win_snoc {l : List Ty.Found} {i : Nat} {x : Ty.Found} (h : l[i]? = some x) (name : Str) : winB (l.take (i + 1)) name = winStep name (winB (l.take i) name) x := by
  unfold winB; rw [List.take_add_one, h]; simp
theorem w_Winner (l : List Ty.Found) (hl : l.length ≤ 1000000) (name : Str) : PureF Tryz.prog 29 [Enc.av l, .str name] (.tup [Enc.av (topF (winB l name)), .bool (winB l name).isSome]) := by
  refine pureF_WD mix c29 (by kernel_rfl) (by kernel_rfl) (by simp [flats, flat, flat_av]) (by simp [flats, flat, flat_av]) ?_
  simp -implicitDefEqProofs only [F29, go_sem, seval]
  refine LoopI_sl (fun k : Nat => l.length - k) (fun k => [(1, .str name), (4, .ptr 0 0 0), (6, .ptr 1 0 0), (7, .bool (winB (l.take k) name).isSome), (11, Enc.av l), (12, .int .i64 l.length), (13, .int .i64 k)])
    (fun k s => k ≤ l.length ∧ 1 < s.next ∧ s.get 0 = some (.cells 0 zeroF false) ∧ s.get 1 = some (.cells 0 (topFC (winB (l.take k) name)) false)) 0 ?_ ?_
  · simp -implicitDefEqProofs only [go_sem, seval]
    exact ⟨rfl, rfl, rfl⟩
  rintro k ρ ⟨g, m⟩ ⟨h1, h2, h3, h4⟩
  simp only [St.get] at h2 h3 h4
  have m0 : (m = 0) = False := eq_false (by omega)
  have m1 : (m = 1) = False := eq_false (by omega)
  rcases Nat.lt_or_ge k l.length with hk | hk
  · obtain ⟨x, hx, hd, hm⟩ := get_drop hk
    have hlt : ((k : Int) < (l.length : Int)) = True := eq_true (by omega)
    have w1 : IntKind.i64.wrap ((k : Int) + 1) = ((k + 1 : Nat) : Int) := by rw [wrap64 (by omega) (by omega)]; omega
    have hsn := win_snoc hx name
    by_cases hn : x.decl.name = name
    · have fn := eq_true hn
      generalize winB (l.take k) name = top at *
      cases top with
      | none =>
        simp only [topFC, zeroF] at h4
        have hst : winStep name none x = some x := by unfold winStep; rw [if_pos hn]
        simp -implicitDefEqProofs only [hlt, hx, fn, h4, m0, m1, w1, Option.isSome_none, go_sem, seval]
        exact ⟨k + 1, by omega, ⟨by rw [hsn, hst]; rfl, rfl⟩, by omega, by omega, h3, by rw [hsn, hst]; rfl⟩
      | some t =>
        simp only [topFC, Found.ecells] at h4
        have hb := w_Better x t
        rw [Found.eav, Found.eav] at hb
        have hst : winStep name (some t) x = if betterB x t = true then some x else some t := by unfold winStep; rw [if_pos hn]
        simp -implicitDefEqProofs only [hlt, hx, fn, h4, m0, m1, w1, Option.isSome_some, go_sem, seval]
        refine callI_pure hb ?_
        cases hbb : betterB x t
        · rw [hbb] at hst
          simp -implicitDefEqProofs only [h4, m0, m1, w1, fn, go_sem, seval]
          exact ⟨k + 1, by omega, ⟨by rw [hsn, hst]; rfl, rfl⟩, by omega, by omega, h3, by rw [hsn, hst]; rfl⟩
        · rw [hbb] at hst
          simp -implicitDefEqProofs only [h4, m0, m1, w1, fn, go_sem, seval]
          exact ⟨k + 1, by omega, ⟨by rw [hsn, hst]; rfl, rfl⟩, by omega, by omega, h3, by rw [hsn, hst]; rfl⟩
    · have fn := eq_false hn
      have hst : winStep name (winB (l.take k) name) x = winB (l.take k) name := by unfold winStep; rw [if_neg hn]
      simp -implicitDefEqProofs only [hlt, hx, fn, w1, go_sem, seval]
      exact ⟨k + 1, by omega, ⟨by rw [hsn, hst], rfl⟩, by omega, by omega, by simp only [m0, if_false]; exact h3, by simp only [m1, if_false]; rw [hsn, hst]; exact h4⟩
  · have hlt : ((k : Int) < (l.length : Int)) = False := eq_false (by omega)
    rw [List.take_of_length_le hk] at h4
    simp only [List.take_of_length_le hk]
    generalize winB l name = top at *
    cases top with
    | none =>
      simp only [topFC, zeroF] at h4 h3
      simp -implicitDefEqProofs only [hlt, h4, h3, m0, m1, go_sem, seval]
      rfl
    | some p =>
      simp only [topFC, Found.ecells, zeroF] at h4 h3
      simp -implicitDefEqProofs only [hlt, h4, h3, m0, m1, go_sem, seval]
      unfold viewNIs topF
      simp [viewN, viewList, wrapV, flats_cellsL]
end W15
/- The winner by the reference. -/
set_option linter.unusedSimpArgs false
set_option linter.unusedVariables false
namespace W15
open Go Go.AX Go.AX.Ty Go.Proofs
end W15
/- The same: a list and itself. -/
set_option linter.unusedSimpArgs false
set_option linter.unusedVariables false
namespace W15
open Go Go.AX Go.AX.Ty Go.Proofs
mutual
def szV : Ty.Val → Nat
  | .mk _ _ l => 1 + szVL l
def szVL : List Ty.Val → Nat
  | [] => 0
  | x :: r => szV x + szVL r
end
theorem szV_eq (x : Ty.Val) : szV x = 1 + szVL x.l := by cases x; simp only [szV, Ty.Val.l]
theorem len_szVL : ∀ l : List Ty.Val, l.length ≤ szVL l
  | [] => by simp [szVL]
  | x :: r => by have := len_szVL r; have := szV_eq x; simp only [List.length_cons, szVL]; omega
theorem szVL_mem : ∀ {l : List Ty.Val} {x : Ty.Val}, x ∈ l → szV x ≤ szVL l
  | [], _, h => by simp at h
  | y :: r, x, h => by
    simp only [szVL]
    rcases List.mem_cons.1 h with rfl | h
    · omega
    · have := szVL_mem h; omega
theorem w_same2 : ∀ (N : Nat) (l : List Ty.Val), szVL l ≤ N → N ≤ 1000000 → PureF Tryz.prog 22 [Enc.av l, Enc.av l] (.bool true) := fun N => by
  induction N using Nat.strongRecOn with
  | ind N ih =>
  intro l hN hB
  have hlen := len_szVL l
  refine pureF_W mix c22 (by kernel_rfl) (by kernel_rfl) (by simp [flats, flat_av, Go.AX.flat]) (by first | exact flat_av _ | simp [flat, flats, flat_av]) ?_
  simp -implicitDefEqProofs only [F22, go_sem, seval]
  refine LoopI_sl (fun k : Nat => l.length - k) (fun k => [(0, Enc.av l), (1, Enc.av l), (5, .int .i64 k)]) (fun k s => k ≤ l.length) 0 ?_ ?_
  · simp -implicitDefEqProofs only [go_sem, seval]
  rintro k ρ ⟨g, m⟩ h1
  rcases Nat.lt_or_ge k l.length with hk | hk
  · obtain ⟨x, hx, hd, hm⟩ := get_drop hk
    have hlt : ((k : Int) < (l.length : Int)) = True := eq_true (by omega)
    have w1 : IntKind.i64.wrap ((k : Int) + 1) = ((k + 1 : Nat) : Int) := by rw [wrap64 (by omega) (by omega)]; omega
    have hs := szVL_mem hm
    rw [szV_eq] at hs
    have hc := ih (szVL x.l) (by omega) x.l (Nat.le_refl _) (by omega)
    simp -implicitDefEqProofs only [hlt, hx, go_sem, seval]
    refine dcallI_pure hc ?_
    simp -implicitDefEqProofs only [w1, go_sem, seval]
    refine andI_intro (by (first | omega | (simp [indepB, indep1, apart1, Nat.testBit_eq_decide_div_mod_eq]; done) | (simp [indepB, indep1, apart1, Nat.testBit_eq_decide_div_mod_eq]; omega) | kernel_rfl)) ?_
    simp -implicitDefEqProofs only [w1, go_sem, seval]
    exact ⟨k + 1, by omega, rfl, by omega⟩
  · have hlt : ((k : Int) < (l.length : Int)) = False := eq_false (by omega)
    simp -implicitDefEqProofs only [hlt, go_sem, seval]
theorem w_same7 (l : List Ty.Decl) (hl : l.length ≤ 1000000) (hv : ∀ d ∈ l, szVL d.l ≤ 1000000) : PureF Tryz.prog 17 [Enc.av l, Enc.av l] (.bool true) := by
  refine pureF_W mix c17 (by kernel_rfl) (by kernel_rfl) (by simp [flats, flat_av, Go.AX.flat]) (by first | exact flat_av _ | simp [flat, flats, flat_av]) ?_
  simp -implicitDefEqProofs only [F17, go_sem, seval]
  refine LoopI_sl (fun k : Nat => l.length - k) (fun k => [(0, Enc.av l), (1, Enc.av l), (5, .int .i64 k)]) (fun k s => k ≤ l.length) 0 ?_ ?_
  · simp -implicitDefEqProofs only [go_sem, seval]
  rintro k ρ ⟨g, m⟩ h1
  rcases Nat.lt_or_ge k l.length with hk | hk
  · obtain ⟨x, hx, hd, hm⟩ := get_drop hk
    have hlt : ((k : Int) < (l.length : Int)) = True := eq_true (by omega)
    have w1 : IntKind.i64.wrap ((k : Int) + 1) = ((k + 1 : Nat) : Int) := by rw [wrap64 (by omega) (by omega)]; omega
    have hc := w_same2 (szVL x.l) x.l (Nat.le_refl _) (hv x hm)
    simp -implicitDefEqProofs only [hlt, hx, go_sem, seval]
    refine dcallI_pure hc ?_
    simp -implicitDefEqProofs only [w1, go_sem, seval]
    refine andI_intro (by (first | omega | (simp [indepB, indep1, apart1, Nat.testBit_eq_decide_div_mod_eq]; done) | (simp [indepB, indep1, apart1, Nat.testBit_eq_decide_div_mod_eq]; omega) | kernel_rfl)) ?_
    simp -implicitDefEqProofs only [w1, go_sem, seval]
    exact ⟨k + 1, by omega, rfl, by omega⟩
  · have hlt : ((k : Int) < (l.length : Int)) = False := eq_false (by omega)
    simp -implicitDefEqProofs only [hlt, go_sem, seval]
theorem w_Texts (l : List Str) (hl : l.length ≤ 1000000) : PureF Tryz.prog 15 [Enc.av l, Enc.av l] (.bool true) := by
  refine pureF_W mix c15 (by kernel_rfl) (by kernel_rfl) (by simp [flats, flat_av, Go.AX.flat]) (by first | exact flat_av _ | simp [flat, flats, flat_av]) ?_
  simp -implicitDefEqProofs only [F15, go_sem, seval]
  refine LoopI_sl (fun k : Nat => l.length - k) (fun k => [(0, Enc.av l), (1, Enc.av l), (5, .int .i64 k)]) (fun k s => k ≤ l.length) 0 ?_ ?_
  · simp -implicitDefEqProofs only [go_sem, seval]
  rintro k ρ ⟨g, m⟩ h1
  rcases Nat.lt_or_ge k l.length with hk | hk
  · obtain ⟨x, hx, hd, hm⟩ := get_drop hk
    have hlt : ((k : Int) < (l.length : Int)) = True := eq_true (by omega)
    have w1 : IntKind.i64.wrap ((k : Int) + 1) = ((k + 1 : Nat) : Int) := by rw [wrap64 (by omega) (by omega)]; omega
    simp -implicitDefEqProofs only [hlt, hx, go_sem, seval]
    refine andI_intro (by (first | omega | (simp [indepB, indep1, apart1, Nat.testBit_eq_decide_div_mod_eq]; done) | (simp [indepB, indep1, apart1, Nat.testBit_eq_decide_div_mod_eq]; omega) | kernel_rfl)) ?_
    simp -implicitDefEqProofs only [w1, go_sem, seval]
    exact ⟨k + 1, by omega, rfl, by omega⟩
  · have hlt : ((k : Int) < (l.length : Int)) = False := eq_false (by omega)
    simp -implicitDefEqProofs only [hlt, go_sem, seval]
end W15
/- What applies, by the reference: small parts. -/
set_option linter.unusedSimpArgs false
set_option linter.unusedVariables false
namespace W15
open Go Go.AX Go.AX.Ty Go.Proofs
def OwnP {α : Type} [Enc α] (z : Nat) (l : List α) (v : AV) (s : St) : Prop := ∃ b e, v = .sl b e 0 l.length z ∧ b < s.next ∧ AX.look b s.heap = some (.cells e (cellsL l) false)
theorem OwnP.push {α : Type} [Enc α] {z : Nat} {l : List α} {v : AV} {h : List (Nat × AX.Obj)} {m : Nat} {o : AX.Obj} (hv : OwnP z l v ⟨h, m⟩) : OwnP z l v ⟨(m, o) :: h, m + 1⟩ := by
  obtain ⟨b, e, rfl, h1, h2⟩ := hv
  simp only at h1 h2
  exact ⟨b, e, rfl, by simp only; omega, by simp only [AX.look]; rw [if_neg (by omega)]; exact h2⟩
end W15
/- The layers, by the reference. -/
set_option linter.unusedSimpArgs false
set_option linter.unusedVariables false
namespace W15
open Go Go.AX Go.AX.Ty Go.Proofs
def OwnN (l : List Str) (v : AV) (s : St) : Prop := ∃ b e, v = .sl b e 0 l.length 1 ∧ b < s.next ∧ AX.look b s.heap = some (.cells e (cellsL l) false)
theorem OwnN.see {names : List Str} {v : AV} {s : St} (h : OwnN names v s) (d : Nat) : ∃ ps, viewN s.get (d + 2) v = some (Enc.av names, ps) := by
  obtain ⟨b, e, rfl, h1, h2⟩ := h
  exact ⟨_, view_sl (s := s) h2 (by rw [strs_len]; omega) (List.take_of_length_le (by rw [strs_len]; omega)) (strs_lit _)⟩
end W15
/- What applies, by the reference. -/
set_option linter.unusedSimpArgs false
set_option linter.unusedVariables false
namespace W15
open Go Go.AX Go.AX.Ty Go.Proofs
end W15
/- Rules, frames, fonts by the reference. -/
set_option linter.unusedSimpArgs false
set_option linter.unusedVariables false
namespace W15
open Go Go.AX Go.AX.Ty Go.Proofs
end W15
/- The heaviest selector that fits. -/
set_option linter.unusedSimpArgs false
set_option linter.unusedVariables false
namespace W15
open Go Go.AX Go.AX.Ty Go.Proofs
noncomputable def selB (s : Scene) (n : Int) (pseudo : Str) (c : Complex) : Bool := decide (c.pseudo = pseudo) && isB s.p s.states n c.parts
noncomputable def fitW (s : Scene) (n : Int) (pseudo : Str) (l : List Complex) : List W3 := (l.filter (selB s n pseudo)).map ofC
theorem fitW_snoc {s : Scene} {n : Int} {pseudo : Str} {l : List Complex} {i : Nat} {c : Complex} (h : l[i]? = some c) : fitW s n pseudo (l.take (i + 1)) = fitW s n pseudo (l.take i) ++ if selB s n pseudo c = true then [ofC c] else [] := by
  unfold fitW
  rw [List.take_add_one, h]
  simp only [Option.toList_some, List.filter_append, List.map_append]
  congr 1
  by_cases hb : selB s n pseudo c = true
  · rw [if_pos hb]; simp [hb]
  · rw [if_neg hb]; simp [hb]
theorem fitW_len (s : Scene) (n : Int) (pseudo : Str) (l : List Complex) : (fitW s n pseudo l).length ≤ l.length := by
  unfold fitW; rw [List.length_map]; exact List.length_filter_le _ _
def OwnW (l : List W3) (v : AV) (s : St) : Prop := (l = [] ∧ v = .nils) ∨ ∃ b e, v = .sl b e 0 l.length 3 ∧ b < s.next ∧ AX.look b s.heap = some (.cells e (cellsL l) false)
theorem OwnW.push {l : List W3} {v : AV} {h : List (Nat × AX.Obj)} {m : Nat} {o : AX.Obj} (hv : OwnW l v ⟨h, m⟩) : OwnW l v ⟨(m, o) :: h, m + 1⟩ := by
  rcases hv with hv | ⟨b, e, rfl, h1, h2⟩
  · exact .inl hv
  · simp only at h1 h2
    exact .inr ⟨b, e, rfl, by simp only; omega, by simp only [AX.look]; rw [if_neg (by omega)]; exact h2⟩
set_option maxHeartbeats 1600000 in
theorem w_heaviest (s : Scene) (n : Int) (pseudo : Str) (l : List Complex) (hp : PgOk s.p) (hs : s.states.length ≤ 100000) (hl : l.length ≤ 100000) (hc : ∀ c ∈ l, Enc.ok c ∧ sizP c.parts ≤ 100000) :
    PureF Tryz.prog 51 [Enc.av s, .int .i64 n, .str pseudo, Enc.av l] (.tup [Enc.av (maxW (fitW s n pseudo l)), .bool (decide (0 < (fitW s n pseudo l).length))]) := by
  refine pureF_WD mix c51 (by kernel_rfl) (by kernel_rfl) (by simp [flats, flat, flat_av]) (by simp [flats, flat, flat_av]) ?_
  simp -implicitDefEqProofs only [F51, go_sem, seval]
  refine LoopI_sl (fun p : Nat × AV => l.length - p.1) (fun p => [(1, .int .i64 n), (2, .str pseudo), (4, .ptr 0 0 0), (8, .ptr 1 0 0), (10, p.2), (13, Enc.av l), (14, .int .i64 l.length), (15, .int .i64 p.1)])
    (fun p t => p.1 ≤ l.length ∧ 1 < t.next ∧ AX.look 0 t.heap = some (.cells 0 (Enc.cells s) false) ∧ AX.look 1 t.heap = some (.cells 0 [.int .i64 0, .int .i64 0, .int .i64 0] false) ∧
      ((fitW s n pseudo (l.take p.1) = [] ∧ p.2 = .nils) ∨ ∃ b e, p.2 = .sl b e 0 (fitW s n pseudo (l.take p.1)).length 3 ∧ 1 < b ∧ b < t.next ∧ AX.look b t.heap = some (.cells e (cellsL (fitW s n pseudo (l.take p.1))) false))) (0, .nils) ?_ ?_
  · simp -implicitDefEqProofs only [List.take_zero, go_sem, seval]
    exact .inl rfl
  rintro ⟨k, v⟩ ρ ⟨g, m⟩ ⟨h1, h2, h3, h4, h5⟩
  dsimp only at h1 h2 h3 h4 h5
  simp only [Scene.ecells] at h3
  have m0 : (m = 0) = False := eq_false (by omega)
  have m1 : (m = 1) = False := eq_false (by omega)
  rcases Nat.lt_or_ge k l.length with hk | hk
  · obtain ⟨c, hx, hd, hm⟩ := get_drop hk
    have hlt : ((k : Int) < (l.length : Int)) = True := eq_true (by omega)
    have w1 : IntKind.i64.wrap ((k : Int) + 1) = ((k + 1 : Nat) : Int) := by rw [wrap64 (by omega) (by omega)]; omega
    have hsn := fitW_snoc (s := s) (n := n) (pseudo := pseudo) hx
    have hle : (fitW s n pseudo (l.take k)).length ≤ l.length := Nat.le_trans (fitW_len _ _ _ _) (by rw [List.length_take]; omega)
    generalize fitW s n pseudo (l.take k) = R at *
    have hi := w_Is s.p s.states hp hs n c (hc c hm).1
    have ho := wt11 c (hc c hm).2
    rw [Complex.eav] at hi ho
    by_cases he : c.pseudo = pseudo
    · have ge := eq_true he
      cases hb : isB s.p s.states n c.parts
      · have hsel : selB s n pseudo c = false := by simp [selB, hb]
        rw [hsel] at hsn
        simp only [Bool.false_eq_true, if_false, List.append_nil] at hsn
        rw [hb] at hi
        simp -implicitDefEqProofs only [hlt, hx, ge, h3, m0, m1, go_sem, seval]
        refine callI_pure hi ?_
        simp -implicitDefEqProofs only [w1, ge, h3, h4, m0, m1, go_sem, seval]
        rcases h5 with ⟨rfl, rfl⟩ | ⟨b, e, rfl, c0, c1, c2⟩
        · exact ⟨(k + 1, _), by simp only; omega, ⟨rfl, rfl⟩, by simp only; omega, by omega, .inl ⟨hsn, rfl⟩⟩
        · exact ⟨(k + 1, _), by simp only; omega, ⟨rfl, rfl⟩, by simp only; omega, by omega, .inr ⟨b, e, by simp only [hsn], c0, by omega, by rw [if_neg (by omega)]; simp only [hsn]; exact c2⟩⟩
      · have hsel : selB s n pseudo c = true := by simp [selB, hb, he]
        rw [hsel] at hsn
        simp only [if_true] at hsn
        rw [hb] at hi
        simp -implicitDefEqProofs only [hlt, hx, ge, h3, m0, m1, go_sem, seval]
        refine callI_pure hi ?_
        simp -implicitDefEqProofs only [w1, ge, h3, m0, m1, go_sem, seval]
        refine callI_pure ho ?_
        rcases h5 with ⟨rfl, rfl⟩ | ⟨b, e, rfl, c0, c1, c2⟩
        · simp -implicitDefEqProofs only [w1, m0, m1, h3, h4, go_sem, seval]
          refine ⟨(k + 1, _), by simp only; omega, ⟨rfl, rfl⟩, by simp only; omega, by omega, .inr ⟨m + 1 + 1, 3, by simp only [hsn, List.nil_append, List.length_singleton], by omega, by omega, ?_⟩⟩
          simp only [hsn, List.nil_append, if_true, cellsL, W3.ecells, List.append_nil]
        · have hcl : (cellsL R).length = R.length * 3 := cellsL_len R
          have ht : List.take (R.length * 3) (cellsL R) = cellsL R := List.take_of_length_le (by omega)
          have hbd : ((R.length + 1) * 24 ≤ 140737488355328) = True := eq_true (by omega)
          have q0 : (m = b) = False := eq_false (by omega)
          have q1 : (b = m) = False := eq_false (by omega)
          have q2 : (m + 1 = b) = False := eq_false (by omega)
          have q3 : (b = m + 1) = False := eq_false (by omega)
          have b0 : (b = 0) = False := eq_false (by omega)
          have b1 : (b = 1) = False := eq_false (by omega)
          have M0 : (m + 1 = 0) = False := eq_false (by omega)
          have M1 : (m + 1 = 1) = False := eq_false (by omega)
          simp -implicitDefEqProofs only [w1, c2, hcl, ht, hbd, q0, q1, q2, q3, m0, m1, h3, h4, b0, b1, M0, M1, go_sem, seval]
          refine ⟨(k + 1, _), by simp only; omega, ⟨rfl, rfl⟩, by simp only; omega, by omega, .inr ⟨b, (if e ≤ R.length * 3 + 2 then R.length * 3 + 3 else e + 1), by simp only [hsn, List.length_append, List.length_singleton], c0, by omega, ?_⟩⟩
          simp only [hsn, q0, q2, if_false, if_true, cellsL_append, cellsL, W3.ecells, List.append_nil]
    · have ge := eq_false he
      have hsel : selB s n pseudo c = false := by simp [selB, he]
      rw [hsel] at hsn
      simp only [Bool.false_eq_true, if_false, List.append_nil] at hsn
      simp -implicitDefEqProofs only [hlt, hx, ge, w1, h3, h4, m0, m1, go_sem, seval]
      rcases h5 with ⟨rfl, rfl⟩ | ⟨b, e, rfl, c0, c1, c2⟩
      · exact ⟨(k + 1, _), by simp only; omega, ⟨rfl, rfl⟩, by simp only; omega, by omega, .inl ⟨hsn, rfl⟩⟩
      · exact ⟨(k + 1, _), by simp only; omega, ⟨rfl, rfl⟩, by simp only; omega, by omega, .inr ⟨b, e, by simp only [hsn], c0, by omega, by rw [if_neg (by omega)]; simp only [hsn]; exact c2⟩⟩
  · have hlt : ((k : Int) < (l.length : Int)) = False := eq_false (by omega)
    rw [List.take_of_length_le hk] at h5
    have hle : (fitW s n pseudo l).length ≤ l.length := fitW_len _ _ _ _
    generalize fitW s n pseudo l = R at *
    rcases h5 with ⟨rfl, rfl⟩ | ⟨b, e, rfl, c0, c1, c2⟩
    · have hM := wt15 [] (by simp)
      simp -implicitDefEqProofs only [hlt, go_sem, seval]
      refine callI_pure hM ?_
      simp -implicitDefEqProofs only [h4, go_sem, seval]
      unfold viewNIs
      simp [viewN, viewList, wrapV]
    · have hM := wt15 R (by omega)
      have hcl : (cellsL R).length = R.length * 3 := cellsL_len R
      have ht : List.take (R.length * 3) (cellsL R) = cellsL R := List.take_of_length_le (by omega)
      simp -implicitDefEqProofs only [hlt, c2, hcl, ht, go_sem, seval]
      refine callI_pure hM ?_
      have b1 : (b = 1) = False := eq_false (by omega)
      simp -implicitDefEqProofs only [h4, b1, c2, go_sem, seval]
      unfold viewNIs
      simp [viewN, viewList, wrapV]
end W15
