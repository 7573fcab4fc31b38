/- What another law needs. -/
import Derived.Test.YtoilbphgflgbeaaGreatTxI
import Derived.Test.YtoilbphgflgbeaaGreatTabC
set_option linter.unusedSimpArgs false
set_option linter.unusedVariables false
namespace W15
open Go Go.AX Go.AX.Ty Go.Proofs
theorem layersB_app (a b : List (List Ty.Item)) : layersB (a ++ b) = b.flatten.foldl stepLay (layersB a) := by
  unfold layersB; rw [List.flatten_append, List.foldl_append]
def relay (a b : Int) (p : Placed) : Placed := ⟨p.item, if p.layer = a then b else p.layer⟩
def relayR (a b : Int) (r : Rule) : Rule := ⟨r.sels, r.decls, if r.layer = a then b else r.layer⟩
theorem ruleOf_relay (a b : Int) (p : Placed) : ruleOf (relay a b p) = (ruleOf p).map (relayR a b) := by
  unfold ruleOf relay
  simp only
  split <;> rfl
theorem media_relay (w : Int) {a b k k' : Int} (h : (if k = a then b else k) = k') (x : Ty.Item) : mediaB w k' x = (mediaB w k x).map (relay a b) := by
  unfold mediaB
  split
  · rw [List.map_map]
    apply List.map_congr_left
    intro y _
    simp only [Function.comp, relay, h]
  · rfl
theorem inner_relay (w : Int) {a b k k' : Int} (h : (if k = a then b else k) = k') (x : Ty.Item) : innerB w k' x = (innerB w k x).map (relay a b) := by
  unfold innerB
  split
  · exact media_relay w h x
  · split
    · rfl
    · simp only [List.map_cons, List.map_nil, relay, h]
theorem flatMap_map {α β γ : Type} (f : α → List β) (g : β → γ) (l : List α) : (l.flatMap f).map g = l.flatMap fun x => (f x).map g := by
  induction l with
  | nil => rfl
  | cons x r ih => simp only [List.flatMap_cons, List.map_append, ih]
theorem placeB_app {l t : List Str} {s : Str} (h : s ∈ l) : plcB (l ++ t) s = plcB l s ∧ plcB l s < l.length := by
  have hl : plcB l s < l.length := by
    unfold plcB
    rw [List.findIdx_lt_length]
    exact ⟨s, h, by simp⟩
  refine ⟨?_, hl⟩
  unfold plcB at hl ⊢
  rw [List.findIdx_append, if_pos hl]
theorem top_relay (w : Int) {names t : List Str} {x : Ty.Item} (hx : x.kind = 3 → x.names.length = 1 → nameOf x ∈ names) :
    topB w (names ++ t) x = (topB w names x).map (relay (names.length : Nat) ((names ++ t).length : Nat)) := by
  unfold topB
  split
  · rename_i h3
    split
    · rename_i h1
      obtain ⟨e1, e2⟩ := placeB_app (t := t) (hx h3 h1)
      rw [flatMap_map, e1]
      congr 1
      funext y
      refine inner_relay w ?_ y
      rw [if_neg (by omega)]
    · rfl
  · refine inner_relay w ?_ x
    rw [if_pos rfl]
theorem filterMap_map' {α β γ δ : Type} {f : α → Option β} {g : γ → Option δ} {h : γ → α} {k : δ → β} (e : ∀ x, f (h x) = (g x).map k) : ∀ l : List γ, (l.map h).filterMap f = (l.filterMap g).map k
  | [] => rfl
  | x :: r => by
    rw [List.map_cons, List.filterMap_cons, List.filterMap_cons, e x]
    cases hg : g x with
    | none => simp only [Option.map_none]; exact filterMap_map' e r
    | some y => simp only [Option.map_some, List.map_cons]; rw [filterMap_map' e r]
/-- the rules of more sheets: those of the first ones, in other places -/
theorem rules_app (w : Int) (a b : List (List Ty.Item)) : rulesB w (a ++ b) = (rulesB w a).map (relayR ((layersB a).length : Nat) ((layersB (a ++ b)).length : Nat)) ++ (b.flatten.flatMap (topB w (layersB (a ++ b)))).filterMap ruleOf := by
  unfold rulesB appB
  rw [List.flatten_append, List.flatMap_append, List.filterMap_append]
  congr 1
  obtain ⟨t, ht⟩ := lays_pre b.flatten (layersB a)
  rw [← layersB_app] at ht
  rw [ht]
  have h1 : a.flatten.flatMap (topB w (layersB a ++ t)) = (a.flatten.flatMap (topB w (layersB a))).map (relay ((layersB a).length : Nat) ((layersB a ++ t).length : Nat)) := by
    rw [flatMap_map]
    exact flatMap_congr' fun x hx => top_relay w fun h3 h1 => name_lays hx h3 h1
  rw [h1]
  exact filterMap_map' (ruleOf_relay _ _) _
def bareR (r : Rule) : Rule := ⟨r.sels, r.decls, 0⟩
def bareP (p : Placed) : Placed := ⟨p.item, 0⟩
theorem ruleOf_bare (p : Placed) : ruleOf (bareP p) = (ruleOf p).map bareR := by
  unfold ruleOf bareP
  simp only
  split <;> rfl
theorem media_bare (w k k' : Int) (x : Ty.Item) : (mediaB w k x).map bareP = (mediaB w k' x).map bareP := by
  unfold mediaB
  split
  · simp only [List.map_map]; rfl
  · rfl
theorem inner_bare (w k k' : Int) (x : Ty.Item) : (innerB w k x).map bareP = (innerB w k' x).map bareP := by
  unfold innerB
  split
  · exact media_bare w k k' x
  · split <;> rfl
theorem top_bare (w : Int) (m n : List Str) (x : Ty.Item) : (topB w m x).map bareP = (topB w n x).map bareP := by
  unfold topB
  split
  · split
    · rw [flatMap_map, flatMap_map]; exact flatMap_congr' fun y _ => inner_bare w _ _ y
    · rfl
  · exact inner_bare w _ _ x
theorem rules_bare (w : Int) (m n : List Str) (xs : List Ty.Item) : ((xs.flatMap (topB w m)).filterMap ruleOf).map bareR = ((xs.flatMap (topB w n)).filterMap ruleOf).map bareR := by
  rw [← filterMap_map' ruleOf_bare, ← filterMap_map' ruleOf_bare, flatMap_map, flatMap_map]
  congr 1
  exact flatMap_congr' fun x _ => top_bare w m n x
/-- of those that are not found at one place the best is one -/
theorem w_Texts (l : List Str) (hl : l.length ≤ 1000000) : PureF Tryz.prog 15 [Enc.av l, Enc.av l] (.bool true) := by
  refine pureF_W mix c15 (by kernel_rfl) (by kernel_rfl) (by simp [flats, flat_av, Go.AX.flat]) (by first | exact flat_av _ | simp [flat, flats, flat_av]) ?_
  simp -implicitDefEqProofs only [F15, go_sem, Nat.reduceEqDiff, reduceCtorEq, ↓reduceIte]
  refine LoopI_sl (fun k : Nat => l.length - k) (fun k => [(0, Enc.av l), (1, Enc.av l), (5, .int .i64 k)]) (fun k s => k ≤ l.length) 0 ?_ ?_
  · simp -implicitDefEqProofs only [go_sem, Nat.reduceEqDiff, reduceCtorEq, ↓reduceIte]
  rintro k ρ ⟨g, m⟩ h1
  rcases Nat.lt_or_ge k l.length with hk | hk
  · obtain ⟨x, hx, hd, hm⟩ := get_drop hk
    have hlt : ((k : Int) < (l.length : Int)) = True := eq_true (by omega)
    have w1 : IntKind.i64.wrap ((k : Int) + 1) = ((k + 1 : Nat) : Int) := by rw [wrap64 (by omega) (by omega)]; omega
    simp -implicitDefEqProofs only [hlt, hx, go_sem, Nat.reduceEqDiff, reduceCtorEq, ↓reduceIte]
    refine andI_intro (by (first | omega | (simp [indepB, indep1, apart1, Nat.testBit_eq_decide_div_mod_eq]; done) | (simp [indepB, indep1, apart1, Nat.testBit_eq_decide_div_mod_eq]; omega) | kernel_rfl)) ?_
    simp -implicitDefEqProofs only [w1, go_sem, Nat.reduceEqDiff, reduceCtorEq, ↓reduceIte]
    exact ⟨k + 1, by omega, rfl, by omega⟩
  · have hlt : ((k : Int) < (l.length : Int)) = False := eq_false (by omega)
    simp -implicitDefEqProofs only [hlt, go_sem, Nat.reduceEqDiff, reduceCtorEq, ↓reduceIte]
end W15
/- OrderSheets. -/
set_option linter.unusedSimpArgs false
set_option linter.unusedVariables false
namespace W15
open Go Go.AX Go.AX.Ty Go.Proofs

structure Cut3 (w : Int) (sh : List (List Ty.Item)) (c : Nat) : Prop where
  len : (rulesB w sh).length = (rulesB w (sh.take c)).length + (rulesB w (sh.drop c)).length
  lays : (layersB (sh.take c)).length ≤ (layersB sh).length ∧ (layersB sh).take (layersB (sh.take c)).length = layersB (sh.take c)
  fst : ∀ (i : Nat) (y : Rule), (rulesB w (sh.take c))[i]? = some y → ∃ x : Rule, (rulesB w sh)[i]? = some x ∧ x.sels = y.sels ∧ x.decls = y.decls ∧ x.layer = if y.layer = ((layersB (sh.take c)).length : Nat) then (((layersB sh).length : Nat) : Int) else y.layer
  snd : ∀ (i : Nat) (y : Rule), (rulesB w (sh.drop c))[i]? = some y → ∃ x : Rule, (rulesB w sh)[(rulesB w (sh.take c)).length + i]? = some x ∧ x.sels = y.sels ∧ x.decls = y.decls
theorem cut3 (w : Int) (sh : List (List Ty.Item)) (c : Nat) : Cut3 w sh c := by
  have e : sh.take c ++ sh.drop c = sh := List.take_append_drop c sh
  have h := rules_app w (sh.take c) (sh.drop c)
  rw [e] at h
  have hb := rules_bare w (layersB sh) (layersB (sh.drop c)) (sh.drop c).flatten
  have hR : rulesB w (sh.drop c) = ((sh.drop c).flatten.flatMap (topB w (layersB (sh.drop c)))).filterMap ruleOf := rfl
  rw [← hR] at hb
  generalize ((sh.drop c).flatten.flatMap (topB w (layersB sh))).filterMap ruleOf = X at h hb
  have hlen : X.length = (rulesB w (sh.drop c)).length := by have := congrArg List.length hb; simpa using this
  have hl := layersB_app (sh.take c) (sh.drop c)
  rw [e] at hl
  obtain ⟨t, ht⟩ := lays_pre (sh.drop c).flatten (layersB (sh.take c))
  rw [← hl] at ht
  refine ⟨by rw [h, List.length_append, List.length_map, hlen], ⟨by rw [ht, List.length_append]; omega, by rw [ht, List.take_left']; rfl⟩, fun i y hy => ?_, fun i y hy => ?_⟩
  · have hi : i < (rulesB w (sh.take c)).length := (List.getElem?_eq_some_iff.1 hy).1
    refine ⟨relayR ((layersB (sh.take c)).length : Nat) ((layersB sh).length : Nat) y, ?_, rfl, rfl, rfl⟩
    rw [h, List.getElem?_append_left (by rw [List.length_map]; exact hi), List.getElem?_map, hy]; rfl
  · have hi : i < X.length := by rw [hlen]; exact (List.getElem?_eq_some_iff.1 hy).1
    have hx := congrArg (fun l => l[i]?) hb
    simp only [List.getElem?_map, hy, Option.map_some] at hx
    cases hX : X[i]? with
    | none => rw [hX] at hx; simp at hx
    | some x =>
      rw [hX] at hx
      simp only [Option.map_some, Option.some.injEq, bareR, Rule.mk.injEq] at hx
      refine ⟨x, ?_, hx.1, hx.2.1⟩
      rw [h, List.getElem?_append_right (by rw [List.length_map]; omega), List.length_map, Nat.add_sub_cancel_left, hX]
theorem part_small {sh : List (List Ty.Item)} (h : smallSh sh = true) (P : List (List Ty.Item)) (hP : ∀ s ∈ P, s ∈ sh) (hl : P.length ≤ sh.length) : smallSh P = true := by
  unfold smallSh at h ⊢
  rw [Bool.and_eq_true, decide_eq_true_eq, List.all_eq_true] at h ⊢
  exact ⟨by omega, fun s hs => h.2 s (hP s hs)⟩
set_option maxHeartbeats 6400000 in
theorem w_OrderSheets (sh : List (List Ty.Item)) (cut w : Int) (hok : Enc.ok sh) : PureF Tryz.prog 6 [Enc.av sh, Enc.av cut, Enc.av w] (.bool true) := by
  refine pureF_W mix c6 (by kernel_rfl) (by kernel_rfl) (by simp [flats, flat_av, Go.AX.flat]) (by first | exact flat_av _ | simp [flat, flats, flat_av]) ?_
  simp -implicitDefEqProofs only [F6, go_sem]
  refine callI_pure w_fixed ?_
  simp -implicitDefEqProofs only [go_sem, Nat.reduceEqDiff, reduceCtorEq, ↓reduceIte]
  refine callI_pure (w_small sh hok) ?_
  cases hs : smallSh sh
  · simp -implicitDefEqProofs only [go_sem, Nat.reduceEqDiff, reduceCtorEq, ↓reduceIte]
    refine callI_pure w_fixed ?_
    simp -implicitDefEqProofs only [go_sem, ↓reduceIte]
  by_cases hc0 : cut < 0
  · have f0 := eq_true hc0
    simp -implicitDefEqProofs only [f0, go_sem, Nat.reduceEqDiff, reduceCtorEq, ↓reduceIte]
    refine callI_pure w_fixed ?_
    simp -implicitDefEqProofs only [go_sem, ↓reduceIte]
  by_cases hc1 : cut > (sh.length : Int)
  · have f0 := eq_false hc0
    have f1 := eq_true hc1
    simp -implicitDefEqProofs only [f0, f1, go_sem, Nat.reduceEqDiff, reduceCtorEq, ↓reduceIte]
    refine callI_pure w_fixed ?_
    simp -implicitDefEqProofs only [go_sem, ↓reduceIte]
  obtain ⟨c, rfl⟩ : ∃ c : Nat, cut = c := ⟨cut.toNat, by omega⟩
  have f0 := eq_false hc0
  have f1 := eq_false hc1
  have hcl : c ≤ sh.length := by omega
  have fcl : (c ≤ sh.length) = True := eq_true hcl
  have hA := sh_all hok hs w
  have okT : Enc.ok (sh.take c) := ⟨by have := hok.1; rw [List.length_take]; omega, fun x hx => hok.2 x (List.mem_of_mem_take hx)⟩
  have okD : Enc.ok (sh.drop c) := ⟨by have := hok.1; rw [List.length_drop]; omega, fun x hx => hok.2 x (List.mem_of_mem_drop hx)⟩
  have sT := part_small hs (sh.take c) (fun s h => List.mem_of_mem_take h) (by rw [List.length_take]; omega)
  have sD := part_small hs (sh.drop c) (fun s h => List.mem_of_mem_drop h) (by rw [List.length_drop]; omega)
  have hT := sh_all okT sT w
  have hD := sh_all okD sD w
  have aA := hA.app
  have aT := hT.app
  have aD := hD.app
  have l1 := w_Layers sh hA.ok.flat hA.ok.len hA.ok.names
  have l2 := w_Layers (sh.take c) hT.ok.flat hT.ok.len hT.ok.names
  have r1 := w_Rules w sh hA.ok (by omega)
  have r2 := w_Rules w (sh.take c) hT.ok (by omega)
  have r3 := w_Rules w (sh.drop c) hD.ok (by omega)
  have eT : Enc.av (sh.take c) = .ps c (cellsL (sh.take c)) := by
    show AV.ps _ _ = _
    rw [List.length_take, Nat.min_eq_left hcl]
  have eD : Enc.av (sh.drop c) = .ps (sh.length - c) (cellsL (sh.drop c)) := by
    show AV.ps _ _ = _
    rw [List.length_drop]
  have kT : List.take c (cellsL sh) = cellsL (sh.take c) := by have := cellsL_take sh c; simpa [Enc.sz] using this
  have kD : List.drop c (cellsL sh) = cellsL (sh.drop c) := by have := cellsL_drop sh c; simpa [Enc.sz] using this
  have kl : (cellsL sh).length = sh.length := by rw [cellsL_len]; simp [Enc.sz]
  rw [eT] at l2 r2
  rw [eD] at r3
  have hX := cut3 w sh c
  simp -implicitDefEqProofs only [f0, f1, go_sem, Nat.reduceEqDiff, reduceCtorEq, ↓reduceIte]
  refine dcallI_pure l1 ?_
  simp -implicitDefEqProofs only [fcl, kT, kl, Nat.mul_one, Nat.sub_zero, go_sem, Nat.reduceEqDiff, reduceCtorEq, ↓reduceIte]
  refine dcallI_pure l2 ?_
  simp -implicitDefEqProofs only [go_sem, Nat.reduceEqDiff, ↓reduceIte]
  refine andI_intro (by (first | omega | (simp [indepB, indep1, apart1, Nat.testBit_eq_decide_div_mod_eq]; done) | (simp [indepB, indep1, apart1, Nat.testBit_eq_decide_div_mod_eq]; omega) | kernel_rfl)) ?_
  simp -implicitDefEqProofs only [go_sem, Nat.reduceEqDiff, reduceCtorEq, ↓reduceIte]
  refine dcallI_pure r1 ?_
  simp -implicitDefEqProofs only [fcl, kT, kl, Nat.mul_one, Nat.sub_zero, go_sem, Nat.reduceEqDiff, reduceCtorEq, ↓reduceIte]
  refine dcallI_pure r2 ?_
  simp -implicitDefEqProofs only [fcl, kD, kl, Nat.mul_one, Nat.sub_zero, Nat.le_refl, go_sem, Nat.reduceEqDiff, reduceCtorEq, ↓reduceIte]
  refine dcallI_pure r3 ?_
  have s1 := fun r (hr : r ∈ rulesB w sh) => rule_same hA hr
  have b1 := rules_len hA
  have b2 := rules_len hT
  have b3 := rules_len hD
  have hLb : (layersB sh).length ≤ 1000000 := by
    have h3 := small_it hok hs
    have := lays_len sh.flatten [] fun x hx => by have := (h3.2.1 x hx).good.1; omega
    have h60 : szIL sh.flatten ≤ 60 := by
      have := flat_sum (fun _ => 0) szIL szIL_app rfl 15 sh h3.2.2
      omega
    have := len_szIL sh.flatten
    unfold layersB; simp only [List.length_nil] at *; omega
  obtain ⟨x1, ⟨x2, x2'⟩, x3, x4⟩ := hX
  have cT := w_Texts (layersB (sh.take c)) (by omega)
  generalize rulesB w sh = A at *
  generalize rulesB w (sh.take c) = B at *
  generalize rulesB w (sh.drop c) = C at *
  have kLt : List.take (layersB (sh.take c)).length (cellsL (layersB sh)) = cellsL (layersB (sh.take c)) := by
    have := cellsL_take (layersB sh) (layersB (sh.take c)).length
    rw [x2'] at this
    simpa [Enc.sz] using this
  have kLl : (cellsL (layersB sh)).length = (layersB sh).length := strs_len _
  generalize layersB sh = L at *
  generalize layersB (sh.take c) = M at *
  have g1 : IntKind.i64.wrap ((B.length : Int) + (C.length : Int)) = (A.length : Int) := by rw [x1, wrap64 (by omega) (by omega)]; omega
  have g2 : ((L.length : Int) < (M.length : Int)) = False := eq_false (by omega)
  have g3 : (M.length ≤ L.length) = True := eq_true x2
  simp -implicitDefEqProofs only [go_sem, Nat.reduceEqDiff, ↓reduceIte]
  refine andI_intro (by (first | omega | (simp [indepB, indep1, apart1, Nat.testBit_eq_decide_div_mod_eq]; done) | (simp [indepB, indep1, apart1, Nat.testBit_eq_decide_div_mod_eq]; omega) | kernel_rfl)) ?_
  simp -implicitDefEqProofs only [g1, g2, g3, kLt, kLl, Nat.mul_one, Nat.sub_zero, go_sem, Nat.reduceEqDiff, ↓reduceIte]
  refine callI_pure cT ?_
  simp -implicitDefEqProofs only [go_sem, Nat.reduceEqDiff, ↓reduceIte]
  refine LoopI_sl (fun k : Nat => B.length - k) (fun k => [(7, Enc.av L), (8, Enc.av M), (9, Enc.av A), (10, Enc.av B), (11, Enc.av C), (12, .int .i64 k)]) (fun k t => k ≤ B.length) 0 ?_ ?_
  · simp -implicitDefEqProofs only [go_sem, Nat.reduceEqDiff, ↓reduceIte]
  rintro k ρ ⟨g, m⟩ k1
  rcases Nat.lt_or_ge k B.length with hk | hk
  · obtain ⟨y, hy, hdr, hm⟩ := get_drop hk
    obtain ⟨x, hx, z1, z2, z3⟩ := x3 k y hy
    have hltk : ((k : Int) < (B.length : Int)) = True := eq_true (by omega)
    have wk : IntKind.i64.wrap ((k : Int) + 1) = ((k + 1 : Nat) : Int) := by rw [wrap64 (by omega) (by omega)]; omega
    obtain ⟨s4, s7⟩ := s1 x (List.mem_of_getElem? hx)
    by_cases ht : y.layer = (M.length : Nat)
    · have ft := eq_true ht
      rw [if_pos ht] at z3
      have fx := eq_true z3
      have zs := z1.symm
      simp -implicitDefEqProofs only [hltk, hy, hx, ft, zs, go_sem, Nat.reduceEqDiff, ↓reduceIte]
      refine dcallI_pure s4 ?_
      simp -implicitDefEqProofs only [hy, hx, ft, fx, zs, wk, go_sem, Nat.reduceEqDiff, ↓reduceIte]
      repeat (refine andI_intro (by (first | omega | (simp [indepB, indep1, apart1, Nat.testBit_eq_decide_div_mod_eq]; done) | (simp [indepB, indep1, apart1, Nat.testBit_eq_decide_div_mod_eq]; omega) | kernel_rfl)) ?_; simp -implicitDefEqProofs only [hy, hx, ft, fx, zs, wk, go_sem, Nat.reduceEqDiff, ↓reduceIte])
      exact ⟨k + 1, by omega, rfl, by omega⟩
    · have ft := eq_false ht
      rw [if_neg ht] at z3
      have fx := eq_true z3
      have zs := z1.symm
      simp -implicitDefEqProofs only [hltk, hy, hx, ft, zs, go_sem, Nat.reduceEqDiff, ↓reduceIte]
      refine dcallI_pure s4 ?_
      simp -implicitDefEqProofs only [hy, hx, ft, fx, zs, wk, go_sem, Nat.reduceEqDiff, ↓reduceIte]
      repeat (refine andI_intro (by (first | omega | (simp [indepB, indep1, apart1, Nat.testBit_eq_decide_div_mod_eq]; done) | (simp [indepB, indep1, apart1, Nat.testBit_eq_decide_div_mod_eq]; omega) | kernel_rfl)) ?_; simp -implicitDefEqProofs only [hy, hx, ft, fx, zs, wk, go_sem, Nat.reduceEqDiff, ↓reduceIte])
      exact ⟨k + 1, by omega, rfl, by omega⟩
  have hltk : ((k : Int) < (B.length : Int)) = False := eq_false (by omega)
  simp -implicitDefEqProofs only [hltk, go_sem, Nat.reduceEqDiff, ↓reduceIte]
  refine LoopI_sl (fun k : Nat => C.length - k) (fun k => [(9, Enc.av A), (10, Enc.av B), (11, Enc.av C), (14, .int .i64 k)]) (fun k t => k ≤ C.length) 0 ?_ ?_
  · simp -implicitDefEqProofs only [go_sem, Nat.reduceEqDiff, ↓reduceIte]
  rintro j ρ ⟨g2, q⟩ j1
  rcases Nat.lt_or_ge j C.length with hj | hj
  · obtain ⟨y, hy, hdr, hm⟩ := get_drop hj
    obtain ⟨x, hx, z1, z2⟩ := x4 j y hy
    have hltj : ((j : Int) < (C.length : Int)) = True := eq_true (by omega)
    have wj : IntKind.i64.wrap ((j : Int) + 1) = ((j + 1 : Nat) : Int) := by rw [wrap64 (by omega) (by omega)]; omega
    have wb : IntKind.i64.wrap ((B.length : Int) + (j : Int)) = ((B.length + j : Nat) : Int) := by rw [wrap64 (by omega) (by omega)]; omega
    obtain ⟨s4, s7⟩ := s1 x (List.mem_of_getElem? hx)
    have zs := z1.symm
    have zd := z2.symm
    simp -implicitDefEqProofs only [hltj, hy, hx, wb, zs, zd, go_sem, Nat.reduceEqDiff, ↓reduceIte]
    refine dcallI_pure s4 ?_
    simp -implicitDefEqProofs only [hy, hx, wb, zs, zd, go_sem, Nat.reduceEqDiff, ↓reduceIte]
    refine dcallI_pure s7 ?_
    simp -implicitDefEqProofs only [hy, hx, wb, zs, zd, wj, go_sem, Nat.reduceEqDiff, ↓reduceIte]
    repeat (refine andI_intro (by (first | omega | (simp [indepB, indep1, apart1, Nat.testBit_eq_decide_div_mod_eq]; done) | (simp [indepB, indep1, apart1, Nat.testBit_eq_decide_div_mod_eq]; omega) | kernel_rfl)) ?_; simp -implicitDefEqProofs only [wj, go_sem, Nat.reduceEqDiff, ↓reduceIte])
    exact ⟨j + 1, by omega, rfl, by omega⟩
  · have hltj : ((j : Int) < (C.length : Int)) = False := eq_false (by omega)
    simp -implicitDefEqProofs only [hltj, go_sem, Nat.reduceEqDiff, ↓reduceIte]
end W15
