/- What another law needs. -/
import Derived.Test.YtoilbphgflgbeaaGreatTxI
import Derived.Test.YtoilbphgflgbeaaGreatTabD
set_option linter.unusedSimpArgs false
set_option linter.unusedVariables false
namespace Go.AX
open Go Go.RowKit Go.ChangeShapes
section
variable {P : Program} {t : TypeId} {W : World} {v : Value} {base : Nat} {H : Type} {enc : TypeId × Value → H} {d : DataW H} {ps : List MemPlace}
theorem read_agg {α : Type} [Enc α] (h : Reads P t α) (hu : (∃ fs, P.underlying t = some (.struct fs)) ∨ ∃ n e, P.underlying t = some (.array n e)) (hav : ∀ a : α, Enc.av a = .agg (Enc.cells a))
    (hval : Value.okWide P W .any base t v) (ht : DataW.Trod enc P W 0 (fun _ => true) true t v d ps) (hw : wOk P t d) : ∃ a : α, Rep (ctx0 W) (Enc.av a) v ∧ Enc.ok a := by
  obtain ⟨n, hn⟩ := ht
  obtain ⟨a, h1, h2⟩ := h n H enc W _ _ _ _ hn hw
  have hv : ∃ cs, v = .agg cs := by
    unfold Value.okWide at hval
    rcases hu with ⟨fs, hu⟩ | ⟨n, e, hu⟩ <;> rw [hu] at hval <;> obtain ⟨cs, hc, _⟩ := hval <;> exact ⟨cs, hc⟩
  refine ⟨a, rep_arg h1 ⟨fun _ => hav a, fun _ => hv⟩ (fun vs hvs => ?_), h2⟩
  obtain ⟨cs, hc⟩ := hv
  rw [hvs] at hc; cases hc
end
end Go.AX
namespace W15
open Go Go.AX Go.AX.Ty Go.Proofs
theorem better_asym {a b : Ty.Found} (h : betterB a b = true) : betterB b a = false := by
  rw [← Bool.not_eq_true]
  intro h'
  rw [better_iff] at h h'
  rcases h with ⟨h1, h2⟩ | ⟨h1, h2⟩
  · rcases h' with ⟨g1, g2⟩ | ⟨g1, g2⟩
    · rw [h1] at g2; cases g2
    · rw [h1, h2] at g1; cases g1
  · rcases h' with ⟨g1, g2⟩ | ⟨g1, g2⟩
    · rw [h1, g1] at g2; cases g2
    · rcases h2 with ⟨e1, e2, e3⟩ | ⟨e1, e2⟩
      · rcases g2 with ⟨f1, f2, f3⟩ | ⟨f1, f2⟩
        · cases ha : a.decl.important
          · have := e3 ha; have := f3 (g1.trans ha); omega
          · have := e2 ha; have := f2 (g1.trans ha); omega
        · exact e1 f1.symm
      · rcases g2 with ⟨f1, f2, f3⟩ | ⟨f1, f2⟩
        · exact f1 e1.symm
        · rcases e2 with e2 | ⟨e2, e3⟩
          · rcases f2 with f2 | ⟨f2, f3⟩
            · rw [gtW_asym e2] at f2; cases f2
            · rw [f2, gtW_irr] at e2; cases e2
          · rcases f2 with f2 | ⟨f2, f3⟩
            · rw [e2, gtW_irr] at f2; cases f2
            · omega
theorem better_tri (a b : Ty.Found) : tieB a b ∨ betterB a b = true ∨ betterB b a = true := by
  rw [better_iff, better_iff]
  unfold tieB
  by_cases h1 : a.decl.important = b.decl.important
  · by_cases h2 : a.layer = b.layer
    · rcases gtW_tri a.weight b.weight with h3 | h3 | h3
      · rcases Int.lt_trichotomy a.pos b.pos with h4 | h4 | h4
        · exact .inr (.inr (.inr ⟨h1.symm, .inr ⟨h2.symm, .inr ⟨h3.symm, h4⟩⟩⟩))
        · exact .inl ⟨h1, h2, h3, h4⟩
        · exact .inr (.inl (.inr ⟨h1, .inr ⟨h2, .inr ⟨h3, h4⟩⟩⟩))
      · exact .inr (.inl (.inr ⟨h1, .inr ⟨h2, .inl h3⟩⟩))
      · exact .inr (.inr (.inr ⟨h1.symm, .inr ⟨h2.symm, .inl h3⟩⟩))
    · rcases Int.lt_or_gt_of_ne h2 with h3 | h3
      · cases ha : a.decl.important
        · exact .inr (.inr (.inr ⟨by rw [← ha, ← h1], .inl ⟨Ne.symm h2, fun e => (by rw [← h1, ha] at e; cases e), fun _ => h3⟩⟩))
        · exact .inr (.inl (.inr ⟨by rw [← ha, ← h1], .inl ⟨h2, fun _ => h3, fun e => by cases e⟩⟩))
      · cases ha : a.decl.important
        · exact .inr (.inl (.inr ⟨by rw [← ha, ← h1], .inl ⟨h2, fun e => (by cases e), fun _ => h3⟩⟩))
        · exact .inr (.inr (.inr ⟨by rw [← ha, ← h1], .inl ⟨Ne.symm h2, fun _ => h3, fun e => (by rw [← h1, ha] at e; cases e)⟩⟩))
  · cases ha : a.decl.important
    · cases hb : b.decl.important
      · exact (h1 (by rw [ha, hb])).elim
      · exact .inr (.inr (.inl ⟨rfl, rfl⟩))
    · cases hb : b.decl.important
      · exact .inr (.inl (.inl ⟨rfl, rfl⟩))
      · exact (h1 (by rw [ha, hb])).elim
theorem best_one {name : Str} {l : List Ty.Found} {w v : Ty.Found} (hw : Best name l w) (hv : Best name l v) : tieB w v := by
  rcases better_tri w v with h | h | h
  · exact h
  · rw [hv.top w hw.mem hw.named] at h; cases h
  · rw [hw.top v hv.mem hv.named] at h; cases h
end W15
/- OrderTotal. -/
set_option linter.unusedSimpArgs false
set_option linter.unusedVariables false
namespace W15
open Go Go.AX Go.AX.Ty Go.Proofs

def atF (x : Ty.Found) (name : Str) (p : Int) : Ty.Found := ⟨⟨name, x.decl.l, x.decl.important⟩, x.layer, x.weight, p⟩
theorem win_all {a b c : Ty.Found} {name : Str} (ha : a.decl.name = name) (l : List Ty.Found) (hm : a ∈ l) : ∃ w, winB l name = some w ∧ Best name l w := by
  rcases win_cases l name with ⟨_, h⟩ | h
  · exact absurd ha (h a hm)
  · exact h
theorem tot_win (a b c : Ty.Found) (name : Str) : ∃ w, winB [atF a name 1, atF b name 2, atF c name 3] name = some w ∧ winB [atF c name 3, atF a name 1, atF b name 2] name = some w ∧ betterB (atF a name 1) w = false ∧ betterB (atF b name 2) w = false ∧ betterB (atF c name 3) w = false ∧ (w.decl.l = a.decl.l ∨ w.decl.l = b.decl.l ∨ w.decl.l = c.decl.l) := by
  obtain ⟨w, hw, bw⟩ := win_all (a := atF a name 1) (b := a) (c := a) (name := name) rfl [atF a name 1, atF b name 2, atF c name 3] (by simp)
  obtain ⟨v, hv, bv⟩ := win_all (a := atF a name 1) (b := a) (c := a) (name := name) rfl [atF c name 3, atF a name 1, atF b name 2] (by simp)
  have bv' : Best name [atF a name 1, atF b name 2, atF c name 3] v := by
    refine ⟨?_, bv.named, fun x hx hn => bv.top x ?_ hn⟩
    · have := bv.mem; simp only [List.mem_cons, List.not_mem_nil, or_false] at this ⊢
      rcases this with h | h | h <;> simp [h]
    · simp only [List.mem_cons, List.not_mem_nil, or_false] at hx ⊢
      rcases hx with h | h | h <;> simp [h]
  have ht := best_one bw bv'
  have e : w = v := by
    have hp : w.pos = v.pos := ht.2.2.2
    have m1 := bw.mem
    have m2 := bv'.mem
    simp only [List.mem_cons, List.not_mem_nil, or_false] at m1 m2
    rcases m1 with rfl | rfl | rfl <;> rcases m2 with rfl | rfl | rfl <;> first | rfl | (simp [atF] at hp)
  subst e
  refine ⟨w, hw, hv, bw.top _ (by simp) rfl, bw.top _ (by simp) rfl, bw.top _ (by simp) rfl, ?_⟩
  have m1 := bw.mem
  simp only [List.mem_cons, List.not_mem_nil, or_false] at m1
  rcases m1 with rfl | rfl | rfl
  · exact .inl rfl
  · exact .inr (.inl rfl)
  · exact .inr (.inr rfl)
set_option maxHeartbeats 6400000 in
theorem w_OrderTotal (a b c : Ty.Found) (ha : Enc.ok a) (hb : Enc.ok b) (hc : Enc.ok c) : PureF Tryz.prog 5 [Enc.av a, Enc.av b, Enc.av c] (.bool true) := by
  refine pureF_W mix c5 (by kernel_rfl) (by kernel_rfl) (by simp [flats, flat_av, Go.AX.flat]) (by first | exact flat_av _ | simp [flat, flats, flat_av]) ?_
  have hl : Enc.ok [a, b, c] := ⟨by simp, fun x hx => by
    simp only [List.mem_cons, List.not_mem_nil, or_false] at hx
    rcases hx with rfl | rfl | rfl <;> assumption⟩
  have cf := w_fitsF [a, b, c] hl
  have e3 : ∀ x y z : Ty.Found, Enc.av [x, y, z] = .ps 3 [.str x.decl.name, .ps x.decl.l.length (cellsL x.decl.l), .bool x.decl.important, .int .i64 x.layer, .int .i64 x.weight.a, .int .i64 x.weight.b, .int .i64 x.weight.c, .int .i64 x.pos, .str y.decl.name, .ps y.decl.l.length (cellsL y.decl.l), .bool y.decl.important, .int .i64 y.layer, .int .i64 y.weight.a, .int .i64 y.weight.b, .int .i64 y.weight.c, .int .i64 y.pos, .str z.decl.name, .ps z.decl.l.length (cellsL z.decl.l), .bool z.decl.important, .int .i64 z.layer, .int .i64 z.weight.a, .int .i64 z.weight.b, .int .i64 z.weight.c, .int .i64 z.pos] := fun _ _ _ => rfl
  rw [e3] at cf
  simp -implicitDefEqProofs only [F5, go_sem, Nat.reduceAdd, Nat.reduceEqDiff, Nat.reduceLeDiff, Nat.reduceMul, reduceCtorEq, ↓reduceIte]
  refine callI_pure w_fixed ?_
  simp -implicitDefEqProofs only [go_sem, Nat.reduceAdd, Nat.reduceEqDiff, Nat.reduceLeDiff, Nat.reduceMul, reduceCtorEq, ↓reduceIte]
  refine callI_pure cf ?_
  cases hs : fitsF [a, b, c]
  · simp -implicitDefEqProofs only [go_sem, Nat.reduceAdd, Nat.reduceEqDiff, Nat.reduceLeDiff, Nat.reduceMul, reduceCtorEq, ↓reduceIte]
    refine callI_pure w_fixed ?_
    simp -implicitDefEqProofs only [go_sem, Nat.reduceAdd, Nat.reduceEqDiff, Nat.reduceLeDiff, Nat.reduceMul, reduceCtorEq, ↓reduceIte]
  obtain ⟨_, hsz⟩ := fits_ok hs
  have cab := w_Better a b
  have cba := w_Better b a
  have cbc := w_Better b c
  have cac := w_Better a c
  rw [Found.eav, Found.eav] at cab cba cbc cac
  obtain ⟨w, hw1, hw2, ba, bb, bc, hwl⟩ := tot_win a b c a.decl.name
  have W1 := w_Winner [atF a a.decl.name 1, atF b a.decl.name 2, atF c a.decl.name 3] (by simp) a.decl.name
  have W2 := w_Winner [atF c a.decl.name 3, atF a a.decl.name 1, atF b a.decl.name 2] (by simp) a.decl.name
  rw [hw1, e3] at W1
  rw [hw2, e3] at W2
  simp only [topF, Option.getD_some, Option.isSome_some, atF] at W1 W2
  have hsw : szVL w.decl.l ≤ 1000000 := by
    have h1 := hsz a (by simp)
    have h2 := hsz b (by simp)
    have h3 := hsz c (by simp)
    rcases hwl with h | h | h <;> rw [h] <;> omega
  have hOne := w_One w hsw
  have Ba := w_Better (atF a a.decl.name 1) w
  have Bb := w_Better (atF b a.decl.name 2) w
  have Bc := w_Better (atF c a.decl.name 3) w
  rw [ba] at Ba
  rw [bb] at Bb
  rw [bc] at Bc

  rw [Found.eav] at hOne W1 W2
  rw [Found.eav, Found.eav] at Ba Bb Bc
  simp only [atF] at Ba Bb Bc
  simp -implicitDefEqProofs only [go_sem, Nat.reduceAdd, Nat.reduceEqDiff, Nat.reduceLeDiff, Nat.reduceMul, reduceCtorEq, ↓reduceIte]
  have key : tieB a b ↔ (a.decl.important = b.decl.important ∧ a.layer = b.layer ∧ (a.weight.a == b.weight.a && (a.weight.b == b.weight.b && a.weight.c == b.weight.c)) = true ∧ a.pos = b.pos) := by
    unfold tieB; rw [w3_eq]; simp
  have tie0 : tieB a b → betterB a b = false ∧ betterB b a = false := fun h => ⟨better_tie h, better_tie ⟨h.1.symm, h.2.1.symm, h.2.2.1.symm, h.2.2.2.symm⟩⟩
  have tie1 := better_tri a b
  have asy := @better_asym a b
  have trn := @better_trans a b c
  rcases Classical.propComplete (a.decl.important = b.decl.important) with g1 | g1 <;> rcases Classical.propComplete (a.layer = b.layer) with g2 | g2 <;> rcases Classical.propComplete ((a.weight.a == b.weight.a && (a.weight.b == b.weight.b && a.weight.c == b.weight.c)) = true) with g3 | g3 <;> rcases Classical.propComplete (a.pos = b.pos) with g4 | g4
  all_goals
    rw [g1, g2, g3, g4] at key
    simp -implicitDefEqProofs only [g1, g2, g3, g4, go_sem, Nat.reduceAdd, Nat.reduceEqDiff, Nat.reduceLeDiff, Nat.reduceMul, reduceCtorEq, ↓reduceIte]
    refine dcallI_pure cab ?_
    simp -implicitDefEqProofs only [g1, g2, g3, g4, go_sem, Nat.reduceAdd, Nat.reduceEqDiff, Nat.reduceLeDiff, Nat.reduceMul, reduceCtorEq, ↓reduceIte]
    refine dcallI_pure cba ?_
    generalize betterB a b = x at *
    generalize betterB b a = y at *
    generalize betterB b c = z at *
    generalize betterB a c = u at *
    cases x
    · cases y
      all_goals first
        | (exfalso; simp_all; done)
        | skip
      all_goals
        simp -implicitDefEqProofs only [g1, g2, g3, g4, go_sem, Nat.reduceAdd, Nat.reduceEqDiff, Nat.reduceLeDiff, Nat.reduceMul, reduceCtorEq, ↓reduceIte]
        refine andI_intro (by (first | omega | (simp [indepB, indep1, apart1, Nat.testBit_eq_decide_div_mod_eq]; done) | (simp [indepB, indep1, apart1, Nat.testBit_eq_decide_div_mod_eq]; omega) | kernel_rfl)) ?_
        simp -implicitDefEqProofs only [g1, g2, g3, g4, go_sem, Nat.reduceAdd, Nat.reduceEqDiff, Nat.reduceLeDiff, Nat.reduceMul, reduceCtorEq, ↓reduceIte]
        refine callI_pure W1 ?_
        simp -implicitDefEqProofs only [go_sem, Nat.reduceAdd, Nat.reduceEqDiff, Nat.reduceLeDiff, Nat.reduceMul, reduceCtorEq, ↓reduceIte]
        refine callI_pure W2 ?_
        simp -implicitDefEqProofs only [go_sem, Nat.reduceAdd, Nat.reduceEqDiff, Nat.reduceLeDiff, Nat.reduceMul, reduceCtorEq, ↓reduceIte]
        refine callI_pure hOne ?_
        simp -implicitDefEqProofs only [go_sem, Nat.reduceAdd, Nat.reduceEqDiff, Nat.reduceLeDiff, Nat.reduceMul, reduceCtorEq, ↓reduceIte]
        refine callI_pure Ba ?_
        simp -implicitDefEqProofs only [go_sem, Nat.reduceAdd, Nat.reduceEqDiff, Nat.reduceLeDiff, Nat.reduceMul, reduceCtorEq, ↓reduceIte]
        refine callI_pure Bb ?_
        simp -implicitDefEqProofs only [go_sem, Nat.reduceAdd, Nat.reduceEqDiff, Nat.reduceLeDiff, Nat.reduceMul, reduceCtorEq, ↓reduceIte]
        refine callI_pure Bc ?_
        simp -implicitDefEqProofs only [go_sem, Nat.reduceAdd, Nat.reduceEqDiff, Nat.reduceLeDiff, Nat.reduceMul, reduceCtorEq, ↓reduceIte]
    · cases y
      · first
          | (exfalso; simp_all; done)
          | skip
        all_goals
          simp -implicitDefEqProofs only [g1, g2, g3, g4, go_sem, Nat.reduceAdd, Nat.reduceEqDiff, Nat.reduceLeDiff, Nat.reduceMul, reduceCtorEq, ↓reduceIte]
          refine andI_intro (by (first | omega | (simp [indepB, indep1, apart1, Nat.testBit_eq_decide_div_mod_eq]; done) | (simp [indepB, indep1, apart1, Nat.testBit_eq_decide_div_mod_eq]; omega) | kernel_rfl)) ?_
          simp -implicitDefEqProofs only [g1, g2, g3, g4, go_sem, Nat.reduceAdd, Nat.reduceEqDiff, Nat.reduceLeDiff, Nat.reduceMul, reduceCtorEq, ↓reduceIte]
          refine callI_pure cbc ?_
          cases z
          · simp -implicitDefEqProofs only [g1, g2, g3, g4, go_sem, Nat.reduceAdd, Nat.reduceEqDiff, Nat.reduceLeDiff, Nat.reduceMul, reduceCtorEq, ↓reduceIte]
            refine callI_pure W1 ?_
            simp -implicitDefEqProofs only [go_sem, Nat.reduceAdd, Nat.reduceEqDiff, Nat.reduceLeDiff, Nat.reduceMul, reduceCtorEq, ↓reduceIte]
            refine callI_pure W2 ?_
            simp -implicitDefEqProofs only [go_sem, Nat.reduceAdd, Nat.reduceEqDiff, Nat.reduceLeDiff, Nat.reduceMul, reduceCtorEq, ↓reduceIte]
            refine callI_pure hOne ?_
            simp -implicitDefEqProofs only [go_sem, Nat.reduceAdd, Nat.reduceEqDiff, Nat.reduceLeDiff, Nat.reduceMul, reduceCtorEq, ↓reduceIte]
            refine callI_pure Ba ?_
            simp -implicitDefEqProofs only [go_sem, Nat.reduceAdd, Nat.reduceEqDiff, Nat.reduceLeDiff, Nat.reduceMul, reduceCtorEq, ↓reduceIte]
            refine callI_pure Bb ?_
            simp -implicitDefEqProofs only [go_sem, Nat.reduceAdd, Nat.reduceEqDiff, Nat.reduceLeDiff, Nat.reduceMul, reduceCtorEq, ↓reduceIte]
            refine callI_pure Bc ?_
            simp -implicitDefEqProofs only [go_sem, Nat.reduceAdd, Nat.reduceEqDiff, Nat.reduceLeDiff, Nat.reduceMul, reduceCtorEq, ↓reduceIte]
          · simp -implicitDefEqProofs only [g1, g2, g3, g4, go_sem, Nat.reduceAdd, Nat.reduceEqDiff, Nat.reduceLeDiff, Nat.reduceMul, reduceCtorEq, ↓reduceIte]
            refine callI_pure cac ?_
            cases u
            · exfalso; simp_all
            · simp -implicitDefEqProofs only [g1, g2, g3, g4, go_sem, Nat.reduceAdd, Nat.reduceEqDiff, Nat.reduceLeDiff, Nat.reduceMul, reduceCtorEq, ↓reduceIte]
              refine callI_pure W1 ?_
              simp -implicitDefEqProofs only [go_sem, Nat.reduceAdd, Nat.reduceEqDiff, Nat.reduceLeDiff, Nat.reduceMul, reduceCtorEq, ↓reduceIte]
              refine callI_pure W2 ?_
              simp -implicitDefEqProofs only [go_sem, Nat.reduceAdd, Nat.reduceEqDiff, Nat.reduceLeDiff, Nat.reduceMul, reduceCtorEq, ↓reduceIte]
              refine callI_pure hOne ?_
              simp -implicitDefEqProofs only [go_sem, Nat.reduceAdd, Nat.reduceEqDiff, Nat.reduceLeDiff, Nat.reduceMul, reduceCtorEq, ↓reduceIte]
              refine callI_pure Ba ?_
              simp -implicitDefEqProofs only [go_sem, Nat.reduceAdd, Nat.reduceEqDiff, Nat.reduceLeDiff, Nat.reduceMul, reduceCtorEq, ↓reduceIte]
              refine callI_pure Bb ?_
              simp -implicitDefEqProofs only [go_sem, Nat.reduceAdd, Nat.reduceEqDiff, Nat.reduceLeDiff, Nat.reduceMul, reduceCtorEq, ↓reduceIte]
              refine callI_pure Bc ?_
              simp -implicitDefEqProofs only [go_sem, Nat.reduceAdd, Nat.reduceEqDiff, Nat.reduceLeDiff, Nat.reduceMul, reduceCtorEq, ↓reduceIte]
      · exfalso; simp_all
end W15
