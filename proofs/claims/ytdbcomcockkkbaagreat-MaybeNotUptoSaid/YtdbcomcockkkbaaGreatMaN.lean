/- MaybeNot. -/
import Derived.Test.YtdbcomcockkkbaaGreatMaC
set_option linter.unusedSimpArgs false
set_option linter.unusedVariables false
namespace W14
open Go Go.AX Go.AX.Ty Go.Proofs

theorem int_ok {k : Int} (h : -9223372036854775808 ≤ k ∧ k ≤ 9223372036854775807) : Enc.ok k := by
  first | exact h | exact ⟨h.1, by omega⟩ | (simp only [Enc.ok]; omega)
theorem nil_ok {α : Type} [Enc α] : Enc.ok ([] : List α) := by simp [Enc.ok]
theorem snil_ok : Enc.ok ([] : Str) := by show (0 : Nat) ≤ _; omega
theorem str_ok {v : Str} (h : v.length ≤ 1000) : Enc.ok v := by show v.length ≤ _; omega
theorem simple_ok {k a b : Int} {n v : Str} {l : List Simple} (hk : Enc.ok k) (hn : Enc.ok n) (hv : Enc.ok v) (ha : Enc.ok a) (hb : Enc.ok b) (hl : Enc.ok l) : Enc.ok (Simple.mk k n v a b l) := (Simple.ok_iff _).2 ⟨hk, hn, hv, ha, hb, hl⟩
abbrev sNot (l : List Simple) : Simple := Simple.mk 11 [] [] 0 0 l
abbrev sHover : Simple := Simple.mk 7 [104, 111, 118, 101, 114] [] 0 0 []
abbrev sAny : Simple := Simple.mk 1 [] [] 0 0 []
theorem w_MaybeNot (w : WorldS) (x : Simple) (n : Int) (hw : Enc.ok w) (hx : Enc.ok x) (hb1 : w.s.classes.length ≤ 1048576) (hb2 : w.s.attrs.length ≤ 1048576) : PureF Tryz.prog 9 [Enc.av w, Enc.av x, Enc.av n] (.bool true) := by
  refine pureF_W mix c9 (by kernel_rfl) (by kernel_rfl) (by simp [flats, flat_av, Go.AX.flat]) (by first | exact flat_av _ | simp [flat, flats, flat_av]) ?_
  have hw' := (WorldS.ok_iff w).1 hw
  have hlx : Enc.ok [x] := ⟨by simp, by simpa using hx⟩
  have hcx : Enc.ok (Complex.mk [Part.mk 0 [x]] []) := (Complex.ok_iff _).2 ⟨⟨by show (1 : Nat) ≤ _; omega, fun q hq => by
    simp [Complex.parts] at hq
    subst hq
    exact (Part.ok_iff _).2 ⟨int_ok (k := 0) (by omega), hlx⟩⟩, snil_ok⟩
  have hsm := w_small w (Complex.mk [Part.mk 0 [x]] []) hw hcx hb1 hb2
  rw [WorldS.eav, Complex.eav] at hsm
  rw [Simple.eav, WorldS.eav]
  simp -implicitDefEqProofs only [F9, go_sem, Nat.reduceAdd, Nat.reduceEqDiff, ↓reduceIte]
  refine callI_pure w_fixed ?_
  simp -implicitDefEqProofs only [go_sem, Nat.reduceAdd, Nat.reduceEqDiff, Nat.reduceLeDiff, reduceCtorEq, ↓reduceIte]
  refine callI_d hsm ?_
  simp -implicitDefEqProofs only [Complex.parts, Complex.pseudo, Part.comb, Part.l, cellsL, go_sem, Nat.reduceAdd, Nat.reduceEqDiff, ↓reduceIte]
  cases hs : smallW w.p w.s (Complex.mk [Part.mk 0 [x]] [])
  · simp -implicitDefEqProofs only [go_sem]
    refine callI_pure w_fixed ?_
    simp -implicitDefEqProofs only [go_sem, ↓reduceIte]
  obtain ⟨hp, hcl, hsel, hsh⟩ := small_ok hw'.1 hcx hs
  have hzx : siz x ≤ 30 := by
    have := (smallC_ok 30 [Complex.mk [Part.mk 0 [x]] []] 1 (by simp only [smallW, Bool.and_eq_true] at hs; exact hs.2.2)).2 (Complex.mk [Part.mk 0 [x]] []) (by simp)
    have h2 := this.1
    simp only [Complex.parts, sizN, Part.l, sizL] at h2
    simp at h2; omega
  have s1 := w_Simple w.s hw'.2 w.p hp n x hx (by omega)
  have s2 := w_Simple w.s hw'.2 w.p hp n (sNot [x]) (simple_ok (int_ok (by decide)) snil_ok snil_ok (int_ok (by decide)) (int_ok (by decide)) hlx) (by rw [siz_eq]; simp only [sNot, Simple.l, sizL]; omega)
  have s3 := w_Simple w.s hw'.2 w.p hp n sHover (simple_ok (int_ok (by decide)) (str_ok (by decide)) snil_ok (int_ok (by decide)) (int_ok (by decide)) nil_ok) (by decide)
  have s4 := w_Simple w.s hw'.2 w.p hp n sAny (simple_ok (int_ok (by decide)) snil_ok snil_ok (int_ok (by decide)) (int_ok (by decide)) nil_ok) (by decide)
  have e2 : mS w.s w.p n (sNot [x]) = kNot (mS w.s w.p n x) := by
    rw [mS_eq]
    have : kOr (List.map (mS w.s w.p n) [x]) = mS w.s w.p n x := by
      have hb := mS_bd w.s w.p n x
      simp only [List.map, kOr, List.foldl_cons, List.foldl_nil, clip_id hb]; unfold kmax; split <;> omega
    show (if (11 : Int) = 11 then kNot (kOr (List.map (mS w.s w.p n) [x])) else _) = _
    rw [if_pos rfl, this]
  have e3 : mS w.s w.p n sHover = 1 := by rw [mS_eq]; rfl
  have e4 : mS w.s w.p n sAny = 2 := by rw [mS_eq]; rfl
  by_cases hte : treeB w.p = true ∧ elemB w.p n = true
  · have v : ∀ y, simS w.s w.p n y = mS w.s w.p n y := fun y => if_pos hte
    rw [v] at s1 s2 s3 s4
    rw [e2] at s2
    rw [e3] at s3
    rw [e4] at s4
    rw [Simple.eav, Safe.eav] at s1 s2 s3 s4
    simp -implicitDefEqProofs only [go_sem, Nat.reduceAdd, Nat.reduceEqDiff, Nat.reduceLeDiff, reduceCtorEq, ↓reduceIte]
    refine callI_pure s1 ?_
    simp -implicitDefEqProofs only [go_sem, Nat.reduceAdd, Nat.reduceEqDiff, Nat.reduceLeDiff, reduceCtorEq, ↓reduceIte]
    refine callI_d s2 ?_
    simp -implicitDefEqProofs only [sNot, Simple.kind, Simple.name, Simple.value, Simple.a, Simple.b, Simple.l, cellsL, go_sem, Nat.reduceAdd, Nat.reduceEqDiff, Nat.reduceLeDiff, reduceCtorEq, ↓reduceIte]
    refine callI_d s3 ?_
    simp -implicitDefEqProofs only [Simple.kind, Simple.name, Simple.value, Simple.a, Simple.b, Simple.l, cellsL, go_sem, Nat.reduceAdd, Nat.reduceEqDiff, Nat.reduceLeDiff, reduceCtorEq, ↓reduceIte]
    refine callI_d s4 ?_
    simp -implicitDefEqProofs only [Simple.kind, Simple.name, Simple.value, Simple.a, Simple.b, Simple.l, cellsL, go_sem, Nat.reduceAdd, Nat.reduceEqDiff, reduceCtorEq, ↓reduceIte]
    refine callI_pure (w_rTree w.p hp) ?_
    simp -implicitDefEqProofs only [hte.1, go_sem, Nat.reduceAdd, Nat.reduceEqDiff, reduceCtorEq, ↓reduceIte]
    refine callI_pure (w_rElement w.p n) ?_
    simp -implicitDefEqProofs only [hte.2, go_sem, Nat.reduceEqDiff, ↓reduceIte]
    refine callI_pure (w_Not _) ?_
    simp -implicitDefEqProofs only [go_sem, Nat.reduceEqDiff, ↓reduceIte]
  · have v : ∀ y, simS w.s w.p n y = 0 := fun y => if_neg hte
    rw [v] at s1 s2 s3 s4
    rw [Simple.eav, Safe.eav] at s1 s2 s3 s4
    simp -implicitDefEqProofs only [go_sem, Nat.reduceAdd, Nat.reduceEqDiff, Nat.reduceLeDiff, reduceCtorEq, ↓reduceIte]
    refine callI_pure s1 ?_
    simp -implicitDefEqProofs only [go_sem, Nat.reduceAdd, Nat.reduceEqDiff, Nat.reduceLeDiff, reduceCtorEq, ↓reduceIte]
    refine callI_d s2 ?_
    simp -implicitDefEqProofs only [sNot, Simple.kind, Simple.name, Simple.value, Simple.a, Simple.b, Simple.l, cellsL, go_sem, Nat.reduceAdd, Nat.reduceEqDiff, Nat.reduceLeDiff, reduceCtorEq, ↓reduceIte]
    refine callI_d s3 ?_
    simp -implicitDefEqProofs only [Simple.kind, Simple.name, Simple.value, Simple.a, Simple.b, Simple.l, cellsL, go_sem, Nat.reduceAdd, Nat.reduceEqDiff, Nat.reduceLeDiff, reduceCtorEq, ↓reduceIte]
    refine callI_d s4 ?_
    simp -implicitDefEqProofs only [Simple.kind, Simple.name, Simple.value, Simple.a, Simple.b, Simple.l, cellsL, go_sem, Nat.reduceAdd, Nat.reduceEqDiff, reduceCtorEq, ↓reduceIte]
    refine callI_pure (w_rTree w.p hp) ?_
    cases ht : treeB w.p
    · simp -implicitDefEqProofs only [go_sem, Nat.reduceEqDiff, reduceCtorEq, ↓reduceIte]
    · have he : elemB w.p n = false := by
        cases he : elemB w.p n
        · rfl
        · exact (hte ⟨ht, he⟩).elim
      simp -implicitDefEqProofs only [go_sem, Nat.reduceAdd, Nat.reduceEqDiff, reduceCtorEq, ↓reduceIte]
      refine callI_pure (w_rElement w.p n) ?_
      simp -implicitDefEqProofs only [he, go_sem, Nat.reduceEqDiff, ↓reduceIte]
end W14
