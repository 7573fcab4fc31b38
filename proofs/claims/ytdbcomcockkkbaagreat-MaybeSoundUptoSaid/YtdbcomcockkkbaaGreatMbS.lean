/- MaybeExact. -/
import Derived.Test.YtdbcomcockkkbaaGreatMbC
import Derived.Test.YtdbcomcockkkbaaGreatMbT
set_option linter.unusedSimpArgs false
set_option linter.unusedVariables false
namespace W14
open Go Go.AX Go.AX.Ty Go.Proofs

theorem w_inL (l : List Int) (n : Int) (hl : l.length ≤ 1000000) : PureF Tryz.prog 23 [Enc.av l, Enc.av n] (.bool (l.any fun x => x == n)) := by
  refine pureF_W mix c23 (by kernel_rfl) (by kernel_rfl) (by simp [flats, flat_av, Go.AX.flat]) (by first | exact flat_av _ | simp [flat, flats, flat_av]) ?_
  simp -implicitDefEqProofs only [F23, go_sem]
  refine LoopI_sl (fun k : Nat => l.length - k) (fun k => [(0, Enc.av l), (1, Enc.av n), (5, .int .i64 k)]) (fun k st => k ≤ l.length ∧ Pre (fun x => x == n) l k) 0 ?_ ?_
  · simp -implicitDefEqProofs only [go_sem, Nat.reduceEqDiff, reduceCtorEq, ↓reduceIte]
    exact Pre.zero _ _
  rintro k ρ ⟨g, m⟩ ⟨h1, h2⟩
  rcases Nat.lt_or_ge k l.length with hk | hk
  · obtain ⟨x, hx, hd, hm⟩ := get_drop hk
    have hlt : ((k : Int) < (l.length : Int)) = True := eq_true (by omega)
    have w1 : IntKind.i64.wrap ((k : Int) + 1) = ((k + 1 : Nat) : Int) := by rw [wrap64 (by omega) (by omega)]; omega
    by_cases he : x = n
    · have f : (x = n) = True := eq_true he
      simp -implicitDefEqProofs only [hlt, hx, w1, f, go_sem, Nat.reduceEqDiff, reduceCtorEq, ↓reduceIte]
      rw [any_here hm (by simp [he])]
    · have f : (x = n) = False := eq_false he
      simp -implicitDefEqProofs only [hlt, hx, w1, f, go_sem, Nat.reduceEqDiff, reduceCtorEq, ↓reduceIte]
      exact ⟨k + 1, by omega, rfl, by omega, h2.next hx (by simp [he])⟩
  · have hlt : ((k : Int) < (l.length : Int)) = False := eq_false (by omega)
    simp -implicitDefEqProofs only [hlt, go_sem, Nat.reduceEqDiff, reduceCtorEq, ↓reduceIte]
    rw [any_no (h2.all hk)]
end W14
/- MaybeSound. -/
set_option linter.unusedSimpArgs false
set_option linter.unusedVariables false
namespace W14
open Go Go.AX Go.AX.Ty Go.Proofs

theorem sound_of {s : Safe} {p q : Page} (h : Turned s p q) (st : List Ty.State) (parts : List Part) (n : Int) : (ofS s p n parts = 2 → isB q st n parts = true) ∧ (treeB p = true ∧ elemB p n = true ∧ parts ≠ [] → ofS s p n parts = 0 → isB q st n parts = false) := by
  obtain ⟨a, b⟩ := sound_mFit h st parts (parts.length - 1) n
  unfold ofS isB
  constructor
  · intro e
    split at e
    · rename_i hc
      rw [← h.same.tree, hc.1, a e]; simp [hc.2.2]
    · omega
  · intro hc e
    rw [if_pos hc] at e
    rw [b e]; simp
theorem no_is {s : Safe} {p q : Page} (h : Turned s p q) (st : List Ty.State) (parts : List Part) (n : Int) (hno : ¬ (treeB p = true ∧ elemB p n = true ∧ parts ≠ [])) : isB q st n parts = false := by
  unfold isB
  rw [← h.same.tree]
  by_cases ht : treeB p = true
  · by_cases hpe : parts = []
    · simp [hpe]
    · have he : elemB q n = false := by
        rw [← h.same.elem]
        cases he : elemB p n
        · rfl
        · exact (hno ⟨ht, he, hpe⟩).elim
      rw [fitsB_elem he]; simp
  · simp [ht]
theorem of_le_any (s : Safe) (p : Page) (parts : List Part) (k : Nat) (hk : k < p.length) : ofS s p k parts ≤ anyS s p parts := by
  unfold ofS anyS
  split
  · rename_i hc
    rw [if_pos ⟨hc.1, hc.2.2⟩]
    have := le_kOr (l := rowM s p parts (parts.length - 1)) (x := mFit s p parts (parts.length - 1) k) (List.mem_of_getElem? (rowM_get hk))
    rwa [clip_id (mFit_bd _ _ _ _ _)] at this
  · split
    · exact (kOr_bd _).1
    · omega
theorem any_zero {s : Safe} {p q : Page} (h : Turned s p q) (st : List Ty.State) (parts : List Part) (h0 : anyS s p parts = 0) : allB q st parts = [] := by
  unfold allB allTo
  rw [List.map_eq_nil_iff, List.filter_eq_nil_iff]
  intro k hk
  rw [List.mem_range, ← h.same.len] at hk
  have hle := of_le_any s p parts k hk
  by_cases hc : treeB p = true ∧ elemB p k = true ∧ parts ≠ []
  · have h2 : ofS s p k parts = 0 := by
      have : 0 ≤ ofS s p k parts := by unfold ofS; rw [if_pos hc]; exact (mFit_bd _ _ _ _ _).1
      omega
    rw [(sound_of h st parts k).2 hc h2]; simp
  · rw [no_is h st parts k hc]; simp
theorem w_MaybeSound (w : WorldS) (c : Complex) (y : Change) (hw : Enc.ok w) (hc : Enc.ok c) (hy : Enc.ok y) (hb1 : w.s.classes.length ≤ 1048576) (hb2 : w.s.attrs.length ≤ 1048576) : PureF Tryz.prog 4 [Enc.av w, Enc.av c, Enc.av y] (.bool true) := by
  refine pureF_W mix c4 (by kernel_rfl) (by kernel_rfl) (by simp [flats, flat_av, Go.AX.flat]) (by first | exact flat_av _ | simp [flat, flats, flat_av]) ?_
  have hw' := (WorldS.ok_iff w).1 hw
  have hy' := (Change.ok_iff y).1 hy
  have hsm := w_small w c hw hc hb1 hb2
  rw [WorldS.eav, Complex.eav] at hsm
  rw [WorldS.eav, Complex.eav, Change.eav]
  simp -implicitDefEqProofs only [F4, go_sem, Nat.reduceAdd, Nat.reduceEqDiff, ↓reduceIte]
  refine callI_pure w_fixed ?_
  simp -implicitDefEqProofs only [go_sem, Nat.reduceAdd, Nat.reduceEqDiff, reduceCtorEq, ↓reduceIte]
  refine callI_pure hsm ?_
  cases hs : smallW w.p w.s c
  · simp -implicitDefEqProofs only [go_sem, Nat.reduceEqDiff, reduceCtorEq, ↓reduceIte]
    refine callI_pure w_fixed ?_
    simp -implicitDefEqProofs only [go_sem, ↓reduceIte]
  obtain ⟨hp, hcl, hsel, hsh⟩ := small_ok hw'.1 hc hs
  have hpB : PgB 20 1000 w.p := pgB_of hw'.1 (by simp only [smallW, Bool.and_eq_true] at hs; exact hs.1)
  simp -implicitDefEqProofs only [go_sem, Nat.reduceAdd, Nat.reduceEqDiff, ↓reduceIte]
  refine callI_pure (w_rSmallT y.l hy'.1) ?_
  cases hst : smallT y.l
  · simp -implicitDefEqProofs only [go_sem, Nat.reduceEqDiff, reduceCtorEq, ↓reduceIte]
    refine callI_pure w_fixed ?_
    simp -implicitDefEqProofs only [go_sem, ↓reduceIte]
  simp -implicitDefEqProofs only [go_sem, Nat.reduceAdd, Nat.reduceEqDiff, Nat.reduceLeDiff, ↓reduceIte]
  refine callI_pure (w_Few y.st hy'.2) ?_
  cases hfw : fewB y.st
  · simp -implicitDefEqProofs only [go_sem, Nat.reduceEqDiff, reduceCtorEq, ↓reduceIte]
    refine callI_pure w_fixed ?_
    simp -implicitDefEqProofs only [go_sem, ↓reduceIte]
  simp -implicitDefEqProofs only [go_sem, Nat.reduceAdd, Nat.reduceEqDiff, reduceCtorEq, ↓reduceIte]
  refine callI_pure (w_rTree w.p hp) ?_
  cases htr : treeB w.p
  · simp -implicitDefEqProofs only [go_sem, Nat.reduceEqDiff, ↓reduceIte]
    refine callI_pure w_fixed ?_
    simp -implicitDefEqProofs only [go_sem, ↓reduceIte]
  obtain ⟨hl20, hlt⟩ := smallT_of hst
  have hst30 : y.st.length ≤ 100000 := by
    simp only [fewB, Bool.and_eq_true, decide_eq_true_eq] at hfw; omega
  have hAll := w_rAllT w.s hw'.2 w.p hpB y.l (by omega) (by omega) (by omega) hy'.1.2 hlt
  rw [Safe.eav] at hAll
  simp -implicitDefEqProofs only [go_sem, Nat.reduceAdd, Nat.reduceEqDiff, Nat.reduceLeDiff, reduceCtorEq, ↓reduceIte]
  refine callI_pure hAll ?_
  cases hall : y.l.all (mayT w.s w.p)
  · simp -implicitDefEqProofs only [go_sem, Nat.reduceEqDiff, ↓reduceIte]
  have hq := (PgB.turns y.l hpB (by omega) (by omega) hlt).pg (by omega)
  have hT : Turned w.s w.p (doB w.p y.l) := turned_all y.l hall
  generalize doB w.p y.l = q at hq hT
  have of1 := fun n : Int => w_Of w.s hw'.2 w.p hp n c hsel
  have any1 := w_Any w.s hw'.2 w.p hp c hsel
  have all2 := w_rAll q y.st hq hst30 c hc
  have hal := allB_len q y.st c.parts
  have hqlen := hq.len
  have hin := fun n : Int => w_inL (allB q y.st c.parts) n (by omega)
  simp only [all_any] at hin
  have hany0 := any_zero hT y.st c.parts
  rw [Complex.eav, Safe.eav] at any1
  rw [Complex.eav] at all2
  simp only [Complex.eav, Safe.eav] at of1
  have hpl := hp.len
  have hsnd := fun n : Int => sound_of hT y.st c.parts n
  have hnoi := fun n : Int => no_is hT y.st c.parts n
  have hle := fun k hk => of_le_any w.s w.p c.parts k hk
  generalize allB q y.st c.parts = A at all2 hal hin hany0
  generalize anyS w.s w.p c.parts = an at any1 hany0 hle
  simp -implicitDefEqProofs only [go_sem, Nat.reduceAdd, Nat.reduceEqDiff, Nat.reduceLeDiff, ↓reduceIte]
  refine callI_pure all2 ?_
  simp -implicitDefEqProofs only [go_sem, Nat.reduceAdd, Nat.reduceEqDiff, Nat.reduceLeDiff, reduceCtorEq, ↓reduceIte]
  refine callI_pure any1 ?_
  simp -implicitDefEqProofs only [go_sem, ↓reduceIte]
  refine LoopI_sl (fun n : Nat => w.p.length - n) (fun n => [(3, .ptr 0 0 0), (4, .ptr 1 0 0), (9, Enc.av A), (10, .int .i64 an), (11, .int .i64 n)])
    (fun n st => n ≤ w.p.length ∧ st = ⟨[(2, .cells 0 [.ps y.l.length (cellsL y.l), .ps y.st.length (cellsL y.st)] false), (1, .cells 0 [.ps c.parts.length (cellsL c.parts), .str c.pseudo] false), (0, .cells 0 [.ps w.p.length (cellsL w.p), .ps w.s.classes.length (cellsL w.s.classes), .ps w.s.attrs.length (cellsL w.s.attrs)] false)], 3⟩) 0 ?_ ?_
  · simp -implicitDefEqProofs only [go_sem, Nat.reduceEqDiff, ↓reduceIte]
  rintro n ρ st ⟨h1, rfl⟩
  rcases Nat.lt_or_ge n w.p.length with hn | hn
  · have hltn : ((n : Int) < (w.p.length : Int)) = True := eq_true (by omega)
    have w1 : IntKind.i64.wrap ((n : Int) + 1) = ((n + 1 : Nat) : Int) := by rw [wrap64 (by omega) (by omega)]; omega
    have p1 := of1 n
    have p2 := hin n
    have q1 := hsnd n
    have q2 := hnoi n
    have q3 := hle n hn
    have q0 : 0 ≤ ofS w.s w.p n c.parts ∧ ofS w.s w.p n c.parts ≤ 2 := by unfold ofS; split; exact mFit_bd _ _ _ _ _; omega
    have q5 : ofS w.s w.p n c.parts = 0 → isB q y.st n c.parts = false := fun e => by
      by_cases hcc : treeB w.p = true ∧ elemB w.p n = true ∧ c.parts ≠ []
      · exact q1.2 hcc e
      · exact q2 hcc
    have q6 := q1.1
    clear q1 q2 hsnd hnoi
    generalize ofS w.s w.p n c.parts = o at p1 q3 q0 q5 q6
    generalize isB q y.st n c.parts = b at p2 q5 q6
    have z3 : (o > an) = False := eq_false (by omega)
    simp -implicitDefEqProofs only [hltn, go_sem, Nat.reduceAdd, Nat.reduceEqDiff, Nat.reduceLeDiff, reduceCtorEq, ↓reduceIte]
    refine callI_pure p1 ?_
    simp -implicitDefEqProofs only [go_sem, Nat.reduceEqDiff, ↓reduceIte]
    refine callI_pure p2 ?_
    by_cases o2 : o = 2
    · have f : (o = 2) = True := eq_true o2
      have hb := q6 o2
      subst hb
      have f0 : (o = 0) = False := eq_false (by omega)
      simp -implicitDefEqProofs only [f, f0, z3, w1, go_sem, Nat.reduceEqDiff, ↓reduceIte]
      exact ⟨n + 1, by omega, rfl, by omega⟩
    · have f : (o = 2) = False := eq_false o2
      by_cases o0 : o = 0
      · have f0 : (o = 0) = True := eq_true o0
        have hb := q5 o0
        subst hb
        simp -implicitDefEqProofs only [f, f0, z3, w1, go_sem, Nat.reduceEqDiff, ↓reduceIte]
        exact ⟨n + 1, by omega, rfl, by omega⟩
      · have f0 : (o = 0) = False := eq_false o0
        simp -implicitDefEqProofs only [f, f0, z3, w1, go_sem, Nat.reduceEqDiff, ↓reduceIte]
        exact ⟨n + 1, by omega, rfl, by omega⟩
  · have hltn : ((n : Int) < (w.p.length : Int)) = False := eq_false (by omega)
    by_cases ha : an = 0
    · have f : (an = 0) = True := eq_true ha
      have hA := hany0 ha
      have fA : (A.length : Int) = 0 := by rw [hA]; rfl
      simp -implicitDefEqProofs only [hltn, f, fA, go_sem, Nat.reduceAdd, Nat.reduceEqDiff, reduceCtorEq, ↓reduceIte]
    · have f : (an = 0) = False := eq_false ha
      simp -implicitDefEqProofs only [hltn, f, go_sem, Nat.reduceAdd, Nat.reduceEqDiff, reduceCtorEq, ↓reduceIte]
end W14
