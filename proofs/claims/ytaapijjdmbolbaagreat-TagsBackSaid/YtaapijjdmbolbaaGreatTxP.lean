/- How much is read, and written. -/
import Derived.Test.YtaapijjdmbolbaaGreatTxE
set_option linter.unusedSimpArgs false
set_option linter.unusedVariables false
namespace W09
open Go Go.AX Go.AX.Ty
def wtA (a : Ty.Attr) : Nat := a.name.length + a.value.length + 1
def wtL (al : List Ty.Attr) : Nat := (al.map wtA).sum
def wtT (t : Tag) : Nat := t.name.length + t.text.length + wtL t.attrs + 1
def wtTs (l : List Tag) : Nat := (l.map wtT).sum
theorem wtTs_cons (t : Tag) (l : List Tag) : wtTs (t :: l) = wtT t + wtTs l := by simp [wtTs]
theorem wtTs_app (l m : List Tag) : wtTs (l ++ m) = wtTs l + wtTs m := by simp [wtTs]
theorem wtL_app (l m : List Ty.Attr) : wtL (l ++ m) = wtL l + wtL m := by simp [wtL]
theorem wtL_len (al : List Ty.Attr) : al.length ≤ wtL al := by
  induction al with
  | nil => simp
  | cons a r ih => simp only [wtL, List.map_cons, List.sum_cons, List.length_cons, wtA] at ih ⊢; omega
theorem wtL_mem {al : List Ty.Attr} {a : Ty.Attr} (h : a ∈ al) : wtA a ≤ wtL al := by
  induction al with
  | nil => simp at h
  | cons x r ih =>
    simp only [wtL, List.map_cons, List.sum_cons] at ih ⊢
    rcases List.mem_cons.1 h with rfl | h
    · omega
    · have := ih h; omega
theorem wtTs_mem {l : List Tag} {t : Tag} (h : t ∈ l) : wtT t ≤ wtTs l := by
  induction l with
  | nil => simp at h
  | cons x r ih =>
    rw [wtTs_cons]
    rcases List.mem_cons.1 h with rfl | h
    · omega
    · have := ih h; omega
theorem wtTs_len (l : List Tag) : l.length ≤ wtTs l := by
  induction l with
  | nil => simp
  | cons t r ih => rw [wtTs_cons]; simp only [List.length_cons, wtT]; omega
theorem val_wt (t : Str) : (valB t).1.length + (valB t).2.length ≤ t.length := by
  unfold valB
  split
  · have h1 := plainB_le (frontB (t.take 1) (t.drop 1))
    have h2 := front_len (e := t.take 1) (t.drop 1)
    have h3 : ∀ (e s : Str), (frontB e s).length + (restB e s).length ≤ s.length := fun e s => by
      induction s with
      | nil => simp [frontB, restB]
      | cons c r ih =>
        simp only [frontB, restB]
        split
        · simp
        · simp only [List.length_cons]; omega
    have h4 := h3 (t.take 1) (t.drop 1)
    simp only [List.length_drop] at h4 ⊢; omega
  · have h1 := plainB_le (t.takeWhile inValB)
    have h2 := congrArg List.length (tw_dw (p := inValB) t)
    rw [List.length_append] at h2
    simp only; omega
theorem small_len (s : Str) : (smallB s).length = s.length := by simp [smallB]
theorem attr_wt {c : UInt8} {r : Str} (h : inAttrB c = true) : wtA (attrB (c :: r)).1 + 2 * (attrB (c :: r)).2.length ≤ 2 * (c :: r).length := by
  have h0 := congrArg List.length (tw_dw (p := inAttrB) (c :: r))
  rw [List.length_append] at h0
  have h1 : 1 ≤ ((c :: r).takeWhile inAttrB).length := by rw [List.takeWhile_cons, if_pos h]; simp
  unfold attrB
  split
  · have h2 := dw_len (p := blankB) ((c :: r).dropWhile inAttrB)
    have h3 := dw_len (p := blankB) ((((c :: r).dropWhile inAttrB).dropWhile blankB).drop 1)
    have h4 := val_wt (((((c :: r).dropWhile inAttrB).dropWhile blankB).drop 1).dropWhile blankB)
    have h5 : 1 ≤ (((c :: r).dropWhile inAttrB).dropWhile blankB).length := by
      rename_i hh; exact hasB_len hh
    simp only [List.length_drop, wtA, small_len] at h3 ⊢
    omega
  · simp only [wtA, small_len, List.length_nil]; omega
theorem addA_wt (al : List Ty.Attr) (a : Ty.Attr) : wtL (addA al a) ≤ wtL al + wtA a := by
  unfold addA
  split
  · rw [wtL_app]; simp [wtL]
  · omega
theorem attrs_wt : ∀ (n : Nat) (al : List Ty.Attr) (s : Str), s.length ≤ n → wtL (attrsB al s).1 + 2 * (attrsB al s).2.length ≤ wtL al + 2 * s.length
  | n, al, [], h => by rw [attrsB_nil]; simp
  | n + 1, al, c :: r, h => by
    rw [attrsB_cons]
    simp only [List.length_cons] at h
    by_cases h3 : c = 62
    · rw [if_pos h3]; simp only [List.length_cons]; omega
    rw [if_neg h3]
    by_cases h4 : inAttrB c = false
    · rw [if_pos h4]; have := attrs_wt n al r (by omega); simp only [List.length_cons]; omega
    rw [if_neg h4]
    have hl := attr_len (r := r) (by simpa using h4)
    have hw := attr_wt (r := r) (by simpa using h4)
    have ha := addA_wt al (attrB (c :: r)).1
    simp only [List.length_cons] at hl hw ⊢
    have := attrs_wt n (addA al (attrB (c :: r)).1) (attrB (c :: r)).2 (by omega)
    omega
theorem open_wt {t : Str} (h : t ≠ []) : wtT (openB t).1 + 2 * (openB t).2.length ≤ 2 * t.length := by
  have h1 := nameLen_le (t.drop 1)
  have h2 := attrs_wt _ [] ((t.drop 1).drop (nameLen (t.drop 1))) (Nat.le_refl _)
  have h3 := List.length_pos_iff.2 h
  unfold openB
  simp only [wtT, openT, small_len, List.length_take, List.length_drop, List.length_nil] at h1 h2 ⊢
  have h4 : wtL [] = 0 := rfl
  omega
theorem put_wt (x : Str) : wtTs (putB x) ≤ 2 * x.length := by
  unfold putB
  split
  · simp [wtTs]
  · rename_i hx
    have := List.length_pos_iff.2 hx
    simp only [wtTs, List.map_cons, List.map_nil, List.sum_cons, List.sum_nil, wtT, textT, wtL, List.length_nil]; omega
theorem next_wt {t : Str} (h : t ≠ []) : wtTs (nextB t).1 + 2 * (nextB t).2.length ≤ 2 * t.length := by
  have h3 := List.length_pos_iff.2 h
  unfold nextB
  split
  · have := rest_len (e := [45, 45, 62]) (t.drop 4)
    simp only [wtTs, List.map_nil, List.sum_nil, List.length_drop] at this ⊢; omega
  split
  · have := rest_len (e := [62]) t
    simp only [wtTs, List.map_nil, List.sum_nil]; omega
  split
  · have h1 := nameLen_le (t.drop 2)
    have h2 := rest_len (e := [62]) ((t.drop 2).drop (nameLen (t.drop 2)))
    have h4 : 2 ≤ t.length := by rename_i hh; exact hasB_len hh.1
    simp only [wtTs, List.map_cons, List.map_nil, List.sum_cons, List.sum_nil, wtT, shutT, small_len, wtL, List.length_take, List.length_drop, List.length_nil] at h1 h2 ⊢
    omega
  split
  · have h1 := open_wt h
    split
    · have h2 := raw_le (openB t).2
      have h4 := put_wt ((openB t).2.take (rawB (openB t).2))
      simp only [wtTs_cons, List.length_drop, List.length_take] at h4 ⊢
      omega
    · simp only [wtTs_cons]
      have : wtTs [] = 0 := rfl
      omega
  · have h1 := put_wt (plainB (t.take (1 + untag (t.drop 1))))
    have h2 := plainB_le (t.take (1 + untag (t.drop 1)))
    simp only [List.length_take, List.length_drop] at h2 ⊢
    omega
theorem all_wt : ∀ (n : Nat) (s : Str), s.length ≤ n → wtTs (allB s) ≤ 2 * s.length
  | n, [], h => by simp [allB_nil, wtTs]
  | n + 1, c :: r, h => by
    rw [allB_cons, wtTs_app]
    have h1 := next_wt (t := c :: r) (by simp)
    have h2 := next_len c r
    have h3 := all_wt n (nextB (c :: r)).2 (by simp only [List.length_cons] at h h2; omega)
    omega
theorem all_wt' (s : Str) : wtTs (allB s) ≤ 2 * s.length := all_wt _ s (Nat.le_refl _)
theorem wt_sz {t : Tag} (h : wtT t ≤ 10000) : TSz t := by
  unfold wtT at h
  refine ⟨by omega, by omega, by have := wtL_len t.attrs; omega, fun a ha => ?_⟩
  have := wtL_mem ha
  unfold wtA at this; omega
theorem attrsS_wt (al : List Ty.Attr) : (attrsS al).length ≤ 6 * wtL al := by
  induction al with
  | nil => simp [attrsS]
  | cons a r ih =>
    have h2 := signs_len a.value
    simp only [attrsS, wtL, List.map_cons, List.flatten_cons, List.sum_cons, List.length_append, attrS, wtA, List.length_cons, List.length_nil] at ih ⊢
    omega
theorem oneB_wt (t : Tag) : (oneB t).length ≤ 8 * wtT t := by
  have h1 := attrsS_wt t.attrs
  have h2 := signs_len t.text
  unfold oneB wtT
  split
  · simp only [List.length_append, List.length_cons, List.length_nil]; omega
  split
  · simp only [List.length_append, List.length_cons, List.length_nil]; omega
  split
  · omega
  · simp
theorem sepB_wt (p t : Tag) : (sepB p t).length ≤ 15 * wtT t := by
  have h1 := oneB_wt t
  have h2 : t.text.length + 1 ≤ wtT t := by unfold wtT; omega
  unfold sepB
  split
  · omega
  split
  · simp only [List.length_append, sApart, List.length_cons, List.length_nil]; omega
  · omega
theorem textF_wt : ∀ (l : List Tag) (p : Tag), (textF p l).length ≤ 15 * wtTs l
  | [], p => by simp [textF]
  | t :: r, p => by
    have h1 := sepB_wt p t
    have h2 := textF_wt r t
    rw [textF, wtTs_cons, List.length_append]; omega
theorem textB_wt (l : List Tag) : (textB l).length ≤ 15 * wtTs l := textF_wt l noTag
theorem sz_all {s : Str} {t : Tag} (hs : s.length ≤ 5000) (h : t ∈ allB s) : TSz t := wt_sz (by have := wtTs_mem h; have := all_wt' s; omega)
theorem mayL_wt {t : Tag} (h : wtT t ≤ 20000) : (textB (mayL t)).length ≤ 400000 := by
  have := textB_wt (mayL t)
  have h2 : wtTs (mayL t) ≤ wtT t + 6 := by
    unfold mayL
    split
    · simp [wtTs_cons, wtT, shutT, sStyle, wtTs, wtL]
    · simp [wtTs_cons, wtTs]
  omega
end W09
/- What is written is read again: the parts. -/
namespace W09
open Go Go.AX Go.AX.Ty
theorem plainB_signs : ∀ x : Str, plainB (signsB x) = x
  | [] => rfl
  | c :: r => by
    have ih := plainB_signs r
    have e : signsB (c :: r) = sgB c ++ signsB r := by simp [signsB]
    rw [e]
    have hit : ∀ (p v : Str), lookB (p ++ signsB r) = (v, p.length, true) → plainB (p ++ signsB r) = v ++ r := fun p v h => by
      rw [plainB_hit (by rw [h]), h]; simp [ih]
    by_cases h34 : c = 34
    · subst h34; exact hit _ [34] (by simp [lookB, hasB, sgB])
    by_cases h38 : c = 38
    · subst h38; exact hit _ [38] (by simp [lookB, hasB, sgB])
    by_cases h60 : c = 60
    · subst h60; exact hit _ [60] (by simp [lookB, hasB, sgB])
    by_cases h62 : c = 62
    · subst h62; exact hit _ [62] (by simp [lookB, hasB, sgB])
    have e2 : sgB c = [c] := by simp [sgB, h34, h38, h60, h62]
    rw [e2]
    show plainB (c :: signsB r) = _
    rw [plainB_miss, ih]
    unfold lookB
    rw [hasB_head h38, hasB_head h38, hasB_head h38, hasB_head h38]; rfl
theorem sgB_no (c : UInt8) {q : UInt8} (h : q = 34 ∨ q = 60) : ∀ x ∈ sgB c, x ≠ q := by
  have h1 := byteAll (P := fun c => (sgB c).all fun x => x != 34 && x != 60) (by kernel_rfl) c
  intro x hx e
  have := List.all_eq_true.1 h1 x hx
  rcases h with rfl | rfl <;> subst e <;> simp at this
theorem signs_no (x : Str) {q : UInt8} (h : q = 34 ∨ q = 60) : ∀ y ∈ signsB x, y ≠ q := by
  intro y hy
  obtain ⟨c, _, hc⟩ := List.mem_flatMap.1 hy
  exact sgB_no c h y hc
theorem front_at {q : UInt8} (w : Str) : ∀ x : Str, (∀ y ∈ x, y ≠ q) → frontB [q] (x ++ q :: w) = x ∧ restB [q] (x ++ q :: w) = w
  | [], _ => by
    have : hasB (q :: w) [q] = true := by simp [hasB]
    simp [frontB, restB, this]
  | c :: r, h => by
    obtain ⟨h1, h2⟩ := front_at w r fun y hy => h y (by simp [hy])
    have : hasB (c :: (r ++ q :: w)) [q] = false := hasB_head (h c (by simp))
    simp [frontB, restB, this, h1, h2]
def NmOk (n : Str) : Prop := n ≠ [] ∧ nameLen n = n.length ∧ smallB n = n
theorem tw_app {p : UInt8 → Bool} : ∀ (x w : Str), x.all p = true → (∀ c r, w = c :: r → p c = false) → (x ++ w).takeWhile p = x ∧ (x ++ w).dropWhile p = w
  | [], [], _, _ => ⟨rfl, rfl⟩
  | [], c :: r, _, h => by have := h c r rfl; simp [this]
  | a :: x, w, h, h2 => by
    simp only [List.all_cons, Bool.and_eq_true] at h
    obtain ⟨h3, h4⟩ := tw_app x w h.2 h2
    simp [h.1, h3, h4]
theorem tw_all {p : UInt8 → Bool} : ∀ x : Str, (x.takeWhile p).length = x.length → x.all p = true
  | [], _ => rfl
  | a :: x, h => by
    rw [List.takeWhile_cons] at h
    split at h
    · rename_i ha
      simp only [List.length_cons, Nat.add_right_cancel_iff] at h
      simp [ha, tw_all x h]
    · simp at h
theorem tw_all' {p : UInt8 → Bool} : ∀ x : Str, (x.takeWhile p).all p = true
  | [] => rfl
  | a :: x => by
    rw [List.takeWhile_cons]
    split
    · rename_i ha; simp only [List.all_cons, ha, Bool.true_and]; exact tw_all' x
    · rfl
theorem name_app {n w : Str} (h : NmOk n) (hw : ∀ c r, w = c :: r → inNameB c = false) : nameLen (n ++ w) = n.length := by
  obtain ⟨h0, h1, _⟩ := h
  cases n with
  | nil => exact absurd rfl h0
  | cons c r =>
    simp only [nameLen, List.cons_append, List.length_cons] at h1 ⊢
    split at h1
    · rename_i hc
      rw [if_pos hc, (tw_app r w (tw_all r (by omega)) hw).1]
    · omega
theorem sm_letter (c : UInt8) : letterB (smB c) = letterB c := by simpa using byteAll (P := fun c => letterB (smB c) == letterB c) (by kernel_rfl) c
theorem sm_inName (c : UInt8) : inNameB (smB c) = inNameB c := by simpa using byteAll (P := fun c => inNameB (smB c) == inNameB c) (by kernel_rfl) c
theorem sm_inAttr (c : UInt8) : inAttrB (smB c) = inAttrB c := by simpa using byteAll (P := fun c => inAttrB (smB c) == inAttrB c) (by kernel_rfl) c
theorem sm_sm (c : UInt8) : smB (smB c) = smB c := by simpa using byteAll (P := fun c => smB (smB c) == smB c) (by kernel_rfl) c
theorem small_small (s : Str) : smallB (smallB s) = smallB s := by simp only [smallB, List.map_map]; congr 1; funext c; exact sm_sm c
theorem name_take {t : Str} (h : 0 < nameLen t) : NmOk (smallB (t.take (nameLen t))) := by
  cases t with
  | nil => simp [nameLen] at h
  | cons c r =>
    simp only [nameLen] at h ⊢
    split at h
    · rename_i hc
      rw [if_pos hc, List.take_succ_cons, ← tw_take]
      refine ⟨by simp [smallB], ?_, small_small _⟩
      simp only [smallB, List.map_cons, nameLen, sm_letter, hc, if_true, List.length_cons, List.length_map]
      congr 1
      have := (tw_app (p := inNameB) ((r.takeWhile inNameB).map smB) [] (by
        rw [List.all_map]
        have := tw_all' (p := inNameB) r
        rw [List.all_eq_true] at this ⊢
        intro x hx; rw [Function.comp, sm_inName]; exact this x hx) (fun c r h => by simp at h)).1
      rw [List.append_nil] at this
      rw [this, List.length_map]
    · omega
def AtOk (a : Ty.Attr) : Prop := a.name ≠ [] ∧ a.name.all inAttrB = true ∧ smallB a.name = a.name
structure AlOk (al : List Ty.Attr) : Prop where
  each : ∀ a ∈ al, AtOk a
  apart : al.Pairwise fun a b => a.name ≠ b.name
  len : al.length ≤ 16
theorem attr_rt {a : Ty.Attr} (h : AtOk a) (w : Str) : attrB (a.name ++ ([61, 34] ++ (signsB a.value ++ 34 :: w))) = (a, w) := by
  obtain ⟨h1, h2, h3⟩ := h
  obtain ⟨e1, e2⟩ := tw_app (p := inAttrB) a.name ([61, 34] ++ (signsB a.value ++ 34 :: w)) h2 (fun c r h => by simp at h; rw [← h.1]; rfl)
  obtain ⟨f1, f2⟩ := front_at w (signsB a.value) (signs_no a.value (.inl rfl))
  have hv : valB (34 :: (signsB a.value ++ 34 :: w)) = (a.value, w) := by
    unfold valB
    have : hasB (34 :: (signsB a.value ++ 34 :: w)) [34] = true := by simp [hasB]
    rw [this, Bool.true_or, if_pos rfl]
    show (plainB (frontB [34] (signsB a.value ++ 34 :: w)), restB [34] (signsB a.value ++ 34 :: w)) = _
    rw [f1, f2, plainB_signs]
  have hb1 : ([61, 34] ++ (signsB a.value ++ 34 :: w)).dropWhile blankB = [61, 34] ++ (signsB a.value ++ 34 :: w) := by
    simp [blankB]
  have hb2 : (34 :: (signsB a.value ++ 34 :: w)).dropWhile blankB = 34 :: (signsB a.value ++ 34 :: w) := by
    simp [blankB]
  have hq : hasB ([61, 34] ++ (signsB a.value ++ 34 :: w)) [61] = true := hasB_iff.2 ⟨_, rfl⟩
  unfold attrB
  rw [e1, e2, hb1, hq, if_pos rfl]
  show ((⟨smallB a.name, (valB ((34 :: (signsB a.value ++ 34 :: w)).dropWhile blankB)).1⟩ : Ty.Attr), (valB ((34 :: (signsB a.value ++ 34 :: w)).dropWhile blankB)).2) = _
  rw [hb2, hv, h3]
theorem attrs_rt (w : Str) : ∀ (al bl : List Ty.Attr), AlOk (bl ++ al) → attrsB bl (attrsS al ++ 62 :: w) = (bl ++ al, w)
  | [], bl, _ => by
    show attrsB bl (62 :: w) = _
    rw [attrsB_cons, if_pos rfl, List.append_nil]
  | a :: r, bl, h => by
    have ha := h.each a (by simp)
    have e : attrsS (a :: r) ++ 62 :: w = 32 :: (a.name ++ ([61, 34] ++ (signsB a.value ++ 34 :: (attrsS r ++ 62 :: w)))) := by
      simp [attrsS, attrS]
    rw [e, attrsB_cons, if_neg (by decide), if_pos (by decide)]
    have hrt := attr_rt ha (attrsS r ++ 62 :: w)
    have hadd : addA bl a = bl ++ [a] := by
      unfold addA
      rw [if_pos]
      refine ⟨?_, ?_⟩
      · rw [List.any_eq_false]
        intro x hx
        have := (List.pairwise_append.1 h.apart).2.2 x hx a (by simp)
        simpa using this
      · have := h.len; simp at this; omega
    obtain ⟨h1, h2, h3⟩ := ha
    cases hn : a.name with
    | nil => exact absurd hn h1
    | cons c m =>
      rw [hn] at h2 hrt
      simp only [List.all_cons, Bool.and_eq_true] at h2
      have hc62 : c ≠ 62 := fun e => by rw [e] at h2; exact absurd h2.1 (by decide)
      rw [List.cons_append, attrsB_cons, if_neg hc62, if_neg (by simp [h2.1])]
      rw [List.cons_append] at hrt
      rw [hrt, hadd]
      have := attrs_rt w r (bl ++ [a]) (by rw [List.append_assoc]; exact h)
      rw [this, List.append_assoc]; rfl
theorem attr_ok {c : UInt8} {r : Str} (h : inAttrB c = true) : AtOk (attrB (c :: r)).1 := by
  have key : AtOk ⟨smallB ((c :: r).takeWhile inAttrB), (attrB (c :: r)).1.value⟩ := by
    refine ⟨?_, ?_, small_small _⟩
    · rw [List.takeWhile_cons, if_pos h]; simp [smallB]
    · have := tw_all' (p := inAttrB) (c :: r)
      simp only [smallB, List.all_map]
      rw [List.all_eq_true] at this ⊢
      intro x hx; rw [Function.comp, sm_inAttr]; exact this x hx
  have e : (attrB (c :: r)).1 = ⟨smallB ((c :: r).takeWhile inAttrB), (attrB (c :: r)).1.value⟩ := by
    unfold attrB; split <;> rfl
  rw [e]; exact key
theorem addA_ok {al : List Ty.Attr} {a : Ty.Attr} (h : AlOk al) (ha : AtOk a) : AlOk (addA al a) := by
  unfold addA
  split
  · rename_i hc
    refine ⟨fun x hx => ?_, ?_, by simp; omega⟩
    · rcases List.mem_append.1 hx with hx | hx
      · exact h.each x hx
      · simp at hx; subst hx; exact ha
    · rw [List.pairwise_append]
      refine ⟨h.apart, by simp, fun x hx y hy => ?_⟩
      simp at hy; subst hy
      have := List.any_eq_false.1 hc.1 x hx
      simpa using this
  · exact h
theorem attrs_ok : ∀ (n : Nat) (al : List Ty.Attr) (s : Str), s.length ≤ n → AlOk al → AlOk (attrsB al s).1
  | n, al, [], h, ho => by rw [attrsB_nil]; exact ho
  | n + 1, al, c :: r, h, ho => by
    rw [attrsB_cons]
    simp only [List.length_cons] at h
    by_cases h3 : c = 62
    · rw [if_pos h3]; exact ho
    rw [if_neg h3]
    by_cases h4 : inAttrB c = false
    · rw [if_pos h4]; exact attrs_ok n al r (by omega) ho
    rw [if_neg h4]
    have h5 : inAttrB c = true := by simpa using h4
    have hl := attr_len (r := r) h5
    simp only [List.length_cons] at hl
    exact attrs_ok n _ _ (by omega) (addA_ok ho (attr_ok h5))
end W09
/- What is written is read again. -/
namespace W09
open Go Go.AX Go.AX.Ty
theorem hasB_app {w a p : Str} (h : p.length ≤ w.length) : hasB (w ++ a) p = hasB w p := by
  rw [Bool.eq_iff_iff]
  simp only [hasB, Bool.and_eq_true, decide_eq_true_eq, List.length_append]
  rw [List.take_append_of_le_length h]
  constructor
  · exact fun hh => ⟨h, hh.2⟩
  · exact fun hh => ⟨by omega, hh.2⟩
def hitB (w : Str) : Bool := hasB w sEnd && endB (w.drop 7)
theorem hit_pre {w : Str} (h : 8 ≤ w.length) (a : Str) : hitB (w ++ a) = hitB w := by
  unfold hitB
  rw [hasB_app (by show 7 ≤ _; omega), List.drop_append_of_le_length (by omega)]
  cases hd : w.drop 7 with
  | nil => have := congrArg List.length hd; simp at this; omega
  | cons c r => rfl
theorem rawL_cons (c : UInt8) (r : Str) : rawL (c :: r) = if hitB (c :: r) = true then 0 else rawL r + 1 := rfl
theorem rawL_swap {Y Z : Str} (hZ : hitB (sEnd ++ Z) = true) : ∀ X : Str, rawL (X ++ (sEnd ++ Y)) = X.length → rawL (X ++ (sEnd ++ Z)) = X.length
  | [], _ => by
    show rawL (60 :: _) = 0
    rw [rawL_cons, if_pos (by exact hZ)]
  | c :: X, h => by
    have e : ∀ W : Str, hitB (c :: X ++ (sEnd ++ W)) = hitB (c :: X ++ sEnd) := fun W => by
      rw [← List.append_assoc]; exact hit_pre (by simp [sEnd]) W
    rw [List.cons_append, rawL_cons] at h ⊢
    have e1 := e Y
    have e2 := e Z
    rw [List.cons_append] at e1 e2
    rw [e1] at h
    rw [e2]
    split at h
    · simp at h
    · rename_i hn
      have h' : rawL (X ++ (sEnd ++ Y)) + 1 = X.length + 1 := h
      rw [if_neg hn, rawL_swap (Y := Y) hZ X (by omega)]; rfl
theorem small_app (a b : Str) : smallB (a ++ b) = smallB a ++ smallB b := by simp [smallB]
def shutS : Str := [60, 47, 115, 116, 121, 108, 101, 62]
theorem raw_hit {s : Str} (h : rawB s < s.length) : hitB (smallB (s.drop (rawB s))) = true := by
  have key : ∀ u : Str, rawL u < u.length → hitB (u.drop (rawL u)) = true := fun u => by
    induction u with
    | nil => intro h; simp at h
    | cons c r ih =>
      rw [rawL_cons]
      split
      · rename_i hh; intro _; exact hh
      · intro h
        rw [List.drop_succ_cons]
        have h' : rawL r + 1 < r.length + 1 := h
        exact ih (by omega)
  have := key (smallB s) (by rw [small_len]; exact h)
  unfold rawB at this ⊢
  rwa [show smallB (s.drop (rawL (smallB s))) = (smallB s).drop (rawL (smallB s)) by simp [smallB, List.map_drop]]
theorem raw_swap {s : Str} (h : rawB s < s.length) (w : Str) : rawB (s.take (rawB s) ++ (shutS ++ w)) = rawB s ∧ (s.take (rawB s)).length = rawB s := by
  have hl : (s.take (rawB s)).length = rawB s := by rw [List.length_take]; omega
  refine ⟨?_, hl⟩
  have hh := raw_hit h
  obtain ⟨y, hy⟩ := hasB_iff.1 (by have := hh; unfold hitB at this; exact (Bool.and_eq_true _ _ ▸ this).1)
  have e1 : smallB s = smallB (s.take (rawB s)) ++ (sEnd ++ y) := by
    rw [← hy, ← small_app, List.take_append_drop]
  have e2 : smallB (s.take (rawB s) ++ (shutS ++ w)) = smallB (s.take (rawB s)) ++ (sEnd ++ (62 :: smallB w)) := by
    rw [small_app, small_app]; rfl
  have h3 : rawL (smallB (s.take (rawB s)) ++ (sEnd ++ y)) = (smallB (s.take (rawB s))).length := by
    rw [← e1, small_len, hl]; rfl
  have h4 := rawL_swap (Y := y) (Z := 62 :: smallB w) rfl _ h3
  rw [small_len, hl] at h4
  show rawL (smallB (s.take (rawB s) ++ (shutS ++ w))) = rawB s
  rw [e2]; exact h4
theorem raw_end {s : Str} (h : rawB s = s.length) : rawB (s.take (rawB s)) = rawB s := by
  rw [h, List.take_length, h]
def isSty (t : Tag) : Prop := t.kind = 1 ∧ t.name = sStyle
def TgOk (t : Tag) : Prop := (t.kind = 1 ∧ NmOk t.name ∧ AlOk t.attrs ∧ t.text = []) ∨ (t.kind = 2 ∧ NmOk t.name ∧ t.attrs = [] ∧ t.text = []) ∨ (t.kind = 3 ∧ t.name = [] ∧ t.attrs = [] ∧ t.text ≠ [])
def RawOk (x : Str) (r : List Tag) : Prop := (r = [] ∧ rawB x = x.length) ∨ ∃ r', r = shutT sStyle :: r' ∧ ∀ w, rawB (x ++ (shutS ++ w)) = x.length
def WF : Tag → List Tag → Prop
  | _, [] => True
  | p, t :: r => TgOk t ∧ (isSty p → (t.kind = 3 → RawOk t.text r) ∧ (t.kind ≠ 3 → t = shutT sStyle)) ∧ WF t r
theorem WF.free {p q : Tag} {l : List Tag} (h : WF p l) (hq : ¬ isSty q) : WF q l := by
  cases l with
  | nil => trivial
  | cons t r => exact ⟨h.1, fun hh => absurd hh hq, h.2.2⟩
theorem shut_read {n w : Str} (h : NmOk n) : nextB ([60, 47] ++ n ++ [62] ++ w) = ([shutT n], w) := by
  have e : [60, 47] ++ n ++ [62] ++ w = 60 :: 47 :: (n ++ 62 :: w) := by simp
  rw [e]
  have h1 : hasB (60 :: 47 :: (n ++ 62 :: w)) [60, 33] = false := by simp [hasB]
  have h2 : hasB (60 :: 47 :: (n ++ 62 :: w)) [60, 47] = true := hasB_iff.2 ⟨_, rfl⟩
  have h3 := name_app (w := 62 :: w) h (fun c r hh => by simp at hh; rw [← hh.1]; rfl)
  have h0 : 0 < n.length := List.length_pos_iff.2 h.1
  unfold nextB
  rw [no4 h1, if_neg (by simp), h1, if_neg (by simp), if_pos (by rw [show List.drop 2 (60 :: 47 :: (n ++ 62 :: w)) = n ++ 62 :: w from rfl, h3]; exact ⟨h2, h0⟩)]
  show ([shutT (smallB ((n ++ 62 :: w).take (nameLen (n ++ 62 :: w))))], restB [62] ((n ++ 62 :: w).drop (nameLen (n ++ 62 :: w)))) = _
  rw [h3, List.take_left, List.drop_left, h.2.2]
  have : hasB (62 :: w) [62] = true := hasB_iff.2 ⟨w, rfl⟩
  simp [restB, this]
theorem name_letter {n : Str} (h : NmOk n) : ∃ c r, n = c :: r ∧ letterB c = true := by
  obtain ⟨h0, h1, _⟩ := h
  cases n with
  | nil => exact absurd rfl h0
  | cons c r =>
    refine ⟨c, r, rfl, ?_⟩
    simp only [nameLen, List.length_cons] at h1
    split at h1
    · assumption
    · omega
theorem open_front {n w : Str} (h : NmOk n) (hw : ∀ c r, w = c :: r → inNameB c = false) : hasB (60 :: (n ++ w)) [60, 33] = false ∧ hasB (60 :: (n ++ w)) [60, 47] = false ∧ hasB (60 :: (n ++ w)) [60] = true ∧ nameLen (n ++ w) = n.length ∧ 0 < n.length := by
  obtain ⟨c, r, rfl, hc⟩ := name_letter h
  have c33 : c ≠ 33 := fun e => by rw [e] at hc; exact absurd hc (by decide)
  have c47 : c ≠ 47 := fun e => by rw [e] at hc; exact absurd hc (by decide)
  exact ⟨by simp [hasB, c33], by simp [hasB, c47], hasB_iff.2 ⟨_, rfl⟩, name_app h hw, by simp⟩
theorem open_read {t : Tag} {w : Str} (hk : t.kind = 1) (hn : NmOk t.name) (ha : AlOk t.attrs) (ht : t.text = []) :
    nextB (oneB t ++ w) = if t.name = sStyle then (t :: putB (w.take (rawB w)), w.drop (rawB w)) else ([t], w) := by
  have e : oneB t ++ w = 60 :: (t.name ++ (attrsS t.attrs ++ 62 :: w)) := by simp [oneB, hk]
  have hw : ∀ c r, attrsS t.attrs ++ 62 :: w = c :: r → inNameB c = false := by
    intro c r hh
    cases hal : t.attrs with
    | nil => rw [hal] at hh; simp [attrsS] at hh; rw [← hh.1]; rfl
    | cons a al => rw [hal] at hh; simp [attrsS, attrS] at hh; rw [← hh.1]; rfl
  obtain ⟨h1, h2, h3, h4, h5⟩ := open_front hn hw
  have ho : openB (60 :: (t.name ++ (attrsS t.attrs ++ 62 :: w))) = (t, w) := by
    unfold openB
    rw [show List.drop 1 (60 :: (t.name ++ (attrsS t.attrs ++ 62 :: w))) = t.name ++ (attrsS t.attrs ++ 62 :: w) from rfl, h4, List.take_left, List.drop_left, hn.2.2, attrs_rt w t.attrs [] (by simpa using ha)]
    refine Prod.ext (Tag.ext hk.symm rfl rfl ht.symm) rfl
  rw [e]
  unfold nextB
  rw [no4 h1, if_neg (by simp), h1, if_neg (by simp), h2, if_neg (by simp), if_pos (by rw [show List.drop 1 (60 :: (t.name ++ (attrsS t.attrs ++ 62 :: w))) = t.name ++ (attrsS t.attrs ++ 62 :: w) from rfl, h4]; exact ⟨h3, h5⟩), ho]
theorem untag_at : ∀ (x w : Str), (∀ y ∈ x, y ≠ 60) → (w = [] ∨ tagB w = true) → untag (x ++ w) = x.length
  | [], w, _, h => by
    cases w with
    | nil => rfl
    | cons c r =>
      rcases h with h | h
      · simp at h
      · simp [untag, h]
  | c :: x, w, h, h2 => by
    have hc : c ≠ 60 := h c (by simp)
    have ht : tagB (c :: (x ++ w)) = false := by unfold tagB; rw [hasB_head hc, hasB_head hc, hasB_head hc]; rfl
    rw [List.cons_append, untag, ht, if_neg (by simp), untag_at x w (fun y hy => h y (by simp [hy])) h2]; rfl
theorem text_read {x w : Str} (hx : x ≠ []) (hw : w = [] ∨ tagB w = true) : nextB (signsB x ++ w) = ([textT x], w) := by
  have hs : signsB x ≠ [] := by
    cases x with
    | nil => exact absurd rfl hx
    | cons c r =>
      intro h
      have h1 := congrArg List.length h
      simp only [signsB, List.flatMap_cons, List.length_append, List.length_nil] at h1
      have : 0 < (sgB c).length := by simp only [sgB]; split; simp; split; simp; split; simp; split <;> simp
      omega
  have hno := signs_no x (q := 60) (.inr rfl)
  have hp := plainB_signs x
  generalize signsB x = S at *
  cases S with
  | nil => exact absurd rfl hs
  | cons c r =>
    have hc : c ≠ 60 := hno c (by simp)
    have hu := untag_at r w (fun y hy => hno y (by simp [hy])) hw
    unfold nextB
    rw [List.cons_append, hasB_head hc, hasB_head hc, hasB_head hc, hasB_head hc, if_neg (by simp), if_neg (by simp), if_neg (by simp), if_neg (by simp)]
    rw [show List.drop 1 (c :: (r ++ w)) = r ++ w from rfl, hu, Nat.add_comm 1, List.take_succ_cons, List.drop_succ_cons, List.take_left, List.drop_left, hp]
    simp [putB, hx]
theorem apart_read (w : Str) : allB (sApart ++ w) = allB w := by
  rw [allB_ne (by simp [sApart])]
  have : nextB (sApart ++ w) = ([], w) := by
    unfold nextB
    have h1 : hasB (sApart ++ w) [60, 33, 45, 45] = true := hasB_iff.2 ⟨_, rfl⟩
    rw [h1, if_pos rfl]
    show (([] : List Tag), restB [45, 45, 62] (45 :: 45 :: 62 :: w)) = _
    have h2 : hasB (45 :: 45 :: 62 :: w) [45, 45, 62] = true := hasB_iff.2 ⟨_, rfl⟩
    simp [restB, h2]
  rw [this]; rfl
theorem sepB_shut (p q : Tag) (n : Str) : sepB p (shutT n) = sepB q (shutT n) := by simp [sepB, shutT]
theorem front_tag {t : Tag} {r : List Tag} {p : Tag} (hp : p.kind = 3) (h : WF p (t :: r)) : tagB (textF p (t :: r)) = true := by
  obtain ⟨h1, _, _⟩ := h
  rw [textF]
  rcases h1 with ⟨k, hn, ha, ht⟩ | ⟨k, hn, ha, ht⟩ | ⟨k, hn, ha, ht⟩
  · have e : sepB p t ++ textF t r = 60 :: (t.name ++ (attrsS t.attrs ++ 62 :: textF t r)) := by simp [sepB, k, oneB]
    have hw : ∀ c r', attrsS t.attrs ++ 62 :: textF t r = c :: r' → inNameB c = false := by
      intro c r' hh
      cases hal : t.attrs with
      | nil => rw [hal] at hh; simp [attrsS] at hh; rw [← hh.1]; rfl
      | cons a al => rw [hal] at hh; simp [attrsS, attrS] at hh; rw [← hh.1]; rfl
    obtain ⟨h1, h2, h3, h4, h5⟩ := open_front hn hw
    rw [e]; unfold tagB
    rw [h3, show List.drop 1 (60 :: (t.name ++ (attrsS t.attrs ++ 62 :: textF t r))) = t.name ++ (attrsS t.attrs ++ 62 :: textF t r) from rfl, h4]; simp [h5]
  · have e : sepB p t ++ textF t r = 60 :: 47 :: (t.name ++ 62 :: textF t r) := by simp [sepB, k, oneB]
    have h2 : hasB (60 :: 47 :: (t.name ++ 62 :: textF t r)) [60, 47] = true := hasB_iff.2 ⟨_, rfl⟩
    have h3 := name_app (w := 62 :: textF t r) hn (fun c r hh => by simp at hh; rw [← hh.1]; rfl)
    have h0 : 0 < t.name.length := List.length_pos_iff.2 hn.1
    rw [e]; unfold tagB
    rw [h2, show List.drop 2 (60 :: 47 :: (t.name ++ 62 :: textF t r)) = t.name ++ 62 :: textF t r from rfl, h3]; simp [h0]
  · have e : sepB p t ++ textF t r = 60 :: 33 :: ([45, 45, 45, 45, 62] ++ oneB t ++ textF t r) := by simp [sepB, k, hp, sApart]
    have h2 : hasB (60 :: 33 :: ([45, 45, 45, 45, 62] ++ oneB t ++ textF t r)) [60, 33] = true := hasB_iff.2 ⟨_, rfl⟩
    rw [e]; unfold tagB; rw [h2]; rfl
theorem nm_style : NmOk sStyle := ⟨by decide, by decide, by decide⟩
theorem tg_ext {t : Tag} (h : t.kind = 3 ∧ t.name = [] ∧ t.attrs = [] ∧ t.text ≠ []) : t = textT t.text := Tag.ext h.1 h.2.1 h.2.2.1 rfl
theorem tg_shut {t : Tag} (h : t.kind = 2 ∧ t.attrs = [] ∧ t.text = []) : t = shutT t.name := Tag.ext h.1 rfl h.2.1 h.2.2
theorem round : ∀ (n : Nat) (l : List Tag) (p : Tag), l.length ≤ n → ¬ isSty p → WF p l → allB (textF p l) = l
  | _, [], _, _, _, _ => rfl
  | n + 1, t :: r, p, hl, hp, h => by
    have h0 := h
    obtain ⟨h1, h2, h3⟩ := h
    simp only [List.length_cons] at hl
    rw [textF]
    rcases h1 with ⟨k, hn, ha, ht⟩ | ⟨k, hn, ha, ht⟩ | hk
    · have e : sepB p t = oneB t := by simp [sepB, k]
      have hne : oneB t ++ textF t r ≠ [] := by simp [oneB, k]
      rw [e, allB_ne hne, open_read k hn ha ht]
      by_cases hs : t.name = sStyle
      · rw [if_pos hs]
        have hst : isSty t := ⟨k, hs⟩
        cases r with
        | nil => rfl
        | cons u r =>
          obtain ⟨g1, g2, g3⟩ := h3
          obtain ⟨g4, g5⟩ := g2 hst
          have tail : ∀ (q : Tag) (r' : List Tag), r'.length + 1 ≤ n → WF (shutT sStyle) r' → rawB (textF q (shutT sStyle :: r')) = 0 ∧ allB (textF q (shutT sStyle :: r')) = shutT sStyle :: r' := fun q r' hr' hw => by
            have hno : ¬ isSty noTag := fun hh => by have := hh.1; simp [noTag] at this
            have e1 : textF q (shutT sStyle :: r') = textF noTag (shutT sStyle :: r') := by rw [textF, textF, sepB_shut q noTag]
            rw [e1]
            refine ⟨?_, round n _ noTag (by simp only [List.length_cons]; omega) hno ⟨.inr (.inl ⟨rfl, nm_style, rfl, rfl⟩), fun hh => absurd hh hno, hw⟩⟩
            have e2 : textF noTag (shutT sStyle :: r') = 60 :: 47 :: 115 :: 116 :: 121 :: 108 :: 101 :: 62 :: textF (shutT sStyle) r' := by
              simp [textF, sepB, shutT, oneB, sStyle]
            rw [e2]; rfl
          by_cases uk : u.kind = 3
          · have hu : u.kind = 3 ∧ u.name = [] ∧ u.attrs = [] ∧ u.text ≠ [] := by
              rcases g1 with ⟨k', _⟩ | ⟨k', _⟩ | hh
              · omega
              · omega
              · exact hh
            have eu := tg_ext hu
            have es : textF t (u :: r) = u.text ++ textF u r := by simp [textF, sepB, uk, k, hs]
            rw [es]
            have ep : putB u.text = [u] := by rw [eu]; simp [putB, hu.2.2.2, textT]
            rcases g4 uk with ⟨rfl, hr⟩ | ⟨r', rfl, hr⟩
            · simp only [textF, List.append_nil]
              rw [hr, List.take_length, List.drop_length, ep, allB_nil]; rfl
            · obtain ⟨q1, q2⟩ := tail u r' (by simp only [List.length_cons] at hl; omega) g3.2.2
              have e3 : textF u (shutT sStyle :: r') = shutS ++ textF (shutT sStyle) r' := by
                simp [textF, sepB, shutT, oneB, sStyle, shutS]
              have hr2 := hr (textF (shutT sStyle) r')
              rw [← e3] at hr2
              rw [hr2, List.take_left, List.drop_left, ep, q2]; rfl
          · have eu := g5 uk
            subst eu
            obtain ⟨q1, q2⟩ := tail t r (by simp only [List.length_cons] at hl; omega) g3
            rw [q1, List.take_zero, List.drop_zero, q2]; rfl
      · rw [if_neg hs]
        rw [round n r t (by omega) (fun hh => hs hh.2) h3]; rfl
    · have e : sepB p t = oneB t := by simp [sepB, k]
      have hne : oneB t ++ textF t r ≠ [] := by simp [oneB, k]
      have e2 : oneB t ++ textF t r = [60, 47] ++ t.name ++ [62] ++ textF t r := by simp [oneB, k]
      rw [e, allB_ne hne, e2, shut_read hn, round n r t (by omega) (fun hh => by have := hh.1; omega) h3, ← tg_shut ⟨k, ha, ht⟩]; rfl
    · have k := hk.1
      have hw : textF t r = [] ∨ tagB (textF t r) = true := by
        cases r with
        | nil => exact .inl rfl
        | cons u r => exact .inr (front_tag k h3)
      have hone : allB (signsB t.text ++ textF t r) = t :: r := by
        have hne : signsB t.text ++ textF t r ≠ [] := by
          intro hh
          have := text_read hk.2.2.2 hw
          rw [hh] at this
          have h4 := congrArg (·.1) this
          exact absurd h4 (by simp [nextB, hasB, putB, plainB, plainG])
        rw [allB_ne hne, text_read hk.2.2.2 hw, round n r t (by omega) (fun hh => by have := hh.1; omega) h3, ← tg_ext hk]; rfl
      by_cases pk : p.kind = 3
      · have e : sepB p t ++ textF t r = sApart ++ (signsB t.text ++ textF t r) := by simp [sepB, k, pk, oneB]
        rw [e, apart_read, hone]
      · have e : sepB p t ++ textF t r = signsB t.text ++ textF t r := by
          have : sepB p t = oneB t := by
            have hc : p.kind ≠ 1 ∨ p.name ≠ sStyle := by
              by_cases p1 : p.kind = 1
              · exact .inr fun hh => hp ⟨p1, hh⟩
              · exact .inl p1
            unfold sepB
            rw [if_pos (.inr ⟨pk, hc⟩)]
          rw [this]; simp [oneB, k]
        rw [e, hone]
end W09
/- What is read can be written. -/
namespace W09
open Go Go.AX Go.AX.Ty
theorem al_nil : AlOk [] := ⟨by simp, by simp, by simp⟩
theorem not_text (x : Str) : ¬ isSty (textT x) := fun h => by have := h.1; simp [textT] at this
theorem not_shut (x : Str) : ¬ isSty (shutT x) := fun h => by have := h.1; simp [shutT] at this
theorem not_no : ¬ isSty noTag := fun h => by have := h.1; simp [noTag] at this
theorem WF.put {p : Tag} {x : Str} {l : List Tag} (hp : ¬ isSty p) (h : ∀ q, ¬ isSty q → WF q l) : WF p (putB x ++ l) := by
  unfold putB
  split
  · exact h p hp
  · rename_i hx
    exact ⟨.inr (.inr ⟨rfl, rfl, rfl, hx⟩), fun hh => absurd hh hp, h _ (not_text x)⟩
theorem end_name {r : Str} (h : endB r = true) : ∀ c q, r = c :: q → inNameB c = false := by
  rintro c q rfl
  have h2 := byteAll (P := fun c => !(end1 c && inNameB c)) (by kernel_rfl) c
  have h3 : end1 c = true := h
  rw [h3] at h2
  simpa using h2
theorem hit_shut {Y : Str} (h : hitB (smallB Y) = true) : nextB Y = ([shutT sStyle], restB [62] (Y.drop 7)) := by
  unfold hitB at h
  rw [hasB_small, show (smallB Y).drop 7 = smallB (Y.drop 7) by simp [smallB, List.map_drop], endB_small] at h
  simp only [Bool.and_eq_true, decide_eq_true_eq] at h
  obtain ⟨⟨h1, h2⟩, h3⟩ := h
  have h1' : 7 ≤ Y.length := h1
  have h2' : smallB (Y.take 7) = sEnd := h2
  obtain ⟨a, b, c, d, e, f, g, q, rfl⟩ : ∃ a b c d e f g q, Y = a :: b :: c :: d :: e :: f :: g :: q := by
    match Y, h1' with
    | a :: b :: c :: d :: e :: f :: g :: q, _ => exact ⟨a, b, c, d, e, f, g, q, rfl⟩
  simp only [List.take_succ_cons, List.take_zero, smallB, List.map_cons, List.map_nil, sEnd, List.cons.injEq, and_true] at h2'
  obtain ⟨ha, hb, hc, hd, he, hf, hg⟩ := h2'
  have sm60 : a = 60 := by
    have := byteAll (P := fun c => !(smB c == 60) || c == 60) (by kernel_rfl) a
    simpa [ha] using this
  have sm47 : b = 47 := by
    have := byteAll (P := fun c => !(smB c == 47) || c == 47) (by kernel_rfl) b
    simpa [hb] using this
  subst sm60; subst sm47
  have hq := end_name h3
  have nm : NmOk (smallB [c, d, e, f, g]) := by
    simp only [smallB, List.map_cons, List.map_nil, hc, hd, he, hf, hg]; exact nm_style
  have hnl : nameLen (c :: d :: e :: f :: g :: q) = 5 := by
    have lc : letterB c = true := by rw [← sm_letter, hc]; rfl
    have id : inNameB d = true := by rw [← sm_inName, hd]; rfl
    have ie : inNameB e = true := by rw [← sm_inName, he]; rfl
    have if' : inNameB f = true := by rw [← sm_inName, hf]; rfl
    have ig : inNameB g = true := by rw [← sm_inName, hg]; rfl
    have := (tw_app (p := inNameB) [d, e, f, g] q (by simp [id, ie, if', ig]) hq).1
    simp only [List.cons_append, List.nil_append] at this
    simp only [nameLen, lc, if_true, this]; rfl
  have n1 : hasB (60 :: 47 :: c :: d :: e :: f :: g :: q) [60, 33] = false := by simp [hasB]
  have n2 : hasB (60 :: 47 :: c :: d :: e :: f :: g :: q) [60, 47] = true := hasB_iff.2 ⟨_, rfl⟩
  unfold nextB
  rw [no4 n1, if_neg (by simp), n1, if_neg (by simp), if_pos (by rw [show List.drop 2 (60 :: 47 :: c :: d :: e :: f :: g :: q) = c :: d :: e :: f :: g :: q from rfl, hnl]; exact ⟨n2, by decide⟩)]
  show ([shutT (smallB ((c :: d :: e :: f :: g :: q).take (nameLen (c :: d :: e :: f :: g :: q))))], restB [62] ((c :: d :: e :: f :: g :: q).drop (nameLen (c :: d :: e :: f :: g :: q)))) = _
  rw [hnl]
  simp only [List.take_succ_cons, List.take_zero, smallB, List.map_cons, List.map_nil, hc, hd, he, hf, hg, List.drop_succ_cons, List.drop_zero]
  rfl
theorem read_wf : ∀ (n : Nat) (s : Str) (p : Tag), s.length ≤ n → ¬ isSty p → WF p (allB s)
  | _, [], _, _, _ => trivial
  | n + 1, c :: r, p, hl, hp => by
    have hne : c :: r ≠ [] := by simp
    have hlt := next_len c r
    generalize hs : c :: r = s at *
    have ih : ∀ u : Str, u.length < s.length → ∀ q, ¬ isSty q → WF q (allB u) := fun u hu q hq => read_wf n u q (by omega) hq
    rw [allB_ne hne]
    rcases kind_cases s with hk | hk | hk | hk
    · rw [next_1 hk] at hlt ⊢
      exact ih _ hlt p hp
    · obtain ⟨h2, h3⟩ := next_2 hk
      rw [h2] at hlt ⊢
      have h0 : 0 < nameLen (s.drop 2) := by
        unfold kindB at hk
        split at hk
        · omega
        split at hk
        · rename_i hh; exact hh.2
        · split at hk <;> omega
      exact ⟨.inr (.inl ⟨rfl, name_take h0, rfl, rfl⟩), fun hh => absurd hh hp, ih _ hlt _ (not_shut _)⟩
    · rw [next_3 hk] at hlt ⊢
      have h0 : 0 < nameLen (s.drop 1) := by
        unfold kindB at hk
        split at hk
        · omega
        split at hk
        · omega
        · split at hk
          · rename_i hh; exact hh.2
          · omega
      have hnm := name_take h0
      have hal := attrs_ok _ [] ((s.drop 1).drop (nameLen (s.drop 1))) (Nat.le_refl _) al_nil
      have hto : TgOk (openB s).1 := .inl ⟨rfl, hnm, hal, rfl⟩
      have hk1 : (openB s).1.kind = 1 := rfl
      generalize openB s = O at *
      obtain ⟨t, u⟩ := O
      simp only at hto hk1 hlt ⊢
      by_cases hst : t.name = sStyle
      · rw [if_pos hst] at hlt ⊢
        have hsty : isSty t := ⟨hk1, hst⟩
        simp only at hlt
        refine ⟨hto, fun hh => absurd hh hp, ?_⟩
        have hW := ih _ hlt
        have hrl := raw_le u
        have hY : allB (u.drop (rawB u)) = [] ∧ rawB u = u.length ∨ rawB u < u.length ∧ ∃ r', allB (u.drop (rawB u)) = shutT sStyle :: r' := by
          rcases Nat.lt_or_ge (rawB u) u.length with h | h
          · right
            have hne2 : u.drop (rawB u) ≠ [] := fun hh => by have := congrArg List.length hh; simp at this; omega
            exact ⟨h, _, by rw [allB_ne hne2, hit_shut (raw_hit h)]; rfl⟩
          · left
            exact ⟨by rw [List.drop_of_length_le h]; rfl, by omega⟩
        unfold putB
        split
        · rcases hY with ⟨hY, _⟩ | ⟨_, r', hY⟩
          · rw [hY]; exact trivial
          · have := hW noTag not_no
            rw [hY] at this ⊢
            exact ⟨this.1, fun _ => ⟨fun h => by simp [shutT] at h, fun _ => rfl⟩, this.2.2⟩
        · rename_i hx
          refine ⟨.inr (.inr ⟨rfl, rfl, rfl, hx⟩), fun _ => ⟨fun _ => ?_, fun h => absurd rfl h⟩, hW _ (not_text _)⟩
          rcases hY with ⟨hY, h⟩ | ⟨h, r', hY⟩
          · exact .inl ⟨hY, by show rawB (u.take (rawB u)) = (u.take (rawB u)).length; rw [raw_end h, h, List.length_take]; omega⟩
          · refine .inr ⟨r', hY, fun w => ?_⟩
            obtain ⟨q1, q2⟩ := raw_swap h w
            show rawB (u.take (rawB u) ++ (shutS ++ w)) = (u.take (rawB u)).length
            rw [q1, q2]
      · rw [if_neg hst] at hlt ⊢
        exact ⟨hto, fun hh => absurd hh hp, ih _ hlt _ (fun hh => hst hh.2)⟩
    · rw [next_4 hk] at hlt ⊢
      exact WF.put hp (ih _ hlt)
theorem back (s : Str) : allB (textB (allB s)) = allB s := round _ _ noTag (Nat.le_refl _) not_no (read_wf _ s noTag (Nat.le_refl _) not_no)
theorem wf_mem : ∀ {l : List Tag} {p t : Tag}, WF p l → t ∈ l → TgOk t
  | [], _, _, _, h => by simp at h
  | u :: l, p, t, h, hm => by
    rcases List.mem_cons.1 hm with rfl | hm
    · exact h.1
    · exact wf_mem h.2.2 hm
theorem may_ok {t : Tag} (h : TgOk t) : mayB t = true := by
  have hw : WF noTag (mayL t) := by
    unfold mayL
    split
    · refine ⟨h, fun hh => absurd hh not_no, .inr (.inl ⟨rfl, nm_style, rfl, rfl⟩), fun _ => ⟨fun h => by simp [shutT] at h, fun _ => rfl⟩, trivial⟩
    · exact ⟨h, fun hh => absurd hh not_no, trivial⟩
  have := round _ (mayL t) noTag (Nat.le_refl _) not_no hw
  unfold mayB
  exact decide_eq_true this
theorem one_back {t : Tag} (h : TgOk t) (hs : ¬ isSty t) : allB (oneB t) = [t] := by
  have hw : WF noTag [t] := ⟨h, fun hh => absurd hh not_no, trivial⟩
  have := round _ [t] noTag (Nat.le_refl _) not_no hw
  rw [← this]
  congr 1
  simp only [textF, List.append_nil]
  simp [sepB, noTag]
end W09
/- What is lost; texts stand apart. -/
namespace W09
open Go Go.AX Go.AX.Ty
theorem next_lost {t : Str} (h : hasB t [60, 33] = true) : nextB t = ([], lostB t) := next_1 (by unfold kindB; rw [if_pos h])
def lost1 : Str := [60, 33, 45, 45, 32, 60, 98, 62, 32, 45, 45, 32, 62, 32, 45, 45, 62]
def lost2 : Str := [60, 33, 120, 32, 60, 121, 62]
theorem lost_a (s : Str) : allB (lost1 ++ s) = allB s := by
  have h : lostB (lost1 ++ s) = s := by
    unfold lostB lost1
    simp [restB, hasB]
  rw [allB_ne (by simp [lost1]), next_lost (t := lost1 ++ s) (hasB_iff.2 ⟨_, rfl⟩), h]; rfl
theorem lost_b (s : Str) : allB (lost2 ++ s) = allB s := by
  have h : lostB (lost2 ++ s) = s := by
    unfold lostB lost2
    simp [restB, hasB]
  rw [allB_ne (by simp [lost2]), next_lost (t := lost2 ++ s) (hasB_iff.2 ⟨_, rfl⟩), h]; rfl
theorem lost_c (s : Str) : allB ([60, 33, 62] ++ s) = allB s := by
  have h : lostB ([60, 33, 62] ++ s) = s := by
    unfold lostB
    simp [restB, hasB]
  rw [allB_ne (by simp), next_lost (t := [60, 33, 62] ++ s) (hasB_iff.2 ⟨_, rfl⟩), h]; rfl
def NB (s : Str) : Prop := ∀ i : Nat, s[i]? = some (60 : UInt8) → s[i + 1]? = some (33 : UInt8) → False
theorem NB.drop {s : Str} (h : NB s) (k : Nat) : NB (s.drop k) := fun i h1 h2 => by
  rw [List.getElem?_drop] at h1 h2
  exact h (k + i) h1 (by rw [show k + i + 1 = k + (i + 1) by omega]; exact h2)
theorem NB.kind {s : Str} (h : NB s) : kindB s ≠ 1 := fun hk => by
  have h1 : hasB s [60, 33] = true := by
    unfold kindB at hk
    split at hk
    · assumption
    split at hk
    · omega
    split at hk <;> omega
  obtain ⟨r, rfl⟩ := hasB_iff.1 h1
  exact h 0 rfl rfl
def NT : Tag → List Tag → Prop
  | _, [] => True
  | p, t :: r => ¬ (p.kind = 3 ∧ t.kind = 3) ∧ NT t r
theorem untag_spec : ∀ s : Str, s.drop (untag s) = [] ∨ tagB (s.drop (untag s)) = true
  | [] => .inl rfl
  | c :: r => by
    simp only [untag]
    split
    · rename_i h; exact .inr h
    · rw [List.drop_succ_cons]; exact untag_spec r
theorem hit_kind {Y : Str} (h : hitB (smallB Y) = true) : kindB Y = 2 := by
  have h1 := hit_shut h
  have hne : Y ≠ [] := fun e => by subst e; simp [hitB, hasB, smallB, sEnd] at h
  rcases kind_cases Y with hk | hk | hk | hk
  · rw [next_1 hk] at h1; simp at h1
  · exact hk
  · rw [next_3 hk] at h1
    have hk1 : (openB Y).1.kind = 1 := rfl
    have h2 := congrArg (·.1.map (·.kind)) h1
    split at h2 <;> simp [hk1, shutT] at h2
  · rw [next_4 hk] at h1
    have h2 := congrArg (·.1.map (·.kind)) h1
    unfold putB at h2
    split at h2 <;> simp [shutT, textT] at h2
theorem texts_apart : ∀ (n : Nat) (s : Str) (p : Tag), s.length ≤ n → NB s → (p.kind = 3 → s = [] ∨ kindB s = 2 ∨ kindB s = 3) → NT p (allB s)
  | _, [], _, _, _, _ => trivial
  | n + 1, c :: r, p, hl, hb, hp => by
    have hne : c :: r ≠ [] := by simp
    have hlt := next_len c r
    generalize hs : c :: r = s at *
    rw [allB_ne hne]
    rcases kind_cases s with hk | hk | hk | hk
    · exact absurd hk hb.kind
    · obtain ⟨h2, h3⟩ := next_2 hk
      obtain ⟨k, hk2⟩ := rest_suf (e := [62]) ((s.drop 2).drop (nameLen (s.drop 2)))
      rw [h2] at hlt ⊢
      rw [List.drop_drop, List.drop_drop] at hk2
      rw [List.drop_drop] at hlt ⊢
      simp only [hk2] at hlt ⊢
      exact ⟨fun hh => by have := hh.2; simp [shutT] at this, texts_apart n _ _ (by omega) (hb.drop _) (fun h => by simp [shutT] at h)⟩
    · obtain ⟨k, hko⟩ := open_suf s
      have hk1 : (openB s).1.kind = 1 := rfl
      rw [next_3 hk] at hlt ⊢
      generalize openB s = O at *
      obtain ⟨t, u⟩ := O
      simp only at hk1 hlt hko ⊢
      have hub : NB u := by rw [hko]; exact hb.drop k
      have h1 : ¬ (p.kind = 3 ∧ t.kind = 3) := fun hh => by have := hh.2; omega
      by_cases hst : t.name = sStyle
      · rw [if_pos hst] at hlt ⊢
        dsimp only at hlt ⊢
        refine ⟨h1, ?_⟩
        have hrl := raw_le u
        have hY : u.drop (rawB u) = [] ∨ kindB (u.drop (rawB u)) = 2 ∨ kindB (u.drop (rawB u)) = 3 := by
          rcases Nat.lt_or_ge (rawB u) u.length with h | h
          · exact .inr (.inl (hit_kind (raw_hit h)))
          · exact .inl (List.drop_of_length_le h)
        unfold putB
        split
        · exact texts_apart n _ _ (by omega) (hub.drop _) (fun _ => hY)
        · exact ⟨fun hh => by have := hh.1; omega, texts_apart n _ _ (by omega) (hub.drop _) (fun _ => hY)⟩
      · rw [if_neg hst] at hlt ⊢
        exact ⟨h1, texts_apart n _ _ (by omega) hub (fun h => by omega)⟩
    · have hp3 : p.kind ≠ 3 := fun h => by
        rcases hp h with h | h | h
        · exact hne h
        · omega
        · omega
      rw [next_4 hk] at hlt ⊢
      dsimp only at hlt ⊢
      have hu := untag_spec (s.drop 1)
      rw [List.drop_drop] at hu
      have hbd := hb.drop (1 + untag (s.drop 1))
      have hY : s.drop (1 + untag (s.drop 1)) = [] ∨ kindB (s.drop (1 + untag (s.drop 1))) = 2 ∨ kindB (s.drop (1 + untag (s.drop 1))) = 3 := by
        rcases hu with hu | hu
        · exact .inl hu
        · right
          rcases kind_cases (s.drop (1 + untag (s.drop 1))) with h | h | h | h
          · exact absurd h hbd.kind
          · exact .inl h
          · exact .inr h
          · rw [kind_tag.1 h] at hu; simp at hu
      unfold putB
      split
      · exact texts_apart n _ _ (by omega) hbd (fun h => absurd h hp3)
      · exact ⟨fun hh => hp3 hh.1, texts_apart n _ _ (by omega) hbd (fun _ => hY)⟩
end W09
/- A text behind one that ends all. -/
namespace W09
open Go Go.AX Go.AX.Ty
theorem rest_app {e a : Str} : ∀ v : Str, restB e v ≠ [] → restB e (v ++ a) = restB e v ++ a ∧ frontB e (v ++ a) = frontB e v
  | [], h => absurd rfl h
  | c :: r, h => by
    simp only [restB] at h
    simp only [List.cons_append, restB, frontB]
    by_cases hh : hasB (c :: r) e = true
    · have h2 : hasB (c :: (r ++ a)) e = true := by rw [← List.cons_append, hasB_app (hasB_len hh)]; exact hh
      rw [if_pos hh, if_pos hh, if_pos h2, if_pos h2, ← List.cons_append, List.drop_append_of_le_length (hasB_len hh)]
      exact ⟨rfl, rfl⟩
    · rw [if_neg hh] at h
      obtain ⟨i1, i2⟩ := rest_app (a := a) r h
      have hl : e.length ≤ (c :: r).length := by
        have h3 := rest_len_eq (e := e) r
        have h4 := List.length_pos_iff.2 h
        simp only [List.length_cons]; omega
      have h2 : hasB (c :: (r ++ a)) e = hasB (c :: r) e := by rw [← List.cons_append, hasB_app hl]
      rw [h2, if_neg hh, if_neg hh, if_neg hh, if_neg hh, i1, i2]
      exact ⟨rfl, rfl⟩
theorem dw_app {p : UInt8 → Bool} {a : Str} : ∀ v : Str, v.dropWhile p ≠ [] → (v ++ a).dropWhile p = v.dropWhile p ++ a ∧ (v ++ a).takeWhile p = v.takeWhile p
  | [], h => absurd rfl h
  | c :: r, h => by
    rw [List.cons_append, List.dropWhile_cons, List.takeWhile_cons, List.dropWhile_cons, List.takeWhile_cons]
    rw [List.dropWhile_cons] at h
    split
    · rename_i hc
      rw [if_pos hc] at h
      obtain ⟨h1, h2⟩ := dw_app (a := a) r h
      exact ⟨h1, by rw [h2]⟩
    · exact ⟨rfl, rfl⟩
theorem nameLen_app {a : Str} {v : Str} (h : nameLen v < v.length) : nameLen (v ++ a) = nameLen v := by
  cases v with
  | nil => simp at h
  | cons c r =>
    simp only [nameLen, List.cons_append] at h ⊢
    split
    · rename_i hc
      rw [if_pos hc] at h
      simp only [List.length_cons] at h
      have hne : r.dropWhile inNameB ≠ [] := fun e => by
        have := congrArg List.length (tw_dw (p := inNameB) r)
        rw [e, List.append_nil] at this; omega
      rw [(dw_app (a := a) r hne).2]
    · rfl
theorem val_app {a v : Str} (h : (valB v).2 ≠ []) : valB (v ++ a) = ((valB v).1, (valB v).2 ++ a) := by
  have hv : v ≠ [] := fun e => by subst e; exact h rfl
  have hl := List.length_pos_iff.2 hv
  have q1 : hasB (v ++ a) [34] = hasB v [34] := hasB_app hl
  have q2 : hasB (v ++ a) [39] = hasB v [39] := hasB_app hl
  unfold valB at h ⊢
  rw [q1, q2]
  split
  · rename_i hq
    rw [if_pos hq] at h
    rw [List.take_append_of_le_length hl, List.drop_append_of_le_length hl]
    obtain ⟨h1, h2⟩ := rest_app (a := a) _ h
    rw [h1, h2]
  · rename_i hq
    rw [if_neg hq] at h
    obtain ⟨h1, h2⟩ := dw_app (a := a) _ h
    rw [h1, h2]
theorem attr_app {a v : Str} (h : (attrB v).2 ≠ []) (h2 : (attrB v).2.dropWhile blankB ≠ []) : attrB (v ++ a) = ((attrB v).1, (attrB v).2 ++ a) := by
  unfold attrB at h h2 ⊢
  by_cases hq : hasB ((v.dropWhile inAttrB).dropWhile blankB) [61] = true
  · rw [if_pos hq] at h h2
    have hr := hasB_len hq
    have hr1 : 1 ≤ ((v.dropWhile inAttrB).dropWhile blankB).length := hr
    have e1 : (v.dropWhile inAttrB).dropWhile blankB ≠ [] := fun e => by rw [e] at hr1; simp at hr1
    have e2 : v.dropWhile inAttrB ≠ [] := fun e => by rw [e] at e1; exact e1 rfl
    obtain ⟨a1, a2⟩ := dw_app (a := a) v e2
    obtain ⟨b1, _⟩ := dw_app (a := a) _ e1
    have e3 : ((((v.dropWhile inAttrB).dropWhile blankB).drop 1).dropWhile blankB) ≠ [] := fun e => by rw [e] at h; exact h rfl
    obtain ⟨d1, _⟩ := dw_app (a := a) _ e3
    rw [a1, a2, b1, hasB_app hr, if_pos hq, if_pos hq, List.drop_append_of_le_length hr1, d1, val_app h]
  · rw [if_neg hq] at h h2
    obtain ⟨a1, a2⟩ := dw_app (a := a) v h
    obtain ⟨b1, _⟩ := dw_app (a := a) _ h2
    rw [a1, a2, b1, hasB_app (p := [61]) (show 1 ≤ _ from List.length_pos_iff.2 h2), if_neg hq, if_neg hq]
theorem attrs_blank : ∀ (al : List Ty.Attr) (s : Str), s.dropWhile blankB = [] → (attrsB al s).2 = []
  | al, [], _ => by rw [attrsB_nil]
  | al, c :: r, h => by
    rw [List.dropWhile_cons] at h
    split at h
    · rename_i hc
      have hn : c ≠ 62 := fun e => by rw [e] at hc; exact absurd hc (by decide)
      have hi : inAttrB c = false := by simp [inAttrB, hc]
      rw [attrsB_cons, if_neg hn, if_pos hi]
      exact attrs_blank al r h
    · simp at h
theorem attrs_app {a : Str} : ∀ (n : Nat) (al : List Ty.Attr) (v : Str), v.length ≤ n → (attrsB al v).2 ≠ [] → attrsB al (v ++ a) = ((attrsB al v).1, (attrsB al v).2 ++ a)
  | n, al, [], _, h => by rw [attrsB_nil] at h; exact absurd rfl h
  | n + 1, al, c :: r, hl, h => by
    simp only [List.length_cons] at hl
    rw [List.cons_append, attrsB_cons, attrsB_cons]
    rw [attrsB_cons] at h
    by_cases h3 : c = 62
    · rw [if_pos h3, if_pos h3]
    rw [if_neg h3, if_neg h3]
    rw [if_neg h3] at h
    by_cases h4 : inAttrB c = false
    · rw [if_pos h4, if_pos h4]
      rw [if_pos h4] at h
      exact attrs_app n al r (by omega) h
    rw [if_neg h4, if_neg h4]
    rw [if_neg h4] at h
    have h5 : inAttrB c = true := by simpa using h4
    have hlt := attr_len (r := r) h5
    simp only [List.length_cons] at hlt
    have e1 : (attrB (c :: r)).2.dropWhile blankB ≠ [] := fun e => h (attrs_blank _ _ e)
    have e2 : (attrB (c :: r)).2 ≠ [] := fun e => by rw [e] at e1; exact e1 rfl
    have := attr_app (a := a) e2 e1
    rw [List.cons_append] at this
    rw [this]
    exact attrs_app n _ _ (by omega) h
theorem open_app {a v : Str} (h : (openB v).2 ≠ []) : openB (v ++ a) = ((openB v).1, (openB v).2 ++ a) := by
  have hv : v ≠ [] := fun e => by subst e; exact h rfl
  have hl := List.length_pos_iff.2 hv
  unfold openB at h ⊢
  rw [List.drop_append_of_le_length hl]
  have e1 : (v.drop 1).drop (nameLen (v.drop 1)) ≠ [] := fun e => by rw [e] at h; exact h (by rw [attrsB_nil])
  have e2 : nameLen (v.drop 1) < (v.drop 1).length := by
    have := List.length_pos_iff.2 e1
    rw [List.length_drop] at this; omega
  rw [nameLen_app e2, List.take_append_of_le_length (Nat.le_of_lt e2), List.drop_append_of_le_length (Nat.le_of_lt e2), attrs_app _ _ _ (Nat.le_refl _) h]
theorem rawL_app {a : Str} : ∀ u : Str, rawL u + 8 ≤ u.length → rawL (u ++ a) = rawL u
  | [], h => by simp at h
  | c :: r, h => by
    have h8 : 8 ≤ (c :: r).length := by omega
    rw [List.cons_append, rawL_cons, rawL_cons, ← List.cons_append, hit_pre h8]
    split
    · rfl
    · rename_i hn
      rw [rawL_cons, if_neg hn] at h
      rw [rawL_app r (by simp only [List.length_cons] at h; omega)]
theorem raw_app {a u : Str} (h : rawB u + 8 ≤ u.length) : rawB (u ++ a) = rawB u := by
  unfold rawB
  rw [small_app, rawL_app _ (by rw [small_len]; exact h)]
theorem tag_app {a v : Str} (h : 3 ≤ v.length) : tagB (v ++ a) = tagB v := by
  have n0 : ∀ w b : Str, 1 ≤ w.length → decide (0 < nameLen (w ++ b)) = decide (0 < nameLen w) := fun w b hw => by
    cases w with
    | nil => simp at hw
    | cons c r => simp only [nameLen, List.cons_append]; split <;> simp
  unfold tagB
  rw [hasB_app (by show 2 ≤ _; omega), hasB_app (by show 2 ≤ _; omega), hasB_app (by show 1 ≤ _; omega), List.drop_append_of_le_length (by omega), List.drop_append_of_le_length (by omega), n0 _ _ (by simp; omega), n0 _ _ (by simp; omega)]
theorem untag_app {a : Str} : ∀ u : Str, untag u + 3 ≤ u.length → untag (u ++ a) = untag u
  | [], h => by simp at h
  | c :: r, h => by
    have h3 : 3 ≤ (c :: r).length := by omega
    rw [List.cons_append, untag, untag, ← List.cons_append, tag_app h3]
    split
    · rfl
    · rename_i hn
      rw [untag, if_neg hn] at h
      rw [untag_app r (by simp only [List.length_cons] at h; omega)]
theorem next_app {a v : Str} (h : 8 ≤ (nextB v).2.length) : nextB (v ++ a) = ((nextB v).1, (nextB v).2 ++ a) := by
  have hne : ∀ l : Str, 8 ≤ l.length → l ≠ [] := fun l h e => by subst e; simp at h
  have hv : 8 ≤ v.length := by
    cases v with
    | nil => exact absurd (show 8 ≤ 0 from h) (by omega)
    | cons c r => have := next_len c r; omega
  have q4 : hasB (v ++ a) [60, 33, 45, 45] = hasB v [60, 33, 45, 45] := hasB_app (by show 4 ≤ _; omega)
  have q2 : hasB (v ++ a) [60, 33] = hasB v [60, 33] := hasB_app (by show 2 ≤ _; omega)
  have q3 : hasB (v ++ a) [60, 47] = hasB v [60, 47] := hasB_app (by show 2 ≤ _; omega)
  have q1 : hasB (v ++ a) [60] = hasB v [60] := hasB_app (by show 1 ≤ _; omega)
  have n0 : ∀ w b : Str, 1 ≤ w.length → (0 < nameLen (w ++ b)) = (0 < nameLen w) := fun w b hw => by
    cases w with
    | nil => simp at hw
    | cons c r => simp only [nameLen, List.cons_append]; split <;> simp
  have d2 : (v ++ a).drop 2 = v.drop 2 ++ a := List.drop_append_of_le_length (by omega)
  have d1 : (v ++ a).drop 1 = v.drop 1 ++ a := List.drop_append_of_le_length (by omega)
  unfold nextB at h ⊢
  have n2 : (hasB v [60, 47] = true ∧ 0 < nameLen (v.drop 2 ++ a)) = (hasB v [60, 47] = true ∧ 0 < nameLen (v.drop 2)) := by rw [n0 _ _ (by simp; omega)]
  have n1 : (hasB v [60] = true ∧ 0 < nameLen (v.drop 1 ++ a)) = (hasB v [60] = true ∧ 0 < nameLen (v.drop 1)) := by rw [n0 _ _ (by simp; omega)]
  rw [q4, q2, q3, q1, d2, d1]
  by_cases h4 : hasB v [60, 33, 45, 45] = true
  · rw [if_pos h4] at h ⊢
    rw [if_pos h4, List.drop_append_of_le_length (by omega), (rest_app (a := a) _ (hne _ h)).1]
  rw [if_neg h4] at h ⊢
  rw [if_neg h4]
  by_cases h5 : hasB v [60, 33] = true
  · rw [if_pos h5] at h ⊢
    rw [if_pos h5, (rest_app (a := a) _ (hne _ h)).1]
  rw [if_neg h5] at h ⊢
  rw [if_neg h5]
  by_cases h6 : hasB v [60, 47] = true ∧ 0 < nameLen (v.drop 2)
  · rw [if_pos h6] at h ⊢
    have e1 : (v.drop 2).drop (nameLen (v.drop 2)) ≠ [] := fun e => by rw [e] at h; exact absurd (show 8 ≤ 0 from h) (by omega)
    have e2 : nameLen (v.drop 2) < (v.drop 2).length := by
      have := List.length_pos_iff.2 e1
      rw [List.length_drop] at this; omega
    rw [if_pos (n2 ▸ h6), nameLen_app e2, List.take_append_of_le_length (Nat.le_of_lt e2), List.drop_append_of_le_length (Nat.le_of_lt e2), (rest_app (a := a) _ (hne _ h)).1]
  rw [if_neg h6] at h ⊢
  rw [if_neg (n2 ▸ h6)]
  by_cases h7 : hasB v [60] = true ∧ 0 < nameLen (v.drop 1)
  · rw [if_pos h7] at h ⊢
    rw [if_pos (n1 ▸ h7)]
    by_cases h8 : (openB v).1.name = sStyle
    · rw [if_pos h8] at h ⊢
      simp only [List.length_drop] at h
      have e1 : (openB v).2 ≠ [] := fun e => by rw [e] at h; simp at h
      rw [open_app e1]
      dsimp only
      rw [if_pos h8, raw_app (by omega), List.take_append_of_le_length (by omega), List.drop_append_of_le_length (by omega)]
    · rw [if_neg h8] at h ⊢
      rw [open_app (hne _ h)]
      dsimp only
      rw [if_neg h8]
  · rw [if_neg h7] at h ⊢
    rw [if_neg (n1 ▸ h7)]
    simp only [List.length_drop] at h
    have e1 : untag (v.drop 1 ++ a) = untag (v.drop 1) := untag_app _ (by simp only [List.length_drop]; omega)
    rw [e1, List.take_append_of_le_length (by omega), List.drop_append_of_le_length (by omega)]
end W09
/- What ends all. -/
namespace W09
open Go Go.AX Go.AX.Ty
def eE : Str := [120, 34, 62, 39, 62, 45, 45, 62, 60, 47, 115, 116, 121, 108, 101, 62, 60, 47, 98, 62]
def e1 : Str := [34, 62, 39, 62, 45, 45, 62, 60, 47, 115, 116, 121, 108, 101, 62, 60, 47, 98, 62]
def e2 : Str := [62, 39, 62, 45, 45, 62, 60, 47, 115, 116, 121, 108, 101, 62, 60, 47, 98, 62]
def e4 : Str := [62, 45, 45, 62, 60, 47, 115, 116, 121, 108, 101, 62, 60, 47, 98, 62]
def e8 : Str := [60, 47, 115, 116, 121, 108, 101, 62, 60, 47, 98, 62]
theorem rest_low {e : Str} {y : Str} (hy : restB e y ≠ []) : ∀ x : Str, (restB e y).length ≤ (restB e (x ++ y)).length
  | [] => Nat.le_refl _
  | c :: x => by
    simp only [List.cons_append, restB]
    split
    · have := rest_len_eq (e := e) y
      simp only [List.length_drop, List.length_cons, List.length_append]; omega
    · exact rest_low hy x
theorem name_stop {c : UInt8} {w : Str} (hc : inNameB c = false) : ∀ z : Str, nameLen (z ++ c :: w) ≤ z.length
  | [] => by
    simp only [List.nil_append, nameLen]
    split
    · rename_i h; have : inNameB c = true := by simp [inNameB, h]
      rw [hc] at this; simp at this
    · exact Nat.le_refl _
  | a :: z => by
    simp only [List.cons_append, nameLen]
    split
    · simp only [List.length_cons]
      have : ∀ z : Str, ((z ++ c :: w).takeWhile inNameB).length ≤ z.length := fun z => by
        induction z with
        | nil => simp [hc]
        | cons b z ih =>
          rw [List.cons_append, List.takeWhile_cons]
          split
          · simp only [List.length_cons]; omega
          · simp
      have := this z
      omega
    · simp
theorem dw_split {p : UInt8 → Bool} (y : Str) : ∀ q : Str, (q.dropWhile p = [] ∧ (q ++ y).dropWhile p = y.dropWhile p) ∨ (q.dropWhile p ≠ [] ∧ (q ++ y).dropWhile p = q.dropWhile p ++ y)
  | [] => .inl ⟨rfl, rfl⟩
  | c :: q => by
    rw [List.cons_append, List.dropWhile_cons, List.dropWhile_cons]
    split
    · exact dw_split y q
    · exact .inr ⟨by simp, rfl⟩
theorem rest_one {x : UInt8} (c : UInt8) (r : Str) : restB [x] (c :: r) = if c = x then r else restB [x] r := by
  simp only [restB, hasB_one]
  by_cases h : c = x <;> simp [h]
theorem rest_split {x : UInt8} (y : Str) : ∀ q : Str, (∃ q', q'.length < q.length ∧ restB [x] (q ++ y) = q' ++ y) ∨ restB [x] (q ++ y) = restB [x] y
  | [] => .inr rfl
  | c :: q => by
    rw [List.cons_append, rest_one]
    split
    · exact .inl ⟨q, by simp, rfl⟩
    · rcases rest_split (x := x) y q with ⟨q', h1, h2⟩ | h
      · exact .inl ⟨q', by simp only [List.length_cons]; omega, h2⟩
      · exact .inr h
theorem attr_low {c : UInt8} {q : Str} (hc : inAttrB c = true) : (∃ q', q'.length < (c :: q).length ∧ (attrB (c :: q ++ eE)).2 = q' ++ eE) ∨ (attrB (c :: q ++ eE)).2 = e1 ∨ (attrB (c :: q ++ eE)).2 = e2 ∨ (attrB (c :: q ++ eE)).2 = e4 := by
  have hq1 : ((c :: q).dropWhile inAttrB).length < (c :: q).length := by
    rw [List.dropWhile_cons, if_pos hc]
    have := dw_len (p := inAttrB) q; simp only [List.length_cons]; omega
  unfold attrB
  rcases dw_split (p := inAttrB) eE (c :: q) with ⟨_, h⟩ | ⟨h0, h⟩
  · rw [h, show eE.dropWhile inAttrB = e1 from rfl, show e1.dropWhile blankB = e1 from rfl, if_neg (by decide)]
    exact .inr (.inl rfl)
  rw [h]
  generalize (c :: q).dropWhile inAttrB = q2 at *
  rcases dw_split (p := blankB) eE q2 with ⟨_, h⟩ | ⟨h0, h⟩
  · rw [h, show eE.dropWhile blankB = eE from rfl, if_neg (by decide)]
    exact .inl ⟨q2, hq1, rfl⟩
  rw [h]
  have hq2 := dw_len (p := blankB) q2
  generalize q2.dropWhile blankB = q3 at *
  cases q3 with
  | nil => exact absurd rfl h0
  | cons d q4 =>
    by_cases hd : d = 61
    · subst hd
      have hq61 : hasB (61 :: q4 ++ eE) [61] = true := hasB_iff.2 ⟨q4 ++ eE, rfl⟩
      rw [if_pos hq61]
      show (∃ q', q'.length < (c :: q).length ∧ (valB ((q4 ++ eE).dropWhile blankB)).2 = q' ++ eE) ∨ (valB ((q4 ++ eE).dropWhile blankB)).2 = e1 ∨ (valB ((q4 ++ eE).dropWhile blankB)).2 = e2 ∨ (valB ((q4 ++ eE).dropWhile blankB)).2 = e4
      obtain ⟨q5, h5, hl5⟩ : ∃ q5, (q4 ++ eE).dropWhile blankB = q5 ++ eE ∧ q5.length ≤ q4.length := by
        rcases dw_split (p := blankB) eE q4 with ⟨_, h⟩ | ⟨_, h⟩
        · exact ⟨[], by rw [h]; rfl, by simp⟩
        · exact ⟨_, h, dw_len q4⟩
      rw [h5]
      have hlen : q5.length < (c :: q).length := by simp only [List.length_cons] at hq2; omega
      unfold valB
      split
      · rename_i hq
        cases q5 with
        | nil => exact absurd hq (by decide)
        | cons x q6 =>
          show (∃ q', q'.length < (c :: q).length ∧ restB [x] (q6 ++ eE) = q' ++ eE) ∨ restB [x] (q6 ++ eE) = e1 ∨ restB [x] (q6 ++ eE) = e2 ∨ restB [x] (q6 ++ eE) = e4
          have hx : x = 34 ∨ x = 39 := by simpa [hasB_one] using hq
          rcases rest_split (x := x) eE q6 with ⟨q', h1, h2⟩ | h
          · exact .inl ⟨q', by simp only [List.length_cons] at hlen ⊢; omega, h2⟩
          · rw [h]
            rcases hx with rfl | rfl
            · exact .inr (.inr (.inl rfl))
            · exact .inr (.inr (.inr rfl))
      · rcases dw_split (p := inValB) eE q5 with ⟨_, h⟩ | ⟨_, h⟩
        · show (∃ q', q'.length < (c :: q).length ∧ (q5 ++ eE).dropWhile inValB = q' ++ eE) ∨ _
          rw [h]
          exact .inr (.inr (.inl rfl))
        · refine .inl ⟨q5.dropWhile inValB, by have := dw_len (p := inValB) q5; omega, ?_⟩
          show (q5 ++ eE).dropWhile inValB = _
          rw [h]
    · rw [if_neg (by rw [List.cons_append, hasB_one]; simp [hd])]
      exact .inl ⟨q2, hq1, rfl⟩
theorem attrs_e1 (al : List Ty.Attr) : 15 ≤ (attrsB al e1).2.length := by
  rw [e1, attrsB_cons, if_neg (by decide), if_pos (by decide), attrsB_cons, if_pos rfl]; show 15 ≤ List.length _; simp
theorem attrs_e2 (al : List Ty.Attr) : 15 ≤ (attrsB al e2).2.length := by
  rw [e2, attrsB_cons, if_pos rfl]; show 15 ≤ List.length _; simp
theorem attrs_e4 (al : List Ty.Attr) : 15 ≤ (attrsB al e4).2.length := by
  rw [e4, attrsB_cons, if_pos rfl]; show 15 ≤ List.length _; simp
theorem attrs_low : ∀ (n : Nat) (al : List Ty.Attr) (q : Str), q.length ≤ n → 15 ≤ (attrsB al (q ++ eE)).2.length
  | n, al, [], _ => by
    show 15 ≤ (attrsB al eE).2.length
    rw [eE, attrsB_cons, if_neg (by decide), if_neg (by decide)]
    exact attrs_e1 _
  | n + 1, al, c :: q, hl => by
    simp only [List.length_cons] at hl
    rw [List.cons_append, attrsB_cons]
    by_cases h3 : c = 62
    · rw [if_pos h3]; simp [eE]
    rw [if_neg h3]
    by_cases h4 : inAttrB c = false
    · rw [if_pos h4]; exact attrs_low n al q (by omega)
    rw [if_neg h4, ← List.cons_append]
    rcases attr_low (q := q) (by simpa using h4 : inAttrB c = true) with ⟨q', h1, h2⟩ | h | h | h
    · rw [h2]; exact attrs_low n _ q' (by simp only [List.length_cons] at h1; omega)
    · rw [h]; exact attrs_e1 _
    · rw [h]; exact attrs_e2 _
    · rw [h]; exact attrs_e4 _
theorem raw_low : ∀ x : Str, rawL (x ++ e8) ≤ x.length
  | [] => Nat.le_of_eq rfl
  | c :: x => by
    rw [List.cons_append, rawL_cons]
    split
    · simp
    · have := raw_low x; simp only [List.length_cons]; omega
theorem untag_low : ∀ x : Str, untag (x ++ e8) ≤ x.length
  | [] => Nat.le_of_eq rfl
  | c :: x => by
    rw [List.cons_append, untag]
    split
    · simp
    · have := untag_low x; simp only [List.length_cons]; omega
theorem suf8 {v : Str} {k : Nat} {u : Str} (hv : v = u ++ eE) (h : 12 ≤ (v.drop k).length) : ∃ z, v.drop k = z ++ e8 := by
  refine ⟨(u ++ [120, 34, 62, 39, 62, 45, 45, 62]).drop k, ?_⟩
  have e : v = (u ++ [120, 34, 62, 39, 62, 45, 45, 62]) ++ e8 := by rw [hv]; simp [eE, e8]
  rw [List.length_drop, e, List.length_append] at h
  have : e8.length = 12 := rfl
  rw [e, List.drop_append_of_le_length (by omega)]
theorem next_suf (t : Str) : ∃ k, (nextB t).2 = t.drop k := by
  rcases kind_cases t with hk | hk | hk | hk
  · rw [next_1 hk]; exact lost_suf t
  · rw [(next_2 hk).1]
    obtain ⟨k, h⟩ := rest_suf (e := [62]) ((t.drop 2).drop (nameLen (t.drop 2)))
    exact ⟨2 + nameLen (t.drop 2) + k, by dsimp only; rw [h, List.drop_drop, List.drop_drop]; congr 1; omega⟩
  · rw [next_3 hk]
    obtain ⟨k, h⟩ := open_suf t
    split
    · exact ⟨k + rawB (openB t).2, by dsimp only; rw [h, List.drop_drop]⟩
    · exact ⟨k, h⟩
  · rw [next_4 hk]; exact ⟨_, rfl⟩
theorem next_low (u : Str) : 12 ≤ (nextB (u ++ eE)).2.length := by
  have hu : ∀ p : UInt8, p = 60 → hasB (u ++ eE) [p] = true → 1 ≤ u.length := fun p hp h => by
    cases u with
    | nil => subst hp; exact absurd h (by decide)
    | cons c r => simp
  have h60 : ∀ p q : UInt8, hasB (u ++ eE) [p, q] = true → hasB (u ++ eE) [p] = true := fun p q h => by
    obtain ⟨r, hr⟩ := hasB_iff.1 h
    exact hasB_iff.2 ⟨q :: r, by rw [hr]; rfl⟩
  have eq1 : u ++ eE = (u ++ [120]) ++ e1 := by simp [eE, e1]
  rcases kind_cases (u ++ eE) with hk | hk | hk | hk
  · rw [next_1 hk]
    show 12 ≤ (lostB (u ++ eE)).length
    unfold lostB
    split
    · have e : (u ++ eE).drop 4 = ((u ++ [120, 34, 62, 39]).drop 4) ++ e4 := by
        rw [show u ++ eE = (u ++ [120, 34, 62, 39]) ++ e4 by simp [eE, e4], List.drop_append_of_le_length (by simp)]
      rw [e]
      have := rest_low (e := [45, 45, 62]) (y := e4) (by decide) ((u ++ [120, 34, 62, 39]).drop 4)
      exact Nat.le_trans (by decide) this
    · have := rest_low (e := [62]) (y := eE) (by decide) u
      exact Nat.le_trans (by decide) this
  · obtain ⟨h1, h2⟩ := next_2 hk
    have hu1 := hu 60 rfl (h60 _ _ h2)
    have e : (u ++ eE).drop 2 = ((u ++ [120]).drop 2) ++ e1 := by
      rw [eq1, List.drop_append_of_le_length (by simp; omega)]
    rw [h1, e]
    dsimp only
    have hn := name_stop (c := 34) (w := e2) (by decide) ((u ++ [120]).drop 2)
    rw [show (34 :: e2 : Str) = e1 from rfl] at hn
    rw [List.drop_append_of_le_length hn]
    have := rest_low (e := [62]) (y := e1) (by decide) (((u ++ [120]).drop 2).drop (nameLen ((u ++ [120]).drop 2 ++ e1)))
    exact Nat.le_trans (by decide) this
  · have h0 : hasB (u ++ eE) [60] = true := by
      unfold kindB at hk
      split at hk
      · omega
      split at hk
      · omega
      · split at hk
        · rename_i hh; exact hh.1
        · omega
    have hu1 := hu 60 rfl h0
    have e : (u ++ eE).drop 1 = ((u ++ [120]).drop 1) ++ e1 := by
      rw [eq1, List.drop_append_of_le_length (by simp)]
    have ho : 15 ≤ (openB (u ++ eE)).2.length := by
      unfold openB
      rw [e]
      dsimp only
      have hn := name_stop (c := 34) (w := e2) (by decide) ((u ++ [120]).drop 1)
      rw [show (34 :: e2 : Str) = e1 from rfl] at hn
      rw [List.drop_append_of_le_length hn]
      generalize nameLen ((u ++ [120]).drop 1 ++ e1) = m at *
      rw [List.drop_drop]
      rcases Nat.lt_or_ge u.length (1 + m) with h | h
      · have : (u ++ [120]).drop (1 + m) = [] := List.drop_of_length_le (by simp; omega)
        rw [this]; exact attrs_e1 []
      · rw [List.drop_append_of_le_length h, List.append_assoc]
        exact attrs_low _ [] _ (Nat.le_refl _)
    obtain ⟨k, hsu⟩ := open_suf (u ++ eE)
    rw [next_3 hk]
    split
    · dsimp only
      rw [hsu] at ho ⊢
      obtain ⟨z, hz⟩ := suf8 (k := k) rfl (by omega : 12 ≤ ((u ++ eE).drop k).length)
      rw [hz]
      have h1 : rawB (z ++ e8) ≤ z.length := by
        have := raw_low (smallB z)
        rw [small_len] at this
        show rawL (smallB (z ++ e8)) ≤ _
        rw [small_app]; exact this
      rw [List.length_drop, List.length_append]
      have : e8.length = 12 := rfl
      omega
    · dsimp only; omega
  · rw [next_4 hk]
    dsimp only
    have hl : (u ++ eE).length = u.length + 20 := by rw [List.length_append]; rfl
    obtain ⟨z, hz⟩ := suf8 (k := 1) (u := u) rfl (by rw [List.length_drop]; omega)
    have h1 := untag_low z
    have h2 := congrArg List.length hz
    rw [List.length_drop, hl, List.length_append] at h2
    have h3 : e8.length = 12 := rfl
    rw [List.length_drop, hz, hl]; omega
theorem both8 (t : Str) : allB (e8 ++ t) = allB e8 ++ allB t := by
  have h1 : nextB (e8 ++ t) = ([shutT sStyle], [60, 47, 98, 62] ++ t) := by
    have := shut_read (n := sStyle) (w := [60, 47, 98, 62] ++ t) nm_style
    rw [← this]; rfl
  have h2 : nextB ([60, 47, 98, 62] ++ t) = ([shutT [98]], t) := by
    have := shut_read (n := [98]) (w := t) ⟨by decide, by decide, by decide⟩
    rw [← this]; rfl
  have h3 : allB e8 = [shutT sStyle, shutT [98]] := rfl
  rw [allB_ne (by simp [e8]), h1, h3]
  dsimp only
  rw [allB_ne (by simp), h2]; rfl
theorem both_end (t : Str) {x : Str} (hx : (nextB x).2 = e8) (h0 : x ≠ []) : allB (x ++ t) = allB x ++ allB t := by
  have h1 : 8 ≤ (nextB x).2.length := by rw [hx]; decide
  rw [allB_ne (by simp [h0]), next_app h1, allB_ne h0]
  dsimp only
  rw [hx, both8, List.append_assoc]
theorem both (t : Str) : ∀ (n : Nat) (u : Str), u.length ≤ n → allB (u ++ eE ++ t) = allB (u ++ eE) ++ allB t := by
  intro n
  induction n with
  | zero =>
    intro u hu
    have : u = [] := List.eq_nil_of_length_eq_zero (by omega)
    subst this
    exact both_end t (x := eE) rfl (by decide)
  | succ n ih =>
    intro u hu
    have hlow := next_low u
    have hne : u ++ eE ≠ [] := by simp [eE]
    have hlt : (nextB (u ++ eE)).2.length < (u ++ eE).length := by
      cases hv : u ++ eE with
      | nil => exact absurd hv hne
      | cons c r => exact next_len c r
    obtain ⟨k, hk⟩ := next_suf (u ++ eE)
    have hne' : u ++ eE ++ t ≠ [] := by simp [eE]
    rw [allB_ne hne', next_app (by omega), allB_ne hne, List.append_assoc]
    dsimp only
    congr 1
    have hl : (u ++ eE).length = u.length + 20 := by rw [List.length_append]; rfl
    rw [hk] at hlow hlt ⊢
    rw [List.length_drop] at hlow hlt
    rcases Nat.lt_or_ge u.length k with h | h
    · have e : (u ++ eE).drop k = eE.drop (k - u.length) := by
        rw [List.drop_append, List.drop_of_length_le (by omega), List.nil_append]
      rw [e]
      have hm : k - u.length = 1 ∨ k - u.length = 2 ∨ k - u.length = 3 ∨ k - u.length = 4 ∨ k - u.length = 5 ∨ k - u.length = 6 ∨ k - u.length = 7 ∨ k - u.length = 8 := by omega
      rcases hm with h | h | h | h | h | h | h | h <;> rw [h]
      · exact both_end t rfl (by decide)
      · exact both_end t rfl (by decide)
      · exact both_end t rfl (by decide)
      · exact both_end t rfl (by decide)
      · exact both_end t rfl (by decide)
      · exact both_end t rfl (by decide)
      · exact both_end t rfl (by decide)
      · exact both8 t
    · rw [List.drop_append_of_le_length h]
      exact ih _ (by rw [List.length_drop]; omega)
end W09
