/- What turns change, and what they do not. -/
import Derived.Test.YtdbcomcockkkbaaGreatMbC
set_option linter.unusedSimpArgs false
set_option linter.unusedVariables false
namespace W14
open Go Go.AX Go.AX.Ty Go.Proofs

def setA : List Ty.Attr → Str → Str → List Ty.Attr
  | [], n, v => [⟨n, v⟩]
  | a :: r, n, v => if a.name = n then ⟨a.name, v⟩ :: r else a :: setA r n v
def withF (s : Str) (out x : Str) : Str := if x = s then out else if out = [] then x else out ++ [32] ++ x
def withoutB (l : List Str) (s : Str) : Str := l.foldl (withF s) []
def inB (l : List Str) (s : Str) : Bool := l.any fun x => x == s
def attrsB (q : Page) (t : Turn) (x : Ty.Node) : List Ty.Attr :=
  if t.kind = 1 then (if inB (classesB q t.node) t.name = true then x.attrs else if (attrB q t.node sClass).1 = [] then setA x.attrs sClass t.name else setA x.attrs sClass ((attrB q t.node sClass).1 ++ [32] ++ t.name))
  else if t.kind = 2 then (if inB (classesB q t.node) t.name = true then setA x.attrs sClass (withoutB (classesB q t.node) t.name) else x.attrs)
  else if t.kind = 3 then setA x.attrs t.name t.value
  else if t.kind = 4 then x.attrs.filter (fun a => !(a.name == t.name))
  else x.attrs
def withA (x : Ty.Node) (l : List Ty.Attr) : Ty.Node := ⟨x.name, l, x.text, x.up, x.kids⟩
def stepT (q : Page) (t : Turn) : Page := match nodeAt q t.node with
  | some x => if x.name = [] then q else q.set t.node.toNat (withA x (attrsB q t x))
  | none => q
def doB (p : Page) (l : List Turn) : Page := l.foldl stepT p
def mayT (s : Safe) (p : Page) (t : Turn) : Bool := elemB p t.node && (decide (t.name ≠ []) &&
  (if t.kind = 1 ∨ t.kind = 2 then inB s.classes t.name && !t.name.any blankB else if t.kind = 3 ∨ t.kind = 4 then inB s.attrs t.name && decide (t.name ≠ sClass) else false))

def getA (l : List Ty.Attr) (v : Str) : Str × Bool := match l.find? (fun a => a.name == v) with
  | some a => (a.value, true)
  | none => ([], false)
theorem find_set_other {l : List Ty.Attr} {n v w : Str} (h : ¬ n = v) : (setA l n w).find? (fun a => a.name == v) = l.find? (fun a => a.name == v) := by
  induction l with
  | nil => simp [setA, h]
  | cons a r ih =>
    simp only [setA]
    split
    · rename_i e
      subst e
      simp [h]
    · simp only [List.find?_cons, ih]
theorem find_set_same {l : List Ty.Attr} {n w : Str} : (setA l n w).find? (fun a => a.name == n) = some ⟨n, w⟩ := by
  induction l with
  | nil => simp [setA]
  | cons a r ih =>
    simp only [setA]
    split
    · rename_i e; subst e; simp
    · rename_i e
      simp only [List.find?_cons, ih]
      have : (a.name == n) = false := by simpa using e
      rw [this]
theorem find_filter_other {l : List Ty.Attr} {n v : Str} (h : ¬ n = v) : (l.filter (fun a => !(a.name == n))).find? (fun a => a.name == v) = l.find? (fun a => a.name == v) := by
  induction l with
  | nil => rfl
  | cons a r ih =>
    by_cases e : a.name = n
    · have e1 : (!(a.name == n)) = false := by simp [e]
      have e2 : (a.name == v) = false := by subst e; simpa using h
      rw [List.filter_cons, e1]
      simp only [Bool.false_eq_true, if_false, List.find?_cons, e2, ih]
    · have e1 : (!(a.name == n)) = true := by simpa using e
      rw [List.filter_cons, e1]
      simp only [if_true, List.find?_cons, ih]

theorem getA_set_other {l : List Ty.Attr} {n v w : Str} (h : ¬ n = v) : getA (setA l n w) v = getA l v := by unfold getA; rw [find_set_other h]
theorem getA_set_same {l : List Ty.Attr} {n w : Str} : getA (setA l n w) n = (w, true) := by unfold getA; rw [find_set_same]
theorem getA_filter_other {l : List Ty.Attr} {n v : Str} (h : ¬ n = v) : getA (l.filter (fun a => !(a.name == n))) v = getA l v := by unfold getA; rw [find_filter_other h]
/- words -/
theorem words_app : ∀ (s r acc : Str), wordsGo (s ++ 32 :: r) acc = wordsGo s acc ++ wordsGo r []
  | [], r, acc => by
    have hb : blankB 32 = true := by rfl
    have e : wordsGo (32 :: r) acc = if acc = [] then wordsGo r [] else acc :: wordsGo r [] := by
      simp only [wordsGo]; rw [if_pos hb]
    show wordsGo (32 :: r) acc = _
    rw [e]
    by_cases h : acc = []
    · rw [if_pos h]; simp [wordsGo, h]
    · rw [if_neg h]; simp [wordsGo, h]
  | c :: s, r, acc => by
    show wordsGo (c :: (s ++ 32 :: r)) acc = _
    rw [wordsGo, wordsGo]
    split
    · split
      · exact words_app s r []
      · rw [words_app s r []]; rfl
    · exact words_app s r _
theorem words_one {v : Str} (h1 : v ≠ []) (h2 : v.any blankB = false) : wordsB v = [v] := (words_self v).2 ⟨h1, h2⟩
theorem words_snoc {o v : Str} (h1 : v ≠ []) (h2 : v.any blankB = false) : wordsB (o ++ [32] ++ v) = wordsB o ++ [v] := by
  unfold wordsB
  rw [List.append_assoc]
  show wordsGo (o ++ 32 :: v) [] = _
  rw [words_app]
  congr 1
  exact words_one h1 h2
def clean (l : List Str) : Prop := ∀ w ∈ l, w ≠ [] ∧ w.any blankB = false
theorem words_cl (s : Str) : clean (wordsB s) := fun w hw => by
  have := words_clean s [] (by simp) w hw
  exact ⟨this.1, by rw [List.any_eq_false]; intro c hc; simp [this.2 c hc]⟩
theorem without_words (s : Str) : ∀ (l : List Str) (out : Str) (done : List Str), clean l → wordsB out = done → wordsB (l.foldl (withF s) out) = done ++ l.filter fun x => !(x == s)
  | [], out, done, _, h => by simpa using h
  | x :: r, out, done, hc, h => by
    have hx := hc x (by simp)
    have hr : clean r := fun w hw => hc w (by simp [hw])
    simp only [List.foldl_cons]
    by_cases e : x = s
    · have : (!(x == s)) = false := by simp [e]
      rw [List.filter_cons, this]
      simp only [Bool.false_eq_true, if_false]
      exact without_words s r _ done hr (by rw [withF, if_pos e]; exact h)
    · have : (!(x == s)) = true := by simpa using e
      rw [List.filter_cons, this]
      simp only [if_true]
      rw [without_words s r _ (done ++ [x]) hr ?_]
      · simp
      · rw [withF, if_neg e]
        split
        · rename_i e0
          subst e0
          have : done = [] := by rw [← h]; rfl
          subst this
          exact words_one hx.1 hx.2
        · rw [words_snoc hx.1 hx.2, h]
theorem words_without (o s : Str) : wordsB (withoutB (wordsB o) s) = (wordsB o).filter fun x => !(x == s) := by
  have := without_words s (wordsB o) [] [] (words_cl o) rfl
  unfold withoutB
  simpa using this

/- what is the same -/
def strip (x : Ty.Node) : Ty.Node := if x.name = [] then x else withA x []
def SameBut (p q : Page) : Prop := p.map strip = q.map strip
theorem strip_eq {x y : Ty.Node} (h : strip x = strip y) : x.name = y.name ∧ x.text = y.text ∧ x.up = y.up ∧ x.kids = y.kids ∧ (x.name = [] → x = y) := by
  unfold strip withA at h
  split at h
  · split at h
    · subst h; exact ⟨rfl, rfl, rfl, rfl, fun _ => rfl⟩
    · rename_i e1 e2
      rw [h] at e1
      exact (e2 e1).elim
  · split at h
    · rename_i e1 e2
      rw [← h] at e2
      exact (e1 e2).elim
    · rename_i e1 e2
      simp only [Ty.Node.mk.injEq] at h
      exact ⟨h.1, h.2.2.1, h.2.2.2.1, h.2.2.2.2, fun e => (e1 e).elim⟩
theorem SameBut.len {p q : Page} (h : SameBut p q) : p.length = q.length := by
  have := congrArg List.length h; simpa using this
theorem SameBut.symm {p q : Page} (h : SameBut p q) : SameBut q p := Eq.symm h
theorem SameBut.trans {p q r : Page} (h : SameBut p q) (h' : SameBut q r) : SameBut p r := Eq.trans h h'
theorem SameBut.get {p q : Page} (h : SameBut p q) {i : Nat} {x : Ty.Node} (hx : p[i]? = some x) : ∃ y, q[i]? = some y ∧ strip x = strip y := by
  have := congrArg (fun l => l[i]?) h
  simp only [List.getElem?_map, hx, Option.map_some] at this
  cases hy : q[i]? with
  | none => rw [hy] at this; simp at this
  | some y => rw [hy] at this; simp at this; exact ⟨y, rfl, this⟩
theorem SameBut.no {p q : Page} (h : SameBut p q) {i : Nat} (hx : p[i]? = none) : q[i]? = none := by
  rw [List.getElem?_eq_none_iff] at hx ⊢; have := h.len; omega
theorem SameBut.node {p q : Page} (h : SameBut p q) {n : Int} : (nodeAt p n = none ∧ nodeAt q n = none) ∨ ∃ x y, nodeAt p n = some x ∧ nodeAt q n = some y ∧ strip x = strip y := by
  unfold nodeAt
  split
  · cases hx : p[n.toNat]? with
    | none => exact .inl ⟨rfl, h.no hx⟩
    | some x => obtain ⟨y, hy, e⟩ := h.get hx; exact .inr ⟨x, y, rfl, hy, e⟩
  · exact .inl ⟨rfl, rfl⟩
theorem SameBut.elem {p q : Page} (h : SameBut p q) : elemB p = elemB q := by
  funext n
  unfold elemB
  rcases h.node (n := n) with ⟨a, b⟩ | ⟨x, y, a, b, e⟩
  · rw [a, b]
  · rw [a, b]; simp only; rw [(strip_eq e).1]
theorem SameBut.kin {p q : Page} (h : SameBut p q) (n : Int) : kinB p n = kinB q n := by
  unfold kinB
  rcases h.node (n := n) with ⟨a, b⟩ | ⟨x, y, a, b, e⟩
  · rw [a, b]
  · obtain ⟨e1, e2, e3, e4, _⟩ := strip_eq e
    rw [a, b]; simp only
    rw [e1, e3, h.elem]
    split
    · rfl
    · rcases h.node (n := y.up) with ⟨a', b'⟩ | ⟨x', y', a', b', e'⟩
      · rw [a', b']
      · rw [a', b']; simp only; rw [(strip_eq e').2.2.2.1]
theorem SameBut.upOf {p q : Page} (h : SameBut p q) (k : Nat) : W14.upOf p k = W14.upOf q k := by
  unfold W14.upOf
  cases hx : p[k]? with
  | none => rw [h.no hx]
  | some x => obtain ⟨y, hy, e⟩ := h.get hx; rw [hy]; exact (strip_eq e).2.2.1
theorem SameBut.kidsOf {p q : Page} (h : SameBut p q) (m n : Nat) : W14.kidsOf p m n = W14.kidsOf q m n := by
  unfold W14.kidsOf
  have : W14.upOf p = W14.upOf q := funext h.upOf
  rw [this]
theorem SameBut.tree' {p q : Page} (h : SameBut p q) (t : TreeP p) : TreeP q := by
  refine ⟨?_, fun y hy => ?_, fun j y hj hy => ?_, fun j y hy => ?_⟩
  · intro e; subst e; have := h.len; have := t.ne; cases p with
    | nil => exact this rfl
    | cons a r => simp at *
  · obtain ⟨x, hx, e⟩ := h.symm.get hy
    have hr := t.root x hx
    obtain ⟨e1, e2, e3, e4, e5⟩ := strip_eq e
    have : y = x := e5 (by rw [e1]; exact hr.2.1)
    subst this; exact hr
  · obtain ⟨x, hx, e⟩ := h.symm.get hy
    have := t.up j x hj hx
    rw [(strip_eq e).2.2.1]; exact this
  · obtain ⟨x, hx, e⟩ := h.symm.get hy
    rw [(strip_eq e).2.2.2.1, t.kids j x hx, h.kidsOf, h.len]
theorem SameBut.tree {p q : Page} (h : SameBut p q) : treeB p = treeB q := by
  rw [Bool.eq_iff_iff, treeB_iff, treeB_iff]
  exact ⟨h.tree', h.symm.tree'⟩
theorem SameBut.aboveF {p q : Page} (h : SameBut p q) : ∀ (f : Nat) (n : Int), W14.aboveF p f n = W14.aboveF q f n
  | 0, n => rfl
  | f + 1, n => by
    simp only [W14.aboveF]
    rcases h.node (n := n) with ⟨a, b⟩ | ⟨x, y, a, b, e⟩
    · rw [a, b]
    · rw [a, b]; simp only; rw [(strip_eq e).2.2.1, h.aboveF f]
theorem SameBut.related {p q : Page} (h : SameBut p q) (n c : Int) : relatedB p n c = relatedB q n c := by
  unfold relatedB aheadB aboveB
  rw [h.kin, h.aboveF]

/-- behind turns that may be -/
structure Turned (s : Safe) (p q : Page) : Prop where
  same : SameBut p q
  attr : ∀ (n : Int) (v : Str), attrS s v = false → attrB q n v = attrB p n v
  cls : ∀ (n : Int) (v : Str), classS s v = false → ((classesB q n).any fun x => v == x) = (classesB p n).any fun x => v == x
theorem Turned.refl (s : Safe) (p : Page) : Turned s p p := ⟨rfl, fun _ _ _ => rfl, fun _ _ _ => rfl⟩
theorem Turned.trans {s : Safe} {p q r : Page} (h : Turned s p q) (h' : Turned s q r) : Turned s p r :=
  ⟨h.same.trans h'.same, fun n v hv => by rw [h'.attr n v hv, h.attr n v hv], fun n v hv => by rw [h'.cls n v hv, h.cls n v hv]⟩
theorem Turned.holds {s : Safe} {p q : Page} (h : Turned s p q) (st st' : List Ty.State) (n : Int) (x : Simple) (hm : mayS s x = false) (h11 : x.kind ≠ 11) (hst : x.kind ≠ 7) : holdsB q st n x = holdsB p st' n x := by
  have hm3 : x.kind = 3 → attrS s sId = false := fun e => by rw [mayS, if_pos e] at hm; exact hm
  have hm4 : x.kind = 4 → classS s x.name = false := fun e => by rw [mayS, if_neg (by omega), if_pos e] at hm; exact hm
  have hm5 : x.kind = 5 ∨ x.kind = 6 → attrS s x.name = false := fun e => by rw [mayS, if_neg (by omega), if_neg (by omega), if_pos e] at hm; exact hm
  clear hm
  obtain ⟨kind, name, value, a, b, l⟩ := x
  simp only [Simple.kind, Simple.name] at h11 hst hm3 hm4 hm5
  unfold holdsB
  by_cases h1 : kind = 1
  · simp only [if_pos h1]
  simp only [if_neg h1]
  have place : placeB q n = placeB p n := by unfold placeB; rw [h.same.kin]
  by_cases h2 : kind = 2
  · simp only [if_pos h2]
    rcases h.same.node (n := n) with ⟨a', b'⟩ | ⟨x, y, a', b', e⟩
    · rw [a', b']
    · rw [a', b']; simp only; rw [(strip_eq e).1]
  simp only [if_neg h2]
  by_cases h3 : kind = 3
  · simp only [if_pos h3]
    have hm := hm3 h3
    have := h.attr n _ hm
    simp only [this]
  simp only [if_neg h3]
  by_cases h4 : kind = 4
  · simp only [if_pos h4]
    exact h.cls n _ (hm4 h4)
  simp only [if_neg h4]
  by_cases h5 : kind = 5
  · simp only [if_pos h5]
    rw [h.attr n _ (hm5 (.inl h5))]
  simp only [if_neg h5]
  by_cases h6 : kind = 6
  · simp only [if_pos h6]
    rw [h.attr n _ (hm5 (.inr h6))]
  simp only [if_neg h6, if_neg hst]
  by_cases h8 : kind = 8
  · simp only [if_pos h8, place]
  simp only [if_neg h8]
  by_cases h9 : kind = 9
  · simp only [if_pos h9, place]
    rcases h.same.node (n := n) with ⟨a', b'⟩ | ⟨x, y, a', b', e⟩
    · rw [a', b']
    · rw [a', b']; simp only; rw [(strip_eq e).2.2.1]
  simp only [if_neg h9]
  by_cases h10 : kind = 10
  · simp only [if_pos h10]
    rcases h.same.node (n := n) with ⟨a', b'⟩ | ⟨x, y, a', b', e⟩
    · rw [a', b']
    · rw [a', b']; simp only; rw [(strip_eq e).2.2.2.1]
  simp only [if_neg h10, if_neg h11]

theorem nodeAt_set {q : Page} {n m : Int} {x y : Ty.Node} (hx : nodeAt q n = some x) : nodeAt (q.set n.toNat y) m = if m = n then some y else nodeAt q m := by
  have hn : 0 ≤ n := by
    unfold nodeAt at hx
    split at hx
    · assumption
    · simp at hx
  unfold nodeAt at hx ⊢
  rw [if_pos hn] at hx
  have hl := getElem_lt hx
  by_cases hm : 0 ≤ m
  · rw [if_pos hm]
    rw [List.getElem?_set]
    by_cases e : m = n
    · subst e; rw [if_pos rfl, if_pos rfl, if_pos hl]
    · rw [if_neg (by omega), if_neg e, if_pos hm]
  · rw [if_neg hm, if_neg (by omega), if_neg hm]
theorem set_same {q : Page} {n : Int} {x : Ty.Node} {l : List Ty.Attr} (hx : nodeAt q n = some x) (hn : ¬ x.name = []) : SameBut q (q.set n.toNat (withA x l)) := by
  unfold nodeAt at hx
  split at hx
  · unfold SameBut
    rw [List.map_set]
    have e : strip (withA x l) = strip x := by simp [strip, withA, hn]
    rw [e]
    symm
    apply List.ext_getElem? 
    intro i
    rw [List.getElem?_set]
    by_cases h : n.toNat = i
    · subst h
      have hl := getElem_lt hx
      rw [if_pos rfl, if_pos (by simpa using hl), List.getElem?_map, hx]; rfl
    · rw [if_neg h]
  · simp at hx
theorem attrB_of {q : Page} {n : Int} {x : Ty.Node} (hx : nodeAt q n = some x) (hn : ¬ x.name = []) (v : Str) : attrB q n v = getA x.attrs v := by
  unfold attrB; rw [hx]; simp only; rw [if_neg hn]; rfl
theorem attrB_set {q : Page} {n m : Int} {x : Ty.Node} {l : List Ty.Attr} (hx : nodeAt q n = some x) (hn : ¬ x.name = []) (v : Str) : attrB (q.set n.toNat (withA x l)) m v = if m = n then getA l v else attrB q m v := by
  by_cases e : m = n
  · subst e
    rw [if_pos rfl, attrB_of (x := withA x l) (by rw [nodeAt_set hx, if_pos rfl]) hn]; rfl
  · rw [if_neg e]
    unfold attrB
    rw [nodeAt_set hx, if_neg e]
theorem any_filter_other {l : List Str} {v s : Str} (h : ¬ v = s) : ((l.filter fun x => !(x == s)).any fun x => v == x) = l.any fun x => v == x := by
  rw [Bool.eq_iff_iff, List.any_eq_true, List.any_eq_true]
  constructor
  · rintro ⟨x, h1, h2⟩; exact ⟨x, (List.mem_filter.1 h1).1, h2⟩
  · rintro ⟨x, h1, h2⟩
    have : v = x := by simpa using h2
    subst this
    exact ⟨v, List.mem_filter.2 ⟨h1, by simpa using h⟩, h2⟩
theorem inB_sym (l : List Str) (v : Str) : inB l v = l.any fun x => v == x := by
  unfold inB; congr 1; funext x; rw [Bool.eq_iff_iff, beq_iff_eq, beq_iff_eq]; exact ⟨Eq.symm, Eq.symm⟩
/-- ONE TURN -/
theorem turned_step {s : Safe} {p : Page} {t : Turn} (hm : mayT s p t = true) : Turned s p (stepT p t) := by
  unfold mayT at hm
  simp only [Bool.and_eq_true, decide_eq_true_eq] at hm
  obtain ⟨he, hne, hk⟩ := hm
  obtain ⟨k, x, ek, hx', hn⟩ := elem_at he
  have hx : nodeAt p t.node = some x := by rw [ek, nodeAt_nat]; exact hx'
  have est : stepT p t = p.set t.node.toNat (withA x (attrsB p t x)) := by unfold stepT; rw [hx]; simp only; rw [if_neg hn]
  rw [est]
  refine ⟨set_same hx hn, fun n v hv => ?_, fun n v hv => ?_⟩
  · rw [attrB_set hx hn]
    split
    · rename_i e
      subst e
      rw [attrB_of hx hn]
      have key : getA (attrsB p t x) v = getA x.attrs v := by
        have cl : (t.kind = 1 ∨ t.kind = 2) → ¬ sClass = v := fun hkk e => by
          rw [if_pos hkk] at hk
          subst e
          unfold attrS at hv
          rw [if_pos rfl, List.any_eq_false] at hv
          simp only [Bool.and_eq_true, Bool.not_eq_true'] at hk
          rw [inB_sym, List.any_eq_true] at hk
          obtain ⟨⟨y, h1, h2⟩, h3⟩ := hk
          have : t.name = y := by simpa using h2
          have h4 := hv y h1
          rw [← this] at h4 h1
          apply h4
          unfold classS
          simp only [hne, ne_eq, not_false_eq_true, decide_true, h3, Bool.not_false, Bool.true_and]
          rw [List.any_eq_true]; exact ⟨t.name, h1, by simp⟩
        have at' : (t.kind = 3 ∨ t.kind = 4) → ¬ t.name = v := fun hkk e => by
          rw [if_neg (by omega), if_pos hkk] at hk
          subst e
          simp only [Bool.and_eq_true, decide_eq_true_eq] at hk
          unfold attrS at hv
          rw [if_neg hk.2] at hv
          rw [inB_sym] at hk
          rw [hk.1] at hv
          simp [hne] at hv
        unfold attrsB
        by_cases k1 : t.kind = 1
        · rw [if_pos k1]
          have := cl (.inl k1)
          repeat' split
          · rfl
          · exact getA_set_other this
          · exact getA_set_other this
        rw [if_neg k1]
        by_cases k2 : t.kind = 2
        · rw [if_pos k2]
          have := cl (.inr k2)
          split
          · exact getA_set_other this
          · rfl
        rw [if_neg k2]
        by_cases k3 : t.kind = 3
        · rw [if_pos k3]; exact getA_set_other (at' (.inl k3))
        rw [if_neg k3]
        by_cases k4 : t.kind = 4
        · rw [if_pos k4]; exact getA_filter_other (at' (.inr k4))
        rw [if_neg k4]
      rw [key]
    · rfl
  · unfold classesB
    rw [attrB_set hx hn]
    split
    · rename_i e
      subst e
      have old := attrB_of hx hn sClass
      have nv : (t.kind = 1 ∨ t.kind = 2) → ¬ v = t.name ∧ t.name.any blankB = false := fun hkk => by
        rw [if_pos hkk] at hk
        simp only [Bool.and_eq_true, Bool.not_eq_true'] at hk
        refine ⟨fun e => ?_, hk.2⟩
        subst e
        unfold classS at hv
        rw [inB_sym] at hk
        rw [hk.1, hk.2] at hv
        simp [hne] at hv
      have at' : (t.kind = 3 ∨ t.kind = 4) → ¬ t.name = sClass := fun hkk => by
        rw [if_neg (by omega), if_pos hkk] at hk
        simp only [Bool.and_eq_true, decide_eq_true_eq] at hk
        exact hk.2
      unfold attrsB
      by_cases k1 : t.kind = 1
      · rw [if_pos k1]
        obtain ⟨n1, n2⟩ := nv (.inl k1)
        split
        · rw [old]
        · split
          · rename_i e0
            rw [getA_set_same, e0]
            simp only
            rw [words_one hne n2]
            have : (v == t.name) = false := by simpa using n1
            simp [this, wordsB, wordsGo]
          · rw [getA_set_same]
            simp only
            rw [words_snoc hne n2, List.any_append]
            have : (v == t.name) = false := by simpa using n1
            simp [this]
      rw [if_neg k1]
      by_cases k2 : t.kind = 2
      · rw [if_pos k2]
        obtain ⟨n1, n2⟩ := nv (.inr k2)
        split
        · rw [getA_set_same]
          simp only
          unfold classesB
          rw [words_without, any_filter_other n1]
        · rw [old]
      rw [if_neg k2]
      by_cases k3 : t.kind = 3
      · rw [if_pos k3, getA_set_other (at' (.inl k3)), old]
      rw [if_neg k3]
      by_cases k4 : t.kind = 4
      · rw [if_pos k4, getA_filter_other (at' (.inr k4)), old]
      rw [if_neg k4, old]
    · rfl
theorem mayT_same {s : Safe} {p q : Page} (h : SameBut p q) (t : Turn) : mayT s p t = mayT s q t := by unfold mayT; rw [h.elem]
/-- ALL TURNS -/
theorem turned_all {s : Safe} : ∀ (l : List Turn) {p : Page}, l.all (mayT s p) = true → Turned s p (doB p l)
  | [], p, _ => Turned.refl s p
  | t :: r, p, h => by
    simp only [List.all_cons, Bool.and_eq_true] at h
    have h1 := turned_step h.1
    refine h1.trans (turned_all r ?_)
    rw [List.all_eq_true] at h ⊢
    intro x hx
    rw [← mayT_same h1.same]; exact h.2 x hx
theorem turned_mS {s : Safe} {p q : Page} (h : Turned s p q) (n : Int) : ∀ (N : Nat) (x : Simple), sizeOf x ≤ N → mS s q n x = mS s p n x := by
  intro N
  induction N with
  | zero => intro x hx; cases x; simp only [Simple.mk.sizeOf_spec] at hx; omega
  | succ N ih =>
    intro x hN
    rw [mS_eq, mS_eq]
    by_cases h11 : x.kind = 11
    · rw [if_pos h11, if_pos h11]
      have e : x.l.map (mS s q n) = x.l.map (mS s p n) := List.map_congr_left fun y hy => ih y (by have := simple_lt hy; omega)
      rw [e]
    · rw [if_neg h11, if_neg h11]
      by_cases hm : mayS s x = true
      · rw [if_pos hm, if_pos hm]
      · have h7 : x.kind ≠ 7 := fun e => hm (by unfold mayS; simp [e])
        rw [if_neg hm, if_neg hm, h.holds [] [] n x (by simpa using hm) h11 h7]
theorem turned_mFit {s : Safe} {p q : Page} (h : Turned s p q) (parts : List Part) : ∀ (k : Nat) (n : Int), mFit s q parts k n = mFit s p parts k n
  | 0, n => by
    simp only [mFit]
    rw [h.same.elem]
    have e : ∀ l : List Simple, l.map (mS s q n) = l.map (mS s p n) := fun l => List.map_congr_left fun y _ => turned_mS h n _ y (Nat.le_refl _)
    simp only [e]
  | k + 1, n => by
    simp only [mFit]
    rw [h.same.elem]
    have e : ∀ l : List Simple, l.map (mS s q n) = l.map (mS s p n) := fun l => List.map_congr_left fun y _ => turned_mS h n _ y (Nat.le_refl _)
    have e2 : ∀ l : List Int, l.map (mFit s q parts k) = l.map (mFit s p parts k) := fun l => List.map_congr_left fun y _ => turned_mFit h parts k y
    simp only [e, e2, h.same.related]
theorem turned_of {s : Safe} {p q : Page} (h : Turned s p q) (parts : List Part) (n : Int) : ofS s q n parts = ofS s p n parts := by
  unfold ofS; rw [h.same.tree, h.same.elem, turned_mFit h]
theorem turned_any {s : Safe} {p q : Page} (h : Turned s p q) (parts : List Part) : anyS s q parts = anyS s p parts := by
  unfold anyS rowM
  rw [h.same.tree, h.same.len]
  have : (fun n : Nat => mFit s q parts (parts.length - 1) n) = fun n : Nat => mFit s p parts (parts.length - 1) n := funext fun n => turned_mFit h parts _ n
  rw [this]

/-- what is known is so: of simple selectors -/
theorem sound_mS {s : Safe} {p q : Page} (h : Turned s p q) (st : List Ty.State) (n : Int) : ∀ (N : Nat) (x : Simple), sizeOf x ≤ N → (mS s p n x = 2 → holdsB q st n x = true) ∧ (mS s p n x = 0 → holdsB q st n x = false) := by
  intro N
  induction N with
  | zero => intro x hx; cases x; simp only [Simple.mk.sizeOf_spec] at hx; omega
  | succ N ih =>
    intro x hN
    rw [mS_eq]
    by_cases h11 : x.kind = 11
    · rw [if_pos h11, holds11 q st n x h11]
      have hb := kOr_bd (x.l.map (mS s p n))
      have hc : kNot (kOr (x.l.map (mS s p n))) = 2 - kOr (x.l.map (mS s p n)) := by unfold kNot; rw [clip_id hb]
      rw [hc]
      constructor
      · intro e
        rw [Bool.not_eq_true', List.any_eq_false]
        intro y hy
        have h0 := le_kOr (List.mem_map.2 ⟨y, hy, rfl⟩ : mS s p n y ∈ x.l.map (mS s p n))
        rw [clip_id (mS_bd s p n y)] at h0
        have := mS_bd s p n y
        rw [(ih y (by have := simple_lt hy; omega)).2 (by omega)]; simp
      · intro e
        rw [Bool.not_eq_false', List.any_eq_true]
        apply Classical.byContradiction
        intro hno
        have : kOr (x.l.map (mS s p n)) ≤ 1 := kOr_le (by omega) fun z hz => by
          obtain ⟨y, hy, rfl⟩ := List.mem_map.1 hz
          have hby := mS_bd s p n y
          rw [clip_id hby]
          apply Classical.byContradiction
          intro hgt
          exact hno ⟨y, hy, (ih y (by have := simple_lt hy; omega)).1 (by omega)⟩
        omega
    · rw [if_neg h11]
      by_cases hm : mayS s x = true
      · rw [if_pos hm]; exact ⟨fun e => by omega, fun e => by omega⟩
      · have h7 : x.kind ≠ 7 := fun e => hm (by unfold mayS; simp [e])
        rw [if_neg hm, h.holds st [] n x (by simpa using hm) h11 h7]
        cases holdsB p [] n x <;> simp
theorem all_of_kAnd {s : Safe} {p q : Page} (h : Turned s p q) (st : List Ty.State) (n : Int) (l : List Simple) : (kAnd (l.map (mS s p n)) = 2 → l.all (holdsB q st n) = true) ∧ (kAnd (l.map (mS s p n)) = 0 → l.all (holdsB q st n) = false) := by
  constructor
  · intro e
    rw [List.all_eq_true]
    intro y hy
    have h0 := kAnd_le (List.mem_map.2 ⟨y, hy, rfl⟩ : mS s p n y ∈ l.map (mS s p n))
    rw [clip_id (mS_bd s p n y)] at h0
    have := mS_bd s p n y
    exact (sound_mS h st n _ y (Nat.le_refl _)).1 (by omega)
  · intro e
    apply Classical.byContradiction
    intro hno
    have hall : l.all (holdsB q st n) = true := by simpa using hno
    rw [List.all_eq_true] at hall
    have : 1 ≤ kAnd (l.map (mS s p n)) := le_kAnd (by omega) fun z hz => by
      obtain ⟨y, hy, rfl⟩ := List.mem_map.1 hz
      have hby := mS_bd s p n y
      rw [clip_id hby]
      apply Classical.byContradiction
      intro hlt
      have := (sound_mS h st n _ y (Nat.le_refl _)).2 (by omega)
      rw [hall y hy] at this; simp at this
    omega
theorem any_of_kOr {f : Int → Int} {g : Int → Bool} (hb : ∀ x, 0 ≤ f x ∧ f x ≤ 2) (h1 : ∀ x, f x = 2 → g x = true) (h0 : ∀ x, f x = 0 → g x = false) (l : List Int) : (kOr (l.map f) = 2 → l.any g = true) ∧ (kOr (l.map f) = 0 → l.any g = false) := by
  constructor
  · intro e
    apply Classical.byContradiction
    intro hno
    rw [Bool.not_eq_true, List.any_eq_false] at hno
    have : kOr (l.map f) ≤ 1 := kOr_le (by omega) fun z hz => by
      obtain ⟨y, hy, rfl⟩ := List.mem_map.1 hz
      have hby := hb y
      rw [clip_id hby]
      apply Classical.byContradiction
      intro hgt
      exact hno y hy (h1 y (by omega))
    omega
  · intro e
    rw [List.any_eq_false]
    intro y hy
    have h2 := le_kOr (List.mem_map.2 ⟨y, hy, rfl⟩ : f y ∈ l.map f)
    rw [clip_id (hb y)] at h2
    have := hb y
    rw [h0 y (by omega)]; simp
/-- WHAT IS KNOWN IS SO -/
theorem sound_mFit {s : Safe} {p q : Page} (h : Turned s p q) (st : List Ty.State) (parts : List Part) : ∀ (k : Nat) (n : Int), (mFit s p parts k n = 2 → fitsB q st parts k n = true) ∧ (mFit s p parts k n = 0 → fitsB q st parts k n = false)
  | 0, n => by
    rcases hq : parts[0]? with _ | x
    · have e1 : mFit s p parts 0 n = 0 := by simp [mFit, hq]
      have e2 : fitsB q st parts 0 n = false := by simp [fitsB, hq]
      rw [e1, e2]; simp
    · rw [mFit_step s p parts 0 n x hq, fitsB_step q st parts 0 n x hq, h.same.elem, mRest, restB, kmin_two (kAnd_bd _).2]
      obtain ⟨a1, a0⟩ := all_of_kAnd h st n x.l
      cases elemB q n
      · simp
      · rw [if_pos rfl, Bool.true_and, Bool.and_true]; exact ⟨a1, a0⟩
  | k + 1, n => by
    rcases hq : parts[k + 1]? with _ | x
    · have e1 : mFit s p parts (k + 1) n = 0 := by simp [mFit, hq]
      have e2 : fitsB q st parts (k + 1) n = false := by simp [fitsB, hq]
      rw [e1, e2]; simp
    · rw [mFit_step s p parts (k + 1) n x hq, fitsB_step q st parts (k + 1) n x hq, h.same.elem, mRest, restB]
      obtain ⟨a1, a0⟩ := all_of_kAnd h st n x.l
      obtain ⟨o1, o0⟩ := any_of_kOr (fun y => mFit_bd s p parts k y) (fun y => (sound_mFit h st parts k y).1) (fun y => (sound_mFit h st parts k y).2) (relatedB p n x.comb)
      rw [← h.same.related]
      have ba := kAnd_bd (x.l.map (mS s p n))
      have bo := kOr_bd ((relatedB p n x.comb).map (mFit s p parts k))
      cases elemB q n
      · simp
      · rw [if_pos rfl, Bool.true_and]
        constructor
        · intro e
          have : kAnd (x.l.map (mS s p n)) = 2 ∧ kOr ((relatedB p n x.comb).map (mFit s p parts k)) = 2 := by
            unfold kmin at e; split at e <;> omega
          rw [a1 this.1, o1 this.2]; rfl
        · intro e
          have : kAnd (x.l.map (mS s p n)) = 0 ∨ kOr ((relatedB p n x.comb).map (mFit s p parts k)) = 0 := by
            unfold kmin at e; split at e <;> omega
          rcases this with h' | h'
          · rw [a0 h']; rfl
          · rw [o0 h']; simp
end W14
/- Turns: the document's guards; lists of attributes. -/
set_option linter.unusedSimpArgs false
set_option linter.unusedVariables false
namespace W14
open Go Go.AX Go.AX.Ty Go.Proofs

theorem w_rBlankS (s : Str) (hl : s.length ≤ 140737488355328) : PureF Tryz.prog 68 [.str s] (.bool (s.any blankB)) := by
  refine pureF_W mix c68 (by kernel_rfl) (by kernel_rfl) (by simp [flats, flat_av, Go.AX.flat]) (by first | exact flat_av _ | simp [flat, flats, flat_av]) ?_
  simp -implicitDefEqProofs only [F68, go_sem]
  refine LoopI_sl (fun k : Nat => s.length - k) (fun k => [(0, .str s), (3, .int .i64 k)]) (fun k st => k ≤ s.length ∧ Pre blankB s k) 0 ?_ ?_
  · simp -implicitDefEqProofs only [go_sem, reduceCtorEq, ↓reduceIte]
    exact Pre.zero _ _
  rintro k ρ ⟨g, m⟩ ⟨h1, h2⟩
  rcases Nat.lt_or_ge k s.length with hk | hk
  · obtain ⟨x, hx, hd, hm⟩ := get_drop hk
    have hlt : ((k : Int) < (s.length : Int)) = True := eq_true (by omega)
    have w1 : IntKind.i64.wrap ((k : Int) + 1) = ((k + 1 : Nat) : Int) := by rw [wrap64 (by omega) (by omega)]; omega
    simp -implicitDefEqProofs only [hlt, hx, w1, go_sem, Nat.reduceEqDiff, reduceCtorEq, ↓reduceIte]
    refine callI_pure (w_Blank x) ?_
    cases hb : blankB x
    · simp -implicitDefEqProofs only [w1, go_sem, Nat.reduceEqDiff, reduceCtorEq, ↓reduceIte]
      exact ⟨k + 1, by omega, rfl, by omega, h2.next hx hb⟩
    · simp -implicitDefEqProofs only [go_sem, ↓reduceIte]
      rw [any_here hm hb]
  · have hlt : ((k : Int) < (s.length : Int)) = False := eq_false (by omega)
    simp -implicitDefEqProofs only [hlt, go_sem, Nat.reduceEqDiff, reduceCtorEq, ↓reduceIte]
    rw [any_no (h2.all hk)]
theorem w_rMay (s : Safe) (hs : Enc.ok s) (p : Page) (t : Turn) (ht : Enc.ok t) : PureF Tryz.prog 42 [Enc.av s, Enc.av p, Enc.av t] (.bool (mayT s p t)) := by
  refine pureF_W mix c42 (by kernel_rfl) (by kernel_rfl) (by simp [flats, flat_av, Go.AX.flat]) (by first | exact flat_av _ | simp [flat, flats, flat_av]) ?_
  have hs' := (Safe.ok_iff s).1 hs
  have ht' := (Turn.ok_iff t).1 ht
  have i1 := w_In t.name s.classes hs'.1.1
  have i2 := w_In t.name s.attrs hs'.2.1
  have hb := w_rBlankS t.name ht'.2.2.1
  unfold mayT inB
  simp -implicitDefEqProofs only [F42, go_sem, Nat.reduceAdd, Nat.reduceEqDiff, Nat.reduceLeDiff, ↓reduceIte]
  refine callI_pure (w_rElement p t.node) ?_
  cases he : elemB p t.node
  · simp -implicitDefEqProofs only [go_sem, Nat.reduceEqDiff, reduceCtorEq, ↓reduceIte]
    rfl
  by_cases h0 : t.name = []
  · simp -implicitDefEqProofs only [h0, go_sem, Nat.reduceAdd, Nat.reduceEqDiff, Nat.reduceLeDiff, reduceCtorEq, ↓reduceIte]
    try simp [h0]
  have n0 : (t.name = []) = False := eq_false h0
  by_cases k1 : t.kind = 1
  · have f1 : (t.kind = 1) = True := eq_true k1
    simp -implicitDefEqProofs only [n0, f1, go_sem, Nat.reduceAdd, Nat.reduceEqDiff, Nat.reduceLeDiff, reduceCtorEq, ↓reduceIte]
    refine callI_pure i1 ?_
    cases hc : s.classes.any fun x => x == t.name
    · simp -implicitDefEqProofs only [go_sem, Nat.reduceEqDiff, ↓reduceIte]
      simp [n0, k1]
    · simp -implicitDefEqProofs only [go_sem, Nat.reduceAdd, Nat.reduceEqDiff, Nat.reduceLeDiff, ↓reduceIte]
      refine callI_pure hb ?_
      simp -implicitDefEqProofs only [go_sem, Nat.reduceEqDiff, ↓reduceIte]
      simp [n0, k1]
  have f1 : (t.kind = 1) = False := eq_false k1
  by_cases k2 : t.kind = 2
  · have f2 : (t.kind = 2) = True := eq_true k2
    simp -implicitDefEqProofs only [n0, f1, f2, go_sem, Nat.reduceAdd, Nat.reduceEqDiff, Nat.reduceLeDiff, reduceCtorEq, ↓reduceIte]
    refine callI_pure i1 ?_
    cases hc : s.classes.any fun x => x == t.name
    · simp -implicitDefEqProofs only [go_sem, Nat.reduceEqDiff, ↓reduceIte]
      simp [n0, k2]
    · simp -implicitDefEqProofs only [go_sem, Nat.reduceAdd, Nat.reduceEqDiff, Nat.reduceLeDiff, ↓reduceIte]
      refine callI_pure hb ?_
      simp -implicitDefEqProofs only [go_sem, Nat.reduceEqDiff, ↓reduceIte]
      simp [n0, k2]
  have f2 : (t.kind = 2) = False := eq_false k2
  by_cases k3 : t.kind = 3
  · have f3 : (t.kind = 3) = True := eq_true k3
    simp -implicitDefEqProofs only [n0, f1, f2, f3, go_sem, Nat.reduceAdd, Nat.reduceEqDiff, Nat.reduceLeDiff, reduceCtorEq, ↓reduceIte]
    refine callI_pure i2 ?_
    cases hc : s.attrs.any fun x => x == t.name
    · simp -implicitDefEqProofs only [go_sem, Nat.reduceEqDiff, ↓reduceIte]
      (simp [n0, k3]; try (rw [Bool.eq_iff_iff]; simp))
    · simp -implicitDefEqProofs only [go_sem, Nat.reduceAdd, Nat.reduceEqDiff, Nat.reduceLeDiff, ↓reduceIte]
      (simp [n0, k3]; try (rw [Bool.eq_iff_iff]; simp))
  have f3 : (t.kind = 3) = False := eq_false k3
  by_cases k4 : t.kind = 4
  · have f4 : (t.kind = 4) = True := eq_true k4
    simp -implicitDefEqProofs only [n0, f1, f2, f3, f4, go_sem, Nat.reduceAdd, Nat.reduceEqDiff, Nat.reduceLeDiff, reduceCtorEq, ↓reduceIte]
    refine callI_pure i2 ?_
    cases hc : s.attrs.any fun x => x == t.name
    · simp -implicitDefEqProofs only [go_sem, Nat.reduceEqDiff, ↓reduceIte]
      (simp [n0, k4]; try (rw [Bool.eq_iff_iff]; simp))
    · simp -implicitDefEqProofs only [go_sem, Nat.reduceAdd, Nat.reduceEqDiff, Nat.reduceLeDiff, ↓reduceIte]
      (simp [n0, k4]; try (rw [Bool.eq_iff_iff]; simp))
  have f4 : (t.kind = 4) = False := eq_false k4
  simp -implicitDefEqProofs only [n0, f1, f2, f3, f4, go_sem, Nat.reduceAdd, Nat.reduceEqDiff, Nat.reduceLeDiff, ↓reduceIte]
  try simp [n0, k1, k2, k3, k4]
def badT (t : Turn) : Bool := decide ((t.name.length : Int) > 100) || decide ((t.value.length : Int) > 100)
def smallT (l : List Turn) : Bool := decide (l.length ≤ 20) && !l.any badT
theorem w_rSmallT (l : List Turn) (hl : Enc.ok l) : PureF Tryz.prog 18 [Enc.av l] (.bool (smallT l)) := by
  refine pureF_W mix c18 (by kernel_rfl) (by kernel_rfl) (by simp [flats, flat_av, Go.AX.flat]) (by first | exact flat_av _ | simp [flat, flats, flat_av]) ?_
  unfold smallT
  have hll := hl.1
  by_cases hbig : l.length ≤ 20
  case neg =>
    have h0 : ((0 : Int) < (l.length : Int)) = True := eq_true (by omega)
    have hb : ((l.length : Int) ≤ 20) = False := eq_false (by omega)
    simp -implicitDefEqProofs only [F18, go_sem]
    rw [LoopI_def]
    refine ⟨1, ?_⟩
    simp -implicitDefEqProofs only [hb, h0, go_sem, Nat.reduceEqDiff, reduceCtorEq, ↓reduceIte]
    simp [hbig]
  have hb : ((l.length : Int) ≤ 20) = True := eq_true (by omega)
  simp -implicitDefEqProofs only [F18, go_sem]
  refine LoopI_sl (fun k : Nat => l.length - k) (fun k => [(0, Enc.av l), (3, .int .i64 k)]) (fun k st => k ≤ l.length ∧ Pre badT l k) 0 ?_ ?_
  · simp -implicitDefEqProofs only [go_sem, reduceCtorEq, ↓reduceIte]
    exact Pre.zero _ _
  rintro k ρ ⟨g, m⟩ ⟨h1, h2⟩
  rcases Nat.lt_or_ge k l.length with hk | hk
  · obtain ⟨x, hx, hd, hm⟩ := get_drop hk
    have hlt : ((k : Int) < (l.length : Int)) = True := eq_true (by omega)
    have w1 : IntKind.i64.wrap ((k : Int) + 1) = ((k + 1 : Nat) : Int) := by rw [wrap64 (by omega) (by omega)]; omega
    by_cases b1 : (x.name.length : Int) > 100
    · have f1 : ((x.name.length : Int) > 100) = True := eq_true b1
      have hbd : badT x = true := by simp [badT, b1]
      simp -implicitDefEqProofs only [hlt, hb, hx, w1, f1, go_sem, Nat.reduceEqDiff, reduceCtorEq, ↓reduceIte]
      rw [any_here hm hbd]; simp
    have f1 : ((x.name.length : Int) > 100) = False := eq_false b1
    by_cases b2 : (x.value.length : Int) > 100
    · have f2 : ((x.value.length : Int) > 100) = True := eq_true b2
      have hbd : badT x = true := by simp [badT, b2]
      simp -implicitDefEqProofs only [hlt, hb, hx, w1, f1, f2, go_sem, Nat.reduceEqDiff, reduceCtorEq, ↓reduceIte]
      rw [any_here hm hbd]; simp
    have f2 : ((x.value.length : Int) > 100) = False := eq_false b2
    have hbd : badT x = false := by simp only [badT, f1, f2, decide_false, Bool.or_self]
    simp -implicitDefEqProofs only [hlt, hb, hx, w1, f1, f2, go_sem, Nat.reduceEqDiff, reduceCtorEq, ↓reduceIte]
    exact ⟨k + 1, by omega, rfl, by omega, h2.next hx hbd⟩
  · have hlt : ((k : Int) < (l.length : Int)) = False := eq_false (by omega)
    simp -implicitDefEqProofs only [hlt, hb, go_sem, Nat.reduceEqDiff, reduceCtorEq, ↓reduceIte]
    try (rw [any_no (h2.all hk)]; try simp [hbig])
theorem w_rWithout (l : List Str) (s : Str) (hl : l.length ≤ 10000000) (hb : ∀ k, (((l.take k).foldl (withF s) [])).length ≤ 10000000) (hx : ∀ x ∈ l, x.length ≤ 10000000) : PureF Tryz.prog 103 [Enc.av l, .str s] (.str (withoutB l s)) := by
  refine pureF_W mix c103 (by kernel_rfl) (by kernel_rfl) (by simp [flats, flat_av, Go.AX.flat]) (by first | exact flat_av _ | simp [flat, flats, flat_av]) ?_
  simp -implicitDefEqProofs only [F103, go_sem]
  refine LoopI_sl (fun k : Nat => l.length - k) (fun k => [(0, Enc.av l), (1, .str s), (5, .str ((l.take k).foldl (withF s) [])), (6, .int .i64 k)]) (fun k st => k ≤ l.length) 0 ?_ ?_
  · simp -implicitDefEqProofs only [go_sem, Nat.reduceEqDiff, reduceCtorEq, ↓reduceIte]
    try rfl
  rintro k ρ ⟨g, m⟩ h1
  have hbk := hb k
  rcases Nat.lt_or_ge k l.length with hk | hk
  · obtain ⟨x, hx', hd, hm⟩ := get_drop hk
    have hlt : ((k : Int) < (l.length : Int)) = True := eq_true (by omega)
    have w1 : IntKind.i64.wrap ((k : Int) + 1) = ((k + 1 : Nat) : Int) := by rw [wrap64 (by omega) (by omega)]; omega
    have hsn : (l.take (k + 1)).foldl (withF s) [] = withF s ((l.take k).foldl (withF s) []) x := by rw [take_snoc hx', List.foldl_append]; rfl
    have hxl := hx x hm
    generalize (l.take k).foldl (withF s) [] = out at hbk hsn
    have c1 : (out.length + 1 ≤ 9223372036854775807) = True := eq_true (by omega)
    have c2 : (out.length + 1 + x.length ≤ 9223372036854775807) = True := eq_true (by omega)
    have c3 : (out.length + x.length ≤ 9223372036854775807) = True := eq_true (by omega)
    by_cases e : x = s
    · have f : (x = s) = True := eq_true e
      simp -implicitDefEqProofs only [hlt, hx', w1, f, go_sem, Nat.reduceEqDiff, reduceCtorEq, ↓reduceIte]
      exact ⟨k + 1, by omega, ⟨by rw [hsn, withF, if_pos e], rfl⟩, by omega⟩
    · have f : (x = s) = False := eq_false e
      by_cases eo : out = []
      · subst eo
        have c4 : (x.length ≤ 9223372036854775807) = True := eq_true (by omega)
        simp -implicitDefEqProofs only [hlt, hx', w1, f, c4, go_sem, Nat.reduceEqDiff, reduceCtorEq, ↓reduceIte]
        exact ⟨k + 1, by omega, ⟨by rw [hsn, withF, if_neg e, if_pos rfl], rfl⟩, by omega⟩
      · have fo : (out = []) = False := eq_false eo
        simp -implicitDefEqProofs only [hlt, hx', w1, f, fo, c1, c2, c3, List.length_append, go_sem, Nat.reduceEqDiff, reduceCtorEq, ↓reduceIte]
        exact ⟨k + 1, by omega, ⟨by rw [hsn, withF, if_neg e, if_neg eo], rfl⟩, by omega⟩
  · have hlt : ((k : Int) < (l.length : Int)) = False := eq_false (by omega)
    simp -implicitDefEqProofs only [hlt, go_sem, Nat.reduceEqDiff, reduceCtorEq, ↓reduceIte]
    rw [List.take_of_length_le (by omega)]; rfl
end W14
/- Turns: the document's; a list of attributes, of which one has a value. -/
set_option linter.unusedSimpArgs false
set_option linter.unusedVariables false
namespace W14
open Go Go.AX Go.AX.Ty Go.Proofs

theorem attrs_len (l : List Ty.Attr) : (cellsL l).length = l.length * 2 := Attr.clen l
theorem setA_app : ∀ {l : List Ty.Attr} {n v : Str}, (∀ a ∈ l, ¬ a.name = n) → setA l n v = l ++ [⟨n, v⟩]
  | [], n, v, _ => rfl
  | a :: r, n, v, h => by
    simp only [setA]
    rw [if_neg (h a (by simp)), setA_app fun b hb => h b (by simp [hb])]; rfl
theorem w_rSet (l : List Ty.Attr) (n v : Str) (hl : l.length ≤ 1000000) : PureF Tryz.prog 102 [Enc.av l, .str n, .str v] (Enc.av (setA l n v)) := by
  refine pureF_W mix c102 (by kernel_rfl) (by kernel_rfl) (by simp [flats, flat_av, Go.AX.flat]) (by first | exact flat_av _ | simp [flat, flats, flat_av]) ?_
  simp -implicitDefEqProofs only [F102, go_sem, ↓reduceIte]
  refine LoopI_sl (fun q : Nat × Bool × List Ty.Attr => l.length - q.1) (fun q => [(0, Enc.av l), (1, .str n), (2, .str v), (7, .sl 0 (q.1 * 2) 0 q.1 2), (8, .bool q.2.1), (9, .int .i64 q.1)])
    (fun q st => q.1 ≤ l.length ∧ 1 ≤ st.next ∧ q.2.2.length = q.1 ∧ AX.look 0 st.heap = some (.cells (q.1 * 2) (cellsL q.2.2) false) ∧
      (if q.2.1 = true then q.2.2 ++ l.drop q.1 = setA l n v else q.2.2 = l.take q.1 ∧ ∀ a ∈ q.2.2, ¬ a.name = n)) (0, false, []) ?_ ?_
  · simp -implicitDefEqProofs only [go_sem, Nat.reduceEqDiff, reduceCtorEq, ↓reduceIte]
    exact ⟨rfl, by simp⟩
  rintro ⟨i, dn, out⟩ ρ ⟨g, m⟩ ⟨h1, h2, h3, h4, h5⟩
  dsimp only at h1 h2 h3 h4 h5
  have m0 : (m = 0) = False := eq_false (by omega)
  have m1 : (m + 1 = 0) = False := eq_false (by omega)
  have m2 : (m + 1 = m) = False := eq_false (by omega)
  have n0 : (0 = m) = False := eq_false (by omega)
  have n1 : (0 = m + 1) = False := eq_false (by omega)
  have hcl : (cellsL out).length = i * 2 := by rw [attrs_len, h3]
  have ht : List.take (i * 2) (cellsL out) = cellsL out := List.take_of_length_le (by omega)
  have hbd : ((i + 1) * 32 ≤ 140737488355328) = True := eq_true (by omega)
  have f0 : (i * 2 ≤ i * 2 + 1) = True := eq_true (by omega)
  have he : i * 2 + 2 = (i + 1) * 2 := by omega
  rcases Nat.lt_or_ge i l.length with hi | hi
  · obtain ⟨x, hx, hd, hm⟩ := get_drop hi
    have hlt : ((i : Int) < (l.length : Int)) = True := eq_true (by omega)
    have w1 : IntKind.i64.wrap ((i : Int) + 1) = ((i + 1 : Nat) : Int) := by rw [wrap64 (by omega) (by omega)]; omega
    by_cases e : x.name = n
    · have f : (x.name = n) = True := eq_true e
      cases dn
      · simp only [Bool.false_eq_true, if_false] at h5
        simp -implicitDefEqProofs only [hlt, hx, w1, f, h4, m0, m1, m2, n0, n1, hcl, ht, hbd, f0, go_sem, Nat.reduceAdd, Nat.reduceEqDiff, Nat.reduceLeDiff, reduceCtorEq, ↓reduceIte]
        refine ⟨(i + 1, true, out ++ [⟨x.name, v⟩]), by simp only; omega, ⟨by simp only [he], rfl, rfl⟩, by simp only; omega, by simp [h3], by simp only [he, cellsL_append]; rfl, ?_⟩
        simp only [if_true]
        have hs : setA l n v = out ++ setA (l.drop i) n v := by
          have key : ∀ (a b : List Ty.Attr), (∀ y ∈ a, ¬ y.name = n) → setA (a ++ b) n v = a ++ setA b n v := by
            intro a
            induction a with
            | nil => intro b _; rfl
            | cons y r ih => intro b hy; simp only [List.cons_append, setA]; rw [if_neg (hy y (by simp)), ih b fun z hz => hy z (by simp [hz])]
          have h6 := key out (l.drop i) h5.2
          rw [h5.1, List.take_append_drop] at h6
          rw [h6, ← h5.1]
        rw [hs, hd, setA, if_pos e]; simp
      · simp only [if_true] at h5
        simp -implicitDefEqProofs only [hlt, hx, w1, f, h4, m0, m1, m2, n0, n1, hcl, ht, hbd, f0, go_sem, Nat.reduceAdd, Nat.reduceEqDiff, Nat.reduceLeDiff, reduceCtorEq, ↓reduceIte]
        refine ⟨(i + 1, true, out ++ [x]), by simp only; omega, ⟨by simp only [he], rfl, rfl⟩, by simp only; omega, by simp [h3], by simp only [he, cellsL_append]; rfl, ?_⟩
        simp only [if_true]
        rw [← h5, hd]; simp
    · have f : (x.name = n) = False := eq_false e
      simp -implicitDefEqProofs only [hlt, hx, w1, f, h4, m0, m1, m2, n0, n1, hcl, ht, hbd, f0, go_sem, Nat.reduceAdd, Nat.reduceEqDiff, Nat.reduceLeDiff, reduceCtorEq, ↓reduceIte]
      refine ⟨(i + 1, dn, out ++ [x]), by simp only; omega, ⟨by simp only [he], rfl, rfl⟩, by simp only; omega, by simp [h3], by simp only [he, cellsL_append]; rfl, ?_⟩
      cases dn
      · simp only [Bool.false_eq_true, if_false] at h5 ⊢
        refine ⟨by rw [h5.1, take_snoc hx], fun a ha => ?_⟩
        rcases List.mem_append.1 ha with ha | ha
        · exact h5.2 a ha
        · simp at ha; subst ha; exact e
      · simp only [if_true] at h5 ⊢
        rw [← h5, hd]; simp
  · have hlt : ((i : Int) < (l.length : Int)) = False := eq_false (by omega)
    have htl : l.take i = l := List.take_of_length_le (by omega)
    cases dn
    · simp only [Bool.false_eq_true, if_false] at h5
      have hs : setA l n v = out ++ [⟨n, v⟩] := by rw [h5.1, htl]; exact setA_app (by rw [h5.1, htl] at h5; exact h5.2)
      simp -implicitDefEqProofs only [hlt, h4, m0, m1, m2, n0, n1, hcl, ht, hbd, f0, go_sem, Nat.reduceAdd, Nat.reduceEqDiff, Nat.reduceLeDiff, reduceCtorEq, ↓reduceIte]
      rw [viewIs_sl (cs := cellsL out ++ [AV.str n, AV.str v]) (sn := false) _ (by simp only [AX.look, look_putAt, h4]; rw [if_neg (by omega)]; rfl) (by rw [List.length_append, hcl]; simp; omega)]
      rw [List.take_of_length_le (by rw [List.length_append, hcl]; simp; omega), hs]
      simp [cellsL_append, h3]; rfl
    · simp only [if_true] at h5
      rw [drop_all hi, List.append_nil] at h5
      simp -implicitDefEqProofs only [hlt, h4, m0, m1, m2, n0, n1, hcl, ht, hbd, f0, go_sem, Nat.reduceEqDiff, reduceCtorEq, ↓reduceIte]
      rw [viewIs_sl _ h4 (by omega), List.take_of_length_le (by omega), ← h5, h3]
end W14
/- A pure call that gives plain values leaves no trace, by what it sees at once. -/
set_option linter.unusedSimpArgs false
set_option linter.unusedVariables false
namespace W14
open Go Go.AX Go.AX.Ty Go.Proofs

/-- THE TRACELESS CALL. -/
theorem unseeV {P : Program} {f : FuncId} {args xs : List AV} {v : AV} {s : St} {ps : List (Nat × AX.Obj)} (hv : views s.get args = some (xs, ps)) (h : PureF P f xs v) (hp : plainV v = true) :
    ACalls P f args s fun v' s' => v' = v ∧ s' = s := by
  obtain ⟨h, ha, _⟩ := h
  refine ⟨h.1, fun c w vs hs hr => ?_⟩
  obtain ⟨c1, g1, g2, _, g4⟩ := views_sound args xs ps hv c s vs hs (Since.refl s) hr
  have h0 : Sat ⟨fun _ _ => none, c1.m⟩ ⟨[], 0⟩ w := ⟨g1.mem, fun id o ho => by simp [St.get, AX.look] at ho, fun id id' o o' k ho => by simp [St.get, AX.look] at ho, fun _ _ _ => rfl, fun id o ho => by simp [St.get, AX.look] at ho, fun b e k z hb => by simp at hb⟩
  refine (h.2 _ w vs h0 (RepL.flat (c := c1) (c' := ⟨fun _ _ => none, c1.m⟩) (fun _ _ _ h => h) _ _ ha g4)).mono fun e w' ⟨v', u, c', s', e1, r, h1, h2, h3⟩ => ?_
  subst h3
  have hsame : ∀ k, k < w.heap.size → w'.heap[k]? = w.heap[k]? := fun k hk => (h2.same k hk fun ⟨id, o, ho, _⟩ => by simp [St.get, AX.look] at ho).1
  have hin : ∀ k o u, c.m k o = some u → k < w.heap.size := fun k o u hu => by
    have := (hs.mem k o u hu).1
    rcases Nat.lt_or_ge k w.heap.size with h | h
    · exact h
    · exfalso
      simp [World.cell?, Array.getElem?_eq_none h] at this
  let m2 : Nat → Nat → Option Value := fun k o => if k < w.heap.size then c.m k o else none
  have hm2 : ∀ k o, k < w.heap.size → m2 k o = c.m k o := fun k o hk => if_pos hk
  have hle : c.le ⟨c.σ, m2⟩ := ⟨fun _ _ _ h => h, fun k o u hu => by rw [← hu]; exact hm2 k o (hin k o u hu)⟩
  have hcell : ∀ k o, k < w.heap.size → w'.cell? ⟨k, o, none⟩ = w.cell? ⟨k, o, none⟩ := fun k o hk => by
    simp only [World.cell?, hsame k hk]
  refine ⟨v', u, ⟨c.σ, m2⟩, s, e1, rep_plain hp r, ⟨fun k o u hu => ?_, fun id o ho => ?_, fun id id' o o' k ho ho' => hs.inj id id' o o' k ho ho', hs.fresh, hs.top, fun b e k z hb => ?_⟩,
    ⟨hle, h2.size, fun k hk _ => ⟨hsame k hk, fun o => hm2 k o hk⟩, fun k hf => .inl hf, Nat.le_refl _, fun _ _ _ _ => rfl, fun id o ho => .inl ⟨o, ho⟩, h2.os⟩, rfl, rfl⟩
  · simp only [m2] at hu
    split at hu
    · rename_i hk
      rw [hcell k o hk]
      exact hs.mem k o u hu
    · simp at hu
  · refine (hs.obj id o ho).move hle fun k hk => ?_
    simp only [blk, Option.map_eq_some_iff] at hk
    obtain ⟨⟨k1, z1⟩, hs1, rfl⟩ := hk
    have := hs.low _ _ _ _ hs1
    exact ⟨hsame _ this, fun i => hm2 _ i this⟩
  · exact Nat.lt_of_lt_of_le (hs.low _ _ _ _ hb) h2.size

theorem callI_us {P : Program} {f : FuncId} {args : List AV} {s : St} {xs : List AV} {s' : St} {K : AV → St → Prop} {v : AV} (h : PureF P f xs v) (hp : plainV v = true) (hv : (views s.get args).map Prod.fst = some xs) (hk : @stK s ⟨K v⟩) : @CallI P f args s xs s' ⟨K⟩ := by
  simp only [Option.map_eq_some_iff] at hv
  obtain ⟨⟨ys, ps⟩, hv, rfl⟩ := hv
  exact .inl ((unseeV hv h hp).mono fun v' s'' ⟨h1, h2⟩ => by subst h1; subst h2; exact hk)
end W14
/- Turns: the document's; what an element's attributes are behind one. -/
set_option linter.unusedSimpArgs false
set_option linter.unusedVariables false
namespace W14
open Go Go.AX Go.AX.Ty Go.Proofs

theorem nodes_len (q : Page) : (cellsL q).length = q.length * 5 := Node.clen q
theorem w_rClassesO (q : Page) (hq : PgOk q) (n : Int) {h : List (Nat × AX.Obj)} {m A e : Nat} {sn : Bool} (hA : AX.look A h = some (.cells e (cellsL q) sn)) (hAm : A < m) :
    ACalls Tryz.prog 95 [.sl A e 0 q.length 5, .int .i64 n] ⟨h, m⟩ fun v s' => v = Enc.av (classesB q n) ∧ s' = ⟨h, m⟩ := by
  unfold classesB
  refine acalls_same (flat_av _) (acalls_W mix (C0_ok _) c95 (by kernel_rfl) (Nat.le_of_ble_eq_true (by kernel_rfl)) ?_)
  have hle : (q.length * 5 ≤ (cellsL q).length) = True := eq_true (by rw [nodes_len]; omega)
  have ht : List.take (q.length * 5) (cellsL q) = cellsL q := List.take_of_length_le (by rw [nodes_len]; omega)
  simp -implicitDefEqProofs only [F95, hA, hle, ht, go_sem, Nat.reduceEqDiff, reduceCtorEq, ↓reduceIte]
  refine callI_us (w_rAttr q hq.ok n sClass) rfl (by simp -implicitDefEqProofs only [hA, hle, ht, Option.map_some, go_sem, ↓reduceIte]) ?_
  simp -implicitDefEqProofs only [go_sem, Nat.reduceEqDiff, ↓reduceIte]
  refine callI_pure (w_Words _ (attrB_len hq n sClass)) ?_
  simp -implicitDefEqProofs only [go_sem, ↓reduceIte]
  exact ⟨by simp, fun _ _ => trivial⟩
def wsum (l : List Str) : Nat := (l.map fun w => 1 + w.length).sum
theorem withF_len (s : Str) : ∀ (l : List Str) (out : Str), (l.foldl (withF s) out).length ≤ out.length + wsum l
  | [], out => by simp [wsum]
  | x :: r, out => by
    have := withF_len s r (withF s out x)
    have h2 : (withF s out x).length ≤ out.length + (1 + x.length) := by
      unfold withF
      split
      · omega
      · split
        · omega
        · simp; omega
    simp only [List.foldl_cons]
    have h3 : wsum (x :: r) = (1 + x.length) + wsum r := by simp [wsum]
    omega
theorem wsum_take (l : List Str) (k : Nat) : wsum (l.take k) ≤ wsum l := by
  have h : wsum l = wsum (l.take k) + wsum (l.drop k) := by
    unfold wsum
    rw [← List.sum_append, ← List.map_append, List.take_append_drop]
  omega
theorem wsum_words : ∀ (s acc : Str), wsum (wordsGo s acc) ≤ s.length + acc.length + 1
  | [], acc => by
    unfold wordsGo
    split
    · simp [wsum]
    · simp [wsum]; omega
  | c :: r, acc => by
    unfold wordsGo
    split
    · split
      · have := wsum_words r []; simp at this ⊢; omega
      · have := wsum_words r []
        have h3 : wsum (acc :: wordsGo r []) = (1 + acc.length) + wsum (wordsGo r []) := by simp [wsum]
        rw [h3]; simp at this ⊢; omega
    · have := wsum_words r (acc ++ [c]); simp at this ⊢; omega
theorem classes_sum {q : Page} (hq : PgOk q) (n : Int) : wsum (classesB q n) ≤ 1000001 := by
  have h1 := wsum_words (attrB q n sClass).1 []
  have h2 := attrB_len hq n sClass
  simp only [List.length_nil] at h1
  unfold classesB wordsB; omega
theorem wsum_len : ∀ l : List Str, l.length ≤ wsum l
  | [] => by simp
  | x :: r => by have := wsum_len r; have h3 : wsum (x :: r) = (1 + x.length) + wsum r := by simp [wsum]
                 rw [h3]; simp; omega
theorem wsum_mem {x : Str} : ∀ {l : List Str}, x ∈ l → x.length ≤ wsum l
  | [], h => by simp at h
  | y :: r, h => by
    have h3 : wsum (y :: r) = (1 + y.length) + wsum r := by simp [wsum]
    rcases List.mem_cons.1 h with rfl | h
    · omega
    · have := wsum_mem h; omega
theorem w_rAttrsO (q : Page) (hq : PgOk q) (t : Turn) (ht : Enc.ok t) (htn : t.name.length ≤ 1000000) {k : Nat} {x : Ty.Node} (hk : t.node = (k : Int)) (hx : q[k]? = some x) (hxl : x.attrs.length ≤ 1000000) {h : List (Nat × AX.Obj)} {m A e : Nat} {sn : Bool} (hA : AX.look A h = some (.cells e (cellsL q) sn)) (hAm : A < m) :
    ACalls Tryz.prog 69 [.sl A e 0 q.length 5, Enc.av t] ⟨h, m⟩ fun v s' => v = Enc.av (attrsB q t x) ∧ s' = ⟨h, m⟩ := by
  refine acalls_same (flat_av _) (acalls_W mix (C0_ok _) c69 (by kernel_rfl) (Nat.le_of_ble_eq_true (by kernel_rfl)) ?_)
  have hle : (q.length * 5 ≤ (cellsL q).length) = True := eq_true (by rw [nodes_len]; omega)
  have htk : List.take (q.length * 5) (cellsL q) = cellsL q := List.take_of_length_le (by rw [nodes_len]; omega)
  have hkl : (k < q.length) = True := eq_true (getElem_lt hx)
  have hdk : List.drop (k * 5) (cellsL q) = Enc.cells x ++ cellsL (q.drop (k + 1)) := by
    have h1 : (cellsL q).drop (k * 5) = cellsL (q.drop k) := cellsL_drop q k
    obtain ⟨y, hy, hd, _⟩ := get_drop (getElem_lt hx)
    rw [hx] at hy; cases hy
    rw [h1, hd]; rfl
  have hdk1 : List.drop (k * 5 + 1) (cellsL q) = .ps x.attrs.length (cellsL x.attrs) :: ([.str x.text, .int .i64 x.up, .ps x.kids.length (cellsL x.kids)] ++ cellsL (q.drop (k + 1))) := by
    rw [← List.drop_drop, hdk, Node.ecells]; rfl
  have hkl1 : (k * 5 + 1 ≤ (cellsL q).length) = True := eq_true (by rw [nodes_len]; have := getElem_lt hx; omega)
  have hmA : (m = A) = False := eq_false (by omega)
  have hAm' : (A = m) = False := eq_false (by omega)
  have hcl := w_rClassesO q hq (k : Int) (h := (m, .cells 0 [.int .i64 t.kind, .int .i64 t.node, .str t.name, .str t.value] false) :: h) (m := m + 1) (A := A) (e := e) (sn := sn) (by simp only [AX.look]; rw [if_neg (by omega)]; exact hA) (by omega)
  have hcs := classes_sum hq (k : Int)
  have hcll := wsum_len (classesB q (k : Int))
  have hin := w_In t.name (classesB q (k : Int)) (by omega)
  have hal := attrB_len hq (k : Int) sClass
  have hattr := w_rAttr q hq.ok (k : Int) sClass
  have hwo := w_rWithout (classesB q (k : Int)) t.name (by omega) (fun j => by have := withF_len t.name ((classesB q (k : Int)).take j) []; have h2 := wsum_take (classesB q (k : Int)) j; simp only [List.length_nil] at this; omega) (fun y hy => by have := wsum_mem hy; omega)
  have hset := fun n v => w_rSet x.attrs n v hxl
  rw [hk] at hcl
  unfold attrsB inB
  rw [hk, Turn.eav]
  have fr : ∀ (o : AX.Obj) (id : Nat), id < m → (if m = id then some o else AX.look id h) = AX.look id h := fun o id hid => if_neg (by omega)
  simp -implicitDefEqProofs only [F69, hk, hA, hle, htk, hmA, hAm', hkl, hdk1, hkl1, Node.ecells, go_sem, Nat.reduceAdd, Nat.reduceEqDiff, Nat.reduceLeDiff, reduceCtorEq, ↓reduceIte]
  refine callI_st hcl ?_
  generalize classesB q (k : Int) = C at hin hwo hcs hcll
  generalize attrB q (k : Int) sClass = AB at hattr hal
  by_cases k1 : t.kind = 1
  · have f1 : (t.kind = 1) = True := eq_true k1
    simp -implicitDefEqProofs only [f1, hA, hle, htk, hmA, hAm', go_sem, Nat.reduceAdd, Nat.reduceEqDiff, Nat.reduceLeDiff, ↓reduceIte]
    refine callI_pure hin ?_
    cases hc : C.any fun y => y == t.name
    · simp -implicitDefEqProofs only [hA, hle, htk, hmA, hAm', go_sem, Nat.reduceAdd, Nat.reduceEqDiff, Nat.reduceLeDiff, reduceCtorEq, ↓reduceIte]
      refine callI_us hattr rfl (by simp -implicitDefEqProofs only [hA, hle, htk, hmA, hAm', Option.map_some, go_sem, ↓reduceIte]) ?_
      by_cases e0 : AB.1 = []
      · have fe : (AB.1 = []) = True := eq_true e0
        simp -implicitDefEqProofs only [fe, hA, hle, htk, hmA, hAm', go_sem, Nat.reduceAdd, Nat.reduceEqDiff, Nat.reduceLeDiff, ↓reduceIte]
        refine callI_pure (hset _ _) ?_
        simp -implicitDefEqProofs only [fe, go_sem, ↓reduceIte]
        exact ⟨by simp [k1], fr _⟩
      · have fe : (AB.1 = []) = False := eq_false e0
        have c1 : (AB.1.length + 1 ≤ 9223372036854775807) = True := eq_true (by omega)
        have c2 : (AB.1.length + 1 + t.name.length ≤ 9223372036854775807) = True := eq_true (by omega)
        simp -implicitDefEqProofs only [fe, hA, hle, htk, hmA, hAm', c1, c2, List.length_append, go_sem, Nat.reduceAdd, Nat.reduceEqDiff, Nat.reduceLeDiff, ↓reduceIte]
        refine callI_pure (hset _ _) ?_
        simp -implicitDefEqProofs only [fe, go_sem, ↓reduceIte]
        exact ⟨by simp [k1], fr _⟩
    · simp -implicitDefEqProofs only [hA, hle, htk, hmA, hAm', go_sem, Nat.reduceEqDiff, ↓reduceIte]
      exact ⟨by simp [k1], fr _⟩
  have f1 : (t.kind = 1) = False := eq_false k1
  by_cases k2 : t.kind = 2
  · have f2 : (t.kind = 2) = True := eq_true k2
    simp -implicitDefEqProofs only [f1, f2, hA, hle, htk, hmA, hAm', go_sem, Nat.reduceAdd, Nat.reduceEqDiff, Nat.reduceLeDiff, ↓reduceIte]
    refine callI_pure hin ?_
    cases hc : C.any fun y => y == t.name
    · simp -implicitDefEqProofs only [hA, hle, htk, hmA, hAm', go_sem, Nat.reduceEqDiff, ↓reduceIte]
      exact ⟨by simp [k1, k2], fr _⟩
    · simp -implicitDefEqProofs only [hA, hle, htk, hmA, hAm', go_sem, Nat.reduceAdd, Nat.reduceEqDiff, Nat.reduceLeDiff, ↓reduceIte]
      refine callI_pure hwo ?_
      simp -implicitDefEqProofs only [go_sem, Nat.reduceEqDiff, ↓reduceIte]
      refine callI_pure (hset _ _) ?_
      simp -implicitDefEqProofs only [go_sem, ↓reduceIte]
      exact ⟨by simp [k1, k2], fr _⟩
  have f2 : (t.kind = 2) = False := eq_false k2
  by_cases k3 : t.kind = 3
  · have f3 : (t.kind = 3) = True := eq_true k3
    simp -implicitDefEqProofs only [f1, f2, f3, hA, hle, htk, hmA, hAm', go_sem, Nat.reduceAdd, Nat.reduceEqDiff, Nat.reduceLeDiff, ↓reduceIte]
    refine callI_pure (hset _ _) ?_
    simp -implicitDefEqProofs only [go_sem, ↓reduceIte]
    exact ⟨by simp [k1, k2, k3], fr _⟩
  have f3 : (t.kind = 3) = False := eq_false k3
  by_cases k4 : t.kind = 4
  case neg =>
    have f4 : (t.kind = 4) = False := eq_false k4
    simp -implicitDefEqProofs only [f1, f2, f3, f4, hA, hle, htk, hmA, hAm', go_sem, Nat.reduceAdd, Nat.reduceEqDiff, ↓reduceIte]
    exact ⟨by simp [k1, k2, k3, k4], fr _⟩
  have f4 : (t.kind = 4) = True := eq_true k4
  have p1 : (m + 1 = m) = False := eq_false (by omega)
  have p2 : (m = m + 1) = False := eq_false (by omega)
  simp -implicitDefEqProofs only [f1, f2, f3, f4, hA, hle, htk, hmA, hAm', p1, p2, go_sem, Nat.reduceAdd, Nat.reduceEqDiff, ↓reduceIte]
  refine LoopI_sl (fun i : Nat => x.attrs.length - i) (fun i => [(3, .ptr m 0 0), (5, Enc.av x.attrs), (9, .sl (m + 1) (((x.attrs.take i).filter fun a => !(a.name == t.name)).length * 2) 0 ((x.attrs.take i).filter fun a => !(a.name == t.name)).length 2), (10, .int .i64 i)])
    (fun i st => i ≤ x.attrs.length ∧ m + 2 ≤ st.next ∧ AX.look m st.heap = some (.cells 0 [.int .i64 t.kind, .int .i64 k, .str t.name, .str t.value] false) ∧
      AX.look (m + 1) st.heap = some (.cells (((x.attrs.take i).filter fun a => !(a.name == t.name)).length * 2) (cellsL ((x.attrs.take i).filter fun a => !(a.name == t.name))) false) ∧ ∀ id, id < m → AX.look id st.heap = AX.look id h) 0 ?_ ?_
  · simp -implicitDefEqProofs only [p1, p2, go_sem, Nat.reduceEqDiff, ↓reduceIte]
    exact ⟨rfl, fun id hid => by rw [if_neg (by omega), if_neg (by omega)]⟩
  rintro i ρ ⟨g, m'⟩ ⟨h1, h2, h3, h4, h5⟩
  dsimp only at h1 h2 h3 h4 h5
  have q0 : (m' = m) = False := eq_false (by omega)
  have q1 : (m' = m + 1) = False := eq_false (by omega)
  have q2 : (m + 1 = m') = False := eq_false (by omega)
  have q3 : (m < m') = True := eq_true (by omega)
  have q4 : (m + 1 < m') = True := eq_true (by omega)
  rcases Nat.lt_or_ge i x.attrs.length with hi | hi
  · obtain ⟨y, hy, hyd, hym⟩ := get_drop hi
    have hlt : ((i : Int) < (x.attrs.length : Int)) = True := eq_true (by omega)
    have w1 : IntKind.i64.wrap ((i : Int) + 1) = ((i + 1 : Nat) : Int) := by rw [wrap64 (by omega) (by omega)]; omega
    have hsn : (x.attrs.take (i + 1)).filter (fun a => !(a.name == t.name)) = (x.attrs.take i).filter (fun a => !(a.name == t.name)) ++ (if y.name = t.name then [] else [y]) := by
      rw [take_snoc hy, List.filter_append]
      congr 1
      by_cases e : y.name = t.name <;> simp [e]
    have hFl : ((x.attrs.take i).filter fun a => !(a.name == t.name)).length ≤ i := Nat.le_trans (List.length_filter_le _ _) (by rw [List.length_take]; omega)
    by_cases e : y.name = t.name
    · have fe : (y.name = t.name) = True := eq_true e
      rw [if_pos e, List.append_nil] at hsn
      simp -implicitDefEqProofs only [hlt, hy, w1, h3, fe, q3, q4, go_sem, Nat.reduceAdd, Nat.reduceEqDiff, Nat.reduceLeDiff, ↓reduceIte]
      refine andI_intro (by (first | omega | (simp [indepB, indep1, apart1, Nat.testBit_eq_decide_div_mod_eq]; done) | (simp [indepB, indep1, apart1, Nat.testBit_eq_decide_div_mod_eq]; omega) | kernel_rfl)) ?_
      simp -implicitDefEqProofs only [hlt, hy, w1, h3, fe, go_sem, Nat.reduceEqDiff, ↓reduceIte]
      exact ⟨i + 1, by omega, ⟨by rw [hsn], rfl⟩, by omega, h2, by rw [hsn]; exact h4, h5⟩
    · have fe : (y.name = t.name) = False := eq_false e
      rw [if_neg e] at hsn
      have hcl' := attrs_len ((x.attrs.take i).filter fun a => !(a.name == t.name))
      generalize ((x.attrs.take i).filter fun a => !(a.name == t.name)) = F at h4 hFl hsn hcl'
      have g1 : List.take (F.length * 2) (cellsL F) = cellsL F := List.take_of_length_le (by omega)
      have g2 : ((F.length + 1) * 32 ≤ 140737488355328) = True := eq_true (by omega)
      have g3 : (F.length * 2 ≤ F.length * 2 + 1) = True := eq_true (by omega)
      have g4 : F.length * 2 + 2 = (F.length + 1) * 2 := by omega
      simp -implicitDefEqProofs only [hlt, hy, w1, h3, fe, q3, q4, go_sem, Nat.reduceAdd, Nat.reduceEqDiff, Nat.reduceLeDiff, ↓reduceIte]
      refine andI_intro (by (first | omega | (simp [indepB, indep1, apart1, Nat.testBit_eq_decide_div_mod_eq]; done) | (simp [indepB, indep1, apart1, Nat.testBit_eq_decide_div_mod_eq]; omega) | kernel_rfl)) ?_
      simp -implicitDefEqProofs only [hlt, hy, w1, h3, h4, fe, hcl', g1, g2, g3, q0, q1, q2, p1, p2, go_sem, Nat.reduceAdd, Nat.reduceEqDiff, Nat.reduceLeDiff, reduceCtorEq, ↓reduceIte]
      have hl2 : (F ++ [y]).length = F.length + 1 := by simp
      refine ⟨i + 1, by omega, ⟨by rw [hsn, hl2, g4], rfl⟩, by omega, by omega, ?_, fun id hid => ?_⟩
      · rw [hsn, hl2, g4, cellsL_append]; rfl
      · (try simp only [AX.look, look_putAt]); rw [if_neg (by omega), if_neg (by omega)]; exact h5 id hid
  · have hlt : ((i : Int) < (x.attrs.length : Int)) = False := eq_false (by omega)
    have htl : x.attrs.take i = x.attrs := List.take_of_length_le (by omega)
    rw [htl] at h4 ⊢
    simp -implicitDefEqProofs only [hlt, go_sem, Nat.reduceEqDiff, ↓reduceIte]
    rw [if_neg k1, if_neg k2, if_neg k3, if_pos k4]
    refine ⟨⟨?_, by simp [idsD]⟩, h5⟩
    rw [viewIs_sl _ h4 (by rw [attrs_len]; omega), List.take_of_length_le (by rw [attrs_len]; omega)]
end W14
/- Turns: the document's; all of them. -/
set_option linter.unusedSimpArgs false
set_option linter.unusedVariables false
namespace W14
open Go Go.AX Go.AX.Ty Go.Proofs

structure PgB (c d : Nat) (p : Page) : Prop where
  ok : Enc.ok p
  len : p.length ≤ 1000
  kids : ∀ x ∈ p, x.kids.length ≤ 1000
  num : ∀ x ∈ p, x.attrs.length ≤ c
  val : ∀ x ∈ p, ∀ a ∈ x.attrs, a.value.length ≤ d
theorem PgB.pg {c d : Nat} {p : Page} (h : PgB c d p) (hd : d ≤ 1000000) : PgOk p := ⟨h.ok, h.len, h.kids, fun x hx a ha => by have := h.val x hx a ha; omega⟩
theorem PgB.mono {c d c' d' : Nat} {p : Page} (h : PgB c d p) (hc : c ≤ c') (hd : d ≤ d') : PgB c' d' p := ⟨h.ok, h.len, h.kids, fun x hx => by have := h.num x hx; omega, fun x hx a ha => by have := h.val x hx a ha; omega⟩
theorem setA_mem {l : List Ty.Attr} {n v : Str} {a : Ty.Attr} (h : a ∈ setA l n v) : a ∈ l ∨ a = ⟨n, v⟩ := by
  induction l with
  | nil => simp [setA] at h; exact .inr h
  | cons b r ih =>
    simp only [setA] at h
    split at h
    · rename_i e
      rcases List.mem_cons.1 h with rfl | h
      · exact .inr (by rw [e])
      · exact .inl (by simp [h])
    · rcases List.mem_cons.1 h with rfl | h
      · exact .inl (by simp)
      · rcases ih h with h | h
        · exact .inl (by simp [h])
        · exact .inr h
theorem setA_len (l : List Ty.Attr) (n v : Str) : (setA l n v).length ≤ l.length + 1 := by
  induction l with
  | nil => simp [setA]
  | cons b r ih => simp only [setA]; split <;> simp; omega
theorem PgB.attr {c d : Nat} {p : Page} (h : PgB c d p) (n : Int) (v : Str) : (attrB p n v).1.length ≤ d := by
  unfold attrB
  split
  · rename_i x hx
    split
    · simp
    · split
      · rename_i a ha
        exact h.val x (nodeAt_mem hx) a (List.mem_of_find?_eq_some ha)
      · simp
  · simp
theorem attrsB_bd {c d : Nat} {p : Page} (h : PgB c d p) {t : Turn} (hn : t.name.length ≤ 100) (hv : t.value.length ≤ 100) {x : Ty.Node} (hx : x ∈ p) :
    (attrsB p t x).length ≤ c + 1 ∧ ∀ a ∈ attrsB p t x, a ∈ x.attrs ∨ ((a.name = sClass ∨ a.name = t.name) ∧ a.value.length ≤ d + 101) := by
  have hc := h.num x hx
  have keep : x.attrs.length ≤ c + 1 ∧ ∀ a ∈ x.attrs, a ∈ x.attrs ∨ ((a.name = sClass ∨ a.name = t.name) ∧ a.value.length ≤ d + 101) := ⟨by omega, fun a ha => .inl ha⟩
  have set : ∀ n v, (n = sClass ∨ n = t.name) → v.length ≤ d + 101 → (setA x.attrs n v).length ≤ c + 1 ∧ ∀ a ∈ setA x.attrs n v, a ∈ x.attrs ∨ ((a.name = sClass ∨ a.name = t.name) ∧ a.value.length ≤ d + 101) := fun n v hnn hvl =>
    ⟨by have := setA_len x.attrs n v; omega, fun a ha => by rcases setA_mem ha with ha | rfl; exact .inl ha; exact .inr ⟨hnn, hvl⟩⟩
  have ha := h.attr t.node sClass
  unfold attrsB
  split
  · split
    · exact keep
    · split
      · exact set _ _ (.inl rfl) (by omega)
      · exact set _ _ (.inl rfl) (by simp; omega)
  · split
    · split
      · refine set _ _ (.inl rfl) ?_
        have h1 := withF_len t.name (classesB p t.node) []
        have h2 := wsum_words (attrB p t.node sClass).1 []
        simp only [List.length_nil] at h1 h2
        unfold withoutB
        unfold classesB wordsB at h1 ⊢
        omega
      · exact keep
    · split
      · exact set _ _ (.inr rfl) (by omega)
      · split
        · refine ⟨?_, fun a ha => .inl (List.mem_filter.1 ha).1⟩
          have := List.length_filter_le (fun a : Ty.Attr => !(a.name == t.name)) x.attrs
          omega
        · exact keep
theorem PgB.step {c d : Nat} {p : Page} (h : PgB c d p) (hc : c ≤ 1000000) (hd : d ≤ 1000000) {t : Turn} (hn : t.name.length ≤ 100) (hv : t.value.length ≤ 100) : PgB (c + 1) (d + 101) (stepT p t) := by
  unfold stepT
  split
  · rename_i x hx
    split
    · exact h.mono (by omega) (by omega)
    · have hxm := nodeAt_mem hx
      obtain ⟨b1, b2⟩ := attrsB_bd h hn hv hxm
      have hxok := (Node.ok_iff x).1 (h.ok.2 x hxm)
      have hval : ∀ a ∈ attrsB p t x, a.value.length ≤ d + 101 := fun a ha => by
        rcases b2 a ha with h1 | h1
        · have := h.val x hxm a h1; omega
        · exact h1.2
      have hnew : Enc.ok (withA x (attrsB p t x)) := (Node.ok_iff _).2 ⟨hxok.1, ⟨by show (attrsB p t x).length ≤ _; omega, fun a ha => by
        rcases b2 a ha with h1 | h1
        · exact hxok.2.1.2 a h1
        · refine (Attr.ok_iff a).2 ⟨?_, ?_⟩
          · rcases h1.1 with e | e
            · rw [e]; show ([99, 108, 97, 115, 115] : Str).length ≤ _; simp
            · rw [e]; show t.name.length ≤ _; omega
          · show a.value.length ≤ _; omega⟩, hxok.2.2.1, hxok.2.2.2.1, hxok.2.2.2.2⟩
      have mem : ∀ y ∈ p.set t.node.toNat (withA x (attrsB p t x)), y ∈ p ∨ y = withA x (attrsB p t x) := fun y hy => List.mem_or_eq_of_mem_set hy
      refine ⟨⟨by show (List.set p _ _).length ≤ _; rw [List.length_set]; exact h.ok.1, fun y hy => ?_⟩, by rw [List.length_set]; exact h.len, fun y hy => ?_, fun y hy => ?_, fun y hy a ha => ?_⟩
      · rcases mem y hy with hy | rfl
        · exact h.ok.2 y hy
        · exact hnew
      · rcases mem y hy with hy | rfl
        · exact h.kids y hy
        · exact h.kids x hxm
      · rcases mem y hy with hy | rfl
        · have := h.num y hy; omega
        · exact b1
      · rcases mem y hy with hy | rfl
        · have := h.val y hy a ha; omega
        · exact hval a ha
  · exact h.mono (by omega) (by omega)
theorem stepT_len (p : Page) (t : Turn) : (stepT p t).length = p.length := by
  unfold stepT
  split
  · split
    · rfl
    · rw [List.length_set]
  · rfl
theorem doB_len : ∀ (l : List Turn) (p : Page), (doB p l).length = p.length
  | [], p => rfl
  | t :: r, p => by
    show (doB (stepT p t) r).length = _
    rw [doB_len r, stepT_len]
theorem doB_snoc {l : List Turn} {i : Nat} {t : Turn} (h : l[i]? = some t) (p : Page) : doB p (l.take (i + 1)) = stepT (doB p (l.take i)) t := by
  unfold doB; rw [take_snoc h, List.foldl_append]; rfl
theorem PgB.turns {c d : Nat} : ∀ (l : List Turn) {p : Page}, PgB c d p → c + l.length ≤ 1000000 → d + l.length * 101 ≤ 1000000 → (∀ t ∈ l, t.name.length ≤ 100 ∧ t.value.length ≤ 100) → PgB (c + l.length) (d + l.length * 101) (doB p l)
  | [], p, h, _, _, _ => by simpa [doB] using h
  | t :: r, p, h, h1, h2, h3 => by
    simp only [List.length_cons] at h1 h2 ⊢
    have hs := h.step (by omega) (by omega) (h3 t (by simp)).1 (h3 t (by simp)).2
    have := PgB.turns r hs (by omega) (by omega) fun x hx => h3 x (by simp [hx])
    show PgB _ _ (doB (stepT p t) r)
    exact this.mono (by omega) (by omega)
theorem cells_set {q : Page} {k : Nat} {y : Ty.Node} (hk : k < q.length) : List.take (k * 5) (cellsL q) ++ Enc.cells y ++ List.drop (k * 5 + 5) (cellsL q) = cellsL (q.set k y) := by
  have h1 : (cellsL q).take (k * 5) = cellsL (q.take k) := cellsL_take q k
  have h2 : (cellsL q).drop ((k + 1) * 5) = cellsL (q.drop (k + 1)) := cellsL_drop q (k + 1)
  have e : k * 5 + 5 = (k + 1) * 5 := by omega
  rw [e, h1, h2, List.set_eq_take_append_cons_drop, if_pos hk, cellsL_append]
  simp [cellsL]
theorem stepT_no {q : Page} {t : Turn} (h : elemB q t.node = false) : stepT q t = q := by
  unfold elemB at h
  unfold stepT
  split
  · rename_i x hx
    rw [hx] at h
    rw [if_pos (by simpa using h)]
  · rfl
set_option maxHeartbeats 1600000 in
theorem w_rDo (p : Page) {c d : Nat} (hp : PgB c d p) (l : List Turn) (hl : l.length ≤ 1000) (hc : c ≤ 1000) (hd : d ≤ 10000) (hok : ∀ t ∈ l, Enc.ok t) (ht : ∀ t ∈ l, t.name.length ≤ 100 ∧ t.value.length ≤ 100) :
    PureF Tryz.prog 43 [Enc.av p, Enc.av l] (Enc.av (doB p l)) := by
  refine pureF_W mix c43 (by kernel_rfl) (by kernel_rfl) (by simp [flats, flat_av, Go.AX.flat]) (by first | exact flat_av _ | simp [flat, flats, flat_av]) ?_
  have hpl := hp.len
  have hcp := nodes_len p
  have htp : List.take (p.length * 5) (cellsL p) = cellsL p := List.take_of_length_le (by omega)
  have hbd : (p.length * 88 ≤ 140737488355328) = True := eq_true (by omega)
  have start : ∀ (K : Prop), (p.length = 0 → K) → ((p.length = 0) = False → (1 ≤ p.length * 5) = True → K) → K := fun K h1 h2 => by
    by_cases h : p.length = 0
    · exact h1 h
    · exact h2 (eq_false h) (eq_true (by omega))
  refine start _ (fun h0 => ?_) (fun h0 h1 => ?_)
  · have hp0 : p = [] := List.eq_nil_of_length_eq_zero h0
    simp -implicitDefEqProofs only [F43, h0, hcp, htp, hbd, go_sem, Nat.reduceEqDiff, reduceCtorEq, ↓reduceIte]
    refine LoopI_sl (fun i : Nat => l.length - i) (fun i => [(1, Enc.av l), (5, .sl 0 (p.length * 5) 0 p.length 5), (6, .int .i64 i)])
      (fun i st => i ≤ l.length ∧ 1 ≤ st.next ∧ AX.look 0 st.heap = some (.cells (p.length * 5) (cellsL (doB p (l.take i))) false)) 0 ?_ ?_
    · simp -implicitDefEqProofs only [h0, hp0, go_sem, Nat.reduceEqDiff, ↓reduceIte]
      try rfl
    rintro i ρ ⟨g, m⟩ ⟨k1, k2, k3⟩
    dsimp only at k2 k3
    rcases Nat.lt_or_ge i l.length with hi | hi
    · obtain ⟨t, hx, hdr, hm⟩ := get_drop hi
      have hlt : ((i : Int) < (l.length : Int)) = True := eq_true (by omega)
      have w1 : IntKind.i64.wrap ((i : Int) + 1) = ((i + 1 : Nat) : Int) := by rw [wrap64 (by omega) (by omega)]; omega
      have hsn := doB_snoc hx p
      have hlk : (l.take i).length = i := by rw [List.length_take]; omega
      have hB := PgB.turns (l.take i) hp (by omega) (by omega) fun y hy => ht y (List.mem_of_mem_take hy)
      have hql := doB_len (l.take i) p
      rw [hlk] at hB
      generalize doB p (l.take i) = q at k3 hsn hB hql
      have hqp := hB.pg (by omega)
      have hcq := nodes_len q
      rw [hql] at hcq
      have hle : (p.length * 5 ≤ (cellsL q).length) = True := eq_true (by omega)
      have htq : List.take (p.length * 5) (cellsL q) = cellsL q := List.take_of_length_le (by omega)
      have hE := w_rElement q t.node
      rw [eav_L, hql] at hE
      simp -implicitDefEqProofs only [hlt, hx, k3, hle, htq, go_sem, Nat.reduceEqDiff, ↓reduceIte]
      refine callI_us hE rfl (by simp -implicitDefEqProofs only [k3, hle, htq, Option.map_some, go_sem, ↓reduceIte]) ?_
      cases he : elemB q t.node
      · simp -implicitDefEqProofs only [w1, go_sem, Nat.reduceEqDiff, ↓reduceIte]
        exact ⟨i + 1, by omega, rfl, by omega, k2, by rw [hsn, stepT_no he]; exact k3⟩
      obtain ⟨k, x, ek, hxk, hn⟩ := elem_at he
      have hkq := getElem_lt hxk
      have hxm := List.mem_of_getElem? hxk
      have hkl : (k < p.length) = True := eq_true (by omega)
      have hk5 : (k * 5 ≤ (cellsL q).length) = True := eq_true (by omega)
      have hk6 : (k * 5 + 5 ≤ (cellsL q).length) = True := eq_true (by omega)
      have hdk : List.drop (k * 5) (cellsL q) = .str x.name :: .ps x.attrs.length (cellsL x.attrs) :: .str x.text :: .int .i64 x.up :: .ps x.kids.length (cellsL x.kids) :: cellsL (q.drop (k + 1)) := by
        have h1 : (cellsL q).drop (k * 5) = cellsL (q.drop k) := cellsL_drop q k
        obtain ⟨y, hy, hd, _⟩ := get_drop hkq
        rw [hxk] at hy; cases hy
        rw [h1, hd]; rfl
      have m0 : (m = 0) = False := eq_false (by omega)
      have n0 : (0 = m) = False := eq_false (by omega)
      have i0 : (0 < m + 1) = True := eq_true (by omega)
      have hxn := hB.num x hxm
      have hA := w_rAttrsO q hqp t (hok t hm) (by have := (ht t hm).1; omega) ek hxk (by omega) (h := (m, .cells 0 [.str x.name, .ps x.attrs.length (cellsL x.attrs), .str x.text, .int .i64 x.up, .ps x.kids.length (cellsL x.kids)] false) :: g) (m := m + 1) (A := 0) (e := p.length * 5) (sn := false) (by simp only [AX.look]; rw [if_neg (by omega)]; exact k3) (by omega)
      rw [hql, Turn.eav, ek] at hA
      have hst : stepT q t = q.set k (withA x (attrsB q t x)) := by
        unfold stepT
        rw [ek, nodeAt_nat, hxk]
        simp only
        rw [if_neg hn, Int.toNat_natCast]
      simp -implicitDefEqProofs only [ek, hx, hkl, hk5, hk6, hdk, k3, m0, n0, i0, hle, htq, go_sem, Nat.reduceAdd, Nat.reduceEqDiff, Nat.reduceLeDiff, ↓reduceIte]
      refine callI_st hA ?_
      simp -implicitDefEqProofs only [ek, hx, hkl, hk5, hk6, hdk, k3, m0, n0, i0, hle, htq, go_sem, Nat.reduceAdd, Nat.reduceEqDiff, Nat.reduceLeDiff, ↓reduceIte]
      refine andI_intro (by (first | omega | (simp [indepB, indep1, apart1, Nat.testBit_eq_decide_div_mod_eq]; done) | (simp [indepB, indep1, apart1, Nat.testBit_eq_decide_div_mod_eq]; omega) | kernel_rfl)) ?_
      simp -implicitDefEqProofs only [ek, hx, hkl, hk5, hk6, hdk, k3, m0, n0, i0, w1, go_sem, Nat.reduceEqDiff, Nat.reduceLeDiff, ↓reduceIte]
      exact ⟨i + 1, by omega, rfl, by omega, by rw [hsn, hst, ← cells_set hkq]; rfl⟩
    · have hlt : ((i : Int) < (l.length : Int)) = False := eq_false (by omega)
      have htl : l.take i = l := List.take_of_length_le (by omega)
      rw [htl] at k3
      have hql := doB_len l p
      simp -implicitDefEqProofs only [hlt, go_sem, Nat.reduceEqDiff, ↓reduceIte]
      rw [viewIs_sl _ k3 (by rw [nodes_len, hql]; omega), List.take_of_length_le (by rw [nodes_len, hql]; omega), hql]
  · simp -implicitDefEqProofs only [F43, h0, h1, hcp, htp, hbd, go_sem, Nat.reduceEqDiff, reduceCtorEq, ↓reduceIte]
    refine LoopI_sl (fun i : Nat => l.length - i) (fun i => [(1, Enc.av l), (5, .sl 0 (p.length * 5) 0 p.length 5), (6, .int .i64 i)])
      (fun i st => i ≤ l.length ∧ 1 ≤ st.next ∧ AX.look 0 st.heap = some (.cells (p.length * 5) (cellsL (doB p (l.take i))) false)) 0 ?_ ?_
    · simp -implicitDefEqProofs only [go_sem, Nat.reduceEqDiff, ↓reduceIte]
      try rfl
    rintro i ρ ⟨g, m⟩ ⟨k1, k2, k3⟩
    dsimp only at k2 k3
    rcases Nat.lt_or_ge i l.length with hi | hi
    · obtain ⟨t, hx, hdr, hm⟩ := get_drop hi
      have hlt : ((i : Int) < (l.length : Int)) = True := eq_true (by omega)
      have w1 : IntKind.i64.wrap ((i : Int) + 1) = ((i + 1 : Nat) : Int) := by rw [wrap64 (by omega) (by omega)]; omega
      have hsn := doB_snoc hx p
      have hlk : (l.take i).length = i := by rw [List.length_take]; omega
      have hB := PgB.turns (l.take i) hp (by omega) (by omega) fun y hy => ht y (List.mem_of_mem_take hy)
      have hql := doB_len (l.take i) p
      rw [hlk] at hB
      generalize doB p (l.take i) = q at k3 hsn hB hql
      have hqp := hB.pg (by omega)
      have hcq := nodes_len q
      rw [hql] at hcq
      have hle : (p.length * 5 ≤ (cellsL q).length) = True := eq_true (by omega)
      have htq : List.take (p.length * 5) (cellsL q) = cellsL q := List.take_of_length_le (by omega)
      have hE := w_rElement q t.node
      rw [eav_L, hql] at hE
      simp -implicitDefEqProofs only [hlt, hx, k3, hle, htq, go_sem, Nat.reduceEqDiff, ↓reduceIte]
      refine callI_us hE rfl (by simp -implicitDefEqProofs only [k3, hle, htq, Option.map_some, go_sem, ↓reduceIte]) ?_
      cases he : elemB q t.node
      · simp -implicitDefEqProofs only [w1, go_sem, Nat.reduceEqDiff, ↓reduceIte]
        exact ⟨i + 1, by omega, rfl, by omega, k2, by rw [hsn, stepT_no he]; exact k3⟩
      obtain ⟨k, x, ek, hxk, hn⟩ := elem_at he
      have hkq := getElem_lt hxk
      have hxm := List.mem_of_getElem? hxk
      have hkl : (k < p.length) = True := eq_true (by omega)
      have hk5 : (k * 5 ≤ (cellsL q).length) = True := eq_true (by omega)
      have hk6 : (k * 5 + 5 ≤ (cellsL q).length) = True := eq_true (by omega)
      have hdk : List.drop (k * 5) (cellsL q) = .str x.name :: .ps x.attrs.length (cellsL x.attrs) :: .str x.text :: .int .i64 x.up :: .ps x.kids.length (cellsL x.kids) :: cellsL (q.drop (k + 1)) := by
        have h1 : (cellsL q).drop (k * 5) = cellsL (q.drop k) := cellsL_drop q k
        obtain ⟨y, hy, hd, _⟩ := get_drop hkq
        rw [hxk] at hy; cases hy
        rw [h1, hd]; rfl
      have m0 : (m = 0) = False := eq_false (by omega)
      have n0 : (0 = m) = False := eq_false (by omega)
      have i0 : (0 < m + 1) = True := eq_true (by omega)
      have hxn := hB.num x hxm
      have hA := w_rAttrsO q hqp t (hok t hm) (by have := (ht t hm).1; omega) ek hxk (by omega) (h := (m, .cells 0 [.str x.name, .ps x.attrs.length (cellsL x.attrs), .str x.text, .int .i64 x.up, .ps x.kids.length (cellsL x.kids)] false) :: g) (m := m + 1) (A := 0) (e := p.length * 5) (sn := false) (by simp only [AX.look]; rw [if_neg (by omega)]; exact k3) (by omega)
      rw [hql, Turn.eav, ek] at hA
      have hst : stepT q t = q.set k (withA x (attrsB q t x)) := by
        unfold stepT
        rw [ek, nodeAt_nat, hxk]
        simp only
        rw [if_neg hn, Int.toNat_natCast]
      simp -implicitDefEqProofs only [ek, hx, hkl, hk5, hk6, hdk, k3, m0, n0, i0, hle, htq, go_sem, Nat.reduceAdd, Nat.reduceEqDiff, Nat.reduceLeDiff, ↓reduceIte]
      refine callI_st hA ?_
      simp -implicitDefEqProofs only [ek, hx, hkl, hk5, hk6, hdk, k3, m0, n0, i0, hle, htq, go_sem, Nat.reduceAdd, Nat.reduceEqDiff, Nat.reduceLeDiff, ↓reduceIte]
      refine andI_intro (by (first | omega | (simp [indepB, indep1, apart1, Nat.testBit_eq_decide_div_mod_eq]; done) | (simp [indepB, indep1, apart1, Nat.testBit_eq_decide_div_mod_eq]; omega) | kernel_rfl)) ?_
      simp -implicitDefEqProofs only [ek, hx, hkl, hk5, hk6, hdk, k3, m0, n0, i0, w1, go_sem, Nat.reduceEqDiff, Nat.reduceLeDiff, ↓reduceIte]
      exact ⟨i + 1, by omega, rfl, by omega, by rw [hsn, hst, ← cells_set hkq]; rfl⟩
    · have hlt : ((i : Int) < (l.length : Int)) = False := eq_false (by omega)
      have htl : l.take i = l := List.take_of_length_le (by omega)
      rw [htl] at k3
      have hql := doB_len l p
      simp -implicitDefEqProofs only [hlt, go_sem, Nat.reduceEqDiff, ↓reduceIte]
      rw [viewIs_sl _ k3 (by rw [nodes_len, hql]; omega), List.take_of_length_le (by rw [nodes_len, hql]; omega), hql]
theorem w_rAllT (s : Safe) (hs : Enc.ok s) (p : Page) {c d : Nat} (hp : PgB c d p) (l : List Turn) (hl : l.length ≤ 1000) (hc : c ≤ 1000) (hd : d ≤ 10000) (hok : ∀ t ∈ l, Enc.ok t) (ht : ∀ t ∈ l, t.name.length ≤ 100 ∧ t.value.length ≤ 100) :
    PureF Tryz.prog 21 [Enc.av s, Enc.av p, Enc.av l] (.tup [Enc.av (if l.all (mayT s p) = true then doB p l else p), .bool (l.all (mayT s p))]) := by
  refine pureF_W mix c21 (by kernel_rfl) (by kernel_rfl) (by simp [flats, flat_av, Go.AX.flat]) (by simp [flat, flats, flat_av]) ?_
  simp -implicitDefEqProofs only [F21, go_sem]
  refine LoopI_sl (fun i : Nat => l.length - i) (fun i => [(1, Enc.av p), (2, Enc.av l), (3, .ptr 0 0 0), (8, .int .i64 i)])
    (fun i st => i ≤ l.length ∧ Pre (fun t => !mayT s p t) l i ∧ st = ⟨[(0, .cells 0 [.ps s.classes.length (cellsL s.classes), .ps s.attrs.length (cellsL s.attrs)] false)], 1⟩) 0 ?_ ?_
  · simp -implicitDefEqProofs only [go_sem, Nat.reduceEqDiff, ↓reduceIte]
    exact Pre.zero _ _
  rintro i ρ st ⟨h1, h2, rfl⟩
  rcases Nat.lt_or_ge i l.length with hi | hi
  · obtain ⟨t, hx, hdr, hm⟩ := get_drop hi
    have hlt : ((i : Int) < (l.length : Int)) = True := eq_true (by omega)
    have w1 : IntKind.i64.wrap ((i : Int) + 1) = ((i + 1 : Nat) : Int) := by rw [wrap64 (by omega) (by omega)]; omega
    have hmay := w_rMay s hs p t (hok t hm)
    rw [Safe.eav, Turn.eav] at hmay
    simp -implicitDefEqProofs only [hlt, hx, go_sem, Nat.reduceAdd, Nat.reduceEqDiff, Nat.reduceLeDiff, ↓reduceIte]
    refine dcallI_pure hmay ?_
    simp -implicitDefEqProofs only [hlt, hx, go_sem, ↓reduceIte]
    refine andI_intro (by kernel_rfl) ?_
    cases hmt : mayT s p t
    · have hall : l.all (mayT s p) = false := by
        rw [← Bool.not_eq_true, List.all_eq_true]; intro h; rw [h t hm] at hmt; simp at hmt
      rw [hall]
      simp -implicitDefEqProofs only [go_sem, Nat.reduceEqDiff, ↓reduceIte]
      try rfl
    · simp -implicitDefEqProofs only [w1, go_sem, Nat.reduceEqDiff, ↓reduceIte]
      exact ⟨i + 1, by omega, rfl, by omega, h2.next hx (by simp [hmt])⟩
  · have hlt : ((i : Int) < (l.length : Int)) = False := eq_false (by omega)
    have hall : l.all (mayT s p) = true := by
      rw [List.all_eq_true]; intro t ht'; have := h2.all hi t ht'; simpa using this
    rw [hall, if_pos rfl]
    simp -implicitDefEqProofs only [hlt, go_sem, Nat.reduceEqDiff, ↓reduceIte]
    refine callI_pure (w_rDo p hp l hl hc hd hok ht) ?_
    simp -implicitDefEqProofs only [go_sem, Nat.reduceEqDiff, ↓reduceIte]
    try rfl
end W14
