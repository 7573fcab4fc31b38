/- The types: by tygen.py. -/
import Derived.Test.YtoilbphgflgbeaaGreatAxE
set_option linter.unusedVariables false
set_option linter.unusedSimpArgs false
namespace Go.AX
open Go
namespace Ty
@[ext] structure Placed where
  item : Item
  layer : Int
instance : Enc Placed := ⟨9, fun x => [.int .i64 x.item.kind, .ps (List.length x.item.sels) (cellsL x.item.sels), .ps (List.length x.item.decls) (cellsL x.item.decls), .ps (List.length x.item.names) (cellsL x.item.names), .int .i64 x.item.min, .int .i64 x.item.max, .ps (List.length x.item.vals) (cellsL x.item.vals), .ps (List.length x.item.l) (cellsL x.item.l), .int .i64 x.layer], fun x => .agg [.int .i64 x.item.kind, .ps (List.length x.item.sels) (cellsL x.item.sels), .ps (List.length x.item.decls) (cellsL x.item.decls), .ps (List.length x.item.names) (cellsL x.item.names), .int .i64 x.item.min, .int .i64 x.item.max, .ps (List.length x.item.vals) (cellsL x.item.vals), .ps (List.length x.item.l) (cellsL x.item.l), .int .i64 x.layer], fun x => Enc.ok x.item ∧ Enc.ok x.layer, fun _ => rfl, fun _ => rfl, fun _ => .inl rfl, fun _ => by simp only [flats, Go.AX.flat, flats_cellsL, Bool.and_self]⟩
theorem Placed.ok_iff (x : Placed) : Enc.ok x ↔ (Enc.ok x.item ∧ Enc.ok x.layer) := Iff.rfl
theorem Placed.ecells (x : Placed) : Enc.cells x = [.int .i64 x.item.kind, .ps (List.length x.item.sels) (cellsL x.item.sels), .ps (List.length x.item.decls) (cellsL x.item.decls), .ps (List.length x.item.names) (cellsL x.item.names), .int .i64 x.item.min, .int .i64 x.item.max, .ps (List.length x.item.vals) (cellsL x.item.vals), .ps (List.length x.item.l) (cellsL x.item.l), .int .i64 x.layer] := rfl
theorem Placed.eav (x : Placed) : Enc.av x = .agg [.int .i64 x.item.kind, .ps (List.length x.item.sels) (cellsL x.item.sels), .ps (List.length x.item.decls) (cellsL x.item.decls), .ps (List.length x.item.names) (cellsL x.item.names), .int .i64 x.item.min, .int .i64 x.item.max, .ps (List.length x.item.vals) (cellsL x.item.vals), .ps (List.length x.item.l) (cellsL x.item.l), .int .i64 x.layer] := rfl
theorem Placed.elem (l : List Placed) (k : Nat) : elemA k 9 (.ps (List.length l) (cellsL l)) = (l[k]?).map fun x => .vp (Enc.cells x ++ cellsL (l.drop (k + 1))) := elemA_sl l k
theorem Placed.clen (l : List Placed) : (cellsL l).length = List.length l * 9 := cellsL_len l
@[ext] structure Scene where
  sheets : List (List Item)
  p : List Node
  width : Int
  states : List State
instance : Enc Scene := ⟨4, fun x => [.ps (List.length x.sheets) (cellsL x.sheets), .ps (List.length x.p) (cellsL x.p), .int .i64 x.width, .ps (List.length x.states) (cellsL x.states)], fun x => .agg [.ps (List.length x.sheets) (cellsL x.sheets), .ps (List.length x.p) (cellsL x.p), .int .i64 x.width, .ps (List.length x.states) (cellsL x.states)], fun x => Enc.ok x.sheets ∧ Enc.ok x.p ∧ Enc.ok x.width ∧ Enc.ok x.states, fun _ => rfl, fun _ => rfl, fun _ => .inl rfl, fun _ => by simp only [flats, Go.AX.flat, flats_cellsL, Bool.and_self]⟩
theorem Scene.ok_iff (x : Scene) : Enc.ok x ↔ (Enc.ok x.sheets ∧ Enc.ok x.p ∧ Enc.ok x.width ∧ Enc.ok x.states) := Iff.rfl
theorem Scene.ecells (x : Scene) : Enc.cells x = [.ps (List.length x.sheets) (cellsL x.sheets), .ps (List.length x.p) (cellsL x.p), .int .i64 x.width, .ps (List.length x.states) (cellsL x.states)] := rfl
theorem Scene.eav (x : Scene) : Enc.av x = .agg [.ps (List.length x.sheets) (cellsL x.sheets), .ps (List.length x.p) (cellsL x.p), .int .i64 x.width, .ps (List.length x.states) (cellsL x.states)] := rfl
theorem Scene.elem (l : List Scene) (k : Nat) : elemA k 4 (.ps (List.length l) (cellsL l)) = (l[k]?).map fun x => .vp (Enc.cells x ++ cellsL (l.drop (k + 1))) := elemA_sl l k
theorem Scene.clen (l : List Scene) : (cellsL l).length = List.length l * 4 := cellsL_len l
theorem readsAt_Scene {P : Program} {t t0 t1 t2 t3 : TypeId} {fs : Array Field} {n : Nat} (hu : P.underlying t = some (.struct fs)) (hf : fs.toList.map (fieldRow P) = [(0, 1, t0), (1, 1, t1), (2, 1, t2), (3, 1, t3)]) (hc : P.cellsOf t = 4) (h0 : ReadsAt P t0 (List (List Item)) n) (h1 : ReadsAt P t1 (List Node) n) (h2 : ReadsAt P t2 Int n) (h3 : ReadsAt P t3 (List State) n) : ReadsAt P t Scene (n + 1) := fun H enc W sp hd cs x hx hw => by
  obtain ⟨g1, g2⟩ := trod_struct hu hf hx hw
  rw [hc] at g1
  obtain ⟨y0, e0, z0⟩ := g2 (0, 1, t0) (by simp)
  obtain ⟨a0, r0, k0⟩ := h0 H enc W sp hd _ _ e0 z0
  obtain ⟨y1, e1, z1⟩ := g2 (1, 1, t1) (by simp)
  obtain ⟨a1, r1, k1⟩ := h1 H enc W sp hd _ _ e1 z1
  obtain ⟨y2, e2, z2⟩ := g2 (2, 1, t2) (by simp)
  obtain ⟨a2, r2, k2⟩ := h2 H enc W sp hd _ _ e2 z2
  obtain ⟨y3, e3, z3⟩ := g2 (3, 1, t3) (by simp)
  obtain ⟨a3, r3, k3⟩ := h3 H enc W sp hd _ _ e3 z3
  refine ⟨.mk a0 a1 a2 a3, ?_, (Scene.ok_iff _).2 ⟨k0, k1, k2, k3⟩⟩
  have hh := (repL_field (o := 0) (z := 1) r0 (repL_field (o := 1) (z := 1) r1 (repL_field (o := 2) (z := 1) r2 (repL_field (o := 3) (z := 1) r3 (repL_end (o := 4) g1)))))
  rw [List.drop_zero] at hh
  rw [Scene.ecells]; exact hh
theorem reads_Scene {P : Program} {t t0 t1 t2 t3 : TypeId} {fs : Array Field} (hu : P.underlying t = some (.struct fs)) (hf : fs.toList.map (fieldRow P) = [(0, 1, t0), (1, 1, t1), (2, 1, t2), (3, 1, t3)]) (hc : P.cellsOf t = 4) (h0 : Reads P t0 (List (List Item))) (h1 : Reads P t1 (List Node)) (h2 : Reads P t2 Int) (h3 : Reads P t3 (List State)) : Reads P t Scene := fun n => by
  cases n with
  | zero => exact reads_zero
  | succ n => exact readsAt_Scene hu hf hc (h0 n) (h1 n) (h2 n) (h3 n)
end Ty
attribute [go_sem] Ty.Placed.elem Ty.Scene.elem
attribute [go_sem] Ty.Placed.ecells Ty.Scene.ecells
attribute [go_sem] Ty.Placed.eav Ty.Scene.eav
end Go.AX
/- Plain: layers, what applies, what wins. -/
set_option linter.unusedSimpArgs false
set_option linter.unusedVariables false
namespace W15
open Go Go.AX Go.AX.Ty
def inB (l : List Str) (s : Str) : Bool := l.any fun x => x == s
theorem inB_mem {l : List Str} {s : Str} : inB l s = true ↔ s ∈ l := by
  unfold inB; simp
def addB (out : List Str) (n : Str) : List Str := if inB out n = true then out else out ++ [n]
def laysB (x : Ty.Item) : Bool := decide (x.kind = 4) || (decide (x.kind = 3) && decide (x.names.length = 1))
def stepLay (out : List Str) (x : Ty.Item) : List Str := if laysB x = true then x.names.foldl addB out else out
def layersB (sheets : List (List Ty.Item)) : List Str := sheets.flatten.foldl stepLay []
theorem addB_mem (out : List Str) (n m : Str) : m ∈ addB out n ↔ m ∈ out ∨ m = n := by
  unfold addB; split
  · rename_i h; rw [inB_mem] at h
    exact ⟨.inl, fun h' => h'.elim id fun e => e ▸ h⟩
  · simp
theorem addsB_mem (m : Str) : ∀ (ns out : List Str), m ∈ ns.foldl addB out ↔ m ∈ out ∨ m ∈ ns
  | [], out => by simp
  | n :: r, out => by
    rw [List.foldl_cons, addsB_mem m r, addB_mem, List.mem_cons, or_assoc]
theorem addB_pre (out : List Str) (n : Str) : ∃ t, addB out n = out ++ t := by
  unfold addB; split
  · exact ⟨[], by simp⟩
  · exact ⟨[n], rfl⟩
theorem addsB_pre : ∀ (ns out : List Str), ∃ t, ns.foldl addB out = out ++ t
  | [], out => ⟨[], by simp⟩
  | n :: r, out => by
    obtain ⟨t, h⟩ := addB_pre out n
    obtain ⟨u, h2⟩ := addsB_pre r (out ++ t)
    exact ⟨t ++ u, by rw [List.foldl_cons, h, h2, List.append_assoc]⟩
theorem stepLay_pre (out : List Str) (x : Ty.Item) : ∃ t, stepLay out x = out ++ t := by
  unfold stepLay; split
  · exact addsB_pre _ _
  · exact ⟨[], by simp⟩
theorem lays_pre : ∀ (xs : List Ty.Item) (out : List Str), ∃ t, xs.foldl stepLay out = out ++ t
  | [], out => ⟨[], by simp⟩
  | x :: r, out => by
    obtain ⟨t, h⟩ := stepLay_pre out x
    obtain ⟨u, h2⟩ := lays_pre r (out ++ t)
    exact ⟨t ++ u, by rw [List.foldl_cons, h, h2, List.append_assoc]⟩
theorem lays_keep {m : Str} {xs : List Ty.Item} {out : List Str} (h : m ∈ out) : m ∈ xs.foldl stepLay out := by
  obtain ⟨t, e⟩ := lays_pre xs out
  rw [e]; exact List.mem_append_left _ h
theorem lays_mem {m : Str} {x : Ty.Item} (hl : laysB x = true) (hm : m ∈ x.names) : ∀ {xs : List Ty.Item} {out : List Str}, x ∈ xs → m ∈ xs.foldl stepLay out
  | [], _, h => by simp at h
  | y :: r, out, h => by
    rw [List.foldl_cons]
    rcases List.mem_cons.1 h with rfl | h
    · refine lays_keep ?_
      unfold stepLay
      rw [if_pos hl, addsB_mem]; exact .inr hm
    · exact lays_mem hl hm h
theorem adds_none : ∀ {ns out : List Str}, (∀ n ∈ ns, n ∈ out) → ns.foldl addB out = out
  | [], _, _ => rfl
  | n :: r, out, h => by
    rw [List.foldl_cons]
    have : addB out n = out := by unfold addB; rw [if_pos (inB_mem.2 (h n (by simp)))]
    rw [this]; exact adds_none fun m hm => h m (by simp [hm])
theorem lays_none : ∀ {xs : List Ty.Item} {out : List Str}, (∀ x ∈ xs, laysB x = true → ∀ n ∈ x.names, n ∈ out) → xs.foldl stepLay out = out
  | [], _, _ => rfl
  | x :: r, out, h => by
    rw [List.foldl_cons]
    have : stepLay out x = out := by
      unfold stepLay; split
      · rename_i hl; exact adds_none (h x (by simp) hl)
      · rfl
    rw [this]; exact lays_none fun y hy => h y (by simp [hy])
theorem layersB_app (a b : List (List Ty.Item)) : layersB (a ++ b) = b.flatten.foldl stepLay (layersB a) := by
  unfold layersB; rw [List.flatten_append, List.foldl_append]
theorem layersB_twice (a : List (List Ty.Item)) : layersB (a ++ a) = layersB a := by
  rw [layersB_app]
  exact lays_none fun x hx hl n hn => lays_mem hl hn hx
def wideB (w : Int) (x : Ty.Item) : Bool := decide (x.min ≤ w) && (decide (x.max < 0) || decide (w ≤ x.max))
def bareB (x : Ty.Item) : Bool := decide (¬ x.kind = 2) && decide (¬ x.kind = 3)
def mediaB (w layer : Int) (x : Ty.Item) : List Placed := if wideB w x = true then (x.l.filter bareB).map fun y => ⟨y, layer⟩ else []
def innerB (w layer : Int) (x : Ty.Item) : List Placed := if x.kind = 2 then mediaB w layer x else if x.kind = 3 then [] else [⟨x, layer⟩]
def plcB (l : List Str) (s : Str) : Nat := l.findIdx fun x => x == s
def nameOf (x : Ty.Item) : Str := x.names.headD []
def topB (w : Int) (names : List Str) (x : Ty.Item) : List Placed :=
  if x.kind = 3 then (if x.names.length = 1 then x.l.flatMap (innerB w (plcB names (nameOf x) : Nat)) else []) else innerB w (names.length : Nat) x
def appB (w : Int) (sheets : List (List Ty.Item)) : List Placed := sheets.flatten.flatMap (topB w (layersB sheets))
def ruleOf (p : Placed) : Option Rule := if p.item.kind = 1 then some ⟨p.item.sels, p.item.decls, p.layer⟩ else none
def rulesB (w : Int) (sheets : List (List Ty.Item)) : List Rule := (appB w sheets).filterMap ruleOf
theorem nameOf_mem {x : Ty.Item} (h : x.names.length = 1) : nameOf x ∈ x.names := by
  unfold nameOf
  cases hn : x.names with
  | nil => rw [hn] at h; simp at h
  | cons a r => simp
theorem name_lays {xs : List Ty.Item} {out : List Str} {x : Ty.Item} (hx : x ∈ xs) (h3 : x.kind = 3) (h1 : x.names.length = 1) : nameOf x ∈ xs.foldl stepLay out :=
  lays_mem (x := x) (by simp [laysB, h3, h1]) (nameOf_mem h1) hx
theorem rules_twice (w : Int) (a : List (List Ty.Item)) : rulesB w (a ++ a) = rulesB w a ++ rulesB w a := by
  unfold rulesB appB
  rw [layersB_twice, List.flatten_append, List.flatMap_append, List.filterMap_append]
end W15
/- Plain: what was found, and what wins. -/
set_option linter.unusedSimpArgs false
set_option linter.unusedVariables false
namespace W15
open Go Go.AX Go.AX.Ty
def gtW (w v : W3) : Bool := decide (v.a < w.a ∨ (v.a = w.a ∧ (v.b < w.b ∨ (v.b = w.b ∧ v.c < w.c))))
def betterB (a b : Ty.Found) : Bool :=
  if a.decl.important = b.decl.important then
    (if a.layer = b.layer then (if a.weight = b.weight then decide (b.pos < a.pos) else gtW a.weight b.weight)
     else (if a.decl.important = true then decide (a.layer < b.layer) else decide (b.layer < a.layer)))
  else a.decl.important
theorem gtW_iff (w v : W3) : gtW w v = true ↔ (v.a < w.a ∨ (v.a = w.a ∧ (v.b < w.b ∨ (v.b = w.b ∧ v.c < w.c)))) := by unfold gtW; exact decide_eq_true_iff
theorem w3_eq {w v : W3} : w = v ↔ w.a = v.a ∧ w.b = v.b ∧ w.c = v.c := by
  constructor
  · rintro rfl; exact ⟨rfl, rfl, rfl⟩
  · cases w; cases v; rintro ⟨rfl, rfl, rfl⟩; rfl
theorem gtW_tri (w v : W3) : w = v ∨ gtW w v = true ∨ gtW v w = true := by
  rw [w3_eq, gtW_iff, gtW_iff]; omega
theorem gtW_asym {w v : W3} (h : gtW w v = true) : gtW v w = false := by
  rw [← Bool.not_eq_true, gtW_iff]; rw [gtW_iff] at h; omega
theorem gtW_irr (w : W3) : gtW w w = false := by
  rw [← Bool.not_eq_true, gtW_iff]; omega
theorem gtW_trans {w v u : W3} (h : gtW w v = true) (h' : gtW v u = true) : gtW w u = true := by
  rw [gtW_iff] at *; omega
def tieB (a b : Ty.Found) : Prop := a.decl.important = b.decl.important ∧ a.layer = b.layer ∧ a.weight = b.weight ∧ a.pos = b.pos
theorem better_iff (a b : Ty.Found) : betterB a b = true ↔ (a.decl.important = true ∧ b.decl.important = false) ∨ (a.decl.important = b.decl.important ∧
    ((a.layer ≠ b.layer ∧ (a.decl.important = true → a.layer < b.layer) ∧ (a.decl.important = false → b.layer < a.layer)) ∨ (a.layer = b.layer ∧ (gtW a.weight b.weight = true ∨ (a.weight = b.weight ∧ b.pos < a.pos))))) := by
  unfold betterB
  split
  · rename_i h1
    split
    · rename_i h2
      split
      · rename_i h3
        rw [decide_eq_true_iff, h3, gtW_irr]
        constructor
        · intro h; exact .inr ⟨h1, .inr ⟨h2, .inr ⟨rfl, h⟩⟩⟩
        · rintro (⟨e1, e2⟩ | ⟨_, ⟨e, _⟩ | ⟨_, e | ⟨_, e⟩⟩⟩)
          · rw [h1, e2] at e1; cases e1
          · exact (e h2).elim
          · cases e
          · exact e
      · rename_i h3
        constructor
        · intro h; exact .inr ⟨h1, .inr ⟨h2, .inl h⟩⟩
        · rintro (⟨e1, e2⟩ | ⟨_, ⟨e, _⟩ | ⟨_, e | ⟨e, _⟩⟩⟩)
          · rw [h1, e2] at e1; cases e1
          · exact (e h2).elim
          · exact e
          · exact (h3 e).elim
    · rename_i h2
      split
      · rename_i h3
        rw [decide_eq_true_iff]
        constructor
        · intro h; exact .inr ⟨h1, .inl ⟨h2, fun _ => h, fun e => by rw [h3] at e; cases e⟩⟩
        · rintro (⟨e1, e2⟩ | ⟨_, ⟨_, e, _⟩ | ⟨e, _⟩⟩)
          · rw [h1, e2] at e1; cases e1
          · exact e h3
          · exact (h2 e).elim
      · rename_i h3
        have h3' : a.decl.important = false := by simpa using h3
        rw [decide_eq_true_iff]
        constructor
        · intro h; exact .inr ⟨h1, .inl ⟨h2, fun e => (h3 e).elim, fun _ => h⟩⟩
        · rintro (⟨e1, e2⟩ | ⟨_, ⟨_, _, e⟩ | ⟨e, _⟩⟩)
          · exact (h3 e1).elim
          · exact e h3'
          · exact (h2 e).elim
  · rename_i h1
    constructor
    · intro h
      refine .inl ⟨h, ?_⟩
      cases hb : b.decl.important
      · rfl
      · exact (h1 (by rw [h, hb])).elim
    · rintro (⟨e1, _⟩ | ⟨e, _⟩)
      · exact e1
      · exact (h1 e).elim
theorem better_tri (a b : Ty.Found) : tieB a b ∨ betterB a b = true ∨ betterB b a = true := by
  rw [better_iff, better_iff]
  unfold tieB
  by_cases h1 : a.decl.important = b.decl.important
  · by_cases h2 : a.layer = b.layer
    · rcases gtW_tri a.weight b.weight with h3 | h3 | h3
      · rcases Int.lt_trichotomy a.pos b.pos with h4 | h4 | h4
        · exact .inr (.inr (.inr ⟨h1.symm, .inr ⟨h2.symm, .inr ⟨h3.symm, h4⟩⟩⟩))
        · exact .inl ⟨h1, h2, h3, h4⟩
        · exact .inr (.inl (.inr ⟨h1, .inr ⟨h2, .inr ⟨h3, h4⟩⟩⟩))
      · exact .inr (.inl (.inr ⟨h1, .inr ⟨h2, .inl h3⟩⟩))
      · exact .inr (.inr (.inr ⟨h1.symm, .inr ⟨h2.symm, .inl h3⟩⟩))
    · rcases Int.lt_or_gt_of_ne h2 with h3 | h3
      · cases ha : a.decl.important
        · exact .inr (.inr (.inr ⟨by rw [← ha, ← h1], .inl ⟨Ne.symm h2, fun e => (by rw [← h1, ha] at e; cases e), fun _ => h3⟩⟩))
        · exact .inr (.inl (.inr ⟨by rw [← ha, ← h1], .inl ⟨h2, fun _ => h3, fun e => by cases e⟩⟩))
      · cases ha : a.decl.important
        · exact .inr (.inl (.inr ⟨by rw [← ha, ← h1], .inl ⟨h2, fun e => (by cases e), fun _ => h3⟩⟩))
        · exact .inr (.inr (.inr ⟨by rw [← ha, ← h1], .inl ⟨Ne.symm h2, fun _ => h3, fun e => (by rw [← h1, ha] at e; cases e)⟩⟩))
  · cases ha : a.decl.important
    · cases hb : b.decl.important
      · exact (h1 (by rw [ha, hb])).elim
      · exact .inr (.inr (.inl ⟨rfl, rfl⟩))
    · cases hb : b.decl.important
      · exact .inr (.inl (.inl ⟨rfl, rfl⟩))
      · exact (h1 (by rw [ha, hb])).elim
theorem better_tie {a b : Ty.Found} (h : tieB a b) : betterB a b = false := by
  rw [← Bool.not_eq_true, better_iff]
  obtain ⟨h1, h2, h3, h4⟩ := h
  rintro (⟨e1, e2⟩ | ⟨_, ⟨e, _⟩ | ⟨_, e | ⟨_, e⟩⟩⟩)
  · rw [h1, e2] at e1; cases e1
  · exact e h2
  · rw [h3, gtW_irr] at e; cases e
  · omega
theorem better_trans {a b c : Ty.Found} (h : betterB a b = true) (h' : betterB b c = true) : betterB a c = true := by
  rw [better_iff] at *
  rcases h with ⟨h1, h2⟩ | ⟨h1, h2⟩
  · rcases h' with ⟨g1, g2⟩ | ⟨g1, g2⟩
    · rw [h2] at g1; cases g1
    · exact .inl ⟨h1, by rw [← g1]; exact h2⟩
  · rcases h' with ⟨g1, g2⟩ | ⟨g1, g2⟩
    · exact .inl ⟨h1.trans g1, g2⟩
    · refine .inr ⟨h1.trans g1, ?_⟩
      rcases h2 with ⟨e1, e2, e3⟩ | ⟨e1, e2⟩
      · rcases g2 with ⟨f1, f2, f3⟩ | ⟨f1, f2⟩
        · left
          cases ha : a.decl.important
          · have := e3 ha; have := f3 (h1 ▸ ha)
            exact ⟨by omega, fun e => (by cases e), fun _ => by omega⟩
          · have := e2 ha; have := f2 (h1 ▸ ha)
            exact ⟨by omega, fun _ => by omega, fun e => by cases e⟩
        · left; rw [← f1]; exact ⟨e1, e2, e3⟩
      · rcases g2 with ⟨f1, f2, f3⟩ | ⟨f1, f2⟩
        · left; rw [e1]; exact ⟨f1, fun e => f2 (h1 ▸ e), fun e => f3 (h1 ▸ e)⟩
        · right
          refine ⟨e1.trans f1, ?_⟩
          rcases e2 with e2 | ⟨e2, e3⟩
          · rcases f2 with f2 | ⟨f2, f3⟩
            · exact .inl (gtW_trans e2 f2)
            · left; rw [← f2]; exact e2
          · rcases f2 with f2 | ⟨f2, f3⟩
            · left; rw [e2]; exact f2
            · right; exact ⟨e2.trans f2, by omega⟩
def winStep (name : Str) (top : Option Ty.Found) (x : Ty.Found) : Option Ty.Found :=
  if x.decl.name = name then (match top with
    | none => some x
    | some t => if betterB x t = true then some x else top) else top
def winB (l : List Ty.Found) (name : Str) : Option Ty.Found := l.foldl (winStep name) none
structure Best (name : Str) (l : List Ty.Found) (w : Ty.Found) : Prop where
  mem : w ∈ l
  named : w.decl.name = name
  top : ∀ x ∈ l, x.decl.name = name → betterB x w = false
theorem win_step {name : Str} {l : List Ty.Found} {w x : Ty.Found} (h : Best name l w) : ∃ w', winStep name (some w) x = some w' ∧ Best name (l ++ [x]) w' := by
  unfold winStep
  split
  · rename_i hx
    simp only
    split
    · rename_i hb
      refine ⟨x, rfl, by simp, hx, fun y hy hn => ?_⟩
      rcases List.mem_append.1 hy with hy | hy
      · rw [← Bool.not_eq_true]; intro e
        have := h.top y hy hn
        rw [better_trans e hb] at this; cases this
      · simp at hy; subst hy; exact better_tie ⟨rfl, rfl, rfl, rfl⟩
    · rename_i hb
      refine ⟨w, rfl, by simp [h.mem], h.named, fun y hy hn => ?_⟩
      rcases List.mem_append.1 hy with hy | hy
      · exact h.top y hy hn
      · simp at hy; subst hy; simpa using hb
  · rename_i hx
    refine ⟨w, rfl, by simp [h.mem], h.named, fun y hy hn => ?_⟩
    rcases List.mem_append.1 hy with hy | hy
    · exact h.top y hy hn
    · simp at hy; subst hy; exact (hx hn).elim
theorem win_some {name : Str} : ∀ (r l : List Ty.Found) (w : Ty.Found), Best name l w → ∃ w', r.foldl (winStep name) (some w) = some w' ∧ Best name (l ++ r) w'
  | [], l, w, h => ⟨w, rfl, by simpa using h⟩
  | x :: r, l, w, h => by
    obtain ⟨w1, e1, h1⟩ := win_step (x := x) h
    obtain ⟨w2, e2, h2⟩ := win_some r (l ++ [x]) w1 h1
    exact ⟨w2, by rw [List.foldl_cons, e1, e2], by simpa using h2⟩
theorem win_none {name : Str} : ∀ (r l : List Ty.Found), (∀ x ∈ l, x.decl.name ≠ name) → (r.foldl (winStep name) none = none ∧ ∀ x ∈ l ++ r, x.decl.name ≠ name) ∨ ∃ w, r.foldl (winStep name) none = some w ∧ Best name (l ++ r) w
  | [], l, h => .inl ⟨rfl, by simpa using h⟩
  | x :: r, l, h => by
    by_cases hx : x.decl.name = name
    · right
      have e : winStep name none x = some x := by unfold winStep; rw [if_pos hx]
      have hb : Best name (l ++ [x]) x := ⟨by simp, hx, fun y hy hn => by
        rcases List.mem_append.1 hy with hy | hy
        · exact (h y hy hn).elim
        · simp at hy; subst hy; exact better_tie ⟨rfl, rfl, rfl, rfl⟩⟩
      obtain ⟨w, e2, h2⟩ := win_some r (l ++ [x]) x hb
      exact ⟨w, by rw [List.foldl_cons, e, e2], by simpa using h2⟩
    · have e : winStep name none x = none := by unfold winStep; rw [if_neg hx]
      rcases win_none r (l ++ [x]) (fun y hy => by
        rcases List.mem_append.1 hy with hy | hy
        · exact h y hy
        · simp at hy; subst hy; exact hx) with ⟨e2, h2⟩ | ⟨w, e2, h2⟩
      · exact .inl ⟨by rw [List.foldl_cons, e, e2], by simpa using h2⟩
      · exact .inr ⟨w, by rw [List.foldl_cons, e, e2], by simpa using h2⟩
theorem win_cases (l : List Ty.Found) (name : Str) : (winB l name = none ∧ ∀ x ∈ l, x.decl.name ≠ name) ∨ ∃ w, winB l name = some w ∧ Best name l w := by
  have := win_none (name := name) l [] (by simp)
  simpa [winB] using this
theorem best_one {name : Str} {l : List Ty.Found} {w v : Ty.Found} (hw : Best name l w) (hv : Best name l v) : tieB w v := by
  rcases better_tri w v with h | h | h
  · exact h
  · rw [hv.top w hw.mem hw.named] at h; cases h
  · rw [hw.top v hv.mem hv.named] at h; cases h
def numb : Nat → List Ty.Found → List Ty.Found
  | _, [] => []
  | k, x :: r => ⟨x.decl, x.layer, x.weight, (k : Int)⟩ :: numb (k + 1) r
theorem numb_len : ∀ (k : Nat) (l : List Ty.Found), (numb k l).length = l.length
  | _, [] => rfl
  | k, x :: r => by simp only [numb, List.length_cons, numb_len]
theorem numb_app : ∀ (k : Nat) (l r : List Ty.Found), numb k (l ++ r) = numb k l ++ numb (k + l.length) r
  | k, [], r => by simp [numb]
  | k, x :: l, r => by
    simp only [List.cons_append, numb, numb_app (k + 1) l r, List.length_cons]
    rw [show k + 1 + l.length = k + (l.length + 1) by omega]
def moveF (n : Int) (x : Ty.Found) : Ty.Found := ⟨x.decl, x.layer, x.weight, x.pos + n⟩
theorem numb_move (n : Nat) : ∀ (k : Nat) (l : List Ty.Found), numb (k + n) l = (numb k l).map (moveF n)
  | _, [] => rfl
  | k, x :: r => by
    simp only [numb, List.map_cons, moveF]
    rw [show k + n + 1 = k + 1 + n by omega, numb_move n (k + 1) r]
    simp
theorem numb_pos : ∀ (k : Nat) (l : List Ty.Found) (x : Ty.Found), x ∈ numb k l → (k : Int) ≤ x.pos ∧ x.pos < (k + l.length : Nat)
  | _, [], x, h => by simp [numb] at h
  | k, y :: r, x, h => by
    simp only [numb, List.mem_cons] at h
    rcases h with rfl | h
    · simp only [List.length_cons]; omega
    · have := numb_pos (k + 1) r x h
      simp only [List.length_cons]; omega
theorem win_twice {name : Str} {l : List Ty.Found} {k : Nat} : (winB (numb k l ++ numb (k + l.length) l) name = (winB (numb k l) name).map (moveF l.length)) := by
  rw [numb_move]
  have hmove : ∀ (A : List Ty.Found), (∀ x ∈ A, True) → True := fun _ _ => trivial
  have tie_pos : ∀ (k : Nat) (l : List Ty.Found) (x y : Ty.Found), x ∈ numb k l → y ∈ numb k l → x.pos = y.pos → x = y := by
    intro k l
    induction l generalizing k with
    | nil => intro x y h; simp [numb] at h
    | cons z r ih =>
      intro x y hx hy e
      simp only [numb, List.mem_cons] at hx hy
      rcases hx with rfl | hx
      · rcases hy with rfl | hy
        · rfl
        · have := numb_pos _ _ _ hy; simp only at e; omega
      · rcases hy with rfl | hy
        · have := numb_pos _ _ _ hx; simp only at e; omega
        · exact ih (k + 1) x y hx hy e
  have bm : ∀ (n : Int) (x y : Ty.Found), betterB (moveF n x) (moveF n y) = betterB x y := fun n x y => by
    unfold betterB moveF
    simp only [Int.add_lt_add_iff_right]
  rcases win_cases (numb k l) name with ⟨h1, h2⟩ | ⟨w, h1, h2⟩
  · rw [h1]
    rcases win_cases (numb k l ++ (numb k l).map (moveF l.length)) name with ⟨g1, _⟩ | ⟨v, g1, g2⟩
    · exact g1
    · rcases List.mem_append.1 g2.mem with hm | hm
      · exact (h2 v hm g2.named).elim
      · obtain ⟨u, hu, rfl⟩ := List.mem_map.1 hm
        exact (h2 u hu g2.named).elim
  · rw [h1]
    rcases win_cases (numb k l ++ (numb k l).map (moveF l.length)) name with ⟨_, g2⟩ | ⟨v, g1, g2⟩
    · exact (g2 w (List.mem_append_left _ h2.mem) h2.named).elim
    · rw [g1]
      have hw' : moveF l.length w ∈ (numb k l).map (moveF l.length) := List.mem_map.2 ⟨w, h2.mem, rfl⟩
      have hbest : Best name (numb k l ++ (numb k l).map (moveF l.length)) (moveF l.length w) := by
        refine ⟨List.mem_append_right _ hw', h2.named, fun x hx hn => ?_⟩
        rcases List.mem_append.1 hx with hx | hx
        · rw [← Bool.not_eq_true, better_iff]
          have h3 := h2.top x hx hn
          rw [← Bool.not_eq_true, better_iff] at h3
          have p1 := numb_pos _ _ _ hx
          have p2 := numb_pos _ _ _ h2.mem
          rintro (e | ⟨e1, e | ⟨e2, e | ⟨e3, e4⟩⟩⟩)
          · exact h3 (.inl e)
          · exact h3 (.inr ⟨e1, .inl e⟩)
          · exact h3 (.inr ⟨e1, .inr ⟨e2, .inl e⟩⟩)
          · simp only [moveF] at e4; omega
        · obtain ⟨u, hu, rfl⟩ := List.mem_map.1 hx
          rw [bm]; exact h2.top u hu hn
      have ht := best_one g2 hbest
      have hpos : v.pos = (moveF l.length w).pos := ht.2.2.2
      simp only [Option.map_some]
      congr 1
      rcases List.mem_append.1 g2.mem with hm | hm
      · have p1 := numb_pos _ _ _ hm
        have p2 := numb_pos _ _ _ h2.mem
        simp only [moveF] at hpos; omega
      · obtain ⟨u, hu, rfl⟩ := List.mem_map.1 hm
        have : u.pos = w.pos := by simp only [moveF] at hpos; omega
        rw [tie_pos k l u w hu h2.mem this]
end W15
