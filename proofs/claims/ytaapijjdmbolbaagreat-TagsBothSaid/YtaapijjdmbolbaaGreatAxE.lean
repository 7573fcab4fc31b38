/- From a call of abstract values to the row: nothing that was there has turned, so the arguments read as they did. -/
import Derived.Test.YtaapijjdmbolbaaGreatAxD
import Derived.ProofKit
import Derived.JoinedCond
import Derived.RangeFuncLeaves
set_option linter.unusedSimpArgs false
set_option linter.unusedVariables false
namespace Go.AX
open Go Go.RowKit Go.ChangeShapes
class GlW (W : World) : Prop where
  ex : ∃ n, W.cell? ⟨gM, 0, none⟩ = some (.int .i64 n)
def ctx0 (W : World) [g : GlW W] : Ctx := ⟨fun _ _ => none, fun k o => (W.cell? ⟨k, o, none⟩).filter (·.oneCell'), by
  obtain ⟨n, hn⟩ := g.ex
  exact ⟨n, by simp [hn, Option.filter, Value.oneCell']⟩⟩
theorem sat0 (W : World) [GlW W] : Sat (ctx0 W) ⟨[], 0⟩ W where
  mem := fun k o u h => by
    simp only [ctx0, Option.filter_eq_some_iff] at h
    exact h
  obj := fun id o h => by simp [St.get, look] at h
  inj := fun id id' o o' k h => by simp [St.get, look] at h
  fresh := fun _ _ _ => rfl
  top := fun id o h => by simp [St.get, look] at h
  low := fun b e k z h => by simp [ctx0] at h
theorem ctx0_m {W : World} [GlW W] {k o : Nat} {u : Value} (h : W.cell? ⟨k, o, none⟩ = some u) (h1 : u.oneCell' = true) : (ctx0 W).m k o = some u := by
  simp [ctx0, h, Option.filter, h1]
theorem below_of_ext {c c' : Ctx} {s' : St} {W W' : World} (h : Ext c ⟨[], 0⟩ W c' s' W') : Below W.heap.size W W' where
  os := h.os.1
  tape := h.os.2.2
  output := h.os.2.1
  size := h.size
  block := fun k hk => (h.same k hk (fun ⟨id, o, ho, _⟩ => by simp [St.get, look] at ho)).1
theorem calls_true {P : Program} {f : FuncId} {args : List AV} {vs : Array Value} {W : World} [GlW W] (h : ACalls P f args ⟨[], 0⟩ fun v _ => v = .bool true) (hv : RepL (ctx0 W) args vs.toList) :
    Calls P f vs W fun e W' => e = .returned (.bool true) ∧ Below W.heap.size W W' := by
  have := h.2 (ctx0 W) W vs.toList (sat0 W) hv
  rw [Array.toArray_toList] at this
  refine this.mono fun e W' ⟨v, u, c', s', h1, h2, h3, h4, h5⟩ => ?_
  subst h5
  simp only [Rep] at h2
  subst h2
  exact ⟨h1, below_of_ext h4⟩
section
variable {H : Type} {enc : TypeId × Value → H} {P : Program}
theorem Below.trodAll (hl : laidOutB P = true) {W W' : World} (hb : Below W.heap.size W W') : ∀ {ts : List TypeId} {vs : List Value} {ds : List (DataW H)} {ps : List MemPlace},
    (ts.all fun t => P.readableRec t && decide (t < P.types.size)) = true → DataW.TrodAll enc P W 0 (fun _ => true) true ts vs ds ps → (∀ p ∈ ps, p.block < W.heap.size) →
    ∀ sp : Nat → Bool, (∀ p ∈ ps, sp p.block = true) → DataW.TrodAll enc P W' 0 sp true ts vs ds ps
  | [], [], [], ps, _, h, _, sp, _ => h
  | [], [], _ :: _, ps, _, h, _, sp, _ => h.elim
  | [], _ :: _, _, ps, _, h, _, sp, _ => h.elim
  | t :: ts, [], _, ps, _, h, _, sp, _ => h.elim
  | t :: ts, _ :: _, [], ps, _, h, _, sp, _ => h.elim
  | t :: ts, v :: vs, d :: ds, ps, ht, h, hlt, sp, hsp => by
    obtain ⟨p, q, h1, h2, rfl⟩ := h
    simp only [List.all_cons, Bool.and_eq_true, decide_eq_true_eq] at ht
    refine ⟨p, q, WideElems.Trod_stays hl ht.1.1 ht.1.2 h1 (fun x hx => hb.same (hlt x (by simp [hx]))) (fun x hx => hsp x (by simp [hx])), ?_, rfl⟩
    exact Below.trodAll hl hb (by simpa using ht.2) h2 (fun x hx => hlt x (by simp [hx])) sp (fun x hx => hsp x (by simp [hx]))
theorem post_true {f : Func} {s : ChangeSpec} {fresh handsOn again : Bool} {W W' : World} {args : Array Value} {ds gs : List (DataW H)} {before : List MemPlace} {tb : TypeId}
    (hl : laidOutB P = true) (hts : (f.params.toList.all fun t => P.readableRec t && decide (t < P.types.size)) = true) (hvars : s.vars = []) (hres : f.resultTypes = #[tb]) (htb : P.underlying tb = some .bool)
    (hfn : (s.fn H (ds ++ gs)).results = [.lit (.bool true)] ∧ (s.fn H (ds ++ gs)).args = ds ∧ (s.fn H (ds ++ gs)).vars = [])
    (hW : DataW.Whole enc P f.params.toList s.vars false W args.toList ds gs before) (hb : Below W.heap.size W W') :
    s.post enc P f false fresh handsOn again W args (.bool true) W' := by
  have hlt : ∀ p ∈ before, p.block < W.heap.size := fun p hp => hW.lt p hp
  have hW' := hW
  obtain ⟨p, q, hA, hV, hpq, hz, _⟩ := hW'
  rw [hvars] at hV
  obtain ⟨rfl, rfl⟩ := trodVars_none hV
  simp only [List.append_nil] at hpq
  subst hpq
  have hold : ∀ x ∈ before, (fun b => decide (b < W.heap.size)) x.block = true := fun x hx => by simpa using hlt x hx
  have hargs : ∀ sp : Nat → Bool, (∀ p ∈ before, sp p.block = true) → DataW.TrodAll enc P W' 0 sp true f.params.toList args.toList (s.fn H (ds ++ [])).args before := fun sp hsp => by
    rw [hfn.2.1]; exact Below.trodAll hl hb hts hA hlt sp hsp
  have hvs : ∀ sp : Nat → Bool, DataW.TrodVars enc P W' sp s.vars (s.fn H (ds ++ [])).vars [] := fun sp => by
    rw [hvars, hfn.2.2]; rfl
  have hrs : ∀ (b : Nat) (sp : Nat → Bool) (hd : Bool), DataW.TrodAll enc P W' b sp hd f.resultTypes.toList ((Value.bool true).resultList f.resultTypes.size) (s.fn H (ds ++ [])).results [] := fun b sp hd => by
    rw [hfn.1, hres]
    exact trodAll_mk1 (shut_bool htb true)
  refine ⟨ds, [], before, [], before, [], hW, hrs _ _ _, hargs _ hold, hvs _, World.keptBut_mono (fun p hp => ⟨hp, Or.inr (by simpa using hp)⟩) (hb.frame _), fun _ => ?_⟩
  refine ⟨ok_one hres rfl (okWide_bool_mk htb true), _, _, ([] ++ before) ++ [], ⟨[] ++ before, [], trodAll_append (hargs _ (fun _ _ => rfl)) (hrs _ _ _), hvs _, rfl, ?_, ?_⟩, ?_⟩
  · intro b off hp
    have hp' : MemPlace.cell b off ∈ before := by simpa using hp
    rw [hb.frozen (hlt _ hp')]
    exact hz b off hp'
  · intro ha; cases ha
  · intro p hp _
    simpa using hp
end
end Go.AX
/- A call of values without ids: what it does it does in every state, and the state stays as it is. -/
namespace Go.AX
open Go
mutual
def flat : AV → Bool
  | .ptr _ _ _ => false
  | .sl _ _ _ _ _ => false
  | .map _ => false
  | .agg xs => flats xs
  | .tup xs => flats xs
  | .vp xs => flats xs
  | .ps _ xs => flats xs
  | .fn _ xs ys => flats xs && flats ys
  | .ifc _ x => flat x
  | _ => true
def flats : List AV → Bool
  | [] => true
  | x :: r => flat x && flats r
end
mutual
theorem Rep.flat {c c' : Ctx} (h : ∀ k o u, c.m k o = some u → c'.m k o = some u) : ∀ (x : AV) (v : Value), flat x = true → Rep c x v → Rep c' x v
  | .bool _, _, _, r => by simpa [Rep] using r
  | .int _ _, _, _, r => by simpa [Rep] using r
  | .str _, _, _, r => by simpa [Rep] using r
  | .agg cs, _, hf, r => by
    simp only [Rep] at r ⊢
    obtain ⟨us, e, r⟩ := r
    exact ⟨us, e, RepL.flat h cs us (by simpa [Go.AX.flat] using hf) r⟩
  | .tup cs, _, hf, r => by
    simp only [Rep] at r ⊢
    obtain ⟨us, e, r⟩ := r
    exact ⟨us, e, RepL.flat h cs us (by simpa [Go.AX.flat] using hf) r⟩
  | .nilp, _, _, r => by simpa [Rep] using r
  | .ptr b e o, _, hf, r => by simp [Go.AX.flat] at hf
  | .vp cs, _, hf, r => by
    simp only [Rep] at r ⊢
    obtain ⟨k, o, e, r⟩ := r
    exact ⟨k, o, e, RepAt.flat h k o cs (by simpa [Go.AX.flat] using hf) r⟩
  | .nils, _, _, r => by simpa [Rep] using r
  | .sl b e o n z, _, hf, r => by simp [Go.AX.flat] at hf
  | .ps n cs, _, hf, r => by
    simp only [Rep] at r ⊢
    rcases r with r | ⟨k, o, q, e, hq, r⟩
    · exact .inl r
    · exact .inr ⟨k, o, q, e, hq, RepAt.flat h k o cs (by simpa [Go.AX.flat] using hf) r⟩
  | .nilf, _, _, r => by simpa [Rep] using r
  | .fn f xs ys, _, hf, r => by
    simp only [Go.AX.flat, Bool.and_eq_true] at hf
    simp only [Rep] at r ⊢
    obtain ⟨us, ws, e, r1, r2⟩ := r
    exact ⟨us, ws, e, RepL.flat h xs us hf.1 r1, RepL.flat h ys ws hf.2 r2⟩
  | .nili, _, _, r => by simpa [Rep] using r
  | .ifc t x, _, hf, r => by
    simp only [Rep] at r ⊢
    obtain ⟨u, e, r⟩ := r
    exact ⟨u, e, Rep.flat h x u (by simpa [Go.AX.flat] using hf) r⟩
  | .nilm, _, _, r => by simpa [Rep] using r
  | .map r', _, hf, r => by simp [Go.AX.flat] at hf
  | .any, _, _, _ => by simp [Rep]
theorem RepL.flat {c c' : Ctx} (h : ∀ k o u, c.m k o = some u → c'.m k o = some u) : ∀ (xs : List AV) (us : List Value), flats xs = true → RepL c xs us → RepL c' xs us
  | [], _, _, r => by simpa [RepL] using r
  | x :: xs, us, hf, r => by
    simp only [Go.AX.flats, Bool.and_eq_true] at hf
    simp only [RepL] at r ⊢
    obtain ⟨u, us', e, r1, r2⟩ := r
    exact ⟨u, us', e, Rep.flat h x u hf.1 r1, RepL.flat h xs us' hf.2 r2⟩
theorem RepAt.flat {c c' : Ctx} (h : ∀ k o u, c.m k o = some u → c'.m k o = some u) (k : Nat) : ∀ (o : Nat) (xs : List AV), flats xs = true → RepAt c k o xs → RepAt c' k o xs
  | _, [], _, _ => by simp [RepAt]
  | o, x :: xs, hf, r => by
    simp only [Go.AX.flats, Bool.and_eq_true] at hf
    simp only [RepAt] at r ⊢
    obtain ⟨⟨u, e, r1⟩, r2⟩ := r
    exact ⟨⟨u, h _ _ _ e, Rep.flat h x u hf.1 r1⟩, RepAt.flat h k (o + 1) xs hf.2 r2⟩
end
def Pure (P : Program) (f : FuncId) (args : List AV) (v : AV) : Prop := ACalls P f args ⟨[], 0⟩ fun v' _ => v' = v
theorem Pure.any {P : Program} {f : FuncId} {args : List AV} {v : AV} (h : Pure P f args v) (ha : flats args = true) (hv : flat v = true) (s : St) : ACalls P f args s fun v' s' => v' = v ∧ s' = s := by
  refine ⟨h.1, fun c w vs hs hr => ?_⟩
  have h0 : Sat ⟨fun _ _ => none, c.m, c.gl⟩ ⟨[], 0⟩ w := ⟨hs.mem, fun id o ho => by simp [St.get, look] at ho, fun id id' o o' k ho => by simp [St.get, look] at ho, fun _ _ _ => rfl, fun id o ho => by simp [St.get, look] at ho, fun b e k z hb => by simp at hb⟩
  refine (h.2 _ w vs h0 (RepL.flat (c := c) (c' := ⟨fun _ _ => none, c.m, c.gl⟩) (fun _ _ _ h => h) _ _ ha hr)).mono fun e w' ⟨v', u, c', s', e1, r, h1, h2, h3⟩ => ?_
  subst h3
  have hsame : ∀ k, k < w.heap.size → w'.heap[k]? = w.heap[k]? ∧ ∀ o, c'.m k o = c.m k o := fun k hk => h2.same k hk fun ⟨id, o, ho, _⟩ => by simp [St.get, look] at ho
  have hle : c.le ⟨c.σ, c'.m, c'.gl⟩ := ⟨fun _ _ _ h => h, h2.le.2⟩
  have hblk : ∀ id o, blk ⟨c.σ, c'.m, c'.gl⟩ id o = blk c id o := fun _ _ => rfl
  refine ⟨v', u, ⟨c.σ, c'.m, c'.gl⟩, s, e1, Rep.flat (c := c') (c' := ⟨c.σ, c'.m, c'.gl⟩) (fun _ _ _ h => h) _ _ hv r, ⟨h1.mem, fun id o ho => ?_, fun id id' o o' k ho ho' => hs.inj id id' o o' k ho ho', hs.fresh, hs.top, fun b e k z hb => ?_⟩,
    ⟨hle, h2.size, fun k hk _ => hsame k hk, fun k hf => .inl hf, Nat.le_refl _, fun _ _ _ _ => rfl, fun id o ho => .inl ⟨o, ho⟩, h2.os⟩, rfl, rfl⟩
  · refine (hs.obj id o ho).move hle fun k hk => ?_
    simp only [blk, Option.map_eq_some_iff] at hk
    obtain ⟨⟨k1, z1⟩, hs1, rfl⟩ := hk
    exact hsame _ (hs.low _ _ _ _ hs1)
  · exact Nat.lt_of_lt_of_le (hs.low _ _ _ _ hb) h2.size
def PureF (P : Program) (f : FuncId) (args : List AV) (v : AV) : Prop := Pure P f args v ∧ flats args = true ∧ flat v = true
end Go.AX
/- Walks with frames as functions: what is to be shown of a piece of code, as a proposition that unfolds. -/
namespace Go.AX
open Go
abbrev Env := Nat → AV
def upd (ρ : Env) (k : Nat) (v : AV) : Env := fun i => if i = k then v else ρ i
def updD (ρ : Env) (d : Option Nat) (v : AV) : Env := match d with
  | some d => upd ρ d v
  | none => ρ
def evE (ρ : Env) : AO → AV
  | .t n => ρ n
  | .k v => v
def Frm (N : Nat) (ρ : Env) : List AV := (List.range N).map ρ
theorem Frm_len (N : Nat) (ρ : Env) : (Frm N ρ).length = N := by simp [Frm]
theorem Frm_get {N : Nat} {ρ : Env} {i : Nat} (h : i < N) : (Frm N ρ)[i]? = some (ρ i) := by simp [Frm, h]
theorem Frm_ev {N : Nat} {ρ : Env} {x : AO} (h : aoIn N x = true) : x.ev (Frm N ρ) = evE ρ x := by
  cases x with
  | k v => rfl
  | t n =>
    simp only [aoIn, decide_eq_true_eq] at h
    simp [AO.ev, evE, List.getD_eq_getElem?_getD, Frm_get h]
theorem Frm_set (N : Nat) (ρ : Env) (d : Option Nat) (v : AV) : setD (Frm N ρ) d v = Frm N (updD ρ d v) := by
  cases d with
  | none => rfl
  | some k =>
    apply List.ext_getElem?
    intro i
    simp only [setD, updD]
    by_cases hi : i < N
    · rw [Frm_get hi]
      by_cases hk : k = i
      · subst hk; rw [List.getElem?_set_self (by simpa [Frm_len] using hi)]; simp [upd]
      · rw [List.getElem?_set_ne hk, Frm_get hi]; simp [upd, Ne.symm hk]
    · rw [List.getElem?_eq_none (by simp [Frm_len]; omega), List.getElem?_eq_none (by simp [Frm_len]; omega)]
theorem map_Frm {N : Nat} {ρ : Env} : ∀ {l : List AO}, l.all (aoIn N) = true → l.map (AO.ev (Frm N ρ)) = l.map (evE ρ)
  | [], _ => rfl
  | x :: r, h => by
    simp only [List.all_cons, Bool.and_eq_true] at h
    simp only [List.map_cons]
    rw [Frm_ev h.1, map_Frm h.2]
def kE (ρ : Env) : AOp → AOp
  | .mv x => .mv (.k (evE ρ x))
  | .pick c a b => .pick (.k (evE ρ c)) (.k (evE ρ a)) (.k (evE ρ b))
  | .alloc z => .alloc z
  | .cst v => .cst v
  | .box x => .box (.k (evE ρ x))
  | .build z ps => .build z (ps.map fun p => (p.1, p.2.1, .k (evE ρ p.2.2)))
  | .bslice z n e ps => .bslice z n e (ps.map fun p => (p.1, p.2.1, .k (evE ρ p.2.2)))
  | .load n a => .load n (.k (evE ρ a))
  | .store n a x => .store n (.k (evE ρ a)) (.k (evE ρ x))
  | .nilck x => .nilck (.k (evE ρ x))
  | .bin op x y => .bin op (.k (evE ρ x)) (.k (evE ρ y))
  | .eq neg q x y => .eq neg q (.k (evE ρ x)) (.k (evE ρ y))
  | .un op x => .un op (.k (evE ρ x))
  | .i2i k x => .i2i k (.k (evE ρ x))
  | .s2s x => .s2s (.k (evE ρ x))
  | .s2b x => .s2b (.k (evE ρ x))
  | .b2s x => .b2s (.k (evE ρ x))
  | .ifc q x => .ifc q (.k (evE ρ x))
  | .mkfn f xs ys => .mkfn f (xs.map fun x => .k (evE ρ x)) (ys.map fun x => .k (evE ρ x))
  | .slcS x lo hi => .slcS (.k (evE ρ x)) (lo.map fun x => .k (evE ρ x)) (hi.map fun x => .k (evE ρ x))
  | .slc z x lo hi => .slc z (.k (evE ρ x)) (lo.map fun x => .k (evE ρ x)) (hi.map fun x => .k (evE ρ x))
  | .faddr off x => .faddr off (.k (evE ρ x))
  | .fld off q x => .fld off q (.k (evE ρ x))
  | .iaddr arr z x i => .iaddr arr z (.k (evE ρ x)) (.k (evE ρ i))
  | .sidx x i => .sidx (.k (evE ρ x)) (.k (evE ρ i))
  | .aidx l z q x i => .aidx l z q (.k (evE ρ x)) (.k (evE ρ i))
  | .ext i x => .ext i (.k (evE ρ x))
  | .len x => .len (.k (evE ρ x))
  | .lenS x => .lenS (.k (evE ρ x))
  | .app z b s x y => .app z b s (.k (evE ρ x)) (.k (evE ρ y))
  | .mkslice z b x y => .mkslice z b (.k (evE ρ x)) (.k (evE ρ y))
  | .mm mx xs => .mm mx (xs.map fun x => .k (evE ρ x))
  | .bad => .bad
  | .mkmap => .mkmap
  | .rng x => .rng (.k (evE ρ x))
  | .nxt x => .nxt (.k (evE ρ x))
  | .i2s x => .i2s (.k (evE ρ x))
  | .clr z x => .clr z (.k (evE ρ x))
  | .idxB x y => .idxB (.k (evE ρ x)) (.k (evE ρ y))
  | .lkp tr z ok m k => .lkp tr z ok (.k (evE ρ m)) (.k (evE ρ k))
  | .mup tr m k v => .mup tr (.k (evE ρ m)) (.k (evE ρ k)) (.k (evE ρ v))
  | .call f xs => .call f (xs.map fun x => .k (evE ρ x))
  | .callv f xs => .callv (.k (evE ρ f)) (xs.map fun x => .k (evE ρ x))
  | .inv tbl f xs => .inv tbl (.k (evE ρ f)) (xs.map fun x => .k (evE ρ x))
  | .tas tbl x => .tas tbl (.k (evE ρ x))
  | .cpy z d s => .cpy z (.k (evE ρ d)) (.k (evE ρ s))
theorem kE_parts {N : Nat} {ρ : Env} : ∀ {l : List (Nat × Nat × AO)}, (l.map (·.2.2)).all (aoIn N) = true →
    (l.map fun p => (p.1, p.2.1, AO.k (evE ρ p.2.2))).map (fun p => (p.1, p.2.1, p.2.2.ev [])) = l.map (fun p => (p.1, p.2.1, p.2.2.ev (Frm N ρ))) ∧
    (l.map fun p => (p.1, p.2.1, AO.k (evE ρ p.2.2))).map (fun p => p.2.2.ev []) = l.map (fun p => p.2.2.ev (Frm N ρ)) ∧
    ∀ xs : List AV, (((l.map fun p => (p.1, p.2.1, AO.k (evE ρ p.2.2))).zip xs).map fun p => (p.1.1, p.1.2.1, p.2)) = ((l.zip xs).map fun p => (p.1.1, p.1.2.1, p.2))
  | [], _ => ⟨rfl, rfl, fun _ => rfl⟩
  | x :: r, hl => by
    simp only [List.map_cons, List.all_cons, Bool.and_eq_true] at hl
    obtain ⟨a, b, c⟩ := kE_parts (ρ := ρ) (l := r) hl.2
    refine ⟨?_, ?_, fun xs => ?_⟩
    · rw [List.map_cons, List.map_cons, a, List.map_cons]
      show (x.1, x.2.1, evE ρ x.2.2) :: _ = _
      rw [Frm_ev hl.1]
    · rw [List.map_cons, List.map_cons, b, List.map_cons]
      show evE ρ x.2.2 :: _ = _
      rw [Frm_ev hl.1]
    · cases xs with
      | nil => rfl
      | cons y ys =>
        simp only [List.map_cons, List.zip_cons_cons]
        rw [c ys]
theorem kE_list {N : Nat} {ρ : Env} {l : List AO} (h : l.all (aoIn N) = true) : (l.map fun x => AO.k (evE ρ x)).map (AO.ev []) = l.map (AO.ev (Frm N ρ)) := by
  rw [map_Frm h, List.map_map]; rfl
theorem bound_E {N : Nat} {ρ : Env} {x : Option AO} (hx : x.toList.all (aoIn N) = true) (n : Nat) : bound (x.map fun y => AO.k (evE ρ y)) [] n = bound x (Frm N ρ) n := by
  cases x with
  | none => rfl
  | some y =>
    simp only [Option.toList_some, List.all_cons, List.all_nil, Bool.and_true] at hx
    simp only [Option.map_some, bound, ev_k]
    rw [Frm_ev hx]
theorem aop_E {N : Nat} {ρ : Env} {o : AOp} (ho : o.aos.all (aoIn N) = true) (g : Nat → Option Obj) (n : Nat) : aop o (Frm N ρ) g n = aop (kE ρ o) [] g n := by
  cases o <;> simp only [AOp.aos, List.all_cons, List.all_nil, Bool.and_eq_true, Bool.and_true] at ho
  case alloc => rfl
  case cst => rfl
  case bad => rfl
  case mkmap => rfl
  case rng x => simp only [kE, aop, ev_k]; rw [Frm_ev ho]
  case nxt x => simp only [kE, aop, ev_k]; rw [Frm_ev ho]
  case i2s x => simp only [kE, aop, ev_k]; rw [Frm_ev ho]
  case clr z x => simp only [kE, aop, ev_k]; rw [Frm_ev ho]
  case idxB x y => simp only [kE, aop, ev_k]; rw [Frm_ev ho.1, Frm_ev ho.2]
  case lkp tr z ok m k => simp only [kE, aop, ev_k]; rw [Frm_ev ho.1, Frm_ev ho.2]; try rfl
  case mup tr m k v => simp only [kE, aop, ev_k]; rw [Frm_ev ho.1, Frm_ev ho.2.1, Frm_ev ho.2.2]; try rfl
  case call => rfl
  case callv => rfl
  case inv => rfl
  case tas tbl x => simp only [kE, aop, ev_k]; rw [Frm_ev ho]
  case cpy z d s => simp only [kE, aop, ev_k]; rw [Frm_ev ho.1, Frm_ev ho.2]
  case pick c a b => simp only [kE, aop, ev_k]; rw [Frm_ev ho.1, Frm_ev ho.2.1, Frm_ev ho.2.2]
  case build z ps => simp only [kE, aop]; rw [(kE_parts ho).1]
  case bslice z m e ps =>
    obtain ⟨a, b, c⟩ := kE_parts (ρ := ρ) ho
    simp only [kE, aop]
    rw [b]
    simp only [c]
  case mkfn f xs ys =>
    rw [List.all_append, Bool.and_eq_true] at ho
    simp only [kE, aop]
    rw [kE_list ho.1, kE_list ho.2]
  case slcS x lo hi =>
    simp only [List.all_append, Bool.and_eq_true] at ho
    simp only [kE, aop, ev_k, bound_E ho.2.1, bound_E ho.2.2, cutL_map]
    rw [Frm_ev ho.1]
  case slc z x lo hi =>
    simp only [List.all_append, Bool.and_eq_true] at ho
    simp only [kE, aop, ev_k, bound_E ho.2.1, bound_E ho.2.2, cutL_map]
    rw [Frm_ev ho.1]
  case mm mx xs => simp only [kE, aop]; rw [kE_list ho]
  case mv x => simp only [kE, aop, ev_k]; rw [Frm_ev ho]
  case box x => simp only [kE, aop, ev_k]; rw [Frm_ev ho]; try rfl
  case load n a => simp only [kE, aop, ev_k]; rw [Frm_ev ho]
  case nilck a => simp only [kE, aop, ev_k]; rw [Frm_ev ho]
  case un op a => simp only [kE, aop, ev_k]; rw [Frm_ev ho]
  case i2i op a => simp only [kE, aop, ev_k]; rw [Frm_ev ho]
  case s2s a => simp only [kE, aop, ev_k]; rw [Frm_ev ho]
  case s2b a => simp only [kE, aop, ev_k]; rw [Frm_ev ho]
  case b2s a => simp only [kE, aop, ev_k]; rw [Frm_ev ho]
  case ifc q a => simp only [kE, aop, ev_k]; rw [Frm_ev ho]
  case faddr q a => simp only [kE, aop, ev_k]; rw [Frm_ev ho]
  case fld q n a => simp only [kE, aop, ev_k]; rw [Frm_ev ho]
  case ext i a => simp only [kE, aop, ev_k]; rw [Frm_ev ho]
  case len a => simp only [kE, aop, ev_k]; rw [Frm_ev ho]
  case lenS a => simp only [kE, aop, ev_k]; rw [Frm_ev ho]
  case store q a x => simp only [kE, aop, ev_k]; rw [Frm_ev ho.1, Frm_ev ho.2]; try rfl
  case bin q a x => simp only [kE, aop, ev_k]; rw [Frm_ev ho.1, Frm_ev ho.2]
  case eq q n a x => simp only [kE, aop, ev_k]; rw [Frm_ev ho.1, Frm_ev ho.2]
  case iaddr q n a x => simp only [kE, aop, ev_k]; rw [Frm_ev ho.1, Frm_ev ho.2]
  case sidx a x => simp only [kE, aop, ev_k]; rw [Frm_ev ho.1, Frm_ev ho.2]
  case aidx q n m a x => simp only [kE, aop, ev_k]; rw [Frm_ev ho.1, Frm_ev ho.2]
  case app q n m a x => simp only [kE, aop, ev_k]; rw [Frm_ev ho.1, Frm_ev ho.2]
  case mkslice q n a x => simp only [kE, aop, ev_k]; rw [Frm_ev ho.1, Frm_ev ho.2]
end Go.AX
/- The walk: what is to be shown of a piece of code, and that it is enough. -/
namespace Go.AX
open Go
abbrev Known := Nat → List AV → Option AV
def KnownOk (P : Program) (C : Known) : Prop := ∀ f xs v, C f xs = some v → Pure P f xs v ∧ flats xs = true ∧ flat v = true
def CallR (P : Program) (f : Nat) (args : List AV) (s : St) (xs : List AV) (s' : St) (K : AV → St → Prop) : Prop :=
  ACalls P f args s K ∨ ∃ v, PureF P f xs v ∧ K v s'
def callE (P : Program) (C : Known) (f : Nat) (args : List AV) (s : St) (K : AV → St → Prop) : Prop :=
  match views s.get args with
  | some (xs, ps) => match C f xs with
    | some v => K v (s.puts ps)
    | none => CallR P f args s xs (s.puts ps) K
  | none => ACalls P f args s K
def opE (P : Program) (C : Known) (ρ : Env) (s : St) (K : AV → St → Prop) (op : AOp) : Prop :=
  match op with
  | .call f args => callE P C f (args.map (evE ρ)) s K
  | .callv f args => match evE ρ f with
    | .fn (.func g) first cap => callE P C g (first ++ args.map (evE ρ) ++ cap) s K
    | .fn (.yield l) [] [] => AYield P l (args.map (evE ρ)) s K
    | _ => False
  | .inv tbl r args => match invK tbl (evE ρ r) with
    | some (g, v) => callE P C g (v :: args.map (evE ρ)) s K
    | none => False
  | .eq neg t x y => match eqv t (evE ρ x) (evE ρ y) with
    | some b => K (.bool (if neg then !b else b)) s
    | none => eqU t (evE ρ x) (evE ρ y) = true ∧ ∀ b, K (.bool b) s
  | op => match aop (kE ρ op) [] s.get s.next with
    | some (v, ps, qs) => K v (s.apply ps qs)
    | none => False
def guardE (ρ : Env) (X Y : Prop) : Option (Option Nat × Bool) → Prop
  | none => X
  | some (none, _) => Y
  | some (some t, want) => match ρ t with
    | .bool b => if b = want then X else Y
    | .any => False
    | _ => Y
def opsE (P : Program) (C : Known) (K : Env → St → Prop) : List AOper → Env → St → Prop
  | [], ρ, s => K ρ s
  | o :: r, ρ, s => guardE ρ (opE P C ρ s (fun v s' => opsE P C K r (updD ρ o.dst v) s') o.op) (opsE P C K r (updD ρ o.dst (.tup [])) s) o.guard
def unseen (s : St) (ps : List (Nat × Obj)) : List Nat := (ps.filter fun p => match s.get p.1 with
  | some (.cells _ _ sn) => !sn
  | _ => true).map (·.1)
def Wf (s : St) : Prop := ∀ id, s.next ≤ id → s.get id = none
def DGen (P : Program) (f : Nat) (args : List AV) (s : St) (K : AV → St → Entry → Prop) : Prop :=
  ∃ v s' Wr, ACalls P f args s (fun v' t => v' = v ∧ t = s') ∧ Wf s ∧ s.next ≤ s'.next ∧ Wf s' ∧ ((∀ id ∈ Wr, id < s.next) ∧ ∀ id, id < s.next → id ∉ Wr → s'.get id = s.get id) ∧ K v s' ⟨List.range s.next, Wr, s.next, s'.next⟩
def dcallE (P : Program) (C : Known) (f : Nat) (args : List AV) (s : St) (K : AV → St → Entry → Prop) : Prop :=
  match views s.get args with
  | some (xs, ps) => match C f xs with
    | some v => (∀ id ∈ idsDs args, id < s.next) ∧ K v (s.puts ps) ⟨idsDs args, unseen s ps, s.next, s.next⟩
    | none => (∃ v, PureF P f xs v ∧ (∀ id ∈ idsDs args, id < s.next) ∧ K v (s.puts ps) ⟨idsDs args, unseen s ps, s.next, s.next⟩) ∨ DGen P f args s K
  | none => DGen P f args s K
def dopE (P : Program) (C : Known) (ρ : Env) (s : St) (K : AV → St → Entry → Prop) (op : AOp) : Prop :=
  match op with
  | .call f args => dcallE P C f (args.map (evE ρ)) s K
  | .callv f args => match evE ρ f with
    | .fn (.func g) first cap => dcallE P C g (first ++ args.map (evE ρ) ++ cap) s K
    | _ => False
  | .inv tbl r args => match invK tbl (evE ρ r) with
    | some (g, v) => dcallE P C g (v :: args.map (evE ρ)) s K
    | none => False
  | op => match aop (kE ρ op) [] s.get s.next with
    | some (v, ps, qs) => (∀ id ∈ fpr (kE ρ op) [], id < s.next) ∧ K v (s.apply ps qs) ⟨fpr (kE ρ op) [], ps.map (·.1), s.next, (s.apply ps qs).next⟩
    | none => False
def drawE (P : Program) (C : Known) (K : Env → St → List Entry → Prop) : List AOper → Env → St → List Entry → Prop
  | [], ρ, s, es => K ρ s es
  | o :: r, ρ, s, es => guardE ρ (dopE P C ρ s (fun v s' e => drawE P C K r (updD ρ o.dst v) s' (es ++ [e])) o.op) (drawE P C K r (updD ρ o.dst (.tup [])) s (es ++ [⟨[], [], s.next, s.next⟩])) o.guard
abbrev PostE := Exit → Env → St → Prop
def thenE (K : Env → St → Prop) (Q : PostE) : PostE
  | .normal, ρ, s => K ρ s
  | e, ρ, s => Q e ρ s
def inBlockE (id : Nat) (Q : PostE) : PostE
  | .exit i, ρ, s => if i = id then Q .normal ρ s else Q (.exit i) ρ s
  | e, ρ, s => Q e ρ s
def LoopE (body : PostE → Env → St → Prop) (Q : PostE) : Nat → Env → St → Prop
  | 0, _, _ => False
  | n + 1, ρ, s => body (thenE (LoopE body Q n) Q) ρ s
def LoopX (body : PostE → Env → St → Prop) (Q : PostE) (ρ : Env) (s : St) : Prop := ∃ n, LoopE body Q n ρ s
def W (P : Program) (C : Known) : ACode → PostE → Env → St → Prop
  | .skip, Q, ρ, s => Q .normal ρ s
  | .region l, Q, ρ, s => opsE P C (Q .normal) l ρ s
  | .draw m l, Q, ρ, s => drawE P C (fun ρ s es => indepB m es 0 es = true ∧ Q .normal ρ s) l ρ s []
  | .drawT m l r, Q, ρ, s => drawE P C (fun ρ s es => indepB m es 0 es = true ∧ opsE P C (Q .normal) r ρ s) l ρ s []
  | .rangeF _ _ _ _, _, _, _ => False
  | .seq a b, Q, ρ, s => W P C a (thenE (W P C b Q) Q) ρ s
  | .cond c a b, Q, ρ, s => match evE ρ c with
    | .bool t => if t then W P C a Q ρ s else W P C b Q ρ s
    | _ => False
  | .block id a, Q, ρ, s => W P C a (inBlockE id Q) ρ s
  | .loop a, Q, ρ, s => LoopX (W P C a) Q ρ s
  | .exit id, Q, ρ, s => Q (.exit id) ρ s
  | .ret, Q, ρ, s => Q .ret ρ s
def QF (N : Nat) (Q : PostE) : Exit → List AV → St → Prop := fun e F s => ∃ ρ, F = Frm N ρ ∧ Q e ρ s
section
variable {P : Program} {C : Known} {N : Nat}
theorem callE_sound (hC : KnownOk P C) {f : Nat} {args : List AV} {s : St} {K : AV → St → Prop} (h : callE P C f args s K) : ACalls P f args s K := by
  unfold callE at h
  split at h
  · rename_i xs ps hv
    split at h
    · rename_i v hc
      obtain ⟨h1, h2, h3⟩ := hC _ _ _ hc
      refine ACalls.views hv ((h1.any h2 h3 (s.puts ps)).mono fun v' s' hh => ?_)
      obtain ⟨rfl, rfl⟩ := hh
      exact h
    · rcases h with h | ⟨v, ⟨h1, h2, h3⟩, h⟩
      · exact h
      · refine ACalls.views hv ((h1.any h2 h3 (s.puts ps)).mono fun v' s' hh => ?_)
        obtain ⟨rfl, rfl⟩ := hh
        exact h
  · exact h
theorem gd_E {ρ : Env} {g : Option (Option Nat × Bool)} (hg : (match g with | some (some t, _) => decide (t < N) | _ => true) = true) {X Y : Prop} (h : guardE ρ X Y g) :
    (gd (Frm N ρ) g = some true ∧ X) ∨ (gd (Frm N ρ) g = some false ∧ Y) := by
  unfold guardE at h
  split at h
  · exact .inl ⟨rfl, h⟩
  · exact .inr ⟨rfl, h⟩
  · rename_i t want
    simp only [decide_eq_true_eq] at hg
    have e := Frm_get (ρ := ρ) hg
    split at h
    · rename_i b hb
      split at h
      · rename_i hw
        subst hw
        exact .inl ⟨by simp [gd, e, hb], h⟩
      · rename_i hw
        refine .inr ⟨?_, h⟩
        simp [gd, e, hb, hw]
    · exact h.elim
    · rename_i h1 h2
      refine .inr ⟨?_, h⟩
      simp only [gd, e]
theorem opsE_sound (hC : KnownOk P C) {Q : List AV → St → Prop} {K : Env → St → Prop} (hK : ∀ ρ s, K ρ s → Q (Frm N ρ) s) : ∀ (l : List AOper) (ρ : Env) (s : St), l.all (operIn N) = true → opsE P C K l ρ s → OpsWP P Q l (Frm N ρ) s
  | [], ρ, s, _, h => hK ρ s h
  | o :: r, ρ, s, hl, h => by
    simp only [List.all_cons, Bool.and_eq_true] at hl
    obtain ⟨ho1, ho2, ho3⟩ := operIn_spec hl.1
    have ih := opsE_sound hC hK r
    simp only [opsE] at h
    simp only [OpsWP]
    rcases gd_E ho3 h with ⟨hg, h⟩ | ⟨hg, h⟩
    · rw [hg]
      simp only
      have key : ∀ v s', opsE P C K r (updD ρ o.dst v) s' → OpsWP P Q r (setD (Frm N ρ) o.dst v) s' := fun v s' hh => by
        rw [Frm_set]; exact ih _ _ hl.2 hh
      unfold opE at h
      split at h
      · rename_i f args hop
        rw [hop] at ho1
        have hm : args.all (aoIn N) = true := ho1
        simp only [hop, isCall, if_true, callOf]
        rw [map_Frm hm]
        exact (callE_sound hC h).mono fun v s' => key v s'
      · rename_i f args hop
        rw [hop] at ho1
        simp only [AOp.aos, List.all_cons, Bool.and_eq_true] at ho1
        simp only [hop, isCall, if_true, callOf]
        rw [map_Frm ho1.2, Frm_ev ho1.1]
        split at h
        · rename_i g first cap hf
          rw [hf]
          exact (callE_sound hC h).mono fun v s' => key v s'
        · rename_i l hf
          rw [hf]
          simp only [yieldOf, Frm_ev ho1.1, hf, map_Frm ho1.2]
          exact h.mono fun v s' => key v s'
        · exact h.elim
      · rename_i tbl r args hop
        rw [hop] at ho1
        simp only [AOp.aos, List.all_cons, Bool.and_eq_true] at ho1
        simp only [hop, isCall, if_true, callOf]
        rw [map_Frm ho1.2, Frm_ev ho1.1]
        split at h
        · rename_i g v hf
          rw [hf]
          exact (callE_sound hC h).mono fun v s' => key v s'
        · exact h.elim
      · rename_i neg t x y hop
        rw [hop] at ho1
        simp only [AOp.aos, List.all_cons, List.all_nil, Bool.and_true, Bool.and_eq_true] at ho1
        simp only [hop, isCall, Bool.false_eq_true, if_false, aop, undet, Frm_ev ho1.1, Frm_ev ho1.2]
        split at h
        · rename_i b hb
          rw [hb]
          exact key _ _ h
        · rename_i hb
          rw [hb]
          exact ⟨h.1, fun b => key _ _ (h.2 b)⟩
      · rename_i h1 h2 h3
        have hc : isCall o.op = false := by
          cases hop : o.op <;> simp [isCall] <;> simp_all
        simp only [hc, Bool.false_eq_true, if_false]
        rw [aop_E ho1]
        split at h
        · rename_i v ps qs hv
          rw [hv]
          exact key v _ h
        · exact h.elim
    · rw [hg]
      simp only
      rw [Frm_set]
      exact ih _ _ hl.2 h
mutual
theorem view_obj {g : Nat → Option Obj} : ∀ (x y : AV) (ps : List (Nat × Obj)), view g x = some (y, ps) → ∀ p ∈ ps, ∃ e cs sn, g p.1 = some (.cells e cs sn) ∧ p.2 = .cells e cs true
  | .sl b e o m z, y, ps, h => by
    simp only [view] at h
    split at h
    · rename_i e' cs sn hg
      split at h
      · rename_i he
        simp only [Option.some.injEq, Prod.mk.injEq] at h
        obtain ⟨_, rfl⟩ := h
        intro p hp
        simp only [List.mem_singleton] at hp
        subst hp
        exact ⟨e', cs, sn, hg, by simp [he.1]⟩
      · simp at h
    · simp at h
  | .agg cs, y, ps, h => by
    simp only [view] at h
    split at h
    · rename_i xs q h1
      simp only [Option.some.injEq, Prod.mk.injEq] at h
      obtain ⟨_, rfl⟩ := h
      exact views_obj cs _ _ h1
    · simp at h
  | .tup cs, y, ps, h => by
    simp only [view] at h
    split at h
    · rename_i xs q h1
      simp only [Option.some.injEq, Prod.mk.injEq] at h
      obtain ⟨_, rfl⟩ := h
      exact views_obj cs _ _ h1
    · simp at h
  | .bool _, y, ps, h => by simp [view] at h; simp [h.2]
  | .int _ _, y, ps, h => by simp [view] at h; simp [h.2]
  | .str _, y, ps, h => by simp [view] at h; simp [h.2]
  | .nilp, y, ps, h => by simp [view] at h; simp [h.2]
  | .ptr _ _ _, y, ps, h => by simp [view] at h; simp [h.2]
  | .vp _, y, ps, h => by simp [view] at h; simp [h.2]
  | .nils, y, ps, h => by simp [view] at h; simp [h.2]
  | .ps _ _, y, ps, h => by simp [view] at h; simp [h.2]
  | .nilf, y, ps, h => by simp [view] at h; simp [h.2]
  | .fn _ _ _, y, ps, h => by simp [view] at h; simp [h.2]
  | .nili, y, ps, h => by simp [view] at h; simp [h.2]
  | .ifc _ _, y, ps, h => by simp [view] at h; simp [h.2]
  | .nilm, y, ps, h => by simp [view] at h; simp [h.2]
  | .map _, y, ps, h => by simp [view] at h; simp [h.2]
  | .any, y, ps, h => by simp [view] at h; simp [h.2]
theorem views_obj {g : Nat → Option Obj} : ∀ (xs ys : List AV) (ps : List (Nat × Obj)), views g xs = some (ys, ps) → ∀ p ∈ ps, ∃ e cs sn, g p.1 = some (.cells e cs sn) ∧ p.2 = .cells e cs true
  | [], ys, ps, h => by simp [views] at h; simp [h.2]
  | x :: r, ys, ps, h => by
    simp only [views] at h
    split at h
    · rename_i y p1 ys' q h1 h2
      simp only [Option.some.injEq, Prod.mk.injEq] at h
      obtain ⟨_, rfl⟩ := h
      intro p hp
      rcases List.mem_append.1 hp with hp | hp
      · exact view_obj x _ _ h1 p hp
      · exact views_obj r _ _ h2 p hp
    · simp at h
end
theorem puts_same (s0 : St) (id : Nat) : ∀ (ps : List (Nat × Obj)) (s : St), s.get id = s0.get id → (∀ p ∈ ps, p.1 = id → s0.get id = some p.2) → (∀ p ∈ ps, ∃ o, s.get p.1 = some o) → (s.puts ps).get id = s0.get id
  | [], s, h, _, _ => h
  | p :: r, s, h, hp, hd => by
    show ((s.put p.1 p.2).puts r).get id = _
    obtain ⟨o, ho⟩ := hd p (by simp)
    refine puts_same s0 id r _ ?_ (fun q hq => hp q (by simp [hq])) fun q hq => ?_
    · rw [St.get_put ho]
      split
      · rename_i he; exact (hp p (by simp) he).symm
      · exact h
    · obtain ⟨o2, ho2⟩ := hd q (by simp [hq])
      rw [St.get_put ho]
      split
      · exact ⟨_, rfl⟩
      · exact ⟨o2, ho2⟩
theorem tstep_known {o : AOper} {F : List AV} {s : St} {f : Nat} {args xs : List AV} {ps : List (Nat × Obj)} {v : AV} (hg : gd F o.guard = some true) (hc : isCall o.op = true) (hco : callOf F o.op = some (f, args))
    (hv : views s.get args = some (xs, ps)) (hk : PureF P f xs v) (hD : ∀ id ∈ idsDs args, id < s.next) :
    TStep P o F s ⟨idsDs args, unseen s ps, s.next, s.next⟩ (setD F o.dst v) (s.puts ps) := by
  obtain ⟨k1, k2, k3⟩ := hk
  have hids := views_ids args xs ps hv
  obtain ⟨h1, h2, h3, h4⟩ := apply_part s (idsDs args) ps [] (fun p hp => by simpa using hids p hp)
  have hnext : ∀ (ps : List (Nat × Obj)) (s : St), (s.puts ps).next = s.next := by
    intro ps
    induction ps with
    | nil => intro s; rfl
    | cons p r ih => intro s; exact (ih _).trans rfl
  have hget : ∀ id, id ∈ idsDs args → (s.keep (idsDs args)).get id = s.get id := fun id hid => by rw [St.get_keep, if_pos (by simpa using hid)]
  have hv2 : views (s.keep (idsDs args)).get args = some (xs, ps) := by rw [← hv]; exact views_local args fun id hid => hget id hid
  refine ⟨rfl, (hnext ps s).symm, Nat.le_refl _, hD, fun id hid => ?_, .inr ⟨hg, v, (s.keep (idsDs args)).puts ps, rfl, ?_, (hnext ps _).trans rfl, fun id => ?_, fun id hid hne => ?_⟩⟩
  · simp only [unseen, List.mem_map, List.mem_filter] at hid
    obtain ⟨p, ⟨hp, _⟩, rfl⟩ := hid
    exact hids p hp
  · unfold Det
    rw [if_pos hc]
    exact ⟨f, args, hco, ACalls.views hv2 (k1.any k2 k3 _)⟩
  · have := h3 id
    rw [show (s.apply ps []) = s.puts ps from rfl, hnext] at this
    exact this
  · refine (puts_same (s.keep (idsDs args)) id ps _ rfl (fun p hp he => ?_) fun p hp => ?_).trans (hget id hid)
    · obtain ⟨e, cs, sn, g1, g2⟩ := views_obj args xs ps hv p hp
      have : sn = true := by
        cases sn with
        | true => rfl
        | false =>
          refine (hne ?_).elim
          simp only [unseen, List.mem_map, List.mem_filter]
          exact ⟨p, ⟨hp, by rw [g1]; rfl⟩, he⟩
      subst this
      rw [hget id hid, ← he, g1, g2]
    · obtain ⟨e, cs, sn, g1, g2⟩ := views_obj args xs ps hv p hp
      exact ⟨_, (hget p.1 (hids p hp)).trans g1⟩
theorem acalls_keep {f : FuncId} {args : List AV} {s : St} {R : AV → St → Prop} (hw : Wf s) (h : ACalls P f args s R) : ACalls P f args (s.keep (List.range s.next)) R := by
  have hg : ∀ id, (s.keep (List.range s.next)).get id = s.get id := fun id => by
    rw [St.get_keep]
    by_cases hid : id < s.next
    · rw [if_pos (by simpa using hid)]
    · rw [if_neg (by simpa using hid), hw id (by omega)]
  refine ⟨h.1, fun c w vs hs hr => ?_⟩
  have hs' : Sat c s w := ⟨hs.mem, fun id o ho => hs.obj id o (by rw [hg]; exact ho), fun id id' o o' k h1 h2 => hs.inj id id' o o' k (by rw [hg]; exact h1) (by rw [hg]; exact h2), hs.fresh, fun id o ho => hs.top id o (by rw [hg]; exact ho), hs.low⟩
  refine (h.2 c w vs hs' hr).mono fun e w' ⟨v, u, c', s', h1, h2, h3, h4, h5⟩ => ⟨v, u, c', s', h1, h2, h3, ?_, h5⟩
  have hfp : ∀ k, fp c (s.keep (List.range s.next)) k ↔ fp c s k := fun k => by
    unfold fp; simp only [hg]
  exact ⟨h4.le, h4.size, fun k hk hn => h4.same k hk (fun hf => hn ((hfp k).2 hf)), fun k hf => (h4.foot k hf).elim (fun hf => .inl ((hfp k).2 hf)) .inr, h4.next, fun id hid hn e => h4.sig id hid (by rw [← hg]; exact hn) e, fun id o ho => (h4.dom id o ho).elim (fun ⟨o', ho'⟩ => .inl ⟨o', by rw [hg]; exact ho'⟩) .inr, h4.os⟩
theorem tstep_gen {o : AOper} {F : List AV} {s s' : St} {f : Nat} {args : List AV} {v : AV} (hg : gd F o.guard = some true) (hc : isCall o.op = true) (hco : callOf F o.op = some (f, args))
    (h : ACalls P f args s (fun v' t => v' = v ∧ t = s')) (hw : Wf s) (hn : s.next ≤ s'.next) (hw' : Wf s') {Wr : List Nat} (hW : (∀ id ∈ Wr, id < s.next) ∧ ∀ id, id < s.next → id ∉ Wr → s'.get id = s.get id) :
    TStep P o F s ⟨List.range s.next, Wr, s.next, s'.next⟩ (setD F o.dst v) s' := by
  refine ⟨rfl, rfl, hn, fun id hid => by simpa using hid, fun id hid => by simpa using hW.1 id hid, .inr ⟨hg, v, s', rfl, ?_, rfl, fun id => ?_, fun id hid hne => hW.2 id (by simpa using hid) hne⟩⟩
  · unfold Det
    rw [if_pos hc]
    exact ⟨f, args, hco, acalls_keep hw h⟩
  · split
    · rfl
    · rename_i hnot
      simp only [Bool.or_eq_true, Bool.and_eq_true, decide_eq_true_eq, List.contains_iff_mem, List.mem_range] at hnot
      have h1 : ¬ id < s.next := fun h => hnot (.inl h)
      have h2 : ¬ id < s'.next := fun h => hnot (.inr ⟨by omega, h⟩)
      rw [hw id (by omega), hw' id (by omega)]
end
end Go.AX
/- The walk is enough; loops; functions. -/
namespace Go.AX
open Go
section
variable {P : Program} {C : Known} {N : Nat}
theorem fpr_E {ρ : Env} {o : AOp} (ho : o.aos.all (aoIn N) = true) : fpr o (Frm N ρ) = fpr (kE ρ o) [] := by
  cases o <;> (try rfl) <;> simp only [AOp.aos, List.all_cons, List.all_nil, Bool.and_eq_true, Bool.and_true] at ho
  case load q a => simp only [fpr, kE, ev_k]; rw [Frm_ev ho]
  case store q a x => simp only [fpr, kE, ev_k]; rw [Frm_ev ho.1]
  case bslice z m e ps => simp only [fpr, kE]; rw [(kE_parts ho).2.1]
  case b2s x => simp only [fpr, kE, ev_k]; rw [Frm_ev ho]
  case nxt x => simp only [fpr, kE, ev_k]; rw [Frm_ev ho]
  case clr z x => simp only [fpr, kE, ev_k]; rw [Frm_ev ho]
  case lkp tr z ok m k => simp only [fpr, kE, ev_k]; rw [Frm_ev ho.1]
  case mup tr m k v => simp only [fpr, kE, ev_k]; rw [Frm_ev ho.1]
  case app z b st x y => simp only [fpr, kE, ev_k]; rw [Frm_ev ho.1, Frm_ev ho.2]
  case cpy z d s => simp only [fpr, kE, ev_k]; rw [Frm_ev ho.1, Frm_ev ho.2]
theorem drawE_sound (hC : KnownOk P C) {K : Env → St → List Entry → Prop} : ∀ (l : List AOper) (ρ : Env) (s : St) (es : List Entry), l.all (operIn N) = true → drawE P C K l ρ s es →
    ∃ ρ' s' es', DRun P l (Frm N ρ) s (Frm N ρ') s' es' ∧ K ρ' s' (es ++ es')
  | [], ρ, s, es, _, h => ⟨ρ, s, [], ⟨rfl, rfl, rfl⟩, by rw [List.append_nil]; exact h⟩
  | o :: r, ρ, s, es, hl, h => by
    simp only [List.all_cons, Bool.and_eq_true] at hl
    obtain ⟨ho1, ho2, ho3⟩ := operIn_spec hl.1
    simp only [drawE] at h
    have key : ∀ (v : AV) (s1 : St) (e : Entry), TStep P o (Frm N ρ) s e (setD (Frm N ρ) o.dst v) s1 → drawE P C K r (updD ρ o.dst v) s1 (es ++ [e]) → ∃ ρ' s' es', DRun P (o :: r) (Frm N ρ) s (Frm N ρ') s' es' ∧ K ρ' s' (es ++ es') := fun v s1 e ht hd => by
      obtain ⟨ρ', s', es', h1, h2⟩ := drawE_sound hC r _ _ _ hl.2 hd
      refine ⟨ρ', s', e :: es', ⟨_, s1, e, es', rfl, ht, ?_⟩, by simpa using h2⟩
      rw [Frm_set]; exact h1
    rcases gd_E ho3 h with ⟨hg, h⟩ | ⟨hg, h⟩
    · have hdc : ∀ (f : Nat) (args : List AV), isCall o.op = true → callOf (Frm N ρ) o.op = some (f, args) → dcallE P C f args s (fun v s' e => drawE P C K r (updD ρ o.dst v) s' (es ++ [e])) → ∃ ρ' s' es', DRun P (o :: r) (Frm N ρ) s (Frm N ρ') s' es' ∧ K ρ' s' (es ++ es') := fun f args hic hco h => by
        have gen : DGen P f args s (fun v s' e => drawE P C K r (updD ρ o.dst v) s' (es ++ [e])) → ∃ ρ' s' es', DRun P (o :: r) (Frm N ρ) s (Frm N ρ') s' es' ∧ K ρ' s' (es ++ es') := fun h => by
          obtain ⟨v, s', Wr, h1, h2, h3, h4, hW, h5⟩ := h
          exact key v _ _ (tstep_gen hg hic hco h1 h2 h3 h4 hW) h5
        unfold dcallE at h
        split at h
        · rename_i xs ps hv
          split at h
          · rename_i v hk
            obtain ⟨hD, h⟩ := h
            exact key v _ _ (tstep_known hg hic hco hv (hC _ _ _ hk) hD) h
          · rcases h with ⟨v, hk, hD, h⟩ | h
            · exact key v _ _ (tstep_known hg hic hco hv hk hD) h
            · exact gen h
        · exact gen h
      unfold dopE at h
      split at h
      · rename_i f args hop
        rw [hop] at ho1
        have hm : args.all (aoIn N) = true := ho1
        exact hdc f _ (by rw [hop]; rfl) (by rw [hop]; simp only [callOf]; rw [map_Frm hm]) h
      · rename_i f args hop
        rw [hop] at ho1
        simp only [AOp.aos, List.all_cons, Bool.and_eq_true] at ho1
        split at h
        · rename_i g first cap hf
          exact hdc g _ (by rw [hop]; rfl) (by rw [hop]; simp only [callOf]; rw [map_Frm ho1.2, Frm_ev ho1.1, hf]) h
        · exact h.elim
      · rename_i tbl ro args hop
        rw [hop] at ho1
        simp only [AOp.aos, List.all_cons, Bool.and_eq_true] at ho1
        split at h
        · rename_i g v hf
          exact hdc g _ (by rw [hop]; rfl) (by rw [hop]; simp only [callOf]; rw [map_Frm ho1.2, Frm_ev ho1.1, hf]) h
        · exact h.elim
      · rename_i h1 h2 h3
        have hc : isCall o.op = false := by
          cases hop : o.op <;> simp [isCall] <;> simp_all
        split at h
        · rename_i v ps qs hv
          obtain ⟨hD, h⟩ := h
          rw [← aop_E ho1] at hv
          have ht := tstep_op (P := P) hg hc hv (by rw [fpr_E ho1]; exact hD)
          rw [fpr_E ho1] at ht
          exact key v _ _ ht h
        · exact h.elim
    · exact key (.tup []) s ⟨[], [], s.next, s.next⟩ ⟨rfl, rfl, Nat.le_refl _, by simp, by simp, .inl ⟨hg, rfl, rfl, rfl⟩⟩ h
theorem W_sound (hmix : P.follows .mixedOrders = true) (hC : KnownOk P C) : ∀ (c : ACode) (Q : PostE) (ρ : Env) (s : St), codeIn N c = true → W P C c Q ρ s → AWP P c (QF N Q) (Frm N ρ) s
  | .skip, Q, ρ, s, _, h => awp_skip ⟨ρ, rfl, h⟩
  | .exit id, Q, ρ, s, _, h => awp_exit ⟨ρ, rfl, h⟩
  | .ret, Q, ρ, s, _, h => awp_ret ⟨ρ, rfl, h⟩
  | .region l, Q, ρ, s, hin, h => awp_region (opsE_sound hC (fun ρ s hh => ⟨ρ, rfl, hh⟩) l ρ s (by simpa [codeIn] using hin) h)
  | .draw m l, Q, ρ, s, hin, h => by
    obtain ⟨ρ', s', es', h1, h2⟩ := drawE_sound hC l ρ s [] (by simpa [codeIn] using hin) h
    simp only [List.nil_append] at h2
    exact awp_drun hmix h1 h2.1 ⟨ρ', rfl, h2.2⟩
  | .drawT m l r, Q, ρ, s, hin, h => by
    simp only [codeIn, Bool.and_eq_true] at hin
    obtain ⟨ρ', s', es', h1, h2⟩ := drawE_sound hC l ρ s [] hin.1 h
    simp only [List.nil_append] at h2
    exact awp_drunT hmix h1 h2.1 (opsE_sound hC (fun ρ s hh => ⟨ρ, rfl, hh⟩) r ρ' s' hin.2 h2.2)
  | .rangeF _ _ _ _, Q, ρ, s, hin, h => h.elim
  | .seq a b, Q, ρ, s, hin, h => by
    simp only [codeIn, Bool.and_eq_true] at hin
    refine awp_seq ((W_sound hmix hC a _ ρ s hin.1 h).mono fun e F s hq => ?_)
    obtain ⟨ρ', rfl, hq⟩ := hq
    cases e with
    | normal => exact W_sound hmix hC b Q ρ' s hin.2 hq
    | _ => exact ⟨ρ', rfl, hq⟩
  | .cond c a b, Q, ρ, s, hin, h => by
    simp only [codeIn, Bool.and_eq_true] at hin
    simp only [W] at h
    split at h
    · rename_i t ht
      refine awp_cond (t := t) (by rw [Frm_ev hin.1]; exact ht) ?_
      cases t with
      | true => exact W_sound hmix hC a Q ρ s hin.2.1 (by simpa using h)
      | false => exact W_sound hmix hC b Q ρ s hin.2.2 (by simpa using h)
    · exact h.elim
  | .block id a, Q, ρ, s, hin, h => by
    refine awp_block ((W_sound hmix hC a _ ρ s (by simpa [codeIn] using hin) h).mono fun e F s hq => ?_)
    obtain ⟨ρ', rfl, hq⟩ := hq
    cases e with
    | exit i =>
      simp only [inBlockE] at hq
      simp only [blockQ]
      split at hq
      · rename_i hi; rw [if_pos hi]; exact ⟨ρ', rfl, hq⟩
      · rename_i hi; rw [if_neg hi]; exact ⟨ρ', rfl, hq⟩
    | _ => exact ⟨ρ', rfl, hq⟩
  | .loop a, Q, ρ, s, hin, h => by
    obtain ⟨n, h⟩ := h
    refine awp_loop n ?_
    have key : ∀ (n : Nat) (ρ : Env) (s : St), LoopE (W P C a) Q n ρ s → LoopN P a (QF N Q) n (Frm N ρ) s := by
      intro n
      induction n with
      | zero => intro ρ s h; exact h.elim
      | succ n ih =>
        intro ρ s h
        refine (W_sound hmix hC a _ ρ s (by simpa [codeIn] using hin) h).mono fun e F s hq => ?_
        obtain ⟨ρ', rfl, hq⟩ := hq
        cases e with
        | normal => exact ih ρ' s hq
        | _ => exact ⟨ρ', rfl, hq⟩
    exact key n ρ s h
theorem guardE_mono {ρ : Env} {X Y X' Y' : Prop} (hx : X → X') (hy : Y → Y') {g : Option (Option Nat × Bool)} (h : guardE ρ X Y g) : guardE ρ X' Y' g := by
  unfold guardE at h ⊢
  split at h
  · exact hx h
  · exact hy h
  · split at h
    · split at h
      · rename_i hb; rw [if_pos hb]; exact hx h
      · rename_i hb; rw [if_neg hb]; exact hy h
    · exact h.elim
    · exact hy h
theorem callE_mono {f : Nat} {args : List AV} {s : St} {K K' : AV → St → Prop} (hk : ∀ v s, K v s → K' v s) (h : callE P C f args s K) : callE P C f args s K' := by
  unfold callE at h ⊢
  split at h
  · split at h
    · exact hk _ _ h
    · rcases h with h | ⟨v, h1, h2⟩
      · exact .inl (h.mono hk)
      · exact .inr ⟨v, h1, hk _ _ h2⟩
  · exact h.mono hk
theorem opE_mono {ρ : Env} {s : St} {K K' : AV → St → Prop} (hk : ∀ v s, K v s → K' v s) {op : AOp} (h : opE P C ρ s K op) : opE P C ρ s K' op := by
  unfold opE at h ⊢
  split at h
  · exact callE_mono hk h
  · split at h
    · exact callE_mono hk h
    · exact h.mono hk
    · exact h.elim
  · split at h
    · exact callE_mono hk h
    · exact h.elim
  · split at h
    · exact hk _ _ h
    · exact ⟨h.1, fun b => hk _ _ (h.2 b)⟩
  · split at h
    · exact hk _ _ h
    · exact h.elim
theorem opsE_mono {K K' : Env → St → Prop} (hk : ∀ ρ s, K ρ s → K' ρ s) : ∀ (l : List AOper) (ρ : Env) (s : St), opsE P C K l ρ s → opsE P C K' l ρ s
  | [], ρ, s, h => hk ρ s h
  | o :: r, ρ, s, h => by
    simp only [opsE] at h ⊢
    exact guardE_mono (opE_mono fun v s' => opsE_mono hk r _ _) (opsE_mono hk r _ _) h
theorem dopE_mono {ρ : Env} {s : St} {K K' : AV → St → Entry → Prop} (hk : ∀ v s e, K v s e → K' v s e) {op : AOp} (h : dopE P C ρ s K op) : dopE P C ρ s K' op := by
  have gen : ∀ {f : Nat} {args : List AV}, DGen P f args s K → DGen P f args s K' := fun ⟨v, s', Wr, h1, h2, h3, h4, hW, h5⟩ => ⟨v, s', Wr, h1, h2, h3, h4, hW, hk _ _ _ h5⟩
  have dc : ∀ {f : Nat} {args : List AV}, dcallE P C f args s K → dcallE P C f args s K' := fun h => by
    unfold dcallE at h ⊢
    split at h
    · split at h
      · exact ⟨h.1, hk _ _ _ h.2⟩
      · rcases h with ⟨v, h1, h2, h3⟩ | h
        · exact .inl ⟨v, h1, h2, hk _ _ _ h3⟩
        · exact .inr (gen h)
    · exact gen h
  unfold dopE at h ⊢
  split at h
  · exact dc h
  · split at h
    · exact dc h
    · exact h.elim
  · split at h
    · exact dc h
    · exact h.elim
  · split at h
    · exact ⟨h.1, hk _ _ _ h.2⟩
    · exact h
theorem drawE_mono {K K' : Env → St → List Entry → Prop} (hk : ∀ ρ s es, K ρ s es → K' ρ s es) : ∀ (l : List AOper) (ρ : Env) (s : St) (es : List Entry), drawE P C K l ρ s es → drawE P C K' l ρ s es
  | [], ρ, s, es, h => hk ρ s es h
  | o :: r, ρ, s, es, h => by
    simp only [drawE] at h ⊢
    exact guardE_mono (dopE_mono fun v s' e => drawE_mono hk r _ _ _) (drawE_mono hk r _ _ _) h
theorem W_mono : ∀ (c : ACode) {Q Q' : PostE} (hq : ∀ e ρ s, Q e ρ s → Q' e ρ s) (ρ : Env) (s : St), W P C c Q ρ s → W P C c Q' ρ s
  | .skip, Q, Q', hq, ρ, s, h => hq _ _ _ h
  | .exit id, Q, Q', hq, ρ, s, h => hq _ _ _ h
  | .ret, Q, Q', hq, ρ, s, h => hq _ _ _ h
  | .region l, Q, Q', hq, ρ, s, h => opsE_mono (hq .normal) l ρ s h
  | .draw m l, Q, Q', hq, ρ, s, h => drawE_mono (fun _ _ _ hh => ⟨hh.1, hq _ _ _ hh.2⟩) l ρ s [] h
  | .drawT m l r, Q, Q', hq, ρ, s, h => drawE_mono (fun _ _ _ hh => ⟨hh.1, opsE_mono (hq .normal) r _ _ hh.2⟩) l ρ s [] h
  | .rangeF _ _ _ _, Q, Q', hq, ρ, s, h => h.elim
  | .seq a b, Q, Q', hq, ρ, s, h => W_mono a (fun e ρ s hh => by
    cases e with
    | normal => exact W_mono b hq ρ s hh
    | _ => exact hq _ _ _ hh) ρ s h
  | .cond c a b, Q, Q', hq, ρ, s, h => by
    simp only [W] at h ⊢
    split at h
    · rename_i t ht
      cases t with
      | true => exact W_mono a hq ρ s h
      | false => exact W_mono b hq ρ s h
    · exact h.elim
  | .block id a, Q, Q', hq, ρ, s, h => W_mono a (fun e ρ s hh => by
    cases e with
    | exit i =>
      simp only [inBlockE] at hh ⊢
      split at hh
      · rename_i hi; rw [if_pos hi]; exact hq _ _ _ hh
      · rename_i hi; rw [if_neg hi]; exact hq _ _ _ hh
    | _ => exact hq _ _ _ hh) ρ s h
  | .loop a, Q, Q', hq, ρ, s, ⟨n, h⟩ => by
    refine ⟨n, ?_⟩
    have key : ∀ (n : Nat) (ρ : Env) (s : St), LoopE (W P C a) Q n ρ s → LoopE (W P C a) Q' n ρ s := by
      intro n
      induction n with
      | zero => intro ρ s h; exact h.elim
      | succ n ih =>
        intro ρ s h
        refine W_mono a (fun e ρ s hh => ?_) ρ s h
        cases e with
        | normal => exact ih _ _ hh
        | _ => exact hq _ _ _ hh
    exact key n ρ s h
theorem loop_inv {a : ACode} {Q : PostE} (I : Nat → Env → St → Prop) (h : ∀ n ρ s, I n ρ s → W P C a (thenE (fun ρ' s' => ∃ m, m < n ∧ I m ρ' s') Q) ρ s) {n : Nat} {ρ : Env} {s : St} (h0 : I n ρ s) : LoopX (W P C a) Q ρ s := by
  have key : ∀ (k n : Nat) (ρ : Env) (s : St), n < k → I n ρ s → LoopE (W P C a) Q k ρ s := by
    intro k
    induction k with
    | zero => intro n ρ s hn; omega
    | succ k ih =>
      intro n ρ s hn hi
      refine W_mono a (fun e ρ s hh => ?_) ρ s (h n ρ s hi)
      cases e with
      | normal => obtain ⟨m, hm, hi⟩ := hh; exact ih m ρ s (by omega) hi
      | _ => exact hh
  exact ⟨n + 1, key _ n ρ s (Nat.lt_succ_self n) h0⟩
def env0 (args : List AV) : Env := fun i => args.getD i (.tup [])
theorem frame0_E {args : List AV} {N : Nat} (h : args.length ≤ N) : frame0 args N = Frm N (env0 args) := by
  apply List.ext_getElem?
  intro i
  by_cases hi : i < N
  · rw [Frm_get hi]
    simp only [frame0, env0]
    by_cases h2 : i < args.length
    · rw [List.getElem?_append_left h2]; simp [List.getD_eq_getElem?_getD, h2]
    · rw [List.getElem?_append_right (by omega)]
      rw [List.getElem?_replicate, if_pos (by omega)]
      simp [List.getD_eq_getElem?_getD, List.getElem?_eq_none (show args.length ≤ i by omega)]
  · rw [List.getElem?_eq_none (by simp [frame0]; omega), List.getElem?_eq_none (by simp [Frm_len]; omega)]
def resOneE (ρ : Env) (g : Nat → Option Obj) : Nat × Option (Option Nat) → Option AV
  | (k, none) => some (ρ k)
  | (k, some q) => match rd g (ρ k) with
    | some cs => match q with
      | none => cs[0]?
      | some n => if n ≤ cs.length then some (.agg (cs.take n)) else none
    | none => none
def resAllE (ρ : Env) (g : Nat → Option Obj) : List (Nat × Option (Option Nat)) → Option (List AV)
  | [] => some []
  | r :: l => match resOneE ρ g r, resAllE ρ g l with
    | some v, some vs => some (v :: vs)
    | _, _ => none
def oneOf : List AV → AV
  | [v] => v
  | vs => .tup vs
def retE (res : List (Nat × Option (Option Nat))) (R : AV → St → Prop) (ρ : Env) (s : St) : Prop :=
  match resAllE ρ s.get res with
  | some vs => R (oneOf vs) s
  | none => False
def endE (res : List (Nat × Option (Option Nat))) (R : AV → St → Prop) : PostE
  | .normal, ρ, s => retE res R ρ s
  | .ret, ρ, s => retE res R ρ s
  | _, _, _ => False
theorem resAll_E {ρ : Env} (g : Nat → Option Obj) : ∀ {l : List (Nat × Option (Option Nat))}, resIn N l = true → resAll (Frm N ρ) g l = resAllE ρ g l
  | [], _ => rfl
  | (k, q) :: r, hl => by
    simp only [resIn, List.all_cons, Bool.and_eq_true, decide_eq_true_eq] at hl
    have e := Frm_get (ρ := ρ) hl.1
    simp only [resAllE, resAll]
    rw [resAll_E g (l := r) hl.2]
    have : resOneE ρ g (k, q) = resOne (Frm N ρ) g (k, q) := by
      cases q with
      | none => simp only [resOneE, resOne, e]
      | some q =>
        simp only [resOneE, resOne, List.getD_eq_getElem?_getD, e, Option.getD_some]
        cases rd g (ρ k) <;> rfl
    rw [this]
    cases resOne (Frm N ρ) g (k, q) <;> cases resAllE ρ g r <;> rfl
theorem acalls_W (hmix : P.follows .mixedOrders = true) (hC : KnownOk P C) {f : FuncId} {af : AFun} (hf : cFun P f = some af) (hin : (codeIn af.ntmps af.body && resIn af.ntmps af.results) = true) {args : List AV} {s : St} {R : AV → St → Prop}
    (hl : args.length ≤ af.ntmps) (h : W P C af.body (endE af.results R) (env0 args) s) : ACalls P f args s R := by
  simp only [Bool.and_eq_true] at hin
  refine acalls_body hf ?_
  rw [frame0_E hl]
  refine (W_sound hmix hC af.body _ _ s hin.1 h).mono fun e F s hq => ?_
  obtain ⟨ρ, rfl, hq⟩ := hq
  have key : retE af.results R ρ s → ∃ v, resOf af.results (Frm af.ntmps ρ) s.get = some v ∧ R v s := fun h => by
    unfold retE at h
    split at h
    · rename_i vs hv
      refine ⟨oneOf vs, ?_, h⟩
      simp only [resOf]
      rw [resAll_E _ hin.2, hv]
      rcases vs with _ | ⟨a, _ | ⟨b, r⟩⟩ <;> rfl
    · exact h.elim
  cases e with
  | normal => exact ⟨.inl rfl, key hq⟩
  | ret => exact ⟨.inr rfl, key hq⟩
  | _ => exact hq.elim
end
end Go.AX
/- The rules by which a walk unfolds: one for each word, none by computing in the checker. -/
namespace Go.AX
open Go
class PBox where
  p : Prop
class KBox (α : Type) where
  k : α → Prop
class SBox where
  k : AV → St → Prop
class VBox where
  k : List AV → List (Nat × Obj) → Prop
class QBox where
  q : PostE
class StBox where
  k : St → Prop
def stK (s : St) [K : StBox] : Prop := K.k s
theorem stK_mk (h : List (Nat × Obj)) (n : Nat) (K : St → Prop) : @stK ⟨h, n⟩ ⟨K⟩ = K ⟨h, n⟩ := rfl
def optK {α : Type} (o : Option α) [K : KBox α] : Prop := match o with
  | some v => K.k v
  | none => False
theorem optK_some {α : Type} (v : α) (K : α → Prop) : @optK α (some v) ⟨K⟩ = K v := rfl
def brK (c : Prop) (X Y : PBox) : Prop := (c → X.p) ∧ (¬ c → Y.p)
def brI (c : Prop) [X : PBox] [Y : PBox] : Prop := brK c X Y
theorem brI_true (X Y : Prop) : @brI True ⟨X⟩ ⟨Y⟩ = X := by simp [brI, brK]
theorem brI_false (X Y : Prop) : @brI False ⟨X⟩ ⟨Y⟩ = Y := by simp [brI, brK]
def guardV (v : AV) (want : Bool) [X : PBox] [Y : PBox] : Prop := match v with
  | .bool b => if b = want then X.p else Y.p
  | .any => False
  | _ => Y.p
theorem guardV_bool (b want : Bool) (X Y : Prop) : @guardV (.bool b) want ⟨X⟩ ⟨Y⟩ = @brI (b = want) ⟨X⟩ ⟨Y⟩ := by
  by_cases h : b = want <;> simp [guardV, brI, brK, h]
theorem guardV_tup (l : List AV) (want : Bool) (X Y : Prop) : @guardV (.tup l) want ⟨X⟩ ⟨Y⟩ = Y := rfl
theorem guardE_none (ρ : Env) (X Y : Prop) : guardE ρ X Y none = X := rfl
theorem guardE_off (ρ : Env) (X Y : Prop) (w : Bool) : guardE ρ X Y (some (none, w)) = Y := rfl
theorem guardE_some (ρ : Env) (X Y : Prop) (t : Nat) (w : Bool) : guardE ρ X Y (some (some t, w)) = @guardV (ρ t) w ⟨X⟩ ⟨Y⟩ := rfl
def condK (v : AV) [X : PBox] [Y : PBox] : Prop := match v with
  | .bool t => if t then X.p else Y.p
  | _ => False
theorem condK_bool (t : Bool) (X Y : Prop) : @condK (.bool t) ⟨X⟩ ⟨Y⟩ = @brI (t = true) ⟨X⟩ ⟨Y⟩ := by
  cases t <;> simp [condK, brI, brK]
section
variable (P : Program) (C : Known)
theorem W_skip (Q : PostE) (ρ : Env) (s : St) : W P C .skip Q ρ s = Q .normal ρ s := rfl
theorem W_region (l : List AOper) (Q : PostE) (ρ : Env) (s : St) : W P C (.region l) Q ρ s = opsE P C (Q .normal) l ρ s := rfl
theorem W_seq (a b : ACode) (Q : PostE) (ρ : Env) (s : St) : W P C (.seq a b) Q ρ s = W P C a (thenE (W P C b Q) Q) ρ s := rfl
theorem W_cond (c : AO) (a b : ACode) (Q : PostE) (ρ : Env) (s : St) : W P C (.cond c a b) Q ρ s = @condK (evE ρ c) ⟨W P C a Q ρ s⟩ ⟨W P C b Q ρ s⟩ := rfl
theorem W_block (id : Nat) (a : ACode) (Q : PostE) (ρ : Env) (s : St) : W P C (.block id a) Q ρ s = W P C a (inBlockE id Q) ρ s := rfl
def LoopI (a : ACode) (ρ : Env) (s : St) [Q : QBox] : Prop := LoopX (W P C a) Q.q ρ s
theorem W_loop (a : ACode) (Q : PostE) (ρ : Env) (s : St) : W P C (.loop a) Q ρ s = @LoopI P C a ρ s ⟨Q⟩ := rfl
theorem LoopI_def (a : ACode) (Q : PostE) (ρ : Env) (s : St) : @LoopI P C a ρ s ⟨Q⟩ = LoopX (W P C a) Q ρ s := rfl
theorem W_exit (id : Nat) (Q : PostE) (ρ : Env) (s : St) : W P C (.exit id) Q ρ s = Q (.exit id) ρ s := rfl
theorem W_ret (Q : PostE) (ρ : Env) (s : St) : W P C .ret Q ρ s = Q .ret ρ s := rfl
theorem thenE_normal (K : Env → St → Prop) (Q : PostE) (ρ : Env) (s : St) : thenE K Q .normal ρ s = K ρ s := rfl
theorem thenE_ret (K : Env → St → Prop) (Q : PostE) (ρ : Env) (s : St) : thenE K Q .ret ρ s = Q .ret ρ s := rfl
theorem thenE_exit (K : Env → St → Prop) (Q : PostE) (i : Nat) (ρ : Env) (s : St) : thenE K Q (.exit i) ρ s = Q (.exit i) ρ s := rfl
theorem inBlockE_normal (id : Nat) (Q : PostE) (ρ : Env) (s : St) : inBlockE id Q .normal ρ s = Q .normal ρ s := rfl
theorem inBlockE_ret (id : Nat) (Q : PostE) (ρ : Env) (s : St) : inBlockE id Q .ret ρ s = Q .ret ρ s := rfl
theorem inBlockE_same (id : Nat) (Q : PostE) (ρ : Env) (s : St) : inBlockE id Q (.exit id) ρ s = Q .normal ρ s := if_pos rfl
theorem inBlockE_exit (id i : Nat) (Q : PostE) (ρ : Env) (s : St) (h : (i = id) = False) : inBlockE id Q (.exit i) ρ s = Q (.exit i) ρ s := if_neg (by simp [h])
theorem endE_normal (res : List (Nat × Option (Option Nat))) (R : AV → St → Prop) (ρ : Env) (s : St) : endE res R .normal ρ s = retE res R ρ s := rfl
theorem endE_ret (res : List (Nat × Option (Option Nat))) (R : AV → St → Prop) (ρ : Env) (s : St) : endE res R .ret ρ s = retE res R ρ s := rfl
theorem opsE_nil (K : Env → St → Prop) (ρ : Env) (s : St) : opsE P C K [] ρ s = K ρ s := rfl
theorem opsE_cons (K : Env → St → Prop) (d : Nat) (op : AOp) (g : Option (Option Nat × Bool)) (r : List AOper) (ρ : Env) (s : St) :
    opsE P C K (⟨some d, op, g⟩ :: r) ρ s = guardE ρ (opE P C ρ s (fun v s' => opsE P C K r (upd ρ d v) s') op) (opsE P C K r (upd ρ d (.tup [])) s) g := rfl
theorem opsE_cons0 (K : Env → St → Prop) (op : AOp) (g : Option (Option Nat × Bool)) (r : List AOper) (ρ : Env) (s : St) :
    opsE P C K (⟨none, op, g⟩ :: r) ρ s = guardE ρ (opE P C ρ s (fun v s' => opsE P C K r ρ s') op) (opsE P C K r ρ s) g := rfl
theorem drawE_nil (K : Env → St → List Entry → Prop) (ρ : Env) (s : St) (es : List Entry) : drawE P C K [] ρ s es = K ρ s es := rfl
theorem drawE_cons (K : Env → St → List Entry → Prop) (d : Nat) (op : AOp) (g : Option (Option Nat × Bool)) (r : List AOper) (ρ : Env) (s : St) (es : List Entry) :
    drawE P C K (⟨some d, op, g⟩ :: r) ρ s es = guardE ρ (dopE P C ρ s (fun v s' e => drawE P C K r (upd ρ d v) s' (es ++ [e])) op) (drawE P C K r (upd ρ d (.tup [])) s (es ++ [⟨[], [], s.next, s.next⟩])) g := rfl
theorem drawE_cons0 (K : Env → St → List Entry → Prop) (op : AOp) (g : Option (Option Nat × Bool)) (r : List AOper) (ρ : Env) (s : St) (es : List Entry) :
    drawE P C K (⟨none, op, g⟩ :: r) ρ s es = guardE ρ (dopE P C ρ s (fun v s' e => drawE P C K r ρ s' (es ++ [e])) op) (drawE P C K r ρ s (es ++ [⟨[], [], s.next, s.next⟩])) g := rfl
theorem upd_get (ρ : Env) (k : Nat) (v : AV) (i : Nat) : upd ρ k v i = if i = k then v else ρ i := rfl
theorem evE_t (ρ : Env) (n : Nat) : evE ρ (.t n) = ρ n := rfl
theorem evE_k (ρ : Env) (v : AV) : evE ρ (.k v) = v := rfl
theorem env0_zero (x : AV) (r : List AV) : env0 (x :: r) 0 = x := rfl
theorem env0_succ (x : AV) (r : List AV) (n : Nat) : env0 (x :: r) (n + 1) = env0 r n := rfl
variable (ρ : Env) (s : St) (K : AV → St → Prop)
def effK (e : Eff) (s : St) [K : SBox] : Prop := match e with
  | some (v, ps, qs) => K.k v (s.apply ps qs)
  | none => False
theorem effK_some (v : AV) (ps : List (Nat × Obj)) (qs : List Obj) : @effK (some (v, ps, qs)) s ⟨K⟩ = @stK (s.apply ps qs) ⟨K v⟩ := rfl
theorem opE_mv (x : AO) : opE P C ρ s K (.mv x) = @optK _ (some (evE ρ x)) ⟨fun v => K v s⟩ := rfl
theorem opE_cst (x : AV) : opE P C ρ s K (.cst x) = K x s := rfl
def pickK (c a b : AV) [K : KBox AV] : Prop := match c with
  | .bool t => K.k (if t then a else b)
  | _ => False
theorem pickK_true (a b : AV) (K : AV → Prop) : @pickK (.bool true) a b ⟨K⟩ = K a := rfl
theorem pickK_false (a b : AV) (K : AV → Prop) : @pickK (.bool false) a b ⟨K⟩ = K b := rfl
theorem pickK_bool (t : Bool) (a b : AV) (K : AV → Prop) : @pickK (.bool t) a b ⟨K⟩ = @brI (t = true) ⟨K a⟩ ⟨K b⟩ := by
  cases t <;> simp [pickK, brI, brK]
theorem opE_pick (c a b : AO) : opE P C ρ s K (.pick c a b) = @pickK (evE ρ c) (evE ρ a) (evE ρ b) ⟨fun v => K v s⟩ := by
  simp only [opE, kE, aop, AO.ev]
  cases evE ρ c <;> rfl
theorem opE_alloc (z : List AV) : opE P C ρ s K (.alloc z) = @effK (some (.ptr s.next (vz z) 0, [], [.cells (vz z) z false])) s ⟨K⟩ := rfl
theorem opE_bin (o : BinOp) (x y : AO) : opE P C ρ s K (.bin o x y) = @optK _ (abin o (evE ρ x) (evE ρ y)) ⟨(fun v => K v s)⟩ := by
  simp only [opE, kE, aop, AO.ev]
  cases abin o (evE ρ x) (evE ρ y) <;> rfl
theorem opE_un (o : UnOp) (x : AO) : opE P C ρ s K (.un o x) = @optK _ (aun o (evE ρ x)) ⟨(fun v => K v s)⟩ := by
  simp only [opE, kE, aop, AO.ev]
  cases aun o (evE ρ x) <;> rfl
def eqvK (o : Option Bool) (u : Bool) (neg : Bool) [K : KBox Bool] : Prop := match o with
  | some b => K.k (if neg then !b else b)
  | none => u = true ∧ ∀ b, K.k b
theorem eqvK_some (b u neg : Bool) (K : Bool → Prop) : @eqvK (some b) u neg ⟨K⟩ = @optK _ (some b) ⟨fun b => K (if neg then !b else b)⟩ := rfl
def eitherI [K : KBox Bool] : Prop := ∀ b, K.k b
theorem eqvK_none (neg : Bool) (K : Bool → Prop) : @eqvK none true neg ⟨K⟩ = @eitherI ⟨K⟩ := by simp [eqvK, eitherI]
theorem opE_eq (neg : Bool) (t : EqT) (x y : AO) : opE P C ρ s K (.eq neg t x y) = @eqvK (eqv t (evE ρ x) (evE ρ y)) (eqU t (evE ρ x) (evE ρ y)) neg ⟨(fun b => K (.bool b) s)⟩ := by
  simp only [opE]
  cases eqv t (evE ρ x) (evE ρ y) <;> rfl
def loadV (n : Option Nat) : Option (List AV) → Option AV
  | some cs => match n with
    | none => match cs with
      | x :: _ => some x
      | [] => none
    | some n => if n ≤ cs.length then some (.agg (cs.take n)) else none
  | none => none
theorem loadV_one (x : AV) (r : List AV) : loadV none (some (x :: r)) = some x := rfl
theorem loadV_some (n : Nat) (cs : List AV) : loadV (some n) (some cs) = if n ≤ cs.length then some (.agg (cs.take n)) else none := rfl
theorem opE_load (n : Option Nat) (a : AO) : opE P C ρ s K (.load n a) = @optK _ (loadV n (rd s.get (evE ρ a))) ⟨(fun v => K v s)⟩ := by
  simp only [opE, kE, aop, AO.ev]
  cases rd s.get (evE ρ a) with
  | none => rfl
  | some cs =>
    cases n with
    | none => cases cs <;> rfl
    | some n =>
      simp only [loadV]
      by_cases h : n ≤ cs.length <;> simp [h, optK, St.apply]
def storeK (s : St) (n : Nat) (a x : AV) [K : SBox] : Prop := match a with
  | .ptr b e o => match s.get b with
    | some (.cells e' cs false) => (e = e' ∧ o + n ≤ cs.length ∧ x.cells.length = n ∧ x.cells.all AV.one = true) ∧ K.k .any (s.put b (.cells e (cs.take o ++ x.cells ++ cs.drop (o + n)) false))
    | _ => False
  | _ => False
def storeG (o : Option Obj) (s : St) (n b e off : Nat) (x : AV) [K : SBox] : Prop := match o with
  | some (.cells e' cs false) => (e = e' ∧ off + n ≤ cs.length ∧ x.cells.length = n ∧ x.cells.all AV.one = true) ∧ K.k .any (s.put b (.cells e (cs.take off ++ x.cells ++ cs.drop (off + n)) false))
  | _ => False
def andI (c : Prop) [X : PBox] : Prop := c ∧ X.p
theorem andI_true (X : Prop) : @andI True ⟨X⟩ = X := by simp [andI]
theorem andI_intro {c X : Prop} (h1 : c) (h2 : X) : @andI c ⟨X⟩ := ⟨h1, h2⟩
theorem storeK_ptr (s : St) (n b e o : Nat) (x : AV) (K : AV → St → Prop) : @storeK s n (.ptr b e o) x ⟨K⟩ = @storeG (s.get b) s n b e o x ⟨K⟩ := by
  simp only [storeK, storeG]
theorem storeG_some (s : St) (n b e e' o : Nat) (cs : List AV) (x : AV) (K : AV → St → Prop) : @storeG (some (.cells e' cs false)) s n b e o x ⟨K⟩ = @andI (e = e' ∧ o + n ≤ cs.length ∧ x.cells.length = n ∧ x.cells.all AV.one = true) ⟨@stK (s.put b (.cells e (cs.take o ++ x.cells ++ cs.drop (o + n)) false)) ⟨K .any⟩⟩ := rfl
theorem opE_store (n : Nat) (a x : AO) : opE P C ρ s K (.store n a x) = @storeK s n (evE ρ a) (evE ρ x) ⟨K⟩ := by
  simp only [opE, kE, aop, AO.ev, storeK]
  cases evE ρ a <;> (try rfl)
  rename_i b e o
  simp only
  cases hg : s.get b with
  | none => rfl
  | some ob =>
    cases ob with
    | map es => rfl
    | iter p q => rfl
    | raw k o F us => rfl
    | cells e' cs sn =>
      cases sn with
      | true => rfl
      | false =>
        simp only
        generalize (evE ρ x) = X
        show (match (if e = e' ∧ o + n ≤ cs.length ∧ X.cells.length = n ∧ X.cells.all AV.one = true then some (AV.any, [(b, Obj.cells e (List.take o cs ++ X.cells ++ List.drop (o + n) cs) false)], ([] : List Obj)) else none) with
          | some (v, ps, qs) => K v (s.apply ps qs)
          | none => False) = _
        by_cases h : e = e' ∧ o + n ≤ cs.length ∧ X.cells.length = n ∧ X.cells.all AV.one = true
        · rw [if_pos h]; simp only [h, true_and, St.apply, List.foldl, and_self]
        · rw [if_neg h]; simp only [h, false_and]
theorem opE_box (x : AO) : opE P C ρ s K (.box x) = @andI ((evE ρ x).cells.all AV.one = true) ⟨@effK (some (.ptr s.next 1 0, [], [.cells 1 (evE ρ x).cells false])) s ⟨K⟩⟩ := by
  simp only [opE, kE, aop, AO.ev]
  generalize (evE ρ x) = X
  show (match (if X.cells.all AV.one = true then some (AV.ptr s.next 1 0, ([] : List (Nat × Obj)), [Obj.cells 1 X.cells false]) else none) with
    | some (v, ps, qs) => K v (s.apply ps qs)
    | none => False) = _
  by_cases h : X.cells.all AV.one = true
  · rw [if_pos h]; simp only [andI, effK, h, true_and, St.apply, List.foldl]
  · rw [if_neg h]; simp only [andI, h, Bool.false_eq_true, false_and]
theorem opE_build (z : List AV) (ps : List (Nat × Nat × AO)) : opE P C ρ s K (.build z ps) = @optK _ (fillA z (ps.map fun p => (p.1, p.2.1, evE ρ p.2.2))) ⟨(fun cs => K (.agg cs) s)⟩ := by
  simp only [opE, kE, aop, List.map_map]
  show (match (match fillA z (ps.map fun p => (p.1, p.2.1, evE ρ p.2.2)) with | some cs => some (AV.agg cs, ([] : List (Nat × Obj)), ([] : List Obj)) | none => none) with | some (v, ps, qs) => K v (s.apply ps qs) | none => False) = _
  cases fillA z (ps.map fun p => (p.1, p.2.1, evE ρ p.2.2)) <;> rfl
def lenV : AV → Option AV
  | .nils => some (.int .i64 0)
  | .ps n _ => some (.int .i64 n)
  | .sl _ _ _ n _ => some (.int .i64 n)
  | _ => none
theorem opE_len (x : AO) : opE P C ρ s K (.len x) = @optK _ (lenV (evE ρ x)) ⟨(fun v => K v s)⟩ := by
  simp only [opE, kE, aop, AO.ev]
  cases evE ρ x <;> rfl
def lenSV : AV → Option AV
  | .str l => some (.int .i64 l.length)
  | _ => none
theorem opE_lenS (x : AO) : opE P C ρ s K (.lenS x) = @optK _ (lenSV (evE ρ x)) ⟨(fun v => K v s)⟩ := by
  simp only [opE, kE, aop, AO.ev]
  cases evE ρ x <;> rfl
def iaddrV (arr : Option Nat) (z : Nat) (x : AV) : Option Nat → Option AV
  | some i => match arr with
    | some n => if i < n then shift (i * z) x else none
    | none => elemA i z x
  | none => none
theorem iaddrV_slc (z : Nat) (x : AV) (i : Nat) : iaddrV none z x (some i) = elemA i z x := rfl
theorem iaddrV_arr (n z : Nat) (x : AV) (i : Nat) : iaddrV (some n) z x (some i) = if i < n then shift (i * z) x else none := rfl
theorem opE_iaddr (arr : Option Nat) (z : Nat) (x i : AO) : opE P C ρ s K (.iaddr arr z x i) = @optK _ (iaddrV arr z (evE ρ x) (asNat (evE ρ i))) ⟨(fun v => K v s)⟩ := by
  simp only [opE, kE, aop, AO.ev]
  cases asNat (evE ρ i) with
  | none => rfl
  | some i =>
    cases arr with
    | none => simp only [iaddrV]; cases elemA i z (evE ρ x) <;> rfl
    | some n =>
      simp only [iaddrV]
      by_cases h : i < n
      · rw [if_pos h, if_pos h]; cases shift (i * z) (evE ρ x) <;> rfl
      · rw [if_neg h, if_neg h]; rfl
theorem opE_faddr (off : Nat) (x : AO) : opE P C ρ s K (.faddr off x) = @optK _ (shift off (evE ρ x)) ⟨(fun v => K v s)⟩ := by
  simp only [opE, kE, aop, AO.ev]
  cases shift off (evE ρ x) <;> rfl
def fldV (off : Nat) (n : Option Nat) : AV → Option AV
  | .agg cs => partOf n off cs
  | _ => none
theorem fldV_agg (off : Nat) (n : Option Nat) (cs : List AV) : fldV off n (.agg cs) = partOf n off cs := rfl
theorem opE_fld (off : Nat) (n : Option Nat) (x : AO) : opE P C ρ s K (.fld off n x) = @optK _ (fldV off n (evE ρ x)) ⟨(fun v => K v s)⟩ := by
  simp only [opE, kE, aop, AO.ev]
  cases evE ρ x <;> (try rfl)
  rename_i cs
  simp only [fldV]
  cases partOf n off cs <;> rfl
def aidxV (len z : Nat) (n : Option Nat) : AV → Option Nat → Option AV
  | .agg cs, some i => if i < len then partOf n (i * z) cs else none
  | _, _ => none
theorem aidxV_agg (len z : Nat) (n : Option Nat) (cs : List AV) (i : Nat) : aidxV len z n (.agg cs) (some i) = if i < len then partOf n (i * z) cs else none := rfl
theorem opE_aidx (len z : Nat) (n : Option Nat) (x i : AO) : opE P C ρ s K (.aidx len z n x i) = @optK _ (aidxV len z n (evE ρ x) (asNat (evE ρ i))) ⟨(fun v => K v s)⟩ := by
  simp only [opE, kE, aop, AO.ev]
  cases evE ρ x <;> (try rfl)
  rename_i cs
  cases asNat (evE ρ i) with
  | none => rfl
  | some i =>
    simp only [aidxV]
    by_cases h : i < len
    · rw [if_pos h, if_pos h]; cases partOf n (i * z) cs <;> rfl
    · rw [if_neg h, if_neg h]; rfl
def extV (i : Nat) : AV → Option AV
  | .tup vs => vs[i]?
  | _ => none
theorem extV_tup (i : Nat) (vs : List AV) : extV i (.tup vs) = vs[i]? := rfl
theorem opE_ext (i : Nat) (x : AO) : opE P C ρ s K (.ext i x) = @optK _ (extV i (evE ρ x)) ⟨(fun v => K v s)⟩ := by
  simp only [opE, kE, aop, AO.ev]
  cases evE ρ x <;> (try rfl)
  rename_i vs
  simp only [extV]
  cases vs[i]? <;> rfl
def nilckV (x : AV) : Option AV := nckA x
theorem opE_nilck (x : AO) : opE P C ρ s K (.nilck x) = @optK _ (nilckV (evE ρ x)) ⟨(fun v => K v s)⟩ := by
  simp only [opE, kE, aop, AO.ev, nilckV]
  cases nckA (evE ρ x) <;> rfl
theorem opE_bslice (z : List AV) (n e : Nat) (ps : List (Nat × Nat × AO)) : opE P C ρ s K (.bslice z n e ps) = @effK (aop (kE ρ (.bslice z n e ps)) [] s.get s.next) s ⟨K⟩ := rfl
theorem opE_app (z b : Nat) (st : Bool) (x y : AO) : opE P C ρ s K (.app z b st x y) = @effK (aop (kE ρ (.app z b st x y)) [] s.get s.next) s ⟨K⟩ := rfl
theorem opE_slc (z : Nat) (x : AO) (lo hi : Option AO) : opE P C ρ s K (.slc z x lo hi) = @effK (aop (kE ρ (.slc z x lo hi)) [] s.get s.next) s ⟨K⟩ := rfl
theorem opE_slcS (x : AO) (lo hi : Option AO) : opE P C ρ s K (.slcS x lo hi) = @effK (aop (kE ρ (.slcS x lo hi)) [] s.get s.next) s ⟨K⟩ := rfl
theorem opE_sidx (x i : AO) : opE P C ρ s K (.sidx x i) = @effK (aop (kE ρ (.sidx x i)) [] s.get s.next) s ⟨K⟩ := rfl
theorem opE_i2i (k : IntKind) (x : AO) : opE P C ρ s K (.i2i k x) = @effK (aop (kE ρ (.i2i k x)) [] s.get s.next) s ⟨K⟩ := rfl
theorem opE_s2s (x : AO) : opE P C ρ s K (.s2s x) = @effK (aop (kE ρ (.s2s x)) [] s.get s.next) s ⟨K⟩ := rfl
theorem opE_s2b (x : AO) : opE P C ρ s K (.s2b x) = @effK (aop (kE ρ (.s2b x)) [] s.get s.next) s ⟨K⟩ := rfl
theorem opE_b2s (x : AO) : opE P C ρ s K (.b2s x) = @effK (aop (kE ρ (.b2s x)) [] s.get s.next) s ⟨K⟩ := rfl
theorem opE_mkslice (z : List AV) (b : Nat) (x y : AO) : opE P C ρ s K (.mkslice z b x y) = @effK (aop (kE ρ (.mkslice z b x y)) [] s.get s.next) s ⟨K⟩ := rfl
theorem opE_mm (m : Bool) (xs : List AO) : opE P C ρ s K (.mm m xs) = @effK (aop (kE ρ (.mm m xs)) [] s.get s.next) s ⟨K⟩ := rfl
theorem opE_rng (x : AO) : opE P C ρ s K (.rng x) = @effK (aop (kE ρ (.rng x)) [] s.get s.next) s ⟨K⟩ := rfl
theorem opE_i2s (x : AO) : opE P C ρ s K (.i2s x) = @effK (aop (kE ρ (.i2s x)) [] s.get s.next) s ⟨K⟩ := rfl
theorem opE_mkmap : opE P C ρ s K .mkmap = @effK (some (.map s.next, [], [.map []])) s ⟨K⟩ := rfl
theorem opE_clr (z : List AV) (x : AO) : opE P C ρ s K (.clr z x) = @effK (aop (kE ρ (.clr z x)) [] s.get s.next) s ⟨K⟩ := rfl
theorem opE_idxB (x y : AO) : opE P C ρ s K (.idxB x y) = @effK (aop (kE ρ (.idxB x y)) [] s.get s.next) s ⟨K⟩ := rfl
def nxtG (o : Option Obj) (b : Nat) (s : St) [K : SBox] : Prop := match o with
  | some (.iter l p) => if p < l.length then K.k (.tup [.bool true, .int .i64 p, .int .i32 (decL (l.drop p)).1]) (s.put b (.iter l (p + (decL (l.drop p)).2))) else K.k (.tup [.bool false]) s
  | _ => False
theorem nxtG_some (l : List UInt8) (p b : Nat) (s : St) (K : AV → St → Prop) : @nxtG (some (.iter l p)) b s ⟨K⟩ = @brI (p < l.length) ⟨@stK (s.put b (.iter l (p + (decL (l.drop p)).2))) ⟨K (.tup [.bool true, .int .i64 p, .int .i32 (decL (l.drop p)).1])⟩⟩ ⟨K (.tup [.bool false]) s⟩ := by
  by_cases h : p < l.length <;> simp [nxtG, brI, brK, h, stK]
def nxtK (x : AV) (s : St) [K : SBox] : Prop := match x with
  | .ptr b 0 0 => nxtG (s.get b) b s
  | _ => False
theorem nxtK_ptr (b : Nat) (s : St) (K : AV → St → Prop) : @nxtK (.ptr b 0 0) s ⟨K⟩ = @nxtG (s.get b) b s ⟨K⟩ := rfl
theorem opE_nxt (x : AO) : opE P C ρ s K (.nxt x) = @nxtK (evE ρ x) s ⟨K⟩ := by
  simp only [opE, kE, aop, AO.ev]
  cases evE ρ x <;> (try rfl)
  rename_i b e o
  cases e <;> (try rfl)
  cases o <;> (try rfl)
  simp only [nxtK, nxtG]
  cases hg : s.get b with
  | none => rfl
  | some ob =>
    cases ob <;> (try rfl)
    rename_i l p
    simp only
    by_cases h : p < l.length
    · rw [if_pos h, if_pos h]; rfl
    · rw [if_neg h, if_neg h]; rfl
def mapG (o : Option Obj) [K : KBox (List (AV × AV))] : Prop := match o with
  | some (.map es) => K.k es
  | _ => False
theorem mapG_some (es : List (AV × AV)) (K : List (AV × AV) → Prop) : @mapG (some (.map es)) ⟨K⟩ = K es := rfl
def lkpK (m : AV) (s : St) [K : KBox (List (AV × AV))] : Prop := match m with
  | .nilm => K.k []
  | .map b => mapG (s.get b)
  | _ => False
theorem lkpK_nil (s : St) (K : List (AV × AV) → Prop) : @lkpK .nilm s ⟨K⟩ = K [] := rfl
theorem lkpK_map (b : Nat) (s : St) (K : List (AV × AV) → Prop) : @lkpK (.map b) s ⟨K⟩ = @mapG (s.get b) ⟨K⟩ := rfl
theorem opE_lkp (tr : EqT) (z : AV) (ok : Bool) (m k : AO) : opE P C ρ s K (.lkp tr z ok m k) = @andI (keyOk tr (evE ρ k) = true) ⟨@lkpK (evE ρ m) s ⟨fun es => @optK _ (lkpA tr z ok (evE ρ k) es) ⟨fun v => K v s⟩⟩⟩ := by
  simp only [opE, kE, aop, AO.ev, andI]
  by_cases hk : keyOk tr (evE ρ k) = true
  · simp only [hk, if_true, true_and]
    cases evE ρ m <;> (try rfl)
    rename_i b
    simp only [lkpK]
    cases s.get b with
    | none => rfl
    | some ob =>
      cases ob <;> (try rfl)
      rename_i es
      simp only [mapG]
      cases lkpA tr z ok (evE ρ k) es <;> rfl
  · simp only [hk, Bool.false_eq_true, if_false, false_and]
def mupK (m : AV) (s : St) [K : KBox (Nat × List (AV × AV))] : Prop := match m with
  | .map b => @mapG (s.get b) ⟨fun es => K.k (b, es)⟩
  | _ => False
theorem mupK_map (b : Nat) (s : St) (K : Nat × List (AV × AV) → Prop) : @mupK (.map b) s ⟨K⟩ = @mapG (s.get b) ⟨fun es => K (b, es)⟩ := rfl
theorem opE_mup (tr : EqT) (m k v : AO) : opE P C ρ s K (.mup tr m k v) = @andI (keyOk tr (evE ρ k) = true) ⟨@mupK (evE ρ m) s ⟨fun p => @optK _ (mupA tr (evE ρ k) (evE ρ v) p.2) ⟨fun es' => @stK (s.put p.1 (.map es')) ⟨K .any⟩⟩⟩⟩ := by
  simp only [opE, kE, aop, AO.ev, andI]
  by_cases hk : keyOk tr (evE ρ k) = true
  · simp only [hk, if_true, true_and]
    cases evE ρ m <;> (try rfl)
    rename_i b
    simp only [mupK]
    cases s.get b with
    | none => rfl
    | some ob =>
      cases ob <;> (try rfl)
      rename_i es
      simp only [mapG]
      cases mupA tr (evE ρ k) (evE ρ v) es <;> rfl
  · simp only [hk, Bool.false_eq_true, if_false, false_and]
theorem opE_ifc (t : Nat) (x : AO) : opE P C ρ s K (.ifc t x) = K (.ifc t (evE ρ x)) s := rfl
def knownK (o : Option AV) [K : KBox AV] [Y : PBox] : Prop := match o with
  | some v => K.k v
  | none => Y.p
theorem knownK_some (v : AV) (K : AV → Prop) (Y : Prop) : @knownK (some v) ⟨K⟩ ⟨Y⟩ = K v := rfl
theorem knownK_none (K : AV → Prop) (Y : Prop) : @knownK none ⟨K⟩ ⟨Y⟩ = Y := rfl
def viewK (o : Option (List AV × List (Nat × Obj))) [K : VBox] [Y : PBox] : Prop := match o with
  | some (xs, ps) => K.k xs ps
  | none => Y.p
theorem viewK_some (xs : List AV) (ps : List (Nat × Obj)) (K : List AV → List (Nat × Obj) → Prop) (Y : Prop) : @viewK (some (xs, ps)) ⟨K⟩ ⟨Y⟩ = K xs ps := rfl
def ACallsI (f : FuncId) (args : List AV) (s : St) [K : SBox] : Prop := ACalls P f args s K.k
def CallI (f : FuncId) (args : List AV) (s : St) (xs : List AV) (s' : St) [K : SBox] : Prop := CallR P f args s xs s' K.k
theorem opE_call (f : Nat) (args : List AO) : opE P C ρ s K (.call f args) = @viewK (views s.get (args.map (evE ρ))) ⟨fun xs ps => @knownK (C f xs) ⟨fun v => @stK (s.puts ps) ⟨K v⟩⟩ ⟨@CallI P f (args.map (evE ρ)) s xs (s.puts ps) ⟨K⟩⟩⟩ ⟨@ACallsI P f (args.map (evE ρ)) s ⟨K⟩⟩ := by
  show callE P C f (args.map (evE ρ)) s K = _
  unfold callE
  cases views s.get (args.map (evE ρ)) with
  | none => rfl
  | some p =>
    obtain ⟨xs, ps⟩ := p
    simp only [viewK]
    cases C f xs <;> rfl
def fnK (v : AV) [K : KBox (Fn × List AV × List AV)] : Prop := match v with
  | .fn f a c => K.k (f, a, c)
  | _ => False
def fnF (f : Fn) [K : KBox Nat] : Prop := match f with
  | .func g => K.k g
  | _ => False
theorem fnK_fn (f : Fn) (a c : List AV) (K : Fn × List AV × List AV → Prop) : @fnK (.fn f a c) ⟨K⟩ = K (f, a, c) := rfl
theorem fnF_func (g : Nat) (K : Nat → Prop) : @fnF (.func g) ⟨K⟩ = K g := rfl
def YieldI (l : Nat) (args : List AV) (s : St) [K : SBox] : Prop := AYield P l args s K.k
def fnY (f : Fn) (a c : List AV) [K : KBox Nat] [L : KBox Nat] : Prop := match f, a, c with
  | .func g, _, _ => K.k g
  | .yield l, [], [] => L.k l
  | _, _, _ => False
theorem fnY_func (g : Nat) (a c : List AV) (K L : Nat → Prop) : @fnY (.func g) a c ⟨K⟩ ⟨L⟩ = K g := rfl
theorem fnY_yield (l : Nat) (K L : Nat → Prop) : @fnY (.yield l) [] [] ⟨K⟩ ⟨L⟩ = L l := rfl
def invI (o : Option (Nat × AV)) [K : KBox (Nat × AV)] : Prop := match o with
  | some p => K.k p
  | none => False
theorem invI_some (f : Nat) (v : AV) (K : Nat × AV → Prop) : @invI (some (f, v)) ⟨K⟩ = K (f, v) := rfl
def pairV : Option Nat → AV → Option (Nat × AV)
  | some f, v => some (f, v)
  | none, _ => none
theorem pairV_some (f : Nat) (v : AV) : pairV (some f) v = some (f, v) := rfl
theorem invK_ifc (tbl : List (Nat × Nat)) (t : Nat) (v : AV) : invK tbl (.ifc t v) = pairV (tlook tbl t) v := by
  simp only [invK]; cases h : tlook tbl t <;> simp [h, pairV]
theorem tlook_cons (a b t : Nat) (r : List (Nat × Nat)) : tlook ((a, b) :: r) t = if a = t then some b else tlook r t := rfl
theorem opE_inv (tbl : List (Nat × Nat)) (r : AO) (args : List AO) : opE P C ρ s K (.inv tbl r args) = @invI (invK tbl (evE ρ r)) ⟨fun p => opE P C ρ s K (.call p.1 (.k p.2 :: args))⟩ := by
  show (match invK tbl (evE ρ r) with
    | some (g, v) => callE P C g (v :: args.map (evE ρ)) s K
    | none => False) = _
  cases invK tbl (evE ρ r) with
  | none => rfl
  | some p => obtain ⟨g, v⟩ := p; rfl
theorem opE_tas (tbl : List Nat) (x : AO) : opE P C ρ s K (.tas tbl x) = @effK (aop (kE ρ (.tas tbl x)) [] s.get s.next) s ⟨K⟩ := rfl
theorem opE_cpy (z : Nat) (d x : AO) : opE P C ρ s K (.cpy z d x) = @effK (aop (kE ρ (.cpy z d x)) [] s.get s.next) s ⟨K⟩ := rfl
theorem opE_callv (f : AO) (args : List AO) : opE P C ρ s K (.callv f args) = @fnK (evE ρ f) ⟨fun p => @fnY p.1 p.2.1 p.2.2 ⟨fun g => @viewK (views s.get (p.2.1 ++ args.map (evE ρ) ++ p.2.2)) ⟨fun xs ps => @knownK (C g xs) ⟨fun v => @stK (s.puts ps) ⟨K v⟩⟩ ⟨@CallI P g (p.2.1 ++ args.map (evE ρ) ++ p.2.2) s xs (s.puts ps) ⟨K⟩⟩⟩ ⟨@ACallsI P g (p.2.1 ++ args.map (evE ρ) ++ p.2.2) s ⟨K⟩⟩⟩ ⟨fun l => @YieldI P l (args.map (evE ρ)) s ⟨K⟩⟩⟩ := by
  show (match evE ρ f with
    | .fn (.func g) first cap => callE P C g (first ++ args.map (evE ρ) ++ cap) s K
    | .fn (.yield l) [] [] => AYield P l (args.map (evE ρ)) s K
    | _ => False) = _
  cases evE ρ f <;> (try rfl)
  rename_i fn a c
  cases fn <;> (try rfl)
  cases a <;> cases c <;> rfl
end
theorem LoopE_succ (body : PostE → Env → St → Prop) (Q : PostE) (n : Nat) (ρ : Env) (s : St) : LoopE body Q (n + 1) ρ s = body (thenE (LoopE body Q n) Q) ρ s := rfl
theorem wrap64 {n : Int} (h1 : -9223372036854775808 ≤ n) (h2 : n ≤ 9223372036854775807) : IntKind.i64.wrap n = n := by
  simp [IntKind.wrap, IntKind.bits, IntKind.signed]; omega
end Go.AX
/- The rules for regions that draw. -/
namespace Go.AX
open Go
def isCallOp : AOp → Bool
  | .call _ _ | .callv _ _ | .inv _ _ _ => true
  | _ => false
def pureOp : AOp → Bool
  | .mv _ | .pick _ _ _ | .build _ _ | .nilck _ | .bin _ _ _ | .un _ _ | .i2i _ _ | .s2s _ | .ifc _ _ | .mkfn _ _ _ | .slcS _ _ _ | .slc _ _ _ _ | .faddr _ _ | .fld _ _ _ | .iaddr _ _ _ _ | .sidx _ _ | .aidx _ _ _ _ _ | .ext _ _ | .len _ | .lenS _ | .cst _ | .mm _ _ | .i2s _ | .idxB _ _ => true
  | _ => false
class EBox where
  k : AV → St → Entry → Prop
def deffK (e : Eff) (D : List Nat) (s : St) [K : EBox] : Prop := match e with
  | some (v, ps, qs) => (D.all fun id => decide (id < s.next)) = true ∧ K.k v (s.apply ps qs) ⟨D, ps.map (·.1), s.next, (s.apply ps qs).next⟩
  | none => False
theorem deffK_some (v : AV) (ps : List (Nat × Obj)) (qs : List Obj) (D : List Nat) (s : St) (K : AV → St → Entry → Prop) :
    @deffK (some (v, ps, qs)) D s ⟨K⟩ = @andI ((D.all fun id => decide (id < s.next)) = true) ⟨@stK (s.apply ps qs) ⟨fun s' => K v s' ⟨D, ps.map (·.1), s.next, s'.next⟩⟩⟩ := rfl
section
variable (P : Program) (C : Known) (ρ : Env) (s : St) (K : AV → St → Entry → Prop)
theorem dopE_eff (op : AOp) (h : isCallOp op = false) : dopE P C ρ s K op = @deffK (aop (kE ρ op) [] s.get s.next) (fpr (kE ρ op) []) s ⟨K⟩ := by
  have e : dopE P C ρ s K op = match aop (kE ρ op) [] s.get s.next with
      | some (v, ps, qs) => (∀ id ∈ fpr (kE ρ op) [], id < s.next) ∧ K v (s.apply ps qs) ⟨fpr (kE ρ op) [], ps.map (·.1), s.next, (s.apply ps qs).next⟩
      | none => False := by
    cases op <;> first | rfl | simp [isCallOp] at h
  rw [e]
  cases aop (kE ρ op) [] s.get s.next with
  | none => rfl
  | some p =>
    obtain ⟨v, ps, qs⟩ := p
    simp only [deffK, List.all_eq_true, decide_eq_true_eq]
theorem pure_eff {op : AOp} (h : pureOp op = true) {F : List AV} {g : Nat → Option Obj} {n : Nat} {v : AV} {ps : List (Nat × Obj)} {qs : List Obj} (hv : aop op F g n = some (v, ps, qs)) : ps = [] ∧ qs = [] := by
  cases op <;> simp [pureOp] at h <;> simp only [aop] at hv <;>
    (repeat' split at hv) <;> simp_all
theorem dopE_pure (op : AOp) (h : pureOp op = true) : dopE P C ρ s K op = opE P C ρ s (fun v s' => K v s' ⟨[], [], s.next, s.next⟩) op := by
  have hc : isCallOp op = false := by cases op <;> simp [pureOp] at h <;> rfl
  have hf : fpr (kE ρ op) [] = [] := by cases op <;> simp [pureOp] at h <;> rfl
  have hp : pureOp (kE ρ op) = true := by cases op <;> simp [pureOp] at h <;> rfl
  have e : opE P C ρ s (fun v s' => K v s' ⟨[], [], s.next, s.next⟩) op = match aop (kE ρ op) [] s.get s.next with
      | some (v, ps, qs) => K v (s.apply ps qs) ⟨[], [], s.next, s.next⟩
      | none => False := by
    cases op <;> first | rfl | (simp [pureOp] at h; done) | (simp [isCallOp] at hc; done)
  rw [dopE_eff P C ρ s K op hc, e, hf]
  cases he : aop (kE ρ op) [] s.get s.next with
  | none => rfl
  | some p =>
    obtain ⟨v, ps, qs⟩ := p
    obtain ⟨rfl, rfl⟩ := pure_eff hp he
    simp only [deffK, List.all_nil, true_and]
    rfl
def DCallI (f : FuncId) (args xs : List AV) (D W : List Nat) (s s' : St) [K : EBox] : Prop := (∃ v, PureF P f xs v ∧ (∀ id ∈ D, id < s.next) ∧ K.k v s' ⟨D, W, s.next, s.next⟩) ∨ DGen P f args s K.k
def DGenI (f : FuncId) (args : List AV) (s : St) [K : EBox] : Prop := DGen P f args s K.k
theorem dcallE_eq (f : Nat) (args : List AV) : dcallE P C f args s K = @viewK (views s.get args) ⟨fun xs ps => @knownK (C f xs) ⟨fun v => @andI (((idsDs args).all fun id => decide (id < s.next)) = true) ⟨@stK (s.puts ps) ⟨fun s' => K v s' ⟨idsDs args, unseen s ps, s.next, s.next⟩⟩⟩⟩ ⟨@DCallI P f args xs (idsDs args) (unseen s ps) s (s.puts ps) ⟨K⟩⟩⟩ ⟨@DGenI P f args s ⟨K⟩⟩ := by
  unfold dcallE
  cases views s.get args with
  | none => rfl
  | some p =>
    obtain ⟨xs, ps⟩ := p
    simp only [viewK]
    cases C f xs with
    | none => rfl
    | some v => simp only [knownK, andI, stK, List.all_eq_true, decide_eq_true_eq]
theorem dopE_inv (tbl : List (Nat × Nat)) (r : AO) (args : List AO) : dopE P C ρ s K (.inv tbl r args) = @invI (invK tbl (evE ρ r)) ⟨fun p => dcallE P C p.1 (p.2 :: args.map (evE ρ)) s K⟩ := by
  show (match invK tbl (evE ρ r) with
    | some (g, v) => dcallE P C g (v :: args.map (evE ρ)) s K
    | none => False) = _
  cases invK tbl (evE ρ r) with
  | none => rfl
  | some p => obtain ⟨g, v⟩ := p; rfl
theorem dopE_callv (f : AO) (args : List AO) : dopE P C ρ s K (.callv f args) = @fnK (evE ρ f) ⟨fun p => @fnF p.1 ⟨fun g => dcallE P C g (p.2.1 ++ args.map (evE ρ) ++ p.2.2) s K⟩⟩ := by
  show (match evE ρ f with
    | .fn (.func g) first cap => dcallE P C g (first ++ args.map (evE ρ) ++ cap) s K
    | _ => False) = _
  cases evE ρ f <;> (try rfl)
  rename_i fn a c
  cases fn <;> rfl
theorem dopE_call (f : Nat) (args : List AO) : dopE P C ρ s K (.call f args) = @viewK (views s.get (args.map (evE ρ))) ⟨fun xs ps => @knownK (C f xs) ⟨fun v => @andI (((idsDs (args.map (evE ρ))).all fun id => decide (id < s.next)) = true) ⟨@stK (s.puts ps) ⟨fun s' => K v s' ⟨idsDs (args.map (evE ρ)), unseen s ps, s.next, s.next⟩⟩⟩⟩ ⟨@DCallI P f (args.map (evE ρ)) xs (idsDs (args.map (evE ρ))) (unseen s ps) s (s.puts ps) ⟨K⟩⟩⟩ ⟨@DGenI P f (args.map (evE ρ)) s ⟨K⟩⟩ := dcallE_eq P C s K f _
theorem dopE_mv (x : AO) : dopE P C ρ s K (.mv x) = opE P C ρ s (fun v s' => K v s' ⟨[], [], s.next, s.next⟩) (.mv x) := dopE_pure P C ρ s K _ rfl
theorem dopE_pick (x y z : AO) : dopE P C ρ s K (.pick x y z) = opE P C ρ s (fun v s' => K v s' ⟨[], [], s.next, s.next⟩) (.pick x y z) := dopE_pure P C ρ s K _ rfl
theorem dopE_build (z : List AV) (ps : List (Nat × Nat × AO)) : dopE P C ρ s K (.build z ps) = opE P C ρ s (fun v s' => K v s' ⟨[], [], s.next, s.next⟩) (.build z ps) := dopE_pure P C ρ s K _ rfl
theorem dopE_nilck (x : AO) : dopE P C ρ s K (.nilck x) = opE P C ρ s (fun v s' => K v s' ⟨[], [], s.next, s.next⟩) (.nilck x) := dopE_pure P C ρ s K _ rfl
theorem dopE_bin (o : BinOp) (x y : AO) : dopE P C ρ s K (.bin o x y) = opE P C ρ s (fun v s' => K v s' ⟨[], [], s.next, s.next⟩) (.bin o x y) := dopE_pure P C ρ s K _ rfl
theorem dopE_eq (neg : Bool) (t : EqT) (x y : AO) : dopE P C ρ s K (.eq neg t x y) = @optK _ (eqv t (evE ρ x) (evE ρ y)) ⟨fun b => K (.bool (if neg then !b else b)) s ⟨[], [], s.next, s.next⟩⟩ := by
  rw [dopE_eff P C ρ s K (.eq neg t x y) rfl]
  simp only [kE, aop, AO.ev]
  cases eqv t (evE ρ x) (evE ρ y) with
  | none => rfl
  | some b => simp only [deffK, optK, fpr, List.all_nil, true_and]; rfl
theorem dopE_un (o : UnOp) (x : AO) : dopE P C ρ s K (.un o x) = opE P C ρ s (fun v s' => K v s' ⟨[], [], s.next, s.next⟩) (.un o x) := dopE_pure P C ρ s K _ rfl
theorem dopE_i2i (k : IntKind) (x : AO) : dopE P C ρ s K (.i2i k x) = opE P C ρ s (fun v s' => K v s' ⟨[], [], s.next, s.next⟩) (.i2i k x) := dopE_pure P C ρ s K _ rfl
theorem dopE_s2s (x : AO) : dopE P C ρ s K (.s2s x) = opE P C ρ s (fun v s' => K v s' ⟨[], [], s.next, s.next⟩) (.s2s x) := dopE_pure P C ρ s K _ rfl
theorem dopE_ifc (t : Nat) (x : AO) : dopE P C ρ s K (.ifc t x) = opE P C ρ s (fun v s' => K v s' ⟨[], [], s.next, s.next⟩) (.ifc t x) := dopE_pure P C ρ s K _ rfl
theorem dopE_slcS (x : AO) (lo hi : Option AO) : dopE P C ρ s K (.slcS x lo hi) = opE P C ρ s (fun v s' => K v s' ⟨[], [], s.next, s.next⟩) (.slcS x lo hi) := dopE_pure P C ρ s K _ rfl
theorem dopE_slc (z : Nat) (x : AO) (lo hi : Option AO) : dopE P C ρ s K (.slc z x lo hi) = opE P C ρ s (fun v s' => K v s' ⟨[], [], s.next, s.next⟩) (.slc z x lo hi) := dopE_pure P C ρ s K _ rfl
theorem dopE_faddr (o : Nat) (x : AO) : dopE P C ρ s K (.faddr o x) = opE P C ρ s (fun v s' => K v s' ⟨[], [], s.next, s.next⟩) (.faddr o x) := dopE_pure P C ρ s K _ rfl
theorem dopE_fld (o : Nat) (n : Option Nat) (x : AO) : dopE P C ρ s K (.fld o n x) = opE P C ρ s (fun v s' => K v s' ⟨[], [], s.next, s.next⟩) (.fld o n x) := dopE_pure P C ρ s K _ rfl
theorem dopE_iaddr (a : Option Nat) (z : Nat) (x i : AO) : dopE P C ρ s K (.iaddr a z x i) = opE P C ρ s (fun v s' => K v s' ⟨[], [], s.next, s.next⟩) (.iaddr a z x i) := dopE_pure P C ρ s K _ rfl
theorem dopE_sidx (x i : AO) : dopE P C ρ s K (.sidx x i) = opE P C ρ s (fun v s' => K v s' ⟨[], [], s.next, s.next⟩) (.sidx x i) := dopE_pure P C ρ s K _ rfl
theorem dopE_aidx (l z : Nat) (n : Option Nat) (x i : AO) : dopE P C ρ s K (.aidx l z n x i) = opE P C ρ s (fun v s' => K v s' ⟨[], [], s.next, s.next⟩) (.aidx l z n x i) := dopE_pure P C ρ s K _ rfl
theorem dopE_ext (i : Nat) (x : AO) : dopE P C ρ s K (.ext i x) = opE P C ρ s (fun v s' => K v s' ⟨[], [], s.next, s.next⟩) (.ext i x) := dopE_pure P C ρ s K _ rfl
theorem dopE_len (x : AO) : dopE P C ρ s K (.len x) = opE P C ρ s (fun v s' => K v s' ⟨[], [], s.next, s.next⟩) (.len x) := dopE_pure P C ρ s K _ rfl
theorem dopE_lenS (x : AO) : dopE P C ρ s K (.lenS x) = opE P C ρ s (fun v s' => K v s' ⟨[], [], s.next, s.next⟩) (.lenS x) := dopE_pure P C ρ s K _ rfl
theorem dopE_cst (v : AV) : dopE P C ρ s K (.cst v) = opE P C ρ s (fun v s' => K v s' ⟨[], [], s.next, s.next⟩) (.cst v) := dopE_pure P C ρ s K _ rfl
theorem dopE_mm (m : Bool) (xs : List AO) : dopE P C ρ s K (.mm m xs) = opE P C ρ s (fun v s' => K v s' ⟨[], [], s.next, s.next⟩) (.mm m xs) := dopE_pure P C ρ s K _ rfl
theorem dopE_load (n : Option Nat) (a : AO) : dopE P C ρ s K (.load n a) = @deffK (aop (kE ρ (.load n a)) [] s.get s.next) (fpr (kE ρ (.load n a)) []) s ⟨K⟩ := dopE_eff P C ρ s K _ rfl
theorem dopE_store (n : Nat) (a x : AO) : dopE P C ρ s K (.store n a x) = @deffK (aop (kE ρ (.store n a x)) [] s.get s.next) (fpr (kE ρ (.store n a x)) []) s ⟨K⟩ := dopE_eff P C ρ s K _ rfl
theorem dopE_alloc (z : List AV) : dopE P C ρ s K (.alloc z) = @deffK (aop (kE ρ (.alloc z)) [] s.get s.next) (fpr (kE ρ (.alloc z)) []) s ⟨K⟩ := dopE_eff P C ρ s K _ rfl
theorem dopE_box (x : AO) : dopE P C ρ s K (.box x) = @deffK (aop (kE ρ (.box x)) [] s.get s.next) (fpr (kE ρ (.box x)) []) s ⟨K⟩ := dopE_eff P C ρ s K _ rfl
theorem dopE_bslice (z : List AV) (n e : Nat) (ps : List (Nat × Nat × AO)) : dopE P C ρ s K (.bslice z n e ps) = @deffK (aop (kE ρ (.bslice z n e ps)) [] s.get s.next) (fpr (kE ρ (.bslice z n e ps)) []) s ⟨K⟩ := dopE_eff P C ρ s K _ rfl
theorem dopE_b2s (x : AO) : dopE P C ρ s K (.b2s x) = @deffK (aop (kE ρ (.b2s x)) [] s.get s.next) (fpr (kE ρ (.b2s x)) []) s ⟨K⟩ := dopE_eff P C ρ s K _ rfl
theorem dopE_s2b (x : AO) : dopE P C ρ s K (.s2b x) = @deffK (aop (kE ρ (.s2b x)) [] s.get s.next) (fpr (kE ρ (.s2b x)) []) s ⟨K⟩ := dopE_eff P C ρ s K _ rfl
theorem dopE_app (z b : Nat) (st : Bool) (x y : AO) : dopE P C ρ s K (.app z b st x y) = @deffK (aop (kE ρ (.app z b st x y)) [] s.get s.next) (fpr (kE ρ (.app z b st x y)) []) s ⟨K⟩ := dopE_eff P C ρ s K _ rfl
theorem dopE_mkslice (z : List AV) (b : Nat) (x y : AO) : dopE P C ρ s K (.mkslice z b x y) = @deffK (aop (kE ρ (.mkslice z b x y)) [] s.get s.next) (fpr (kE ρ (.mkslice z b x y)) []) s ⟨K⟩ := dopE_eff P C ρ s K _ rfl
theorem dopE_i2s (x : AO) : dopE P C ρ s K (.i2s x) = opE P C ρ s (fun v s' => K v s' ⟨[], [], s.next, s.next⟩) (.i2s x) := dopE_pure P C ρ s K _ rfl
theorem dopE_idxB (x y : AO) : dopE P C ρ s K (.idxB x y) = opE P C ρ s (fun v s' => K v s' ⟨[], [], s.next, s.next⟩) (.idxB x y) := dopE_pure P C ρ s K _ rfl
theorem dopE_rng (x : AO) : dopE P C ρ s K (.rng x) = @deffK (aop (kE ρ (.rng x)) [] s.get s.next) (fpr (kE ρ (.rng x)) []) s ⟨K⟩ := dopE_eff P C ρ s K _ rfl
theorem dopE_mkmap : dopE P C ρ s K .mkmap = @deffK (some (.map s.next, [], [.map []])) [] s ⟨K⟩ := dopE_eff P C ρ s K _ rfl
theorem dopE_tas (tbl : List Nat) (x : AO) : dopE P C ρ s K (.tas tbl x) = @deffK (aop (kE ρ (.tas tbl x)) [] s.get s.next) (fpr (kE ρ (.tas tbl x)) []) s ⟨K⟩ := dopE_eff P C ρ s K _ rfl
theorem dopE_cpy (z : Nat) (d x : AO) : dopE P C ρ s K (.cpy z d x) = @deffK (aop (kE ρ (.cpy z d x)) [] s.get s.next) (fpr (kE ρ (.cpy z d x)) []) s ⟨K⟩ := dopE_eff P C ρ s K _ rfl
theorem dopE_clr (z : List AV) (x : AO) : dopE P C ρ s K (.clr z x) = @deffK (aop (kE ρ (.clr z x)) [] s.get s.next) (fpr (kE ρ (.clr z x)) []) s ⟨K⟩ := dopE_eff P C ρ s K _ rfl
theorem dopE_lkp (tr : EqT) (z : AV) (ok : Bool) (m k : AO) : dopE P C ρ s K (.lkp tr z ok m k) = @andI (keyOk tr (evE ρ k) = true) ⟨@lkpK (evE ρ m) s ⟨fun es => @optK _ (lkpA tr z ok (evE ρ k) es) ⟨fun v => @andI (((idOf (evE ρ m)).all fun id => decide (id < s.next)) = true) ⟨K v s ⟨idOf (evE ρ m), [], s.next, s.next⟩⟩⟩⟩⟩ := by
  rw [dopE_eff P C ρ s K _ rfl]
  simp only [kE, aop, AO.ev, andI, fpr]
  by_cases hk : keyOk tr (evE ρ k) = true
  · simp only [hk, if_true, true_and]
    cases evE ρ m <;> (try rfl)
    rename_i b
    simp only [lkpK]
    cases s.get b with
    | none => rfl
    | some ob =>
      cases ob <;> (try rfl)
      rename_i es
      simp only [mapG]
      cases lkpA tr z ok (evE ρ k) es <;> rfl
  · simp only [hk, Bool.false_eq_true, if_false, false_and]; rfl
theorem dopE_mup (tr : EqT) (m k v : AO) : dopE P C ρ s K (.mup tr m k v) = @andI (keyOk tr (evE ρ k) = true) ⟨@mupK (evE ρ m) s ⟨fun p => @optK _ (mupA tr (evE ρ k) (evE ρ v) p.2) ⟨fun es' => @andI (p.1 < s.next) ⟨@stK (s.put p.1 (.map es')) ⟨fun s' => K .any s' ⟨[p.1], [p.1], s.next, s.next⟩⟩⟩⟩⟩⟩ := by
  rw [dopE_eff P C ρ s K _ rfl]
  simp only [kE, aop, AO.ev, andI, fpr]
  by_cases hk : keyOk tr (evE ρ k) = true
  · simp only [hk, if_true, true_and]
    cases evE ρ m <;> (try rfl)
    rename_i b
    simp only [mupK]
    cases s.get b with
    | none => rfl
    | some ob =>
      cases ob <;> (try rfl)
      rename_i es
      simp only [mapG]
      cases mupA tr (evE ρ k) (evE ρ v) es with
      | none => rfl
      | some es' => simp only [deffK, optK, idOf, List.all_cons, List.all_nil, Bool.and_true, decide_eq_true_eq, St.apply, List.foldl, List.map, stK]; rfl
  · simp only [hk, Bool.false_eq_true, if_false, false_and]; rfl
theorem W_drawI (m : List Nat) (l : List AOper) (Q : PostE) (ρ : Env) (s : St) : W P C (.draw m l) Q ρ s = drawE P C (fun ρ s es => @andI (indepB m es 0 es = true) ⟨Q .normal ρ s⟩) l ρ s [] := rfl
theorem W_drawTI (m : List Nat) (l r : List AOper) (Q : PostE) (ρ : Env) (s : St) : W P C (.drawT m l r) Q ρ s = drawE P C (fun ρ s es => @andI (indepB m es 0 es = true) ⟨opsE P C (Q .normal) r ρ s⟩) l ρ s [] := rfl
end
end Go.AX
/- Typed values: how a Lean value lies in cells, and that what a row reads is one. -/
namespace Go.AX
open Go Go.RowKit Go.ChangeShapes
class Enc (α : Type) where
  sz : Nat
  cells : α → List AV
  av : α → AV
  ok : α → Prop
  len : ∀ a, (cells a).length = sz
  one : ∀ a, (cells a).all AV.one = true
  avc : ∀ a, av a = .agg (cells a) ∨ (cells a = [av a] ∧ (av a).one = true)
  flat : ∀ a, flats (cells a) = true
abbrev Str := List UInt8
def cellsL {α : Type} [Enc α] : List α → List AV
  | [] => []
  | a :: r => Enc.cells a ++ cellsL r
theorem cellsL_len {α : Type} [Enc α] : ∀ l : List α, (cellsL l).length = l.length * Enc.sz α
  | [] => by simp [cellsL]
  | a :: r => by simp [cellsL, cellsL_len r, Enc.len, Nat.add_mul]; omega
theorem flats_append : ∀ a b : List AV, flats (a ++ b) = (flats a && flats b)
  | [], b => rfl
  | x :: r, b => by simp only [List.cons_append, flats, flats_append r b, Bool.and_assoc]
theorem flats_cellsL {α : Type} [Enc α] : ∀ l : List α, flats (cellsL l) = true
  | [] => rfl
  | a :: r => by simp only [cellsL, flats_append, Enc.flat, flats_cellsL r, Bool.and_self]
theorem flat_av {α : Type} [Enc α] (a : α) : Go.AX.flat (Enc.av a) = true := by
  have h := Enc.flat a
  rcases Enc.avc a with h1 | ⟨h1, _⟩
  · rw [h1]; simpa [Go.AX.flat] using h
  · rw [h1] at h; simpa [flats] using h
instance : Enc Int := ⟨1, fun n => [.int .i64 n], fun n => .int .i64 n, fun n => -9223372036854775808 ≤ n ∧ n ≤ 9223372036854775807, fun _ => rfl, fun _ => rfl, fun _ => .inr ⟨rfl, rfl⟩, fun _ => rfl⟩
instance : Enc Bool := ⟨1, fun n => [.bool n], fun n => .bool n, fun _ => True, fun _ => rfl, fun _ => rfl, fun _ => .inr ⟨rfl, rfl⟩, fun _ => rfl⟩
instance : Enc Str := ⟨1, fun n => [.str n], fun n => .str n, fun n => n.length ≤ 140737488355328, fun _ => rfl, fun _ => rfl, fun _ => .inr ⟨rfl, rfl⟩, fun _ => rfl⟩
instance (priority := low) {α : Type} [Enc α] : Enc (List α) := ⟨1, fun l => [.ps l.length (cellsL l)], fun l => .ps l.length (cellsL l), fun l => l.length ≤ 140737488355328 ∧ ∀ a ∈ l, Enc.ok a, fun _ => rfl, fun _ => rfl, fun _ => .inr ⟨rfl, rfl⟩, fun l => by simp only [flats, Go.AX.flat, flats_cellsL, Bool.and_self]⟩
theorem cellsL_drop {α : Type} [Enc α] : ∀ (l : List α) (k : Nat), (cellsL l).drop (k * Enc.sz α) = cellsL (l.drop k)
  | l, 0 => by simp
  | [], k + 1 => by simp [cellsL]
  | a :: r, k + 1 => by
    simp only [cellsL, List.drop_succ_cons]
    rw [Nat.add_mul, Nat.one_mul, Nat.add_comm, ← List.drop_drop, List.drop_left' (Enc.len a), cellsL_drop r k]
theorem cellsL_append {α : Type} [Enc α] : ∀ (l r : List α), cellsL (l ++ r) = cellsL l ++ cellsL r
  | [], r => rfl
  | a :: l, r => by simp only [List.cons_append, cellsL, cellsL_append l r, List.append_assoc]
theorem elemA_sl {α : Type} [Enc α] (l : List α) (k : Nat) : elemA k (Enc.sz α) (.ps (List.length l) (cellsL l)) = (l[k]?).map fun x => .vp (Enc.cells x ++ cellsL (l.drop (k + 1))) := by
  simp only [elemA]
  by_cases h : k < l.length
  · rw [if_pos h, cellsL_drop]
    have : l[k]? = some l[k] := by simp [h]
    rw [this, List.drop_eq_getElem_cons h]
    rfl
  · rw [if_neg h, List.getElem?_eq_none (by omega)]; rfl
theorem elemA_Int (l : List Int) (k : Nat) : elemA k 1 (.ps (List.length l) (cellsL l)) = (l[k]?).map fun x => .vp (Enc.cells x ++ cellsL (l.drop (k + 1))) := elemA_sl l k
theorem elemA_Str (l : List Str) (k : Nat) : elemA k 1 (.ps (List.length l) (cellsL l)) = (l[k]?).map fun x => .vp (Enc.cells x ++ cellsL (l.drop (k + 1))) := elemA_sl l k
theorem elemA_Bool (l : List Bool) (k : Nat) : elemA k 1 (.ps (List.length l) (cellsL l)) = (l[k]?).map fun x => .vp (Enc.cells x ++ cellsL (l.drop (k + 1))) := elemA_sl l k
theorem elemA_LL {α : Type} [Enc α] (l : List (List α)) (k : Nat) : elemA k 1 (.ps (List.length l) (cellsL l)) = (l[k]?).map fun x => .vp (Enc.cells x ++ cellsL (l.drop (k + 1))) := elemA_sl l k
theorem ecells_Int (n : Int) : Enc.cells n = [.int .i64 n] := rfl
theorem ecells_Bool (n : Bool) : Enc.cells n = [.bool n] := rfl
theorem ecells_Str (n : Str) : Enc.cells n = [.str n] := rfl
theorem ecells_L {α : Type} [Enc α] (l : List α) : Enc.cells l = [.ps (List.length l) (cellsL l)] := rfl
theorem eav_Int (n : Int) : Enc.av n = .int .i64 n := rfl
theorem eav_Bool (n : Bool) : Enc.av n = .bool n := rfl
theorem eav_Str (n : Str) : Enc.av n = .str n := rfl
theorem eav_L {α : Type} [Enc α] (l : List α) : Enc.av l = .ps (List.length l) (cellsL l) := rfl
def wOk {H : Type} (P : Program) (t : TypeId) (d : DataW H) : Prop := (d.weights P t).all (· ≤ reachBytes) = true
theorem wOk_all {H : Type} {P : Program} {e : TypeId} : ∀ {ds : List (DataW H)}, (DataW.weightsAll P e ds).all (· ≤ reachBytes) = true → ∀ d ∈ ds, wOk P e d
  | [], _, d, hd => by simp at hd
  | x :: r, h, d, hd => by
    simp only [DataW.weightsAll, List.all_append, Bool.and_eq_true] at h
    rcases List.mem_cons.1 hd with rfl | hd
    · exact h.1
    · exact wOk_all h.2 d hd
theorem wOk_each {H : Type} {P : Program} : ∀ {ts : List TypeId} {ds : List (DataW H)}, (DataW.weightsEach P ts ds).all (· ≤ reachBytes) = true → ∀ (i : Nat) (t : TypeId) (d : DataW H), ts[i]? = some t → ds[i]? = some d → wOk P t d
  | [], ds, _, i, t, d, ht, _ => by simp at ht
  | t0 :: ts, [], _, i, t, d, _, hd => by simp at hd
  | t0 :: ts, d0 :: ds, h, i, t, d, ht, hd => by
    simp only [DataW.weightsEach, List.all_append, Bool.and_eq_true] at h
    cases i with
    | zero => simp at ht hd; subst ht; subst hd; exact h.1
    | succ i => exact wOk_each h.2 i t d (by simpa using ht) (by simpa using hd)
def ReadsAt (P : Program) (t : TypeId) (α : Type) [Enc α] (n : Nat) : Prop :=
  ∀ (H : Type) (enc : TypeId × Value → H) (W : World) [GlW W] (sp : Nat → Bool) (hd : Bool) (cs : List Value) (x : DataW H × List MemPlace),
    DataW.trod enc P W 0 sp hd n t cs = some x → wOk P t x.1 → ∃ a : α, RepL (ctx0 W) (Enc.cells a) cs ∧ Enc.ok a
def Reads (P : Program) (t : TypeId) (α : Type) [Enc α] : Prop := ∀ n, ReadsAt P t α n
section
variable {P : Program} {t e : TypeId}
theorem reads_zero {α : Type} [Enc α] : ReadsAt P t α 0 := fun H enc W _ sp hd cs x h _ => by simp [DataW.trod] at h
theorem reads_int (hu : P.underlying t = some (.int .i64)) : Reads P t Int := fun n H enc W _ sp hd cs x h _ => by
  cases n with
  | zero => simp [DataW.trod] at h
  | succ n =>
    simp only [DataW.trod, hu] at h
    split at h
    all_goals (try (simp at *; done))
    rename_i k k' m he
    simp only [Option.some.injEq, TypeDesc.int.injEq] at he
    subst he
    split at h
    · rename_i hc
      obtain ⟨rfl, hw⟩ := hc
      refine ⟨m, ?_, ?_⟩
      · exact ⟨_, [], rfl, rfl, rfl⟩
      · simp [Lit.wf, IntKind.min, IntKind.max, IntKind.bits, IntKind.signed] at hw
        exact hw
    · simp at h
theorem reads_str (hu : P.underlying t = some .string) : Reads P t Str := fun n H enc W _ sp hd cs x h hw => by
  cases n with
  | zero => simp [DataW.trod] at h
  | succ n =>
    simp only [DataW.trod, hu] at h
    split at h
    all_goals (try (simp at *; done))
    rename_i s he
    split at h
    · rename_i hc
      refine ⟨s.data.toList, ⟨_, [], rfl, by simp [Rep], rfl⟩, ?_⟩
      simp only [Option.some.injEq] at h
      subst h
      simp only [wOk, DataW.weights, List.all_cons, List.all_nil, Bool.and_true, decide_eq_true_eq] at hw
      unfold reachBytes at hw
      show s.data.toList.length ≤ _
      omega
    · simp at h
theorem mapM_get {γ β : Type} {f : γ → Option β} : ∀ {l : List γ} {ys : List β}, l.mapM f = some ys → ys.length = l.length ∧ ∀ (i : Nat) (x : γ), l[i]? = some x → ∃ y, ys[i]? = some y ∧ f x = some y
  | [], ys, h => by simp at h; subst h; simp
  | a :: r, ys, h => by
    rw [List.mapM_cons] at h
    cases ha : f a with
    | none => rw [ha] at h; simp at h
    | some b =>
      cases hr : r.mapM f with
      | none => rw [ha, hr] at h; simp at h
      | some bs =>
        rw [ha, hr] at h
        simp at h
        subst h
        obtain ⟨h1, h2⟩ := mapM_get hr
        refine ⟨by simp [h1], fun i x hx => ?_⟩
        cases i with
        | zero => simp at hx; subst hx; exact ⟨b, rfl, ha⟩
        | succ i => simpa using h2 i x (by simpa using hx)
theorem repAt_of_cells {W : World} [GlW W] {k o : Nat} {xs : List AV} {us : List Value} (h1 : xs.all AV.one = true) (hr : RepL (ctx0 W) xs us) (hc : ∀ i, i < us.length → W.cell? ⟨k, o + i, none⟩ = us[i]?) : RepAt (ctx0 W) k o xs :=
  RepAt.of_get fun i x hx => by
    obtain ⟨u, hu, r⟩ := hr.get i x hx
    have hi : i < us.length := by
      rcases Nat.lt_or_ge i us.length with h | h
      · exact h
      · rw [List.getElem?_eq_none h] at hu; simp at hu
    have h1x : x.one = true := List.all_eq_true.1 h1 x (List.mem_of_getElem? hx)
    exact ⟨u, ctx0_m (by rw [hc i hi, hu]) (r.one h1x), r⟩
theorem cells_get {W : World} {a : Addr} {n : Nat} {us : List Value} (h : W.cells? 0 a n = some us) : us.length = n ∧ ∀ i, i < n → W.cell? (a.add i) = us[i]? := by
  simp only [World.cells?, Nat.zero_le, if_true] at h
  obtain ⟨h1, h2⟩ := mapM_get h
  refine ⟨by simpa using h1, fun i hi => ?_⟩
  obtain ⟨y, hy, hf⟩ := h2 i i (by simp [hi])
  rw [hf, hy]
theorem repAt_list {α : Type} [Enc α] {W : World} [GlW W] {k : Nat} : ∀ {l : List α} {o : Nat}, (∀ (i : Nat) (a : α), l[i]? = some a → RepAt (ctx0 W) k (o + i * Enc.sz α) (Enc.cells a)) → RepAt (ctx0 W) k o (cellsL l)
  | [], o, _ => by simp [cellsL, RepAt]
  | a :: r, o, h => by
    refine RepAt.append (by simpa using h 0 a rfl) ?_
    rw [Enc.len]
    refine repAt_list fun i b hb => ?_
    have := h (i + 1) b (by simpa using hb)
    rwa [show o + (i + 1) * Enc.sz α = o + Enc.sz α + i * Enc.sz α by rw [Nat.add_mul]; omega] at this
theorem reads_slice {α : Type} [Enc α] (hu : P.underlying t = some (.slice e)) (hz : P.cellsOf e = Enc.sz α) (hsz : 0 < Enc.sz α) (hby : 0 < P.bytesOf e) {n : Nat} (he : ∀ m, m < n → ReadsAt P e α m) : ReadsAt P t (List α) n := fun H enc W _ sp hd cs x h hw => by
  cases n with
  | zero => simp [DataW.trod] at h
  | succ n =>
    simp only [DataW.trod, hu] at h
    split at h
    all_goals (try (simp at *; done))
    · exact ⟨[], ⟨_, [], rfl, .inl ⟨rfl, rfl, none, 0, rfl⟩, rfl⟩, by simp [Enc.ok]⟩
    · rename_i e' a len cap heq
      simp only [Option.some.injEq, TypeDesc.slice.injEq] at heq
      subst heq
      split at h
      · rename_i hc
        obtain ⟨_, hlc, hcap⟩ := hc
        simp only [Option.bind_eq_some_iff] at h
        obtain ⟨elems, hel, hx⟩ := h
        obtain ⟨hl, hget⟩ := mapM_get hel
        simp only [Option.map_eq_some_iff] at hx
        obtain ⟨rest, _, rfl⟩ := hx
        simp only [wOk, DataW.weights, hu, List.all_cons, List.all_append, Bool.and_eq_true, decide_eq_true_eq, List.length_map] at hw
        obtain ⟨hw1, hw2, _⟩ := hw
        have hw3 := wOk_all hw2
        rw [List.length_range] at hl
        by_cases hz0 : len = 0
        · subst hz0
          exact ⟨[], ⟨_, [], rfl, .inl ⟨rfl, rfl, some a, cap, rfl⟩, rfl⟩, by simp [Enc.ok]⟩
        have hone : ∀ i, i < len → ∃ (b : α) (us : List Value), us.length = Enc.sz α ∧ (∀ j, j < us.length → W.cell? ((a.add (i * Enc.sz α)).add j) = us[j]?) ∧ RepL (ctx0 W) (Enc.cells b) us ∧ Enc.ok b := fun i hi => by
          obtain ⟨y, hy, hf⟩ := hget i i (by simp [hi])
          rw [hz] at hf
          simp only [Option.bind_eq_some_iff] at hf
          obtain ⟨us, hus, hf⟩ := hf
          obtain ⟨g1, g2⟩ := cells_get hus
          obtain ⟨b, r1, r2⟩ := he n (Nat.lt_succ_self n) H enc W sp hd us y hf (hw3 y.1 (List.mem_map.2 ⟨y, List.mem_of_getElem? hy, rfl⟩))
          exact ⟨b, us, g1, by rw [g1]; exact g2, r1, r2⟩
        -- the address has no spot
        have hpos : 0 < Enc.sz α ∨ Enc.sz α = 0 := by omega
        rcases hpos with hpos | hpos
        · have hspot : a.spot = none := by
            obtain ⟨b, us, g1, g2, _, _⟩ := hone 0 (by omega)
            have := g2 0 (by omega)
            rw [Nat.zero_mul] at this
            have hu0 : us[0]? = some us[0] := by simp [g1, hpos]
            rw [hu0] at this
            cases hsp : a.spot with
            | none => rfl
            | some x =>
              simp [Addr.add, World.cell?, hsp] at this
              split at this <;> simp at this
          obtain ⟨k, o, spp⟩ := a
          simp only at hspot
          subst hspot
          have hadd : ∀ i j, ((⟨k, o, none⟩ : Addr).add i).add j = ⟨k, o + i + j, none⟩ := fun i j => by
            simp only [Addr.add]
            by_cases h1 : i = 0 <;> by_cases h2 : j = 0 <;> simp [h1, h2]
          -- choose
          have hch : ∀ n', n' ≤ len → ∃ l : List α, l.length = n' ∧ ∀ i b, l[i]? = some b → RepAt (ctx0 W) k (o + i * Enc.sz α) (Enc.cells b) ∧ Enc.ok b := fun n' => by
            induction n' with
            | zero => intro _; exact ⟨[], rfl, by simp⟩
            | succ n' ih =>
              intro hle
              obtain ⟨l, hl1, hl2⟩ := ih (by omega)
              obtain ⟨b, us, g1, g2, g3, g4⟩ := hone n' (by omega)
              refine ⟨l ++ [b], by simp [hl1], fun i b' hb' => ?_⟩
              by_cases hi : i < n'
              · rw [List.getElem?_append_left (by omega)] at hb'; exact hl2 i b' hb'
              · have hi' : i = n' := by
                  rcases Nat.lt_or_ge i (n' + 1) with h | h
                  · omega
                  · rw [List.getElem?_eq_none (by simp [hl1]; omega)] at hb'; simp at hb'
                subst hi'
                rw [List.getElem?_append_right (by omega)] at hb'
                simp [hl1] at hb'
                subst hb'
                exact ⟨repAt_of_cells (Enc.one b) g3 (fun j hj => by have := g2 j hj; rwa [hadd] at this), g4⟩
          obtain ⟨l, hl1, hl2⟩ := hch len (Nat.le_refl _)
          refine ⟨l, ⟨_, [], rfl, .inr ⟨k, o, cap, by rw [hl1], by omega, repAt_list fun i b hb => (hl2 i b hb).1⟩, rfl⟩, ?_⟩
          have hle : len ≤ (elems.length + rest.length) * P.bytesOf e := by
            exact Nat.le_trans (show len ≤ elems.length + rest.length by omega) (Nat.le_mul_of_pos_right _ hby)
          unfold reachBytes at hw1
          refine ⟨by omega, fun b hb => ?_⟩
          obtain ⟨i, hi⟩ := List.mem_iff_getElem?.1 hb
          exact (hl2 i b hi).2
        · exact absurd hpos (by have := hsz; omega)
      · simp at h
def fieldRow (P : Program) (f : Field) : Nat × Nat × TypeId := (f.offset, P.cellsOf f.type, f.type)
theorem trod_struct {H : Type} {enc : TypeId × Value → H} {W : World} {sp : Nat → Bool} {hd : Bool} {cs : List Value} {x : DataW H × List MemPlace} {n : Nat} {fs : Array Field} (hu : P.underlying t = some (.struct fs))
    {rows : List (Nat × Nat × TypeId)} (hf : fs.toList.map (fieldRow P) = rows) (h : DataW.trod enc P W 0 sp hd (n + 1) t cs = some x) (hw : wOk P t x.1) :
    cs.length = P.cellsOf t ∧ ∀ r ∈ rows, ∃ y, DataW.trod enc P W 0 sp hd n r.2.2 ((cs.drop r.1).take r.2.1) = some y ∧ wOk P r.2.2 y.1 := by
  simp only [DataW.trod, hu] at h
  split at h
  · rename_i hc
    refine ⟨hc, fun r hr => ?_⟩
    rw [← hf, List.mem_map] at hr
    obtain ⟨f, hf1, rfl⟩ := hr
    simp only [Option.map_eq_some_iff] at h
    obtain ⟨ys, hys, rfl⟩ := h
    obtain ⟨i, hi⟩ := List.mem_iff_getElem?.1 hf1
    obtain ⟨y, hyi, hy⟩ := (mapM_get hys).2 i f hi
    simp only [wOk, DataW.weights, hu] at hw
    exact ⟨y, hy, wOk_each hw i f.type y.1 (by simp [hi]) (by simp [hyi])⟩
  · simp at h
theorem repL_field {c : Ctx} {A B : List AV} {us : List Value} {o z : Nat} (h1 : RepL c A ((us.drop o).take z)) (h2 : RepL c B (us.drop (o + z))) : RepL c (A ++ B) (us.drop o) := by
  have := h1.append h2
  rwa [← List.drop_drop, List.take_append_drop] at this
theorem repL_end {c : Ctx} {us : List Value} {o : Nat} (h : us.length = o) : RepL c [] (us.drop o) := by
  simp only [RepL]; exact List.drop_of_length_le (by omega)
theorem rep_arg {α : Type} [Enc α] {c : Ctx} {a : α} {v : Value} (h : RepL c (Enc.cells a) v.cells.toList) (hv : (∃ cs, v = .agg cs) ↔ Enc.av a = .agg (Enc.cells a)) (ht : ∀ vs, v ≠ .tuple vs) : Rep c (Enc.av a) v := by
  by_cases hag : Enc.av a = .agg (Enc.cells a)
  · obtain ⟨cs, rfl⟩ := hv.2 hag
    rw [hag]
    simp only [Rep]
    exact ⟨cs.toList, by simp, by simpa [Value.cells] using h⟩
  · rcases Enc.avc a with h1 | ⟨h1, h2⟩
    · exact absurd h1 hag
    · rw [h1] at h
      have : v.cells = #[v] := by
        cases v <;> first | rfl | skip
        · rename_i cs; exact absurd (hv.1 ⟨cs, rfl⟩) hag
      rw [this] at h
      simp only [RepL] at h
      obtain ⟨u, us, he, r, rfl⟩ := h
      simp at he
      subst he
      exact r
end
end Go.AX
/- The types: by tygen.py. -/
namespace Go.AX
open Go
namespace Ty
@[ext] structure Attr where
  name : Str
  value : Str
  deriving DecidableEq
instance : Enc Attr := ⟨2, fun x => [.str x.name, .str x.value], fun x => .agg [.str x.name, .str x.value], fun x => Enc.ok x.name ∧ Enc.ok x.value, fun _ => rfl, fun _ => rfl, fun _ => .inl rfl, fun _ => by simp only [flats, Go.AX.flat, flats_cellsL, Bool.and_self]⟩
theorem Attr.ok_iff (x : Attr) : Enc.ok x ↔ (Enc.ok x.name ∧ Enc.ok x.value) := Iff.rfl
theorem Attr.ecells (x : Attr) : Enc.cells x = [.str x.name, .str x.value] := rfl
theorem Attr.eav (x : Attr) : Enc.av x = .agg [.str x.name, .str x.value] := rfl
theorem Attr.elem (l : List Attr) (k : Nat) : elemA k 2 (.ps (List.length l) (cellsL l)) = (l[k]?).map fun x => .vp (Enc.cells x ++ cellsL (l.drop (k + 1))) := elemA_sl l k
theorem Attr.clen (l : List Attr) : (cellsL l).length = List.length l * 2 := cellsL_len l
theorem readsAt_Attr {P : Program} {t t0 t1 : TypeId} {fs : Array Field} {n : Nat} (hu : P.underlying t = some (.struct fs)) (hf : fs.toList.map (fieldRow P) = [(0, 1, t0), (1, 1, t1)]) (hc : P.cellsOf t = 2) (h0 : ReadsAt P t0 Str n) (h1 : ReadsAt P t1 Str n) : ReadsAt P t Attr (n + 1) := fun H enc W _ sp hd cs x hx hw => by
  obtain ⟨g1, g2⟩ := trod_struct hu hf hx hw
  rw [hc] at g1
  obtain ⟨y0, e0, z0⟩ := g2 (0, 1, t0) (by simp)
  obtain ⟨a0, r0, k0⟩ := h0 H enc W sp hd _ _ e0 z0
  obtain ⟨y1, e1, z1⟩ := g2 (1, 1, t1) (by simp)
  obtain ⟨a1, r1, k1⟩ := h1 H enc W sp hd _ _ e1 z1
  refine ⟨.mk a0 a1, ?_, (Attr.ok_iff _).2 ⟨k0, k1⟩⟩
  have hh := (repL_field (o := 0) (z := 1) r0 (repL_field (o := 1) (z := 1) r1 (repL_end (o := 2) g1)))
  rw [List.drop_zero] at hh
  rw [Attr.ecells]; exact hh
theorem reads_Attr {P : Program} {t t0 t1 : TypeId} {fs : Array Field} (hu : P.underlying t = some (.struct fs)) (hf : fs.toList.map (fieldRow P) = [(0, 1, t0), (1, 1, t1)]) (hc : P.cellsOf t = 2) (h0 : Reads P t0 Str) (h1 : Reads P t1 Str) : Reads P t Attr := fun n => by
  cases n with
  | zero => exact reads_zero
  | succ n => exact readsAt_Attr hu hf hc (h0 n) (h1 n)
@[ext] structure Tag where
  kind : Int
  name : Str
  attrs : List Attr
  text : Str
  deriving DecidableEq
instance : Enc Tag := ⟨4, fun x => [.int .i64 x.kind, .str x.name, .ps (List.length x.attrs) (cellsL x.attrs), .str x.text], fun x => .agg [.int .i64 x.kind, .str x.name, .ps (List.length x.attrs) (cellsL x.attrs), .str x.text], fun x => Enc.ok x.kind ∧ Enc.ok x.name ∧ Enc.ok x.attrs ∧ Enc.ok x.text, fun _ => rfl, fun _ => rfl, fun _ => .inl rfl, fun _ => by simp only [flats, Go.AX.flat, flats_cellsL, Bool.and_self]⟩
theorem Tag.ok_iff (x : Tag) : Enc.ok x ↔ (Enc.ok x.kind ∧ Enc.ok x.name ∧ Enc.ok x.attrs ∧ Enc.ok x.text) := Iff.rfl
theorem Tag.ecells (x : Tag) : Enc.cells x = [.int .i64 x.kind, .str x.name, .ps (List.length x.attrs) (cellsL x.attrs), .str x.text] := rfl
theorem Tag.eav (x : Tag) : Enc.av x = .agg [.int .i64 x.kind, .str x.name, .ps (List.length x.attrs) (cellsL x.attrs), .str x.text] := rfl
theorem Tag.elem (l : List Tag) (k : Nat) : elemA k 4 (.ps (List.length l) (cellsL l)) = (l[k]?).map fun x => .vp (Enc.cells x ++ cellsL (l.drop (k + 1))) := elemA_sl l k
theorem Tag.clen (l : List Tag) : (cellsL l).length = List.length l * 4 := cellsL_len l
theorem readsAt_Tag {P : Program} {t t0 t1 t2 t3 : TypeId} {fs : Array Field} {n : Nat} (hu : P.underlying t = some (.struct fs)) (hf : fs.toList.map (fieldRow P) = [(0, 1, t0), (1, 1, t1), (2, 1, t2), (3, 1, t3)]) (hc : P.cellsOf t = 4) (h0 : ReadsAt P t0 Int n) (h1 : ReadsAt P t1 Str n) (h2 : ReadsAt P t2 (List Attr) n) (h3 : ReadsAt P t3 Str n) : ReadsAt P t Tag (n + 1) := fun H enc W _ sp hd cs x hx hw => by
  obtain ⟨g1, g2⟩ := trod_struct hu hf hx hw
  rw [hc] at g1
  obtain ⟨y0, e0, z0⟩ := g2 (0, 1, t0) (by simp)
  obtain ⟨a0, r0, k0⟩ := h0 H enc W sp hd _ _ e0 z0
  obtain ⟨y1, e1, z1⟩ := g2 (1, 1, t1) (by simp)
  obtain ⟨a1, r1, k1⟩ := h1 H enc W sp hd _ _ e1 z1
  obtain ⟨y2, e2, z2⟩ := g2 (2, 1, t2) (by simp)
  obtain ⟨a2, r2, k2⟩ := h2 H enc W sp hd _ _ e2 z2
  obtain ⟨y3, e3, z3⟩ := g2 (3, 1, t3) (by simp)
  obtain ⟨a3, r3, k3⟩ := h3 H enc W sp hd _ _ e3 z3
  refine ⟨.mk a0 a1 a2 a3, ?_, (Tag.ok_iff _).2 ⟨k0, k1, k2, k3⟩⟩
  have hh := (repL_field (o := 0) (z := 1) r0 (repL_field (o := 1) (z := 1) r1 (repL_field (o := 2) (z := 1) r2 (repL_field (o := 3) (z := 1) r3 (repL_end (o := 4) g1)))))
  rw [List.drop_zero] at hh
  rw [Tag.ecells]; exact hh
theorem reads_Tag {P : Program} {t t0 t1 t2 t3 : TypeId} {fs : Array Field} (hu : P.underlying t = some (.struct fs)) (hf : fs.toList.map (fieldRow P) = [(0, 1, t0), (1, 1, t1), (2, 1, t2), (3, 1, t3)]) (hc : P.cellsOf t = 4) (h0 : Reads P t0 Int) (h1 : Reads P t1 Str) (h2 : Reads P t2 (List Attr)) (h3 : Reads P t3 Str) : Reads P t Tag := fun n => by
  cases n with
  | zero => exact reads_zero
  | succ n => exact readsAt_Tag hu hf hc (h0 n) (h1 n) (h2 n) (h3 n)
end Ty
attribute [go_sem] Ty.Attr.elem Ty.Tag.elem
attribute [go_sem] Ty.Attr.ecells Ty.Tag.ecells
attribute [go_sem] Ty.Attr.eav Ty.Tag.eav
end Go.AX
/- The arguments of a row, one by one. -/
namespace Go.AX
open Go Go.RowKit Go.ChangeShapes
section
variable {P : Program} {t : TypeId} {W : World} [GlW W] {v : Value} {base : Nat} {H : Type} {enc : TypeId × Value → H} {d : DataW H} {ps : List MemPlace}
theorem read_agg {α : Type} [Enc α] (h : Reads P t α) (hu : (∃ fs, P.underlying t = some (.struct fs)) ∨ ∃ n e, P.underlying t = some (.array n e)) (hav : ∀ a : α, Enc.av a = .agg (Enc.cells a))
    (hval : Value.okWide P W .any base t v) (ht : DataW.Trod enc P W 0 (fun _ => true) true t v d ps) (hw : wOk P t d) : ∃ a : α, Rep (ctx0 W) (Enc.av a) v ∧ Enc.ok a := by
  obtain ⟨n, hn⟩ := ht
  obtain ⟨a, h1, h2⟩ := h n H enc W _ _ _ _ hn hw
  have hv : ∃ cs, v = .agg cs := by
    unfold Value.okWide at hval
    rcases hu with ⟨fs, hu⟩ | ⟨n, e, hu⟩ <;> rw [hu] at hval <;> obtain ⟨cs, hc, _⟩ := hval <;> exact ⟨cs, hc⟩
  refine ⟨a, rep_arg h1 ⟨fun _ => hav a, fun _ => hv⟩ (fun vs hvs => ?_), h2⟩
  obtain ⟨cs, hc⟩ := hv
  rw [hvs] at hc; cases hc
theorem read_one {α : Type} [Enc α] (h : Reads P t α) {td : TypeDesc} (hu : P.underlying t = some td) (htd : (∃ k, td = .int k) ∨ td = .bool ∨ td = .string ∨ ∃ e, td = .slice e) (hav : ∀ a : α, (Enc.av a).one = true)
    (hval : Value.okWide P W .any base t v) (ht : DataW.Trod enc P W 0 (fun _ => true) true t v d ps) (hw : wOk P t d) : ∃ a : α, Rep (ctx0 W) (Enc.av a) v ∧ Enc.ok a := by
  obtain ⟨n, hn⟩ := ht
  obtain ⟨a, h1, h2⟩ := h n H enc W _ _ _ _ hn hw
  have hne : Enc.av a ≠ .agg (Enc.cells a) := fun he => by have := hav a; rw [he] at this; simp [AV.one] at this
  have hv : (∀ cs, v ≠ .agg cs) ∧ ∀ cs, v ≠ .tuple cs := by
    unfold Value.okWide at hval
    rw [hu] at hval
    rcases htd with ⟨k, rfl⟩ | rfl | rfl | ⟨e, rfl⟩ <;> simp only [Cell.okWide, hu, Cell.ok] at hval <;>
      refine ⟨fun cs hc => ?_, fun cs hc => ?_⟩ <;> subst hc <;> simp at hval
  exact ⟨a, rep_arg h1 ⟨fun ⟨cs, hc⟩ => absurd hc (hv.1 cs), fun he => absurd he hne⟩ (fun vs => hv.2 vs), h2⟩
theorem repL1 {c : Ctx} {x : AV} {v : Value} (h : Rep c x v) : RepL c [x] (#[v] : Array Value).toList := ⟨v, [], rfl, h, rfl⟩
theorem repL2 {c : Ctx} {x y : AV} {v u : Value} (h : Rep c x v) (h2 : Rep c y u) : RepL c [x, y] (#[v, u] : Array Value).toList := ⟨v, [u], rfl, h, u, [], rfl, h2, rfl⟩
theorem repL3 {c : Ctx} {x y z : AV} {v u q : Value} (h : Rep c x v) (h2 : Rep c y u) (h3 : Rep c z q) : RepL c [x, y, z] (#[v, u, q] : Array Value).toList := ⟨v, [u, q], rfl, h, u, [q], rfl, h2, q, [], rfl, h3, rfl⟩
end
end Go.AX
/- Loops. -/
namespace Go.AX
open Go
section
variable {P : Program} {C : Known}
def updL (ρ : Env) : List (Nat × AV) → Env
  | [] => ρ
  | p :: r => upd (updL ρ r) p.1 p.2
def agree (ρ : Env) : List (Nat × AV) → Prop
  | [] => True
  | p :: r => ρ p.1 = p.2 ∧ agree ρ r
theorem upd_self {ρ : Env} {i : Nat} {v : AV} (h : ρ i = v) : upd ρ i v = ρ := by
  funext j
  by_cases hj : j = i
  · subst hj; simp [upd, h]
  · simp [upd, hj]
theorem updL_self {ρ : Env} : ∀ {l : List (Nat × AV)}, agree ρ l → updL ρ l = ρ
  | [], _ => rfl
  | p :: r, h => by simp only [updL]; rw [updL_self h.2]; exact upd_self h.1
theorem updL_nil (ρ : Env) : updL ρ [] = ρ := rfl
theorem updL_cons (ρ : Env) (i : Nat) (v : AV) (r : List (Nat × AV)) : updL ρ ((i, v) :: r) = upd (updL ρ r) i v := rfl
theorem agree_nil (ρ : Env) : agree ρ [] = True := rfl
theorem agree_cons (ρ : Env) (i : Nat) (v : AV) (r : List (Nat × AV)) : agree ρ ((i, v) :: r) = (ρ i = v ∧ agree ρ r) := rfl
theorem LoopI_st {σ : Type} {a : ACode} {Q : PostE} {ρ : Env} {s : St} (μ : σ → Nat) (I : σ → Env → St → Prop) (x0 : σ) (h0 : I x0 ρ s)
    (h : ∀ x ρ s, I x ρ s → W P C a (thenE (fun ρ' s' => ∃ y, μ y < μ x ∧ I y ρ' s') Q) ρ s) : @LoopI P C a ρ s ⟨Q⟩ :=
  loop_inv (I := fun n ρ s => ∃ x, μ x = n ∧ I x ρ s) (fun n ρ s ⟨x, hx, hi⟩ => by
    subst hx
    refine W_mono a (fun e ρ' s' hq => ?_) _ _ (h x ρ s hi)
    cases e with
    | normal => obtain ⟨y, hy, hi'⟩ := hq; exact ⟨μ y, hy, y, rfl, hi'⟩
    | _ => exact hq) ⟨x0, rfl, h0⟩
theorem LoopI_sl {σ : Type} {a : ACode} {Q : PostE} {ρ : Env} {s : St} (μ : σ → Nat) (L : σ → List (Nat × AV)) (J : σ → St → Prop) (x0 : σ) (h0 : agree ρ (L x0) ∧ J x0 s)
    (h : ∀ x ρ s, J x s → W P C a (thenE (fun ρ' s' => ∃ y, μ y < μ x ∧ agree ρ' (L y) ∧ J y s') Q) (updL ρ (L x)) s) : @LoopI P C a ρ s ⟨Q⟩ :=
  LoopI_st μ (fun x ρ s => agree ρ (L x) ∧ J x s) x0 h0 fun x ρ s hi => by
    have := h x ρ s hi.2
    rwa [updL_self hi.1] at this
end
end Go.AX
/- The rules as one set. -/
namespace Go.AX
open Go
theorem brI_neg (c : Prop) (X Y : Prop) : @brI (¬ c) ⟨X⟩ ⟨Y⟩ = @brI c ⟨Y⟩ ⟨X⟩ := by
  simp only [brI, brK, Classical.not_not]; exact propext ⟨fun ⟨a, b⟩ => ⟨b, a⟩, fun ⟨a, b⟩ => ⟨b, a⟩⟩
theorem brI_bf (b : Bool) (X Y : Prop) : @brI (b = false) ⟨X⟩ ⟨Y⟩ = @brI (b = true) ⟨Y⟩ ⟨X⟩ := by
  cases b <;> simp [brI, brK]
theorem brI_both {c : Prop} {X Y : Prop} (h1 : c → c = True → X) (h2 : ¬ c → c = False → Y) : @brI c ⟨X⟩ ⟨Y⟩ := ⟨fun h => h1 h (eq_true h), fun h => h2 h (eq_false h)⟩
attribute [go_sem] invI_some invK_ifc pairV_some tlook_cons cpyA vz
attribute [go_sem ↓] opE_inv opE_tas opE_cpy dopE_inv dopE_tas dopE_cpy
attribute [go_sem ↓] opE_rng opE_i2s opE_mkmap opE_clr opE_idxB opE_nxt opE_lkp opE_mup dopE_i2s dopE_idxB dopE_rng dopE_mkmap dopE_clr dopE_lkp dopE_mup dopE_callv dcallE_eq opE_callv dopE_mv dopE_pick dopE_build dopE_nilck dopE_bin dopE_eq dopE_un dopE_i2i dopE_s2s dopE_ifc dopE_slcS dopE_slc dopE_faddr dopE_fld dopE_iaddr dopE_sidx dopE_aidx dopE_ext dopE_len dopE_lenS dopE_cst dopE_mm dopE_call dopE_load dopE_store dopE_alloc dopE_box dopE_bslice dopE_b2s dopE_s2b dopE_app dopE_mkslice  W_skip W_region W_drawI W_drawTI W_seq W_cond W_block W_loop W_exit W_ret thenE_normal thenE_ret thenE_exit inBlockE_normal inBlockE_ret inBlockE_same inBlockE_exit endE_normal endE_ret opsE_nil opsE_cons opsE_cons0 drawE_nil drawE_cons drawE_cons0 guardE_none guardE_off guardE_some opE_mv opE_cst opE_pick opE_alloc opE_bin opE_un opE_eq opE_load opE_store opE_box opE_build opE_len opE_lenS opE_iaddr opE_faddr opE_fld opE_aidx opE_ext opE_nilck opE_bslice opE_app opE_slc opE_slcS opE_sidx opE_i2i opE_s2s opE_call
attribute [go_sem] nxtK_ptr nxtG_some lkpK_nil lkpK_map mapG_some mupK_map keyOk lit lit1 clrA asNat updL_nil updL_cons agree_nil agree_cons fnK_fn fnY_func fnY_yield fnF_func viewK_some deffK_some fpr idOf idsDs idsD unseen List.filter_cons List.filter_nil LoopE_succ evE_t evE_k upd_get env0_zero env0_succ optK_some guardV_bool guardV_tup condK_bool pickK_true pickK_false pickK_bool effK_some stK_mk knownK_some knownK_none viewK_some brI_true brI_false andI_true wrap64 abin aun retE resAllE resOneE oneOf List.map views view St.puts St.apply List.foldl Bool.false_eq_true decide_eq_true_eq decide_eq_false_iff_not List.nil_append List.append_nil List.cons_append kE aop AO.ev lenV lenSV iaddrV_slc iaddrV_arr shift rd loadV_one loadV_some fldV_agg aidxV_agg extV_tup partOf fillA eqv eqvs eqU eqvK_some eqvK_none decide_true List.zip_cons_cons List.zip_nil_left List.drop_zero List.drop_succ_cons List.drop_nil List.take_zero List.take_succ_cons List.take_nil List.length_cons List.length_nil List.getElem?_cons_zero List.getElem?_cons_succ AV.cells List.all_cons List.all_nil AV.one St.get Go.AX.look St.put putAt St.push storeK_ptr storeG_some Int.cast_ofNat_Int bne_iff_ne beq_iff_eq Nat.zero_add Nat.add_zero true_and and_true and_self Bool.and_true Bool.true_and Bool.and_self bne_self_eq_false beq_self_eq_true Bool.not_false Bool.not_true Bool.not_eq_true' Bool.not_eq_false' eq_self ne_eq not_true_eq_false not_false_eq_true Nat.le_refl Nat.lt_irrefl Nat.zero_le Int.le_refl false_and and_false Nat.zero_mul Nat.one_mul Nat.mul_one Nat.max_def Nat.not_lt_zero Nat.zero_lt_succ Nat.lt_add_one brI_neg brI_bf
end Go.AX
/- Functions of typed values. -/
namespace Go.AX
open Go
def C0 : Known := fun _ _ => none
theorem C0_none (f : Nat) (xs : List AV) : C0 f xs = none := rfl
theorem C0_ok (P : Program) : KnownOk P C0 := fun f xs v h => by simp [C0] at h
def viewIs (s : St) (v' v : AV) : Prop := (view s.get v').map (·.1) = some v
section
variable {P : Program}
theorem upd_viewIs {s : St} {v' v : AV} (h : viewIs s v' v) : ∃ s2, Upd v' s v s2 := by
  unfold viewIs at h
  cases hv : view s.get v' with
  | none => rw [hv] at h; simp at h
  | some p =>
    obtain ⟨x, ps⟩ := p
    rw [hv] at h
    simp at h
    subst h
    exact ⟨_, Upd.view hv⟩
theorem callI_pure {f : FuncId} {args : List AV} {s : St} {xs : List AV} {s' : St} {K : AV → St → Prop} {v : AV} (h : PureF P f xs v) (hk : @stK s' ⟨K v⟩) : @CallI P f args s xs s' ⟨K⟩ := .inr ⟨v, h, hk⟩
theorem callI_gen {f : FuncId} {args : List AV} {s : St} {xs : List AV} {s' : St} {K : AV → St → Prop} (h : ACalls P f args s K) : @CallI P f args s xs s' ⟨K⟩ := .inl h
theorem dcallI_pure {f : FuncId} {args xs : List AV} {D W : List Nat} {s s' : St} {K : AV → St → Entry → Prop} {v : AV} (h : PureF P f xs v) (hk : @andI ((D.all fun id => decide (id < s.next)) = true) ⟨@stK s' ⟨fun s' => K v s' ⟨D, W, s.next, s.next⟩⟩⟩) : @DCallI P f args xs D W s s' ⟨K⟩ :=
  .inl ⟨v, h, by simpa using hk.1, hk.2⟩
theorem dcallI_gen {f : FuncId} {args xs : List AV} {D W : List Nat} {s s0 s' : St} {K : AV → St → Entry → Prop} {v : AV} (h : ACalls P f args s (fun v' t => v' = v ∧ t = s')) (hw : Wf s) (hn : s.next ≤ s'.next) (hw' : Wf s')
    (hk : @stK s' ⟨fun s' => K v s' ⟨List.range s.next, List.range s.next, s.next, s'.next⟩⟩) : @DCallI P f args xs D W s s0 ⟨K⟩ :=
  .inr ⟨v, s', List.range s.next, h, hw, hn, hw', ⟨fun id hid => by simpa using hid, fun id hid hno => (hno (by simpa using hid)).elim⟩, hk⟩
theorem wf_push {h : List (Nat × Obj)} {n : Nat} {o : Obj} (hw : Wf ⟨h, n⟩) : Wf ⟨(n, o) :: h, n + 1⟩ := fun id hid => by
  have hid' : n + 1 ≤ id := hid
  show look id ((n, o) :: h) = none
  rw [look, if_neg (by omega)]
  exact hw id (by show n ≤ id; omega)
theorem wf_put {h : List (Nat × Obj)} {n b : Nat} {o : Obj} (hw : Wf ⟨h, n⟩) : Wf ⟨putAt b o h, n⟩ := fun id hid => by
  have := hw id hid
  simp only [St.get] at this ⊢
  rw [look_putAt]
  split
  · rename_i hb; subst hb; rw [this]; rfl
  · exact this
theorem pureF_W (hmix : P.follows .mixedOrders = true) {f : FuncId} {af : AFun} (hf : cFun P f = some af) (hin : (codeIn af.ntmps af.body && resIn af.ntmps af.results) = true) {args : List AV} {v : AV}
    (hl : Nat.ble args.length af.ntmps = true) (hfa : flats args = true) (hfv : flat v = true) (h : W P C0 af.body (endE af.results fun v' s' => viewIs s' v' v) (env0 args) ⟨[], 0⟩) : PureF P f args v :=
  ⟨ACalls.upd ((acalls_W hmix (C0_ok P) hf hin (Nat.le_of_ble_eq_true hl) h).mono fun v' s' hv => by obtain ⟨s2, hu⟩ := upd_viewIs hv; exact ⟨v, s2, hu, rfl⟩), hfa, hfv⟩
theorem PureF.at {f : FuncId} {args : List AV} {v v' : AV} (h : PureF P f args v) (e : v = v') : PureF P f args v' := e ▸ h
end
theorem loadV_2 (a b : AV) (r : List AV) : loadV (some 2) (some (a :: b :: r)) = some (.agg [a, b]) := by simp [loadV]
theorem loadV_3 (a b c : AV) (r : List AV) : loadV (some 3) (some (a :: b :: c :: r)) = some (.agg [a, b, c]) := by simp [loadV]
theorem loadV_4 (a b c d : AV) (r : List AV) : loadV (some 4) (some (a :: b :: c :: d :: r)) = some (.agg [a, b, c, d]) := by simp [loadV]
theorem loadV_5 (a b c d e : AV) (r : List AV) : loadV (some 5) (some (a :: b :: c :: d :: e :: r)) = some (.agg [a, b, c, d, e]) := by simp [loadV]
theorem loadV_6 (a b c d e f : AV) (r : List AV) : loadV (some 6) (some (a :: b :: c :: d :: e :: f :: r)) = some (.agg [a, b, c, d, e, f]) := by simp [loadV]
theorem loadV_7 (a b c d e f g : AV) (r : List AV) : loadV (some 7) (some (a :: b :: c :: d :: e :: f :: g :: r)) = some (.agg [a, b, c, d, e, f, g]) := by simp [loadV]
theorem loadV_8 (a b c d e f g h : AV) (r : List AV) : loadV (some 8) (some (a :: b :: c :: d :: e :: f :: g :: h :: r)) = some (.agg [a, b, c, d, e, f, g, h]) := by simp [loadV]
theorem nn_cast (n : Nat) : (0 ≤ (n : Int)) = True := eq_true (by omega)
theorem tn_cast (n : Nat) : (n : Int).toNat = n := rfl
theorem elemA_own (i z b e o n z' : Nat) : elemA i z (.sl b e o n z') = if i < n then some (.ptr b e (o + i * z)) else none := rfl
theorem shift_ptr (off b e o : Nat) : shift off (.ptr b e o) = some (.ptr b e (o + off)) := rfl
theorem shift_vp (off : Nat) (cs : List AV) : shift off (.vp cs) = some (.vp (cs.drop off)) := rfl
theorem nilckV_ptr (b e o : Nat) : nilckV (.ptr b e o) = some (.ptr b e o) := rfl
theorem nilckV_vp (cs : List AV) : nilckV (.vp cs) = some (.vp cs) := rfl
theorem nilckV_fn (t : Nat) (v : AV) (m : String) : nilckV (.fn (.method m) [.ifc t v] []) = if gMeth.contains (m, t) = true then some (.fn (.method m) [.ifc t v] []) else none := rfl
theorem gMeth_ws : gMeth.contains ("WriteString", 174) = true := by decide
theorem optK_ite {α : Type} (c : Prop) [Decidable c] (o : Option α) (K : α → Prop) : @optK α (if c then none else o) ⟨K⟩ = @brI c ⟨False⟩ ⟨@optK α o ⟨K⟩⟩ := by
  by_cases h : c <;> simp [h, optK, brI, brK]
theorem optK_ite' {α : Type} (c : Prop) [Decidable c] (o : Option α) (K : α → Prop) : @optK α (if c then o else none) ⟨K⟩ = @brI c ⟨@optK α o ⟨K⟩⟩ ⟨False⟩ := by
  by_cases h : c <;> simp [h, optK, brI, brK]
theorem effK_ite (c : Prop) [Decidable c] (e : Eff) (s : St) (K : AV → St → Prop) : @effK (if c then e else none) s ⟨K⟩ = @brI c ⟨@effK e s ⟨K⟩⟩ ⟨False⟩ := by
  by_cases h : c <;> simp [h, effK, brI, brK]
theorem deffK_ite (c : Prop) [Decidable c] (e : Eff) (D : List Nat) (s : St) (K : AV → St → Entry → Prop) : @deffK (if c then e else none) D s ⟨K⟩ = @brI c ⟨@deffK e D s ⟨K⟩⟩ ⟨False⟩ := by
  by_cases h : c <;> simp [h, deffK, brI, brK]
theorem rd_vp (g : Nat → Option Obj) (cs : List AV) : rd g (.vp cs) = some cs := rfl
theorem viewIs_int (s : St) (k : IntKind) (n : Int) (v : AV) : viewIs s (.int k n) v = (AV.int k n = v) := by simp [viewIs, view]
theorem viewIs_bool (s : St) (n : Bool) (v : AV) : viewIs s (.bool n) v = (AV.bool n = v) := by simp [viewIs, view]
theorem viewIs_str (s : St) (n : List UInt8) (v : AV) : viewIs s (.str n) v = (AV.str n = v) := by simp [viewIs, view]
theorem viewIs_ps (s : St) (n : Nat) (cs : List AV) (v : AV) : viewIs s (.ps n cs) v = (AV.ps n cs = v) := by simp [viewIs, view]
theorem viewIs_nils (s : St) (v : AV) : viewIs s .nils v = (AV.ps 0 [] = v) := by simp [viewIs, view]
theorem viewIs_agg (s : St) (cs : List AV) (v : AV) : viewIs s (.agg cs) v = ((views s.get cs).map (fun p => AV.agg p.1) = some v) := by
  simp only [viewIs, view]
  cases views s.get cs with
  | none => rfl
  | some p => rfl
theorem viewIs_tup (s : St) (cs : List AV) (v : AV) : viewIs s (.tup cs) v = ((views s.get cs).map (fun p => AV.tup p.1) = some v) := by
  simp only [viewIs, view]
  cases views s.get cs with
  | none => rfl
  | some p => rfl
theorem get_drop {α : Type} {l : List α} {k : Nat} (h : k < l.length) : ∃ x, l[k]? = some x ∧ l.drop k = x :: l.drop (k + 1) ∧ x ∈ l :=
  ⟨l[k], by simp [h], List.drop_eq_getElem_cons h, List.getElem_mem h⟩
attribute [go_sem] nn_cast tn_cast elemA_own
attribute [go_sem] C0_none loadV_2 loadV_3 loadV_4 loadV_5 loadV_6 loadV_7 loadV_8 shift_ptr shift_vp rd_vp optK_ite optK_ite' effK_ite deffK_ite beq_eq_false_iff_ne bne_eq_false_iff_eq nilckV_ptr nilckV_vp nilckV_fn gMeth_ws viewIs_int viewIs_bool viewIs_str viewIs_ps viewIs_nils viewIs_agg viewIs_tup Option.some.injEq
attribute [go_sem] or_self or_true true_or or_false false_or appA firstV nextV_odd nextV_even rowOf isSlc bound cutL mmA
attribute [go_sem] elemA_Int elemA_Str elemA_Bool elemA_LL ecells_Int ecells_Bool ecells_Str ecells_L eav_Int eav_Bool eav_Str eav_L Option.map_some Option.map_none
attribute [go_sem] Ty.Attr.elem Ty.Tag.elem
attribute [go_sem] Ty.Attr.ecells Ty.Tag.ecells
attribute [go_sem] Ty.Attr.eav Ty.Tag.eav
end Go.AX
/- Calls that change what they were handed: the new ids of a call are given back. -/
namespace Go.AX
open Go
theorem satObj_cut {c c' : Ctx} {w : World} {id n : Nat} {o : Obj} (h : SatObj c w id o) (hid : id < n) (ho : ClO n o) : SatObj (c.cut n) w id o := by
  refine h.recut (fun e => by simp [Ctx.cut, hid]) (fun k i => rfl) fun x u hx hr => rep_cut x u hr ?_
  cases o with
  | cells v cs sn =>
    simp only [ClO] at ho
    obtain ⟨i, hi⟩ := List.mem_iff_getElem?.1 hx
    exact ho.get i x hi
  | map es =>
    simp only [ClO] at ho
    obtain ⟨p, hp, rfl | rfl⟩ := hx
    · exact (ho p hp).1
    · exact (ho p hp).2
  | iter p q => exact hx.elim
  | raw k o F us =>
    obtain ⟨i, hi⟩ := List.mem_iff_getElem?.1 hx
    simp only [ClO] at ho
    exact ho.get i x hi
theorem Sat.closed {c : Ctx} {s : St} {w : World} (h : Sat c s w) {id : Nat} {o : Obj} (hg : s.get id = some o) : ClO s.next o ∧ id < s.next := by
  have hlt : id < s.next := by
    obtain ⟨k, z, hb⟩ := (h.obj id o hg).bound
    rcases Nat.lt_or_ge id s.next with h1 | h1
    · exact h1
    · rw [h.fresh id _ h1] at hb; simp at hb
  refine ⟨?_, hlt⟩
  have ho := h.obj id o hg
  cases o with
  | cells v cs sn =>
    obtain ⟨k, z, arr, el, fr, h1, h2, h3, h4, h5, h6, h7⟩ := ho
    simp only [ClO]
    refine Cls.of_get fun i x hx => ?_
    obtain ⟨u, _, _, r⟩ := h6 i x hx
    exact rep_cl h.fresh x u r
  | map es =>
    obtain ⟨k, z, mes, clock, h1, h2, h3, h4⟩ := ho
    simp only [ClO]
    have key : ∀ (es : List (AV × AV)) (us : List MapEntry), RepE c es us → ∀ p ∈ es, Cl s.next p.1 ∧ Cl s.next p.2 := by
      intro es
      induction es with
      | nil => intro us _ p hp; simp at hp
      | cons q r ih =>
        intro us hr p hp
        obtain ⟨a, b⟩ := q
        simp only [RepE] at hr
        obtain ⟨e, es', _, r1, r2, r3⟩ := hr
        rcases List.mem_cons.1 hp with rfl | hp
        · exact ⟨rep_cl h.fresh _ _ r1, rep_cl h.fresh _ _ r2⟩
        · exact ih es' r3 p hp
    exact key es _ h3
  | iter p q => trivial
  | raw k o F us =>
    obtain ⟨z, _, _, h3, _⟩ := ho
    exact Cls.of_get fun i x hx => by
      obtain ⟨u, _, r⟩ := h3.get i x hx
      exact rep_cl h.fresh x u r
theorem ACalls.fin {P : Program} {f : FuncId} {args : List AV} {s : St} {R : AV → St → Prop}
    (h : ACalls P f args s fun v s' => Cl s.next v ∧ ∃ s2, s2.next = s.next ∧ (∀ id o, s2.get id = some o → ∃ o', s.get id = some o') ∧ (∀ id o, id < s.next → s2.get id = some o → s'.get id = some o ∧ (s.get id = some o ∨ ClO s.next o)) ∧ R v s2) : ACalls P f args s R := by
  refine ⟨h.1, fun c w vs hs hr => (h.2 c w vs hs hr).mono fun e w' ⟨v, u, c', s', e1, r, h1, h2, hcl, s2, hn, hex, hg0, hR⟩ => ?_⟩
  have hg : ∀ id o, s2.get id = some o → s'.get id = some o ∧ id < s.next ∧ (s.get id = some o ∨ ClO s.next o) := fun id o ho => by
    obtain ⟨o', ho'⟩ := hex id o ho
    have hlt := (hs.closed ho').2
    obtain ⟨a, b⟩ := hg0 id o hlt ho
    exact ⟨a, hlt, b⟩
  have hcl2 : ∀ id o, s2.get id = some o → ClO s.next o := fun id o ho => by
    obtain ⟨_, _, h3⟩ := hg id o ho
    rcases h3 with h3 | h3
    · exact (hs.closed h3).1
    · exact h3
  have hblk : ∀ id o, id < s.next → blk (c'.cut s.next) id o = blk c' id o := fun id o hid => by simp [blk, Ctx.cut, hid]
  refine ⟨v, u, c'.cut s.next, s2, e1, rep_cut v u r hcl, ⟨?_, ?_, ?_, ?_, ?_, ?_⟩, ⟨?_, h2.size, ?_, ?_, ?_, ?_, ?_, h2.os⟩, hR⟩
  · exact h1.mem
  · intro id o ho
    obtain ⟨g1, g2, _⟩ := hg id o ho
    exact satObj_cut (c' := c') (h1.obj id o g1) g2 (hcl2 id o ho)
  · intro id id' o o' k ho ho' hk hk'
    obtain ⟨g1, g2, _⟩ := hg id o ho
    obtain ⟨g1', g2', _⟩ := hg id' o' ho'
    rw [hblk id o g2] at hk
    rw [hblk id' o' g2'] at hk'
    exact h1.inj id id' o o' k g1 g1' hk hk'
  · intro id e hid
    rw [hn] at hid
    simp [Ctx.cut]; omega
  · intro id o ho e he
    obtain ⟨g1, g2, _⟩ := hg id o ho
    simp [Ctx.cut, g2, h1.top id o g1 e he]
  · intro b e k z hb
    simp only [Ctx.cut] at hb
    split at hb
    · exact h1.low b e k z hb
    · simp at hb
  · refine ⟨fun b e x hx => ?_, h2.le.2⟩
    have hb : b < s.next := by
      rcases Nat.lt_or_ge b s.next with h | h
      · exact h
      · rw [hs.fresh b e h] at hx; simp at hx
    simp only [Ctx.cut, hb, if_true]
    exact h2.le.1 b e x hx
  · exact h2.same
  · rintro k ⟨id, o, ho, hk⟩
    obtain ⟨g1, g2, _⟩ := hg id o ho
    rw [hblk id o g2] at hk
    exact h2.foot k ⟨id, o, g1, hk⟩
  · rw [hn]; exact Nat.le_refl _
  · intro id hid hno e
    simp only [Ctx.cut, hid, if_true]
    exact h2.sig id hid hno e
  · intro id o ho
    obtain ⟨g1, g2, _⟩ := hg id o ho
    rcases h2.dom id o g1 with h | h
    · exact .inl h
    · omega
section
variable {P : Program}
theorem callI_st {f : FuncId} {args : List AV} {s : St} {xs : List AV} {s' s2 : St} {K : AV → St → Prop} {v : AV} (h : ACalls P f args s fun v' s'' => v' = v ∧ s'' = s2) (hk : @stK s2 ⟨K v⟩) : @CallI P f args s xs s' ⟨K⟩ :=
  .inl (h.mono fun v' s'' ⟨h1, h2⟩ => by subst h1; subst h2; exact hk)
end
theorem look_put_ne {id id' : Nat} {o : Obj} {l : List (Nat × Obj)} (h : id ≠ id') : look id' (putAt id o l) = look id' l := by rw [look_putAt, if_neg h]
theorem look_put_eq {id : Nat} {o x : Obj} {l : List (Nat × Obj)} (h : look id l = some x) : look id (putAt id o l) = some o := by rw [look_putAt, if_pos rfl, h]; rfl
end Go.AX
namespace Go.AX
attribute [go_sem] look_putAt
end Go.AX
/- A deep view: what is owned becomes plain, within what is plain, too. -/
namespace Go.AX
open Go
abbrev Seen := AV × List (Nat × Obj)
def viewList (f : AV → Option Seen) : List AV → Option (List AV × List (Nat × Obj))
  | [] => some ([], [])
  | x :: xs => match f x, viewList f xs with
    | some (y, p), some (ys, q) => some (y :: ys, p ++ q)
    | _, _ => none
def wrapV (k : List AV → AV) : Option (List AV × List (Nat × Obj)) → Option Seen
  | some (xs, q) => some (k xs, q)
  | none => none
def wrapV2 (k : List AV → List AV → AV) : Option (List AV × List (Nat × Obj)) → Option (List AV × List (Nat × Obj)) → Option Seen
  | some (xs, p), some (ys, q) => some (k xs ys, p ++ q)
  | _, _ => none
def wrapO (b e : Nat) (o : Option Obj) (f : List AV → Option Seen) : Option Seen := match o with
  | some (.cells e' cs _) => if e = e' then (match f cs with | some (x, q) => some (x, (b, .cells e cs true) :: q) | none => none) else none
  | _ => none
def viewN (g : Nat → Option Obj) : Nat → AV → Option Seen
  | 0, v => some (v, [])
  | d + 1, v => match v with
    | .nils => some (.ps 0 [], [])
    | .sl b e o n z => wrapO b e (g b) fun cs => if o + n * z ≤ cs.length then wrapV (.ps n) (viewList (viewN g d) ((cs.drop o).take (n * z))) else none
    | .ptr b e o => wrapO b e (g b) fun cs => if o ≤ cs.length then wrapV .vp (viewList (viewN g d) (cs.drop o)) else none
    | .ps n cs => if flats cs = true then some (.ps n cs, []) else wrapV (.ps n) (viewList (viewN g d) cs)
    | .vp cs => if flats cs = true then some (.vp cs, []) else wrapV .vp (viewList (viewN g d) cs)
    | .agg cs => wrapV .agg (viewList (viewN g d) cs)
    | .tup cs => wrapV .tup (viewList (viewN g d) cs)
    | .fn f xs ys => wrapV2 (.fn f) (viewList (viewN g d) xs) (viewList (viewN g d) ys)
    | .ifc t x => match viewN g d x with
      | some (y, q) => some (.ifc t y, q)
      | none => none
    | v => some (v, [])
section
variable {w : World} {g : Nat → Option Obj}
def VS (w : World) (g : Nat → Option Obj) (f : AV → Option Seen) : Prop := ∀ (x y : AV) (ps : List (Nat × Obj)), f x = some (y, ps) → ∀ (c : Ctx) (s : St) (u : Value), Sat c s w → Since g s → Rep c x u →
    ∃ c', Sat c' (s.puts ps) w ∧ Ext c s w c' (s.puts ps) w ∧ Since g (s.puts ps) ∧ Rep c' y u
theorem viewList_sound {f : AV → Option Seen} (hf : VS w g f) : ∀ (xs ys : List AV) (ps : List (Nat × Obj)), viewList f xs = some (ys, ps) → ∀ (c : Ctx) (s : St) (us : List Value), Sat c s w → Since g s → RepL c xs us →
    ∃ c', Sat c' (s.puts ps) w ∧ Ext c s w c' (s.puts ps) w ∧ Since g (s.puts ps) ∧ RepL c' ys us
  | [], ys, ps, hv, c, s, us, h, hs, hr => by
    simp [viewList] at hv; obtain ⟨rfl, rfl⟩ := hv
    exact ⟨c, h, Ext.refl _ _ _, hs, hr⟩
  | x :: xs, ys, ps, hv, c, s, us, h, hs, hr => by
    simp only [viewList] at hv
    split at hv
    · rename_i y p ys' q h1 h2
      simp at hv; obtain ⟨rfl, rfl⟩ := hv
      simp only [RepL] at hr
      obtain ⟨u, us', rfl, r1, r2⟩ := hr
      obtain ⟨c1, a1, a2, a3, a4⟩ := hf x y p h1 c s u h hs r1
      obtain ⟨c2, b1, b2, b3, b4⟩ := viewList_sound hf xs ys' q h2 c1 (s.puts p) us' a1 a3 (RepL.mono a2.le xs us' r2)
      have e : s.puts (p ++ q) = (s.puts p).puts q := by simp [St.puts]
      refine ⟨c2, by rw [e]; exact b1, by rw [e]; exact a2.trans b2, by rw [e]; exact b3, ?_⟩
      simp only [RepL]
      exact ⟨u, us', rfl, a4.mono b2.le, b4⟩
    · simp at hv
theorem repAt_us {c : Ctx} {k : Nat} : ∀ {o : Nat} {xs : List AV}, RepAt c k o xs → ∃ us, RepL c xs us ∧ ∀ i u, us[i]? = some u → c.m k (o + i) = some u
  | o, [], _ => ⟨[], by simp [RepL], by simp⟩
  | o, x :: xs, r => by
    simp only [RepAt] at r
    obtain ⟨⟨u, e, r1⟩, r2⟩ := r
    obtain ⟨us, h1, h2⟩ := repAt_us r2
    refine ⟨u :: us, by simp only [RepL]; exact ⟨u, us, rfl, r1, h1⟩, fun i v hv => ?_⟩
    cases i with
    | zero => simp at hv; subst hv; exact e
    | succ i => simp at hv; have := h2 i v hv; rwa [show o + 1 + i = o + (i + 1) by omega] at this
theorem repAt_ofus {c : Ctx} {k : Nat} : ∀ {o : Nat} {xs : List AV} {us : List Value}, RepL c xs us → (∀ i u, us[i]? = some u → c.m k (o + i) = some u) → RepAt c k o xs
  | o, [], us, _, _ => by simp [RepAt]
  | o, x :: xs, us, r, h => by
    simp only [RepL] at r
    obtain ⟨u, us', rfl, r1, r2⟩ := r
    simp only [RepAt]
    refine ⟨⟨u, by simpa using h 0 u (by simp), r1⟩, repAt_ofus r2 fun i v hv => ?_⟩
    have := h (i + 1) v (by simpa using hv)
    rwa [show o + (i + 1) = o + 1 + i by omega] at this
theorem viewAt_sound {f : AV → Option Seen} (hf : VS w g f) {k o : Nat} {xs ys : List AV} {ps : List (Nat × Obj)} (hv : viewList f xs = some (ys, ps)) {c : Ctx} {s : St} (h : Sat c s w) (hs : Since g s) (hr : RepAt c k o xs) :
    ∃ c', Sat c' (s.puts ps) w ∧ Ext c s w c' (s.puts ps) w ∧ Since g (s.puts ps) ∧ RepAt c' k o ys := by
  obtain ⟨us, h1, h2⟩ := repAt_us hr
  obtain ⟨c', a1, a2, a3, a4⟩ := viewList_sound hf xs ys ps hv c s us h hs h1
  exact ⟨c', a1, a2, a3, repAt_ofus a4 fun i u hu => a2.le.2 _ _ _ (h2 i u hu)⟩
theorem wrapV_some {k : List AV → AV} {o : Option (List AV × List (Nat × Obj))} {y : AV} {ps : List (Nat × Obj)} (h : wrapV k o = some (y, ps)) : ∃ xs, o = some (xs, ps) ∧ y = k xs := by
  cases o with
  | none => simp [wrapV] at h
  | some p => obtain ⟨xs, q⟩ := p; simp [wrapV] at h; exact ⟨xs, by rw [h.2], h.1.symm⟩
theorem viewN_sound : ∀ d, VS w g (viewN g d)
  | 0 => fun x y ps hv c s u h hs hr => by
    simp [viewN] at hv; obtain ⟨rfl, rfl⟩ := hv
    exact ⟨c, h, Ext.refl _ _ _, hs, hr⟩
  | d + 1 => fun x y ps hv c s u h hs hr => by
    have ih := viewN_sound d
    have same : ∀ {y : AV} {ps : List (Nat × Obj)}, some (x, ([] : List (Nat × Obj))) = some (y, ps) → ∃ c', Sat c' (s.puts ps) w ∧ Ext c s w c' (s.puts ps) w ∧ Since g (s.puts ps) ∧ Rep c' y u := fun e => by
      simp at e; obtain ⟨rfl, rfl⟩ := e
      exact ⟨c, h, Ext.refl _ _ _, hs, hr⟩
    cases x with
    | nils =>
      simp [viewN] at hv; obtain ⟨rfl, rfl⟩ := hv
      simp only [Rep] at hr
      refine ⟨c, h, Ext.refl _ _ _, hs, ?_⟩
      simp only [Rep]
      exact .inl ⟨by first | rfl | trivial, by first | rfl | trivial, none, 0, hr⟩
    | sl b e o n z =>
      simp only [viewN, wrapO] at hv
      split at hv
      · rename_i e' cs sn hg
        split at hv
        · rename_i he
          subst he
          split at hv
          · rename_i x q hq
            split at hq
            · rename_i hc
              obtain ⟨xs, h1, rfl⟩ := wrapV_some hq
              simp at hv; obtain ⟨rfl, rfl⟩ := hv
              obtain ⟨c1, a1, a2, ⟨k, zz, a3, a4⟩, a5⟩ := see_step h hs hg
              simp only [Rep] at hr
              obtain ⟨k', s', q', g1, g2, g3, g4⟩ := hr
              have := a2.le.1 _ _ _ g1
              rw [a3] at this; simp only [Option.some.injEq, Prod.mk.injEq] at this; obtain ⟨rfl, rfl⟩ := this
              have hat : RepAt c1 k o ((cs.drop o).take (n * z)) := by simpa using (a4.drop o).take (n * z)
              obtain ⟨c2, b1, b2, b3, b4⟩ := viewAt_sound ih h1 a1 a5 hat
              refine ⟨c2, b1, a2.trans b2, b3, ?_⟩
              simp only [Rep]
              exact .inr ⟨k, o, q', g2, g3, b4⟩
            · simp at hq
          · simp at hv
        · simp at hv
      · simp at hv
    | ptr b e o =>
      simp only [viewN, wrapO] at hv
      split at hv
      · rename_i e' cs sn hg
        split at hv
        · rename_i he
          subst he
          split at hv
          · rename_i x q hq
            split at hq
            · rename_i hc
              obtain ⟨xs, h1, rfl⟩ := wrapV_some hq
              simp at hv; obtain ⟨rfl, rfl⟩ := hv
              obtain ⟨c1, a1, a2, ⟨k, zz, a3, a4⟩, a5⟩ := see_step h hs hg
              simp only [Rep] at hr
              obtain ⟨k', s', g1, g2⟩ := hr
              have := a2.le.1 _ _ _ g1
              rw [a3] at this; simp only [Option.some.injEq, Prod.mk.injEq] at this; obtain ⟨rfl, rfl⟩ := this
              have hat : RepAt c1 k o (cs.drop o) := by simpa using a4.drop o
              obtain ⟨c2, b1, b2, b3, b4⟩ := viewAt_sound ih h1 a1 a5 hat
              refine ⟨c2, b1, a2.trans b2, b3, ?_⟩
              simp only [Rep]
              exact ⟨k, o, g2, b4⟩
            · simp at hq
          · simp at hv
        · simp at hv
      · simp at hv
    | ps n cs =>
      simp only [viewN] at hv
      split at hv
      · exact same hv
      · obtain ⟨xs, h1, rfl⟩ := wrapV_some hv
        simp only [Rep] at hr
        rcases hr with ⟨rfl, rfl, a, q, e⟩ | ⟨k, o, q, e, hq, r⟩
        · simp [viewList] at h1
          obtain ⟨rfl, rfl⟩ := h1
          exact ⟨c, h, Ext.refl _ _ _, hs, by simp only [Rep]; exact .inl ⟨by first | rfl | trivial, by first | rfl | trivial, a, q, e⟩⟩
        · obtain ⟨c2, b1, b2, b3, b4⟩ := viewAt_sound ih h1 h hs r
          exact ⟨c2, b1, b2, b3, by simp only [Rep]; exact .inr ⟨k, o, q, e, hq, b4⟩⟩
    | vp cs =>
      simp only [viewN] at hv
      split at hv
      · exact same hv
      · obtain ⟨xs, h1, rfl⟩ := wrapV_some hv
        simp only [Rep] at hr
        obtain ⟨k, o, e, r⟩ := hr
        obtain ⟨c2, b1, b2, b3, b4⟩ := viewAt_sound ih h1 h hs r
        exact ⟨c2, b1, b2, b3, by simp only [Rep]; exact ⟨k, o, e, b4⟩⟩
    | agg xs =>
      simp only [viewN] at hv
      obtain ⟨ys, h1, rfl⟩ := wrapV_some hv
      simp only [Rep] at hr
      obtain ⟨us, rfl, hr⟩ := hr
      obtain ⟨c', a1, a2, a3, a4⟩ := viewList_sound ih xs ys _ h1 c s us h hs hr
      exact ⟨c', a1, a2, a3, by simp only [Rep]; exact ⟨us, rfl, a4⟩⟩
    | tup xs =>
      simp only [viewN] at hv
      obtain ⟨ys, h1, rfl⟩ := wrapV_some hv
      simp only [Rep] at hr
      obtain ⟨us, rfl, hr⟩ := hr
      obtain ⟨c', a1, a2, a3, a4⟩ := viewList_sound ih xs ys _ h1 c s us h hs hr
      exact ⟨c', a1, a2, a3, by simp only [Rep]; exact ⟨us, rfl, a4⟩⟩
    | fn f xs ys =>
      simp only [viewN] at hv
      cases h1 : viewList (viewN g d) xs with
      | none => rw [h1] at hv; simp [wrapV2] at hv
      | some p1 =>
        cases h2 : viewList (viewN g d) ys with
        | none => rw [h1, h2] at hv; simp [wrapV2] at hv
        | some p2 =>
          obtain ⟨xs', p⟩ := p1
          obtain ⟨ys', q⟩ := p2
          rw [h1, h2] at hv
          simp [wrapV2] at hv
          obtain ⟨rfl, rfl⟩ := hv
          simp only [Rep] at hr
          obtain ⟨us, ws, rfl, r1, r2⟩ := hr
          obtain ⟨c1, a1, a2, a3, a4⟩ := viewList_sound ih xs xs' _ h1 c s us h hs r1
          obtain ⟨c2, b1, b2, b3, b4⟩ := viewList_sound ih ys ys' _ h2 c1 _ ws a1 a3 (RepL.mono a2.le ys ws r2)
          have e : s.puts (p ++ q) = (s.puts p).puts q := by simp [St.puts]
          exact ⟨c2, by rw [e]; exact b1, by rw [e]; exact a2.trans b2, by rw [e]; exact b3, by simp only [Rep]; exact ⟨us, ws, rfl, RepL.mono b2.le _ _ a4, b4⟩⟩
    | ifc t x =>
      simp only [viewN] at hv
      split at hv
      · rename_i y' q h1
        simp at hv; obtain ⟨rfl, rfl⟩ := hv
        simp only [Rep] at hr
        obtain ⟨u', rfl, hr⟩ := hr
        obtain ⟨c', a1, a2, a3, a4⟩ := ih x y' q h1 c s u' h hs hr
        exact ⟨c', a1, a2, a3, by simp only [Rep]; exact ⟨u', rfl, a4⟩⟩
      · simp at hv
    | _ => exact same (by simpa only [viewN] using hv)
end
theorem Upd.viewN {d : Nat} {v v' : AV} {s : St} {ps : List (Nat × Obj)} (h : Go.AX.viewN s.get d v = some (v', ps)) : Upd v s v' (s.puts ps) := fun c w u hs hr => by
  obtain ⟨c', h1, h2, _, h4⟩ := viewN_sound d v v' ps h c s u hs (Since.refl s) hr
  exact ⟨c', h1, h2, h4⟩
section
variable {P : Program}
theorem ACalls.viewN {d : Nat} {f : FuncId} {args xs : List AV} {s : St} {ps : List (Nat × Obj)} {R : AV → St → Prop} (hv : viewList (Go.AX.viewN s.get d) args = some (xs, ps)) (h : ACalls P f xs (s.puts ps) R) : ACalls P f args s R :=
  ⟨h.1, fun c w vs hs hr => by
    obtain ⟨c', h1, h2, _, h4⟩ := viewList_sound (viewN_sound d) args xs ps hv c s vs hs (Since.refl s) hr
    exact (h.2 c' w vs h1 h4).mono fun e w' ⟨v, u, c2, s2, e1, e2, e3, e4, e5⟩ => ⟨v, u, c2, s2, e1, e2, e3, h2.trans e4, e5⟩⟩
def viewNIs (s : St) (v' v : AV) : Prop := (viewN s.get 8 v').map (·.1) = some v
theorem upd_viewNIs {s : St} {v' v : AV} (h : viewNIs s v' v) : ∃ s2, Upd v' s v s2 := by
  unfold viewNIs at h
  cases hv : viewN s.get 8 v' with
  | none => rw [hv] at h; simp at h
  | some p =>
    obtain ⟨x, ps⟩ := p
    rw [hv] at h
    simp at h
    subst h
    exact ⟨_, Upd.viewN hv⟩
def outD : OutK → Option AV
  | .val v s => (viewN s.get 8 v).map (·.1)
  | _ => none
theorem pureF_evk (hmix : P.follows .mixedOrders = true) {d : Nat} {T : Nat → Option TFun} (hT : ∀ f tf, T f = some tf → cFun P f = some tf.af) (hin : TIn d T) {n f : Nat} {args : List AV} {v : AV}
    (hfa : flats args = true) (hfv : flat v = true) (h : outD (evk d T n (.call f args) .e ⟨[], 0⟩) = some v) : PureF P f args v := by
  unfold outD at h
  split at h
  · rename_i v0 s0 he
    exact ⟨ACalls.upd ((evk_call hmix hT hin he).mono fun v' s' ⟨h1, h2⟩ => by subst h1; subst h2; obtain ⟨s2, hu⟩ := upd_viewNIs h; exact ⟨v, s2, hu, rfl⟩), hfa, hfv⟩
  · simp at h
def deepK (o : Option (List AV × List (Nat × Obj))) (xs' : List AV) (s : St) [K : StBox] : Prop := match o with
  | some (xs, ps) => xs = xs' ∧ stK (s.puts ps)
  | none => False
theorem deepK_some (xs xs' : List AV) (ps : List (Nat × Obj)) (s : St) (K : St → Prop) : @deepK (some (xs, ps)) xs' s ⟨K⟩ = @andI (xs = xs') ⟨@stK (s.puts ps) ⟨K⟩⟩ := rfl
class EsBox where
  k : St → List Nat → Prop
def ddeepK (o : Option (List AV × List (Nat × Obj))) (xs' : List AV) (s : St) [K : EsBox] : Prop := match o with
  | some (xs, ps) => xs = xs' ∧ (ps.all fun p => decide (p.1 < s.next)) = true ∧ K.k (s.puts ps) (ps.map (·.1))
  | none => False
theorem ddeepK_some (xs xs' : List AV) (ps : List (Nat × Obj)) (s : St) (K : St → List Nat → Prop) : @ddeepK (some (xs, ps)) xs' s ⟨K⟩ = @andI (xs = xs' ∧ (ps.all fun p => decide (p.1 < s.next)) = true) ⟨@stK (s.puts ps) ⟨fun s' => K s' (ps.map (·.1))⟩⟩ := by
  simp only [ddeepK, andI, stK]; exact propext ⟨fun ⟨a, b, c⟩ => ⟨⟨a, b⟩, c⟩, fun ⟨⟨a, b⟩, c⟩ => ⟨a, b, c⟩⟩
end
theorem opE_mkfn {P : Program} {C : Known} (ρ : Env) (s : St) (K : AV → St → Prop) (f : Fn) (xs ys : List AO) : opE P C ρ s K (.mkfn f xs ys) = K (.fn f (xs.map (evE ρ)) (ys.map (evE ρ))) s := by
  simp only [opE, kE, aop, List.map_map]; rfl
theorem dopE_mkfn {P : Program} {C : Known} (ρ : Env) (s : St) (K : AV → St → Entry → Prop) (f : Fn) (xs ys : List AO) : dopE P C ρ s K (.mkfn f xs ys) = opE P C ρ s (fun v s' => K v s' ⟨[], [], s.next, s.next⟩) (.mkfn f xs ys) := dopE_pure P C ρ s K _ rfl
attribute [go_sem ↓] opE_mkfn dopE_mkfn opE_mkslice opE_s2b opE_b2s opE_mm opE_ifc
attribute [go_sem] viewN viewList wrapV wrapV2 wrapO deepK_some ddeepK_some flats_cellsL flats_append Go.AX.flats Go.AX.flat List.range List.range.loop
end Go.AX
/- Calls that give a value without ids, and leave all as it is. -/
namespace Go.AX
open Go
mutual
theorem cl_flat (n : Nat) : ∀ x : AV, flat x = true → Cl n x
  | .ptr _ _ _, h => by simp [flat] at h
  | .sl _ _ _ _ _, h => by simp [flat] at h
  | .map _, h => by simp [flat] at h
  | .agg xs, h => by simp only [flat] at h; exact cls_flat n xs h
  | .tup xs, h => by simp only [flat] at h; exact cls_flat n xs h
  | .vp xs, h => by simp only [flat] at h; exact cls_flat n xs h
  | .ps _ xs, h => by simp only [flat] at h; exact cls_flat n xs h
  | .fn _ xs ys, h => by
    simp only [flat, Bool.and_eq_true] at h
    exact ⟨cls_flat n xs h.1, cls_flat n ys h.2⟩
  | .ifc _ x, h => by simp only [flat] at h; exact cl_flat n x h
  | .bool _, _ | .int _ _, _ | .str _, _ | .nilp, _ | .nils, _ | .nilf, _ | .nili, _ | .nilm, _ | .any, _ => trivial
theorem cls_flat (n : Nat) : ∀ xs : List AV, flats xs = true → Cls n xs
  | [], _ => trivial
  | x :: r, h => by
    simp only [flats, Bool.and_eq_true] at h
    exact ⟨cl_flat n x h.1, cls_flat n r h.2⟩
end
theorem Upd.sub (v : AV) {s s2 : St} (hg : ∀ id o, s2.get id = some o → s.get id = some o) (hn : s.next ≤ s2.next) : Upd v s v s2 := fun c w u hs hr => by
  obtain ⟨a, b⟩ := hs.forget hg hn
  exact ⟨c, a, b, hr⟩
end Go.AX
/- A pure call that gives plain values leaves no trace: what it has looked at can still be written. -/
namespace Go.AX
open Go
theorem rep_lit1 {c c' : Ctx} {v : AV} (h : lit1 v = true) {u : Value} (r : Rep c v u) : Rep c' v u := by
  cases v <;> first | (simp [lit1] at h; done) | simpa [Rep] using r
section
variable {P : Program}
def seesK (o : Option (List AV × List (Nat × Obj))) (xs' : List AV) (s : St) [K : StBox] : Prop := match o with
  | some (xs, _) => xs = xs' ∧ stK s
  | none => False
theorem seesK_some (xs xs' : List AV) (ps : List (Nat × Obj)) (s : St) (K : St → Prop) : @seesK (some (xs, ps)) xs' s ⟨K⟩ = @andI (xs = xs') ⟨@stK s ⟨K⟩⟩ := rfl
end
attribute [go_sem] seesK_some
end Go.AX
/- Owned results: a call that sees plain values and gives a new list. -/
namespace Go.AX
open Go
def OwnF (P : Program) (f : FuncId) (args : List AV) (e n z : Nat) (cs : List AV) : Prop :=
  ACalls P f args ⟨[], 0⟩ (fun v s' => ∃ b, v = .sl b e 0 n z ∧ s'.get b = some (.cells e cs false)) ∧ flats args = true ∧ cs.all lit1 = true
theorem all_lit_get {cs : List AV} (h : cs.all lit1 = true) {i : Nat} {x : AV} (hx : cs[i]? = some x) : lit1 x = true :=
  List.all_eq_true.1 h x (List.mem_of_getElem? hx)
theorem OwnF.calls {P : Program} {f : FuncId} {args xs : List AV} {s : St} {ps : List (Nat × Obj)} {d e n z : Nat} {cs : List AV} (hv : viewList (Go.AX.viewN s.get d) args = some (xs, ps)) (h : OwnF P f xs e n z cs) :
    ACalls P f args s fun v' s' => v' = .sl s.next e 0 n z ∧ s' = s.push (.cells e cs false) := by
  obtain ⟨h, ha, hlit⟩ := h
  refine ⟨h.1, fun c w vs hs hr => ?_⟩
  obtain ⟨c1, g1, g2, _, g4⟩ := viewList_sound (viewN_sound d) args xs ps hv c s vs hs (Since.refl s) hr
  have h0 : Sat ⟨fun _ _ => none, c1.m, c1.gl⟩ ⟨[], 0⟩ w := ⟨g1.mem, fun id o ho => by simp [St.get, look] at ho, fun id id' o o' k ho => by simp [St.get, look] at ho, fun _ _ _ => rfl, fun id o ho => by simp [St.get, look] at ho, fun b e k z hb => by simp at hb⟩
  refine (h.2 _ w vs h0 (RepL.flat (c := c1) (c' := ⟨fun _ _ => none, c1.m, c1.gl⟩) (fun _ _ _ h => h) _ _ ha g4)).mono fun ev w' ⟨v', u, c', s', e1, r, h1, h2, h3⟩ => ?_
  obtain ⟨b, rfl, hg⟩ := h3
  obtain ⟨k, sz, arr, el, fr, o1, o2, o3, o4, o5, o6, o7⟩ := h1.obj b _ hg
  have hkw : w.heap.size ≤ k := by
    rcases h2.foot k ⟨b, _, hg, by simp [blk, Obj.ver, o1]⟩ with ⟨id, o, ho, _⟩ | h
    · simp [St.get, look] at ho
    · exact h
  have hkw' : k < w'.heap.size := by
    rcases Nat.lt_or_ge k w'.heap.size with h | h
    · exact h
    · rw [Array.getElem?_eq_none h] at o2; simp at o2
  have hsame : ∀ k, k < w.heap.size → w'.heap[k]? = w.heap[k]? := fun k hk => (h2.same k hk fun ⟨id, o, ho, _⟩ => by simp [St.get, look] at ho).1
  have hin : ∀ k o u, c.m k o = some u → k < w.heap.size := fun k o u hu => by
    have := (hs.mem k o u hu).1
    rcases Nat.lt_or_ge k w.heap.size with h | h
    · exact h
    · exfalso
      simp [World.cell?, Array.getElem?_eq_none h] at this
  let m2 : Nat → Nat → Option Value := fun k o => if k < w.heap.size then c.m k o else none
  let s2 : Nat → Nat → Option (Nat × Nat) := fun b' e' => if b' = s.next ∧ e' = e then some (k, sz) else c.σ b' e'
  have hm2 : ∀ k o, k < w.heap.size → m2 k o = c.m k o := fun k o hk => if_pos hk
  have hs2 : ∀ b' e', b' ≠ s.next → s2 b' e' = c.σ b' e' := fun b' e' hb => if_neg fun h => hb h.1
  have hse : s2 s.next e = some (k, sz) := if_pos ⟨rfl, rfl⟩
  have hg2 : ∃ n, m2 gM 0 = some (.int .i64 n) := by
    obtain ⟨n, hn⟩ := c.gl
    exact ⟨n, by rw [hm2 _ _ (hin _ _ _ hn), hn]⟩
  have hle : c.le ⟨s2, m2, hg2⟩ := ⟨fun b' e' x hx => by
    show s2 b' e' = some x
    by_cases hb : b' = s.next
    · subst hb; rw [hs.fresh _ _ (Nat.le_refl _)] at hx; simp at hx
    · rw [hs2 _ _ hb]; exact hx, fun k o u hu => by rw [← hu]; exact hm2 k o (hin k o u hu)⟩
  have hcell : ∀ k o, k < w.heap.size → w'.cell? ⟨k, o, none⟩ = w.cell? ⟨k, o, none⟩ := fun k o hk => by
    simp only [World.cell?, hsame k hk]
  have hlow : ∀ id o k', s.get id = some o → blk c id o = some k' → k' < w.heap.size := fun id o k' _ hb => by
    simp only [blk, Option.map_eq_some_iff] at hb
    obtain ⟨⟨k1, z1⟩, hs1, rfl⟩ := hb
    exact hs.low _ _ _ _ hs1
  have hne : ∀ id o, s.get id = some o → id ≠ s.next := fun id o ho heq => by
    have := (hs.closed ho).2; omega
  have hblk : ∀ id o, id ≠ s.next → blk ⟨s2, m2, hg2⟩ id o = blk c id o := fun id o hid => by
    simp only [blk]; rw [hs2 _ _ hid]
  have hblk0 : blk ⟨s2, m2, hg2⟩ s.next (.cells e cs false) = some k := by simp only [blk, Obj.ver]; rw [hse]; rfl
  have hrep : Rep ⟨s2, m2, hg2⟩ (.sl s.next e 0 n z) u := by
    simp only [Rep] at r ⊢
    obtain ⟨k', s', q, r1, r2, r3, r4⟩ := r
    rw [o1] at r1; simp only [Option.some.injEq, Prod.mk.injEq] at r1; obtain ⟨rfl, rfl⟩ := r1
    exact ⟨k, sz, q, hse, r2, r3, r4⟩
  refine ⟨.sl s.next e 0 n z, u, ⟨s2, m2, hg2⟩, s.push (.cells e cs false), e1, hrep, ⟨fun k o u hu => ?_, fun id o ho => ?_, fun id id' o o' k' ho ho' hb hb' => ?_, fun id e' hid => ?_, fun id o ho e' he' => ?_, fun b e' k' z' hb => ?_⟩,
    ⟨hle, h2.size, fun k hk _ => ⟨hsame k hk, fun o => hm2 k o hk⟩, fun k' hf => ?_, Nat.le_succ _, fun id hid _ e' => hs2 id e' (by omega), fun id o ho => ?_, h2.os⟩, rfl, rfl⟩
  · simp only [m2] at hu
    split at hu
    · rename_i hk
      rw [hcell k o hk]
      exact hs.mem k o u hu
    · simp at hu
  · rw [St.get_push] at ho
    split at ho
    · rename_i hid; subst hid; cases ho
      refine ⟨k, sz, arr, el, fr, hse, o2, o3, o4, o5, fun i x hx => ?_, fun i => ?_⟩
      · obtain ⟨u', p1, p2, p3⟩ := o6 i x hx
        exact ⟨u', p1, p2, rep_lit1 (all_lit_get hlit hx) p3⟩
      · show m2 k i = _
        simp only [m2]
        rw [if_neg (by omega)]
        simp
    · rename_i hid
      refine (hs.obj id o ho).move hle fun k hk => ?_
      have := hlow _ _ _ ho hk
      exact ⟨hsame _ this, fun i => hm2 _ i this⟩
  · rw [St.get_push] at ho ho'
    split at ho
    · rename_i hid; subst hid; cases ho
      split at ho'
      · rename_i hid'; exact hid'
      · rw [hblk id' o' (hne _ _ ho')] at hb'
        have := hlow _ _ _ ho' hb'
        rw [hblk0] at hb
        simp at hb; omega
    · split at ho'
      · rename_i hid'; subst hid'; cases ho'
        rw [hblk id o (hne _ _ ho)] at hb
        have := hlow _ _ _ ho hb
        rw [hblk0] at hb'
        simp at hb'; omega
      · rw [hblk id o (hne _ _ ho)] at hb
        rw [hblk id' o' (hne _ _ ho')] at hb'
        exact hs.inj id id' o o' k' ho ho' hb hb'
  · have hid' : s.next + 1 ≤ id := hid
    show s2 id e' = none
    rw [hs2 _ _ (by omega)]
    exact hs.fresh _ _ (by omega)
  · rw [St.get_push] at ho
    split at ho
    · rename_i hid; subst hid; cases ho
      show s2 s.next e' = none
      have : e < e' := he'
      simp only [s2]
      rw [if_neg (by omega)]
      exact hs.fresh _ _ (Nat.le_refl _)
    · show s2 id e' = none
      rw [hs2 _ _ (hne _ _ ho)]
      exact hs.top _ _ ho _ he'
  · have hb : s2 b e' = some (k', z') := hb
    by_cases hbe : b = s.next ∧ e' = e
    · obtain ⟨rfl, rfl⟩ := hbe
      rw [hse] at hb; simp at hb; omega
    · simp only [s2] at hb
      rw [if_neg hbe] at hb
      exact Nat.lt_of_lt_of_le (hs.low _ _ _ _ hb) h2.size
  · obtain ⟨id, o, ho, hb⟩ := hf
    rw [St.get_push] at ho
    split at ho
    · rename_i hid; subst hid; cases ho
      rw [hblk0] at hb
      simp at hb; right; omega
    · rw [hblk id o (hne _ _ ho)] at hb
      exact .inl ⟨id, o, ho, hb⟩
  · rw [St.get_push] at ho
    split at ho
    · rename_i hid; subst hid; exact .inr (Nat.le_refl _)
    · exact .inl ⟨o, ho⟩
section
variable {P : Program}
end
end Go.AX
/- Ranges over functions: a round; the statement; a function that holds one. -/
namespace Go.AX
open Go
structure RecOk (P : Program) (rec : Loop) (us : List Value) (ps : List Nat) (ca cb : ACode) : Prop where
  tmps : us = rec.tmps.toList
  ready : rec.state = .ready
  pend : rec.pending = none
  params : rec.params.toList = ps
  assign : cCode P rec.assign = some ca
  body : cCode P rec.body = some cb
def doneRec (rec : Loop) : Loop := { rec with state := .done, pending := some .ret }
def Marks (B : Nat) (c : Ctx) (s : St) (w : World) (ds : List Deferred) : Prop := ds = [] ∨ ∃ D, ds = [{ target := .collected D, args := #[] }] ∧ B ≤ D ∧ w.heap[D]? = some (.deferred (some [])) ∧ ¬ fp c s D
theorem Marks.mono {B B' : Nat} {c : Ctx} {s : St} {w : World} {ds : List Deferred} (h : Marks B c s w ds) (hb : B' ≤ B) : Marks B' c s w ds := h.imp id fun ⟨D, h1, h2, h3⟩ => ⟨D, h1, Nat.le_trans hb h2, h3⟩
def Posto (c : Ctx) (s : St) (w : World) (Q : Exit → List AV → St → Prop) (e : Exit) (a' : Act) (w' : World) : Prop :=
  ∃ c' F' s', Marks w.heap.size c' s' w' a'.defers ∧ RepL c' F' a'.tmps.toList ∧ Sat c' s' w' ∧ Ext c s w c' s' w' ∧ Q e F' s'
def AWPo (P : Program) (ac : ACode) (Q : Exit → List AV → St → Prop) (F : List AV) (s : St) : Prop :=
  ∀ code, cCode P code = some ac → ∀ (c : Ctx) (w : World) (a : Act), Sat c s w → RepL c F a.tmps.toList → a.defers = [] → code.wpIn (fw none) 0 P (Exit.noGoto (Posto c s w Q)) a w
end Go.AX
/- The statement that ranges over a function; a function that holds one; the walk. -/
namespace Go.AX
open Go
end Go.AX
/- The walk through a function that ranges over one; the walk through a round. -/
namespace Go.AX
open Go
def hasR : ACode → Bool
  | .rangeF _ _ _ _ => true
  | .seq a b => if hasR a = true then true else hasR b
  | .block _ a => hasR a
  | _ => false
def RangeW (P : Program) (N : Nat) (fo : AO) (ps : List Nat) (ca cb : ACode) (Q : PostE) (ρ : Env) (s : St) : Prop :=
  ∃ gf caps, ∃ R : Nat → Loop → List Value → St → Prop, evE ρ fo = .fn (.func gf) [] caps ∧
    (∀ l rec us, RecOk P rec us ps ca cb → ACalls P gf (.fn (.yield l) [] [] :: caps) (s.push (.raw l (.loop rec) (Frm N ρ) us)) fun _ s' => R l rec us s') ∧
    ∀ l rec us s', RecOk P rec us ps ca cb → R l rec us s' → ∃ F2 us2, (s'.get s.next = some (.raw l (.loop rec) F2 us2) ∧ Q .normal ρ (s'.hide [s.next])) ∨ (s'.get s.next = some (.raw l (.loop (doneRec rec)) F2 us2) ∧ Q .ret ρ (s'.hide [s.next]))
def WO (P : Program) (C : Known) (N : Nat) : ACode → PostE → Env → St → Prop
  | .seq a b, Q, ρ, s => if hasR a = true then WO P C N a (thenE (W P C b Q) Q) ρ s else W P C a (thenE (WO P C N b Q) Q) ρ s
  | .block id a, Q, ρ, s => WO P C N a (inBlockE id Q) ρ s
  | .rangeF fo ps ca cb, Q, ρ, s => RangeW P N fo ps ca cb Q ρ s
  | c, Q, ρ, s => W P C c Q ρ s
section
variable {P : Program} {C : Known} {N : Nat}
theorem AWPo.mono {ac : ACode} {Q Q' : Exit → List AV → St → Prop} {F : List AV} {s : St} (h : AWPo P ac Q F s) (hq : ∀ e F s, Q e F s → Q' e F s) : AWPo P ac Q' F s :=
  fun code hc c w a hs hF hd => wpIn_mono (h code hc c w a hs hF hd) fun e a' w' hp => noGoto_of hp fun ⟨c', F', s', h0, h1, h2, h3, h4⟩ => ⟨c', F', s', h0, h1, h2, h3, hq _ _ _ h4⟩
def RangeI (P : Program) (N : Nat) (fo : AO) (ps : List Nat) (ca cb : ACode) (ρ : Env) (s : St) [Q : QBox] : Prop := RangeW P N fo ps ca cb Q.q ρ s
theorem WO_seq (a b : ACode) (Q : PostE) (ρ : Env) (s : St) : WO P C N (.seq a b) Q ρ s = if hasR a = true then WO P C N a (thenE (W P C b Q) Q) ρ s else W P C a (thenE (WO P C N b Q) Q) ρ s := rfl
theorem WO_block (id : Nat) (a : ACode) (Q : PostE) (ρ : Env) (s : St) : WO P C N (.block id a) Q ρ s = WO P C N a (inBlockE id Q) ρ s := rfl
theorem WO_range (fo : AO) (ps : List Nat) (ca cb : ACode) (Q : PostE) (ρ : Env) (s : St) : WO P C N (.rangeF fo ps ca cb) Q ρ s = @RangeI P N fo ps ca cb ρ s ⟨Q⟩ := rfl
end
attribute [go_sem ↓] WO_seq WO_block WO_range
attribute [go_sem] hasR
end Go.AX
/- What a call does in a small state it does in every state that holds it, under other ids. -/
namespace Go.AX
open Go
mutual
def AV.ren (π : Nat → Nat) : AV → AV
  | .agg cs => .agg (AV.rens π cs)
  | .tup cs => .tup (AV.rens π cs)
  | .ptr b e o => .ptr (π b) e o
  | .vp cs => .vp (AV.rens π cs)
  | .sl b e o n z => .sl (π b) e o n z
  | .ps n cs => .ps n (AV.rens π cs)
  | .fn f xs ys => .fn f (AV.rens π xs) (AV.rens π ys)
  | .ifc t x => .ifc t (AV.ren π x)
  | .map r => .map (π r)
  | .bool b => .bool b
  | .int k n => .int k n
  | .str s => .str s
  | .nilp => .nilp
  | .nils => .nils
  | .nilf => .nilf
  | .nili => .nili
  | .nilm => .nilm
  | .any => .any
def AV.rens (π : Nat → Nat) : List AV → List AV
  | [] => []
  | x :: r => AV.ren π x :: AV.rens π r
end
theorem rens_get (π : Nat → Nat) : ∀ (l : List AV) (i : Nat), (AV.rens π l)[i]? = (l[i]?).map (AV.ren π)
  | [], i => by simp [AV.rens]
  | x :: r, 0 => by simp [AV.rens]
  | x :: r, i + 1 => by simp [AV.rens, rens_get π r i]
theorem rens_len (π : Nat → Nat) : ∀ l : List AV, (AV.rens π l).length = l.length
  | [] => rfl
  | x :: r => by simp [AV.rens, rens_len π r]
theorem rens_nil (π : Nat → Nat) (l : List AV) : AV.rens π l = [] ↔ l = [] := by cases l <;> simp [AV.rens]
def Obj.ren (π : Nat → Nat) : Obj → Obj
  | .cells v cs sn => .cells v (AV.rens π cs) sn
  | .map es => .map (es.map fun p => (AV.ren π p.1, AV.ren π p.2))
  | .iter s p => .iter s p
  | .raw k o F us => .raw k o (AV.rens π F) us
def Ctx.pull (c : Ctx) (π : Nat → Nat) : Ctx := ⟨fun b e => c.σ (π b) e, c.m, c.gl⟩
section
variable {c : Ctx} {π : Nat → Nat}
mutual
theorem rep_ren : ∀ (x : AV) (u : Value), Rep c (AV.ren π x) u ↔ Rep (c.pull π) x u
  | .agg cs, u => by simp only [AV.ren, Rep]; exact ⟨fun ⟨us, e, h⟩ => ⟨us, e, (repL_ren cs us).1 h⟩, fun ⟨us, e, h⟩ => ⟨us, e, (repL_ren cs us).2 h⟩⟩
  | .tup cs, u => by simp only [AV.ren, Rep]; exact ⟨fun ⟨us, e, h⟩ => ⟨us, e, (repL_ren cs us).1 h⟩, fun ⟨us, e, h⟩ => ⟨us, e, (repL_ren cs us).2 h⟩⟩
  | .ptr b e o, u => by simp only [AV.ren, Rep, Ctx.pull]
  | .vp cs, u => by simp only [AV.ren, Rep]; exact ⟨fun ⟨k, o, e, h⟩ => ⟨k, o, e, (repAt_ren k o cs).1 h⟩, fun ⟨k, o, e, h⟩ => ⟨k, o, e, (repAt_ren k o cs).2 h⟩⟩
  | .sl b e o n z, u => by simp only [AV.ren, Rep, Ctx.pull]
  | .ps n cs, u => by
    simp only [AV.ren, Rep, rens_nil]
    constructor
    · rintro (h | ⟨k, o, q, e, hq, h⟩)
      · exact .inl h
      · exact .inr ⟨k, o, q, e, hq, (repAt_ren k o cs).1 h⟩
    · rintro (h | ⟨k, o, q, e, hq, h⟩)
      · exact .inl h
      · exact .inr ⟨k, o, q, e, hq, (repAt_ren k o cs).2 h⟩
  | .fn f xs ys, u => by
    simp only [AV.ren, Rep]
    exact ⟨fun ⟨us, ws, e, h1, h2⟩ => ⟨us, ws, e, (repL_ren xs us).1 h1, (repL_ren ys ws).1 h2⟩, fun ⟨us, ws, e, h1, h2⟩ => ⟨us, ws, e, (repL_ren xs us).2 h1, (repL_ren ys ws).2 h2⟩⟩
  | .ifc t x, u => by simp only [AV.ren, Rep]; exact ⟨fun ⟨v, e, h⟩ => ⟨v, e, (rep_ren x v).1 h⟩, fun ⟨v, e, h⟩ => ⟨v, e, (rep_ren x v).2 h⟩⟩
  | .map r, u => by simp only [AV.ren, Rep, Ctx.pull]
  | .bool b, u => by simp only [AV.ren, Rep]
  | .int k n, u => by simp only [AV.ren, Rep]
  | .str s, u => by simp only [AV.ren, Rep]
  | .nilp, u => by simp only [AV.ren, Rep]
  | .nils, u => by simp only [AV.ren, Rep]
  | .nilf, u => by simp only [AV.ren, Rep]
  | .nili, u => by simp only [AV.ren, Rep]
  | .nilm, u => by simp only [AV.ren, Rep]
  | .any, u => by simp only [AV.ren, Rep]
theorem repL_ren : ∀ (xs : List AV) (us : List Value), RepL c (AV.rens π xs) us ↔ RepL (c.pull π) xs us
  | [], us => by simp only [AV.rens, RepL]
  | x :: r, us => by
    simp only [AV.rens, RepL]
    exact ⟨fun ⟨u, us', e, h1, h2⟩ => ⟨u, us', e, (rep_ren x u).1 h1, (repL_ren r us').1 h2⟩, fun ⟨u, us', e, h1, h2⟩ => ⟨u, us', e, (rep_ren x u).2 h1, (repL_ren r us').2 h2⟩⟩
theorem repAt_ren (k : Nat) : ∀ (o : Nat) (xs : List AV), RepAt c k o (AV.rens π xs) ↔ RepAt (c.pull π) k o xs
  | _, [] => by simp only [AV.rens, RepAt]
  | o, x :: r => by
    simp only [AV.rens, RepAt]
    exact ⟨fun ⟨⟨u, e, h1⟩, h2⟩ => ⟨⟨u, e, (rep_ren x u).1 h1⟩, (repAt_ren k (o + 1) r).1 h2⟩, fun ⟨⟨u, e, h1⟩, h2⟩ => ⟨⟨u, e, (rep_ren x u).2 h1⟩, (repAt_ren k (o + 1) r).2 h2⟩⟩
end
theorem repE_ren : ∀ (es : List (AV × AV)) (ms : List MapEntry), RepE c (es.map fun p => (AV.ren π p.1, AV.ren π p.2)) ms ↔ RepE (c.pull π) es ms
  | [], ms => by simp only [List.map_nil, RepE]
  | (k, v) :: r, ms => by
    simp only [List.map_cons, RepE]
    exact ⟨fun ⟨e, es', h0, h1, h2, h3⟩ => ⟨e, es', h0, (rep_ren k _).1 h1, (rep_ren v _).1 h2, (repE_ren r _).1 h3⟩, fun ⟨e, es', h0, h1, h2, h3⟩ => ⟨e, es', h0, (rep_ren k _).2 h1, (rep_ren v _).2 h2, (repE_ren r _).2 h3⟩⟩
theorem satObj_ren {w : World} {id : Nat} : ∀ {o : Obj}, SatObj c w (π id) (o.ren π) ↔ SatObj (c.pull π) w id o
  | .cells v cs sn => by
    simp only [Obj.ren, SatObj, rens_len]
    constructor
    · rintro ⟨k, z, arr, el, fr, h1, h2, h3, h4, h5, h6, h7⟩
      refine ⟨k, z, arr, el, fr, h1, h2, h3, h4, h5, fun i x hx => ?_, h7⟩
      obtain ⟨u, a, b, r⟩ := h6 i (AV.ren π x) (by rw [rens_get, hx]; rfl)
      exact ⟨u, a, b, (rep_ren x u).1 r⟩
    · rintro ⟨k, z, arr, el, fr, h1, h2, h3, h4, h5, h6, h7⟩
      refine ⟨k, z, arr, el, fr, h1, h2, h3, h4, h5, fun i x hx => ?_, h7⟩
      rw [rens_get, Option.map_eq_some_iff] at hx
      obtain ⟨y, hy, rfl⟩ := hx
      obtain ⟨u, a, b, r⟩ := h6 i y hy
      exact ⟨u, a, b, (rep_ren y u).2 r⟩
  | .map es => by
    simp only [Obj.ren, SatObj, repE_ren]; rfl
  | .iter s p => by simp only [Obj.ren, SatObj]; rfl
  | .raw k o F us => by simp only [Obj.ren, SatObj, repL_ren]; rfl
theorem ver_ren (o : Obj) : (o.ren π).ver = o.ver := by cases o <;> rfl
theorem blk_ren (o : Obj) (id : Nat) : blk c (π id) (o.ren π) = blk (c.pull π) id o := by simp only [blk, ver_ren]; rfl
end
def shiftI (m N n0 : Nat) (id : Nat) : Nat := if id < n0 then m + id else N + (id - n0)
def backI (m N n0 : Nat) (id : Nat) : Nat := if id < N then id - m else n0 + (id - N)
theorem look_map_ren {π : Nat → Nat} (hπ : ∀ i j, π i = π j → i = j) (id : Nat) : ∀ l : List (Nat × Obj), look (π id) (l.map fun p => (π p.1, p.2.ren π)) = (look id l).map (Obj.ren π)
  | [] => rfl
  | (i, o) :: r => by
    simp only [List.map_cons, look]
    by_cases h : i = id
    · subst h; simp
    · rw [if_neg (fun e => h (hπ _ _ e)), if_neg h]; exact look_map_ren hπ id r
theorem look_map_none {π : Nat → Nat} (id : Nat) (h : ∀ j, π j ≠ id) : ∀ l : List (Nat × Obj), look id (l.map fun p => (π p.1, p.2.ren π)) = none
  | [] => rfl
  | (i, o) :: r => by
    simp only [List.map_cons, look]
    rw [if_neg (h i)]; exact look_map_none id h r
theorem ACalls.shift {P : Program} {f : FuncId} {args0 : List AV} {n0 : Nat} {h0 : List (Nat × Obj)} {R0 : AV → St → Prop} (h : ACalls P f args0 ⟨h0, n0⟩ R0) (hid : ∀ id o, look id h0 = some o → id < n0)
    {s : St} {m : Nat} (hm : m + n0 ≤ s.next) (hs0 : ∀ id o, look id h0 = some o → s.get (m + id) = some (o.ren (shiftI m s.next n0))) :
    ACalls P f (AV.rens (shiftI m s.next n0) args0) s fun v s' => ∃ v0 s0, R0 v0 s0 ∧ v = AV.ren (shiftI m s.next n0) v0 ∧ n0 ≤ s0.next ∧ s'.next = s.next + (s0.next - n0) ∧
      (∀ id o, s0.get id = some o → s'.get (shiftI m s.next n0 id) = some (o.ren (shiftI m s.next n0))) ∧ (∀ id, id < s.next → ¬ (m ≤ id ∧ id < m + n0) → s'.get id = s.get id) := by
  refine ⟨h.1, fun c w vs hs hr => ?_⟩
  generalize hN : s.next = N at *
  generalize hπ : shiftI m N n0 = π at *
  have π1 : ∀ id, id < n0 → π id = m + id := fun id hi => by rw [← hπ]; exact if_pos hi
  have π2 : ∀ id, n0 ≤ id → π id = N + (id - n0) := fun id hi => by rw [← hπ]; exact if_neg (by omega)
  have κπ : ∀ id, backI m N n0 (π id) = id := fun id => by
    rcases Nat.lt_or_ge id n0 with hi | hi
    · rw [π1 id hi]; unfold backI; rw [if_pos (by omega)]; omega
    · rw [π2 id hi]; unfold backI; rw [if_neg (by omega)]; omega
  have inj : ∀ i j, π i = π j → i = j := fun i j e => by rw [← κπ i, ← κπ j, e]
  let Im : Nat → Prop := fun id => (m ≤ id ∧ id < m + n0) ∨ N ≤ id
  have πκ : ∀ id, Im id → π (backI m N n0 id) = id := fun id hi => by
    rcases hi with ⟨h1, h2⟩ | h1
    · unfold backI; rw [if_pos (by omega), π1 _ (by omega)]; omega
    · unfold backI; rw [if_neg (by omega), π2 _ (by omega)]; omega
  have imπ : ∀ id, Im (π id) := fun id => by
    rcases Nat.lt_or_ge id n0 with hi | hi
    · rw [π1 id hi]; exact .inl ⟨by omega, by omega⟩
    · rw [π2 id hi]; exact .inr (by omega)
  -- the small state is so in this world
  have hsg : ∀ id o, look id h0 = some o → s.get (π id) = some (o.ren π) := fun id o ho => by rw [π1 id (hid id o ho)]; exact hs0 id o ho
  have hS0 : Sat (c.pull π) ⟨h0, n0⟩ w := by
    refine ⟨hs.mem, fun id o ho => satObj_ren.1 (hs.obj _ _ (hsg id o ho)), fun id id' o o' k ho ho' hb hb' => ?_, fun id e hi => ?_, fun id o ho e he => ?_, fun b e k z hb => hs.low _ _ _ _ hb⟩
    · rw [← blk_ren] at hb hb'
      exact inj _ _ (hs.inj _ _ _ _ k (hsg id o ho) (hsg id' o' ho') hb hb')
    · show c.σ (π id) e = none
      have hi' : n0 ≤ id := hi
      rw [π2 id hi']; exact hs.fresh _ _ (by rw [hN]; omega)
    · show c.σ (π id) e = none
      exact hs.top _ _ (hsg id o ho) e (by rw [ver_ren]; exact he)
  refine (h.2 (c.pull π) w vs hS0 ((repL_ren args0 vs).1 hr)).mono fun e w' ⟨v0, u, c1, s0, he, hv, h1, hx, hR⟩ => ?_
  -- the context behind
  let c2 : Ctx := ⟨fun id e => if (m ≤ id ∧ id < m + n0) ∨ N ≤ id then c1.σ (backI m N n0 id) e else c.σ id e, c1.m, c1.gl⟩
  have cim : ∀ id e, Im id → c2.σ id e = c1.σ (backI m N n0 id) e := fun id e hi => if_pos hi
  have cno : ∀ id e, ¬ Im id → c2.σ id e = c.σ id e := fun id e hi => if_neg hi
  have hpull : c2.pull π = c1 := by
    have : (fun b e => c2.σ (π b) e) = c1.σ := by
      funext b e; rw [cim _ _ (imπ b), κπ]
    simp only [Ctx.pull, this, c2]
  let s' : St := ⟨(s0.heap.map fun p => (π p.1, p.2.ren π)) ++ s.heap.filter (fun p => !(decide (m ≤ p.1) && decide (p.1 < m + n0))), N + (s0.next - n0)⟩
  have nx0 : n0 ≤ s0.next := hx.next
  have snlt : ∀ id o, s.get id = some o → id < N := fun id o ho => by have := (hs.closed ho).2; omega
  have gim : ∀ id, s'.get (π id) = (s0.get id).map (Obj.ren π) := fun id => by
    show look (π id) (_ ++ _) = _
    rw [look_append, look_map_ren inj, look_filter (fun i => !(decide (m ≤ i) && decide (i < m + n0)))]
    cases hg : s0.get id with
    | some o => have hg' : look id s0.heap = some o := hg; rw [hg']; rfl
    | none =>
      have hg' : look id s0.heap = none := hg
      rw [hg']
      simp only [Option.map_none, Option.none_or]
      split
      · rename_i hp
        cases hq : look (π id) s.heap with
        | none => rfl
        | some o =>
          exfalso
          have := snlt _ _ hq
          rcases imπ id with ⟨i1, i2⟩ | i1
          · simp [i1, i2] at hp
          · omega
      · rfl
  have gno : ∀ id, ¬ Im id → s'.get id = s.get id := fun id hi => by
    show look id (_ ++ _) = _
    rw [look_append, look_map_none id (fun j hj => hi (hj ▸ imπ j)), look_filter (fun i => !(decide (m ≤ i) && decide (i < m + n0)))]
    simp only [Option.none_or]
    rw [if_pos]; rfl
    have : ¬ (m ≤ id ∧ id < m + n0) := fun h => hi (.inl h)
    simp only [Bool.not_eq_true', Bool.and_eq_false_iff, decide_eq_false_iff_not]
    omega
  have gcase : ∀ id o, s'.get id = some o → (Im id ∧ ∃ o0, s0.get (backI m N n0 id) = some o0 ∧ o = o0.ren π) ∨ (¬ Im id ∧ s.get id = some o) := fun id o ho => by
    by_cases hi : Im id
    · left
      refine ⟨hi, ?_⟩
      have := gim (backI m N n0 id)
      rw [πκ id hi, ho] at this
      cases hg : s0.get (backI m N n0 id) with
      | none => rw [hg] at this; simp at this
      | some o0 => rw [hg] at this; simp at this; exact ⟨o0, rfl, this⟩
    · right; rw [gno id hi] at ho; exact ⟨hi, ho⟩
  have hlowk : ∀ id o k, blk c id o = some k → k < w.heap.size := fun id o k hb => by
    simp only [blk, Option.map_eq_some_iff] at hb
    obtain ⟨⟨k1, z1⟩, hs1, rfl⟩ := hb
    exact hs.low _ _ _ _ hs1
  have fp0 : ∀ k, fp (c.pull π) ⟨h0, n0⟩ k → ∃ id o, Im id ∧ s.get id = some o ∧ blk c id o = some k := fun k hf => by
    obtain ⟨id, o, ho, hb⟩ := hf
    exact ⟨π id, o.ren π, imπ id, hsg id o ho, by rw [blk_ren]; exact hb⟩
  have notfp : ∀ id o k, ¬ Im id → s.get id = some o → blk c id o = some k → ¬ fp (c.pull π) ⟨h0, n0⟩ k := fun id o k hi ho hb hf => by
    obtain ⟨id2, o2, i2, ho2, hb2⟩ := fp0 k hf
    have := hs.inj _ _ _ _ k ho ho2 hb hb2
    subst this; exact hi i2
  have bim : ∀ id (o0 : Obj), Im id → blk c2 id (o0.ren π) = blk c1 (backI m N n0 id) o0 := fun id o0 hi => by
    have := blk_ren (c := c2) (π := π) o0 (backI m N n0 id)
    rw [πκ id hi, hpull] at this; exact this
  have bno : ∀ id o, ¬ Im id → blk c2 id o = blk c id o := fun id o hi => by simp only [blk, cno id _ hi]
  have cross : ∀ id o k id2 (o2 : Obj), ¬ Im id → s.get id = some o → blk c id o = some k → s0.get id2 = some o2 → blk c1 id2 o2 = some k → False := fun id o k id2 o2 hi ho hb ho2 hb2 => by
    rcases hx.foot k ⟨id2, o2, ho2, hb2⟩ with hf | hge
    · exact notfp id o k hi ho hb hf
    · have := hlowk id o k hb; omega
  have hle : c.le c2 := ⟨fun id e x hb => by
    by_cases hi : Im id
    · rw [cim id e hi]
      exact hx.le.1 _ e x (by show c.σ (π (backI m N n0 id)) e = some x; rw [πκ id hi]; exact hb)
    · rw [cno id e hi]; exact hb, fun k o u hu => hx.le.2 k o u hu⟩
  have hv2 : Rep c2 (AV.ren π v0) u := by rw [rep_ren, hpull]; exact hv
  refine ⟨AV.ren π v0, u, c2, s', he, hv2, ⟨h1.mem, fun id o ho => ?_, fun id id' o o' k ho ho' hb hb' => ?_, fun id e hi => ?_, fun id o ho e hlt => ?_, fun b e k z hb => ?_⟩,
    ⟨hle, hx.size, fun k hk hn => hx.same k hk fun hf => hn (by obtain ⟨id, o, _, ho, hb⟩ := fp0 k hf; exact ⟨id, o, ho, hb⟩), fun k hf => ?_, by rw [hN]; exact Nat.le_add_right _ _, fun id hlt hn e => ?_, fun id o ho => ?_, hx.os⟩,
    v0, s0, hR, rfl, nx0, rfl, fun id o ho => by rw [gim, ho]; rfl, fun id hlt hn => gno id fun hi => hi.elim hn (fun hge => by omega)⟩
  · rcases gcase id o ho with ⟨hi, o0, h2, rfl⟩ | ⟨hi, h2⟩
    · have := (satObj_ren (c := c2) (π := π) (w := w') (id := backI m N n0 id) (o := o0)).2 (by rw [hpull]; exact h1.obj _ _ h2)
      rw [πκ id hi] at this; exact this
    · exact (hs.obj id o h2).move hle fun k hk => hx.same k (hlowk id o k hk) (notfp id o k hi h2 hk)
  · rcases gcase id o ho with ⟨hi, o0, h2, rfl⟩ | ⟨hi, h2⟩
    · rw [bim id o0 hi] at hb
      rcases gcase id' o' ho' with ⟨hi', o0', h2', rfl⟩ | ⟨hi', h2'⟩
      · rw [bim id' o0' hi'] at hb'
        have := h1.inj _ _ _ _ k h2 h2' hb hb'
        rw [← πκ id hi, ← πκ id' hi', this]
      · rw [bno id' o' hi'] at hb'
        exact (cross id' o' k _ o0 hi' h2' hb' h2 hb).elim
    · rw [bno id o hi] at hb
      rcases gcase id' o' ho' with ⟨hi', o0', h2', rfl⟩ | ⟨hi', h2'⟩
      · rw [bim id' o0' hi'] at hb'
        exact (cross id o k _ o0' hi h2 hb h2' hb').elim
      · rw [bno id' o' hi'] at hb'
        exact hs.inj _ _ _ _ k h2 h2' hb hb'
  · have hi' : N + (s0.next - n0) ≤ id := hi
    rw [cim id e (.inr (by omega))]
    refine h1.fresh _ _ ?_
    unfold backI; rw [if_neg (by omega)]; omega
  · rcases gcase id o ho with ⟨hi, o0, h2, rfl⟩ | ⟨hi, h2⟩
    · rw [cim id e hi]; exact h1.top _ _ h2 e (by rw [ver_ren] at hlt; exact hlt)
    · rw [cno id e hi]; exact hs.top _ _ h2 e hlt
  · by_cases hi : Im b
    · rw [cim b e hi] at hb; exact h1.low _ _ _ _ hb
    · rw [cno b e hi] at hb; exact Nat.lt_of_lt_of_le (hs.low _ _ _ _ hb) hx.size
  · obtain ⟨id, o, ho, hb⟩ := hf
    rcases gcase id o ho with ⟨hi, o0, h2, rfl⟩ | ⟨hi, h2⟩
    · rw [bim id o0 hi] at hb
      rcases hx.foot k ⟨_, o0, h2, hb⟩ with hf | hge
      · obtain ⟨id2, o2, _, ho2, hb2⟩ := fp0 k hf
        exact .inl ⟨id2, o2, ho2, hb2⟩
      · exact .inr hge
    · rw [bno id o hi] at hb
      exact .inl ⟨id, o, h2, hb⟩
  · rw [hN] at hlt
    by_cases hi : Im id
    · rw [cim id e hi]
      have hb : backI m N n0 id < n0 := by
        rcases hi with ⟨i1, i2⟩ | i1
        · unfold backI; rw [if_pos hlt]; omega
        · omega
      have hnone : look (backI m N n0 id) h0 = none := by
        cases hg : look (backI m N n0 id) h0 with
        | none => rfl
        | some o =>
          have := hsg _ _ hg
          rw [πκ id hi, hn] at this; simp at this
      rw [hx.sig _ hb hnone e]
      show c.σ (π (backI m N n0 id)) e = c.σ id e
      rw [πκ id hi]
    · exact cno id e hi
  · rcases gcase id o ho with ⟨hi, o0, h2, rfl⟩ | ⟨hi, h2⟩
    · rcases hi with hr | hge
      · rcases hx.dom _ _ h2 with ⟨o', ho'⟩ | hge
        · have := hsg _ _ ho'
          rw [πκ id (.inl hr)] at this
          exact .inl ⟨_, this⟩
        · exfalso
          have hge' : n0 ≤ backI m N n0 id := hge
          unfold backI at hge'
          rw [if_pos (by omega)] at hge'; omega
      · exact .inr (by rw [hN]; exact hge)
    · exact .inl ⟨o, h2⟩
end Go.AX
/- A deep view that keeps nil slices; a cell of a block told again by its deep view. -/
namespace Go.AX
open Go
def viewM (g : Nat → Option Obj) : Nat → AV → Option Seen
  | 0, v => some (v, [])
  | d + 1, v => match v with
    | .nils => some (.nils, [])
    | .sl b e o n z => wrapO b e (g b) fun cs => if o + n * z ≤ cs.length then wrapV (.ps n) (viewList (viewM g d) ((cs.drop o).take (n * z))) else none
    | .ptr b e o => wrapO b e (g b) fun cs => if o ≤ cs.length then wrapV .vp (viewList (viewM g d) (cs.drop o)) else none
    | .ps n cs => if flats cs = true then some (.ps n cs, []) else wrapV (.ps n) (viewList (viewM g d) cs)
    | .vp cs => if flats cs = true then some (.vp cs, []) else wrapV .vp (viewList (viewM g d) cs)
    | .agg cs => wrapV .agg (viewList (viewM g d) cs)
    | .tup cs => wrapV .tup (viewList (viewM g d) cs)
    | .fn f xs ys => wrapV2 (.fn f) (viewList (viewM g d) xs) (viewList (viewM g d) ys)
    | .ifc t x => match viewM g d x with
      | some (y, q) => some (.ifc t y, q)
      | none => none
    | v => some (v, [])
section
variable {w : World} {g : Nat → Option Obj}
theorem viewM_sound : ∀ d, VS w g (viewM g d)
  | 0 => fun x y ps hv c s u h hs hr => by
    simp [viewM] at hv; obtain ⟨rfl, rfl⟩ := hv
    exact ⟨c, h, Ext.refl _ _ _, hs, hr⟩
  | d + 1 => fun x y ps hv c s u h hs hr => by
    have ih := viewM_sound d
    have same : ∀ {y : AV} {ps : List (Nat × Obj)}, some (x, ([] : List (Nat × Obj))) = some (y, ps) → ∃ c', Sat c' (s.puts ps) w ∧ Ext c s w c' (s.puts ps) w ∧ Since g (s.puts ps) ∧ Rep c' y u := fun e => by
      simp at e; obtain ⟨rfl, rfl⟩ := e
      exact ⟨c, h, Ext.refl _ _ _, hs, hr⟩
    cases x with
    | nils =>
      simp only [viewM] at hv; exact same hv
    | sl b e o n z =>
      simp only [viewM, wrapO] at hv
      split at hv
      · rename_i e' cs sn hg
        split at hv
        · rename_i he
          subst he
          split at hv
          · rename_i x q hq
            split at hq
            · rename_i hc
              obtain ⟨xs, h1, rfl⟩ := wrapV_some hq
              simp at hv; obtain ⟨rfl, rfl⟩ := hv
              obtain ⟨c1, a1, a2, ⟨k, zz, a3, a4⟩, a5⟩ := see_step h hs hg
              simp only [Rep] at hr
              obtain ⟨k', s', q', g1, g2, g3, g4⟩ := hr
              have := a2.le.1 _ _ _ g1
              rw [a3] at this; simp only [Option.some.injEq, Prod.mk.injEq] at this; obtain ⟨rfl, rfl⟩ := this
              have hat : RepAt c1 k o ((cs.drop o).take (n * z)) := by simpa using (a4.drop o).take (n * z)
              obtain ⟨c2, b1, b2, b3, b4⟩ := viewAt_sound ih h1 a1 a5 hat
              refine ⟨c2, b1, a2.trans b2, b3, ?_⟩
              simp only [Rep]
              exact .inr ⟨k, o, q', g2, g3, b4⟩
            · simp at hq
          · simp at hv
        · simp at hv
      · simp at hv
    | ptr b e o =>
      simp only [viewM, wrapO] at hv
      split at hv
      · rename_i e' cs sn hg
        split at hv
        · rename_i he
          subst he
          split at hv
          · rename_i x q hq
            split at hq
            · rename_i hc
              obtain ⟨xs, h1, rfl⟩ := wrapV_some hq
              simp at hv; obtain ⟨rfl, rfl⟩ := hv
              obtain ⟨c1, a1, a2, ⟨k, zz, a3, a4⟩, a5⟩ := see_step h hs hg
              simp only [Rep] at hr
              obtain ⟨k', s', g1, g2⟩ := hr
              have := a2.le.1 _ _ _ g1
              rw [a3] at this; simp only [Option.some.injEq, Prod.mk.injEq] at this; obtain ⟨rfl, rfl⟩ := this
              have hat : RepAt c1 k o (cs.drop o) := by simpa using a4.drop o
              obtain ⟨c2, b1, b2, b3, b4⟩ := viewAt_sound ih h1 a1 a5 hat
              refine ⟨c2, b1, a2.trans b2, b3, ?_⟩
              simp only [Rep]
              exact ⟨k, o, g2, b4⟩
            · simp at hq
          · simp at hv
        · simp at hv
      · simp at hv
    | ps n cs =>
      simp only [viewM] at hv
      split at hv
      · exact same hv
      · obtain ⟨xs, h1, rfl⟩ := wrapV_some hv
        simp only [Rep] at hr
        rcases hr with ⟨rfl, rfl, a, q, e⟩ | ⟨k, o, q, e, hq, r⟩
        · simp [viewList] at h1
          obtain ⟨rfl, rfl⟩ := h1
          exact ⟨c, h, Ext.refl _ _ _, hs, by simp only [Rep]; exact .inl ⟨by first | rfl | trivial, by first | rfl | trivial, a, q, e⟩⟩
        · obtain ⟨c2, b1, b2, b3, b4⟩ := viewAt_sound ih h1 h hs r
          exact ⟨c2, b1, b2, b3, by simp only [Rep]; exact .inr ⟨k, o, q, e, hq, b4⟩⟩
    | vp cs =>
      simp only [viewM] at hv
      split at hv
      · exact same hv
      · obtain ⟨xs, h1, rfl⟩ := wrapV_some hv
        simp only [Rep] at hr
        obtain ⟨k, o, e, r⟩ := hr
        obtain ⟨c2, b1, b2, b3, b4⟩ := viewAt_sound ih h1 h hs r
        exact ⟨c2, b1, b2, b3, by simp only [Rep]; exact ⟨k, o, e, b4⟩⟩
    | agg xs =>
      simp only [viewM] at hv
      obtain ⟨ys, h1, rfl⟩ := wrapV_some hv
      simp only [Rep] at hr
      obtain ⟨us, rfl, hr⟩ := hr
      obtain ⟨c', a1, a2, a3, a4⟩ := viewList_sound ih xs ys _ h1 c s us h hs hr
      exact ⟨c', a1, a2, a3, by simp only [Rep]; exact ⟨us, rfl, a4⟩⟩
    | tup xs =>
      simp only [viewM] at hv
      obtain ⟨ys, h1, rfl⟩ := wrapV_some hv
      simp only [Rep] at hr
      obtain ⟨us, rfl, hr⟩ := hr
      obtain ⟨c', a1, a2, a3, a4⟩ := viewList_sound ih xs ys _ h1 c s us h hs hr
      exact ⟨c', a1, a2, a3, by simp only [Rep]; exact ⟨us, rfl, a4⟩⟩
    | fn f xs ys =>
      simp only [viewM] at hv
      cases h1 : viewList (viewM g d) xs with
      | none => rw [h1] at hv; simp [wrapV2] at hv
      | some p1 =>
        cases h2 : viewList (viewM g d) ys with
        | none => rw [h1, h2] at hv; simp [wrapV2] at hv
        | some p2 =>
          obtain ⟨xs', p⟩ := p1
          obtain ⟨ys', q⟩ := p2
          rw [h1, h2] at hv
          simp [wrapV2] at hv
          obtain ⟨rfl, rfl⟩ := hv
          simp only [Rep] at hr
          obtain ⟨us, ws, rfl, r1, r2⟩ := hr
          obtain ⟨c1, a1, a2, a3, a4⟩ := viewList_sound ih xs xs' _ h1 c s us h hs r1
          obtain ⟨c2, b1, b2, b3, b4⟩ := viewList_sound ih ys ys' _ h2 c1 _ ws a1 a3 (RepL.mono a2.le ys ws r2)
          have e : s.puts (p ++ q) = (s.puts p).puts q := by simp [St.puts]
          exact ⟨c2, by rw [e]; exact b1, by rw [e]; exact a2.trans b2, by rw [e]; exact b3, by simp only [Rep]; exact ⟨us, ws, rfl, RepL.mono b2.le _ _ a4, b4⟩⟩
    | ifc t x =>
      simp only [viewM] at hv
      split at hv
      · rename_i y' q h1
        simp at hv; obtain ⟨rfl, rfl⟩ := hv
        simp only [Rep] at hr
        obtain ⟨u', rfl, hr⟩ := hr
        obtain ⟨c', a1, a2, a3, a4⟩ := ih x y' q h1 c s u' h hs hr
        exact ⟨c', a1, a2, a3, by simp only [Rep]; exact ⟨u', rfl, a4⟩⟩
      · simp at hv
    | _ => exact same (by simpa only [viewM] using hv)
end
theorem puts_get {id : Nat} : ∀ (ps : List (Nat × Obj)) (s : St), (∀ p ∈ ps, p.1 ≠ id) → (s.puts ps).get id = s.get id
  | [], s, _ => rfl
  | p :: r, s, h => by
    rw [show s.puts (p :: r) = (s.put p.1 p.2).puts r from rfl, puts_get r _ fun q hq => h q (by simp [hq]), get_put', if_neg (h p (by simp))]
theorem Sat.retell {c : Ctx} {s : St} {w : World} (h : Sat c s w) {b e i d : Nat} {cs : List AV} {x y : AV} {ps : List (Nat × Obj)} (hg : s.get b = some (.cells e cs false)) (hi : cs[i]? = some x) (hv : viewM s.get d x = some (y, ps)) (hps : ∀ p ∈ ps, p.1 ≠ b) (hy : y.one = true) :
    ∃ c', Sat c' ((s.puts ps).put b (.cells e (cs.set i y) false)) w ∧ Ext c s w c' ((s.puts ps).put b (.cells e (cs.set i y) false)) w := by
  obtain ⟨k, z, arr, el, fr, g1, g2, g3, g4, g5, g6, g7⟩ := h.block hg
  obtain ⟨u, a1, a2, a3⟩ := g6 i x hi
  obtain ⟨c1, q1, q2, q3, q4⟩ := viewM_sound d x y ps hv c s u h (Since.refl s) a3
  have hg1 : (s.puts ps).get b = some (.cells e cs false) := by rw [puts_get ps s hps]; exact hg
  obtain ⟨k', z', arr', el', fr', b1, b2, b3, b4, b5, b6, b7⟩ := q1.block hg1
  have : c1.σ b e = some (k, z) := q2.le.1 _ _ _ g1
  rw [this] at b1; simp only [Option.some.injEq, Prod.mk.injEq] at b1; obtain ⟨rfl, rfl⟩ := b1
  rw [g2] at b2; simp only [Option.some.injEq, Go.Obj.cells.injEq] at b2; obtain ⟨rfl, rfl, rfl⟩ := b2
  obtain ⟨c2, r1, r2, _⟩ := q1.inPlace (w' := w) hg1 this g2 (e' := e) (cs' := cs.set i y) (seen' := false) (arr' := arr) g3 (by simpa using g4) (fun j x' hx' => by
    by_cases hij : i = j
    · subst hij
      rw [List.getElem?_set_self (by exact (List.getElem?_eq_some_iff.1 hi).1)] at hx'
      simp only [Option.some.injEq] at hx'; subst hx'
      exact ⟨u, a1, a2, q4⟩
    · rw [List.getElem?_set_ne hij] at hx'
      exact b6 j x' hx') (fun j u hu => by rw [b7] at hu; simp at hu) (.inl rfl) (elv_same e) (by
      apply Array.ext (by simp)
      intro i h1 h2
      rw [Array.getElem_setIfInBounds]
      split
      · rename_i heq; subst heq
        rw [Array.getElem?_eq_getElem h1] at g2
        simpa using g2
      · rfl) (SameOs.refl w)
  exact ⟨c2, r1, q2.trans r2⟩
theorem ACalls.retell {P : Program} {f : FuncId} {args : List AV} {s s1 : St} {v : AV} (h : ACalls P f args s fun v' s' => v' = v ∧ s' = s1) {b e i d : Nat} {cs : List AV} {x y : AV} {ps : List (Nat × Obj)} (hg : s1.get b = some (.cells e cs false)) (hi : cs[i]? = some x) (hv : viewM s1.get d x = some (y, ps)) (hps : ∀ p ∈ ps, p.1 ≠ b) (hy : y.one = true) :
    ACalls P f args s fun v' s' => v' = v ∧ s' = (s1.puts ps).put b (.cells e (cs.set i y) false) := by
  refine ⟨h.1, fun c w vs hs hr => (h.2 c w vs hs hr).mono fun en w' ⟨v', u, c', s', h1, h2, h3, h4, h5, h6⟩ => ?_⟩
  subst h5; subst h6
  obtain ⟨c2, r1, r2⟩ := h3.retell hg hi hv hps hy
  exact ⟨v', u, c2, _, h1, h2.mono r2.le, r1, h4.trans r2, rfl, rfl⟩
end Go.AX
/- Values without ids are the same under other ids. -/
namespace Go.AX
open Go
mutual
theorem ren_flat (π : Nat → Nat) : ∀ x : AV, flat x = true → AV.ren π x = x
  | .agg cs, h => by simp only [flat] at h; simp only [AV.ren, rens_flat π cs h]
  | .tup cs, h => by simp only [flat] at h; simp only [AV.ren, rens_flat π cs h]
  | .ptr b e o, h => by simp [flat] at h
  | .vp cs, h => by simp only [flat] at h; simp only [AV.ren, rens_flat π cs h]
  | .sl b e o n z, h => by simp [flat] at h
  | .ps n cs, h => by simp only [flat] at h; simp only [AV.ren, rens_flat π cs h]
  | .fn f xs ys, h => by simp only [flat, Bool.and_eq_true] at h; simp only [AV.ren, rens_flat π xs h.1, rens_flat π ys h.2]
  | .ifc t x, h => by simp only [flat] at h; simp only [AV.ren, ren_flat π x h]
  | .map r, h => by simp [flat] at h
  | .bool b, _ => rfl
  | .int k n, _ => rfl
  | .str s, _ => rfl
  | .nilp, _ => rfl
  | .nils, _ => rfl
  | .nilf, _ => rfl
  | .nili, _ => rfl
  | .nilm, _ => rfl
  | .any, _ => rfl
theorem rens_flat (π : Nat → Nat) : ∀ l : List AV, flats l = true → AV.rens π l = l
  | [], _ => rfl
  | x :: r, h => by simp only [flats, Bool.and_eq_true] at h; simp only [AV.rens, ren_flat π x h.1, rens_flat π r h.2]
end
end Go.AX
