/- Slices of slices, lengths, least and greatest, loads, aggregates. -/
import Derived.Test.YtaapijjdmbolbaaGreatAxA
import Derived.Laws.IdiomCopy
import Derived.Laws.BytesString
import Derived.Laws.Externs
import Derived.MapKept
set_option linter.unusedSimpArgs false
set_option linter.unusedVariables false
namespace Go.AX
open Go
section
variable {P : Program} {c : Ctx} {s : St} {w : World} {F : List AV} {ρ : Operand → Value} {o : Oper}
def IsB (v : Option Value) (d n : Nat) : Prop := (v = none ∧ n = d) ∨ ∃ k, v = some (.int k (n : Int))
theorem isB_of {x : Option Operand} {a : Option AO} {d n : Nat} (hρ : Ops c F ρ) (hx : optO x = some a) (hb : bound a F d = some n) : IsB (x.map ρ) d n := by
  cases x with
  | none => simp [optO] at hx; subst hx; simp [bound] at hb; exact .inl ⟨rfl, hb.symm⟩
  | some x =>
    simp only [optO] at hx
    split at hx
    · rename_i y hy
      simp at hx; subst hx
      simp only [bound] at hb
      obtain ⟨k, hk⟩ := asNat_eq (hρ x y hy) hb
      exact .inr ⟨k, by simp [hk]⟩
    · simp at hx
theorem run_bounds {isS : Bool} {len cap l h : Nat} {lo hi : Option Value} (hl : IsB lo 0 l) (hh : IsB hi len h) (h1 : l ≤ h) (h2 : h ≤ cap) :
    (Instr.sliceBounds isS len cap lo hi none).run P w = .ok (l, h, cap) w := by
  have e1 : (match hi with | some v => Instr.sliceBound v cap (if isS then .sliceAcap else .sliceAlen) | none => pure len : Sem Nat).run P w = .ok h w := by
    rcases hh with ⟨rfl, rfl⟩ | ⟨k, rfl⟩
    · simp
    · have : (0 : Int) ≤ (h : Int) ∧ (h : Int) ≤ cap := by omega
      simp [Instr.sliceBound, asIntOf, this, h2]
  have e2 : (match lo with | some v => Instr.sliceBound v h .sliceB | none => pure 0 : Sem Nat).run P w = .ok l w := by
    rcases hl with ⟨rfl, rfl⟩ | ⟨k, rfl⟩
    · simp
    · have : (0 : Int) ≤ (l : Int) ∧ (l : Int) ≤ h := by omega
      simp [Instr.sliceBound, asIntOf, this, h1]
  cases hi with
  | none =>
    cases lo with
    | none => simp [Instr.sliceBounds] at e1 e2 ⊢; omega
    | some v =>
      simp only [Sem.run_pure, Result.ok.injEq, and_true] at e1
      subst e1
      simp only at e2
      simp [Instr.sliceBounds, e2]
  | some u =>
    simp only at e1
    cases lo with
    | none =>
      simp only [Sem.run_pure, Result.ok.injEq, and_true] at e2
      subst e2
      cases isS <;> simp at e1 <;> simp [Instr.sliceBounds, e1]
    | some v =>
      simp only at e2
      cases isS <;> simp at e1 <;> simp [Instr.sliceBounds, e1, e2]
theorem extract_list (l : List UInt8) (a b : Nat) : (ByteArray.mk l.toArray).extract a b = ⟨((l.drop a).take (b - a)).toArray⟩ := by
  apply ByteArray.ext
  simp [List.take_drop]

theorem does_slcS (h : Sat c s w) (hρ : Ops c F ρ) {x : Operand} {lo hi : Option Operand} {t : TypeId} {al ah : Option AO} {l : List UInt8} {a b : Nat} (ho : o.op = .slice t x lo hi none) (ht : P.underlying t = some .string)
    (hl : optO lo = some al) (hh : optO hi = some ah) (hX : Rep c (.str l) (ρ x)) (h1 : bound al F 0 = some a) (h2 : bound ah F l.length = some b) (hab : a ≤ b) (hb : b ≤ l.length) :
    Does P o ρ c s w (.str (cutL al ah a b l)) s := by
  simp only [Rep] at hX
  have hr := run_bounds (P := P) (w := w) (isS := false) (len := l.length) (cap := l.length) (isB_of hρ hl h1) (isB_of hρ hh h2) hab hb
  refine Does.pure (u := .string ⟨((l.drop a).take (b - a)).toArray⟩) h ?_ ?_
  · have hsz : (ByteArray.mk l.toArray).size = l.length := rfl
    simp only [execOp, ho, hX, Instr.sliceAt, Sem.run_bind, run_underlying ht, Result.andThen_ok, Instr.slice, Option.map_none, Option.isSome_none, Bool.false_eq_true, if_false, hsz, hr, Sem.run_pure, extract_list]
  · have e : cutL al ah a b l = (l.drop a).take (b - a) := by
      unfold cutL
      cases al with
      | none =>
        simp [bound] at h1; subst h1
        cases ah with
        | none => simp [bound] at h2; subst h2; simp
        | some _ => simp
      | some _ =>
        cases ah with
        | none => simp [bound] at h2; subst h2; exact (List.take_of_length_le (by simp)).symm
        | some _ => simp
    rw [e]; simp [Rep]
theorem does_slc_nils (h : Sat c s w) (hρ : Ops c F ρ) {x : Operand} {lo hi : Option Operand} {t e : TypeId} {i : TypeInfo} {al ah : Option AO} (ho : o.op = .slice t x lo hi none) (ht : P.underlying t = some (.slice e)) (he : P.info? e = some i)
    (hl : optO lo = some al) (hh : optO hi = some ah) (hX : Rep c .nils (ρ x)) (h1 : bound al F 0 = some 0) (h2 : bound ah F 0 = some 0) : Does P o ρ c s w .nils s := by
  simp only [Rep] at hX
  have hr := run_bounds (P := P) (w := w) (isS := true) (len := 0) (cap := 0) (isB_of hρ hl h1) (isB_of hρ hh h2) (Nat.le_refl _) (Nat.le_refl _)
  refine Does.pure (u := .slice none 0 0) h ?_ (by simp [Rep])
  simp [execOp, ho, hX, Instr.sliceAt, run_underlying ht, Instr.slice, hr, run_sizeOf w he]
theorem run_slc {x : Operand} {lo hi : Option Operand} {t e : TypeId} {i : TypeInfo} {A : Option Addr} {n q a b : Nat} (ho : o.op = .slice t x lo hi none) (ht : P.underlying t = some (.slice e)) (he : P.info? e = some i)
    (hx : ρ x = .slice A n q) (hl : IsB (lo.map ρ) 0 a) (hh : IsB (hi.map ρ) n b) (hab : a ≤ b) (hb : b ≤ q) :
    (execOp ρ o).run P w = .ok (.value (.slice (if q = a then A else A.map (·.add (a * i.size))) (b - a) (q - a))) w := by
  have hr := run_bounds (P := P) (w := w) (isS := true) (len := n) (cap := q) hl hh hab hb
  have hc : P.cellsOf e = i.size := by simp [Program.cellsOf, he]
  simp [execOp, ho, hx, Instr.sliceAt, run_underlying ht, Instr.slice, hr, run_sizeOf w he, hc]
theorem does_slc_ps (h : Sat c s w) (hρ : Ops c F ρ) {x : Operand} {lo hi : Option Operand} {t e : TypeId} {i : TypeInfo} {al ah : Option AO} {n a b : Nat} {cs : List AV} (ho : o.op = .slice t x lo hi none) (ht : P.underlying t = some (.slice e)) (he : P.info? e = some i)
    (hl : optO lo = some al) (hh : optO hi = some ah) (hX : Rep c (.ps n cs) (ρ x)) (h1 : bound al F 0 = some a) (h2 : bound ah F n = some b) (hab : a ≤ b) (hb : b ≤ n) (hlen : cs.length = n * i.size) :
    Does P o ρ c s w (.ps (b - a) (cutL al ah (a * i.size) (b * i.size) cs)) s := by
  have e : cutL al ah (a * i.size) (b * i.size) cs = (cs.drop (a * i.size)).take ((b - a) * i.size) := by
    unfold cutL
    rw [Nat.sub_mul]
    cases al with
    | none =>
      simp [bound] at h1; subst h1
      cases ah with
      | none => simp [bound] at h2; subst h2; simp; exact (List.take_of_length_le (by omega)).symm
      | some _ => simp
    | some _ =>
      cases ah with
      | none => simp [bound] at h2; subst h2; exact (List.take_of_length_le (by simp [hlen, Nat.sub_mul])).symm
      | some _ => simp
  rw [e]
  simp only [Rep] at hX
  rcases hX with ⟨h0, hcs, A, q, hx⟩ | ⟨k, off, q, hx, hq, hr⟩
  · subst h0; subst hcs
    have ha : a = 0 := by omega
    have hb' : b = 0 := by omega
    subst ha; subst hb'
    refine Does.pure h (run_slc ho ht he hx (isB_of hρ hl h1) (isB_of hρ hh h2) (Nat.le_refl _) (Nat.zero_le _)) ?_
    simp only [Rep]
    exact .inl ⟨by first | rfl | trivial | simp, by simp, _, _, rfl⟩
  · refine Does.pure h (run_slc ho ht he hx (isB_of hρ hl h1) (isB_of hρ hh h2) hab (by omega)) ?_
    simp only [Rep]
    by_cases hqa : q = a
    · have : b - a = 0 := by omega
      rw [this]
      exact .inl ⟨by first | rfl | trivial | simp, by simp, _, _, rfl⟩
    · refine .inr ⟨k, off + a * i.size, q - a, ?_, by omega, (hr.drop _).take _⟩
      simp only [if_neg hqa, Option.map_some, Addr.add]
      by_cases h0 : a * i.size = 0 <;> simp [h0]
theorem does_slc_sl (h : Sat c s w) (hρ : Ops c F ρ) {x : Operand} {lo hi : Option Operand} {t e : TypeId} {i : TypeInfo} {al ah : Option AO} {B E O n a b : Nat} (ho : o.op = .slice t x lo hi none) (ht : P.underlying t = some (.slice e)) (he : P.info? e = some i)
    (hl : optO lo = some al) (hh : optO hi = some ah) (hX : Rep c (.sl B E O n i.size) (ρ x)) (h1 : bound al F 0 = some a) (h2 : bound ah F n = some b) (hab : a ≤ b) (hb : b ≤ n) :
    Does P o ρ c s w (if a = 0 then .sl B E O b i.size else if a < n then .sl B E (O + a * i.size) (b - a) i.size else .ps 0 []) s := by
  simp only [Rep] at hX
  obtain ⟨k, sz, q, hσ, hx, hnq, hsz⟩ := hX
  refine Does.pure h (run_slc ho ht he hx (isB_of hρ hl h1) (isB_of hρ hh h2) hab (by omega)) ?_
  split
  · rename_i h0; subst h0
    simp only [Rep]
    refine ⟨k, sz, q, hσ, ?_, by omega, hsz⟩
    simp [Addr.add]
  · rename_i h0
    split
    · rename_i hlt
      simp only [Rep]
      have hqa : ¬ q = a := by omega
      refine ⟨k, sz, q - a, hσ, ?_, by omega, ?_⟩
      · simp only [if_neg hqa, Option.map_some, Addr.add]
        by_cases hz : a * i.size = 0 <;> simp [hz]
      · rw [← hsz, Nat.sub_mul]
        have : a * i.size ≤ q * i.size := Nat.mul_le_mul_right _ (by omega)
        omega
    · simp only [Rep]
      have : b - a = 0 := by omega
      rw [this]
      exact .inl ⟨by first | rfl | trivial | simp, by first | rfl | trivial | simp, _, _, rfl⟩
theorem does_len (h : Sat c s w) {x : Operand} {t : TypeId} {X : AV} {n : Nat} {cl : Call} (ho : o.op = .call cl) (hcl : cl.callee = .builtin .len) (hat : cl.argTypes[0]? = some t) (hargs : cl.args.toList = [x])
    (ht : P.underlying t = some .string ∨ ∃ e, P.underlying t = some (.slice e)) (hX : Rep c X (ρ x))
    (hn : (P.underlying t = some .string ∧ ∃ l, X = .str l ∧ n = l.length) ∨ ((∃ e, P.underlying t = some (.slice e)) ∧ ((X = .nils ∧ n = 0) ∨ (∃ cs, X = .ps n cs) ∨ (∃ b e o z, X = .sl b e o n z)))) : Does P o ρ c s w (.int .i64 n) s := by
  have ha : cl.args = #[x] := by apply Array.ext'; simpa using hargs
  have hrun : ∀ v, (Builtin.len_ cl.argTypes o.type #[ρ x]).run P w = .ok v w → (execOp ρ o).run P w = .ok (.value v) w := fun v hv => by
    simp [execOp, ho, resolve, hcl, ha, invoke, builtin, hv]
  refine Does.pure (u := goInt n) h (hrun _ ?_) (by simp [Rep, goInt])
  rcases hn with ⟨hu, l, rfl, rfl⟩ | ⟨⟨e, hu⟩, hX'⟩
  · simp only [Rep] at hX
    rw [hX]
    simp [Builtin.len_, hat, run_underlying hu]
    rfl
  · rcases hX' with ⟨rfl, rfl⟩ | ⟨cs, rfl⟩ | ⟨b, e', O, z, rfl⟩ <;> simp only [Rep] at hX
    · rw [hX]; simp [Builtin.len_, hat, run_underlying hu]
    · rcases hX with ⟨rfl, _, A, q, hx⟩ | ⟨k, off, q, hx, _⟩ <;> rw [hx] <;> simp [Builtin.len_, hat, run_underlying hu]
    · obtain ⟨k, sz, q, _, hx, _⟩ := hX
      rw [hx]; simp [Builtin.len_, hat, run_underlying hu]
theorem does_cst_len (h : Sat c s w) {x : Operand} {t e : TypeId} {n : Nat} {cl : Call} (ho : o.op = .call cl) (hcl : cl.callee = .builtin .len) (hat : cl.argTypes[0]? = some t) (hargs : cl.args.toList = [x])
    (ht : P.underlying t = some (.array n e)) : Does P o ρ c s w (.int .i64 n) s := by
  have ha : cl.args = #[x] := by apply Array.ext'; simpa using hargs
  refine Does.pure (u := goInt n) h ?_ (by simp [Rep, goInt])
  simp [execOp, ho, resolve, hcl, ha, invoke, builtin, Builtin.len_, hat, run_underlying ht]
theorem mm_run (mx : Bool) : ∀ (r : List AV) (us : List Value) (x v : AV) (u : Value), Rep c x u → RepL c r us → mmA mx x r = some v →
    ∃ y, (us.foldlM (if mx then Builtin.max2 else Builtin.min2) u).run P w = .ok y w ∧ Rep c v y
  | [], us, x, v, u, hx, hr, hv => by
    simp only [RepL] at hr; subst hr
    simp [mmA] at hv; subst hv
    exact ⟨u, by simp, hx⟩
  | y :: r, us, x, v, u, hx, hr, hv => by
    simp only [RepL] at hr
    obtain ⟨u1, us', rfl, r1, r2⟩ := hr
    unfold mmA at hv
    split at hv
    · rename_i e; simp at e
    · rename_i k a k' b r' e
      simp only [List.cons.injEq] at e
      obtain ⟨rfl, rfl⟩ := e
      split at hv
      · rename_i hk; subst hk
        simp only [Rep] at hx r1; subst hx; subst r1
        obtain ⟨y, h1, h2⟩ := mm_run mx r us' (.int k (if mx then (if b > a then b else a) else (if b < a then b else a))) v (.int k (if mx then (if b > a then b else a) else (if b < a then b else a))) (by simp [Rep]) r2 hv
        refine ⟨y, ?_, h2⟩
        cases mx <;> simp only [Bool.false_eq_true, if_false, if_true] at h1 ⊢ <;> simp [Builtin.max2, Builtin.min2, h1]
      · simp at hv
    · simp at hv
theorem does_mm (h : Sat c s w) {mx : Bool} {x v : AV} {r : List AV} {cl : Call} (ho : o.op = .call cl) (hcl : cl.callee = .builtin (if mx then .max else .min))
    (hX : RepL c (x :: r) (cl.args.toList.map ρ)) (hv : mmA mx x r = some v) : Does P o ρ c s w v s := by
  simp only [RepL] at hX
  obtain ⟨u, us, e, h1, h2⟩ := hX
  obtain ⟨y, h3, h4⟩ := mm_run (P := P) (w := w) mx r us x v u h1 h2 hv
  refine Does.pure (u := y) h ?_ h4
  have e' : (cl.args.map ρ).toList = u :: us := by simpa using e
  cases mx <;> simp only [Bool.false_eq_true, if_false, if_true] at hcl h3
  · have : (Builtin.min_ cl.argTypes o.type (cl.args.map ρ)).run P w = .ok y w := by simp only [Builtin.min_, e', h3]
    simp [execOp, ho, resolve, hcl, invoke, builtin, this]
  · have : (Builtin.max_ cl.argTypes o.type (cl.args.map ρ)).run P w = .ok y w := by simp only [Builtin.max_, e', h3]
    simp [execOp, ho, resolve, hcl, invoke, builtin, this]
end
end Go.AX
/- Loads, aggregates, new variables, stores. -/
namespace Go.AX
open Go
section
variable {P : Program} {c : Ctx} {s : St} {w : World} {F : List AV} {ρ : Operand → Value} {o : Oper}
theorem add_at (k off j : Nat) : (⟨k, off, none⟩ : Addr).add j = ⟨k, off + j, none⟩ := by
  unfold Addr.add
  split
  · rename_i h; subst h; rfl
  · rfl
theorem gather {Q : Nat → Value → Prop} : ∀ {cs : List AV}, (∀ (i : Nat) (x : AV), cs[i]? = some x → ∃ v, Q i v ∧ Rep c x v) →
    ∃ us : List Value, RepL c cs us ∧ ∀ (j : Nat) (v : Value), us[j]? = some v → Q j v := by
  intro cs
  induction cs generalizing Q with
  | nil => exact fun _ => ⟨[], by simp [RepL], by simp⟩
  | cons x r ih =>
    intro h
    obtain ⟨v, hv, hr⟩ := h 0 x (by simp)
    obtain ⟨us, h1, h2⟩ := ih (Q := fun i => Q (i + 1)) (fun i y hy => h (i + 1) y (by simpa using hy))
    refine ⟨v :: us, by simp only [RepL]; exact ⟨v, us, rfl, hr, h1⟩, fun j u hu => ?_⟩
    cases j with
    | zero => simp at hu; subst hu; exact hv
    | succ j => exact h2 j u (by simpa using hu)
theorem rd_cells (h : Sat c s w) {X : AV} {u : Value} {cs : List AV} (hr : rd s.get X = some cs) (hX : Rep c X u) :
    ∃ k off, u = .pointer (some ⟨k, off, none⟩) ∧ ∃ us : List Value, RepL c cs us ∧ ∀ (j : Nat) (v : Value), us[j]? = some v → w.cell? ((⟨k, off, none⟩ : Addr).add j) = some v ∧ v.oneCell' = true := by
  unfold rd at hr
  split at hr
  · rename_i b e O
    split at hr
    · rename_i e' cs' sn hg
      split at hr
      · rename_i hc
        obtain ⟨rfl, hO⟩ := hc
        simp at hr; subst hr
        simp only [Rep] at hX
        obtain ⟨k, z, hσ, rfl⟩ := hX
        obtain ⟨k', z', arr, el, fr, g1, g2, g3, g4, g5, g6, g7⟩ := h.block hg
        rw [hσ] at g1; simp only [Option.some.injEq, Prod.mk.injEq] at g1; obtain ⟨rfl, rfl⟩ := g1
        refine ⟨k, O, rfl, gather (Q := fun j v => w.cell? ((⟨k, O, none⟩ : Addr).add j) = some v ∧ v.oneCell' = true) fun i x hx => ?_⟩
        rw [List.getElem?_drop] at hx
        obtain ⟨v, hv, ho, hr⟩ := g6 _ x hx
        exact ⟨v, ⟨by rw [add_at, cell_of_block g2]; exact hv, ho⟩, hr⟩
      · simp at hr
    · simp at hr
  · rename_i cs'
    simp at hr; subst hr
    simp only [Rep] at hX
    obtain ⟨k, off, rfl, hA⟩ := hX
    refine ⟨k, off, rfl, gather (Q := fun j v => w.cell? ((⟨k, off, none⟩ : Addr).add j) = some v ∧ v.oneCell' = true) fun i x hx => ?_⟩
    obtain ⟨v, hv, hr⟩ := hA.get i x hx
    obtain ⟨p, q⟩ := h.mem _ _ _ hv
    exact ⟨v, ⟨by rw [add_at]; exact p, q⟩, hr⟩
  · simp at hr
theorem run_loadN {us : List Value} {k off n : Nat} (hn : n ≤ us.length) (hc : ∀ (j : Nat) (v : Value), us[j]? = some v → w.cell? ((⟨k, off, none⟩ : Addr).add j) = some v ∧ v.oneCell' = true) :
    (loadCells ⟨k, off, none⟩ n).run P w = .ok (us.take n).toArray w := by
  have := run_loadCells_list (P := P) w ⟨k, off, none⟩ (us.take n) (fun j v hv => by
    have hj : j < n := by
      rcases Nat.lt_or_ge j n with hh | hh
      · exact hh
      · rw [List.getElem?_eq_none (by simp; omega)] at hv; simp at hv
    rw [List.getElem?_take_of_lt hj] at hv
    exact (hc j v hv).1)
  rwa [List.length_take, Nat.min_eq_left hn] at this
theorem does_load (h : Sat c s w) {x : Operand} {t : TypeId} {q : Option Nat} {X v : AV} {cs : List AV} (ho : o.op = .load t x) (hq : nP P t = some q) (hX : Rep c X (ρ x)) (hr : rd s.get X = some cs)
    (hv : (q = none ∧ cs[0]? = some v) ∨ (∃ n, q = some n ∧ n ≤ cs.length ∧ v = .agg (cs.take n))) : Does P o ρ c s w v s := by
  obtain ⟨k, off, hx, us, hus, hc⟩ := rd_cells h hr hX
  obtain ⟨d, i, h1, h2, h3⟩ := nP_cases (w := w) hq
  rcases hv with ⟨rfl, hv⟩ | ⟨n, rfl, hn, rfl⟩
  · obtain ⟨h3, h4⟩ : _ ∧ _ := by
      rcases h3 with ⟨hh, _⟩ | h3
      · simp at hh
      · exact h3
    obtain ⟨u, hu, hru⟩ := hus.get 0 v hv
    refine Does.pure (u := u) h ?_ hru
    have hc0 := (hc 0 u hu).1
    simp only [add_at, Nat.add_zero] at hc0
    simp [execOp, ho, hx, Instr.loadAt, Instr.sureAddr, loadVar, h4, hc0]
  · obtain ⟨h3, h4⟩ : _ ∧ _ := by
      rcases h3 with h3 | ⟨hh, _⟩
      · exact h3
      · simp at hh
    simp at h3
    have hl := run_loadN (P := P) (w := w) (n := n) (by rw [hus.length]; exact hn) hc
    refine Does.pure (u := .agg (us.take n).toArray) h ?_ (by simp only [Rep]; exact ⟨_, rfl, hus.take n⟩)
    have hcs : P.cellsOf t = n := by simp [Program.cellsOf, h2, h3]
    simp [execOp, ho, hx, Instr.loadAt, Instr.sureAddr, loadVar, h4, run_sizeOf w h2, hcs, hl]
theorem zeroP_spec {t : TypeId} {z : List AV} (h : zeroP P t = some z) : ∃ i v, P.info? t = some i ∧ i.zero = some v ∧ z.length = i.size ∧ (∀ x ∈ z, x.one = true) ∧ (∀ c : Ctx, RepL c z v.cells.toList) ∧ (zeroValue t).run P w = .ok v w := by
  unfold zeroP at h
  split at h
  · rename_i i hi
    split at h
    · rename_i v hv
      split at h
      · rename_i x hx
        split at h
        · rename_i hc
          simp at h; subst h
          exact ⟨i, v, hi, hv, hc.2, by simpa using hc.1, fun c => (cv_rep c hx).cells hc.1, by simp [zeroValue, run_typeInfo w hi, hv]⟩
        · simp at h
      · simp at h
    · simp at h
  · simp at h
theorem foldl_set (xs : List Value) : ∀ (j : Nat) (cs : Array Value), ((xs.zipIdx j).foldl (fun (cs : Array Value) (p : Value × Nat) => cs.setIfInBounds p.2 p.1) cs).toList =
    cs.toList.take j ++ (xs.take (cs.size - j)) ++ cs.toList.drop (j + xs.length) := by
  induction xs with
  | nil => intro j cs; simp
  | cons x r ih =>
    intro j cs
    simp only [List.zipIdx_cons, List.foldl_cons]
    rw [ih (j + 1) (cs.setIfInBounds j x)]
    apply List.ext_getElem?
    intro i
    simp only [Array.toList_setIfInBounds, Array.size_setIfInBounds, List.length_cons]
    by_cases hj : j < cs.size
    · have e : cs.size - j = (cs.size - (j + 1)) + 1 := by omega
      rw [e, List.take_succ_cons]
      have hlj : j < cs.toList.length := by simpa using hj
      rw [List.take_succ_eq_append_getElem (by simpa using hlj)]
      rw [List.take_set_of_le (by omega)]
      simp only [List.getElem_set_self, List.append_assoc, List.singleton_append, List.cons_append, List.nil_append]
      rw [List.drop_set_of_lt (by omega)]
      rw [show j + 1 + r.length = j + (r.length + 1) by omega]
    · have h1 : cs.toList.set j x = cs.toList := List.set_eq_of_length_le (by simp; omega)
      rw [h1]
      have e1 : cs.size - j = 0 := by omega
      have e2 : cs.size - (j + 1) = 0 := by omega
      rw [e1, e2]
      simp only [List.take_zero, List.append_nil]
      rw [List.take_of_length_le (by simp; omega), List.take_of_length_le (by simp; omega)]
      rw [List.drop_of_length_le (by simp; omega), List.drop_of_length_le (by simp; omega)]
theorem fill_sound (place : Nat → Option (Nat × Nat)) : ∀ (ps : List (Nat × Value)) (l : List (Nat × Nat × AV)) (cs out : List AV) (us : Array Value),
    l.length = ps.length → (∀ (j : Nat) (p : Nat × Value) (q : Nat × Nat × AV), ps[j]? = some p → l[j]? = some q → place p.1 = some (q.1, q.2.1) ∧ Rep c q.2.2 p.2) →
    RepL c cs us.toList → fillA cs l = some out → ∃ vs : Array Value, Instr.fill place us ps = some vs ∧ RepL c out vs.toList
  | [], l, cs, out, us, hl, _, hr, hf => by
    have : l = [] := List.eq_nil_of_length_eq_zero (by simpa using hl)
    subst this
    simp [fillA] at hf; subst hf
    exact ⟨us, by simp [Instr.fill], hr⟩
  | (i, v) :: ps, [], cs, out, us, hl, _, hr, hf => by simp at hl
  | (i, v) :: ps, (off, size, x) :: l, cs, out, us, hl, hp, hr, hf => by
    simp only [fillA] at hf
    split at hf
    · rename_i hc
      obtain ⟨h1, h2, h3⟩ := hc
      obtain ⟨p1, p2⟩ := hp 0 (i, v) (off, size, x) (by simp) (by simp)
      have hcells := p2.cells h3
      have hvl : v.cells.size = size := by have := hcells.length; simp at this; omega
      have hus : us.size = cs.length := by have := hr.length; simpa using this
      have hnew : RepL c (cs.take off ++ x.cells ++ cs.drop (off + size)) ((v.cells.zipIdx.foldl (fun (acc : Array Value) (p : Value × Nat) => acc.setIfInBounds (off + p.2) p.1) us).toList) := by
        have e : (v.cells.zipIdx.foldl (fun (acc : Array Value) (p : Value × Nat) => acc.setIfInBounds (off + p.2) p.1) us).toList = us.toList.take off ++ v.cells.toList ++ us.toList.drop (off + size) := by
          have := foldl_set v.cells.toList off us
          rw [show List.take (us.size - off) v.cells.toList = v.cells.toList from List.take_of_length_le (by simp; omega)] at this
          have hz : v.cells.toList.length = size := by simpa using hvl
          rw [hz] at this
          rw [← this]
          rw [← Array.foldl_toList]
          congr 1
          simp only [Array.toList_zipIdx]
          have : ∀ (l : List Value) (m : Nat) (acc : Array Value), (l.zipIdx m).foldl (fun (acc : Array Value) (p : Value × Nat) => acc.setIfInBounds (off + p.2) p.1) acc = (l.zipIdx (off + m)).foldl (fun (acc : Array Value) (p : Value × Nat) => acc.setIfInBounds p.2 p.1) acc := by
            intro l
            induction l with
            | nil => intro m acc; simp
            | cons a r ih => intro m acc; simp only [List.zipIdx_cons, List.foldl_cons]; rw [ih]; rfl
          exact this _ 0 _
        rw [e]
        exact ((hr.take off).append hcells).append (hr.drop _)
      obtain ⟨vs, q1, q2⟩ := fill_sound place ps l _ out _ (by simpa using hl) (fun j p q hj hq => hp (j + 1) p q (by simpa using hj) (by simpa using hq)) hnew hf
      refine ⟨vs, ?_, q2⟩
      have hcond : ¬ ((v.cells.size ≠ size || off + v.cells.size > us.size) = true) := by simp [hvl]; omega
      simp only [Instr.fill, p1]
      rw [if_neg hcond]
      exact q1
    · simp at hf
theorem places_spec {place : Nat → Option (Nat × Nat)} (hρ : Ops c F ρ) : ∀ {ps : List (Nat × Operand)} {l : List (Nat × Nat × AO)}, placesP place ps = some l →
    l.length = ps.length ∧ ∀ (j : Nat) (p : Nat × Operand) (q : Nat × Nat × AO), ps[j]? = some p → l[j]? = some q → place p.1 = some (q.1, q.2.1) ∧ Rep c (q.2.2.ev F) (ρ p.2)
  | [], l, h => by simp [placesP] at h; subst h; simp
  | (i, x) :: r, l, h => by
    simp only [placesP] at h
    split at h
    · rename_i o z y l' h1 h2 h3
      simp at h; subst h
      obtain ⟨a, b⟩ := places_spec hρ h3
      refine ⟨by simp [a], fun j p q hp hq => ?_⟩
      cases j with
      | zero => simp at hp hq; subst hp; subst hq; exact ⟨h1, hρ x y h2⟩
      | succ j => exact b j p q (by simpa using hp) (by simpa using hq)
    · simp at h
end
end Go.AX
/- Aggregates built, variables made, stores. -/
namespace Go.AX
open Go
section
variable {P : Program} {c : Ctx} {s : St} {w : World} {F : List AV} {ρ : Operand → Value} {o : Oper}
theorem setCell_row {w : World} {k i : Nat} {cur : Array Value} {t : TypeId} {fr : Nat × Nat} (v : Value) (hg : w.heap[k]? = some (.cells cur t fr)) :
    (w.setCell ⟨k, i, none⟩ v).heap = w.heap.setIfInBounds k (.cells (cur.setIfInBounds i v) t fr) := by
  have hk : k < w.heap.size := (Array.getElem?_eq_some_iff.1 hg).1
  have he : w.heap[k] = .cells cur t fr := (Array.getElem?_eq_some_iff.1 hg).2
  simp only [World.setCell]
  apply Array.ext
  · simp
  · intro j h1 h2
    rw [Array.getElem_modify, Array.getElem_setIfInBounds]
    · by_cases hj : k = j
      · subst hj; simp [he]
      · simp [hj]
    · simpa using h1
theorem run_storeC (k o : Nat) (t : TypeId) (fr : Nat × Nat) : ∀ (vs : List Value) (i : Nat) (cur : Array Value) (w : World), w.heap[k]? = some (.cells cur t fr) → (∀ j, j < cur.size → ¬ (fr.1 ≤ j ∧ j < fr.2)) →
    o + i + vs.length ≤ cur.size → (∀ v ∈ vs, v.oneCell' = true) →
    ∃ w', (storeCells ⟨k, o, none⟩ vs i).run P w = .ok () w' ∧ w'.heap = w.heap.setIfInBounds k (.cells (cur.toList.take (o + i) ++ vs ++ cur.toList.drop (o + i + vs.length)).toArray t fr) ∧ SameOs w w'
  | [], i, cur, w, hg, _, _, _ => by
    refine ⟨w, rfl, ?_, SameOs.refl w⟩
    have hk : k < w.heap.size := (Array.getElem?_eq_some_iff.1 hg).1
    have he : w.heap[k] = .cells cur t fr := (Array.getElem?_eq_some_iff.1 hg).2
    simp only [List.append_nil, List.length_nil, Nat.add_zero, List.take_append_drop]
    apply Array.ext (by simp)
    intro j h1 h2
    rw [Array.getElem_setIfInBounds]
    split
    · rename_i hj; subst hj; simp [he]
    · rfl
  | v :: rest, i, cur, w, hg, hfz, hl, h1 => by
    have hi : o + i < cur.size := by simp at hl; omega
    have hcell : w.cell? ⟨k, o + i, none⟩ = some cur[o + i] := by rw [cell_of_block hg]; simp [hi]
    have hfro : w.frozen? ⟨k, o + i, none⟩ = false := by
      rw [frozen_of_block hg]
      have := hfz (o + i) hi
      simp only [Bool.and_eq_false_iff, decide_eq_false_iff_not]
      omega
    have hst : (store ((⟨k, o, none⟩ : Addr).add i) v).run P w = .ok () (w.setCell ⟨k, o + i, none⟩ v) := by
      rw [add_at, run_store P w _ v _ (h1 v (by simp)), hcell]
      simp [hfro]
    have hk : k < w.heap.size := (Array.getElem?_eq_some_iff.1 hg).1
    have hg' : (w.setCell ⟨k, o + i, none⟩ v).heap[k]? = some (.cells (cur.setIfInBounds (o + i) v) t fr) := by
      rw [setCell_row v hg]; simp [hk]
    obtain ⟨w', e1, e2, e3⟩ := run_storeC k o t fr rest (i + 1) (cur.setIfInBounds (o + i) v) (w.setCell ⟨k, o + i, none⟩ v) hg' (by simpa using hfz) (by simp at hl ⊢; omega) (fun x hx => h1 x (by simp [hx]))
    refine ⟨w', ?_, ?_, e3⟩
    · simp only [storeCells, Sem.run_bind, hst, Result.andThen_ok, e1]
    · rw [e2, setCell_row v hg]
      have : ((cur.setIfInBounds (o + i) v).toList.take (o + (i + 1)) ++ rest ++ (cur.setIfInBounds (o + i) v).toList.drop (o + (i + 1) + rest.length)) =
          (cur.toList.take (o + i) ++ (v :: rest) ++ cur.toList.drop (o + i + (v :: rest).length)) := by
        simp only [Array.toList_setIfInBounds, List.length_cons]
        have hlj : o + i < cur.toList.length := by simpa using hi
        rw [show o + (i + 1) = o + i + 1 by omega, List.take_succ_eq_append_getElem (by simpa using hlj), List.take_set_of_le (by omega), List.drop_set_of_lt (by omega)]
        simp only [List.getElem_set_self, List.append_assoc, List.singleton_append, List.cons_append, List.nil_append]
        rw [show o + i + 1 + rest.length = o + i + (rest.length + 1) by omega]
      rw [this]
      simp
theorem fields_mapM : ∀ (fs : List Field) (l : List (Nat × Nat)), fieldsP P fs = some l →
    (fs.mapM fun f => (do pure (f.offset, ← sizeOf f.type) : Sem (Nat × Nat))).run P w = .ok l w
  | [], l, h => by simp [fieldsP] at h; subst h; simp
  | f :: r, l, h => by
    simp only [fieldsP] at h
    split at h
    · rename_i z l' h1 h2
      simp at h; subst h
      simp only [szP, Option.map_eq_some_iff] at h1
      obtain ⟨i, hi, hz⟩ := h1
      have ih := fields_mapM r l' h2
      have hc : P.cellsOf f.type = z := by simp [Program.cellsOf, hi, hz]
      simp only [List.mapM_cons, Sem.run_bind, run_sizeOf w hi, Result.andThen_ok, Sem.run_pure, hc]
      simp only [bind_pure_comp] at ih
      simp [ih]
    · simp at h
theorem does_build_struct (h : Sat c s w) (hρ : Ops c F ρ) {t : TypeId} {parts : Array (Nat × Operand)} {z out : List AV} {fs : Array Field} {pl : List (Nat × Nat)} {ps : List (Nat × Nat × AO)} (ho : o.op = .build t parts)
    (hz : zeroP P t = some z) (ht : P.underlying t = some (.struct fs)) (hpl : fieldsP P fs.toList = some pl) (hps : placesP (fun i => pl[i]?) parts.toList = some ps)
    (hf : fillA z (ps.map fun p => (p.1, p.2.1, p.2.2.ev F)) = some out) : Does P o ρ c s w (.agg out) s := by
  obtain ⟨i, v, hi, hv, hl, hone, hrep, hrun⟩ := zeroP_spec (P := P) (w := w) hz
  obtain ⟨q1, q2⟩ := places_spec hρ hps
  obtain ⟨vs, f1, f2⟩ := fill_sound (c := c) (fun i => pl[i]?) (parts.toList.map fun p => (p.1, ρ p.2)) (ps.map fun p => (p.1, p.2.1, p.2.2.ev F)) z out v.cells (by simp [q1])
    (fun j p q hp hq => by
      simp only [List.getElem?_map, Option.map_eq_some_iff] at hp hq
      obtain ⟨p0, hp0, rfl⟩ := hp
      obtain ⟨q0, hq0, rfl⟩ := hq
      exact q2 j p0 q0 hp0 hq0) (hrep c) hf
  refine Does.pure (u := .agg vs) h ?_ (by simp only [Rep]; exact ⟨vs.toList, by simp, f2⟩)
  have hm : (fs.mapM fun f => (do pure (f.offset, ← sizeOf f.type) : Sem (Nat × Nat))).run P w = .ok pl.toArray w := by
    rw [Array.mapM_eq_mapM_toList]
    have e := fields_mapM (P := P) (w := w) fs.toList pl hpl
    simp only [bind_pure_comp, Sem.run_map] at e ⊢
    rw [e]; rfl
  have hparts : (parts.map fun p => (p.1, ρ p.2)).toList = parts.toList.map fun p => (p.1, ρ p.2) := by simp
  have hfill : Instr.fill (fun i => pl.toArray[i]?) v.cells (parts.map fun p => (p.1, ρ p.2)).toList = some vs := by
    rw [hparts]; simpa using f1
  simp only [execOp, ho, Instr.build, Sem.run_bind, hrun, Result.andThen_ok, run_underlying ht, hm]
  rw [hfill]
  rfl
theorem does_build_arr (h : Sat c s w) (hρ : Ops c F ρ) {t e : TypeId} {n : Nat} {inf : TypeInfo} {parts : Array (Nat × Operand)} {z out : List AV} {ps : List (Nat × Nat × AO)} (ho : o.op = .build t parts)
    (hz : zeroP P t = some z) (ht : P.underlying t = some (.array n e)) (he : P.info? e = some inf) (hps : placesP (fun i => some (i * inf.size, inf.size)) parts.toList = some ps)
    (hf : fillA z (ps.map fun p => (p.1, p.2.1, p.2.2.ev F)) = some out) : Does P o ρ c s w (.agg out) s := by
  obtain ⟨i, v, hi, hv, hl, hone, hrep, hrun⟩ := zeroP_spec (P := P) (w := w) hz
  obtain ⟨q1, q2⟩ := places_spec hρ hps
  obtain ⟨vs, f1, f2⟩ := fill_sound (c := c) (fun i => some (i * inf.size, inf.size)) (parts.toList.map fun p => (p.1, ρ p.2)) (ps.map fun p => (p.1, p.2.1, p.2.2.ev F)) z out v.cells (by simp [q1])
    (fun j p q hp hq => by
      simp only [List.getElem?_map, Option.map_eq_some_iff] at hp hq
      obtain ⟨p0, hp0, rfl⟩ := hp
      obtain ⟨q0, hq0, rfl⟩ := hq
      exact q2 j p0 q0 hp0 hq0) (hrep c) hf
  refine Does.pure (u := .agg vs) h ?_ (by simp only [Rep]; exact ⟨vs.toList, by simp, f2⟩)
  have hc : P.cellsOf e = inf.size := by simp [Program.cellsOf, he]
  have hfill : Instr.fill (fun i => some (i * inf.size, inf.size)) v.cells (parts.map fun p => (p.1, ρ p.2)).toList = some vs := by
    rw [show (parts.map fun p => (p.1, ρ p.2)).toList = parts.toList.map fun p => (p.1, ρ p.2) by simp]; exact f1
  simp only [execOp, ho, Instr.build, Sem.run_bind, hrun, Result.andThen_ok, run_underlying ht, run_sizeOf w he, hc]
  rw [hfill]
  rfl
theorem newRow_sat (h : Sat c s w) (el : TypeId) {cs : List AV} {us : List Value} (hr : RepL c cs us) (hone : ∀ (i : Nat) (v : Value), us[i]? = some v → v.oneCell' = true) (ver : Nat) (hev : elv ver el = el) :
    ∃ c' w', (newRow el us.toArray).run P w = .ok ⟨w.heap.size, 0, none⟩ w' ∧ Sat c' (s.push (.cells ver cs false)) w' ∧ Ext c s w c' (s.push (.cells ver cs false)) w' ∧ c'.σ s.next ver = some (w.heap.size, us.length) := by
  obtain ⟨c', h1, h2, h3⟩ := h.alloc (w' := { w with heap := w.heap.push (.cells us.toArray el) }) (e' := ver) (cs' := cs) (arr' := us.toArray) (el := el) (fr := (0, 0)) hev
    (by simp [hr.length]) (by intros; omega) (fun i x hx => by
      obtain ⟨u, hu, hru⟩ := hr.get i x hx
      exact ⟨u, by simpa using hu, hone i u hu, hru⟩) rfl ⟨rfl, rfl, rfl⟩
  exact ⟨c', _, rfl, h1, h2, by simpa using h3⟩
theorem one_of_rep {cs : List AV} {us : List Value} (hr : RepL c cs us) (ho : cs.all AV.one = true) : ∀ (i : Nat) (v : Value), us[i]? = some v → v.oneCell' = true := by
  intro i v hv
  have hi : i < cs.length := by
    rw [← hr.length]
    exact (List.getElem?_eq_some_iff.1 hv).1
  obtain ⟨u, hu, hru⟩ := hr.get i cs[i] (by simp [hi])
  rw [hu] at hv; cases hv
  exact hru.one (by rw [List.all_eq_true] at ho; exact ho _ (List.getElem_mem hi))
theorem does_alloc (h : Sat c s w) {t : TypeId} {z : List AV} (ho : o.op = .alloc t) (hz : zeroP P t = some z) (hv0 : ¬ (vz z = 0 ∧ t ≠ gW)) : Does P o ρ c s w (.ptr s.next (vz z) 0) (s.push (.cells (vz z) z false)) := by
  have hev : elv (vz z) t = t := by
    rcases vz_cases z with h0 | h0
    · rw [h0]; exact (Classical.byContradiction fun hn => hv0 ⟨h0, fun hh => hn hh.symm⟩)
    · rw [h0]; rfl
  obtain ⟨i, v, hi, hv, hl, hone, hrep, hrun⟩ := zeroP_spec (P := P) (w := w) hz
  obtain ⟨c', w', e1, e2, e3, e4⟩ := newRow_sat (P := P) h t (hrep c) (one_of_rep (hrep c) (by simpa using hone)) (vz z) hev
  refine ⟨c', w', .pointer (some ⟨w.heap.size, 0, none⟩), .inl ?_, by simp only [Rep]; exact ⟨_, _, e4, rfl⟩, e2, e3⟩
  simp only [Array.toArray_toList] at e1
  simp [execOp, ho, Instr.alloc, hrun, newVar, e1]
theorem does_box (h : Sat c s w) {t : TypeId} {x : Operand} {X : AV} (ho : o.op = .box t x) (hX : Rep c X (ρ x)) (h1 : X.cells.all AV.one = true) : Does P o ρ c s w (.ptr s.next 1 0) (s.push (.cells 1 X.cells false)) := by
  have hr := hX.cells h1
  obtain ⟨c', w', e1, e2, e3, e4⟩ := newRow_sat (P := P) h t hr (one_of_rep hr h1) 1 rfl
  refine ⟨c', w', .pointer (some ⟨w.heap.size, 0, none⟩), .inl ?_, by simp only [Rep]; exact ⟨_, _, e4, rfl⟩, e2, e3⟩
  simp only [Array.toArray_toList] at e1
  simp [execOp, ho, Instr.box, newVar, e1]
theorem get_mid {α : Type} {l m r : List α} {n : Nat} (hl : l.length = n) (i : Nat) (x : α) (h : (l ++ m ++ r)[i]? = some x) :
    (i < n ∧ l[i]? = some x) ∨ (n ≤ i ∧ i < n + m.length ∧ m[i - n]? = some x) ∨ (n + m.length ≤ i ∧ r[i - (n + m.length)]? = some x) := by
  rw [List.append_assoc] at h
  by_cases h1 : i < l.length
  · rw [List.getElem?_append_left h1] at h; exact .inl ⟨by omega, h⟩
  · rw [List.getElem?_append_right (by omega)] at h
    by_cases h2 : i - l.length < m.length
    · rw [List.getElem?_append_left h2] at h; exact .inr (.inl ⟨by omega, by omega, by rw [← hl]; exact h⟩)
    · rw [List.getElem?_append_right (by omega)] at h
      exact .inr (.inr ⟨by omega, by rw [show i - (n + m.length) = i - l.length - m.length by omega]; exact h⟩)
theorem over_rep {cs xs : List AV} {arr : Array Value} {us : List Value} {O : Nat} (h6 : ∀ (i : Nat) (x : AV), cs[i]? = some x → ∃ u, arr[i]? = some u ∧ u.oneCell' = true ∧ Rep c x u)
    (hO : O + xs.length ≤ arr.size) (hOc : O ≤ cs.length) (hr : RepL c xs us) (hone : ∀ (i : Nat) (v : Value), us[i]? = some v → v.oneCell' = true) (i : Nat) (x : AV)
    (hx : (cs.take O ++ xs ++ cs.drop (O + xs.length))[i]? = some x) :
    ∃ u, ((arr.toList.take O ++ us ++ arr.toList.drop (O + us.length)).toArray)[i]? = some u ∧ u.oneCell' = true ∧ Rep c x u := by
  have hul : us.length = xs.length := hr.length
  have hlt : (cs.take O).length = O := by simp; omega
  have hla : (arr.toList.take O).length = O := by simp; omega
  rcases get_mid hlt i x hx with ⟨h1, h2⟩ | ⟨h1, h2, h3⟩ | ⟨h1, h2⟩
  · rw [List.getElem?_take_of_lt h1] at h2
    obtain ⟨u, a, b, d⟩ := h6 i x h2
    refine ⟨u, ?_, b, d⟩
    simp only [List.getElem?_toArray]
    rw [List.append_assoc, List.getElem?_append_left (by omega), List.getElem?_take_of_lt h1]
    simpa using a
  · obtain ⟨u, a, d⟩ := hr.get _ x h3
    refine ⟨u, ?_, hone _ u a, d⟩
    simp only [List.getElem?_toArray]
    rw [List.append_assoc, List.getElem?_append_right (by omega), hla, List.getElem?_append_left (by omega)]
    exact a
  · rw [List.getElem?_drop] at h2
    obtain ⟨u, a, b, d⟩ := h6 _ x h2
    refine ⟨u, ?_, b, d⟩
    simp only [List.getElem?_toArray]
    rw [List.append_assoc, List.getElem?_append_right (by omega), hla, List.getElem?_append_right (by omega), List.getElem?_drop]
    rw [show O + xs.length + (i - (O + xs.length)) = i by omega] at a
    rw [show O + us.length + (i - O - us.length) = i by omega]
    simpa using a
theorem does_store (h : Sat c s w) {t : TypeId} {x y : Operand} {inf : TypeInfo} {X : AV} {b e O : Nat} {cs : List AV} (ho : o.op = .store t x y) (hi : P.info? t = some inf) (hA : Rep c (.ptr b e O) (ρ x)) (hX : Rep c X (ρ y))
    (hg : s.get b = some (.cells e cs false)) (hO : O + inf.size ≤ cs.length) (hl : X.cells.length = inf.size) (h1 : X.cells.all AV.one = true) :
    Does P o ρ c s w .any (s.put b (.cells e (cs.take O ++ X.cells ++ cs.drop (O + inf.size)) false)) := by
  simp only [Rep] at hA
  obtain ⟨k, z, hσ, hx⟩ := hA
  obtain ⟨k', z', arr, el, fr, g1, g2, g3, g4, g5, g6, g7⟩ := h.block hg
  rw [hσ] at g1; simp only [Option.some.injEq, Prod.mk.injEq] at g1; obtain ⟨rfl, rfl⟩ := g1
  have hr := hX.cells h1
  have hone := one_of_rep hr h1
  have hlen : (ρ y).cells.toList.length = inf.size := by rw [hr.length, hl]
  obtain ⟨w', e1, e2, e3⟩ := run_storeC (P := P) k O el fr (ρ y).cells.toList 0 arr w g2 (by rw [g3]; exact g5) (by rw [hlen]; simp; omega) (fun v hv => by
    obtain ⟨i, hi, rfl⟩ := List.getElem_of_mem hv
    exact hone i _ (by simp [hi]))
  simp only [Nat.add_zero] at e2
  obtain ⟨c', q1, q2, q3, q4⟩ := h.inPlace (w' := w') hg hσ g2 (e' := e) (cs' := cs.take O ++ X.cells ++ cs.drop (O + inf.size)) (seen' := false)
    (arr' := (arr.toList.take O ++ (ρ y).cells.toList ++ arr.toList.drop (O + (ρ y).cells.toList.length)).toArray)
    (by rw [← g3]; simp only [List.size_toArray, List.length_append, hlen, List.length_take, List.length_drop, Array.length_toList]; omega)
    (by simp only [List.length_append, hl, List.length_take, List.length_drop]; omega)
    (fun i x hx => over_rep g6 (by rw [hl]; omega) (by omega) hr hone i x (by rw [hl]; exact hx))
    (fun i u hu => by rw [g7] at hu; simp at hu) (.inl rfl) (elv_same _) e2 e3
  refine ⟨c', w', undef, .inr ⟨?_, rfl⟩, by simp [Rep], q1, q2⟩
  have hc : P.cellsOf t = inf.size := by simp [Program.cellsOf, hi]
  have hsz : (ρ y).cells.size = inf.size := by simpa using hlen
  simp [execOp, ho, hx, Instr.storeAt, Instr.sureAddr, storeVar, run_sizeOf w hi, hc, hsz, e1]
end
end Go.AX
/- Views; new slices; append. -/
namespace Go.AX
open Go
def St.puts (s : St) (ps : List (Nat × Obj)) : St := ps.foldl (fun s p => s.put p.1 p.2) s
def Since (g : Nat → Option Obj) (s : St) : Prop := ∀ b e cs sn, g b = some (.cells e cs sn) → ∃ sn', s.get b = some (.cells e cs sn')
theorem Since.refl (s : St) : Since s.get s := fun _ _ _ sn h => ⟨sn, h⟩
section
variable {c : Ctx} {w : World} {g : Nat → Option Obj}
theorem see_step {s : St} (h : Sat c s w) (hs : Since g s) {b e : Nat} {cs : List AV} {sn : Bool} (hg : g b = some (.cells e cs sn)) :
    ∃ c', Sat c' (s.put b (.cells e cs true)) w ∧ Ext c s w c' (s.put b (.cells e cs true)) w ∧ (∃ k z, c'.σ b e = some (k, z) ∧ RepAt c' k 0 cs) ∧ Since g (s.put b (.cells e cs true)) := by
  obtain ⟨sn', hg'⟩ := hs b e cs sn hg
  obtain ⟨c', h1, h2, k, z, h3, h4⟩ := h.see hg'
  refine ⟨c', h1, h2, ⟨k, z, h3, h4⟩, fun b1 e1 cs1 sn1 hg1 => ?_⟩
  rw [St.get_put hg']
  by_cases hb : b = b1
  · subst hb
    rw [hg] at hg1; cases hg1
    exact ⟨true, by simp⟩
  · obtain ⟨sn2, h5⟩ := hs b1 e1 cs1 sn1 hg1
    exact ⟨sn2, by simp [hb, h5]⟩
mutual
theorem view_sound : ∀ (x y : AV) (ps : List (Nat × Obj)), view g x = some (y, ps) → ∀ (c : Ctx) (s : St) (u : Value), Sat c s w → Since g s → Rep c x u →
    ∃ c', Sat c' (s.puts ps) w ∧ Ext c s w c' (s.puts ps) w ∧ Since g (s.puts ps) ∧ Rep c' y u
  | .nils, y, ps, hv, c, s, u, h, hs, hr => by
    simp [view] at hv; obtain ⟨rfl, rfl⟩ := hv
    simp only [Rep] at hr
    refine ⟨c, h, Ext.refl _ _ _, hs, ?_⟩
    simp only [Rep]
    exact .inl ⟨by first | rfl | trivial, by first | rfl | trivial, none, 0, hr⟩
  | .sl b e o n z, y, ps, hv, c, s, u, h, hs, hr => by
    simp only [view] at hv
    split at hv
    · rename_i e' cs sn hg
      split at hv
      · rename_i hc
        obtain ⟨rfl, hc⟩ := hc
        simp at hv; obtain ⟨rfl, rfl⟩ := hv
        obtain ⟨c', h1, h2, ⟨k, zz, h3, h4⟩, h5⟩ := see_step h hs hg
        simp only [Rep] at hr
        obtain ⟨k', s', q, g1, g2, g3, g4⟩ := hr
        have := h2.le.1 _ _ _ g1
        rw [h3] at this; simp only [Option.some.injEq, Prod.mk.injEq] at this; obtain ⟨rfl, rfl⟩ := this
        refine ⟨c', h1, h2, h5, ?_⟩
        simp only [Rep]
        refine .inr ⟨k, o, q, g2, g3, ?_⟩
        have := (h4.drop o).take (n * z)
        simpa using this
      · simp at hv
    · simp at hv
  | .agg xs, y, ps, hv, c, s, u, h, hs, hr => by
    simp only [view] at hv
    split at hv
    · rename_i ys qs hq
      simp at hv; obtain ⟨rfl, rfl⟩ := hv
      simp only [Rep] at hr
      obtain ⟨us, rfl, hr⟩ := hr
      obtain ⟨c', h1, h2, h3, h4⟩ := views_sound xs ys qs hq c s us h hs hr
      exact ⟨c', h1, h2, h3, by simp only [Rep]; exact ⟨us, rfl, h4⟩⟩
    · simp at hv
  | .tup xs, y, ps, hv, c, s, u, h, hs, hr => by
    simp only [view] at hv
    split at hv
    · rename_i ys qs hq
      simp at hv; obtain ⟨rfl, rfl⟩ := hv
      simp only [Rep] at hr
      obtain ⟨us, rfl, hr⟩ := hr
      obtain ⟨c', h1, h2, h3, h4⟩ := views_sound xs ys qs hq c s us h hs hr
      exact ⟨c', h1, h2, h3, by simp only [Rep]; exact ⟨us, rfl, h4⟩⟩
    · simp at hv
  | .bool _, y, ps, hv, c, s, u, h, hs, hr => by simp [view] at hv; obtain ⟨rfl, rfl⟩ := hv; exact ⟨c, h, Ext.refl _ _ _, hs, hr⟩
  | .int _ _, y, ps, hv, c, s, u, h, hs, hr => by simp [view] at hv; obtain ⟨rfl, rfl⟩ := hv; exact ⟨c, h, Ext.refl _ _ _, hs, hr⟩
  | .str _, y, ps, hv, c, s, u, h, hs, hr => by simp [view] at hv; obtain ⟨rfl, rfl⟩ := hv; exact ⟨c, h, Ext.refl _ _ _, hs, hr⟩
  | .nilp, y, ps, hv, c, s, u, h, hs, hr => by simp [view] at hv; obtain ⟨rfl, rfl⟩ := hv; exact ⟨c, h, Ext.refl _ _ _, hs, hr⟩
  | .ptr _ _ _, y, ps, hv, c, s, u, h, hs, hr => by simp [view] at hv; obtain ⟨rfl, rfl⟩ := hv; exact ⟨c, h, Ext.refl _ _ _, hs, hr⟩
  | .vp _, y, ps, hv, c, s, u, h, hs, hr => by simp [view] at hv; obtain ⟨rfl, rfl⟩ := hv; exact ⟨c, h, Ext.refl _ _ _, hs, hr⟩
  | .ps _ _, y, ps, hv, c, s, u, h, hs, hr => by simp [view] at hv; obtain ⟨rfl, rfl⟩ := hv; exact ⟨c, h, Ext.refl _ _ _, hs, hr⟩
  | .nilf, y, ps, hv, c, s, u, h, hs, hr => by simp [view] at hv; obtain ⟨rfl, rfl⟩ := hv; exact ⟨c, h, Ext.refl _ _ _, hs, hr⟩
  | .fn _ _ _, y, ps, hv, c, s, u, h, hs, hr => by simp [view] at hv; obtain ⟨rfl, rfl⟩ := hv; exact ⟨c, h, Ext.refl _ _ _, hs, hr⟩
  | .nili, y, ps, hv, c, s, u, h, hs, hr => by simp [view] at hv; obtain ⟨rfl, rfl⟩ := hv; exact ⟨c, h, Ext.refl _ _ _, hs, hr⟩
  | .ifc _ _, y, ps, hv, c, s, u, h, hs, hr => by simp [view] at hv; obtain ⟨rfl, rfl⟩ := hv; exact ⟨c, h, Ext.refl _ _ _, hs, hr⟩
  | .nilm, y, ps, hv, c, s, u, h, hs, hr => by simp [view] at hv; obtain ⟨rfl, rfl⟩ := hv; exact ⟨c, h, Ext.refl _ _ _, hs, hr⟩
  | .map _, y, ps, hv, c, s, u, h, hs, hr => by simp [view] at hv; obtain ⟨rfl, rfl⟩ := hv; exact ⟨c, h, Ext.refl _ _ _, hs, hr⟩
  | .any, y, ps, hv, c, s, u, h, hs, hr => by simp [view] at hv; obtain ⟨rfl, rfl⟩ := hv; exact ⟨c, h, Ext.refl _ _ _, hs, hr⟩
theorem views_sound : ∀ (xs ys : List AV) (ps : List (Nat × Obj)), views g xs = some (ys, ps) → ∀ (c : Ctx) (s : St) (us : List Value), Sat c s w → Since g s → RepL c xs us →
    ∃ c', Sat c' (s.puts ps) w ∧ Ext c s w c' (s.puts ps) w ∧ Since g (s.puts ps) ∧ RepL c' ys us
  | [], ys, ps, hv, c, s, us, h, hs, hr => by
    simp [views] at hv; obtain ⟨rfl, rfl⟩ := hv
    exact ⟨c, h, Ext.refl _ _ _, hs, hr⟩
  | x :: xs, ys, ps, hv, c, s, us, h, hs, hr => by
    simp only [views] at hv
    split at hv
    · rename_i y p ys' q h1 h2
      simp at hv; obtain ⟨rfl, rfl⟩ := hv
      simp only [RepL] at hr
      obtain ⟨u, us', rfl, r1, r2⟩ := hr
      obtain ⟨c1, a1, a2, a3, a4⟩ := view_sound x y p h1 c s u h hs r1
      obtain ⟨c2, b1, b2, b3, b4⟩ := views_sound xs ys' q h2 c1 (s.puts p) us' a1 a3 (RepL.mono a2.le xs us' r2)
      have e : s.puts (p ++ q) = (s.puts p).puts q := by simp [St.puts]
      refine ⟨c2, by rw [e]; exact b1, by rw [e]; exact a2.trans b2, by rw [e]; exact b3, ?_⟩
      simp only [RepL]
      exact ⟨u, us', rfl, a4.mono b2.le, b4⟩
    · simp at hv
end
end
section
variable {P : Program} {c : Ctx} {s : St} {w : World} {F : List AV} {ρ : Operand → Value} {o : Oper}
theorem puts_next (s : St) : ∀ ps : List (Nat × Obj), (s.puts ps).next = s.next := by
  intro ps
  induction ps generalizing s with
  | nil => rfl
  | cons p r ih => exact ih (s.put p.1 p.2)
theorem row_cells (h : Sat c s w) {z : Nat} {X : AV} {u : Value} {n : Nat} {cs : List AV} (hr : rowOf s.get z X = some (n, cs)) (hX : Rep c X u) :
    cs.length = n * z ∧ ∃ q, (∃ k off, u = .slice (some ⟨k, off, none⟩) n q ∧ n ≤ q ∧ ∃ us : List Value, RepL c cs us ∧ ∀ (j : Nat) (v : Value), us[j]? = some v → w.cell? ((⟨k, off, none⟩ : Addr).add j) = some v ∧ v.oneCell' = true) ∨
      (n = 0 ∧ cs = [] ∧ ∃ a, u = .slice a 0 q) := by
  unfold rowOf at hr
  split at hr
  · simp at hr; obtain ⟨rfl, rfl⟩ := hr
    simp only [Rep] at hX
    exact ⟨by simp, 0, .inr ⟨rfl, rfl, none, hX⟩⟩
  · rename_i n' cs'
    split at hr
    · rename_i hl
      simp at hr; obtain ⟨rfl, rfl⟩ := hr
      simp only [Rep] at hX
      rcases hX with ⟨h0, hcs, a, q, hu⟩ | ⟨k, off, q, hu, hq, hA⟩
      · exact ⟨hl, q, .inr ⟨h0, hcs, a, hu⟩⟩
      · refine ⟨hl, q, .inl ⟨k, off, hu, hq, gather (Q := fun j v => w.cell? ((⟨k, off, none⟩ : Addr).add j) = some v ∧ v.oneCell' = true) fun i x hx => ?_⟩⟩
        obtain ⟨v, hv, hr⟩ := hA.get i x hx
        obtain ⟨p, q⟩ := h.mem _ _ _ hv
        exact ⟨v, ⟨by rw [add_at]; exact p, q⟩, hr⟩
    · simp at hr
  · rename_i b e O n' z'
    split at hr
    · rename_i e' cs' sn hg
      split at hr
      · rename_i hc
        obtain ⟨rfl, rfl, hlen⟩ := hc
        simp at hr; obtain ⟨rfl, rfl⟩ := hr
        simp only [Rep] at hX
        obtain ⟨k, sz, q, hσ, hu, hq, hsz⟩ := hX
        obtain ⟨k', zz, arr, el, fr, g1, g2, g3, g4, g5, g6, g7⟩ := h.block hg
        rw [hσ] at g1; simp only [Option.some.injEq, Prod.mk.injEq] at g1; obtain ⟨rfl, rfl⟩ := g1
        refine ⟨by simp; omega, q, .inl ⟨k, O, hu, hq, gather (Q := fun j v => w.cell? ((⟨k, O, none⟩ : Addr).add j) = some v ∧ v.oneCell' = true) fun i x hx => ?_⟩⟩
        have hi : i < n' * z' := by
          rcases Nat.lt_or_ge i (n' * z') with hh | hh
          · exact hh
          · rw [List.getElem?_eq_none (by simp; omega)] at hx; simp at hx
        rw [List.getElem?_take_of_lt hi, List.getElem?_drop] at hx
        obtain ⟨v, hv, ho, hr⟩ := g6 _ x hx
        exact ⟨v, ⟨by rw [add_at, cell_of_block g2]; exact hv, ho⟩, hr⟩
      · simp at hr
    · simp at hr
  · simp at hr
theorem run_first (h : Sat c s w) {z : Nat} {X : AV} {u : Value} {n : Nat} {cs : List AV} (hr : rowOf s.get z X = some (n, cs)) (hX : Rep c X u) :
    ∃ us : List Value, RepL c cs us ∧ (∀ (j : Nat) (v : Value), us[j]? = some v → v.oneCell' = true) ∧ (Builtin.firstCells z n u).run P w = .ok us.toArray w ∧ (Builtin.lenOf u).run P w = .ok n w := by
  obtain ⟨hl, q, hq⟩ := row_cells h hr hX
  rcases hq with ⟨k, off, rfl, hnq, us, hus, hc⟩ | ⟨rfl, rfl, a, rfl⟩
  · refine ⟨us, hus, fun j v hv => (hc j v hv).2, ?_, by simp [Builtin.lenOf]⟩
    have := run_loadN (P := P) (w := w) (n := n * z) (by rw [hus.length, hl]; exact Nat.le_refl _) hc
    rw [List.take_of_length_le (by rw [hus.length, hl]; exact Nat.le_refl _)] at this
    simpa [Builtin.firstCells] using this
  · refine ⟨[], by simp [RepL], by simp, ?_, by simp [Builtin.lenOf]⟩
    cases a <;> simp [Builtin.firstCells, loadCells, loadCellsFrom]
theorem fillA_one : ∀ (l : List (Nat × Nat × AV)) (cs out : List AV), fillA cs l = some out → (∀ x ∈ cs, x.one = true) → ∀ x ∈ out, x.one = true
  | [], cs, out, h, h1 => by simp [fillA] at h; subst h; exact h1
  | (o, z, y) :: r, cs, out, h, h1 => by
    simp only [fillA] at h
    split at h
    · rename_i hc
      refine fillA_one r _ out h fun x hx => ?_
      simp only [List.mem_append] at hx
      rcases hx with (hx | hx) | hx
      · exact h1 x (List.mem_of_mem_take hx)
      · exact (List.all_eq_true.1 hc.2.2) x hx
      · exact h1 x (List.mem_of_mem_drop hx)
    · simp at h
theorem does_bslice (h : Sat c s w) (hρ : Ops c F ρ) {t e : TypeId} {n : Nat} {inf : TypeInfo} {parts : Array (Nat × Operand)} {z out : List AV} {ps : List (Nat × Nat × AO)} {xs : List AV} {vs : List (Nat × Obj)} (ho : o.op = .buildSlice t n parts)
    (hz : zeroP P e = some z) (ht : P.underlying t = some (.slice e)) (he : P.info? e = some inf) (hbig : n * inf.size ≤ 16777216) (hpos : 0 < inf.size) (hps : placesP (fun i => some (i * inf.size, inf.size)) parts.toList = some ps)
    (hv : views s.get (ps.map fun p => p.2.2.ev F) = some (xs, vs)) (hf : fillA (List.replicate n z).flatten ((ps.zip xs).map fun p => (p.1.1, p.1.2.1, p.2)) = some out) :
    Does P o ρ c s w (.sl s.next (2 * out.length + 1) 0 n inf.size) ((s.puts vs).push (.cells (2 * out.length + 1) out false)) := by
  obtain ⟨i, v, hi, hzv, hl, hone0, hrep, hrun⟩ := zeroP_spec (P := P) (w := w) hz
  rw [he] at hi; cases hi
  have hone : out.all AV.one = true := List.all_eq_true.2 (fillA_one _ _ out hf fun x hx => by
    simp only [List.mem_flatten, List.mem_replicate] at hx
    obtain ⟨l, ⟨_, rfl⟩, hx⟩ := hx
    exact hone0 x hx)
  obtain ⟨q1, q2⟩ := places_spec hρ hps
  have hops : RepL c (ps.map fun p => p.2.2.ev F) (parts.toList.map fun p => ρ p.2) := RepL.of_get (by simp [q1]) fun j x u hx hu => by
    simp only [List.getElem?_map, Option.map_eq_some_iff] at hx hu
    obtain ⟨q0, hq0, rfl⟩ := hx
    obtain ⟨p0, hp0, rfl⟩ := hu
    exact (q2 j p0 q0 hp0 hq0).2
  obtain ⟨c1, a1, a2, a3, a4⟩ := views_sound _ xs vs hv c s _ h (Since.refl s) hops
  have hxl : xs.length = ps.length := by have := a4.length; rw [List.length_map] at this; omega
  have hzeros : RepL c1 (List.replicate n z).flatten ((Array.range (n * inf.size)).map (v.cells[· % v.cells.size]!)).toList := by
    have hsz : v.cells.size = inf.size := by have := (hrep c1).length; simp at this; omega
    refine RepL.of_get (by simp [hl]) fun j x u hx hu => ?_
    have hj : j < n * inf.size := by
      have := (List.getElem?_eq_some_iff.1 hu).1
      simpa using this
    have hx' : z[j % inf.size]? = some x := by
      have : ∀ (n j : Nat), j < n * inf.size → (List.replicate n z).flatten[j]? = z[j % inf.size]? := by
        intro n
        induction n with
        | zero => intro j hj; omega
        | succ n ih =>
          intro j hj
          rw [List.replicate_succ, List.flatten_cons]
          by_cases h1 : j < z.length
          · rw [List.getElem?_append_left h1, Nat.mod_eq_of_lt (by omega)]
          · rw [List.getElem?_append_right (by omega), ih _ (by rw [Nat.succ_mul] at hj; omega)]
            congr 1
            rw [hl, Nat.mod_eq_sub_mod (a := j) (by omega)]
      rw [this n j hj] at hx
      exact hx
    have hu' : u = v.cells[j % inf.size]! := by
      simp only [Array.toList_map, Array.toList_range, List.getElem?_map, List.getElem?_range hj, Option.map_some, Option.some.injEq] at hu
      rw [← hu, hsz]
    obtain ⟨u2, h5, h6⟩ := (hrep c1).get _ x hx'
    have hlt : j % inf.size < v.cells.size := by rw [hsz]; exact Nat.mod_lt _ hpos
    have : v.cells[j % inf.size]! = u2 := by
      rw [getElem!_pos v.cells _ hlt]
      have : v.cells[j % inf.size]? = some u2 := by simpa using h5
      rw [Array.getElem?_eq_getElem hlt] at this
      exact Option.some.inj this
    rw [hu', this]; exact h6
  obtain ⟨us, f1, f2⟩ := fill_sound (c := c1) (fun i => some (i * inf.size, inf.size)) (parts.toList.map fun p => (p.1, ρ p.2)) ((ps.zip xs).map fun p => (p.1.1, p.1.2.1, p.2)) _ out _ (by simp [q1, hxl])
    (fun j p q hp hq => by
      simp only [List.getElem?_map, Option.map_eq_some_iff, List.getElem?_zip_eq_some] at hp hq
      obtain ⟨p0, hp0, rfl⟩ := hp
      obtain ⟨⟨q0, x0⟩, ⟨hq0, hx0⟩, rfl⟩ := hq
      refine ⟨(q2 j p0 q0 hp0 hq0).1, ?_⟩
      obtain ⟨u, hu, hr⟩ := a4.get j x0 hx0
      simp only [List.getElem?_map, hp0, Option.map_some, Option.some.injEq] at hu
      subst hu; exact hr) hzeros hf
  obtain ⟨c2, w', b1, b2, b3, b4⟩ := newRow_sat (P := P) a1 e f2 (one_of_rep f2 hone) (2 * out.length + 1) (elv_odd (by omega) _)
  rw [puts_next] at b4
  refine ⟨c2, w', .slice (some ⟨w.heap.size, 0, none⟩) n n, .inl ?_, ?_, b2, a2.trans b3⟩
  · have hc : P.cellsOf e = inf.size := by simp [Program.cellsOf, he]
    have hfill : Instr.fill (fun i => some (i * inf.size, inf.size)) ((Array.range (n * inf.size)).map (v.cells[· % v.cells.size]!)) (parts.map fun p => (p.1, ρ p.2)).toList = some us := by
      rw [show (parts.map fun p => (p.1, ρ p.2)).toList = parts.toList.map fun p => (p.1, ρ p.2) by simp]; exact f1
    have hnb : ¬ (n * inf.size > 2 ^ 24) := by simp; omega
    simp only [Array.toArray_toList] at b1
    have key : (Instr.buildSlice t n (parts.map fun p => (p.1, ρ p.2))).run P w = .ok (.slice (some ⟨w.heap.size, 0, none⟩) n n) w' := by
      by_cases h0 : n * inf.size = 0
      · have hn0 : n = 0 := by rcases Nat.mul_eq_zero.1 h0 with h | h <;> omega
        subst hn0
        have e0 : ((Array.range (0 * inf.size)).map (v.cells[· % v.cells.size]!)) = #[] := by simp
        rw [e0] at hfill
        simp only [Instr.buildSlice, Sem.run_bind, run_underlying ht, Result.andThen_ok, run_sizeOf w he, hc, Sem.run_ite, if_neg hnb, Sem.run_pure, h0, if_true]
        have e1 : ((Array.range 0).map ((#[] : Array Value)[· % (#[] : Array Value).size]!)) = #[] := by simp
        rw [e1, hfill]
        simp [b1]
      · simp only [Instr.buildSlice, Sem.run_bind, run_underlying ht, Result.andThen_ok, run_sizeOf w he, hc, Sem.run_ite, if_neg hnb, Sem.run_pure, if_neg h0, hrun]
        rw [hfill]
        simp [b1]
    simp only [execOp, ho, Sem.run_bind, key, Result.andThen_ok, Sem.run_pure]
  · simp only [Rep]
    have hol : us.toList.length = n * inf.size := by
      rw [f2.length]
      have : ∀ (l : List (Nat × Nat × AV)) (cs out : List AV), fillA cs l = some out → out.length = cs.length := by
        intro l
        induction l with
        | nil => intro cs out h; simp [fillA] at h; rw [h]
        | cons a r ih =>
          obtain ⟨o, z, x⟩ := a
          intro cs out h
          simp only [fillA] at h
          split at h
          · rename_i hc
            rw [ih _ _ h]
            simp; omega
          · simp at h
      rw [this _ _ _ hf]; simp [hl]
    exact ⟨w.heap.size, us.toList.length, n, b4, rfl, Nat.le_refl _, by rw [hol]; omega⟩
end
end Go.AX
/- Bytes and strings; make; append. -/
namespace Go.AX
open Go
section
variable {P : Program} {c : Ctx} {s : St} {w : World} {F : List AV} {ρ : Operand → Value} {o : Oper}
theorem bytesAV_rep (c : Ctx) : ∀ l : List UInt8, RepL c (bytesAV l) (l.map fun b => .int .u8 b.toNat)
  | [] => by simp [bytesAV, RepL]
  | b :: r => by
    have := bytesAV_rep c r
    simp only [bytesAV] at this
    simp only [bytesAV, List.map_cons, RepL]
    exact ⟨_, _, rfl, by simp [Rep], this⟩
theorem does_s2b (h : Sat c s w) {x : Operand} {t d e : TypeId} {l : List UInt8} (ho : o.op = .convert t d x) (hs : P.underlying t = some .string) (hd : P.underlying d = some (.slice e)) (he : P.underlying e = some (.int .u8))
    (hX : Rep c (.str l) (ρ x)) : Does P o ρ c s w (.sl s.next (2 * l.length + 1) 0 l.length 1) (s.push (.cells (2 * l.length + 1) (bytesAV l) false)) := by
  simp only [Rep] at hX
  let cap := (Question.appendCap l.length 0 e).cut (w.tape w.drawn (.appendCap l.length 0 e))
  have hcap : l.length ≤ cap := by simp [cap, Question.cut]
  let arr : Array Value := (l.toArray.map fun b => Value.int .u8 b.toNat) ++ Array.replicate (cap - l.length) (.int .u8 0)
  have harr : arr.size = cap := by simp [arr]; omega
  let w1 : World := { w with drawn := w.drawn + 1, heap := w.heap.push (.cells arr e) }
  let w2 : World := w1.freeze ⟨w.heap.size, cap, none⟩ 1
  have hw2 : w2.heap = w.heap.push (.cells arr e (cap, cap + 1)) := by
    simp only [w2, World.freeze, if_neg (show ¬ (1 : Nat) = 0 by omega)]
    apply Array.ext
    · simp [w1]
    · intro j h1 h2
      rw [Array.getElem_modify]
      · by_cases hj : w.heap.size = j
        · subst hj
          simp [w1]
        · have : j < w.heap.size := by simp at h2; omega
          simp [w1, Array.getElem_push, this]
          try (intro hh; omega)
  have hrun : (Conv.stringToBytes e ⟨l.toArray⟩).run P w = .ok (.slice (some ⟨w.heap.size, 0, none⟩) l.length cap) w2 := by
    have hsz : (ByteArray.mk l.toArray).size = l.length := rfl
    have hshape : w1.shape? w.heap.size = some (e, cap) := by simp [World.shape?, w1, harr]
    simp only [Conv.stringToBytes, Sem.run_bind, run_choose, Question.forced, Bool.false_eq_true, if_false, Result.andThen_ok, hsz]
    have e1 : (newRow e ((l.toArray.map fun b => Value.int .u8 b.toNat) ++ Array.replicate ((Question.appendCap l.length 0 e).cut (w.tape w.drawn (.appendCap l.length 0 e)) - l.length) (.int .u8 0))).run P { w with drawn := w.drawn + 1 } = .ok ⟨w.heap.size, 0, none⟩ w1 := rfl
    rw [e1]
    simp only [Result.andThen_ok, markStringish, Sem.run_bind, run_shape, hshape, run_freeze, Sem.run_pure]
    rfl
  obtain ⟨c', h1, h2, h3⟩ := h.alloc (w' := w2) (e' := 2 * l.length + 1) (cs' := bytesAV l) (arr' := arr) (el := e) (fr := (cap, cap + 1)) (elv_odd (by omega) _)
    (by rw [harr]; simpa [bytesAV] using hcap) (by rw [harr]; intros; simp; omega) (fun i y hy => by
      obtain ⟨u, hu, hr⟩ := (bytesAV_rep c l).get i y hy
      refine ⟨u, ?_, ?_, hr⟩
      · have hi : i < l.length := by have := (List.getElem?_eq_some_iff.1 hu).1; simpa using this
        simp only [arr]
        rw [Array.getElem?_append_left (by simpa using hi)]
        simpa using hu
      · simp only [List.getElem?_map, Option.map_eq_some_iff] at hu
        obtain ⟨b, _, rfl⟩ := hu; rfl) hw2 ⟨rfl, rfl, rfl⟩
  refine ⟨c', w2, .slice (some ⟨w.heap.size, 0, none⟩) l.length cap, .inl ?_, ?_, h1, h2⟩
  · simp [execOp, ho, hX, convert, run_underlying hs, run_underlying hd, run_underlying he, hrun]
  · simp only [Rep]
    exact ⟨_, _, cap, h3, rfl, hcap, by rw [harr]; omega⟩
theorem bytesOf_rep : ∀ {cs : List AV} {us : List Value} {l : List UInt8}, RepL c cs us → bytesOf cs = some l → ∃ ns : List Int, us = ns.map (Value.int .u8) ∧ l = ns.map fun n => UInt8.ofNat n.toNat
  | [], us, l, hr, h => by
    simp only [RepL] at hr; simp [bytesOf] at h; subst hr; subst h
    exact ⟨[], rfl, rfl⟩
  | x :: cs, us, l, hr, h => by
    unfold bytesOf at h
    split at h
    · rename_i e; simp at e
    · rename_i n r e
      simp only [List.cons.injEq] at e
      obtain ⟨rfl, rfl⟩ := e
      split at h
      · rename_i l' hl'
        simp at h; subst h
        simp only [RepL] at hr
        obtain ⟨u, us', rfl, r1, r2⟩ := hr
        obtain ⟨ns, e1, e2⟩ := bytesOf_rep r2 hl'
        simp only [Rep] at r1
        exact ⟨n :: ns, by simp [r1, e1], by simp [e2]⟩
      · simp at h
    · simp at h
theorem does_b2s (h : Sat c s w) {x : Operand} {t d e : TypeId} {X : AV} {n : Nat} {cs : List AV} {l : List UInt8} (ho : o.op = .convert t d x) (hs : P.underlying t = some (.slice e)) (hd : P.underlying d = some .string) (he : P.underlying e = some (.int .u8))
    (hX : Rep c X (ρ x)) (hr : rowOf s.get 1 X = some (n, cs)) (hl : bytesOf cs = some l) : Does P o ρ c s w (.str l) s := by
  obtain ⟨hlen, q, hq⟩ := row_cells h hr hX
  rcases hq with ⟨k, off, hx, hnq, us, hus, hc⟩ | ⟨rfl, rfl, a, hx⟩
  · obtain ⟨ns, rfl, rfl⟩ := bytesOf_rep hus hl
    have hnl : ns.length = n := by have := hus.length; simp at this; omega
    have hload := run_loadN (P := P) (w := w) (n := n) (by simp [hnl]) hc
    rw [List.take_of_length_le (by simp [hnl])] at hload
    refine Does.pure (u := .string ⟨(ns.map fun n => UInt8.ofNat n.toNat).toArray⟩) h ?_ (by simp [Rep])
    have key : (Conv.bytesToString (.slice (some ⟨k, off, none⟩) n q)).run P w = .ok (.string ⟨(ns.map fun n => UInt8.ofNat n.toNat).toArray⟩) w := by
      rw [run_bytesToString (P := P) w ⟨k, off, none⟩ n q ns hload]
      congr 3
      have : ∀ (l : List Int) (s : ByteArray), (l.foldl (fun r n => r.push (UInt8.ofNat n.toNat)) s).data.toList = s.data.toList ++ l.map fun n => UInt8.ofNat n.toNat := by
        intro l
        induction l with
        | nil => intro s; simp
        | cons a r ih => intro s; simp only [List.foldl_cons]; rw [ih]; simp [ByteArray.push]
      apply ByteArray.ext
      apply Array.ext'
      rw [this]; rfl
    simp [execOp, ho, hx, convert, run_underlying hs, run_underlying hd, run_underlying he, key]
  · simp [bytesOf] at hl; subst hl
    refine Does.pure (u := .string ⟨#[]⟩) h ?_ (by simp [Rep])
    cases a with
    | none => simp [execOp, ho, hx, convert, run_underlying hs, run_underlying hd, run_underlying he, Conv.bytesToString]; rfl
    | some a => simp [execOp, ho, hx, convert, run_underlying hs, run_underlying hd, run_underlying he, Conv.bytesToString, loadCells, loadCellsFrom]; rfl
theorem askRoom_run (n : Nat) (w : World) : (askRoom n).run P w = .ok () w := run_askRoom P w n
theorem does_mkslice (h : Sat c s w) {t e : TypeId} {x y : Operand} {z : List AV} {inf : TypeInfo} {L C : AV} {l k : Nat} (ho : o.op = .makeSlice t x y) (ht : P.underlying t = some (.slice e)) (hz : zeroP P e = some z) (he : P.info? e = some inf)
    (hL : Rep c L (ρ x)) (hC : Rep c C (ρ y)) (hl : asNat L = some l) (hk : asNat C = some k) (hlk : l ≤ k) (hb : k * inf.bytes ≤ 140737488355328) (hmax : k ≤ 9223372036854775807) (hpos : 0 < z.length) :
    Does P o ρ c s w (.sl s.next (2 * (l * z.length) + 1) 0 l z.length) (s.push (.cells (2 * (l * z.length) + 1) (List.replicate l z).flatten false)) := by
  obtain ⟨i, v, hi, hzv, hlz, hone0, hrep, hrun⟩ := zeroP_spec (P := P) (w := w) hz
  rw [he] at hi; cases hi
  obtain ⟨kl, hxl⟩ := asNat_eq hL hl
  obtain ⟨kc, hyc⟩ := asNat_eq hC hk
  let arr : Array Value := (Array.range (k * inf.size)).map (v.cells[· % v.cells.size]!)
  have harr : arr.size = k * inf.size := by simp [arr]
  have hsz : v.cells.size = inf.size := by have := (hrep c).length; simp at this; omega
  obtain ⟨c', h1, h2, h3⟩ := h.alloc (w' := { w with heap := w.heap.push (.cells arr e) }) (e' := 2 * (l * z.length) + 1) (cs' := (List.replicate l z).flatten) (arr' := arr) (el := e) (fr := (0, 0)) (elv_odd (by omega) _)
    (by rw [harr, ← hlz]; simp; exact Nat.mul_le_mul_right _ hlk) (by intros; omega) (fun j x hx => by
      have hj : j < l * z.length := by
        have := (List.getElem?_eq_some_iff.1 hx).1
        simpa using this
      have hx' : z[j % inf.size]? = some x := by
        have : ∀ (n j : Nat), j < n * inf.size → (List.replicate n z).flatten[j]? = z[j % inf.size]? := by
          intro n
          induction n with
          | zero => intro j hj; omega
          | succ n ih =>
            intro j hj
            rw [List.replicate_succ, List.flatten_cons]
            by_cases h1 : j < z.length
            · rw [List.getElem?_append_left h1, Nat.mod_eq_of_lt (by omega)]
            · rw [List.getElem?_append_right (by omega), ih _ (by rw [Nat.succ_mul] at hj; omega)]
              congr 1
              rw [hlz, Nat.mod_eq_sub_mod (a := j) (by omega)]
        rw [this l j (by rw [← hlz]; exact hj)] at hx
        exact hx
      obtain ⟨u2, h5, h6⟩ := (hrep c).get _ x hx'
      have hlt : j % inf.size < v.cells.size := by rw [hsz]; exact Nat.mod_lt _ (by omega)
      have hu2 : v.cells[j % v.cells.size]! = u2 := by
        rw [hsz, getElem!_pos v.cells _ hlt]
        have : v.cells[j % inf.size]? = some u2 := by simpa using h5
        rw [Array.getElem?_eq_getElem hlt] at this
        exact Option.some.inj this
      have hjk : j < k * inf.size := Nat.lt_of_lt_of_le (by rw [← hlz]; exact hj) (Nat.mul_le_mul_right _ hlk)
      refine ⟨u2, ?_, ?_, h6⟩
      · simp only [arr, Array.getElem?_map, Array.getElem?_range, hjk, if_true, Option.map_some]
        rw [hu2]
      · exact h6.one (hone0 x (List.mem_of_getElem? hx'))) rfl ⟨rfl, rfl, rfl⟩
  have hwr : ∀ n : Nat, n ≤ 9223372036854775807 → IntKind.i64.wrap (n : Int) = n := fun n hn => by
    simp [IntKind.wrap, IntKind.bits, IntKind.signed]; omega
  refine ⟨c', { w with heap := w.heap.push (.cells arr e) }, .slice (some ⟨w.heap.size, 0, none⟩) l k, .inl ?_, ?_, h1, h2⟩
  · have hlarge : ∀ n : Nat, n ≤ k → ¬ ((n : Int) < 0 ∨ (inf.bytes : Int) * n > 2 ^ 48) := fun n hn => by
      have h5 : n * inf.bytes ≤ k * inf.bytes := Nat.mul_le_mul_right _ hn
      have h6 : (inf.bytes : Int) * n = ((n * inf.bytes : Nat) : Int) := by rw [Nat.mul_comm]; simp
      rw [h6]
      omega
    have key : (Instr.makeSlice t (.int kl l) (.int kc k)).run P w = .ok (.slice (some ⟨w.heap.size, 0, none⟩) l k) { w with heap := w.heap.push (.cells arr e) } := by
      have g1 := hlarge k (Nat.le_refl _)
      have hnl : ¬ ((l : Int) > (k : Int)) := by omega
      simp only [Instr.makeSlice, Sem.run_bind, run_underlying ht, Result.andThen_ok, asInt, asIntOf, Sem.run_pure, run_typeInfo w he, hwr l (by omega), hwr k hmax]
      have hcond : ¬ (((decide ((k : Int) < 0) || decide ((inf.bytes : Int) * k > 2 ^ 48)) = true ∨ (l : Int) < 0) ∨ (l : Int) > (k : Int)) := by
        simp only [Bool.or_eq_true, decide_eq_true_eq]
        rintro ((h | h) | h)
        · exact g1 h
        · omega
        · omega
      rw [if_neg (by simpa [or_assoc] using hcond)]
      have hc : P.cellsOf e = inf.size := by simp [Program.cellsOf, he]
      simp only [Sem.run_bind, askRoom_run, Result.andThen_ok, run_sizeOf w he, Int.toNat_natCast, hc]
      by_cases h0 : k * inf.size = 0
      · simp only [h0, if_true, Sem.run_pure, Result.andThen_ok]
        have : arr = #[] := by apply Array.eq_empty_of_size_eq_zero; rw [harr, h0]
        rw [this]
        have e0 : Array.range 0 = #[] := rfl
        simp [newRow, e0]
      · simp only [if_neg h0, Sem.run_bind, hrun, Result.andThen_ok, Sem.run_pure]
        rfl
    simp [execOp, ho, hxl, hyc, key]
  · simp only [Rep]
    exact ⟨_, _, k, h3, rfl, hlk, by rw [harr, hlz]; omega⟩
end
end Go.AX
/- append. -/
namespace Go.AX
open Go
section
variable {P : Program} {c : Ctx} {s : St} {w : World} {F : List AV} {ρ : Operand → Value} {o : Oper}
structure Src (P : Program) (c : Ctx) (w : World) (z : Nat) (x : Value) (n : Nat) (xs : List AV) (us : List Value) : Prop where
  rep : RepL c xs us
  one : ∀ (j : Nat) (v : Value), us[j]? = some v → v.oneCell' = true
  len : ∀ w : World, (Builtin.lenOf x).run P w = .ok n w
  run : (Builtin.firstCells z n x).run P w = .ok us.toArray w
  run' : (Builtin.firstCells z n x).run P w.drew = .ok us.toArray w.drew
theorem src_row (h : Sat c s w) {z : Nat} {X : AV} {x : Value} {n : Nat} {cs : List AV} (hr : rowOf s.get z X = some (n, cs)) (hX : Rep c X x) : ∃ us, Src P c w z x n cs us := by
  obtain ⟨us, h1, h2, h3, h4⟩ := run_first (P := P) h hr hX
  have hd := (h.sameHeap (w' := w.drew) rfl ⟨rfl, rfl, rfl⟩).1
  obtain ⟨us', g1, g2, g3, g4⟩ := run_first (P := P) hd hr hX
  have : us' = us := by
    obtain ⟨hl, q, hq⟩ := row_cells h hr hX
    rcases hq with ⟨k, off, rfl, hnq, vs, hvs, hc⟩ | ⟨rfl, rfl, a, rfl⟩
    · have e1 := run_loadN (P := P) (w := w) (n := n * z) (by rw [hvs.length, hl]; exact Nat.le_refl _) hc
      have e2 := run_loadN (P := P) (w := w.drew) (n := n * z) (by rw [hvs.length, hl]; exact Nat.le_refl _) hc
      simp only [Builtin.firstCells] at h3 g3
      rw [e1] at h3; rw [e2] at g3
      simp at h3 g3
      rw [← h3, ← g3]
    · simp only [RepL] at h1 g1; rw [h1, g1]
  subst this
  refine ⟨us', h1, h2, fun w' => ?_, h3, g3⟩
  obtain ⟨hl, q, hq⟩ := row_cells h hr hX
  rcases hq with ⟨k, off, rfl, hnq, vs, hvs, hc⟩ | ⟨rfl, rfl, a, rfl⟩ <;> rfl
theorem src_str {l : List UInt8} {x : Value} (hX : Rep c (.str l) x) : Src P c w 1 x l.length (bytesAV l) (l.map fun b => .int .u8 b.toNat) := by
  simp only [Rep] at hX
  subst hX
  have run : ∀ w : World, (Builtin.firstCells 1 l.length (.string ⟨l.toArray⟩)).run P w = .ok (l.map fun b => Value.int .u8 b.toNat).toArray w := fun w => by
    simp [Builtin.firstCells, extract_list]
  refine ⟨bytesAV_rep c l, fun j v hv => ?_, fun w => rfl, run w, run w.drew⟩
  simp only [List.getElem?_map, Option.map_eq_some_iff] at hv
  obtain ⟨b, _, rfl⟩ := hv; rfl
structure AppTy (P : Program) (ats : Array TypeId) (e : TypeId) (inf : TypeInfo) (zv : Value) : Prop where
  t : ∃ t, ats[0]? = some t ∧ P.underlying t = some (.slice e)
  u : ∃ u, ats[1]? = some u ∧ ((∃ e2, P.underlying u = some (.slice e2)) ∨ P.underlying u = some .string)
  e : P.info? e = some inf
  zero : inf.zero = some zv
  zsize : zv.cells.size = inf.size
  bytes : 0 < inf.bytes
  size : 0 < inf.size
theorem run_app_room {ats : Array TypeId} {ty e : TypeId} {inf : TypeInfo} {zv x : Value} (ht : AppTy P ats e inf zv) {base : Option Addr} {m q n : Nat} {xs : List AV} {us : List Value} (hs : Src P c w inf.size x n xs us) (hroom : m + n ≤ q) :
    (Builtin.append_ ats ty #[.slice base m q, x]).run P w = match base with
      | none => .ok (.slice none (m + n) q) w
      | some a => ((storeCells (a.add (m * inf.size)) us).run P w).andThen fun _ w' => .ok (.slice (some a) (m + n) q) w' := by
  obtain ⟨t, h1, h2⟩ := ht.t
  obtain ⟨u, h3, h4⟩ := ht.u
  have hc : P.cellsOf e = inf.size := by simp [Program.cellsOf, ht.e]
  have hl := hs.len w
  have hr := hs.run
  rcases h4 with ⟨e2, h4⟩ | h4 <;> cases base <;>
    simp [Builtin.append_, h1, h3, run_underlying h2, run_underlying h4, run_sizeOf w ht.e, hc, hl, hroom, hr]
theorem run_app_grow {ats : Array TypeId} {ty e : TypeId} {inf : TypeInfo} {zv x : Value} (ht : AppTy P ats e inf zv) {base : Option Addr} {m q n : Nat} {xs : List AV} {us olds : List Value} (hs : Src P c w inf.size x n xs us)
    (hold : (Builtin.firstCells inf.size m (.slice base m q)).run P w.drew = .ok olds.toArray w.drew) (hno : ¬ m + n ≤ q) (hb : (m + n) * inf.bytes ≤ 140737488355328) :
    ∃ cap, m + n ≤ cap ∧ (Builtin.append_ ats ty #[.slice base m q, x]).run P w =
      .ok (.slice (some ⟨w.heap.size, 0, none⟩) (m + n) cap) (w.drew.alloc (.cells (olds.toArray ++ us.toArray ++ Builtin.zeroCells zv.cells (cap - (m + n))) e)) := by
  obtain ⟨t, h1, h2⟩ := ht.t
  obtain ⟨u, h3, h4⟩ := ht.u
  have hc : P.cellsOf e = inf.size := by simp [Program.cellsOf, ht.e]
  have hl := hs.len w
  have hr := hs.run'
  have hfit := growslice_fits (need := m + n) (old := q) (bytes := inf.bytes) (by omega) hb
  have hfit' : ¬ (Builtin.nextslicecap (m + n) q * inf.bytes > 2 ^ 48) := by simp; omega
  have hb0 : ¬ inf.bytes = 0 := by have := ht.bytes; omega
  refine ⟨(Question.appendCap (m + n) q e).cut (w.tape w.drawn (.appendCap (m + n) q e)), by simp [Question.cut], ?_⟩
  have hzv : ∀ w : World, (zeroValue e).run P w = .ok zv w := fun w => by simp [zeroValue, run_typeInfo w ht.e, ht.zero]
  have hdrew : ({ w with drawn := w.drawn + 1 } : World) = w.drew := rfl
  rcases h4 with ⟨e2, h4⟩ | h4
  all_goals
   simp only [Builtin.append_, h1, h3, Sem.run_bind, run_underlying h2, run_underlying h4, Result.andThen_ok, run_sizeOf w ht.e, hc, Sem.run_pure, Bool.false_eq_true, if_false, hl, Bool.not_false, if_true, Sem.run_ite, if_neg hno, false_or, run_typeInfo w ht.e, hb0, and_false, if_neg hfit', run_choose, Question.forced,
    run_askRoom, hdrew, run_typeInfo w.drew ht.e, hold, hr, hzv, List.getElem?_toArray, List.getElem?_cons_zero, List.getElem?_cons_succ]
   rfl
theorem size_zc (z : Array Value) (n : Nat) : (Builtin.zeroCells z n).size = n * z.size := by simp [Builtin.zeroCells]
theorem grown_rep {m n cap : Nat} {cs xs : List AV} {olds us : List Value} {zv : Value} (h1 : RepL c cs olds) (h2 : RepL c xs us) (o1 : ∀ (j : Nat) (v : Value), olds[j]? = some v → v.oneCell' = true) (o2 : ∀ (j : Nat) (v : Value), us[j]? = some v → v.oneCell' = true)
    (i : Nat) (x : AV) (hx : (cs ++ xs)[i]? = some x) : ∃ u, (olds.toArray ++ us.toArray ++ Builtin.zeroCells zv.cells (cap - (m + n)))[i]? = some u ∧ u.oneCell' = true ∧ Rep c x u := by
  have hr := h1.append h2
  obtain ⟨u, hu, hru⟩ := hr.get i x hx
  have hi : i < (olds ++ us).length := (List.getElem?_eq_some_iff.1 hu).1
  refine ⟨u, ?_, ?_, hru⟩
  · rw [Array.getElem?_append_left (by simpa using hi)]
    simpa using hu
  · rcases Nat.lt_or_ge i olds.length with h | h
    · rw [List.getElem?_append_left h] at hu; exact o1 i u hu
    · rw [List.getElem?_append_right h] at hu; exact o2 _ u hu
theorem app_sound (h : Sat c s w) {ats : Array TypeId} {ty e : TypeId} {inf : TypeInfo} {zv x : Value} (ht : AppTy P ats e inf zv) {S v : AV} {sv : Value} {n : Nat} {xs : List AV} {us : List Value} (hS : Rep c S sv) (hs : Src P c w inf.size x n xs us)
    {str : Bool} (hstr : str = true → e = gB) {ps : List (Nat × Obj)} {qs : List Obj} (hv : appA str inf.size inf.bytes s.get s.next S n xs = some (v, ps, qs)) :
    ∃ c' w' u, (Builtin.append_ ats ty #[sv, x]).run P w = .ok u w' ∧ Rep c' v u ∧ Sat c' (s.apply ps qs) w' ∧ Ext c s w c' (s.apply ps qs) w' := by
  unfold appA at hv
  split at hv
  · -- nothing is appended
    rename_i h0; subst h0
    have key : ∀ (base : Option Addr) (m q : Nat), sv = .slice base m q → m ≤ q → us = [] → v = S → ps = [] → qs = [] →
        ∃ c' w' u, (Builtin.append_ ats ty #[sv, x]).run P w = .ok u w' ∧ Rep c' v u ∧ Sat c' (s.apply ps qs) w' ∧ Ext c s w c' (s.apply ps qs) w' := by
      intro base m q e1 hmq e2 e3 e4 e5
      subst e1; subst e2; subst e3; subst e4; subst e5
      have hr := run_app_room (ty := ty) ht hs (base := base) (m := m) (q := q) (by omega)
      refine ⟨c, w, .slice base m q, ?_, hS, h, Ext.refl _ _ _⟩
      rw [hr]
      cases base with
      | none => rfl
      | some a => rfl
    have hus : us = [] := by
      have h1 := hs.run
      have h2 := hs.len w
      cases x with
      | slice a l q =>
        simp [Builtin.lenOf] at h2; subst h2
        cases a <;> simp [Builtin.firstCells, loadCells, loadCellsFrom] at h1 <;> exact h1
      | string b =>
        simp [Builtin.firstCells] at h1
        exact h1
      | _ => simp [Builtin.lenOf] at h2
    cases S <;> simp only [isSlc, Bool.false_eq_true, if_false, if_true, Option.some.injEq, Prod.mk.injEq, reduceCtorEq] at hv <;> obtain ⟨e3, e4, e5⟩ := hv
    case nils => simp only [Rep] at hS; exact key none 0 0 hS (Nat.le_refl _) hus e3.symm e4.symm e5.symm
    case sl b e' O m z =>
      have hS' := hS
      simp only [Rep] at hS'
      obtain ⟨k, sz, q, _, h2, h3, _⟩ := hS'
      exact key _ _ _ h2 h3 hus e3.symm e4.symm e5.symm
    case ps m cs =>
      have hS' := hS
      simp only [Rep] at hS'
      rcases hS' with ⟨h1, _, a, q, h2⟩ | ⟨k, off, q, h2, h3, _⟩
      · exact key _ _ _ h2 (Nat.zero_le _) hus e3.symm e4.symm e5.symm
      · exact key _ _ _ h2 h3 hus e3.symm e4.symm e5.symm
  · rename_i h0
    split at hv
    · rename_i hxl
      obtain ⟨hxl, hpos⟩ := hxl
      have hul : us.length = xs.length := hs.rep.length
      have hd := h.sameHeap (w' := w.drew) rfl ⟨rfl, rfl, rfl⟩
      cases S <;> simp only [reduceCtorEq] at hv
      case nils =>
        split at hv
        · rename_i hb
          simp only [Option.some.injEq, Prod.mk.injEq] at hv
          obtain ⟨rfl, rfl, rfl⟩ := hv
          simp only [Rep] at hS
          subst hS
          obtain ⟨cap, hcap, hr⟩ := run_app_grow (ty := ty) ht hs (base := none) (m := 0) (q := 0) (olds := []) (by simp [Builtin.firstCells]) (by omega) (by simpa using hb)
          simp only [Nat.zero_add] at hcap hr
          have hsz : ((([] : List Value).toArray ++ us.toArray ++ Builtin.zeroCells zv.cells (cap - n))).size = cap * inf.size := by
            simp only [List.size_toArray, Array.size_append, size_zc, ht.zsize, List.length_nil, hul, hxl]
            rw [Nat.zero_add, ← Nat.add_mul]; congr 1; omega
          obtain ⟨c', g1, g2, g3⟩ := hd.1.alloc (w' := w.drew.alloc (.cells (([] : List Value).toArray ++ us.toArray ++ Builtin.zeroCells zv.cells (cap - n)) e)) (e' := firstV str xs.length) (cs' := xs)
            (arr' := ([] : List Value).toArray ++ us.toArray ++ Builtin.zeroCells zv.cells (cap - n)) (el := e) (fr := (0, 0)) (by
              have hp : 0 < xs.length := by have := Nat.mul_pos (show 0 < n by omega) ‹0 < inf.size›; omega
              unfold firstV; split
              · rename_i hh; rw [elv_even (by omega) (by omega), hstr hh]
              · exact elv_odd (by omega) _) (by rw [hsz, hxl]; exact Nat.mul_le_mul_right _ hcap) (by intros; omega)
            (fun i y hy => by
              have := grown_rep (c := c) (m := 0) (n := n) (cap := cap) (zv := zv) (cs := []) (olds := []) (by simp [RepL]) hs.rep (by simp) hs.one i y (by simpa using hy)
              simpa using this) rfl ⟨rfl, rfl, rfl⟩
          refine ⟨c', _, _, hr, ?_, g1, hd.2.trans g2⟩
          simp only [Rep]
          exact ⟨_, _, cap, g3, rfl, hcap, by rw [hsz]; omega⟩
        · simp at hv
      case sl b E O m z' =>
        split at hv
        · rename_i e' cs sn hg
          split at hv
          · rename_i hc
            obtain ⟨rfl, rfl, rfl, hmz, hseen, hb⟩ := hc
            simp only [Option.some.injEq, Prod.mk.injEq] at hv
            obtain ⟨rfl, rfl, rfl⟩ := hv
            have hS' := hS
            simp only [Rep] at hS'
            obtain ⟨k, sz, q, hσ, rfl, hmq, hsz⟩ := hS'
            obtain ⟨k', zz, arr, el, fr, b1, b2, b3, b4, b5, b6, b7⟩ := h.block hg
            rw [hσ] at b1; simp only [Option.some.injEq, Prod.mk.injEq] at b1; obtain ⟨rfl, rfl⟩ := b1
            have hrow : rowOf s.get inf.size (.sl b E 0 m inf.size) = some (m, cs.take (m * inf.size)) := by
              simp [rowOf, hg, hmz]
            by_cases hroom : m + n ≤ q
            · have hr := run_app_room (ty := ty) ht hs (base := some ⟨k, 0, none⟩) (m := m) (q := q) hroom
              have hfit : m * inf.size + us.length ≤ arr.size := by
                rw [b3, ← hsz, hul, hxl, ← Nat.add_mul, Nat.zero_add]; exact Nat.mul_le_mul_right _ hroom
              obtain ⟨w', e1, e2, e3⟩ := run_storeC (P := P) k (m * inf.size) el fr us 0 arr w b2 (by rw [b3]; exact b5) (by simpa using hfit) (fun v hv => by
                obtain ⟨j, hj, rfl⟩ := List.getElem_of_mem hv
                exact hs.one j _ (by simp [hj]))
              simp only [Nat.add_zero] at e2
              obtain ⟨c', q1, q2, q3, q4⟩ := h.inPlace (w' := w') hg hσ b2 (e' := nextV str E (m * inf.size + xs.length)) (cs' := cs.take (m * inf.size) ++ xs) (seen' := sn)
                (arr' := (arr.toList.take (m * inf.size) ++ us ++ arr.toList.drop (m * inf.size + us.length)).toArray)
                (by rw [← b3]; simp only [List.size_toArray, List.length_append, List.length_take, List.length_drop, Array.length_toList]; omega)
                (by simp only [List.length_append, List.length_take]; omega)
                (fun i y hy => by
                  have := over_rep (c := c) (cs := cs.take (m * inf.size)) (xs := xs) (arr := arr) (us := us) (O := m * inf.size) (fun i y hy => by
                    have hi : i < m * inf.size := by
                      have := (List.getElem?_eq_some_iff.1 hy).1
                      simp at this; omega
                    rw [List.getElem?_take_of_lt hi] at hy
                    exact b6 i y hy) (by rw [← hul]; exact hfit) (by simp; omega) hs.rep hs.one i y (by
                      rw [List.drop_of_length_le (by simp; omega), List.append_nil, List.take_take, Nat.min_self]; exact hy)
                  exact this)
                (fun i u hu => by
                  rw [b7] at hu
                  split at hu
                  · rename_i hcc
                    obtain ⟨hsn, hi⟩ := hcc
                    have hml : m * inf.size = cs.length := hseen.resolve_left (by simp [hsn])
                    refine ⟨hsn, by simp; omega, ?_⟩
                    simp only [List.getElem?_toArray]
                    rw [List.append_assoc, List.getElem?_append_left (by simp; omega), List.getElem?_take_of_lt (by omega)]
                    simpa using hu
                  · simp at hu) (.inr (nextV_lt _ _ _)) (fun el => by
                  unfold nextV; split
                  · rename_i hh; rw [elv_even hh.2.1 hh.2.2, elv_even (by omega) (by omega)]
                  · exact elv_odd (by omega) _) e2 e3
              refine ⟨c', w', .slice (some ⟨k, 0, none⟩) (m + n) q, ?_, ?_, q1, q2⟩
              · rw [hr]
                simp only [add_at, Nat.zero_add, e1, Result.andThen_ok]
              · simp only [Rep]
                exact ⟨k, sz, q, q3, rfl, hroom, hsz⟩
            · have hrow' := row_cells h hrow hS
              obtain ⟨olds, o1, o2, o3, o4⟩ := run_first (P := P) hd.1 hrow hS
              obtain ⟨cap, hcap, hr⟩ := run_app_grow (ty := ty) ht hs (base := some ⟨k, 0, none⟩) (m := m) (q := q) (olds := olds) o3 hroom hb
              have hol : olds.length = m * inf.size := by rw [o1.length]; simp; omega
              have hsz2 : ((olds.toArray ++ us.toArray ++ Builtin.zeroCells zv.cells (cap - (m + n)))).size = cap * inf.size := by
                simp only [List.size_toArray, Array.size_append, size_zc, ht.zsize, hul, hxl, hol]
                rw [← Nat.add_mul, ← Nat.add_mul]; congr 1; omega
              obtain ⟨c', g1, g2, g3⟩ := hd.1.regrow (w' := w.drew.alloc (.cells (olds.toArray ++ us.toArray ++ Builtin.zeroCells zv.cells (cap - (m + n))) e)) hg (e' := nextV str E (m * inf.size + xs.length))
                (cs' := cs.take (m * inf.size) ++ xs) (seen' := sn) (arr' := olds.toArray ++ us.toArray ++ Builtin.zeroCells zv.cells (cap - (m + n))) (el := e) (fr := (0, 0))
                (by rw [hsz2]; simp only [List.length_append, List.length_take, hxl]; rw [Nat.min_eq_left hmz, ← Nat.add_mul]; exact Nat.mul_le_mul_right _ hcap) (by intros; omega)
                (fun i y hy => grown_rep (c := c) (m := m) (n := n) (cap := cap) (zv := zv) o1 hs.rep o2 hs.one i y hy) (nextV_lt _ _ _) (by
                  unfold nextV; split
                  · rename_i hh; rw [elv_even (by omega) (by omega), hstr hh.1]
                  · exact elv_odd (by omega) _) rfl ⟨rfl, rfl, rfl⟩
              refine ⟨c', _, _, hr, ?_, g1, hd.2.trans g2⟩
              simp only [Rep]
              exact ⟨_, _, cap, g3, rfl, hcap, by rw [hsz2]; omega⟩
          · simp at hv
        · simp at hv
    · simp at hv
end
end Go.AX
/- Ranges over texts, maps, clear, the search for a byte. -/
namespace Go.AX
open Go
theorem getB_list (l : List UInt8) (i : Nat) : (ByteArray.mk l.toArray).get! i = l.getD i 0 := by
  show l.toArray[i]! = _
  simp only [Array.getElem!_eq_getD, Array.getD_eq_getD_getElem?, List.getD_eq_getElem?_getD]
  simp
  rfl
theorem decode_list (l : List UInt8) (p : Nat) : Utf8.decode ⟨l.toArray⟩ p = decL (l.drop p) := by
  have e0 : ∀ k, ((ByteArray.mk l.toArray).get! (p + k)).toNat = ((l.drop p).getD k 0).toNat := fun k => by
    rw [getB_list]
    simp [List.getD_eq_getElem?_getD, List.getElem?_drop]
  have e1 : ∀ k, decide (p + k < (ByteArray.mk l.toArray).size) = decide (k < (l.drop p).length) := fun k => by
    have : (ByteArray.mk l.toArray).size = l.length := rfl
    rw [this, List.length_drop]
    by_cases h : p + k < l.length
    · rw [decide_eq_true h, decide_eq_true (by omega)]
    · rw [decide_eq_false h, decide_eq_false (by omega)]
  unfold Utf8.decode decL
  simp only [e0, e1, Utf8.runeError]
section
variable {P : Program} {c : Ctx} {s : St} {w : World} {F : List AV} {ρ : Operand → Value} {o : Oper}
theorem does_rng (h : Sat c s w) {x : Operand} {t : TypeId} {l : List UInt8} (ho : o.op = .range t x) (ht : P.underlying t = some .string) (hX : Rep c (.str l) (ρ x)) :
    Does P o ρ c s w (.ptr s.next 0 0) (s.push (.iter l 0)) := by
  simp only [Rep] at hX
  obtain ⟨c', a1, a2, a3⟩ := h.allocO (w' := { w with heap := w.heap.push (.stringIter ⟨l.toArray⟩ 0) }) (o' := .iter l 0) (O := .stringIter ⟨l.toArray⟩ 0) rfl
    (fun c' _ hs hm => ⟨_, _, hs, by simp, hm⟩) rfl ⟨rfl, rfl, rfl⟩
  refine ⟨c', { w with heap := w.heap.push (.stringIter ⟨l.toArray⟩ 0) }, .pointer (some ⟨w.heap.size, 0, none⟩), .inl ?_, ?_, a1, a2⟩
  · simp [execOp, ho, hX, Instr.range, run_underlying ht]
  · simp only [Rep]; exact ⟨_, _, a3, rfl⟩
theorem does_nxt (h : Sat c s w) {x : Operand} {b p : Nat} {l : List UInt8} (ho : o.op = .next x true) (hX : Rep c (.ptr b 0 0) (ρ x)) (hg : s.get b = some (.iter l p)) :
    (p < l.length → Does P o ρ c s w (.tup [.bool true, .int .i64 p, .int .i32 (decL (l.drop p)).1]) (s.put b (.iter l (p + (decL (l.drop p)).2)))) ∧
    (¬ p < l.length → Does P o ρ c s w (.tup [.bool false]) s) := by
  simp only [Rep] at hX
  obtain ⟨k, z, hσ, hx⟩ := hX
  obtain ⟨k', z', g1, g2, g3⟩ := h.obj b _ hg
  rw [hσ] at g1; simp only [Option.some.injEq, Prod.mk.injEq] at g1; obtain ⟨rfl, rfl⟩ := g1
  have hsz : (ByteArray.mk l.toArray).size = l.length := rfl
  have hobj : (getObj k).run P w = .ok (.stringIter ⟨l.toArray⟩ p) w := by simp [getObj, Sem.run, g2]
  have hset : ∀ O, (setObj k O).run P w = .ok () { w with heap := w.heap.setIfInBounds k O } := fun O => by simp [setObj, Sem.run, g2]
  refine ⟨fun hp => ?_, fun hp => ?_⟩
  · obtain ⟨a1, a2⟩ := h.setO (w' := { w with heap := w.heap.setIfInBounds k (.stringIter ⟨l.toArray⟩ (p + (decL (l.drop p)).2)) }) (o' := .iter l (p + (decL (l.drop p)).2)) (O := .stringIter ⟨l.toArray⟩ (p + (decL (l.drop p)).2)) hg rfl rfl hσ g3
      (fun ho => ⟨k, z, hσ, ho, g3⟩) rfl ⟨rfl, rfl, rfl⟩
    refine ⟨c, { w with heap := w.heap.setIfInBounds k (.stringIter ⟨l.toArray⟩ (p + (decL (l.drop p)).2)) }, .tuple #[.bool true, goInt p, .int .i32 (decL (l.drop p)).1], .inl ?_, ?_, a1, a2⟩
    · simp [execOp, ho, hx, Instr.next, hobj, hset, hsz, hp, decode_list]
    · simp [Rep, RepL, goInt]
  · refine Does.pure (u := .tuple #[.bool false]) h ?_ (by simp [Rep, RepL])
    simp [execOp, ho, hx, Instr.next, hobj, hsz, hp]
theorem does_i2s (h : Sat c s w) {x : Operand} {t d : TypeId} {k k0 : IntKind} {n : Int} (ho : o.op = .convert t d x) (hs : P.underlying t = some (.int k0)) (hd : P.underlying d = some .string)
    (hX : Rep c (.int k n) (ρ x)) : Does P o ρ c s w (.str (encL n)) s := by
  simp only [Rep] at hX
  refine Does.pure (u := .string (Utf8.encode n)) h (by simp [execOp, ho, hX, convert, run_underlying hs, run_underlying hd, Conv.intToString]) ?_
  simp [Rep, encL]
theorem does_mkmap (h : Sat c s w) {t : TypeId} (ho : o.op = .makeMap t none) : Does P o ρ c s w (.map s.next) (s.push (.map [])) := by
  obtain ⟨c', a1, a2, a3⟩ := h.allocO (w' := { w with heap := w.heap.push (.map #[] 0) }) (o' := .map []) (O := .map #[] 0) rfl
    (fun c' _ hs hm => ⟨_, _, #[], 0, hs, by simp, by simp [RepE], hm⟩) rfl ⟨rfl, rfl, rfl⟩
  refine ⟨c', { w with heap := w.heap.push (.map #[] 0) }, .map (some w.heap.size), .inl ?_, ?_, a1, a2⟩
  · simp [execOp, ho, Instr.makeMap]
  · simp only [Rep]; exact ⟨_, _, a3, rfl⟩
theorem findAsking_sound {kt : TypeId} {tr : EqT} {d : Nat} (htr : eqP P d kt false = some tr) (hd : d ≤ Op.maxDepth) {K : AV} {kv : Value} (hK : Rep c K kv) :
    ∀ (es : List (AV × AV)) (mes : List MapEntry) (i : Nat) (r : Option (Nat × AV × AV)), RepE c es mes → mfind tr K es i = some r →
      (r = none ∧ (Instr.findAsking kt kv mes i).run P w = .ok none w) ∨
      (∃ j k' v e, r = some (j, k', v) ∧ i ≤ j ∧ mes[j - i]? = some e ∧ es[j - i]? = some (k', v) ∧ Rep c k' e.key ∧ Rep c v e.val ∧ (Instr.findAsking kt kv mes i).run P w = .ok (some (j, e.val)) w)
  | [], mes, i, r, hE, hr => by
    simp only [RepE] at hE; subst hE
    simp [mfind] at hr; subst hr
    exact .inl ⟨rfl, by simp [Instr.findAsking]⟩
  | (k', v) :: es, mes, i, r, hE, hr => by
    simp only [RepE] at hE
    obtain ⟨e, mes', rfl, h1, h2, h3⟩ := hE
    simp only [mfind] at hr
    split at hr
    · rename_i he
      simp at hr; subst hr
      have := eqv_sound d kt false tr K k' kv e.key true htr hK h1 he Op.maxDepth hd (P := P) (w := w)
      refine .inr ⟨i, k', v, e, rfl, Nat.le_refl _, by simp, by simp, h1, h2, ?_⟩
      simp [Instr.findAsking, Op.equal, this]
    · rename_i he
      have := eqv_sound d kt false tr K k' kv e.key false htr hK h1 he Op.maxDepth hd (P := P) (w := w)
      have hrun : (Instr.findAsking kt kv (e :: mes') i).run P w = (Instr.findAsking kt kv mes' (i + 1)).run P w := by
        simp [Instr.findAsking, Op.equal, this]
      rcases findAsking_sound htr hd hK es mes' (i + 1) r h3 hr with ⟨rfl, hh⟩ | ⟨j, k2, v2, e2, rfl, hj, he1, he2, h4, h5, hh⟩
      · exact .inl ⟨rfl, by rw [hrun]; exact hh⟩
      · refine .inr ⟨j, k2, v2, e2, rfl, by omega, ?_, ?_, h4, h5, by rw [hrun]; exact hh⟩
        · rw [show j - i = (j - (i + 1)) + 1 by omega]; simpa using he1
        · rw [show j - i = (j - (i + 1)) + 1 by omega]; simpa using he2
    · simp at hr
theorem findNow_asking {kt : TypeId} {d : TypeDesc} (hu : P.underlying kt = some d) {kv : Value} : ∀ (es : List MapEntry) (i : Nat) (r : Option (Nat × Value)), Instr.findNow d kv es i = some r → (Instr.findAsking kt kv es i).run P w = .ok r w
  | [], i, r, h => by
    simp [Instr.findNow] at h; subst h; simp [Instr.findAsking]
  | e :: es, i, r, h => by
    simp only [Instr.findNow] at h
    have key : ∀ b, Instr.sameNow d kv e.key = some b → (Op.equal kt kv e.key).run P w = .ok b w := fun b hb => by
      unfold Instr.sameNow at hb
      split at hb
      · split at hb
        · rename_i heq hk; subst hk; simp at hb; subst hb; rw [heq]; exact run_equalIn_int w _ kt _ _ _ _ hu
        · simp at hb
      · rename_i heq; simp at hb; subst hb; rw [heq, beq_toListBytes]; exact run_equalIn_string w _ kt _ _ hu
      · rename_i heq; simp at hb; subst hb; rw [heq]; exact run_equalIn_bool' w _ kt _ _ hu
      · simp at hb
    split at h
    · rename_i hs; simp at h; subst h; simp [Instr.findAsking, key _ hs]
    · rename_i hs; simp only [Instr.findAsking, Sem.run_bind, key _ hs, Result.andThen_ok, Bool.false_eq_true, if_false]; exact findNow_asking hu es (i + 1) r h
    · simp at h
theorem findKey_of {kt : TypeId} {d : TypeDesc} (hu : P.underlying kt = some d) {kv : Value} {es : List MapEntry} {r : Option (Nat × Value)} (h : (Instr.findAsking kt kv es).run P w = .ok r w) : (Instr.findKey kt kv es).run P w = .ok r w := by
  simp only [Instr.findKey, Sem.run_bind, run_underlying hu, Result.andThen_ok]
  split
  · rename_i r' hr
    have := findNow_asking (P := P) (w := w) hu es 0 r' hr
    rw [this] at h; simp at h; simp [h]
  · exact h
theorem check_fields {em : Bool} {n : Nat} {xs : List AV} {us : List Value} (hx : RepL c xs us) : ∀ (fs : List Field) (l : List (Nat × Option Nat × EqT)) (d : Nat), (fs.all fun f => match P.underlying f.type with | some (.int _) | some .string => true | _ => false) = true → eqFields P (fun u => eqP P d u false) fs = some l → (∃ b, eqvs l xs xs = some b) →
    (forIn fs PUnit.unit fun f (__s : PUnit) => if f.name ≠ "_" then (do
      let x ← part f.type us.toArray f.offset
      Instr.checkKey em (n + 1) f.type x
      pure (ForInStep.yield PUnit.unit) : Sem (ForInStep PUnit)) else pure (ForInStep.yield PUnit.unit)).run P w = .ok PUnit.unit w
  | [], l, d, _, _, _ => by simp
  | f :: fs, l, d, hall, hl, hb => by
    simp only [List.all_cons, Bool.and_eq_true] at hall
    simp only [eqFields] at hl
    split at hl
    · simp at hl
    · rename_i hname
      split at hl
      · rename_i tr q l' h1 h2 h3
        simp at hl; subst hl
        obtain ⟨b, hb⟩ := hb
        simp only [eqvs] at hb
        split at hb
        · rename_i a a' ha ha'
          split at hb
          · rename_i p q' hp hq'
            obtain ⟨u, hu1, hu2⟩ := run_part (w := w) h2 hx ha
            have ih := check_fields (em := em) (n := n) hx fs l' d hall.2 h3 ⟨_, hq'⟩
            have hck : (Instr.checkKey em (n + 1) f.type u).run P w = .ok () w := by
              have := hall.1
              split at this
              · rename_i hk; simp [Instr.checkKey, run_underlying hk]
              · rename_i hk; simp [Instr.checkKey, run_underlying hk]
              · simp at this
            simp only [List.forIn_cons, Sem.run_bind, ne_eq, hname, not_false_eq_true, if_true, hu1, Result.andThen_ok, hck, Sem.run_pure]
            exact ih
          · simp at hb
        · simp at hb
      · simp at hl
theorem check_cells {em : Bool} {n : Nat} {xs : List AV} {us : List Value} (hx : RepL c xs us) {e : TypeId} {q : Option Nat} {z : Nat} {tr : EqT} (hq : nP P e = some q) (hz : (Go.sizeOf e).run P w = .ok z w) (hk : (∃ k, P.underlying e = some (.int k)) ∨ P.underlying e = some .string) : ∀ (L : List Nat), (∃ b, eqvs (L.map fun i => (i * z, q, tr)) xs xs = some b) →
    (forIn L PUnit.unit fun i (__s : PUnit) => (do
      let s ← Go.sizeOf e
      let x ← part e us.toArray (i * s)
      Instr.checkKey em (n + 1) e x
      pure (ForInStep.yield PUnit.unit) : Sem (ForInStep PUnit))).run P w = .ok PUnit.unit w
  | [], _ => by simp
  | i :: L, hb => by
    obtain ⟨b, hb⟩ := hb
    simp only [List.map_cons, eqvs] at hb
    split at hb
    · rename_i a a' ha ha'
      split at hb
      · rename_i p q' hp hq'
        obtain ⟨u, hu1, hu2⟩ := run_part (w := w) hq hx ha
        have ih := check_cells (em := em) (n := n) hx (tr := tr) hq hz hk L ⟨_, hq'⟩
        have hck : (Instr.checkKey em (n + 1) e u).run P w = .ok () w := by
          rcases hk with ⟨k, hk⟩ | hk <;> simp [Instr.checkKey, run_underlying hk]
        simp only [List.forIn_cons, Sem.run_bind, hz, hu1, Result.andThen_ok, hck, Sem.run_pure]
        exact ih
      · simp at hb
    · simp at hb
theorem run_checkKey {kt : TypeId} {tr : EqT} {K : AV} {kv : Value} (htr : keyP P kt = some tr) (hK : Rep c K kv) (hkk : eqv tr K K = some true) (em : Bool) (n : Nat) : (Instr.checkKey em (n + 2) kt kv).run P w = .ok () w ∧ (∃ d, d ≤ Op.maxDepth ∧ eqP P d kt false = some tr) ∧ ∃ d, P.underlying kt = some d := by
  unfold keyP at htr
  split at htr
  · rename_i k hu
    simp at htr; subst htr
    exact ⟨by simp [Instr.checkKey, run_underlying hu], ⟨1, by simp [Op.maxDepth], by simp [eqP, hu]⟩, _, hu⟩
  · rename_i hu
    simp at htr; subst htr
    exact ⟨by simp [Instr.checkKey, run_underlying hu], ⟨1, by simp [Op.maxDepth], by simp [eqP, hu]⟩, _, hu⟩
  · rename_i fs hu
    split at htr
    · rename_i hall
      refine ⟨?_, ⟨2, by simp [Op.maxDepth], htr⟩, _, hu⟩
      unfold eqP at htr
      rw [hu] at htr
      simp only at htr
      split at htr
      · simp at htr
      · split at htr
        · rename_i l hl
          simp at htr; subst htr
          simp only [eqv] at hkk
          split at hkk
          · rename_i xs ys
            simp only [Rep] at hK
            obtain ⟨us, rfl, hx⟩ := hK
            unfold Instr.checkKey
            simp only [Sem.run_bind, run_underlying hu, Result.andThen_ok]
            have := check_fields (P := P) (w := w) (em := em) (n := n) hx fs.toList l 1 hall hl ⟨_, hkk⟩
            rw [← Array.forIn_toList, this]
            rfl
          · simp at hkk
        · simp at htr
    · simp at htr
  · rename_i len e hu
    have hk : (∃ k, P.underlying e = some (.int k)) ∨ P.underlying e = some .string := by
      split at htr
      · rename_i k hk; exact .inl ⟨k, hk⟩
      · rename_i hk; exact .inr hk
      · simp at htr
    have htr : eqP P 2 kt false = some tr := by
      split at htr
      · exact htr
      · exact htr
      · simp at htr
    refine ⟨?_, ⟨2, by simp [Op.maxDepth], htr⟩, _, hu⟩
    unfold eqP at htr
    rw [hu] at htr
    simp only at htr
    split at htr
    · rename_i x q z h1 hq hz
      simp at htr; subst htr
      simp only [eqv] at hkk
      split at hkk
      · rename_i xs ys
        simp only [Rep] at hK
        obtain ⟨us, rfl, hx⟩ := hK
        unfold Instr.checkKey
        simp only [Sem.run_bind, run_underlying hu, Result.andThen_ok]
        obtain ⟨inf, hi, rfl⟩ : ∃ inf, P.info? e = some inf ∧ inf.size = z := by
          simp only [szP] at hz
          cases hi : P.info? e with
          | none => rw [hi] at hz; simp at hz
          | some inf => rw [hi] at hz; simp at hz; exact ⟨inf, rfl, hz⟩
        have := check_cells (P := P) (w := w) (em := em) (n := n) hx (tr := x) hq (z := inf.size) (by simp [Go.sizeOf, run_typeInfo w hi]) hk (List.range len) ⟨_, hkk⟩
        rw [Std.Legacy.Range.forIn_eq_forIn_range']
        simp only [Std.Legacy.Range.size, Nat.sub_zero, Nat.add_sub_cancel, Nat.div_one, Nat.add_one_sub_one]
        rw [← List.range_eq_range']
        rw [this]
        rfl
      · simp at hkk
    · simp at htr
  · simp at htr
theorem run_find {kt : TypeId} {tr : EqT} {K : AV} {kv : Value} (htr : keyP P kt = some tr) (hK : Rep c K kv) (hkk : eqv tr K K = some true) {es : List (AV × AV)} {mes : List MapEntry} (hE : RepE c es mes) {r : Option (Nat × AV × AV)} (hr : mfind tr K es 0 = some r) :
    (r = none ∧ (Instr.findKey kt kv mes).run P w = .ok none w) ∨
    (∃ j k' v e, r = some (j, k', v) ∧ mes[j]? = some e ∧ es[j]? = some (k', v) ∧ Rep c k' e.key ∧ Rep c v e.val ∧ (Instr.findKey kt kv mes).run P w = .ok (some (j, e.val)) w) := by
  obtain ⟨_, ⟨d, hd, he⟩, d2, hu⟩ := run_checkKey (P := P) (w := w) htr hK hkk true 0
  rcases findAsking_sound (P := P) (w := w) he hd hK es mes 0 r hE hr with ⟨h1, h2⟩ | ⟨j, k', v, e, h1, _, h3, h4, h5, h6, h7⟩
  · exact .inl ⟨h1, findKey_of hu h2⟩
  · exact .inr ⟨j, k', v, e, h1, by simpa using h3, by simpa using h4, h5, h6, findKey_of hu h7⟩
theorem zvP_spec {t : TypeId} {z : AV} (h : zvP P t = some z) : ∃ v, (zeroValue t).run P w = .ok v w ∧ ∀ c : Ctx, Rep c z v := by
  unfold zvP at h
  split at h
  · rename_i i hi
    split at h
    · rename_i v hv
      refine ⟨v, ?_, fun c => cv_rep c h⟩
      simp [zeroValue, typeInfo, hi, hv]
    · simp at h
  · simp at h
theorem lkp_run {mt kt et : TypeId} {tr : EqT} {z v K : AV} {kv mv : Value} {ok : Bool} {es : List (AV × AV)} {mes : Array MapEntry} (hm : P.underlying mt = some (.map kt et)) (htr : keyP P kt = some tr) (hz : zvP P et = some z)
    (hK : Rep c K kv) (hkk : eqv tr K K = some true) (hE : RepE c es mes.toList) (hmv : (mv = .map none ∧ mes = #[]) ∨ ∃ r clock, mv = .map (some r) ∧ w.heap[r]? = some (.map mes clock)) (hv : lkpA tr z ok K es = some v) :
    ∃ u, (Instr.lookup mt mv kv ok).run P w = .ok u w ∧ Rep c v u := by
  obtain ⟨zv, hz1, hz2⟩ := zvP_spec (P := P) (w := w) hz
  obtain ⟨hck, _⟩ := run_checkKey (P := P) (w := w) htr hK hkk mes.isEmpty 9998
  have hfind : ∃ u o, (Instr.findKey kt kv mes.toList).run P w = .ok o w ∧ Rep c v u ∧ ((∃ j x, o = some (j, x) ∧ u = (if ok then .tuple #[x, .bool true] else x)) ∨ (o = none ∧ u = if ok then .tuple #[zv, .bool false] else zv)) := by
    unfold lkpA at hv
    split at hv
    · rename_i j k' v' hf
      simp at hv
      rcases run_find (P := P) (w := w) htr hK hkk hE hf with ⟨h1, _⟩ | ⟨j', k2, v2, e, h1, h2, h3, h4, h5, h6⟩
      · simp at h1
      · simp at h1; obtain ⟨rfl, rfl, rfl⟩ := h1
        refine ⟨_, _, h6, ?_, .inl ⟨_, _, rfl, rfl⟩⟩
        subst hv
        cases ok
        · exact h5
        · simp only [if_true, Rep, RepL]; exact ⟨[e.val, .bool true], rfl, e.val, _, rfl, h5, _, _, rfl, rfl, rfl⟩
    · rename_i hf
      simp at hv
      rcases run_find (P := P) (w := w) htr hK hkk hE hf with ⟨_, h1⟩ | ⟨j', k2, v2, e, h1, _⟩
      · refine ⟨_, _, h1, ?_, .inr ⟨rfl, rfl⟩⟩
        subst hv
        cases ok
        · exact hz2 c
        · simp only [if_true, Rep, RepL]; exact ⟨[zv, .bool false], rfl, zv, _, rfl, hz2 c, _, _, rfl, rfl, rfl⟩
      · simp at h1
    · simp at hv
  obtain ⟨u, o, hf1, hf2, hf3⟩ := hfind
  refine ⟨u, ?_, hf2⟩
  rcases hmv with ⟨rfl, rfl⟩ | ⟨r, clock, rfl, hg⟩
  · simp only [Instr.lookup, Sem.run_bind, run_underlying hm, Result.andThen_ok, Sem.run_pure, hck, hf1]
    rcases hf3 with ⟨j, x, rfl, rfl⟩ | ⟨rfl, rfl⟩
    · simp
    · simp [hz1]
  · have hobj := MapKept.run_getObj_map (P := P) hg
    simp only [Instr.lookup, Sem.run_bind, run_underlying hm, Result.andThen_ok, hobj, Sem.run_pure, hck, hf1]
    rcases hf3 with ⟨j, x, rfl, rfl⟩ | ⟨rfl, rfl⟩
    · simp
    · simp [hz1]
theorem sameK1_val {x y : AV} {u v : Value} (h : sameK1 x y = true) (hx : Rep c x u) (hy : Rep c y v) : u = v ∧ ∀ n, Instr.sameBits n u v = true := by
  unfold sameK1 at h
  split at h
  · simp only [Bool.and_eq_true, decide_eq_true_eq, beq_iff_eq] at h
    obtain ⟨rfl, rfl⟩ := h
    simp only [Rep] at hx hy; subst hx; subst hy
    exact ⟨rfl, fun n => by cases n <;> simp [Instr.sameBits]⟩
  · simp only [beq_iff_eq] at h
    subst h
    simp only [Rep] at hx hy; subst hx; subst hy
    exact ⟨rfl, fun n => by cases n <;> simp only [Instr.sameBits, bytes_beq, beq_self_eq_true]⟩
  · simp only [beq_iff_eq] at h
    subst h
    simp only [Rep] at hx hy; subst hx; subst hy
    exact ⟨rfl, fun n => by cases n <;> simp [Instr.sameBits]⟩
  · simp at h
theorem sameKs_val : ∀ {xs ys : List AV} {us vs : List Value}, sameKs xs ys = true → RepL c xs us → RepL c ys vs → us = vs ∧ ∀ n, ((us.zip vs).all fun p => Instr.sameBits n p.1 p.2) = true
  | [], [], us, vs, _, hx, hy => by simp only [RepL] at hx hy; subst hx; subst hy; simp
  | x :: xs, y :: ys, us, vs, h, hx, hy => by
    simp only [sameKs, Bool.and_eq_true] at h
    simp only [RepL] at hx hy
    obtain ⟨u, us', rfl, h1, h2⟩ := hx
    obtain ⟨v, vs', rfl, h3, h4⟩ := hy
    obtain ⟨e1, e2⟩ := sameK1_val h.1 h1 h3
    obtain ⟨e3, e4⟩ := sameKs_val h.2 h2 h4
    subst e1; subst e3
    exact ⟨rfl, fun n => by simp only [List.zip_cons_cons, List.all_cons, e2, e4, Bool.and_self]⟩
  | [], _ :: _, us, vs, h, _, _ => by simp [sameKs] at h
  | _ :: _, [], us, vs, h, _, _ => by simp [sameKs] at h
theorem sameK_val {x y : AV} {u v : Value} (h : sameK x y = true) (hx : Rep c x u) (hy : Rep c y v) : u = v ∧ ∀ n, Instr.sameBits (n + 1) u v = true := by
  unfold sameK at h
  split at h
  · simp only [Rep] at hx hy
    obtain ⟨us, rfl, hx⟩ := hx
    obtain ⟨vs, rfl, hy⟩ := hy
    obtain ⟨e1, e2⟩ := sameKs_val h hx hy
    subst e1
    refine ⟨rfl, fun n => ?_⟩
    simp only [Instr.sameBits, beq_self_eq_true, Bool.true_and]
    exact e2 n
  · obtain ⟨e1, e2⟩ := sameK1_val h hx hy
    exact ⟨e1, fun n => e2 _⟩
theorem repE_get : ∀ {es : List (AV × AV)} {us : List MapEntry} {i : Nat} {e : MapEntry} {k v k2 v2 : AV} {kv vv : Value}, RepE c es us → us[i]? = some e → Rep c k2 kv → Rep c v2 vv → RepE c (es.set i (k2, v2)) (us.modify i fun e => { e with key := kv, val := vv })
  | [], us, i, e, _, _, k2, v2, kv, vv, h, hi, _, _ => by simp only [RepE] at h; subst h; simp at hi
  | (a, b) :: es, us, i, e, _, _, k2, v2, kv, vv, h, hi, hk, hv => by
    simp only [RepE] at h
    obtain ⟨x, xs, rfl, h1, h2, h3⟩ := h
    cases i with
    | zero => simp only [List.set_cons_zero, List.modify_zero_cons, RepE]; exact ⟨_, _, rfl, hk, hv, h3⟩
    | succ i =>
      simp only [List.set_cons_succ, List.modify_succ_cons, RepE]
      exact ⟨_, _, rfl, h1, h2, repE_get (k := a) (v := b) h3 (by simpa using hi) hk hv⟩
theorem repE_push : ∀ {es : List (AV × AV)} {us : List MapEntry} {e : MapEntry} {k2 v2 : AV}, RepE c es us → Rep c k2 e.key → Rep c v2 e.val → RepE c (es ++ [(k2, v2)]) (us ++ [e])
  | [], us, e, k2, v2, h, hk, hv => by simp only [RepE] at h; subst h; simp only [List.nil_append, RepE]; exact ⟨e, [], rfl, hk, hv, rfl⟩
  | (a, b) :: es, us, e, k2, v2, h, hk, hv => by
    simp only [RepE] at h
    obtain ⟨x, xs, rfl, h1, h2, h3⟩ := h
    simp only [List.cons_append, RepE]
    exact ⟨_, _, rfl, h1, h2, repE_push h3 hk hv⟩
theorem keyOk_spec {tr : EqT} {K : AV} (h : keyOk tr K = true) : lit K = true ∧ eqv tr K K = some true := by
  unfold keyOk at h
  simp only [Bool.and_eq_true] at h
  obtain ⟨h1, h2⟩ := h
  refine ⟨h1, ?_⟩
  split at h2
  · rename_i b hb; rw [hb, h2]
  · simp at h2
theorem does_lkp (h : Sat c s w) {mt kt et : TypeId} {m k : Operand} {ok : Bool} {tr : EqT} {z K v : AV} {es : List (AV × AV)} (ho : o.op = .lookup mt m k ok) (hm : P.underlying mt = some (.map kt et)) (htr : keyP P kt = some tr) (hz : zvP P et = some z)
    (hK : Rep c K (ρ k)) (hkk : keyOk tr K = true) (hM : (Rep c .nilm (ρ m) ∧ es = []) ∨ ∃ b, Rep c (.map b) (ρ m) ∧ s.get b = some (.map es)) (hv : lkpA tr z ok K es = some v) : Does P o ρ c s w v s := by
  have key : ∀ mes : Array MapEntry, RepE c es mes.toList → ((ρ m = .map none ∧ mes = #[]) ∨ ∃ r clock, ρ m = .map (some r) ∧ w.heap[r]? = some (.map mes clock)) → Does P o ρ c s w v s := fun mes hE hmv => by
    obtain ⟨u, h1, h2⟩ := lkp_run (P := P) hm htr hz hK (keyOk_spec hkk).2 hE hmv hv
    exact Does.pure h (by simp [execOp, ho, h1]) h2
  rcases hM with ⟨hM, rfl⟩ | ⟨b, hM, hg⟩
  · simp only [Rep] at hM
    exact key #[] (by simp [RepE]) (.inl ⟨hM, rfl⟩)
  · simp only [Rep] at hM
    obtain ⟨r, z0, hσ, hr⟩ := hM
    obtain ⟨k', z', mes, clock, g1, g2, g3, g4⟩ := h.obj b _ hg
    rw [hσ] at g1; simp only [Option.some.injEq, Prod.mk.injEq] at g1; obtain ⟨rfl, rfl⟩ := g1
    exact key mes g3 (.inr ⟨r, clock, hr, g2⟩)
theorem does_mup (h : Sat c s w) {mt kt et : TypeId} {m k x : Operand} {tr : EqT} {K X : AV} {es es' : List (AV × AV)} {b : Nat} (ho : o.op = .mapUpdate mt m k x) (hm : P.underlying mt = some (.map kt et)) (htr : keyP P kt = some tr)
    (hK : Rep c K (ρ k)) (hkk : keyOk tr K = true) (hX : Rep c X (ρ x)) (hM : Rep c (.map b) (ρ m)) (hg : s.get b = some (.map es)) (hv : mupA tr K X es = some es') : Does P o ρ c s w .any (s.put b (.map es')) := by
  simp only [Rep] at hM
  obtain ⟨r, z0, hσ, hr⟩ := hM
  obtain ⟨k', z', mes, clock, g1, g2, g3, g4⟩ := h.obj b _ hg
  rw [hσ] at g1; simp only [Option.some.injEq, Prod.mk.injEq] at g1; obtain ⟨rfl, rfl⟩ := g1
  obtain ⟨hck, _⟩ := run_checkKey (P := P) (w := w) htr hK (keyOk_spec hkk).2 false 9998
  have hobj := MapKept.run_getObj_map (P := P) g2
  have key : ∃ mes' clock', (Instr.mapUpdate mt (ρ m) (ρ k) (ρ x)).run P w = .ok () { w with heap := w.heap.setIfInBounds r (.map mes' clock') } ∧ RepE c es' mes'.toList := by
    unfold mupA at hv
    split at hv
    · rename_i i k1 v1 hf
      split at hv
      · rename_i hs
        simp at hv; subst hv
        rcases run_find (P := P) (w := w) htr hK (keyOk_spec hkk).2 g3 hf with ⟨h1, _⟩ | ⟨j', k2, v2, e, h1, h2, h3, h4, h5, h6⟩
        · simp at h1
        · simp at h1; obtain ⟨rfl, rfl, rfl⟩ := h1
          obtain ⟨e1, e2⟩ := sameK_val hs h4 hK
          have he : mes[i]? = some e := by simpa using h2
          refine ⟨mes.modify i fun e => { e with key := ρ k, val := ρ x }, clock, ?_, ?_⟩
          · have hst : (Instr.keyThatStays (((mes[i]?).map (·.key)).getD (ρ k)) (ρ k)).run P w = .ok (ρ k) w := by
              simp only [he, Option.map_some, Option.getD_some, Instr.keyThatStays, e2 9999, if_true, Sem.run_pure]
            simp only [Instr.mapUpdate, hr, Sem.run_bind, run_underlying hm, Result.andThen_ok, hobj, hck, h6, hst]
            exact MapKept.run_setObj_map _ g2
          · rw [Array.toList_modify]
            exact repE_get (k := k1) (v := v1) g3 h2 hK hX
      · simp at hv
    · rename_i hf
      simp at hv; subst hv
      rcases run_find (P := P) (w := w) htr hK (keyOk_spec hkk).2 g3 hf with ⟨_, h1⟩ | ⟨j', k2, v2, e, h1, _⟩
      · refine ⟨mes.push { key := ρ k, val := ρ x, born := clock }, clock + 1, ?_, ?_⟩
        · simp only [Instr.mapUpdate, hr, Sem.run_bind, run_underlying hm, Result.andThen_ok, hobj, hck, h1]
          exact MapKept.run_setObj_map _ g2
        · rw [Array.toList_push]
          exact repE_push g3 hK hX
      · simp at h1
    · simp at hv
  obtain ⟨mes', clock', hrun, hE⟩ := key
  obtain ⟨a1, a2⟩ := h.setO (w' := { w with heap := w.heap.setIfInBounds r (.map mes' clock') }) (o' := .map es') (O := .map mes' clock') hg rfl rfl hσ g4
    (fun ho => ⟨r, z0, mes', clock', hσ, ho, hE, g4⟩) rfl ⟨rfl, rfl, rfl⟩
  refine ⟨c, { w with heap := w.heap.setIfInBounds r (.map mes' clock') }, undef, .inr ⟨?_, rfl⟩, by simp [Rep], a1, a2⟩
  simp [execOp, ho, hrun]
theorem idxL_find (cc : UInt8) : ∀ (l : List UInt8) (k : Nat) (q : Nat → Bool), (∀ i, i < l.length → q (k + i) = (l.getD i 0 == cc)) → (match (List.range' k l.length).find? q with | some i => (i : Int) | none => -1) = idxL cc l k
  | [], k, q, _ => by simp [idxL]
  | x :: r, k, q, h => by
    have h0 := h 0 (by simp)
    simp only [Nat.add_zero, List.getD_cons_zero] at h0
    simp only [List.length_cons, List.range'_succ, List.find?_cons, idxL, h0]
    by_cases hx : x = cc
    · simp [hx]
    · simp only [if_neg hx, beq_eq_false_iff_ne.2 hx]
      refine idxL_find cc r (k + 1) q fun i hi => ?_
      have := h (i + 1) (by simp; omega)
      simp only [List.getD_cons_succ] at this
      rw [← this]
      congr 1
      omega
theorem firstIdx_list (l : List UInt8) (cc : UInt8) : firstIdx ⟨l.toArray⟩ cc = idxL cc l 0 := by
  have hsz : (ByteArray.mk l.toArray).size = l.length := rfl
  unfold firstIdx
  rw [hsz, List.range_eq_range']
  refine idxL_find cc l 0 _ fun i hi => ?_
  have hi' : i < (ByteArray.mk l.toArray).size := hi
  have : (ByteArray.mk l.toArray)[0 + i]! = l.getD i 0 := by
    rw [Nat.zero_add, getElem!_pos (ByteArray.mk l.toArray) i hi']
    rw [List.getD_eq_getElem?_getD, List.getElem?_eq_getElem hi, Option.getD_some]
    rfl
  rw [this]
theorem isIdxB_spec {f : Nat} (h : isIdxB P f = true) : ∃ fn, P.funcs[f]? = some fn ∧ fn.body.isNone = true ∧ (fn.name == "runtime.NumGoroutine") = false ∧ Extern.findNext fn = none ∧ Extern.find fn = some Extern.BytealgIndexByte.indexByte := by
  unfold isIdxB at h
  split at h
  · rename_i fn hf
    simp only [Bool.and_eq_true, beq_iff_eq] at h
    obtain ⟨h1, h2, h3⟩ := h
    refine ⟨fn, hf, h1, by rw [h2]; decide, ?_, ?_⟩
    · unfold Extern.findNext
      simp only [h2, h3]
      have e1 : Extern.allNextRows.lookup idxName = none := by decide +kernel
      have e2 : Extern.allNextRows.lookup "" = none := by decide +kernel
      simp [e1, e2]
    · unfold Extern.find
      simp only [h2]
      have e1 : Extern.allGenericRows.lookup idxName = none := by decide +kernel
      have e2 : Extern.allTypedRows.lookup idxName = none := by decide +kernel
      have e3 : Extern.allRows.lookup idxName = some Extern.BytealgIndexByte.indexByte := by rfl
      simp [e1, e2, e3]
  · simp at h
theorem does_idxB (h : Sat c s w) {cl : Call} {f : Nat} {x y : Operand} {l : List UInt8} {n : Int} (ho : o.op = .call cl) (hcl : cl.callee = .value (.func f)) (har : cl.args.toList = [x, y]) (hf : isIdxB P f = true)
    (hX : Rep c (.str l) (ρ x)) (hY : Rep c (.int .u8 n) (ρ y)) (hρ : ∀ f, ρ (.func f) = .func (.func f) #[] #[]) : Does P o ρ c s w (.int .i64 (idxL (UInt8.ofNat n.toNat) l 0)) s := by
  obtain ⟨fn, h1, h2, h3, h4, h5⟩ := isIdxB_spec hf
  simp only [Rep] at hX hY
  have hars : cl.args = #[x, y] := by apply Array.ext'; simpa using har
  refine Does.pure (u := .int .i64 (idxL (UInt8.ofNat n.toNat) l 0)) h ?_ (by simp [Rep])
  have hrun := run_callFunc_extern (P := P) h1 h3 h2 h4 h5 #[.string ⟨l.toArray⟩, .int .u8 n] w
  rw [run_indexByte_string, firstIdx_list] at hrun
  simp only [Result.andThen_ok] at hrun
  have e : (n.toNat.toUInt8) = UInt8.ofNat n.toNat := rfl
  rw [e] at hrun
  simp [execOp, ho, resolve, hcl, hρ, Deferred.ofValue, invoke, hars, hX, hY, hrun]
theorem does_clr_none (h : Sat c s w) {cl : Call} {t e : TypeId} {x : Operand} {X : AV} (ho : o.op = .call cl) (hcl : cl.callee = .builtin .clear) (hat : cl.argTypes.toList = [t]) (har : cl.args.toList = [x]) (ht : P.underlying t = some (.slice e))
    (hX : Rep c X (ρ x)) (hx : X = .nils ∨ ∃ cs, X = .ps 0 cs) : Does P o ρ c s w (.tup []) s := by
  have hars : cl.args = #[x] := by apply Array.ext'; simpa using har
  have hats : cl.argTypes = #[t] := by apply Array.ext'; simpa using hat
  refine Does.pure (u := .tuple #[]) h ?_ (by simp [Rep, RepL])
  have : ∃ a q, ρ x = .slice a 0 q := by
    rcases hx with rfl | ⟨cs, rfl⟩
    · simp only [Rep] at hX; exact ⟨_, _, hX⟩
    · simp only [Rep] at hX
      rcases hX with ⟨_, _, a, q, hX⟩ | ⟨k, o, q, hX, _⟩ <;> exact ⟨_, _, hX⟩
  obtain ⟨a, q, hx⟩ := this
  cases a <;> simp [execOp, ho, resolve, hcl, invoke, builtin, hars, hats, hx, Builtin.clear_, run_underlying ht]
theorem zeroC_list {z : List AV} {zv : Array Value} (hz : RepL c z zv.toList) (n : Nat) (hpos : 0 < z.length) : RepL c (List.replicate n z).flatten (Builtin.zeroCells zv n).toList := by
  have hsz : zv.size = z.length := by have := hz.length; simpa using this
  refine RepL.of_get (by simp [Builtin.zeroCells, hsz]) fun j x u hx hu => ?_
  have hj : j < n * zv.size := by
    have := (List.getElem?_eq_some_iff.1 hx).1
    simpa [hsz] using this
  have hx' : z[j % z.length]? = some x := by
    have : ∀ (n j : Nat), j < n * z.length → (List.replicate n z).flatten[j]? = z[j % z.length]? := by
      intro n
      induction n with
      | zero => intro j hj; omega
      | succ n ih =>
        intro j hj
        rw [List.replicate_succ, List.flatten_cons]
        by_cases h1 : j < z.length
        · rw [List.getElem?_append_left h1, Nat.mod_eq_of_lt (by omega)]
        · rw [List.getElem?_append_right (by omega), ih _ (by rw [Nat.succ_mul] at hj; omega)]
          congr 1
          rw [Nat.mod_eq_sub_mod (a := j) (by omega)]
    rw [this n j (by rw [← hsz]; exact hj)] at hx
    exact hx
  obtain ⟨u2, h5, h6⟩ := hz.get _ x hx'
  have hu' : u = u2 := by
    have hlt : j % zv.size < zv.size := Nat.mod_lt _ (by omega)
    have h7 : zv[j % zv.size]? = some u2 := by rw [hsz]; simpa using h5
    simp only [Builtin.zeroCells] at hu
    simp [hj] at hu
    rw [← hu]
    rw [getElem!_pos zv _ hlt]
    rw [Array.getElem?_eq_getElem hlt] at h7
    exact Option.some.inj h7
  rw [hu']; exact h6
theorem does_clr (h : Sat c s w) {cl : Call} {t e : TypeId} {x : Operand} {z cs : List AV} {b v0 O n : Nat} (ho : o.op = .call cl) (hcl : cl.callee = .builtin .clear) (hat : cl.argTypes.toList = [t]) (har : cl.args.toList = [x]) (ht : P.underlying t = some (.slice e))
    (hz : zeroP P e = some z) (hX : Rep c (.sl b v0 O n z.length) (ρ x)) (hg : s.get b = some (.cells v0 cs false)) (hO : O + n * z.length ≤ cs.length) (hn : 0 < n) (hpos : 0 < z.length) :
    Does P o ρ c s w (.tup []) (s.put b (.cells v0 (cs.take O ++ (List.replicate n z).flatten ++ cs.drop (O + n * z.length)) false)) := by
  have hars : cl.args = #[x] := by apply Array.ext'; simpa using har
  have hats : cl.argTypes = #[t] := by apply Array.ext'; simpa using hat
  obtain ⟨i, zv, hi, hzv, hl, hone0, hrep, hrun⟩ := zeroP_spec (P := P) (w := w) hz
  simp only [Rep] at hX
  obtain ⟨k, sz, q, hσ, hx, hq, hsz⟩ := hX
  obtain ⟨k', z', arr, el, fr, g1, g2, g3, g4, g5, g6, g7⟩ := h.block hg
  rw [hσ] at g1; simp only [Option.some.injEq, Prod.mk.injEq] at g1; obtain ⟨rfl, rfl⟩ := g1
  have hr := zeroC_list (hrep c) n hpos
  have hzl : ((List.replicate n z).flatten).length = n * z.length := by simp
  have hone := one_of_rep hr (by
    rw [List.all_eq_true]; intro x hx
    simp only [List.mem_flatten, List.mem_replicate] at hx
    obtain ⟨l, ⟨_, rfl⟩, hx⟩ := hx
    exact hone0 x hx)
  have hlen : (Builtin.zeroCells zv.cells n).toList.length = n * z.length := by rw [hr.length, hzl]
  obtain ⟨w', e1, e2, e3⟩ := run_storeC (P := P) k O el fr (Builtin.zeroCells zv.cells n).toList 0 arr w g2 (by rw [g3]; exact g5) (by rw [hlen]; simp; omega) (fun v hv => by
    obtain ⟨i, hi, rfl⟩ := List.getElem_of_mem hv
    exact hone i _ (by simp [hi]))
  simp only [Nat.add_zero] at e2
  obtain ⟨c', q1, q2, q3, q4⟩ := h.inPlace (w' := w') hg hσ g2 (e' := v0) (cs' := cs.take O ++ (List.replicate n z).flatten ++ cs.drop (O + n * z.length)) (seen' := false)
    (arr' := (arr.toList.take O ++ (Builtin.zeroCells zv.cells n).toList ++ arr.toList.drop (O + (Builtin.zeroCells zv.cells n).toList.length)).toArray)
    (by rw [← g3]; simp only [List.size_toArray, List.length_append, hlen, List.length_take, List.length_drop, Array.length_toList]; omega)
    (by simp only [List.length_append, hzl, List.length_take, List.length_drop]; omega)
    (fun i x hx => over_rep g6 (by rw [hzl]; omega) (by omega) hr hone i x (by rw [hzl]; exact hx))
    (fun i u hu => by rw [g7] at hu; simp at hu) (.inl rfl) (elv_same _) e2 e3
  refine ⟨c', w', .tuple #[], .inl ?_, by simp [Rep, RepL], q1, q2⟩
  obtain ⟨m, rfl⟩ : ∃ m, n = m + 1 := ⟨n - 1, by omega⟩
  simp [execOp, ho, resolve, hcl, invoke, builtin, hars, hats, hx, Builtin.clear_, run_underlying ht, hrun, e1]
theorem does_nilckm (h : Sat c s w) {x : Operand} {m : String} {t : Nat} {v : AV} (ho : o.op = .nilCheck x) (hm : (mOf P m t).isSome = true) (hX : Rep c (.fn (.method m) [.ifc t v] []) (ρ x)) : Does P o ρ c s w (.fn (.method m) [.ifc t v] []) s := by
  have hX' := hX
  simp only [Rep, RepL] at hX
  obtain ⟨us, ws, hx, ⟨u, us', rfl, ⟨u2, rfl, hu2⟩, rfl⟩, rfl⟩ := hX
  have hn : ∀ n : Nat, (nilAhead (n + 1) t u2 m).run P w = .ok (some false) w := fun n => by
    unfold mOf at hm
    split at hm
    · rename_i i e hi hu
      split at hm
      · rename_i mm hmm
        split at hm
        · rename_i hp
          split at hm
          · rename_i g hg
            have e1 : (typeInfo t).run P w = .ok i w := by simp [typeInfo, hi]
            have hp' : mm.path.toList = [] := by simpa [Array.isEmpty, Array.size_eq_zero_iff] using hp
            simp [nilAhead, e1, hmm, hp', followBlind, hg]
          · simp at hm
        · simp at hm
      · simp at hm
    · simp at hm
  have hd : P.types.size + (Made.depth - 1) + 1 = P.types.size + Made.depth := by simp [Made.depth]
  have hn' := hn (P.types.size + (Made.depth - 1))
  rw [hd] at hn'
  refine Does.pure (u := .func (.method m) #[.iface t u2] #[]) h ?_ (by rw [hx] at hX'; exact hX')
  simp [execOp, ho, hx, hn']
theorem does_tas (h : Sat c s w) {x : Operand} {xt a : TypeId} {want : Array (String × TypeId)} {t : Nat} {v : AV} (ho : o.op = .typeAssert x xt a true) (hu : P.underlying a = some (.interface want))
    (ht : (aTab P want).contains t = true) (hX : Rep c (.ifc t v) (ρ x)) : Does P o ρ c s w (.tup [.ifc t v, .bool true]) s := by
  have ht' : t ∈ aTab P want := by simpa using ht
  simp only [aTab, List.mem_filter] at ht'
  obtain ⟨_, ht2⟩ := ht'
  split at ht2
  · rename_i i hi
    have hm : Instr.missingMethod want i.methods = none := by
      have hf : (want.toList.filter fun (x : String × TypeId) => !i.methods.any fun m => m.name == x.1 && m.sig == x.2) = [] := by
        rw [List.filter_eq_nil_iff]
        intro x hx
        have := List.all_eq_true.1 ht2 x hx
        simp [this]
      have e : Instr.missingMethod want i.methods = (let missing := (want.toList.filter fun (x : String × TypeId) => !i.methods.any fun m => m.name == x.1 && m.sig == x.2).map (·.1)
        let p := missing.partition (·.contains (Char.ofNat 46))
        Instr.least p.2 <|> Instr.least (p.1.map fun id => (id.splitOn ".").getLastD id)) := rfl
      rw [e, hf]
      rfl
    have hX' := hX
    simp only [Rep] at hX
    obtain ⟨u, hx, hu2⟩ := hX
    refine Does.pure (u := .tuple #[.iface t u, .bool true]) h ?_ (by simp only [Rep, RepL]; exact ⟨[.iface t u, .bool true], rfl, _, _, rfl, ⟨u, rfl, hu2⟩, _, _, rfl, rfl, rfl⟩)
    have e1 : (typeInfo t).run P w = .ok i w := by simp [typeInfo, hi]
    simp [execOp, ho, Instr.typeAssert, run_underlying hu, hx, e1, hm]
  · simp at ht2
theorem does_cpy (h : Sat c s w) {cl : Call} {t t2 e : TypeId} {x y : Operand} {cs xs : List AV} {us : List Value} {b v0 O m n z : Nat} (ho : o.op = .call cl) (hcl : cl.callee = .builtin .copy) (hat : cl.argTypes.toList = [t, t2]) (har : cl.args.toList = [x, y]) (ht : P.underlying t = some (.slice e))
    (hz : szP P e = some z) (hX : Rep c (.sl b v0 O m z) (ρ x)) (hS : Src P c w z (ρ y) n xs us) (hg : s.get b = some (.cells v0 cs false)) (hn : n ≤ m) (hO : O + n * z ≤ cs.length) (hl : xs.length = n * z) :
    Does P o ρ c s w (.int .i64 n) (s.put b (.cells v0 (cs.take O ++ xs ++ cs.drop (O + n * z)) false)) := by
  have hars : cl.args = #[x, y] := by apply Array.ext'; simpa using har
  have hats : cl.argTypes = #[t, t2] := by apply Array.ext'; simpa using hat
  simp only [szP, Option.map_eq_some_iff] at hz
  obtain ⟨inf, hinf, rfl⟩ := hz
  simp only [Rep] at hX
  obtain ⟨k, sz, q, hσ, hx, hq, hsz⟩ := hX
  obtain ⟨k', z', arr, el, fr, g1, g2, g3, g4, g5, g6, g7⟩ := h.block hg
  rw [hσ] at g1; simp only [Option.some.injEq, Prod.mk.injEq] at g1; obtain ⟨rfl, rfl⟩ := g1
  have hlen : us.length = n * inf.size := by rw [hS.rep.length, hl]
  obtain ⟨w', e1, e2, e3⟩ := run_storeC (P := P) k O el fr us 0 arr w g2 (by rw [g3]; exact g5) (by rw [hlen]; simp; omega) (fun v hv => by
    obtain ⟨i, hi, rfl⟩ := List.getElem_of_mem hv
    exact hS.one i _ (by simp [hi]))
  simp only [Nat.add_zero] at e2
  obtain ⟨c', q1, q2, q3, q4⟩ := h.inPlace (w' := w') hg hσ g2 (e' := v0) (cs' := cs.take O ++ xs ++ cs.drop (O + n * inf.size)) (seen' := false)
    (arr' := (arr.toList.take O ++ us ++ arr.toList.drop (O + us.length)).toArray)
    (by rw [← g3]; simp only [List.size_toArray, List.length_append, hlen, List.length_take, List.length_drop, Array.length_toList]; omega)
    (by simp only [List.length_append, hl, List.length_take, List.length_drop]; omega)
    (fun i x hx => over_rep g6 (by rw [hl]; omega) (by omega) hS.rep hS.one i x (by rw [hl]; exact hx))
    (fun i u hu => by rw [g7] at hu; simp at hu) (.inl rfl) (elv_same _) e2 e3
  refine ⟨c', w', .int .i64 n, .inl ?_, by simp [Rep], q1, q2⟩
  have hmin : Nat.min n m = n := Nat.min_eq_left hn
  have hc2 : P.cellsOf e = inf.size := by simp [Program.cellsOf, hinf]
  simp [execOp, ho, resolve, hcl, invoke, builtin, hars, hats, hx, Builtin.copy_, run_underlying ht, hS.len, hmin, run_sizeOf w hinf, hc2, hS.run, e1, goInt]
end
end Go.AX
/- Every operation that is no call: what our reading gives is what the model does. -/
namespace Go.AX
open Go
section
variable {P : Program} {c : Ctx} {s : St} {w : World} {F : List AV} {ρ : Operand → Value} {o : Oper}
theorem omap {α β : Type} {x : Option α} {f : α → β} {y : β} (h : x.map f = some y) : ∃ a, x = some a ∧ f a = y := by
  simpa [Option.map_eq_some_iff] using h
theorem szP_some {t : TypeId} {z : Nat} (h : szP P t = some z) : ∃ i, P.info? t = some i ∧ i.size = z := by
  simpa [szP, Option.map_eq_some_iff] using h
theorem does_app (h : Sat c s w) (hρ : Ops c F ρ) {cl : Call} {t u : TypeId} {x y : Operand} {a b : AO} {e : TypeId} {inf : TypeInfo} {zc : List AV} {n : Nat} {xs : List AV} {us : List Value} {v : AV} {ps : List (Nat × Obj)} {qs : List Obj}
    (ho : o.op = .call cl) (hcl : cl.callee = .builtin .append) (hat : cl.argTypes.toList = [t, u]) (har : cl.args.toList = [x, y]) (hx : cO x = some a) (hy : cO y = some b)
    (ht : P.underlying t = some (.slice e)) (hu : (∃ e2, P.underlying u = some (.slice e2)) ∨ P.underlying u = some .string) (he : P.info? e = some inf) (hz : zeroP P e = some zc) (h1 : 0 < inf.size) (h2 : 0 < inf.bytes)
    (hs : Src P c w inf.size (ρ y) n xs us) {str : Bool} (hstr : str = true → e = gB) (hv : appA str inf.size inf.bytes s.get s.next (a.ev F) n xs = some (v, ps, qs)) : Does P o ρ c s w v (s.apply ps qs) := by
  obtain ⟨i, zv, hi, hzv, hl, hone0, hrep, hrun⟩ := zeroP_spec (P := P) (w := w) hz
  rw [he] at hi; cases hi
  have hats : cl.argTypes = #[t, u] := by apply Array.ext'; simpa using hat
  have hars : cl.args = #[x, y] := by apply Array.ext'; simpa using har
  have hzs : zv.cells.size = inf.size := by have := (hrep c).length; simp at this; omega
  obtain ⟨c', w', r, e1, e2, e3, e4⟩ := app_sound (ty := o.type) h (ats := cl.argTypes) ⟨⟨t, by simp [hats], ht⟩, ⟨u, by simp [hats], hu⟩, he, hzv, hzs, h2, h1⟩ (hρ x a hx) hs hstr hv
  refine ⟨c', w', r, .inl ?_, e2, e3, e4⟩
  simp [execOp, ho, resolve, hcl, invoke, builtin, hars, e1]
set_option maxHeartbeats 1600000 in
theorem aop_sound (h : Sat c s w) (hρ : Ops c F ρ) {ao : AOp} (hc : cOp P o.op = some ao) {v : AV} {ps : List (Nat × Obj)} {qs : List Obj} (hv : aop ao F s.get s.next = some (v, ps, qs)) :
    Does P o ρ c s w v (s.apply ps qs) := by
  have nil : ∀ {x y : AV} {p : List (Nat × Obj)} {q : List Obj}, (some (x, ([] : List (Nat × Obj)), ([] : List Obj)) : Eff) = some (y, p, q) → Does P o ρ c s w x s → Does P o ρ c s w y (s.apply p q) := fun e d => by
    simp only [Option.some.injEq, Prod.mk.injEq] at e
    obtain ⟨rfl, rfl, rfl⟩ := e
    exact d
  cases ho : o.op with
  | move x =>
    rw [ho] at hc; obtain ⟨a, h1, rfl⟩ := omap (by simpa [cOp] using hc)
    exact nil hv (does_mv h hρ (.inl ho) h1)
  | assign x =>
    rw [ho] at hc; obtain ⟨a, h1, rfl⟩ := omap (by simpa [cOp] using hc)
    exact nil hv (does_mv h hρ (.inr ho) h1)
  | pick x y z =>
    rw [ho] at hc; simp only [cOp] at hc
    split at hc
    · rename_i a b d h1 h2 h3
      simp at hc; subst hc
      simp only [aop] at hv
      split at hv
      · rename_i t ht; exact nil hv (does_pick h hρ ho h1 h2 h3 ht)
      · simp at hv
    · simp at hc
  | alloc t =>
    rw [ho] at hc; simp only [cOp] at hc
    split at hc
    · rename_i z h1
      split at hc
      · simp at hc
      · rename_i hvz
        simp only [Option.some.injEq] at hc
        subst hc
        simp only [aop, Option.some.injEq, Prod.mk.injEq] at hv
        obtain ⟨rfl, rfl, rfl⟩ := hv
        exact does_alloc h ho h1 hvz
    · simp at hc
  | box t x =>
    rw [ho] at hc; obtain ⟨a, h1, rfl⟩ := omap (by simpa [cOp] using hc)
    simp only [aop] at hv
    split at hv
    · rename_i hone
      simp only [Option.some.injEq, Prod.mk.injEq] at hv
      obtain ⟨rfl, rfl, rfl⟩ := hv
      exact does_box h ho (hρ x a h1) hone
    · simp at hv
  | build t parts =>
    rw [ho] at hc; simp only [cOp] at hc
    split at hc
    · rename_i z hz
      split at hc
      · rename_i fs ht
        split at hc
        · rename_i pl hpl
          split at hc
          · rename_i q hq
            simp at hc; subst hc
            simp only [aop] at hv
            split at hv
            · rename_i cs hcs; exact nil hv (does_build_struct h hρ ho hz ht hpl hq hcs)
            · simp at hv
          · simp at hc
        · simp at hc
      · rename_i n e ht
        split at hc
        · rename_i sz hsz
          split at hc
          · rename_i q hq
            simp at hc; subst hc
            obtain ⟨inf, hi, rfl⟩ := szP_some hsz
            simp only [aop] at hv
            split at hv
            · rename_i cs hcs; exact nil hv (does_build_arr h hρ ho hz ht hi hq hcs)
            · simp at hv
          · simp at hc
        · simp at hc
      · simp at hc
    · simp at hc
  | buildSlice t n parts =>
    rw [ho] at hc; simp only [cOp] at hc
    split at hc
    · rename_i e ht
      split at hc
      · rename_i sz z hsz hz
        split at hc
        · rename_i hb
          split at hc
          · rename_i q hq
            simp at hc; subst hc
            obtain ⟨inf, hi, rfl⟩ := szP_some hsz
            simp only [aop] at hv
            split at hv
            · rename_i xs vs hvs
              split at hv
              · rename_i cs hcs
                simp only [Option.some.injEq, Prod.mk.injEq] at hv
                obtain ⟨rfl, rfl, rfl⟩ := hv
                exact does_bslice h hρ ho hz ht hi hb.1 hb.2 hq hvs hcs
              · simp at hv
            · simp at hv
          · simp at hc
        · simp at hc
      · simp at hc
    · simp at hc
  | load t x =>
    rw [ho] at hc; simp only [cOp] at hc
    split at hc
    · rename_i q a hq ha
      simp at hc; subst hc
      simp only [aop] at hv
      split at hv
      · rename_i cs hcs
        cases q with
        | none =>
          cases cs with
          | nil => simp at hv
          | cons y r => exact nil hv (does_load h ho hq (hρ x a ha) hcs (.inl ⟨rfl, by simp⟩))
        | some n =>
          simp only at hv
          split at hv
          · rename_i hn; exact nil hv (does_load h ho hq (hρ x a ha) hcs (.inr ⟨n, rfl, hn, rfl⟩))
          · simp at hv
      · simp at hv
    · simp at hc
  | store t x y =>
    rw [ho] at hc; simp only [cOp] at hc
    split at hc
    · rename_i n a b hn ha hb
      simp at hc; subst hc
      obtain ⟨inf, hi, rfl⟩ := szP_some hn
      simp only [aop] at hv
      split at hv
      · rename_i B E O hA
        split at hv
        · rename_i e' cs hg
          split at hv
          · rename_i hcond
            obtain ⟨rfl, h2, h3, h4⟩ := hcond
            simp only [Option.some.injEq, Prod.mk.injEq] at hv
            obtain ⟨rfl, rfl, rfl⟩ := hv
            have hx := hρ x a ha
            rw [hA] at hx
            exact does_store h ho hi hx (hρ y b hb) hg h2 h3 h4
          · simp at hv
        · simp at hv
      · simp at hv
    · simp at hc
  | nilCheck x =>
    rw [ho] at hc
    simp only [cOp] at hc
    split at hc
    · rename_i hgm
      obtain ⟨a, h1, rfl⟩ := omap hc
      have hx := hρ x a h1
      simp only [aop] at hv
      split at hv
      · rename_i v' hv'
        unfold nckA at hv'
        split at hv'
        · rename_i b e q e1; rw [e1] at hx; simp only [Option.some.injEq] at hv'; subst hv'; exact nil hv (does_nilck h ho hx (.inl ⟨b, e, q, rfl⟩))
        · rename_i cs e1; rw [e1] at hx; simp only [Option.some.injEq] at hv'; subst hv'; exact nil hv (does_nilck h ho hx (.inr ⟨cs, rfl⟩))
        · rename_i m t u e1
          split at hv'
          · rename_i hct
            rw [e1] at hx; simp only [Option.some.injEq] at hv'; subst hv'
            have hmem : (m, t) ∈ gMeth := by simpa using hct
            exact nil hv (does_nilckm h ho (List.all_eq_true.1 hgm (m, t) hmem) hx)
          · simp at hv'
        · simp at hv'
      · simp at hv
    · simp at hc
  | binOp op t x y u =>
    rw [ho] at hc; simp only [cOp] at hc
    split at hc
    · rename_i a b ha hb
      have bin : ∀ {op' : BinOp}, op' = op → some (AOp.bin op' a b) = some ao → Does P o ρ c s w v (s.apply ps qs) := fun hop e => by
        subst hop
        simp at e; subst e
        simp only [aop] at hv
        split at hv
        · rename_i r hr; exact nil hv (run_bin h ho (hρ x a ha) (hρ y b hb) hr)
        · simp at hv
      have eq : ∀ {neg : Bool} {d : Nat}, d ≤ 9 → ((op = .eql ∧ neg = false) ∨ (op = .neq ∧ neg = true)) → (P.eqGuardType P.depth t = false ∨ ∃ ms, P.underlying t = some (.interface ms)) → (∀ k, P.underlying t ≠ some (.int k)) → P.underlying t ≠ some .string →
          ((eqP P d t (isLit x || isLit y)).map fun q => AOp.eq neg q a b) = some ao → Does P o ρ c s w v (s.apply ps qs) := fun {neg d} hd hop hg hni hns e => by
        obtain ⟨tr, h1, rfl⟩ := omap e
        simp only [aop] at hv
        split at hv
        · rename_i r hr; exact nil hv (does_eq h hop ho d hd h1 hg hni hns (hρ x a ha) (hρ y b hb) hr)
        · simp at hv
      split at hc
      · exact bin rfl hc
      · exact bin rfl hc
      · exact bin rfl hc
      · exact bin rfl hc
      · rename_i hni hns
        have hni' : ∀ k, P.underlying t ≠ some (.int k) := fun k hk => by first | exact hni k rfl hk | exact hni k hk
        have hns' : P.underlying t ≠ some .string := fun hk => by first | exact hns rfl hk | exact hns hk
        split at hc
        · split at hc
          · rename_i ms hms; exact eq (by omega) (.inl ⟨rfl, rfl⟩) (.inr ⟨ms, hms⟩) hni' hns' hc
          · simp at hc
        · rename_i hg; exact eq (by omega) (.inl ⟨rfl, rfl⟩) (.inl (by simpa using hg)) hni' hns' hc
      · rename_i hni hns
        have hni' : ∀ k, P.underlying t ≠ some (.int k) := fun k hk => by first | exact hni k rfl hk | exact hni k hk
        have hns' : P.underlying t ≠ some .string := fun hk => by first | exact hns rfl hk | exact hns hk
        split at hc
        · split at hc
          · rename_i ms hms; exact eq (by omega) (.inr ⟨rfl, rfl⟩) (.inr ⟨ms, hms⟩) hni' hns' hc
          · simp at hc
        · rename_i hg; exact eq (by omega) (.inr ⟨rfl, rfl⟩) (.inl (by simpa using hg)) hni' hns' hc
      · simp at hc
      · simp at hc
      · exact bin rfl hc
    · simp at hc
  | unOp op t x =>
    rw [ho] at hc; obtain ⟨a, h1, rfl⟩ := omap (by simpa [cOp] using hc)
    simp only [aop] at hv
    split at hv
    · rename_i r hr; exact nil hv (run_un h ho (hρ x a h1) hr)
    · simp at hv
  | convert t d x =>
    rw [ho] at hc; simp only [cOp] at hc
    split at hc
    · rename_i a ha
      have hx := hρ x a ha
      split at hc
      · rename_i k0 k h1 h2
        simp at hc; subst hc
        simp only [aop] at hv
        split at hv
        · rename_i j n e; exact nil hv (does_i2i h ho h1 h2 hx e)
        · simp at hv
      · rename_i k0 h1 h2
        simp at hc; subst hc
        simp only [aop] at hv
        split at hv
        · rename_i j n e; rw [e] at hx; exact nil hv (does_i2s h ho h1 h2 hx)
        · simp at hv
      · rename_i h1 h2
        simp at hc; subst hc
        simp only [aop] at hv
        split at hv
        · rename_i l e; exact nil hv (does_s2s h ho h1 h2 hx e)
        · simp at hv
      · rename_i e h1 h2
        split at hc
        · rename_i h3
          simp at hc; subst hc
          simp only [aop] at hv
          split at hv
          · rename_i l e1
            simp only [Option.some.injEq, Prod.mk.injEq] at hv
            obtain ⟨rfl, rfl, rfl⟩ := hv
            rw [e1] at hx
            exact does_s2b h ho h1 h2 h3 hx
          · simp at hv
        · simp at hc
      · rename_i e h1 h2
        split at hc
        · rename_i h3
          simp at hc; subst hc
          simp only [aop] at hv
          split at hv
          · rename_i n cs hr
            split at hv
            · rename_i l hl; exact nil hv (does_b2s h ho h1 h2 h3 hx hr hl)
            · simp at hv
          · simp at hv
        · simp at hc
      · simp at hc
    · simp at hc
  | sliceToArrayPointer t x => rw [ho] at hc; simp [cOp] at hc
  | makeInterface t x =>
    rw [ho] at hc; simp only [cOp] at hc
    split at hc
    · simp at hc
    · rename_i d hni hd
      obtain ⟨a, h1, rfl⟩ := omap hc
      simp only [aop] at hv
      exact nil hv (does_ifc h ho hd (fun ms e => hni ms (by first | exact e | rw [hd, e])) (hρ x a h1))
    · simp at hc
  | makeFunc fn xs ys =>
    rw [ho] at hc; simp only [cOp] at hc
    split at hc
    · rename_i as bs h1 h2
      simp at hc; subst hc
      simp only [aop] at hv
      exact nil hv (does_mkfn h ho (ops_list hρ h1) (ops_list hρ h2))
    · simp at hc
  | makeMap t r =>
    rw [ho] at hc
    cases r with
    | some r => simp [cOp] at hc
    | none =>
      simp only [cOp, Option.some.injEq] at hc; subst hc
      simp only [aop, Option.some.injEq, Prod.mk.injEq] at hv
      obtain ⟨rfl, rfl, rfl⟩ := hv
      exact does_mkmap h ho
  | makeChan t x => rw [ho] at hc; simp [cOp] at hc
  | makeSlice t x y =>
    rw [ho] at hc; simp only [cOp] at hc
    split at hc
    · rename_i e ht
      split at hc
      · rename_i z i l k hz hi hl hk
        simp at hc; subst hc
        simp only [aop] at hv
        split at hv
        · rename_i l' k' h1 h2
          split at hv
          · rename_i hcond
            obtain ⟨q1, q2, q3, q4⟩ := hcond
            simp only [Option.some.injEq, Prod.mk.injEq] at hv
            obtain ⟨rfl, rfl, rfl⟩ := hv
            exact does_mkslice h ho ht hz hi (hρ x l hl) (hρ y k hk) h1 h2 q1 q2 q3 q4
          · simp at hv
        · simp at hv
      · simp at hc
    · simp at hc
  | slice t x lo hi mx =>
    rw [ho] at hc; simp only [cOp] at hc
    split at hc
    · rename_i a l hh ha hl hh'
      have hx := hρ x a ha
      split at hc
      · rename_i ht
        simp at hc; subst hc
        simp only [aop] at hv
        split at hv
        · rename_i str e1
          rw [e1] at hx
          split at hv
          · rename_i i j h1 h2
            split at hv
            · rename_i hcond; exact nil hv (does_slcS h hρ ho ht hl hh' hx h1 h2 hcond.1 hcond.2)
            · simp at hv
          · simp at hv
        · simp at hv
      · rename_i e ht
        obtain ⟨z, h1, rfl⟩ := omap hc
        obtain ⟨inf, hi', rfl⟩ := szP_some h1
        simp only [aop] at hv
        split at hv
        · rename_i e1
          rw [e1] at hx
          split at hv
          · rename_i h2 h3; exact nil hv (does_slc_nils h hρ ho ht hi' hl hh' hx h2 h3)
          · simp at hv
        · rename_i n cs e1
          rw [e1] at hx
          split at hv
          · rename_i i j h2 h3
            split at hv
            · rename_i hcond; exact nil hv (does_slc_ps h hρ ho ht hi' hl hh' hx h2 h3 hcond.1 hcond.2.1 hcond.2.2)
            · simp at hv
          · simp at hv
        · rename_i B E O n z' e1
          rw [e1] at hx
          split at hv
          · rename_i i j h2 h3
            split at hv
            · rename_i hcond
              obtain ⟨q1, q2, rfl⟩ := hcond
              have hd := does_slc_sl h hρ ho ht hi' hl hh' hx h2 h3 q1 q2
              split at hv
              · rename_i h0; rw [if_pos h0] at hd; exact nil hv hd
              · rename_i h0; rw [if_neg h0] at hd
                split at hv
                · rename_i h4; rw [if_pos h4] at hd; exact nil hv hd
                · rename_i h4; rw [if_neg h4] at hd; exact nil hv hd
            · simp at hv
          · simp at hv
        · simp at hv
      · simp at hc
    · simp at hc
  | fieldAddr t x f =>
    rw [ho] at hc; simp only [cOp] at hc
    split at hc
    · rename_i fs ht
      split at hc
      · rename_i fd a hf ha
        split at hc
        · rename_i z hz
          split at hc
          · rename_i hpos
            simp at hc; subst hc
            obtain ⟨inf, hi, rfl⟩ := szP_some hz
            simp only [aop] at hv
            split at hv
            · rename_i r hr; exact nil hv (does_faddr h ho ht hf hi hpos (hρ x a ha) hr)
            · simp at hv
          · simp at hc
        · simp at hc
      · simp at hc
    · simp at hc
  | field t x f =>
    rw [ho] at hc; simp only [cOp] at hc
    split at hc
    · rename_i fs ht
      split at hc
      · rename_i fd a hf ha
        obtain ⟨q, hq, rfl⟩ := omap hc
        have hx := hρ x a ha
        simp only [aop] at hv
        split at hv
        · rename_i cs e1
          rw [e1] at hx
          split at hv
          · rename_i r hr; exact nil hv (does_fld h ho ht hf hq hx hr)
          · simp at hv
        · simp at hv
      · simp at hc
    · simp at hc
  | indexAddr t x i =>
    rw [ho] at hc; simp only [cOp] at hc
    split at hc
    · rename_i a b ha hb
      split at hc
      · rename_i n e ht
        obtain ⟨z, hz, rfl⟩ := omap hc
        obtain ⟨inf, hi, rfl⟩ := szP_some hz
        simp only [aop] at hv
        split at hv
        · rename_i j hj
          split at hv
          · rename_i hlt
            split at hv
            · rename_i r hr; exact nil hv (does_iaddr_arr h ho ht hi (hρ x a ha) (hρ i b hb) hj hlt hr)
            · simp at hv
          · simp at hv
        · simp at hv
      · rename_i e ht
        obtain ⟨z, hz, rfl⟩ := omap hc
        obtain ⟨inf, hi, rfl⟩ := szP_some hz
        simp only [aop] at hv
        split at hv
        · rename_i j hj
          split at hv
          · rename_i r hr; exact nil hv (does_iaddr_slc h ho ht hi (hρ x a ha) (hρ i b hb) hj hr)
          · simp at hv
        · simp at hv
      · simp at hc
    · simp at hc
  | index t x i =>
    rw [ho] at hc; simp only [cOp] at hc
    split at hc
    · rename_i a b ha hb
      have hx := hρ x a ha
      split at hc
      · rename_i ht
        simp at hc; subst hc
        simp only [aop] at hv
        split at hv
        · rename_i l j e1 hj
          rw [e1] at hx
          split at hv
          · rename_i r hr; exact nil hv (does_sidx h ho ht hx (hρ i b hb) hj hr)
          · simp at hv
        · simp at hv
      · rename_i n e ht
        split at hc
        · rename_i z q hz hq
          simp at hc; subst hc
          obtain ⟨inf, hi, rfl⟩ := szP_some hz
          simp only [aop] at hv
          split at hv
          · rename_i cs j e1 hj
            rw [e1] at hx
            split at hv
            · rename_i hlt
              split at hv
              · rename_i r hr; exact nil hv (does_aidx h ho ht hi hq hx (hρ i b hb) hj hlt hr)
              · simp at hv
            · simp at hv
          · simp at hv
        · simp at hc
      · simp at hc
    · simp at hc
  | lookup t x i ok =>
    rw [ho] at hc; simp only [cOp] at hc
    split at hc
    · rename_i kt et hm
      split at hc
      · rename_i tr z m k htr hz hmm hkk
        simp at hc; subst hc
        simp only [aop] at hv
        split at hv
        · rename_i hok
          split at hv
          · rename_i e1
            split at hv
            · rename_i v' hv'
              have hM := hρ x m hmm
              rw [e1] at hM
              exact nil hv (does_lkp h ho hm htr hz (hρ i k hkk) hok (.inl ⟨hM, rfl⟩) hv')
            · simp at hv
          · rename_i b e1
            split at hv
            · rename_i es hg
              split at hv
              · rename_i v' hv'
                have hM := hρ x m hmm
                rw [e1] at hM
                exact nil hv (does_lkp h ho hm htr hz (hρ i k hkk) hok (.inr ⟨b, hM, hg⟩) hv')
              · simp at hv
            · simp at hv
          · simp at hv
        · simp at hv
      · simp at hc
    · simp at hc
  | mapUpdate t m k x =>
    rw [ho] at hc; simp only [cOp] at hc
    split at hc
    · rename_i kt et hm
      split at hc
      · rename_i tr m' k' x' htr hmm hkk hxx
        simp at hc; subst hc
        simp only [aop] at hv
        split at hv
        · rename_i hok
          split at hv
          · rename_i b e1
            split at hv
            · rename_i es hg
              split at hv
              · rename_i es' hv'
                simp only [Option.some.injEq, Prod.mk.injEq] at hv
                obtain ⟨rfl, rfl, rfl⟩ := hv
                have hM := hρ m m' hmm
                rw [e1] at hM
                exact does_mup h ho hm htr (hρ k k' hkk) hok (hρ x x' hxx) hM hg hv'
              · simp at hv
            · simp at hv
          · simp at hv
        · simp at hv
      · simp at hc
    · simp at hc
  | insert t m k x => rw [ho] at hc; simp [cOp] at hc
  | mapEntry t m k => rw [ho] at hc; simp [cOp] at hc
  | entryStore t m k x => rw [ho] at hc; simp [cOp] at hc
  | range t x =>
    rw [ho] at hc; simp only [cOp] at hc
    split at hc
    · rename_i a ht hx
      simp at hc; subst hc
      simp only [aop] at hv
      split at hv
      · rename_i l e1
        simp only [Option.some.injEq, Prod.mk.injEq] at hv
        obtain ⟨rfl, rfl, rfl⟩ := hv
        have hX := hρ x a hx
        rw [e1] at hX
        exact does_rng h ho ht hX
      · simp at hv
    · simp at hc
  | next x b =>
    rw [ho] at hc
    cases b with
    | false => simp [cOp] at hc
    | true =>
      obtain ⟨a, h1, rfl⟩ := omap (by simpa [cOp] using hc)
      have hX := hρ x a h1
      simp only [aop] at hv
      split at hv
      · rename_i b e1
        rw [e1] at hX
        split at hv
        · rename_i l p hg
          obtain ⟨d1, d2⟩ := does_nxt h ho hX hg
          split at hv
          · rename_i hp
            simp only [Option.some.injEq, Prod.mk.injEq] at hv
            obtain ⟨rfl, rfl, rfl⟩ := hv
            exact d1 hp
          · rename_i hp; exact nil hv (d2 hp)
        · simp at hv
      · simp at hv
  | entry x => rw [ho] at hc; simp [cOp] at hc
  | typeAssert x t u ok =>
    rw [ho] at hc
    cases ok with
    | false => simp [cOp] at hc
    | true =>
      simp only [cOp] at hc
      split at hc
      · rename_i want a hu h1
        simp only [Option.some.injEq] at hc
        subst hc
        have hX := hρ x a h1
        simp only [aop] at hv
        split at hv
        · rename_i t' v' e1
          rw [e1] at hX
          split at hv
          · rename_i hct; exact nil hv (does_tas h ho hu hct hX)
          · simp at hv
        · simp at hv
      · simp at hc
  | extract x i =>
    rw [ho] at hc; obtain ⟨a, h1, rfl⟩ := omap (by simpa [cOp] using hc)
    have hx := hρ x a h1
    simp only [aop] at hv
    split at hv
    · rename_i vs e1
      rw [e1] at hx
      split at hv
      · rename_i r hr; exact nil hv (does_ext h ho hx hr)
      · simp at hv
    · simp at hv
  | go cl => rw [ho] at hc; simp [cOp] at hc
  | defer cl => rw [ho] at hc; simp [cOp] at hc
  | panic x => rw [ho] at hc; simp [cOp] at hc
  | send x y => rw [ho] at hc; simp [cOp] at hc
  | recv t x ok => rw [ho] at hc; simp [cOp] at hc
  | select cs b => rw [ho] at hc; simp [cOp] at hc
  | ready g => rw [ho] at hc; simp [cOp] at hc
  | waits g => rw [ho] at hc; simp [cOp] at hc
  | call cl =>
    rw [ho] at hc; simp only [cOp] at hc
    split at hc
    · rename_i f hcl
      split at hc
      · rename_i xs hxs
        split at hc
        · rename_i hf
          split at hc
          · rename_i a b
            simp at hc; subst hc
            have hl := ops_list hρ hxs
            simp only [aop] at hv
            split at hv
            · rename_i l n e1 e2
              simp only [List.map_cons, List.map_nil, e1, e2, RepL] at hl
              obtain ⟨u1, us1, he1, hX, u2, us2, rfl, hY, rfl⟩ := hl
              obtain ⟨x, y, hxy⟩ : ∃ x y, cl.args.toList = [x, y] := by
                have hlen := congrArg List.length he1
                simp only [List.length_map, List.length_cons, List.length_nil] at hlen
                match hh : cl.args.toList, hlen with
                | [x, y], _ => exact ⟨x, y, rfl⟩
              rw [hxy] at he1
              simp only [List.map_cons, List.map_nil, List.cons.injEq, and_true] at he1
              obtain ⟨rfl, rfl⟩ := he1
              refine nil hv (does_idxB h ho hcl hxy hf hX hY fun g => ?_)
              have := hρ (.func g) (.k (.fn (.func g) [] [])) rfl
              simp only [AO.ev, Rep, RepL] at this
              obtain ⟨us, ws, e, rfl, rfl⟩ := this
              exact e
            · simp at hv
          · simp at hc
        · simp at hc; subst hc; simp [aop] at hv
      · simp at hc
    · split at hc
      · simp at hc; subst hc; simp [aop] at hv
      · simp at hc
    · split at hc
      · simp at hc; subst hc; simp [aop] at hv
      · simp at hc
    · rename_i hcl
      split at hc
      · rename_i t x hat har
        split at hc
        · rename_i ht
          obtain ⟨a, h1, rfl⟩ := omap hc
          have hx := hρ x a h1
          simp only [aop] at hv
          split at hv
          · rename_i l e1; rw [e1] at hx; exact nil hv (does_len h ho hcl hat har (.inl ht) hx (.inl ⟨ht, l, rfl, rfl⟩))
          · simp at hv
        · rename_i e ht
          obtain ⟨a, h1, rfl⟩ := omap hc
          have hx := hρ x a h1
          simp only [aop] at hv
          split at hv
          · rename_i e1; rw [e1] at hx; exact nil hv (does_len h ho hcl hat har (.inr ⟨e, ht⟩) hx (.inr ⟨⟨e, ht⟩, .inl ⟨rfl, rfl⟩⟩))
          · rename_i n cs e1; rw [e1] at hx; exact nil hv (does_len h ho hcl hat har (.inr ⟨e, ht⟩) hx (.inr ⟨⟨e, ht⟩, .inr (.inl ⟨cs, rfl⟩)⟩))
          · rename_i b e' O n z e1; rw [e1] at hx; exact nil hv (does_len h ho hcl hat har (.inr ⟨e, ht⟩) hx (.inr ⟨⟨e, ht⟩, .inr (.inr ⟨b, e', O, z, rfl⟩)⟩))
          · simp at hv
        · rename_i n e ht
          simp at hc; subst hc
          exact nil hv (does_cst_len h ho hcl hat har ht)
        · simp at hc
      · simp at hc
    · rename_i hcl
      split at hc
      · rename_i t u x y hat har
        split at hc
        · rename_i e e2 a b ht hu hx hy
          split at hc
          · rename_i inf zc hi hz
            split at hc
            · rename_i hpos
              simp at hc; subst hc
              simp only [aop, Bool.false_eq_true, if_false] at hv
              split at hv
              · rename_i n xs hr
                obtain ⟨us, hs⟩ := src_row (P := P) h hr (hρ y b hy)
                exact does_app h hρ ho hcl hat har hx hy ht (.inl ⟨e2, hu⟩) hi hz hpos.1 hpos.2 hs (fun hh => by simp at hh) hv
              · simp at hv
            · simp at hc
          · simp at hc
        · rename_i e a b ht hu hx hy
          split at hc
          · rename_i inf zc hi hz hk
            split at hc
            · rename_i hone
              simp at hc; subst hc
              simp only [aop, if_true] at hv
              split at hv
              · rename_i l e1
                have hx' := hρ y b hy
                rw [e1] at hx'
                have hs := src_str (P := P) (c := c) (w := w) hx'
                exact does_app h hρ ho hcl hat har hx hy ht (.inr hu) hi hz (by omega) (by omega) (by rw [hone.1]; exact hs) (fun _ => hone.2.2) (by rw [hone.1, hone.2.1]; exact hv)
              · simp at hv
            · simp at hc
          · simp at hc
        · simp at hc
      · simp at hc
    · rename_i hcl
      obtain ⟨xs, h1, rfl⟩ := omap hc
      have hx := ops_list hρ h1
      simp only [aop] at hv
      split at hv
      · rename_i x r e1
        rw [e1] at hx
        split at hv
        · rename_i y hy; exact nil hv (does_mm h ho (mx := false) hcl hx hy)
        · simp at hv
      · simp at hv
    · rename_i hcl
      obtain ⟨xs, h1, rfl⟩ := omap hc
      have hx := ops_list hρ h1
      simp only [aop] at hv
      split at hv
      · rename_i x r e1
        rw [e1] at hx
        split at hv
        · rename_i y hy; exact nil hv (does_mm h ho (mx := true) hcl hx hy)
        · simp at hv
      · simp at hv
    · rename_i hcl
      split at hc
      · rename_i t x hat har
        split at hc
        · rename_i e a ht hx
          obtain ⟨z, hz, rfl⟩ := omap hc
          have hX := hρ x a hx
          simp only [aop, clrA] at hv
          split at hv
          · rename_i e1; rw [e1] at hX; exact nil hv (does_clr_none h ho hcl hat har ht hX (.inl rfl))
          · rename_i cs e1; rw [e1] at hX; exact nil hv (does_clr_none h ho hcl hat har ht hX (.inr ⟨cs, rfl⟩))
          · rename_i b v0 O n z' e1
            split at hv
            · rename_i v1 cs hg
              split at hv
              · rename_i hc2
                obtain ⟨rfl, rfl, h3, h4, h5⟩ := hc2
                simp only [Option.some.injEq, Prod.mk.injEq] at hv
                obtain ⟨rfl, rfl, rfl⟩ := hv
                rw [e1] at hX
                exact does_clr h ho hcl hat har ht hz hX hg h3 h4 h5
              · simp at hv
            · simp at hv
          · simp at hv
        · simp at hc
      · simp at hc
    · rename_i hcl
      split at hc
      · rename_i t u x y hat har
        split at hc
        · rename_i e e2 a b ht hu hx hy
          obtain ⟨z, hz, rfl⟩ := omap hc
          have hX := hρ x a hx
          simp only [aop] at hv
          split at hv
          · rename_i n xs hr
            unfold cpyA at hv
            split at hv
            · rename_i b0 v0 O m z' e1
              split at hv
              · rename_i v1 cs hg
                split at hv
                · rename_i hc2
                  obtain ⟨rfl, rfl, h3, h4, h5⟩ := hc2
                  simp only [Option.some.injEq, Prod.mk.injEq] at hv
                  obtain ⟨rfl, rfl, rfl⟩ := hv
                  rw [e1] at hX
                  obtain ⟨us, hs⟩ := src_row (P := P) h hr (hρ y b hy)
                  exact does_cpy h ho hcl hat har ht hz hX hs hg h3 h4 h5
                · simp at hv
              · simp at hv
            · simp at hv
          · simp at hv
        · simp at hc
      · simp at hc
    · simp at hc
end
end Go.AX
/- A comparison with nil of what may be nil, or not: either answer. -/
namespace Go.AX
open Go
def eqU : EqT → AV → AV → Bool
  | .slc, .ps n _, .nils => decide (n = 0)
  | .slc, .nils, .ps n _ => decide (n = 0)
  | _, _, _ => false
def undet (op : AOp) (F : List AV) : Bool := match op with
  | .eq _ t x y => eqU t (x.ev F) (y.ev F)
  | _ => false
section
variable {P : Program} {c : Ctx} {s : St} {w : World} {F : List AV} {ρ : Operand → Value} {o : Oper}
theorem cOp_eq {op : Op} {neg : Bool} {tr : EqT} {a b : AO} (h : cOp P op = some (.eq neg tr a b)) :
    ∃ bop t x y u d, op = .binOp bop t x y u ∧ d ≤ 9 ∧ ((bop = .eql ∧ neg = false) ∨ (bop = .neq ∧ neg = true)) ∧ eqP P d t (isLit x || isLit y) = some tr ∧ cO x = some a ∧ cO y = some b := by
  cases op
  case binOp bop t x y u =>
    simp only [cOp] at h
    split at h
    · rename_i a' b' ha hb
      have eq : ∀ {neg' : Bool} {d : Nat}, d ≤ 9 → ((bop = .eql ∧ neg' = false) ∨ (bop = .neq ∧ neg' = true)) → ((eqP P d t (isLit x || isLit y)).map fun q => AOp.eq neg' q a' b') = some (AOp.eq neg tr a b) →
          ∃ bop1 t1 x1 y1 u1 d1, Op.binOp bop t x y u = .binOp bop1 t1 x1 y1 u1 ∧ d1 ≤ 9 ∧ ((bop1 = .eql ∧ neg = false) ∨ (bop1 = .neq ∧ neg = true)) ∧ eqP P d1 t1 (isLit x1 || isLit y1) = some tr ∧ cO x1 = some a ∧ cO y1 = some b := fun {neg' d} hd hop e => by
        obtain ⟨q, h1, h2⟩ := omap e
        simp only [AOp.eq.injEq] at h2
        obtain ⟨rfl, rfl, rfl, rfl⟩ := h2
        exact ⟨bop, t, x, y, u, d, rfl, hd, hop, h1, ha, hb⟩
      repeat' (split at h)
      all_goals first
        | (simp at h; done)
        | exact eq (by omega) (.inl ⟨rfl, rfl⟩) h
        | exact eq (by omega) (.inr ⟨rfl, rfl⟩) h
    · simp at h
  all_goals
    exfalso
    simp only [cOp] at h
    (repeat' (split at h))
    all_goals (first | (simp at h; done) | (simp [Option.map_eq_some_iff] at h; done) | (simp_all; done))
theorem undet_sound (h : Sat c s w) (hρ : Ops c F ρ) {ao : AOp} (hc : cOp P o.op = some ao) (hu : undet ao F = true) : ∃ b, Does P o ρ c s w (.bool b) s := by
  cases ao with
  | eq neg tr x y =>
    obtain ⟨bop, t, x1, y1, u, d, ho, hd, hop, htr, hx, hy⟩ := cOp_eq hc
    have hX := hρ x1 x hx
    have hY := hρ y1 y hy
    simp only [undet] at hu
    have key : ∃ a b n m p q e, ρ x1 = .slice a n p ∧ ρ y1 = .slice b m q ∧ (a = none ∨ b = none) ∧ P.underlying t = some (.slice e) := by
      have hsl : tr = .slc → ∃ e, P.underlying t = some (.slice e) := fun e => by
        subst e
        cases d with
        | zero => simp [eqP] at htr
        | succ d =>
          unfold eqP at htr
          repeat' (split at htr)
          all_goals first | (cases htr; done) | (exact ⟨_, by assumption⟩) | (simp [Option.map_eq_some_iff] at htr; done) | skip
      unfold eqU at hu
      split at hu
      · rename_i n cs e1 e2
        obtain ⟨e, he⟩ := hsl rfl
        rw [e1] at hX; rw [e2] at hY
        simp only [Rep] at hX hY
        rcases hX with ⟨_, _, a, q, hX⟩ | ⟨k, o', q, hX, _⟩
        · exact ⟨a, none, _, _, _, _, e, hX, hY, .inr rfl, he⟩
        · exact ⟨_, none, _, _, _, _, e, hX, hY, .inr rfl, he⟩
      · rename_i n cs e1 e2
        obtain ⟨e, he⟩ := hsl rfl
        rw [e1] at hX; rw [e2] at hY
        simp only [Rep] at hX hY
        rcases hY with ⟨_, _, a, q, hY⟩ | ⟨k, o', q, hY, _⟩
        · exact ⟨none, a, _, _, _, _, e, hX, hY, .inl rfl, he⟩
        · exact ⟨none, _, _, _, _, _, e, hX, hY, .inl rfl, he⟩
      · simp at hu
    obtain ⟨a, b, n, m, p, q, e, h1, h2, h3, h4⟩ := key
    have he : (Op.equalIn Op.maxDepth t (ρ x1) (ρ y1)).run P w = .ok (a.isNone && b.isNone) w := by
      have hd : Op.maxDepth = (Op.maxDepth - 1) + 1 := by simp [Op.maxDepth]
      rw [h1, h2, hd]; exact eq_slc _ h4 a b n m p q h3
    have hguard : (eqGuard bop t x1 y1 (ρ x1) (ρ y1)).run P w = .ok () w := by
      rw [h1, h2]; exact eqGuard_plain bop t x1 y1 _ _ (by simp) (by simp)
    obtain ⟨r1, r2⟩ := held_eql (by rw [h1, h2]; exact .slc _ _ _ _ _ _) he (fun k m n e1 => by rw [h1] at e1; simp at e1) (fun l r e1 => by rw [h1] at e1; simp at e1)
    rcases hop with ⟨rfl, rfl⟩ | ⟨rfl, rfl⟩
    · exact ⟨_, Does.pure (u := .bool _) h (by simp [execOp, ho, hguard, Result.andThen, r1]; rfl) (by simp [Rep]; rfl)⟩
    · exact ⟨_, Does.pure (u := .bool _) h (by simp [execOp, ho, hguard, Result.andThen, r2]; rfl) (by simp [Rep]; rfl)⟩
  | _ => simp [undet] at hu
end
end Go.AX
