/- strings.Builder within a struct of its own type: copyCheck. -/
import Derived.Test.YtaapijjdmbolbaaGreatTxS
import Derived.Test.YtaapijjdmbolbaaGreatAxE
import Derived.Test.YtaapijjdmbolbaaGreatTabB
import Derived.Lib.UnsafeStr
import Derived.Shelf.RegionOpenPlain
import Derived.Test.YtaapijjdmbolbaaGreatTxA
set_option linter.unusedSimpArgs false
set_option linter.unusedVariables false
namespace W09
open Go Go.Proofs Go.AX
theorem lies (n : Nat) : liesAt Tryz.prog Tryz.prog.depth 54 (n + 1) 0 52 1 = true := by kernel_rfl
theorem cellsW : Tryz.prog.cellsOf 54 = 2 := by kernel_rfl
theorem sizeB : (Tryz.prog.info? 52).map (·.size) = some 2 := by kernel_rfl
theorem lies2 (n : Nat) (h : 2 ≤ n) : liesAt Tryz.prog Tryz.prog.depth 54 (n / Tryz.prog.cellsOf 54) 0 52 1 = true := by
  rw [cellsW]
  obtain ⟨m, hm⟩ : ∃ m, n / 2 = m + 1 := ⟨n / 2 - 1, by omega⟩
  rw [hm]; exact lies m
set_option maxHeartbeats 1000000 in
set_option maxRecDepth 100000 in
theorem copy_used (b : Nat) (w : World) (h0 : w.cell? ⟨b, 0, none⟩ = some (.pointer (some ⟨b, 0, none⟩))) :
    Calls Tryz.prog 76 #[.pointer (some ⟨b, 0, none⟩)] w fun e w' => e = .returned (.tuple #[]) ∧ w' = w := by
  obtain ⟨j, hj, _⟩ := Option.map_eq_some_iff.1 sizeB
  go_enter Tryz.func76, Tryz.ntmps76
  go_wp2
  rw [Lib.run_neq_ptr_same w _ Tryz.underlying49 hj]
  go_wp2
  go_end0
  exact ⟨rfl, rfl⟩
set_option maxHeartbeats 1000000 in
set_option maxRecDepth 100000 in
theorem copy_fresh (b n : Nat) (w : World) (hn : 2 ≤ n) (h0 : w.cell? ⟨b, 0, none⟩ = some (.pointer none)) (hsh : w.shape? b = some (54, n)) (hfz : w.frozen? ⟨b, 0, none⟩ = false) :
    Calls Tryz.prog 76 #[.pointer (some ⟨b, 0, none⟩)] w fun e w' => e = .returned (.tuple #[]) ∧ w' = w.setCell ⟨b, 0, none⟩ (.pointer (some ⟨b, 0, none⟩)) := by
  obtain ⟨j, hj, hjs⟩ := Option.map_eq_some_iff.1 sizeB
  go_enter Tryz.func76, Tryz.ntmps76
  go_wp2
  rw [Lib.run_to_unsafe w ⟨b, 0, none⟩ Tryz.underlying49 Tryz.underlying110 hj (by rw [hjs]; decide) hsh (show 0 < n by omega)]
  simp only [Result.andThen]
  rw [Oper.upon_value]
  go_wp2
  rw [run_callFunc_extern Tryz.func87 (by kernel_rfl) (by kernel_rfl) (by kernel_rfl) (e := Extern.AbiNoEscape.same) (by kernel_rfl)]
  rw [Lib.run_noEscape]
  simp only [Result.andThen]
  rw [Oper.upon_value]
  go_wp2
  rw [Lib.run_from_unsafe w ⟨b, 0, none⟩ Tryz.underlying110 Tryz.underlying49 hj hsh (lies2 n hn)]
  simp only [Result.andThen]
  rw [Oper.upon_value]
  go_wp2
  go_end0
  exact ⟨rfl, rfl⟩
end W09
/- strings.Builder within a struct of its own type: copyCheck, String, on abstract states. -/
namespace W09
open Go Go.Proofs Go.AX
theorem heap_setCell {w : World} {k o : Nat} {v : Value} {arr : Array Value} {el : TypeId} {fr : Nat × Nat} (h : w.heap[k]? = some (.cells arr el fr)) :
    (w.setCell ⟨k, o, none⟩ v).heap = w.heap.setIfInBounds k (.cells (arr.setIfInBounds o v) el fr) := by
  apply Array.ext
  · simp [World.setCell]
  · intro i h1 h2
    simp only [World.setCell, Array.getElem_modify, Array.getElem_setIfInBounds]
    by_cases hi : k = i
    · subst hi
      have : w.heap[k]'(by simpa [World.setCell] using h1) = .cells arr el fr := by
        rw [Array.getElem?_eq_getElem (by simpa [World.setCell] using h1)] at h
        exact Option.some.inj h
      simp [this]
    · simp only [hi, if_false]
      rw [Array.getElem_setIfInBounds, if_neg hi]
theorem callable_cc : Callable Tryz.prog 76 := ⟨_, Tryz.func76, by kernel_rfl, by kernel_rfl⟩
theorem callable_st : Callable Tryz.prog 34 := ⟨_, Tryz.func34, by kernel_rfl, by kernel_rfl⟩
theorem w_copyCheck {s : St} {b : Nat} {x y : AV} (hg : s.get b = some (.cells 0 [x, y] false)) (hx : x = .nilp ∨ x = .ptr b 0 0) :
    ACalls Tryz.prog 76 [.ptr b 0 0] s fun v s' => v = .tup [] ∧ s' = s.put b (.cells 0 [.ptr b 0 0, y] false) := by
  refine ⟨callable_cc, fun c w vs hs hr => ?_⟩
  simp only [RepL, Rep] at hr
  obtain ⟨u, us, rfl, ⟨k, z, hσ, rfl⟩, rfl⟩ := hr
  obtain ⟨k0, z0, arr, el, fr, g1, g2, g3, g4, g5, g6, g7⟩ := hs.obj _ _ hg
  rw [hσ] at g1; simp only [Option.some.injEq, Prod.mk.injEq] at g1; obtain ⟨rfl, rfl⟩ := g1
  have g2' : w.heap[k]? = some (.cells arr 54 fr) := g2
  obtain ⟨u0, a0, o0, r0⟩ := g6 0 x rfl
  obtain ⟨u1, a1, o1, r1⟩ := g6 1 y rfl
  have hz2 : 2 ≤ z := by simpa using g4
  have hcell : w.cell? ⟨k, 0, none⟩ = some u0 := by rw [cell_of_block g2']; exact a0
  have done : ∀ (w' : World) (arr' : Array Value), arr'.size = z → arr'[0]? = some (.pointer (some ⟨k, 0, none⟩)) → arr'[1]? = some u1 → w'.heap = w.heap.setIfInBounds k (.cells arr' 54 fr) → SameOs w w' →
      ∃ c', Sat c' (s.put b (.cells 0 [.ptr b 0 0, y] false)) w' ∧ Ext c s w c' (s.put b (.cells 0 [.ptr b 0 0, y] false)) w' := fun w' arr' hsz b0 b1 hw hos => by
    obtain ⟨c', q1, q2, _⟩ := hs.inPlace (w' := w') hg hσ g2' (e' := 0) (cs' := [.ptr b 0 0, y]) (seen' := false) (arr' := arr') hsz (by simpa using hz2) (fun i x' hx' => by
      match i, hx' with
      | 0, hx' => simp only [List.getElem?_cons_zero, Option.some.injEq] at hx'; subst hx'; exact ⟨_, b0, rfl, by simp only [Rep]; exact ⟨k, z, hσ, rfl⟩⟩
      | 1, hx' => simp only [List.getElem?_cons_succ, List.getElem?_cons_zero, Option.some.injEq] at hx'; subst hx'; exact ⟨u1, b1, o1, r1⟩
      | i + 2, hx' => simp at hx') (fun i u hu => by rw [g7] at hu; simp at hu) (.inl rfl) (elv_same 0) hw hos
    exact ⟨c', q1, q2⟩
  have hsz : arr.size = z := g3
  rcases hx with rfl | rfl
  · simp only [Rep] at r0
    subst r0
    have hfr : w.frozen? ⟨k, 0, none⟩ = false := by
      have := g5 0 (by omega)
      simp [World.frozen?, g2']
      intro h; omega
    refine (copy_fresh k z w hz2 hcell (by simp [World.shape?, g2', hsz]) hfr).mono fun e w' ⟨h1, h2⟩ => ?_
    subst h2
    obtain ⟨c', q1, q2⟩ := done (w.setCell ⟨k, 0, none⟩ (.pointer (some ⟨k, 0, none⟩))) (arr.setIfInBounds 0 (.pointer (some ⟨k, 0, none⟩))) (by simpa using hsz) (by rw [Array.getElem?_setIfInBounds, if_pos rfl, if_pos (by omega)]) (by rw [Array.getElem?_setIfInBounds, if_neg (by omega)]; exact a1) (heap_setCell g2') ⟨rfl, rfl, rfl⟩
    exact ⟨.tup [], _, c', _, h1, by simp [Rep, RepL], q1, q2, rfl, rfl⟩
  · simp only [Rep] at r0
    obtain ⟨k', z', hσ', rfl⟩ := r0
    rw [hσ] at hσ'; simp only [Option.some.injEq, Prod.mk.injEq] at hσ'; obtain ⟨rfl, rfl⟩ := hσ'
    refine (copy_used k w hcell).mono fun e w' ⟨h1, h2⟩ => ?_
    subst h2
    obtain ⟨c', q1, q2⟩ := done w' arr hsz a0 a1 (by
      apply Array.ext (by simp)
      intro i h1 h2
      rw [Array.getElem_setIfInBounds]
      split
      · rename_i heq; subst heq
        rw [Array.getElem?_eq_getElem h1] at g2'
        simpa using g2'
      · rfl) (SameOs.refl w')
    exact ⟨.tup [], _, c', _, h1, by simp [Rep, RepL], q1, q2, rfl, rfl⟩
end W09
/- strings.Builder: String. -/
namespace W09
open Go Go.Proofs Go.AX Go.Shelf Go.RowKit
theorem cellsB : Tryz.prog.cellsOf 5 = 1 := by kernel_rfl
set_option maxHeartbeats 2000000 in
set_option maxRecDepth 100000 in
theorem str_some (b g cap m : Nat) (l : List UInt8) (w : World) (h0 : l ≠ []) (hc0 : cap ≠ 0) (c1 : w.cell? ⟨b, 1, none⟩ = some (.slice (some ⟨g, 0, none⟩) l.length cap))
    (hsh : w.shape? g = some (5, m)) (hm : l.length ≤ m) (hl : l.length ≤ 9223372036854775807)
    (hcell : ∀ j x, l[j]? = some x → w.cell? ((⟨g, 0, none⟩ : Addr).add j) = some (.int .u8 x.toNat)) :
    Calls Tryz.prog 34 #[.pointer (some ⟨b, 0, none⟩)] w fun e w' => e = .returned (.string ⟨l.toArray⟩) ∧ w' = w.drew.freeze ⟨g, 0, none⟩ l.length := by
  have c1' : w.drew.cell? ⟨b, 1, none⟩ = some (.slice (some ⟨g, 0, none⟩) l.length cap) := by simpa using c1
  have hSD : (Builtin.unsafeSliceData_ #[50] 77 #[.slice (some ⟨g, 0, none⟩) l.length cap]).run Tryz.prog w.drew = .ok (.pointer (some ⟨g, 0, none⟩)) w.drew :=
    Lib.run_unsafeSliceData_row _ _ _ _ _ _ hc0
  have hUS : (Builtin.unsafeString_ #[77, 3] 9 #[.pointer (some ⟨g, 0, none⟩), .int .i64 l.length]).run Tryz.prog w.drew = .ok (.string ⟨l.toArray⟩) (w.drew.freeze ⟨g, 0, none⟩ l.length) := by
    refine Lib.run_unsafeString_row w.drew 77 3 9 5 Tryz.underlying77 cellsB g m hsh l h0 hm hl ?_
    intro j x hx
    simpa using hcell j x hx
  go_enter Tryz.func34, Tryz.ntmps34
  go_wp2
  go_region
  all_goals (go_wp2; go_ret; exact ⟨rfl, rfl⟩)
set_option maxHeartbeats 2000000 in
set_option maxRecDepth 100000 in
theorem str_nil (b : Nat) (w : World) (c1 : w.cell? ⟨b, 1, none⟩ = some (.slice none 0 0)) :
    Calls Tryz.prog 34 #[.pointer (some ⟨b, 0, none⟩)] w fun e w' => e = .returned (.string ⟨#[]⟩) ∧ w' = w.drew := by
  have c1' : w.drew.cell? ⟨b, 1, none⟩ = some (.slice none 0 0) := by simpa using c1
  have hSD : (Builtin.unsafeSliceData_ #[50] 77 #[.slice none 0 0]).run Tryz.prog w.drew = .ok (.pointer none) w.drew := Lib.run_unsafeSliceData_nil _ _ _ _ _
  have hUS : (Builtin.unsafeString_ #[77, 3] 9 #[.pointer none, .int .i64 0]).run Tryz.prog w.drew = .ok (.string .empty) w.drew := Lib.run_unsafeString_none _ _ _ _ _
  go_enter Tryz.func34, Tryz.ntmps34
  go_wp2
  go_region
  all_goals (go_wp2; go_ret; exact ⟨rfl, rfl⟩)
theorem w_String_nil {s : St} {b : Nat} {x : AV} (hg : s.get b = some (.cells 0 [x, .nils] false)) :
    ACalls Tryz.prog 34 [.ptr b 0 0] s fun v s' => v = .str [] ∧ s' = s := by
  refine ⟨callable_st, fun c w vs hs hr => ?_⟩
  simp only [RepL, Rep] at hr
  obtain ⟨u, us, rfl, ⟨k, z, hσ, rfl⟩, rfl⟩ := hr
  obtain ⟨k0, z0, arr, el, fr, g1, g2, g3, g4, g5, g6, g7⟩ := hs.obj _ _ hg
  rw [hσ] at g1; simp only [Option.some.injEq, Prod.mk.injEq] at g1; obtain ⟨rfl, rfl⟩ := g1
  obtain ⟨u1, a1, o1, r1⟩ := g6 1 .nils rfl
  simp only [Rep] at r1
  subst r1
  refine (str_nil k w (by rw [cell_of_block g2]; exact a1)).mono fun e w' ⟨h1, h2⟩ => ?_
  subst h2
  obtain ⟨q1, q2⟩ := hs.sameHeap (w' := w.drew) rfl ⟨rfl, rfl, rfl⟩
  exact ⟨.str [], _, c, s, h1, by simp [Rep], q1, q2, rfl, rfl⟩
theorem heap_freeze {w : World} {g n j : Nat} (h : j ≠ g) : (w.freeze ⟨g, 0, none⟩ n).heap[j]? = w.heap[j]? := by
  unfold World.freeze
  split
  · rfl
  · simp only [Array.getElem?_modify, if_neg (Ne.symm h)]
theorem size_freeze {w : World} {a : Addr} {n : Nat} : (w.freeze a n).heap.size = w.heap.size := by
  unfold World.freeze
  split
  · rfl
  · simp
theorem os_freeze {w : World} {a : Addr} {n : Nat} : SameOs w (w.freeze a n) := by
  unfold World.freeze
  split <;> exact ⟨rfl, rfl, rfl⟩
theorem w_String_some {s : St} {b d E : Nat} {x : AV} {l : List UInt8} (hg : s.get b = some (.cells 0 [x, .sl d E 0 l.length 1] false)) (hd : s.get d = some (.cells E (bytesAV l) false)) (hE : E % 2 = 0) (hE0 : 0 < E) (h0 : l ≠ []) (hl : l.length ≤ 9223372036854775807) :
    ACalls Tryz.prog 34 [.ptr b 0 0] s fun v s' => v = .str l ∧ s' = s.hide [d] := by
  refine ⟨callable_st, fun c w vs hs hr => ?_⟩
  simp only [RepL, Rep] at hr
  obtain ⟨u, us, rfl, ⟨k, z, hσ, rfl⟩, rfl⟩ := hr
  obtain ⟨k0, z0, arr, el, fr, g1, g2, g3, g4, g5, g6, g7⟩ := hs.obj _ _ hg
  rw [hσ] at g1; simp only [Option.some.injEq, Prod.mk.injEq] at g1; obtain ⟨rfl, rfl⟩ := g1
  obtain ⟨u1, a1, o1, r1⟩ := g6 1 _ rfl
  simp only [Rep] at r1
  obtain ⟨kd, sd, q, hσd, rfl, hnq, hqs⟩ := r1
  obtain ⟨k2, z2, arr2, el2, fr2, d1, d2, d3, d4, d5, d6, d7⟩ := hs.obj _ _ hd
  rw [hσd] at d1; simp only [Option.some.injEq, Prod.mk.injEq] at d1; obtain ⟨rfl, rfl⟩ := d1
  rw [elv_even hE hE0] at d2
  have hlen : 0 < l.length := List.length_pos_iff.2 h0
  have hkd : kd < w.heap.size := hs.low _ _ _ _ hσd
  have hbl : (bytesAV l).length = l.length := by simp [bytesAV]
  have hcells : ∀ j x, l[j]? = some x → w.cell? ((⟨kd, 0, none⟩ : Addr).add j) = some (.int .u8 x.toNat) := fun j x hx => by
    obtain ⟨u, p, _, r⟩ := d6 j (.int .u8 x.toNat) (by simp [bytesAV, hx])
    simp only [Rep] at r
    subst r
    have : (⟨kd, 0, none⟩ : Addr).add j = ⟨kd, j, none⟩ := by simp [Addr.add]; omega
    rw [this, cell_of_block d2]; exact p
  refine (str_some k kd q arr2.size l w h0 (by omega) (by rw [cell_of_block g2]; exact a1) (by simp [World.shape?, d2]; rfl) (by rw [d3]; omega) hl hcells).mono fun e w' ⟨h1, h2⟩ => ?_
  subst h2
  obtain ⟨q1, q2⟩ := hs.sameHeap (w' := w.drew) rfl ⟨rfl, rfl, rfl⟩
  have hf : ∀ j, j ≠ kd → (w.drew.freeze ⟨kd, 0, none⟩ l.length).heap[j]? = w.heap[j]? := fun j hj => heap_freeze hj
  have hmd : ∀ i, c.m kd i = none := fun i => by rw [d7]; simp
  have hblk : ∀ id o j, (s.hide [d]).get id = some o → blk c id o = some j → j ≠ kd := fun id o j ho hb he => by
    subst he
    rw [St.get_hide] at ho
    split at ho
    · simp at ho
    · rename_i hn
      have := hs.inj id d o _ _ ho hd hb (by simp [blk, Obj.ver, hσd])
      subst this
      simp at hn
  have hsh := hs.hide [d]
  refine ⟨.str l, _, c, s.hide [d], h1, by simp [Rep], ⟨fun j i u hu => ?_, fun id o ho => ?_, hsh.inj, hsh.fresh, hsh.top, fun b' e' k' z' hk' => by rw [size_freeze]; exact hs.low _ _ _ _ hk'⟩,
    ⟨Ctx.le_refl c, by rw [size_freeze]; exact Nat.le_refl _, fun j hj hn => ⟨hf j fun he => hn (by subst he; exact ⟨d, _, hd, by simp [blk, Obj.ver, hσd]⟩), fun _ => rfl⟩, fun j hj => ?_, Nat.le_refl _, fun id _ hid e' => rfl, fun id o ho => ?_, ?_⟩, rfl, rfl⟩
  · have hj : j ≠ kd := fun he => by subst he; rw [hmd] at hu; simp at hu
    rw [cell_of_heap (w := w) (hf j hj)]; exact hs.mem _ _ _ hu
  · exact (hsh.obj id o ho).move (Ctx.le_refl c) fun j hj => ⟨hf j (hblk id o j ho hj), fun _ => rfl⟩
  · obtain ⟨id, o, ho, hb⟩ := hj
    rw [St.get_hide] at ho
    split at ho
    · simp at ho
    · exact .inl ⟨id, o, ho, hb⟩
  · rw [St.get_hide] at ho
    split at ho
    · simp at ho
    · exact .inl ⟨o, ho⟩
  · exact SameOs.trans ⟨rfl, rfl, rfl⟩ os_freeze
end W09
/- strings.Builder: WriteString. -/
namespace W09
open Go Go.Proofs Go.AX Go.AX.Ty
def Bld (b : Nat) (l : Str) (D : List Nat) (s : St) : Prop :=
  ∃ x, (x = .nilp ∨ x = .ptr b 0 0) ∧ b < s.next ∧ ((l = [] ∧ D = [b] ∧ s.get b = some (.cells 0 [x, .nils] false)) ∨
    ∃ d E, D = [b, d] ∧ d ≠ b ∧ d < s.next ∧ l ≠ [] ∧ s.get b = some (.cells 0 [x, .sl d (2 * E) 0 l.length 1] false) ∧ 0 < E ∧ s.get d = some (.cells (2 * E) (bytesAV l) false))
def BldR (b : Nat) (l : Str) (D : List Nat) (s s' : St) : Prop :=
  ∃ D', Bld b l D' s' ∧ s.next ≤ s'.next ∧ (∀ id, id < s.next → id ∉ D → s'.get id = s.get id) ∧ (∀ id ∈ D', id ∈ D ∨ s.next ≤ id)
theorem len_bytesAV (l : Str) : (bytesAV l).length = l.length := by simp [bytesAV]
theorem bytesAV_append (l m : Str) : bytesAV l ++ bytesAV m = bytesAV (l ++ m) := by simp [bytesAV]
theorem w_WriteString {s : St} {b : Nat} {l D : _} (x : Str) (hb : Bld b l D s) (hl : l.length + x.length ≤ 140737488355328) :
    ACalls Tryz.prog 56 [.ptr b 0 0, .str x] s fun v s' => v = .tup [.int .i64 x.length, .nili] ∧ BldR b (l ++ x) D s s' := by
  obtain ⟨h, n⟩ := s
  obtain ⟨y, hy, hbn, h1⟩ := hb
  refine acalls_W mix (C0_ok _) c56 (by kernel_rfl) (Nat.le_of_ble_eq_true (by kernel_rfl)) ?_
  have hle : (x.length ≤ 140737488355328) = True := eq_true (by omega)
  have hle2 : (l.length + x.length ≤ 140737488355328) = True := eq_true (by omega)
  have hnb : (n = b) = False := eq_false (by have : b < n := hbn; omega)
  simp -implicitDefEqProofs only [F56, go_sem, seval]
  rcases h1 with ⟨rfl, rfl, hg⟩ | ⟨d, E, rfl, hdb, hdn, hl0, hg, hE, hd⟩
  · refine callI_st (w_copyCheck hg hy) ?_
    have g1 : AX.look b (putAt b (.cells 0 [.ptr b 0 0, .nils] false) h) = some (.cells 0 [.ptr b 0 0, .nils] false) := look_put_eq hg
    by_cases hx : x = []
    · subst hx
      simp -implicitDefEqProofs only [g1, List.length_nil, go_sem, seval]
      refine ⟨[b], ⟨_, .inr rfl, hbn, .inl ⟨rfl, rfl, look_put_eq g1⟩⟩, Nat.le_refl _, fun id i1 i2 => ?_, fun id hid => .inl hid⟩
      have : b ≠ id := fun e => i2 (by simp [e])
      show AX.look id _ = _
      rw [look_put_ne this, look_put_ne this]; rfl
    · have hx0 : (x.length = 0) = False := by simp [hx]
      simp -implicitDefEqProofs only [g1, hx0, hle, hnb, Nat.mul_one, len_bytesAV, go_sem, seval]
      have hbn' : b < n := hbn
      have hxl : 0 < x.length := List.length_pos_iff.2 hx
      refine ⟨[b, n], ⟨_, .inr rfl, Nat.lt_succ_of_lt hbn', .inr ⟨n, x.length, rfl, by omega, Nat.lt_succ_self n, hx, ?_, hxl, ?_⟩⟩, Nat.le_succ n, fun id i1 i2 => ?_, fun id hid => ?_⟩
      · show AX.look b (_ :: _) = _
        simp only [AX.look]; rw [if_neg (by omega)]; exact look_put_eq g1
      · show AX.look n (_ :: _) = _
        simp only [AX.look]; simp
      · have : b ≠ id := fun e => i2 (by simp [e])
        have i1' : id < n := i1
        show AX.look id (_ :: _) = AX.look id h
        simp only [AX.look]; rw [if_neg (by omega), look_put_ne this, look_put_ne this]
      · simp only [List.mem_cons, List.not_mem_nil, or_false] at hid
        rcases hid with rfl | rfl
        · exact .inl (by simp)
        · exact .inr (Nat.le_refl _)
  · refine callI_st (w_copyCheck hg hy) ?_
    have g1 : AX.look b (putAt b (.cells 0 [.ptr b 0 0, .sl d (2 * E) 0 l.length 1] false) h) = some (.cells 0 [.ptr b 0 0, .sl d (2 * E) 0 l.length 1] false) := look_put_eq hg
    have g2 : AX.look d (putAt b (.cells 0 [.ptr b 0 0, .sl d (2 * E) 0 l.length 1] false) h) = some (.cells (2 * E) (bytesAV l) false) := by rw [look_put_ne (Ne.symm hdb)]; exact hd
    by_cases hx : x = []
    · subst hx
      simp -implicitDefEqProofs only [g1, List.length_nil, go_sem, seval]
      refine ⟨[b, d], ⟨_, .inr rfl, hbn, .inr ⟨d, E, rfl, hdb, hdn, hl0, look_put_eq g1, hE, ?_⟩⟩, Nat.le_refl _, fun id i1 i2 => ?_, fun id hid => .inl hid⟩
      · show AX.look d _ = _
        rw [look_put_ne (Ne.symm hdb), g2]
      have : b ≠ id := fun e => i2 (by simp [e])
      show AX.look id _ = _
      rw [look_put_ne this, look_put_ne this]; rfl
    · have hx0 : (x.length = 0) = False := by simp [hx]
      obtain ⟨M, hM, hM0⟩ : ∃ M, nextV true (2 * E) (l.length + x.length) = 2 * M ∧ 0 < M := ⟨_, nextV_even _ _ hE, by omega⟩
      have hdb' : (d = b) = False := eq_false hdb
      simp -implicitDefEqProofs only [g1, g2, hx0, hle2, hM, hdb', Nat.mul_one, len_bytesAV, Nat.le_refl, go_sem, seval]
      have ht : List.take l.length (bytesAV l) = bytesAV l := List.take_of_length_le (by rw [len_bytesAV]; exact Nat.le_refl _)
      refine ⟨[b, d], ⟨_, .inr rfl, hbn, .inr ⟨d, M, rfl, hdb, hdn, by simp [hl0], ?_, hM0, ?_⟩⟩, Nat.le_refl _, fun id i1 i2 => ?_, fun id hid => .inl hid⟩
      · show AX.look b (putAt b _ _) = _
        rw [List.length_append]
        refine look_put_eq (x := .cells 0 [.ptr b 0 0, .sl d (2 * E) 0 l.length 1] false) ?_
        rw [look_put_ne hdb]; exact g1
      · show AX.look d (putAt b _ _) = _
        rw [look_put_ne (Ne.symm hdb), ht, bytesAV_append]
        exact look_put_eq g2
      · have q1 : b ≠ id := fun e => i2 (by simp [e])
        have q2 : d ≠ id := fun e => i2 (by simp [e])
        show AX.look id _ = AX.look id h
        rw [look_put_ne q1, look_put_ne q2, look_put_ne q1]
end W09
/- tags.writer.words. -/
namespace W09
open Go Go.Proofs Go.AX Go.AX.Ty
theorem Bld.lt {b l D s} (h : Bld b l D s) : ∀ id ∈ D, id < s.next := by
  obtain ⟨y, hy, hbn, ⟨rfl, rfl, hg⟩ | ⟨d, E, rfl, hdb, hdn, hl0, hg, hE, hd⟩⟩ := h
  · intro id hid; simp at hid; omega
  · intro id hid; simp at hid; omega
theorem Bld.self {b l D s} (h : Bld b l D s) : b < s.next := h.choose_spec.2.1
theorem Bld.mem {b l D s} (h : Bld b l D s) : b ∈ D := by
  obtain ⟨y, hy, hbn, ⟨rfl, rfl, hg⟩ | ⟨d, E, rfl, hdb, hdn, hl0, hg, hE, hd⟩⟩ := h <;> simp
theorem Bld.move {b l D s s'} (h : Bld b l D s) (h1 : s.next ≤ s'.next) (h2 : ∀ id ∈ D, s'.get id = s.get id) : Bld b l D s' := by
  obtain ⟨y, hy, hbn, ⟨rfl, rfl, hg⟩ | ⟨d, E, rfl, hdb, hdn, hl0, hg, hE, hd⟩⟩ := h
  · exact ⟨y, hy, by omega, .inl ⟨rfl, rfl, by rw [h2 b (by simp)]; exact hg⟩⟩
  · exact ⟨y, hy, by omega, .inr ⟨d, E, rfl, hdb, by omega, hl0, by rw [h2 b (by simp)]; exact hg, hE, by rw [h2 d (by simp)]; exact hd⟩⟩
theorem BldR.refl {b l D s} (h : Bld b l D s) : BldR b l D s s := ⟨D, h, Nat.le_refl _, fun _ _ _ => rfl, fun _ h => .inl h⟩
theorem BldR.step {b m D D1 s s1 s2} (a2 : s.next ≤ s1.next) (a3 : ∀ id, id < s.next → id ∉ D → s1.get id = s.get id) (a4 : ∀ id ∈ D1, id ∈ D ∨ s.next ≤ id) (h2 : BldR b m D1 s1 s2) : BldR b m D s s2 := by
  obtain ⟨D2, b1, b2, b3, b4⟩ := h2
  refine ⟨D2, b1, by omega, fun id i1 i2 => ?_, fun id hid => ?_⟩
  · rw [b3 id (by omega) (fun hm => (a4 id hm).elim i2 (fun hh => by omega)), a3 id i1 i2]
  · rcases b4 id hid with hh | hh
    · rcases a4 id hh with h' | h'
      · exact .inl h'
      · exact .inr h'
    · exact .inr (by omega)
theorem flat_take {ws : List Str} {k : Nat} {x : Str} (hx : ws[k]? = some x) : (ws.take (k + 1)).flatten = (ws.take k).flatten ++ x := by
  rw [List.take_add_one, hx]; simp
theorem flat_le {ws : List Str} (k : Nat) : (ws.take k).flatten.length ≤ ws.flatten.length := by
  conv => rhs; rw [← List.take_append_drop k ws]
  rw [List.flatten_append, List.length_append]; omega
theorem w_words {s : St} {b : Nat} {l D : _} (ws : List Str) (hb : Bld b l D s) (hl : l.length + ws.flatten.length ≤ 140737488355328) (hw : ws.length ≤ 1000000) :
    ACalls Tryz.prog 33 [.ptr b 0 0, Enc.av ws] s fun v s' => v = .tup [] ∧ BldR b (l ++ ws.flatten) D s s' := by
  refine acalls_W mix (C0_ok _) c33 (by kernel_rfl) (Nat.le_of_ble_eq_true (by kernel_rfl)) ?_
  simp -implicitDefEqProofs only [F33, go_sem, seval]
  refine LoopI_sl (fun k : Nat => ws.length - k) (fun k => [(0, .ptr b 0 0), (6, Enc.av ws), (7, .int .i64 ws.length), (8, .int .i64 k)])
    (fun k s1 => k ≤ ws.length ∧ BldR b (l ++ (ws.take k).flatten) D s s1) 0 ?_ ?_
  · simp -implicitDefEqProofs only [go_sem, seval]
    simpa using BldR.refl hb
  rintro k ρ s1 ⟨h1, h2⟩
  rcases Nat.lt_or_ge k ws.length with hk | hk
  · obtain ⟨x, hx, hd, hm⟩ := get_drop hk
    have hlt : ((k : Int) < (ws.length : Int)) = True := eq_true (by omega)
    have w1 : IntKind.i64.wrap ((k : Int) + 1) = ((k + 1 : Nat) : Int) := by rw [wrap64 (by omega) (by omega)]; omega
    have hfl := flat_le (ws := ws) (k + 1)
    rw [flat_take hx, List.length_append] at hfl
    simp -implicitDefEqProofs only [hlt, hx, go_sem, seval]
    obtain ⟨D1, e1, e2, e3, e4⟩ := h2
    refine callI_gen ((w_WriteString x e1 (by rw [List.length_append]; omega)).mono fun v s2 ⟨hv, h3⟩ => ?_)
    subst hv
    simp -implicitDefEqProofs only [w1, go_sem, seval]
    exact ⟨k + 1, by omega, rfl, by omega, by rw [flat_take hx, ← List.append_assoc]; exact BldR.step e2 e3 e4 h3⟩
  · have hlt : ((k : Int) < (ws.length : Int)) = False := eq_false (by omega)
    simp -implicitDefEqProofs only [hlt, go_sem, seval]
    rw [List.take_of_length_le hk] at h2
    exact h2
end W09
/- strings.Replacer of the signs: WriteString, Replace. -/
namespace W09
open Go Go.AX Go.AX.Ty Go.Proofs
def stB (E : Nat) (l : Str) : St := ⟨[(1, .cells 1 [.sl 0 (2 * E + 1) 0 l.length 1] false), (0, .cells (2 * E + 1) (bytesAV l) false)], 2⟩
def nxE (E : Nat) (l x : Str) : Nat := if x = [] then E else max (E + 1) (l.length + x.length)
theorem w_asw (E : Nat) (l x : Str) (hl : l.length + x.length ≤ 140737488355328) : ACalls Tryz.prog 158 [.ptr 1 1 0, .str x] (stB E l) fun v s' => v = .tup [.int .i64 x.length, .nili] ∧ s' = stB (nxE E l x) (l ++ x) := by
  refine acalls_W mix (C0_ok _) c158 (by kernel_rfl) (Nat.le_of_ble_eq_true (by kernel_rfl)) ?_
  have hle2 : (l.length + x.length ≤ 140737488355328) = True := eq_true (by omega)
  simp -implicitDefEqProofs only [F158, stB, go_sem, seval]
  by_cases hx : x = []
  · subst hx
    simp -implicitDefEqProofs only [List.length_nil, go_sem, seval]
    simp [nxE]
  · have hx0 : (x.length = 0) = False := by simp [hx]
    have hM : nextV true (2 * E + 1) (l.length + x.length) = 2 * nxE E l x + 1 := by rw [nextV_odd, nxE, if_neg hx]
    have ht : List.take l.length (bytesAV l) = bytesAV l := List.take_of_length_le (by rw [len_bytesAV]; exact Nat.le_refl _)
    simp -implicitDefEqProofs only [hx0, hle2, hM, ht, Nat.mul_one, len_bytesAV, Nat.le_refl, go_sem, seval]
    simp [bytesAV_append, nxE, hx, Nat.max_def]
def plainG : Nat → Str → Str
  | _, [] => []
  | k + 1, _ :: r => plainG k r
  | 0, c :: r => if (lookB (c :: r)).2.2 = true then (lookB (c :: r)).1 ++ plainG ((lookB (c :: r)).2.1 - 1) r else c :: plainG 0 r
def plainB (s : Str) : Str := plainG 0 s
theorem plainG_drop : ∀ (k : Nat) (s : Str), plainG k s = plainG 0 (s.drop k)
  | 0, s => rfl
  | k + 1, [] => rfl
  | k + 1, c :: r => by rw [plainG, List.drop_succ_cons, plainG_drop k r]
theorem lookB_pos {s : Str} (h : (lookB s).2.2 = true) : 0 < (lookB s).2.1 ∧ (lookB s).2.1 ≤ s.length ∧ (lookB s).1.length ≤ 1 := by
  unfold lookB at h ⊢
  have hb : ∀ {p : Str}, hasB s p = true → p.length ≤ s.length := fun hh => by obtain ⟨r, rfl⟩ := hasB_iff.1 hh; simp
  repeat' split at h
  all_goals first | (simp at h; done) | skip
  · rename_i h1; simp only [h1, if_true]; have := hb h1; simp at this; exact ⟨by simp, by simpa using this, by simp⟩
  · rename_i h1 h2; simp only [h1, h2, if_true, if_false]; have := hb h2; simp at this; exact ⟨by simp, by simpa using this, by simp⟩
  · rename_i h1 h2 h3; simp only [h1, h2, h3, if_true, if_false]; have := hb h3; simp at this; exact ⟨by simp, by simpa using this, by simp⟩
  · rename_i h1 h2 h3 h4; simp only [h1, h2, h3, h4, if_true, if_false]; have := hb h4; simp at this; exact ⟨by simp, by simpa using this, by simp⟩
theorem plainB_hit {s : Str} (h : (lookB s).2.2 = true) : plainB s = (lookB s).1 ++ plainB (s.drop (lookB s).2.1) := by
  cases s with
  | nil => simp [lookB, hasB] at h
  | cons c r =>
    have := lookB_pos h
    show plainG 0 (c :: r) = _
    rw [plainG, if_pos h, plainG_drop]
    obtain ⟨k, hk⟩ : ∃ k, (lookB (c :: r)).2.1 = k + 1 := ⟨(lookB (c :: r)).2.1 - 1, by omega⟩
    rw [hk]; rfl
theorem plainB_miss {c : UInt8} {r : Str} (h : (lookB (c :: r)).2.2 = false) : plainB (c :: r) = c :: plainB r := by
  show plainG 0 (c :: r) = _
  rw [plainG, if_neg (by simp [h])]; rfl
theorem lookB_ne {c : UInt8} {r : Str} (h : c ≠ 38) : (lookB (c :: r)).2.2 = false := by
  simp [lookB, hasB_cons, h]
theorem plainG_len : ∀ (k : Nat) (s : Str), (plainG k s).length ≤ s.length
  | _, [] => by simp [plainG]
  | k + 1, _ :: r => by rw [plainG]; have := plainG_len k r; simp; omega
  | 0, c :: r => by
    rw [plainG]
    split
    · rename_i h
      have := lookB_pos h
      have h2 := plainG_len ((lookB (c :: r)).2.1 - 1) r
      simp; omega
    · have := plainG_len 0 r; simp; omega
end W09
/- strings.Replacer of the signs: WriteString, Replace. -/
namespace W09
open Go Go.AX Go.AX.Ty Go.Proofs
theorem st_gsw (s : St) : ACalls Tryz.prog 147 [.ifc 174 (.ptr 1 1 0)] s fun v s' => v = .ifc 174 (.ptr 1 1 0) ∧ s' = s := by
  obtain ⟨h, n⟩ := s
  refine acalls_W mix (C0_ok _) c147 (by kernel_rfl) (Nat.le_of_ble_eq_true (by kernel_rfl)) ?_
  have e : ([49, 72, 174, 184] : List Nat).contains 174 = true := by decide
  simp -implicitDefEqProofs only [F147, e, go_sem, seval]
theorem mp_other {c : UInt8} (h : c ≠ 38) : mpF c.toNat = 11 ∨ ∃ i : Nat, mpF c.toNat = i ∧ i < 11 ∧ elemA i 1 (.ps 11 tab0) = some (.vp (.nilp :: tab0.drop (i + 1))) := by
  have hn : c.toNat ≠ 38 := fun e => h (by rw [← UInt8.ofNat_toNat (x := c), e]; rfl)
  unfold mpF
  rw [if_neg hn]
  repeat' split
  all_goals first | (left; rfl) | (right; exact ⟨1, rfl, by omega, by simp [elemA, tab0]⟩) | (right; exact ⟨2, rfl, by omega, by simp [elemA, tab0]⟩) | (right; exact ⟨3, rfl, by omega, by simp [elemA, tab0]⟩) | (right; exact ⟨4, rfl, by omega, by simp [elemA, tab0]⟩) | (right; exact ⟨5, rfl, by omega, by simp [elemA, tab0]⟩) | (right; exact ⟨6, rfl, by omega, by simp [elemA, tab0]⟩) | (right; exact ⟨7, rfl, by omega, by simp [elemA, tab0]⟩) | (right; exact ⟨8, rfl, by omega, by simp [elemA, tab0]⟩) | (right; exact ⟨9, rfl, by omega, by simp [elemA, tab0]⟩) | (right; exact ⟨10, rfl, by omega, by simp [elemA, tab0]⟩)
theorem wf_stB (E : Nat) (l : Str) : Wf (stB E l) := fun id hid => by
  have h : 2 ≤ id := hid
  show AX.look id [(1, _), (0, _)] = none
  simp only [AX.look]
  rw [if_neg (by omega), if_neg (by omega)]
structure GS where
  i : Nat
  last : Nat
  n : Int
  E : Nat
  l : Str
theorem drop_at {s : Str} {i : Nat} {c : UInt8} (hc : s[i]? = some c) : s.drop i = c :: s.drop (i + 1) := by
  obtain ⟨h, rfl⟩ := List.getElem?_eq_some_iff.1 hc
  exact List.drop_eq_getElem_cons h
theorem take_at {s : Str} {i : Nat} {c : UInt8} (hc : s[i]? = some c) {k : Nat} (hk : k ≤ i) : (s.take (i + 1)).drop k = (s.take i).drop k ++ [c] := by
  rw [List.take_add_one, hc]
  have hi : i < s.length := (List.getElem?_eq_some_iff.1 hc).1
  rw [List.drop_append_of_le_length (by simp; omega)]
  rfl
theorem step_miss {s l : Str} {i last : Nat} {c : UInt8} (hc : s[i]? = some c) (h3 : last ≤ i) (hm : (lookB (s.drop i)).2.2 = false) (h5 : l ++ (s.take i).drop last ++ plainB (s.drop i) = plainB s) :
    l ++ (s.take (i + 1)).drop last ++ plainB (s.drop (i + 1)) = plainB s := by
  rw [drop_at hc] at hm h5
  rw [plainB_miss hm] at h5
  rw [take_at hc h3, ← h5]; simp
theorem step_hit {s l : Str} {i last : Nat} (hm : (lookB (s.drop i)).2.2 = true) (h5 : l ++ (s.take i).drop last ++ plainB (s.drop i) = plainB s) :
    (l ++ (s.take i).drop last ++ (lookB (s.drop i)).1) ++ (s.take (i + (lookB (s.drop i)).2.1)).drop (i + (lookB (s.drop i)).2.1) ++ plainB (s.drop (i + (lookB (s.drop i)).2.1)) = plainB s := by
  rw [plainB_hit hm, List.drop_drop] at h5
  have e : (s.take (i + (lookB (s.drop i)).2.1)).drop (i + (lookB (s.drop i)).2.1) = [] := List.drop_eq_nil_of_le (by rw [List.length_take]; omega)
  rw [← h5, e]; simp
set_option maxHeartbeats 8000000 in
set_option maxRecDepth 20000 in
theorem w_gWrite (s : Str) (hs : s.length ≤ 1000000) : ACalls Tryz.prog 146 [GP, .ifc 174 (.ptr 1 1 0), .str s] (stB 0 []) fun v s' => ∃ E, s' = stB E (plainB s) := by
  refine acalls_W mix (C0_ok _) c146 (by kernel_rfl) (Nat.le_of_ble_eq_true (by kernel_rfl)) ?_
  have m38 : mpC.drop 38 = .int .u8 0 :: mpC.drop 39 := mp_drop 38 (by omega)
  simp -implicitDefEqProofs only [F146, go_sem, seval]
  refine callI_st (st_gsw (stB 0 [])) ?_
  simp -implicitDefEqProofs only [stB, go_sem, seval]
  refine LoopI_sl (fun x : GS => s.length + 1 - x.i) (fun x => [(0, GP), (2, .str s), (6, .int .i64 x.n), (7, .nili), (8, .ifc 174 (.ptr 1 1 0)), (9, .int .i64 x.last), (11, .bool false), (12, .int .i64 x.i)])
    (fun x s' => s' = stB x.E x.l ∧ x.i ≤ s.length + 1 ∧ x.last ≤ x.i ∧ x.last ≤ s.length ∧ x.l ++ (s.take x.i).drop x.last ++ plainB (s.drop x.i) = plainB s ∧ x.l.length ≤ s.length) ⟨0, 0, 0, 0, []⟩ ?_ ?_
  · simp -implicitDefEqProofs only [go_sem, seval]
    rfl
  rintro ⟨i, last, n, E, l⟩ ρ s' ⟨h1, h2, h3, h4, h5, h6⟩
  dsimp only at h1 h2 h3 h4 h5 h6
  subst h1
  rcases Nat.lt_or_ge i s.length with hi | hi
  · have hle : ((i : Int) ≤ (s.length : Int)) = True := eq_true (by omega)
    have hne : ((i : Int) = (s.length : Int)) = False := eq_false (by omega)
    obtain ⟨c, hc⟩ : ∃ c, s[i]? = some c := ⟨s[i], by simp [hi]⟩
    have hcl : (c.toNat < 256) = True := eq_true c.toNat_lt
    have w1 : IntKind.i64.wrap ((i : Int) + 1) = ((i + 1 : Nat) : Int) := by rw [wrap64 (by omega) (by omega)]; omega
    by_cases h38 : c = 38
    · subst h38
      have hdr := drop_at hc
      have hil : (i ≤ s.length) = True := eq_true (by omega)
      simp -implicitDefEqProofs only [hle, hne, hc, hcl, GP, GPc, stB, m38, go_sem, seval]
      refine andI_intro (by kernel_rfl) ?_
      simp -implicitDefEqProofs only [el0, node1, hil, hdr, m38, GP, GPc, go_sem, seval]
      refine callI_pure (w_lookup _) ?_
      cases hh : (lookB (38 :: s.drop (i + 1))).2.2 with
      | false =>
        simp -implicitDefEqProofs only [w1, hh, go_sem, seval]
        exact ⟨⟨i + 1, last, n, E, l⟩, by dsimp only; omega, ⟨rfl, rfl, rfl⟩, rfl, by dsimp only; omega, by dsimp only; omega, h4, step_miss hc h3 (by rw [drop_at hc]; exact hh) h5, h6⟩
      | true =>
        have hp := lookB_pos hh
        have hk0 : (((lookB (38 :: s.drop (i + 1))).2.1 : Int) = 0) = False := eq_false (by omega)
        have hli : (last ≤ i ∧ i ≤ s.length) = True := eq_true ⟨h3, by omega⟩
        have hb5 := congrArg List.length h5
        have hpl := plainG_len 0 s
        have hb6 : l.length + ((s.take i).drop last).length ≤ s.length := by
          simp only [List.length_append] at hb5
          have : (plainB s).length ≤ s.length := hpl
          omega
        simp -implicitDefEqProofs only [w1, hh, hk0, hli, go_sem, seval]
        have hX : List.take (i - last) (List.drop last s) = (s.take i).drop last := (List.drop_take ..).symm
        rw [hX]
        refine dcallI_gen (w_asw E l ((s.take i).drop last) (by omega)) (wf_stB E l) (Nat.le_refl _) (wf_stB _ _) ?_
        simp -implicitDefEqProofs only [stB, go_sem, seval]
        refine andI_intro (by kernel_rfl) ?_
        simp -implicitDefEqProofs only [go_sem, seval]
        refine callI_st (w_asw (nxE E l ((s.take i).drop last)) (l ++ (s.take i).drop last) (lookB (38 :: s.drop (i + 1))).1 (by rw [List.length_append]; omega)) ?_
        have w3 : IntKind.i64.wrap ((i : Int) + ((lookB (38 :: s.drop (i + 1))).2.1 : Int)) = ((i + (lookB (38 :: s.drop (i + 1))).2.1 : Nat) : Int) := by
          have := hp.2.1
          simp only [List.length_cons, List.length_drop] at this
          rw [wrap64 (by omega) (by omega)]; omega
        simp -implicitDefEqProofs only [w3, stB, go_sem, seval]
        have h5' := step_hit (by rw [hdr]; exact hh) h5
        rw [hdr] at h5'
        have hp2 := hp.2.1
        simp only [List.length_cons, List.length_drop] at hp2
        have hb7 := congrArg List.length h5'
        refine ⟨⟨i + (lookB (38 :: s.drop (i + 1))).2.1, i + (lookB (38 :: s.drop (i + 1))).2.1, _, _, _⟩, by dsimp only; omega, ⟨rfl, rfl, by simp; omega, rfl⟩, rfl, by dsimp only; omega, Nat.le_refl _, by dsimp only; omega, h5', ?_⟩
        have : (plainB s).length ≤ s.length := hpl
        simp only [List.length_append] at hb7 ⊢
        omega
    · rcases mp_other h38 with hm | ⟨j, hm, hj, ht⟩
      · have hd := mp_drop c.toNat c.toNat_lt
        rw [hm] at hd
        simp -implicitDefEqProofs only [hle, hne, hc, hcl, GP, GPc, hd, stB, go_sem, seval]
        refine andI_intro (by kernel_rfl) ?_
        simp -implicitDefEqProofs only [w1, GP, GPc, go_sem, seval]
        exact ⟨⟨i + 1, last, n, E, l⟩, by dsimp only; omega, ⟨rfl, rfl, rfl⟩, rfl, by dsimp only; omega, by dsimp only; omega, h4, step_miss hc h3 (by rw [drop_at hc]; exact lookB_ne h38) h5, h6⟩
      · have hd := mp_drop c.toNat c.toNat_lt
        rw [hm] at hd
        have hj' : ((j : Int) = 11) = False := eq_false (by omega)
        have hwi : IntKind.i64.wrap (j : Int) = (j : Int) := wrap64 (by omega) (by omega)
        simp -implicitDefEqProofs only [hle, hne, hc, hcl, GP, GPc, hd, ht, stB, go_sem, seval]
        refine andI_intro (by kernel_rfl) ?_
        simp -implicitDefEqProofs only [w1, hj', hwi, ht, GP, GPc, go_sem, seval]
        exact ⟨⟨i + 1, last, n, E, l⟩, by dsimp only; omega, ⟨rfl, rfl, rfl⟩, rfl, by dsimp only; omega, by dsimp only; omega, h4, step_miss hc h3 (by rw [drop_at hc]; exact lookB_ne h38) h5, h6⟩
  · have hpl : (plainB s).length ≤ s.length := plainG_len 0 s
    have hdn : s.drop i = [] := List.drop_eq_nil_of_le hi
    have htk : s.take i = s := List.take_of_length_le hi
    have hb5 := congrArg List.length h5
    rw [hdn, htk] at h5
    rcases Nat.lt_or_ge s.length i with hi2 | hi2
    · have hle : ((i : Int) ≤ (s.length : Int)) = False := eq_false (by omega)
      simp -implicitDefEqProofs only [hle, go_sem, seval]
      by_cases hls : last = s.length
      · have h1 : ((last : Int) = (s.length : Int)) = True := eq_true (by omega)
        simp -implicitDefEqProofs only [h1, go_sem, seval]
        exact ⟨E, by rw [← h5, hls]; simp [plainB, plainG]⟩
      · have h1 : ((last : Int) = (s.length : Int)) = False := eq_false (by omega)
        have h2 : (last ≤ s.length) = True := eq_true h4
        have hb6 : l.length + (s.drop last).length ≤ s.length := by
          rw [htk] at hb5
          simp only [List.length_append] at hb5
          omega
        simp -implicitDefEqProofs only [h1, h2, stB, go_sem, seval]
        refine dcallI_gen (w_asw E l (s.drop last) (by omega)) (wf_stB E l) (Nat.le_refl _) (wf_stB _ _) ?_
        simp -implicitDefEqProofs only [stB, go_sem, seval]
        refine andI_intro (by kernel_rfl) ?_
        simp -implicitDefEqProofs only [go_sem, seval]
        exact ⟨nxE E l (s.drop last), by rw [show plainB s = l ++ s.drop last by rw [← h5]; simp [plainB, plainG]]; rfl⟩
    · have e : i = s.length := by omega
      subst e
      have hle : ((s.length : Int) ≤ (s.length : Int)) = True := eq_true (by omega)
      have hll : (s.length ≤ s.length) = True := eq_true (Nat.le_refl _)
      simp -implicitDefEqProofs only [hle, hll, List.drop_length, stB, GP, GPc, go_sem, seval]
      refine callI_pure look_nil ?_
      have w1 : IntKind.i64.wrap ((s.length : Int) + 1) = ((s.length + 1 : Nat) : Int) := by rw [wrap64 (by omega) (by omega)]; omega
      simp -implicitDefEqProofs only [w1, stB, go_sem, seval]
      exact ⟨⟨s.length + 1, last, n, E, l⟩, by dsimp only; omega, ⟨rfl, rfl, rfl⟩, rfl, Nat.le_refl _, by dsimp only; omega, h4, by dsimp only; rw [List.take_of_length_le (by omega), List.drop_eq_nil_of_le (by omega : s.length ≤ s.length + 1)]; exact h5, h6⟩
theorem bytesOf_AV : ∀ l : Str, bytesOf (bytesAV l) = some l
  | [] => rfl
  | b :: r => by
    have := bytesOf_AV r
    simp only [bytesAV, List.map_cons] at this ⊢
    have hb := b.toNat_lt
    simp [bytesOf, this]
theorem w_gRepl (s : Str) (hs : s.length ≤ 1000000) : PureF Tryz.prog 145 [GP, .str s] (.str (plainB s)) := by
  refine pureF_W mix c145 (by kernel_rfl) (by kernel_rfl) (by simp [flats, flat]; kernel_rfl) (by simp [flat, flats]) ?_
  have hle : (s.length ≤ 140737488355328) = True := eq_true (by omega)
  have hle2 : (s.length ≤ 9223372036854775807) = True := eq_true (by omega)
  simp -implicitDefEqProofs only [F145, hle, hle2, GP, GPc, go_sem, seval]
  refine callI_gen ((w_gWrite s hs).mono fun v s' ⟨E, hE⟩ => ?_)
  subst hE
  have hb := bytesOf_AV (plainB s)
  have h1 : ((plainB s).length ≤ (bytesAV (plainB s)).length) = True := eq_true (by rw [len_bytesAV]; exact Nat.le_refl _)
  have h2 : List.take (plainB s).length (bytesAV (plainB s)) = bytesAV (plainB s) := List.take_of_length_le (by rw [len_bytesAV]; exact Nat.le_refl _)
  simp -implicitDefEqProofs only [stB, hb, Nat.mul_one, h1, h2, go_sem, seval]
end W09
/- strings.Replacer that writes signs: Replace. -/
namespace W09
open Go Go.AX Go.AX.Ty Go.Proofs
theorem callable_count : Callable Tryz.prog 153 := ⟨_, Tryz.func153, by kernel_rfl, by kernel_rfl⟩
theorem w_Count (s : Str) (c : UInt8) : PureF Tryz.prog 153 [.str s, .str [c]] (.int .i64 (s.count c)) := by
  refine ⟨⟨callable_count, fun cx w vs hs hr => ?_⟩, rfl, rfl⟩
  simp only [RepL, Rep] at hr
  obtain ⟨u, us, rfl, rfl, u2, us2, rfl, rfl, rfl⟩ := hr
  refine (Tryz.strings_Count_one ⟨s.toArray⟩ c w).mono fun e w' ⟨h1, h2⟩ => ?_
  subst h2
  exact ⟨.int .i64 (s.count c), _, cx, _, h1, rfl, hs, Ext.refl _ _ _, rfl⟩
def sgB (c : UInt8) : Str := if c = 34 then [38, 113, 117, 111, 116, 59] else if c = 38 then [38, 97, 109, 112, 59] else if c = 60 then [38, 108, 116, 59] else if c = 62 then [38, 103, 116, 59] else [c]
def spB (c : UInt8) : Bool := c == 34 || c == 38 || c == 60 || c == 62
def signsB (s : Str) : Str := s.flatMap sgB
theorem sg_drop (b : Nat) (h : b < 256) : SGc.drop b = sgF b :: SGc.drop (b + 1) := by
  have h' : b < sgC.length := by simp [sgC, h]
  have h2 : b < SGc.length := by simp [SGc]; omega
  rw [List.drop_eq_getElem_cons h2]
  congr 1
  simp only [SGc]
  rw [List.getElem_append_left h']
  simp [sgC]
theorem sg_at (c : UInt8) : (spB c = true ∧ sgF c.toNat = .ps (sgB c).length (bytesAV (sgB c))) ∨ (spB c = false ∧ sgF c.toNat = .nils ∧ sgB c = [c]) := by
  have key : ∀ n : Nat, n < 256 → (c = UInt8.ofNat n ↔ c.toNat = n) := fun n hn => ⟨fun h => by rw [h, UInt8.toNat_ofNat', Nat.mod_eq_of_lt hn], fun h => by rw [← h, UInt8.ofNat_toNat]⟩
  have k34 := key 34 (by omega)
  have k38 := key 38 (by omega)
  have k60 := key 60 (by omega)
  have k62 := key 62 (by omega)
  by_cases h1 : c.toNat = 34
  · left; have := k34.2 h1; subst this; exact ⟨rfl, rfl⟩
  by_cases h2 : c.toNat = 38
  · left; have := k38.2 h2; subst this; exact ⟨rfl, rfl⟩
  by_cases h3 : c.toNat = 60
  · left; have := k60.2 h3; subst this; exact ⟨rfl, rfl⟩
  by_cases h4 : c.toNat = 62
  · left; have := k62.2 h4; subst this; exact ⟨rfl, rfl⟩
  right
  have n1 : c ≠ 34 := fun h => h1 (k34.1 h)
  have n2 : c ≠ 38 := fun h => h2 (k38.1 h)
  have n3 : c ≠ 60 := fun h => h3 (k60.1 h)
  have n4 : c ≠ 62 := fun h => h4 (k62.1 h)
  exact ⟨by simp [spB, n1, n2, n3, n4], by simp [sgF, h1, h2, h3, h4], by simp [sgB, n1, n2, n3, n4]⟩
theorem signs_same {s : Str} (h : s.any spB = false) : signsB s = s := by
  induction s with
  | nil => rfl
  | cons c r ih =>
    simp only [List.any_cons, Bool.or_eq_false_iff] at h
    simp only [signsB, List.flatMap_cons] at ih ⊢
    rw [ih h.2]
    rcases sg_at c with ⟨h1, _⟩ | ⟨_, _, h3⟩
    · rw [h.1] at h1; simp at h1
    · rw [h3]; rfl
end W09
/- strings.Replacer that writes signs: Replace. -/
namespace W09
open Go Go.AX Go.AX.Ty Go.Proofs
def szK (s : Str) (k : Nat) : Nat := s.length + (if 0 < k then s.count 34 * 5 else 0) + (if 1 < k then s.count 62 * 3 else 0) + (if 2 < k then s.count 60 * 3 else 0) + (if 3 < k then s.count 38 * 4 else 0)
def anyK (s : Str) (k : Nat) : Bool := decide (0 < k ∧ s.count 34 ≠ 0) || decide (1 < k ∧ s.count 62 ≠ 0) || decide (2 < k ∧ s.count 60 ≠ 0) || decide (3 < k ∧ s.count 38 ≠ 0)
theorem szK_le (s : Str) (k : Nat) : szK s k ≤ 21 * s.length := by
  have h : ∀ c : UInt8, s.count c ≤ s.length := fun c => List.count_le_length
  have h1 := h 34
  have h2 := h 62
  have h3 := h 60
  have h4 := h 38
  unfold szK
  repeat' split
  all_goals omega
theorem szK_end (s : Str) : szK s 4 = (signsB s).length := by
  have e : ∀ s : Str, szK s 4 = s.length + s.count 34 * 5 + s.count 62 * 3 + s.count 60 * 3 + s.count 38 * 4 := fun s => by simp [szK]
  rw [e]
  induction s with
  | nil => rfl
  | cons c r ih =>
    simp only [signsB, List.flatMap_cons, List.length_append] at ih ⊢
    rw [← ih]
    simp only [List.length_cons, List.count_cons]
    by_cases h1 : c = 34
    · subst h1; simp [sgB]; omega
    by_cases h2 : c = 62
    · subst h2; simp [sgB]; omega
    by_cases h3 : c = 60
    · subst h3; simp [sgB]; omega
    by_cases h4 : c = 38
    · subst h4; simp [sgB]; omega
    · simp [sgB, h1, h2, h3, h4]; omega
theorem anyK_end (s : Str) : anyK s 4 = s.any spB := by
  rw [Bool.eq_iff_iff]
  simp only [anyK, Bool.or_eq_true, decide_eq_true_eq, List.any_eq_true, spB, beq_iff_eq]
  have hc : ∀ c : UInt8, s.count c ≠ 0 ↔ c ∈ s := fun c => by rw [ne_eq, List.count_eq_zero, Classical.not_not]
  rw [hc, hc, hc, hc]
  constructor
  · rintro (((⟨_, h⟩ | ⟨_, h⟩) | ⟨_, h⟩) | ⟨_, h⟩)
    · exact ⟨_, h, by simp⟩
    · exact ⟨_, h, by simp⟩
    · exact ⟨_, h, by simp⟩
    · exact ⟨_, h, by simp⟩
  · rintro ⟨x, hx, ((rfl | rfl) | rfl) | rfl⟩ <;> simp [hx]
def nB (s : Str) (k : Nat) : Nat := (signsB (s.take k)).length + (s.length - k)
theorem sgB_len (c : UInt8) : 1 ≤ (sgB c).length ∧ (sgB c).length ≤ 6 := by
  unfold sgB; repeat' split
  all_goals simp
theorem signs_take {s : Str} {k : Nat} {c : UInt8} (h : s[k]? = some c) : signsB (s.take (k + 1)) = signsB (s.take k) ++ sgB c := by
  rw [List.take_add_one, h]; simp [signsB]
theorem any_take {s : Str} {k : Nat} {c : UInt8} (h : s[k]? = some c) : (s.take (k + 1)).any spB = ((s.take k).any spB || spB c) := by
  rw [List.take_add_one, h]; simp
theorem signs_len (s : Str) : (signsB s).length ≤ 6 * s.length := by
  induction s with
  | nil => simp [signsB]
  | cons c r ih => simp only [signsB, List.flatMap_cons, List.length_append, List.length_cons] at ih ⊢; have := (sgB_len c).2; omega
theorem nB_step {s : Str} {k : Nat} {c : UInt8} (h : s[k]? = some c) : nB s (k + 1) + 1 = nB s k + (sgB c).length := by
  have hk : k < s.length := (List.getElem?_eq_some_iff.1 h).1
  unfold nB; rw [signs_take h, List.length_append]; omega
theorem nB_le (s : Str) (k : Nat) : nB s k ≤ 7 * s.length := by
  unfold nB
  have := signs_len (s.take k)
  simp only [List.length_take] at this
  omega
def cW (s : Str) (k : Nat) : List AV := bytesAV (signsB (s.take k)) ++ List.replicate ((signsB s).length - (signsB (s.take k)).length) (.int .u8 0)
theorem signs_split (s : Str) (k : Nat) : signsB s = signsB (s.take k) ++ signsB (s.drop k) := by
  simp only [signsB]
  rw [← List.flatMap_append, List.take_append_drop]
theorem signs_at {s : Str} {k : Nat} {c : UInt8} (h : s[k]? = some c) : (signsB (s.take k)).length + (sgB c).length ≤ (signsB s).length := by
  rw [signs_split s (k + 1), List.length_append, signs_take h, List.length_append]; omega
theorem cW_len (s : Str) (k : Nat) : (cW s k).length = (signsB s).length := by
  have := congrArg List.length (signs_split s k)
  simp only [List.length_append] at this
  simp [cW, bytesAV]; omega
theorem cW_step {s : Str} {k : Nat} {c : UInt8} (h : s[k]? = some c) : (cW s k).take (signsB (s.take k)).length ++ bytesAV (sgB c) ++ (cW s k).drop ((signsB (s.take k)).length + (sgB c).length) = cW s (k + 1) := by
  have h1 : (bytesAV (signsB (s.take k))).length = (signsB (s.take k)).length := by simp [bytesAV]
  have h2 := signs_at h
  unfold cW
  rw [List.take_append_of_le_length (by omega), List.take_of_length_le (by omega), List.drop_append, List.drop_of_length_le (by omega), List.nil_append, List.drop_replicate, signs_take h, h1]
  rw [← bytesAV_append, List.length_append]
  congr 2
  omega
theorem cW_end (s : Str) : cW s s.length = bytesAV (signsB s) := by simp [cW]
theorem cW_zero (s : Str) : cW s 0 = List.replicate (signsB s).length (.int .u8 0) := by simp [cW, signsB, bytesAV]
theorem bytesOf_AV' : ∀ l : Str, bytesOf (bytesAV l) = some l
  | [] => rfl
  | b :: r => by
    have := bytesOf_AV' r
    simp only [bytesAV, List.map_cons] at this ⊢
    have hb := b.toNat_lt
    simp [bytesOf, this]
set_option maxHeartbeats 8000000 in
set_option maxRecDepth 20000 in
theorem w_bRepl (s : Str) (hs : s.length ≤ 1000000) : PureF Tryz.prog 151 [SG, .str s] (.str (signsB s)) := by
  refine pureF_W mix c151 (by kernel_rfl) (by kernel_rfl) (by simp [flats, flat]; kernel_rfl) (by simp [flat, flats]) ?_
  have h256 : SGc.drop 256 = [.ps 4 [.str [34], .str [62], .str [60], .str [38]]] := by rw [SGc, List.drop_left' (by simp [sgC])]
  simp -implicitDefEqProofs only [F151, SG, h256, go_sem, seval]
  rcases Nat.lt_or_ge s.length 32 with h32 | h32
  · have hlt : ((32 : Int) ≤ (s.length : Int)) = False := eq_false (by omega)
    simp -implicitDefEqProofs only [hlt, go_sem, seval]
    refine LoopI_sl (fun k : Nat => s.length - k) (fun k => [(0, SG), (1, .str s), (5, .int .i64 (nB s k)), (6, .bool ((s.take k).any spB)), (10, .int .i64 k)])
      (fun k s' => s' = ⟨[], 0⟩ ∧ k ≤ s.length) 0 ?_ ?_
    · simp -implicitDefEqProofs only [SG, go_sem, seval]
      simp [nB, signsB]
    rintro k ρ s' ⟨rfl, hk0⟩
    rcases Nat.lt_or_ge k s.length with hk | hk
    · obtain ⟨c, hc⟩ : ∃ c, s[k]? = some c := ⟨s[k], by simp [hk]⟩
      have hkl : ((k : Int) < (s.length : Int)) = True := eq_true (by omega)
      have hcl : (c.toNat < 256) = True := eq_true c.toNat_lt
      have w1 : IntKind.i64.wrap ((k : Int) + 1) = ((k + 1 : Nat) : Int) := by rw [wrap64 (by omega) (by omega)]; omega
      have hd := sg_drop c.toNat c.toNat_lt
      have hst := nB_step hc
      have hle := nB_le s k
      have hsl := sgB_len c
      rcases sg_at c with ⟨hsp, hf⟩ | ⟨hsp, hf, hone⟩
      · rw [hf] at hd
        have hp : (0 < (sgB c).length) = True := eq_true (by omega)
        have w2 : IntKind.i64.wrap (((sgB c).length : Int) - 1) = ((sgB c).length : Int) - 1 := wrap64 (by omega) (by omega)
        have w3 : IntKind.i64.wrap ((nB s k : Int) + (((sgB c).length : Int) - 1)) = (nB s (k + 1) : Int) := by rw [wrap64 (by omega) (by omega)]; omega
        simp -implicitDefEqProofs only [hkl, hc, hcl, SG, hd, hp, w1, w2, w3, go_sem, seval]
        exact ⟨k + 1, by omega, ⟨rfl, by rw [any_take hc, hsp]; simp, rfl⟩, by omega⟩
      · rw [hf] at hd
        simp -implicitDefEqProofs only [hkl, hc, hcl, SG, hd, w1, go_sem, seval]
        have hn1 : nB s (k + 1) = nB s k := by rw [hone] at hst; simp at hst; omega
        exact ⟨k + 1, by omega, ⟨by rw [hn1], by rw [any_take hc, hsp]; simp, rfl⟩, by omega⟩
    · have hkl : ((k : Int) < (s.length : Int)) = False := eq_false (by omega)
      have hkk : k = s.length := by omega
      subst hkk
      have hN : nB s s.length = (signsB s).length := by simp [nB]
      rw [List.take_length, hN]
      simp -implicitDefEqProofs only [hkl, go_sem, seval]
      cases hany : s.any spB with
      | false =>
        rw [signs_same hany]
        simp -implicitDefEqProofs only [go_sem, seval]
      | true =>
        have hsl := signs_len s
        have hb1 : ((signsB s).length ≤ 140737488355328) = True := eq_true (by omega)
        have hb2 : ((signsB s).length ≤ 9223372036854775807) = True := eq_true (by omega)
        simp -implicitDefEqProofs only [hb1, hb2, Nat.mul_one, go_sem, seval]
        refine LoopI_sl (fun k : Nat => s.length - k) (fun k => [(0, SG), (1, .str s), (12, .sl 0 (2 * (signsB s).length + 1) 0 (signsB s).length 1), (13, .int .i64 (signsB (s.take k)).length), (14, .int .i64 k)])
          (fun k s' => s' = ⟨[(0, .cells (2 * (signsB s).length + 1) (cW s k) false)], 1⟩ ∧ k ≤ s.length) 0 ?_ ?_
        · simp -implicitDefEqProofs only [SG, go_sem, seval]
          simp [cW_zero, signsB]
        rintro k ρ s' ⟨rfl, hk0⟩
        rcases Nat.lt_or_ge k s.length with hk | hk
        · obtain ⟨c, hc⟩ : ∃ c, s[k]? = some c := ⟨s[k], by simp [hk]⟩
          have hkl : ((k : Int) < (s.length : Int)) = True := eq_true (by omega)
          have hcl : (c.toNat < 256) = True := eq_true c.toNat_lt
          have w1 : IntKind.i64.wrap ((k : Int) + 1) = ((k + 1 : Nat) : Int) := by rw [wrap64 (by omega) (by omega)]; omega
          have hd := sg_drop c.toNat c.toNat_lt
          have hat := signs_at hc
          have hcw := cW_step hc
          have hcl2 := cW_len s k
          have hst := signs_take hc
          rcases sg_at c with ⟨hsp, hf⟩ | ⟨hsp, hf, hone⟩
          · rw [hf] at hd
            have hp : (0 < (sgB c).length) = True := eq_true (by have := sgB_len c; omega)
            have hm1 : ((signsB (s.take k)).length ≤ (signsB s).length) = True := eq_true (by omega)
            have hm2 : ((sgB c).length ≤ (signsB s).length - (signsB (s.take k)).length) = True := eq_true (by omega)
            have hm3 : ((signsB (s.take k)).length + (sgB c).length ≤ (cW s k).length) = True := eq_true (by omega)
            have w2 : IntKind.i64.wrap (((signsB (s.take k)).length : Int) + ((sgB c).length : Int)) = ((signsB (s.take (k + 1))).length : Int) := by rw [hst, List.length_append, wrap64 (by omega) (by omega)]; omega
            have hl1 := sgB_len c
            rcases Nat.eq_zero_or_pos (signsB (s.take k)).length with h0 | h0
            · rw [h0] at hcw w2 hm2 hm3 hm1
              simp only [List.take_zero, List.nil_append, Nat.zero_add, Nat.sub_zero] at hcw hm2 hm3
              have h0' : ((signsB (s.take k)).length = 0) = True := eq_true h0
              have w2z : IntKind.i64.wrap (0 + ((sgB c).length : Int)) = ((signsB (s.take (k + 1))).length : Int) := w2
              simp -implicitDefEqProofs only [hkl, hc, hcl, SG, hd, hp, w1, h0, hm1, hm2, hm3, Nat.mul_one, len_bytesAV, hcw, w2, go_sem, seval]
              refine andI_intro (by kernel_rfl) ?_
              simp -implicitDefEqProofs only [w1, w2, hcw, go_sem, seval]
              exact ⟨k + 1, by omega, ⟨by rw [w2z], rfl⟩, rfl, by omega⟩
            · have h0' : ((signsB (s.take k)).length = 0) = False := eq_false (by omega)
              have hm4 : ((signsB (s.take k)).length < (signsB s).length) = True := eq_true (by omega)
              simp -implicitDefEqProofs only [hkl, hc, hcl, SG, hd, hp, w1, h0', hm1, hm2, hm3, hm4, Nat.mul_one, len_bytesAV, hcw, w2, go_sem, seval]
              refine andI_intro (by kernel_rfl) ?_
              simp -implicitDefEqProofs only [w1, w2, hcw, go_sem, seval]
              exact ⟨k + 1, by omega, ⟨rfl, rfl⟩, rfl, by omega⟩
          · rw [hf] at hd
            rw [hone] at hat hcw hst
            simp only [List.length_cons, List.length_nil, Nat.zero_add, bytesAV, List.map_cons, List.map_nil] at hat hcw
            have hm1 : ((signsB (s.take k)).length < (signsB s).length) = True := eq_true (by omega)
            have hm3 : ((signsB (s.take k)).length + 1 ≤ (cW s k).length) = True := eq_true (by omega)
            have w2 : IntKind.i64.wrap (((signsB (s.take k)).length : Int) + 1) = ((signsB (s.take (k + 1))).length : Int) := by rw [hst, List.length_append, wrap64 (by omega) (by omega)]; simp
            simp -implicitDefEqProofs only [hkl, hc, hcl, SG, hd, w1, hm1, hm3, hcw, w2, go_sem, seval]
            exact ⟨k + 1, by omega, ⟨rfl, rfl⟩, rfl, by omega⟩
        · have hkl : ((k : Int) < (s.length : Int)) = False := eq_false (by omega)
          have hkk : k = s.length := by omega
          subst hkk
          have h1 : ((signsB s).length ≤ (bytesAV (signsB s)).length) = True := eq_true (by rw [len_bytesAV]; exact Nat.le_refl _)
          have h2 : List.take (signsB s).length (bytesAV (signsB s)) = bytesAV (signsB s) := List.take_of_length_le (by rw [len_bytesAV]; exact Nat.le_refl _)
          have hb := bytesOf_AV' (signsB s)
          simp -implicitDefEqProofs only [hkl, cW_end, h1, h2, hb, go_sem, seval]
  · have hlt : ((32 : Int) ≤ (s.length : Int)) = True := eq_true (by omega)
    simp -implicitDefEqProofs only [hlt, h256, go_sem, seval]
    refine LoopI_sl (fun k : Nat => 4 - k) (fun k => [(0, SG), (1, .str s), (5, .int .i64 (szK s k)), (6, .bool (anyK s k)), (30, .ps 4 [.str [34], .str [62], .str [60], .str [38]]), (31, .int .i64 4), (32, .int .i64 k)])
      (fun k s' => s' = ⟨[], 0⟩ ∧ k ≤ 4) 0 ?_ ?_
    · simp -implicitDefEqProofs only [SG, go_sem, seval]
      simp [szK, anyK]
    rintro k ρ s' ⟨rfl, hk0⟩
    have hcle : ∀ c : UInt8, s.count c ≤ s.length := fun c => List.count_le_length
    rcases (by omega : k = 0 ∨ k = 1 ∨ k = 2 ∨ k = 3 ∨ k = 4) with rfl | rfl | rfl | rfl | rfl
    · have hq := hcle 34
      have hd := sg_drop 34 (by omega)
      have hs1 := szK_le s 0
      have hs2 : szK s 1 = szK s 0 + s.count 34 * 5 := by simp [szK]
      have hel : elemA 0 1 (.ps 4 [.str [34], .str [62], .str [60], .str [38]]) = some (.vp [.str [34], .str [62], .str [60], .str [38]]) := by simp [elemA]
      have w2 : IntKind.i64.wrap ((s.count 34 : Int) * 5) = ((s.count 34 * 5 : Nat) : Int) := by rw [wrap64 (by omega) (by omega)]; omega
      have w3 : IntKind.i64.wrap ((szK s 0 : Int) + ((s.count 34 * 5 : Nat) : Int)) = (szK s 1 : Int) := by rw [wrap64 (by omega) (by omega)]; omega
      simp -implicitDefEqProofs only [hel, go_sem, seval]
      refine callI_pure (w_Count s 34) ?_
      by_cases h0 : s.count 34 = 0
      · have h0' : ((s.count 34 : Int) = 0) = True := eq_true (by omega)
        simp -implicitDefEqProofs only [h0', go_sem, seval]
        exact ⟨1, by omega, ⟨by rw [hs2, h0]; simp, by simp [anyK, h0], rfl⟩, by omega⟩
      · have h0' : ((s.count 34 : Int) = 0) = False := eq_false (by omega)
        have hf : sgF 34 = .ps 6 (byA (sgB 34)) := rfl
        have w4 : IntKind.i64.wrap 5 = 5 := rfl
        simp -implicitDefEqProofs only [h0', SG, hd, hf, w2, w3, w4, go_sem, seval]
        refine andI_intro (by kernel_rfl) ?_
        simp -implicitDefEqProofs only [w2, w3, go_sem, seval]
        exact ⟨1, by omega, ⟨rfl, by simp [anyK, h0], rfl⟩, by omega⟩
    · have hq := hcle 62
      have hd := sg_drop 62 (by omega)
      have hs1 := szK_le s 1
      have hs2 : szK s 2 = szK s 1 + s.count 62 * 3 := by simp [szK]
      have hel : elemA 1 1 (.ps 4 [.str [34], .str [62], .str [60], .str [38]]) = some (.vp [.str [62], .str [60], .str [38]]) := by simp [elemA]
      have w2 : IntKind.i64.wrap ((s.count 62 : Int) * 3) = ((s.count 62 * 3 : Nat) : Int) := by rw [wrap64 (by omega) (by omega)]; omega
      have w3 : IntKind.i64.wrap ((szK s 1 : Int) + ((s.count 62 * 3 : Nat) : Int)) = (szK s 2 : Int) := by rw [wrap64 (by omega) (by omega)]; omega
      simp -implicitDefEqProofs only [hel, go_sem, seval]
      refine callI_pure (w_Count s 62) ?_
      by_cases h0 : s.count 62 = 0
      · have h0' : ((s.count 62 : Int) = 0) = True := eq_true (by omega)
        simp -implicitDefEqProofs only [h0', go_sem, seval]
        exact ⟨2, by omega, ⟨by rw [hs2, h0]; simp, by simp [anyK, h0], rfl⟩, by omega⟩
      · have h0' : ((s.count 62 : Int) = 0) = False := eq_false (by omega)
        have hf : sgF 62 = .ps 4 (byA (sgB 62)) := rfl
        have w4 : IntKind.i64.wrap 3 = 3 := rfl
        simp -implicitDefEqProofs only [h0', SG, hd, hf, w2, w3, w4, go_sem, seval]
        refine andI_intro (by kernel_rfl) ?_
        simp -implicitDefEqProofs only [w2, w3, go_sem, seval]
        exact ⟨2, by omega, ⟨rfl, by simp [anyK, h0], rfl⟩, by omega⟩
    · have hq := hcle 60
      have hd := sg_drop 60 (by omega)
      have hs1 := szK_le s 2
      have hs2 : szK s 3 = szK s 2 + s.count 60 * 3 := by simp [szK]
      have hel : elemA 2 1 (.ps 4 [.str [34], .str [62], .str [60], .str [38]]) = some (.vp [.str [60], .str [38]]) := by simp [elemA]
      have w2 : IntKind.i64.wrap ((s.count 60 : Int) * 3) = ((s.count 60 * 3 : Nat) : Int) := by rw [wrap64 (by omega) (by omega)]; omega
      have w3 : IntKind.i64.wrap ((szK s 2 : Int) + ((s.count 60 * 3 : Nat) : Int)) = (szK s 3 : Int) := by rw [wrap64 (by omega) (by omega)]; omega
      simp -implicitDefEqProofs only [hel, go_sem, seval]
      refine callI_pure (w_Count s 60) ?_
      by_cases h0 : s.count 60 = 0
      · have h0' : ((s.count 60 : Int) = 0) = True := eq_true (by omega)
        simp -implicitDefEqProofs only [h0', go_sem, seval]
        exact ⟨3, by omega, ⟨by rw [hs2, h0]; simp, by simp [anyK, h0], rfl⟩, by omega⟩
      · have h0' : ((s.count 60 : Int) = 0) = False := eq_false (by omega)
        have hf : sgF 60 = .ps 4 (byA (sgB 60)) := rfl
        have w4 : IntKind.i64.wrap 3 = 3 := rfl
        simp -implicitDefEqProofs only [h0', SG, hd, hf, w2, w3, w4, go_sem, seval]
        refine andI_intro (by kernel_rfl) ?_
        simp -implicitDefEqProofs only [w2, w3, go_sem, seval]
        exact ⟨3, by omega, ⟨rfl, by simp [anyK, h0], rfl⟩, by omega⟩
    · have hq := hcle 38
      have hd := sg_drop 38 (by omega)
      have hs1 := szK_le s 3
      have hs2 : szK s 4 = szK s 3 + s.count 38 * 4 := by simp [szK]
      have hel : elemA 3 1 (.ps 4 [.str [34], .str [62], .str [60], .str [38]]) = some (.vp [.str [38]]) := by simp [elemA]
      have w2 : IntKind.i64.wrap ((s.count 38 : Int) * 4) = ((s.count 38 * 4 : Nat) : Int) := by rw [wrap64 (by omega) (by omega)]; omega
      have w3 : IntKind.i64.wrap ((szK s 3 : Int) + ((s.count 38 * 4 : Nat) : Int)) = (szK s 4 : Int) := by rw [wrap64 (by omega) (by omega)]; omega
      simp -implicitDefEqProofs only [hel, go_sem, seval]
      refine callI_pure (w_Count s 38) ?_
      by_cases h0 : s.count 38 = 0
      · have h0' : ((s.count 38 : Int) = 0) = True := eq_true (by omega)
        simp -implicitDefEqProofs only [h0', go_sem, seval]
        exact ⟨4, by omega, ⟨by rw [hs2, h0]; simp, by simp [anyK, h0], rfl⟩, by omega⟩
      · have h0' : ((s.count 38 : Int) = 0) = False := eq_false (by omega)
        have hf : sgF 38 = .ps 5 (byA (sgB 38)) := rfl
        have w4 : IntKind.i64.wrap 4 = 4 := rfl
        simp -implicitDefEqProofs only [h0', SG, hd, hf, w2, w3, w4, go_sem, seval]
        refine andI_intro (by kernel_rfl) ?_
        simp -implicitDefEqProofs only [w2, w3, go_sem, seval]
        exact ⟨4, by omega, ⟨rfl, by simp [anyK, h0], rfl⟩, by omega⟩
    · rw [szK_end, anyK_end]
      simp -implicitDefEqProofs only [go_sem, seval]
      cases hany : s.any spB with
      | false =>
        rw [signs_same hany]
        simp -implicitDefEqProofs only [go_sem, seval]
      | true =>
        have hsl := signs_len s
        have hb1 : ((signsB s).length ≤ 140737488355328) = True := eq_true (by omega)
        have hb2 : ((signsB s).length ≤ 9223372036854775807) = True := eq_true (by omega)
        simp -implicitDefEqProofs only [hb1, hb2, Nat.mul_one, go_sem, seval]
        refine LoopI_sl (fun k : Nat => s.length - k) (fun k => [(0, SG), (1, .str s), (12, .sl 0 (2 * (signsB s).length + 1) 0 (signsB s).length 1), (13, .int .i64 (signsB (s.take k)).length), (14, .int .i64 k)])
          (fun k s' => s' = ⟨[(0, .cells (2 * (signsB s).length + 1) (cW s k) false)], 1⟩ ∧ k ≤ s.length) 0 ?_ ?_
        · simp -implicitDefEqProofs only [SG, go_sem, seval]
          simp [cW_zero, signsB]
        rintro k ρ s' ⟨rfl, hk0⟩
        rcases Nat.lt_or_ge k s.length with hk | hk
        · obtain ⟨c, hc⟩ : ∃ c, s[k]? = some c := ⟨s[k], by simp [hk]⟩
          have hkl : ((k : Int) < (s.length : Int)) = True := eq_true (by omega)
          have hcl : (c.toNat < 256) = True := eq_true c.toNat_lt
          have w1 : IntKind.i64.wrap ((k : Int) + 1) = ((k + 1 : Nat) : Int) := by rw [wrap64 (by omega) (by omega)]; omega
          have hd := sg_drop c.toNat c.toNat_lt
          have hat := signs_at hc
          have hcw := cW_step hc
          have hcl2 := cW_len s k
          have hst := signs_take hc
          rcases sg_at c with ⟨hsp, hf⟩ | ⟨hsp, hf, hone⟩
          · rw [hf] at hd
            have hp : (0 < (sgB c).length) = True := eq_true (by have := sgB_len c; omega)
            have hm1 : ((signsB (s.take k)).length ≤ (signsB s).length) = True := eq_true (by omega)
            have hm2 : ((sgB c).length ≤ (signsB s).length - (signsB (s.take k)).length) = True := eq_true (by omega)
            have hm3 : ((signsB (s.take k)).length + (sgB c).length ≤ (cW s k).length) = True := eq_true (by omega)
            have w2 : IntKind.i64.wrap (((signsB (s.take k)).length : Int) + ((sgB c).length : Int)) = ((signsB (s.take (k + 1))).length : Int) := by rw [hst, List.length_append, wrap64 (by omega) (by omega)]; omega
            have hl1 := sgB_len c
            rcases Nat.eq_zero_or_pos (signsB (s.take k)).length with h0 | h0
            · rw [h0] at hcw w2 hm2 hm3 hm1
              simp only [List.take_zero, List.nil_append, Nat.zero_add, Nat.sub_zero] at hcw hm2 hm3
              have h0' : ((signsB (s.take k)).length = 0) = True := eq_true h0
              simp -implicitDefEqProofs only [hkl, hc, hcl, SG, hd, hp, w1, h0, hm1, hm2, hm3, Nat.mul_one, len_bytesAV, hcw, w2, go_sem, seval]
              refine andI_intro (by kernel_rfl) ?_
              simp -implicitDefEqProofs only [w1, w2, hcw, go_sem, seval]
              have w2z : IntKind.i64.wrap (0 + ((sgB c).length : Int)) = ((signsB (s.take (k + 1))).length : Int) := w2
              exact ⟨k + 1, by omega, ⟨by rw [w2z], rfl⟩, rfl, by omega⟩
            · have h0' : ((signsB (s.take k)).length = 0) = False := eq_false (by omega)
              have hm4 : ((signsB (s.take k)).length < (signsB s).length) = True := eq_true (by omega)
              simp -implicitDefEqProofs only [hkl, hc, hcl, SG, hd, hp, w1, h0', hm1, hm2, hm3, hm4, Nat.mul_one, len_bytesAV, hcw, w2, go_sem, seval]
              refine andI_intro (by kernel_rfl) ?_
              simp -implicitDefEqProofs only [w1, w2, hcw, go_sem, seval]
              exact ⟨k + 1, by omega, ⟨rfl, rfl⟩, rfl, by omega⟩
          · rw [hf] at hd
            rw [hone] at hat hcw hst
            simp only [List.length_cons, List.length_nil, Nat.zero_add, bytesAV, List.map_cons, List.map_nil] at hat hcw
            have hm1 : ((signsB (s.take k)).length < (signsB s).length) = True := eq_true (by omega)
            have hm3 : ((signsB (s.take k)).length + 1 ≤ (cW s k).length) = True := eq_true (by omega)
            have w2 : IntKind.i64.wrap (((signsB (s.take k)).length : Int) + 1) = ((signsB (s.take (k + 1))).length : Int) := by rw [hst, List.length_append, wrap64 (by omega) (by omega)]; simp
            simp -implicitDefEqProofs only [hkl, hc, hcl, SG, hd, w1, hm1, hm3, hcw, w2, go_sem, seval]
            exact ⟨k + 1, by omega, ⟨rfl, rfl⟩, rfl, by omega⟩
        · have hkl : ((k : Int) < (s.length : Int)) = False := eq_false (by omega)
          have hkk : k = s.length := by omega
          subst hkk
          have h1 : ((signsB s).length ≤ (bytesAV (signsB s)).length) = True := eq_true (by rw [len_bytesAV]; exact Nat.le_refl _)
          have h2 : List.take (signsB s).length (bytesAV (signsB s)) = bytesAV (signsB s) := List.take_of_length_le (by rw [len_bytesAV]; exact Nat.le_refl _)
          have hb := bytesOf_AV' (signsB s)
          simp -implicitDefEqProofs only [hkl, cW_end, h1, h2, hb, go_sem, seval]
end W09
/- The scanner: strings.Cut, strings.Index. -/
namespace W09
open Go Go.AX Go.AX.Ty Go.Proofs
def frontB (e : Str) : Str → Str
  | [] => []
  | c :: r => if hasB (c :: r) e = true then [] else c :: frontB e r
def restB (e : Str) : Str → Str
  | [] => []
  | c :: r => if hasB (c :: r) e = true then (c :: r).drop e.length else restB e r
theorem hasB_pre (s p : Str) : p.isPrefixOf s = hasB s p := by
  rw [Bool.eq_iff_iff, hasB_iff]
  rw [List.isPrefixOf_iff_prefix]
  exact ⟨fun ⟨r, h⟩ => ⟨r, h.symm⟩, fun ⟨r, h⟩ => ⟨r, h.symm⟩⟩
def idxOf (e : Str) : Str → Option Nat
  | [] => none
  | c :: r => if hasB (c :: r) e = true then some 0 else (idxOf e r).map (· + 1)
theorem index_eq {e : Str} (he : e ≠ []) : ∀ s : Str, Lib.index s e = match idxOf e s with | some i => (i : Int) | none => -1
  | [] => by cases e with
    | nil => exact absurd rfl he
    | cons x y => rfl
  | c :: r => by
    simp only [Lib.index, idxOf, hasB_pre]
    have ih := index_eq he r
    cases hasB (c :: r) e with
    | true => rfl
    | false =>
      simp only [Bool.false_eq_true, if_false]
      rw [ih]
      cases idxOf e r with
      | none => rfl
      | some i =>
        simp only [Option.map_some]
        rw [if_neg (by simp)]
        rfl
theorem cut_at {e : Str} : ∀ s : Str, (match idxOf e s with | some i => (s.take i, s.drop (i + e.length)) | none => (s, [])) = (frontB e s, restB e s)
  | [] => rfl
  | c :: r => by
    simp only [idxOf, frontB, restB]
    have ih := cut_at (e := e) r
    cases hasB (c :: r) e with
    | true => simp
    | false =>
      simp only [Bool.false_eq_true, if_false]
      cases hi : idxOf e r with
      | none => rw [hi] at ih; simp only [Prod.mk.injEq] at ih; simp only [Option.map_none]; rw [← ih.1, ← ih.2]
      | some i =>
        rw [hi] at ih; simp only [Prod.mk.injEq] at ih; simp only [Option.map_some]; rw [← ih.1, ← ih.2]
        simp only [List.take_succ_cons, Prod.mk.injEq, true_and]
        rw [show i + 1 + e.length = (i + e.length) + 1 by omega, List.drop_succ_cons]
theorem cut_eq {e : Str} (he : e ≠ []) (s : Str) : (Lib.cut s e).1 = frontB e s ∧ (Lib.cut s e).2.1 = restB e s := by
  have h1 := index_eq he s
  have h2 := cut_at (e := e) s
  unfold Lib.cut
  cases hi : idxOf e s with
  | none =>
    rw [hi] at h1 h2; simp only [Prod.mk.injEq] at h1 h2
    rw [h1, if_neg (by omega)]
    exact h2
  | some i =>
    rw [hi] at h1 h2; simp only [Prod.mk.injEq] at h1 h2
    rw [h1, if_pos (by omega)]
    simpa using h2
theorem callable_cut : Callable Tryz.prog 63 := ⟨_, Tryz.func63, by kernel_rfl, by kernel_rfl⟩
theorem callable_index : Callable Tryz.prog 70 := ⟨_, Tryz.func70, by kernel_rfl, by kernel_rfl⟩
theorem w_Cut (s : Str) {e : Str} (he : e ≠ []) (hs : s.length ≤ 1000000) : PureF Tryz.prog 63 [.str s, .str e] (.tup [.str (frontB e s), .str (restB e s), .bool (Lib.cut s e).2.2]) := by
  refine ⟨⟨callable_cut, fun cx w vs hs' hr => ?_⟩, rfl, rfl⟩
  simp only [RepL, Rep] at hr
  obtain ⟨u, us, rfl, rfl, u2, us2, rfl, rfl, rfl⟩ := hr
  obtain ⟨m, hm⟩ := cx.gl
  refine (Tryz.strings_Cut ⟨s.toArray⟩ ⟨e.toArray⟩ m w (by show s.toArray.size < _; simp; omega) (hs'.mem _ _ _ hm).1).mono fun o w' ⟨h1, n, h2⟩ => ?_
  subst h2
  obtain ⟨q1, q2⟩ := hs'.sameHeap (w' := w.drewN n) rfl ⟨rfl, rfl, rfl⟩
  obtain ⟨k1, k2⟩ := cut_eq he s
  refine ⟨_, _, cx, _, h1, ?_, q1, q2, rfl⟩
  simp only [Rep, RepL]
  exact ⟨[_, _, _], rfl, _, _, rfl, by rw [k1], _, _, rfl, by rw [k2], _, _, rfl, rfl, rfl⟩
theorem w_Index (s : Str) {e : Str} (he : e ≠ []) (hs : s.length ≤ 1000000) : PureF Tryz.prog 70 [.str s, .str e] (.int .i64 (match idxOf e s with | some i => (i : Int) | none => -1)) := by
  refine ⟨⟨callable_index, fun cx w vs hs' hr => ?_⟩, rfl, rfl⟩
  simp only [RepL, Rep] at hr
  obtain ⟨u, us, rfl, rfl, u2, us2, rfl, rfl, rfl⟩ := hr
  obtain ⟨m, hm⟩ := cx.gl
  refine (Tryz.strings_Index ⟨s.toArray⟩ ⟨e.toArray⟩ m w (by show s.toArray.size < _; simp; omega) (hs'.mem _ _ _ hm).1).mono fun o w' ⟨h1, h2⟩ => ?_
  subst h2
  refine ⟨_, _, cx, _, h1, ?_, hs', Ext.refl _ _ _, rfl⟩
  simp only [Rep]
  rw [← index_eq he]
theorem rest_len {e : Str} : ∀ s : Str, (restB e s).length ≤ s.length
  | [] => Nat.le_refl _
  | c :: r => by
    simp only [restB]
    split
    · simp
    · have := rest_len (e := e) r; simp; omega
theorem w_upTo {s : St} {b v : Nat} {t e : Str} {V : AV} (g : s.get b = some (.cells v [.str t, V] false)) (he : e ≠ []) (ht : t.length ≤ 1000000) :
    ACalls Tryz.prog 43 [.ptr b v 0, .str e] s fun x s' => x = .str (frontB e t) ∧ s' = s.put b (.cells v [.str (restB e t), V] false) := by
  obtain ⟨h, m⟩ := s
  refine acalls_W mix (C0_ok _) c43 (by kernel_rfl) (Nat.le_of_ble_eq_true (by kernel_rfl)) ?_
  have g' : AX.look b h = some (.cells v [.str t, V] false) := g
  simp -implicitDefEqProofs only [F43, g', go_sem, seval]
  refine callI_pure (w_Cut t he ht) ?_
  simp -implicitDefEqProofs only [g', go_sem, seval]
theorem dw_drop {p : UInt8 → Bool} : ∀ t : Str, t.dropWhile p = t.drop (t.takeWhile p).length
  | [] => rfl
  | c :: r => by
    rw [List.dropWhile_cons, List.takeWhile_cons]
    split
    · simp [dw_drop r]
    · rfl
theorem tw_take {p : UInt8 → Bool} : ∀ t : Str, t.takeWhile p = t.take (t.takeWhile p).length
  | [] => rfl
  | c :: r => by
    rw [List.takeWhile_cons]
    split
    · simp [← tw_take r]
    · rfl
theorem w_while {s : St} {b v f : Nat} {t : Str} {V : AV} {p : UInt8 → Bool} (hp : ∀ c : UInt8, PureF Tryz.prog f [.int .u8 c.toNat] (.bool (p c))) (g : s.get b = some (.cells v [.str t, V] false)) (ht : t.length ≤ 1000000) :
    ACalls Tryz.prog 83 [.ptr b v 0, .fn (.func f) [] []] s fun x s' => x = .str (t.takeWhile p) ∧ s' = s.put b (.cells v [.str (t.dropWhile p), V] false) := by
  obtain ⟨h, m⟩ := s
  refine acalls_W mix (C0_ok _) c83 (by kernel_rfl) (Nat.le_of_ble_eq_true (by kernel_rfl)) ?_
  have g' : AX.look b h = some (.cells v [.str t, V] false) := g
  simp -implicitDefEqProofs only [F83, go_sem, seval]
  refine LoopI_sl (fun n : Nat => t.length - n) (fun n => [(0, .ptr b v 0), (1, .fn (.func f) [] []), (5, .int .i64 n)])
    (fun n st => st = ⟨h, m⟩ ∧ n ≤ t.length ∧ ∀ i, i < n → ∃ c, t[i]? = some c ∧ p c = true) 0 ?_ ?_
  · simp -implicitDefEqProofs only [go_sem, seval]
    exact fun i hi => hi.elim
  rintro n ρ st ⟨rfl, n1, n2⟩
  have w1 : IntKind.i64.wrap ((n : Int) + 1) = ((n + 1 : Nat) : Int) := by rw [wrap64 (by omega) (by omega)]; omega
  rcases Nat.lt_or_ge n t.length with hn | hn
  · obtain ⟨x, hx⟩ : ∃ x, t[n]? = some x := ⟨t[n], by simp [hn]⟩
    have h2 : ((n : Int) < (t.length : Int)) = True := eq_true (by omega)
    simp -implicitDefEqProofs only [g', h2, hx, go_sem, seval]
    refine callI_pure (hp x) ?_
    cases hi : p x with
    | true =>
      simp -implicitDefEqProofs only [w1, go_sem, seval]
      refine ⟨n + 1, by omega, rfl, by omega, fun i hi' => ?_⟩
      rcases Nat.lt_or_ge i n with hlt | hge
      · exact n2 i hlt
      · have : i = n := by omega
        subst this
        exact ⟨x, hx, hi⟩
    | false =>
      simp -implicitDefEqProofs only [go_sem, seval]
      have e := tw_len t n n2 (.inr ⟨x, hx, hi⟩)
      have e1 : t.takeWhile p = t.take n := by rw [tw_take t, e]
      have e2 : t.dropWhile p = t.drop n := by rw [dw_drop, e]
      refine callI_st (w_take g n (by omega) ht) ?_
      rw [e1, e2]
      simp -implicitDefEqProofs only [go_sem, seval]
  · have h2 : ((n : Int) < (t.length : Int)) = False := eq_false (by omega)
    simp -implicitDefEqProofs only [g', h2, go_sem, seval]
    have e := tw_len t n n2 (.inl (by omega))
    have e1 : t.takeWhile p = t.take n := by rw [tw_take t, e]
    have e2 : t.dropWhile p = t.drop n := by rw [dw_drop, e]
    refine callI_st (w_take g n (by omega) ht) ?_
    rw [e1, e2]
    simp -implicitDefEqProofs only [go_sem, seval]
end W09
