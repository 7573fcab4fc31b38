/- strings.Builder within a struct of its own type: copyCheck. -/
import Derived.Test.YtdeclhljkmlpiaaGreatTxS
import Derived.Test.YtdeclhljkmlpiaaGreatAxE
import Derived.Test.YtdeclhljkmlpiaaGreatTabB
import Derived.Lib.UnsafeStr
import Derived.Shelf.RegionOpenPlain
import Derived.Test.YtdeclhljkmlpiaaGreatTxA
set_option linter.unusedSimpArgs false
set_option linter.unusedVariables false
namespace W10
open Go Go.Proofs Go.AX
theorem lies (n:Nat):liesAt Tryz.prog Tryz.prog.depth 88 (n + 1) 0 86 1=true:=by kernel_rfl
theorem Xf:Tryz.prog.cellsOf 88=2:=by kernel_rfl
theorem VU:(Tryz.prog.info? 86).map (·.size)=some 2:=by kernel_rfl
theorem YW (n:Nat) (h:2 ≤ n):liesAt Tryz.prog Tryz.prog.depth 88 (n / Tryz.prog.cellsOf 88) 0 86 1=true:=by
  rw [Xf]
  obtain ⟨m,hm⟩:∃ m,n / 2=m + 1:=⟨n / 2 - 1,by omega⟩
  rw [hm];exact lies m
set_option maxHeartbeats 1000000 in
set_option maxRecDepth 100000 in
theorem LW (b:Nat) (w:World) (h0:w.cell? ⟨b,0,none⟩=some (.pointer (some ⟨b,0,none⟩))) :
    Calls Tryz.prog 85 #[.pointer (some ⟨b,0,none⟩)] w fun e w'=>e=.returned (.tuple #[]) ∧ w'=w:=by
  obtain ⟨j,hj,_⟩:=Option.map_eq_some_iff.1 VU
  go_enter Tryz.func85,Tryz.ntmps85
  go_wp2
  rw [Lib.run_neq_ptr_same w _ Tryz.underlying83 hj]
  go_wp2
  go_end0
  exact ⟨rfl,rfl⟩
set_option maxHeartbeats 1000000 in
set_option maxRecDepth 100000 in
theorem I8 (b n:Nat) (w:World) (hn:2 ≤ n) (h0:w.cell? ⟨b,0,none⟩=some (.pointer none)) (hsh:w.shape? b=some (88,n)) (hfz:w.frozen? ⟨b,0,none⟩=false) :
    Calls Tryz.prog 85 #[.pointer (some ⟨b,0,none⟩)] w fun e w'=>e=.returned (.tuple #[]) ∧ w'=w.setCell ⟨b,0,none⟩ (.pointer (some ⟨b,0,none⟩)):=by
  obtain ⟨j,hj,hjs⟩:=Option.map_eq_some_iff.1 VU
  go_enter Tryz.func85,Tryz.ntmps85
  go_wp2
  rw [Lib.run_to_unsafe w ⟨b,0,none⟩ Tryz.underlying83 Tryz.underlying137 hj (by rw [hjs];decide) hsh (show 0 < n by omega)]
  simp only [Result.andThen]
  rw [Oper.upon_value]
  go_wp2
  rw [run_callFunc_extern Tryz.func95 (by kernel_rfl) (by kernel_rfl) (by kernel_rfl) (e:=Extern.AbiNoEscape.same) (by kernel_rfl)]
  rw [Lib.run_noEscape]
  simp only [Result.andThen]
  rw [Oper.upon_value]
  go_wp2
  rw [Lib.run_from_unsafe w ⟨b,0,none⟩ Tryz.underlying137 Tryz.underlying83 hj hsh (YW n hn)]
  simp only [Result.andThen]
  rw [Oper.upon_value]
  go_wp2
  go_end0
  exact ⟨rfl,rfl⟩
end W10
/- strings.Builder within a struct of its own type: copyCheck, String, on abstract states. -/
namespace W10
open Go Go.Proofs Go.AX
theorem heap_setCell {w:World} {k o:Nat} {v:Value} {arr:Array Value} {el:TypeId} {fr:Nat × Nat} (h:w.heap[k]? = some (.cells arr el fr)) :
    (w.setCell ⟨k,o,none⟩ v).heap=w.heap.setIfInBounds k (.cells (arr.setIfInBounds o v) el fr):=by
  apply Array.ext
  · simp [World.setCell]
  · intro i h1 h2
    simp only [World.setCell,Array.getElem_modify,Array.getElem_setIfInBounds]
    by_cases hi:k=i
    · subst hi
      have:w.heap[k]'(by simpa [World.setCell] using h1)=.cells arr el fr:=by
        rw [Array.getElem?_eq_getElem (by simpa [World.setCell] using h1)] at h
        exact Option.some.inj h
      simp [this]
    · simp only [hi,if_false]
      rw [Array.getElem_setIfInBounds,if_neg hi]
theorem H7:jA Tryz.prog 85:=⟨_,Tryz.func85,by kernel_rfl,by kernel_rfl⟩
theorem xB:jA Tryz.prog 52:=⟨_,Tryz.func52,by kernel_rfl,by kernel_rfl⟩
theorem wQ {s:St} {b:Nat} {x y:AV} (hg:s.get b=some (.cells 0 [x,y] false)) (hx:x=.nilp ∨ x=.ptr b 0 0) :
    aF Tryz.prog 85 [.ptr b 0 0] s fun v s'=>v=.tup [] ∧ s'=s.put b (.cells 0 [.ptr b 0 0,y] false):=by
  refine ⟨H7,fun c w vs hs hr=>?_⟩
  simp only [aB,aD] at hr
  obtain ⟨u,us,rfl,⟨k,z,hσ,rfl⟩,rfl⟩:=hr
  obtain ⟨k0,z0,arr,el,fr,g1,g2,g3,g4,g5,g6,g7⟩:=hs.obj _ _ hg
  rw [hσ] at g1;simp only [Option.some.injEq,Prod.mk.injEq] at g1;obtain ⟨rfl,rfl⟩:=g1
  have g2':w.heap[k]? = some (.cells arr 88 fr):=g2
  obtain ⟨u0,a0,o0,r0⟩:=g6 0 x rfl
  obtain ⟨u1,a1,o1,r1⟩:=g6 1 y rfl
  have hz2:2 ≤ z:=by simpa using g4
  have hcell:w.cell? ⟨k,0,none⟩=some u0:=by rw [cell_of_block g2'];exact a0
  have done:∀ (w':World) (arr':Array Value),arr'.size=z → arr'[0]? = some (.pointer (some ⟨k,0,none⟩)) → arr'[1]? = some u1 → w'.heap=w.heap.setIfInBounds k (.cells arr' 88 fr) → eG w w' →
      ∃ c',Sat c' (s.put b (.cells 0 [.ptr b 0 0,y] false)) w' ∧ Ext c s w c' (s.put b (.cells 0 [.ptr b 0 0,y] false)) w':=fun w' arr' hsz b0 b1 hw hos=>by
    obtain ⟨c',q1,q2,_⟩:=hs.inPlace (w':=w') hg hσ g2' (e':=0) (cs':=[.ptr b 0 0,y]) (seen':=false) (arr':=arr') hsz (by simpa using hz2) (fun i x' hx'=>by
      match i,hx' with
      | 0,hx'=>simp only [List.getElem?_cons_zero,Option.some.injEq] at hx';subst hx';exact ⟨_,b0,rfl,by simp only [aD];exact ⟨k,z,hσ,rfl⟩⟩
      | 1,hx'=>simp only [List.getElem?_cons_succ,List.getElem?_cons_zero,Option.some.injEq] at hx';subst hx';exact ⟨u1,b1,o1,r1⟩
      | i + 2,hx'=>simp at hx') (fun i u hu=>by rw [g7] at hu;simp at hu) (.inl rfl) (lT 0) hw hos
    exact ⟨c',q1,q2⟩
  have hsz:arr.size=z:=g3
  rcases hx with rfl | rfl
  · simp only [aD] at r0
    subst r0
    have hfr:w.frozen? ⟨k,0,none⟩=false:=by
      have:=g5 0 (by omega)
      simp [World.frozen?,g2']
      intro h;omega
    refine (I8 k z w hz2 hcell (by simp [World.shape?,g2',hsz]) hfr).mono fun e w' ⟨h1,h2⟩=>?_
    subst h2
    obtain ⟨c',q1,q2⟩:=done (w.setCell ⟨k,0,none⟩ (.pointer (some ⟨k,0,none⟩))) (arr.setIfInBounds 0 (.pointer (some ⟨k,0,none⟩))) (by simpa using hsz) (by rw [Array.getElem?_setIfInBounds,if_pos rfl,if_pos (by omega)]) (by rw [Array.getElem?_setIfInBounds,if_neg (by omega)];exact a1) (heap_setCell g2') ⟨rfl,rfl,rfl⟩
    exact ⟨.tup [],_,c',_,h1,by simp [aD,aB],q1,q2,rfl,rfl⟩
  · simp only [aD] at r0
    obtain ⟨k',z',hσ',rfl⟩:=r0
    rw [hσ] at hσ';simp only [Option.some.injEq,Prod.mk.injEq] at hσ';obtain ⟨rfl,rfl⟩:=hσ'
    refine (LW k w hcell).mono fun e w' ⟨h1,h2⟩=>?_
    subst h2
    obtain ⟨c',q1,q2⟩:=done w' arr hsz a0 a1 (by
      apply Array.ext (by simp)
      intro i h1 h2
      rw [Array.getElem_setIfInBounds]
      split
      · rename_i heq;subst heq
        rw [Array.getElem?_eq_getElem h1] at g2'
        simpa using g2'
      · rfl) (eG.refl w')
    exact ⟨.tup [],_,c',_,h1,by simp [aD,aB],q1,q2,rfl,rfl⟩
end W10
/- strings.Builder: String. -/
namespace W10
open Go Go.Proofs Go.AX Go.Shelf Go.RowKit
theorem WL:Tryz.prog.cellsOf 5=1:=by kernel_rfl
set_option maxHeartbeats 2000000 in
set_option maxRecDepth 100000 in
theorem OY (b g cap m:Nat) (l:List UInt8) (w:World) (h0:l ≠ []) (hc0:cap ≠ 0) (c1:w.cell? ⟨b,1,none⟩=some (.slice (some ⟨g,0,none⟩) l.length cap))
    (hsh:w.shape? g=some (5,m)) (hm:l.length ≤ m) (hl:l.length ≤ 9223372036854775807)
    (hcell:∀ j x,l[j]? = some x → w.cell? ((⟨g,0,none⟩:Addr).add j)=some (.int .u8 x.toNat)) :
    Calls Tryz.prog 52 #[.pointer (some ⟨b,0,none⟩)] w fun e w'=>e=.returned (.string ⟨l.toArray⟩) ∧ w'=w.drew.freeze ⟨g,0,none⟩ l.length:=by
  have c1':w.drew.cell? ⟨b,1,none⟩=some (.slice (some ⟨g,0,none⟩) l.length cap):=by simpa using c1
  have hSD:(Builtin.unsafeSliceData_ #[84] 108 #[.slice (some ⟨g,0,none⟩) l.length cap]).run Tryz.prog w.drew=.ok (.pointer (some ⟨g,0,none⟩)) w.drew:=
    Lib.run_unsafeSliceData_row _ _ _ _ _ _ hc0
  have hUS:(Builtin.unsafeString_ #[108,3] 9 #[.pointer (some ⟨g,0,none⟩),.int .i64 l.length]).run Tryz.prog w.drew=.ok (.string ⟨l.toArray⟩) (w.drew.freeze ⟨g,0,none⟩ l.length):=by
    refine Lib.run_unsafeString_row w.drew 108 3 9 5 Tryz.underlying108 WL g m hsh l h0 hm hl ?_
    intro j x hx
    simpa using hcell j x hx
  go_enter Tryz.func52,Tryz.ntmps52
  go_wp2
  go_region
  all_goals (go_wp2;go_ret;exact ⟨rfl,rfl⟩)
set_option maxHeartbeats 2000000 in
set_option maxRecDepth 100000 in
theorem U7 (b:Nat) (w:World) (c1:w.cell? ⟨b,1,none⟩=some (.slice none 0 0)) :
    Calls Tryz.prog 52 #[.pointer (some ⟨b,0,none⟩)] w fun e w'=>e=.returned (.string ⟨#[]⟩) ∧ w'=w.drew:=by
  have c1':w.drew.cell? ⟨b,1,none⟩=some (.slice none 0 0):=by simpa using c1
  have hSD:(Builtin.unsafeSliceData_ #[84] 108 #[.slice none 0 0]).run Tryz.prog w.drew=.ok (.pointer none) w.drew:=Lib.run_unsafeSliceData_nil _ _ _ _ _
  have hUS:(Builtin.unsafeString_ #[108,3] 9 #[.pointer none,.int .i64 0]).run Tryz.prog w.drew=.ok (.string .empty) w.drew:=Lib.run_unsafeString_none _ _ _ _ _
  go_enter Tryz.func52,Tryz.ntmps52
  go_wp2
  go_region
  all_goals (go_wp2;go_ret;exact ⟨rfl,rfl⟩)
theorem Eb {s:St} {b:Nat} {x:AV} (hg:s.get b=some (.cells 0 [x,.nils] false)) :
    aF Tryz.prog 52 [.ptr b 0 0] s fun v s'=>v=.str [] ∧ s'=s:=by
  refine ⟨xB,fun c w vs hs hr=>?_⟩
  simp only [aB,aD] at hr
  obtain ⟨u,us,rfl,⟨k,z,hσ,rfl⟩,rfl⟩:=hr
  obtain ⟨k0,z0,arr,el,fr,g1,g2,g3,g4,g5,g6,g7⟩:=hs.obj _ _ hg
  rw [hσ] at g1;simp only [Option.some.injEq,Prod.mk.injEq] at g1;obtain ⟨rfl,rfl⟩:=g1
  obtain ⟨u1,a1,o1,r1⟩:=g6 1 .nils rfl
  simp only [aD] at r1
  subst r1
  refine (U7 k w (by rw [cell_of_block g2];exact a1)).mono fun e w' ⟨h1,h2⟩=>?_
  subst h2
  obtain ⟨q1,q2⟩:=hs.sameHeap (w':=w.drew) rfl ⟨rfl,rfl,rfl⟩
  exact ⟨.str [],_,c,s,h1,by simp [aD],q1,q2,rfl,rfl⟩
theorem Fq {w:World} {g n j:Nat} (h:j ≠ g):(w.freeze ⟨g,0,none⟩ n).heap[j]? = w.heap[j]?:=by
  unfold World.freeze
  split
  · rfl
  · simp only [Array.getElem?_modify,if_neg (Ne.symm h)]
theorem w9 {w:World} {a:Addr} {n:Nat}:(w.freeze a n).heap.size=w.heap.size:=by
  unfold World.freeze
  split
  · rfl
  · simp
theorem M5 {w:World} {a:Addr} {n:Nat}:eG w (w.freeze a n):=by
  unfold World.freeze
  split <;> exact ⟨rfl,rfl,rfl⟩
theorem BQ {s:St} {b d E:Nat} {x:AV} {l:List UInt8} (hg:s.get b=some (.cells 0 [x,.sl d E 0 l.length 1] false)) (hd:s.get d=some (.cells E (aQ l) false)) (hE:E % 2=0) (hE0:0 < E) (h0:l ≠ []) (hl:l.length ≤ 9223372036854775807) :
    aF Tryz.prog 52 [.ptr b 0 0] s fun v s'=>v=.str l ∧ s'=s.hide [d]:=by
  refine ⟨xB,fun c w vs hs hr=>?_⟩
  simp only [aB,aD] at hr
  obtain ⟨u,us,rfl,⟨k,z,hσ,rfl⟩,rfl⟩:=hr
  obtain ⟨k0,z0,arr,el,fr,g1,g2,g3,g4,g5,g6,g7⟩:=hs.obj _ _ hg
  rw [hσ] at g1;simp only [Option.some.injEq,Prod.mk.injEq] at g1;obtain ⟨rfl,rfl⟩:=g1
  obtain ⟨u1,a1,o1,r1⟩:=g6 1 _ rfl
  simp only [aD] at r1
  obtain ⟨kd,sd,q,hσd,rfl,hnq,hqs⟩:=r1
  obtain ⟨k2,z2,arr2,el2,fr2,d1,d2,d3,d4,d5,d6,d7⟩:=hs.obj _ _ hd
  rw [hσd] at d1;simp only [Option.some.injEq,Prod.mk.injEq] at d1;obtain ⟨rfl,rfl⟩:=d1
  rw [qC hE hE0] at d2
  have hlen:0 < l.length:=List.length_pos_iff.2 h0
  have hkd:kd < w.heap.size:=hs.low _ _ _ _ hσd
  have hbl:(aQ l).length=l.length:=by simp [aQ]
  have hcells:∀ j x,l[j]? = some x → w.cell? ((⟨kd,0,none⟩:Addr).add j)=some (.int .u8 x.toNat):=fun j x hx=>by
    obtain ⟨u,p,_,r⟩:=d6 j (.int .u8 x.toNat) (by simp [aQ,hx])
    simp only [aD] at r
    subst r
    have:(⟨kd,0,none⟩:Addr).add j=⟨kd,j,none⟩:=by simp [Addr.add];omega
    rw [this,cell_of_block d2];exact p
  refine (OY k kd q arr2.size l w h0 (by omega) (by rw [cell_of_block g2];exact a1) (by simp [World.shape?,d2];rfl) (by rw [d3];omega) hl hcells).mono fun e w' ⟨h1,h2⟩=>?_
  subst h2
  obtain ⟨q1,q2⟩:=hs.sameHeap (w':=w.drew) rfl ⟨rfl,rfl,rfl⟩
  have hf:∀ j,j ≠ kd → (w.drew.freeze ⟨kd,0,none⟩ l.length).heap[j]? = w.heap[j]?:=fun j hj=>Fq hj
  have hmd:∀ i,c.m kd i=none:=fun i=>by rw [d7];simp
  have hblk:∀ id o j,(s.hide [d]).get id=some o → blk c id o=some j → j ≠ kd:=fun id o j ho hb he=>by
    subst he
    rw [St.fD] at ho
    split at ho
    · simp at ho
    · rename_i hn
      have:=hs.inj id d o _ _ ho hd hb (by simp [blk,Obj.ver,hσd])
      subst this
      simp at hn
  have hsh:=hs.hide [d]
  refine ⟨.str l,_,c,s.hide [d],h1,by simp [aD],⟨fun j i u hu=>?_,fun id o ho=>?_,hsh.inj,hsh.fresh,hsh.top,fun b' e' k' z' hk'=>by rw [w9];exact hs.low _ _ _ _ hk'⟩,
    ⟨Ctx.le_refl c,by rw [w9];exact Nat.le_refl _,fun j hj hn=>⟨hf j fun he=>hn (by subst he;exact ⟨d,_,hd,by simp [blk,Obj.ver,hσd]⟩),fun _=>rfl⟩,fun j hj=>?_,Nat.le_refl _,fun id _ hid e'=>rfl,fun id o ho=>?_,?_⟩,rfl,rfl⟩
  · have hj:j ≠ kd:=fun he=>by subst he;rw [hmd] at hu;simp at hu
    rw [cell_of_heap (w:=w) (hf j hj)];exact hs.mem _ _ _ hu
  · exact (hsh.obj id o ho).move (Ctx.le_refl c) fun j hj=>⟨hf j (hblk id o j ho hj),fun _=>rfl⟩
  · obtain ⟨id,o,ho,hb⟩:=hj
    rw [St.fD] at ho
    split at ho
    · simp at ho
    · exact .inl ⟨id,o,ho,hb⟩
  · rw [St.fD] at ho
    split at ho
    · simp at ho
    · exact .inl ⟨o,ho⟩
  · exact eG.trans ⟨rfl,rfl,rfl⟩ M5
end W10
/- strings.Builder: WriteString. -/
namespace W10
open Go Go.Proofs Go.AX Go.AX.Ty
def BO (b:Nat) (l:Str) (D:List Nat) (s:St):Prop:=
  ∃ x, (x = .nilp ∨ x = .ptr b 0 0) ∧ b < s.next ∧ ((l = [] ∧ D = [b] ∧ s.get b = some (.cells 0 [x, .nils] false)) ∨
    ∃ d E,D=[b,d] ∧ d ≠ b ∧ d < s.next ∧ l ≠ [] ∧ s.get b=some (.cells 0 [x,.sl d (2 * E) 0 l.length 1] false) ∧ 0 < E ∧ s.get d=some (.cells (2 * E) (aQ l) false))
def zM (b:Nat) (l:Str) (D:List Nat) (s s':St):Prop:=
  ∃ D',BO b l D' s' ∧ s.next ≤ s'.next ∧ (∀ id,id < s.next → id ∉ D → s'.get id=s.get id) ∧ (∀ id ∈ D',id ∈ D ∨ s.next ≤ id)
theorem bO (l:Str):(aQ l).length=l.length:=by simp [aQ]
theorem mQ (l m:Str):aQ l ++ aQ m=aQ (l ++ m):=by simp [aQ]
theorem Cb {s:St} {b:Nat} {l D:_} (x:Str) (hb:BO b l D s) (hl:l.length + x.length ≤ 140737488355328) :
    aF Tryz.prog 65 [.ptr b 0 0,.str x] s fun v s'=>v=.tup [.int .i64 x.length,.nili] ∧ zM b (l ++ x) D s s':=by
  obtain ⟨h,n⟩:=s
  obtain ⟨y,hy,hbn,h1⟩:=hb
  refine bE mix (dx _) c65 (by kernel_rfl) (Nat.le_of_ble_eq_true (by kernel_rfl)) ?_
  have hle:(x.length ≤ 140737488355328)=True:=eq_true (by omega)
  have hle2:(l.length + x.length ≤ 140737488355328)=True:=eq_true (by omega)
  have hnb:(n=b)=False:=eq_false (by have:b < n:=hbn;omega)
  simp -implicitDefEqProofs only [F65,go_sem,seval]
  rcases h1 with ⟨rfl,rfl,hg⟩ | ⟨d,E,rfl,hdb,hdn,hl0,hg,hE,hd⟩
  · refine eH (wQ hg hy) ?_
    have g1:AX.look b (putAt b (.cells 0 [.ptr b 0 0,.nils] false) h)=some (.cells 0 [.ptr b 0 0,.nils] false):=aS hg
    by_cases hx:x=[]
    · subst hx
      simp -implicitDefEqProofs only [g1,List.length_nil,go_sem,seval]
      refine ⟨[b],⟨_,.inr rfl,hbn,.inl ⟨rfl,rfl,aS g1⟩⟩,Nat.le_refl _,fun id i1 i2=>?_,fun id hid=>.inl hid⟩
      have:b ≠ id:=fun e=>i2 (by simp [e])
      show AX.look id _=_
      rw [ay this,ay this];rfl
    · have hx0:(x.length=0)=False:=by simp [hx]
      simp -implicitDefEqProofs only [g1,hx0,hle,hnb,Nat.mul_one,bO,go_sem,seval]
      have hbn':b < n:=hbn
      have hxl:0 < x.length:=List.length_pos_iff.2 hx
      refine ⟨[b,n],⟨_,.inr rfl,Nat.lt_succ_of_lt hbn',.inr ⟨n,x.length,rfl,by omega,Nat.lt_succ_self n,hx,?_,hxl,?_⟩⟩,Nat.le_succ n,fun id i1 i2=>?_,fun id hid=>?_⟩
      · show AX.look b (_ :: _)=_
        simp only [AX.look];rw [if_neg (by omega)];exact aS g1
      · show AX.look n (_ :: _)=_
        simp only [AX.look];simp
      · have:b ≠ id:=fun e=>i2 (by simp [e])
        have i1':id < n:=i1
        show AX.look id (_ :: _)=AX.look id h
        simp only [AX.look];rw [if_neg (by omega),ay this,ay this]
      · simp only [List.mem_cons,List.not_mem_nil,or_false] at hid
        rcases hid with rfl | rfl
        · exact .inl (by simp)
        · exact .inr (Nat.le_refl _)
  · refine eH (wQ hg hy) ?_
    have g1:AX.look b (putAt b (.cells 0 [.ptr b 0 0,.sl d (2 * E) 0 l.length 1] false) h)=some (.cells 0 [.ptr b 0 0,.sl d (2 * E) 0 l.length 1] false):=aS hg
    have g2:AX.look d (putAt b (.cells 0 [.ptr b 0 0,.sl d (2 * E) 0 l.length 1] false) h)=some (.cells (2 * E) (aQ l) false):=by rw [ay (Ne.symm hdb)];exact hd
    by_cases hx:x=[]
    · subst hx
      simp -implicitDefEqProofs only [g1,List.length_nil,go_sem,seval]
      refine ⟨[b,d],⟨_,.inr rfl,hbn,.inr ⟨d,E,rfl,hdb,hdn,hl0,aS g1,hE,?_⟩⟩,Nat.le_refl _,fun id i1 i2=>?_,fun id hid=>.inl hid⟩
      · show AX.look d _=_
        rw [ay (Ne.symm hdb),g2]
      have:b ≠ id:=fun e=>i2 (by simp [e])
      show AX.look id _=_
      rw [ay this,ay this];rfl
    · have hx0:(x.length=0)=False:=by simp [hx]
      obtain ⟨M,hM,hM0⟩:∃ M,iC true (2 * E) (l.length + x.length)=2 * M ∧ 0 < M:=⟨_,Ag _ _ hE,by omega⟩
      have hdb':(d=b)=False:=eq_false hdb
      simp -implicitDefEqProofs only [g1,g2,hx0,hle2,hM,hdb',Nat.mul_one,bO,Nat.le_refl,go_sem,seval]
      have ht:List.take l.length (aQ l)=aQ l:=List.take_of_length_le (by rw [bO];exact Nat.le_refl _)
      refine ⟨[b,d],⟨_,.inr rfl,hbn,.inr ⟨d,M,rfl,hdb,hdn,by simp [hl0],?_,hM0,?_⟩⟩,Nat.le_refl _,fun id i1 i2=>?_,fun id hid=>.inl hid⟩
      · show AX.look b (putAt b _ _)=_
        rw [List.length_append]
        refine aS (x:=.cells 0 [.ptr b 0 0,.sl d (2 * E) 0 l.length 1] false) ?_
        rw [ay hdb];exact g1
      · show AX.look d (putAt b _ _)=_
        rw [ay (Ne.symm hdb),ht,mQ]
        exact aS g2
      · have q1:b ≠ id:=fun e=>i2 (by simp [e])
        have q2:d ≠ id:=fun e=>i2 (by simp [e])
        show AX.look id _=AX.look id h
        rw [ay q1,ay q2,ay q1]
end W10
/- tags.writer.words. -/
namespace W10
open Go Go.Proofs Go.AX Go.AX.Ty
theorem BO.lt {b l D s} (h:BO b l D s):∀ id ∈ D,id < s.next:=by
  obtain ⟨y,hy,hbn,⟨rfl,rfl,hg⟩ | ⟨d,E,rfl,hdb,hdn,hl0,hg,hE,hd⟩⟩:=h
  · intro id hid;simp at hid;omega
  · intro id hid;simp at hid;omega
theorem BO.self {b l D s} (h:BO b l D s):b < s.next:=h.choose_spec.2.1
theorem BO.mem {b l D s} (h:BO b l D s):b ∈ D:=by
  obtain ⟨y,hy,hbn,⟨rfl,rfl,hg⟩ | ⟨d,E,rfl,hdb,hdn,hl0,hg,hE,hd⟩⟩:=h <;> simp
theorem BO.move {b l D s s'} (h:BO b l D s) (h1:s.next ≤ s'.next) (h2:∀ id ∈ D,s'.get id=s.get id):BO b l D s':=by
  obtain ⟨y,hy,hbn,⟨rfl,rfl,hg⟩ | ⟨d,E,rfl,hdb,hdn,hl0,hg,hE,hd⟩⟩:=h
  · exact ⟨y,hy,by omega,.inl ⟨rfl,rfl,by rw [h2 b (by simp)];exact hg⟩⟩
  · exact ⟨y,hy,by omega,.inr ⟨d,E,rfl,hdb,by omega,hl0,by rw [h2 b (by simp)];exact hg,hE,by rw [h2 d (by simp)];exact hd⟩⟩
theorem zM.refl {b l D s} (h:BO b l D s):zM b l D s s:=⟨D,h,Nat.le_refl _,fun _ _ _=>rfl,fun _ h=>.inl h⟩
theorem zM.step {b m D D1 s s1 s2} (a2:s.next ≤ s1.next) (a3:∀ id,id < s.next → id ∉ D → s1.get id=s.get id) (a4:∀ id ∈ D1,id ∈ D ∨ s.next ≤ id) (h2:zM b m D1 s1 s2):zM b m D s s2:=by
  obtain ⟨D2,b1,b2,b3,b4⟩:=h2
  refine ⟨D2,b1,by omega,fun id i1 i2=>?_,fun id hid=>?_⟩
  · rw [b3 id (by omega) (fun hm=>(a4 id hm).elim i2 (fun hh=>by omega)),a3 id i1 i2]
  · rcases b4 id hid with hh | hh
    · rcases a4 id hh with h' | h'
      · exact .inl h'
      · exact .inr h'
    · exact .inr (by omega)
theorem Dm {ws:List Str} {k:Nat} {x:Str} (hx:ws[k]? = some x):(ws.take (k + 1)).flatten=(ws.take k).flatten ++ x:=by
  rw [List.take_add_one,hx];simp
theorem Uv {ws:List Str} (k:Nat):(ws.take k).flatten.length ≤ ws.flatten.length:=by
  conv=>rhs;rw [← List.take_append_drop k ws]
  rw [List.flatten_append,List.length_append];omega
theorem U5 {s:St} {b:Nat} {l D:_} (ws:List Str) (hb:BO b l D s) (hl:l.length + ws.flatten.length ≤ 140737488355328) (hw:ws.length ≤ 1000000) :
    aF Tryz.prog 50 [.ptr b 0 0,Enc.av ws] s fun v s'=>v=.tup [] ∧ zM b (l ++ ws.flatten) D s s':=by
  refine bE mix (dx _) c50 (by kernel_rfl) (Nat.le_of_ble_eq_true (by kernel_rfl)) ?_
  simp -implicitDefEqProofs only [F50,go_sem,seval]
  refine bA (fun k:Nat=>ws.length - k) (fun k=>[(0,.ptr b 0 0),(6,Enc.av ws),(7,.int .i64 ws.length),(8,.int .i64 k)])
    (fun k s1=>k ≤ ws.length ∧ zM b (l ++ (ws.take k).flatten) D s s1) 0 ?_ ?_
  · simp -implicitDefEqProofs only [go_sem,seval]
    simpa using zM.refl hb
  rintro k ρ s1 ⟨h1,h2⟩
  rcases Nat.lt_or_ge k ws.length with hk | hk
  · obtain ⟨x,hx,hd,hm⟩:=aW hk
    have hlt:((k:Int) < (ws.length:Int))=True:=eq_true (by omega)
    have w1:IntKind.i64.wrap ((k:Int) + 1)=((k + 1:Nat):Int):=by rw [wrap64 (by omega) (by omega)];omega
    have hfl:=Uv (ws:=ws) (k + 1)
    rw [Dm hx,List.length_append] at hfl
    simp -implicitDefEqProofs only [hlt,hx,go_sem,seval]
    obtain ⟨D1,e1,e2,e3,e4⟩:=h2
    refine aH ((Cb x e1 (by rw [List.length_append];omega)).mono fun v s2 ⟨hv,h3⟩=>?_)
    subst hv
    simp -implicitDefEqProofs only [w1,go_sem,seval]
    exact ⟨k + 1,by omega,rfl,by omega,by rw [Dm hx,← List.append_assoc];exact zM.step e2 e3 e4 h3⟩
  · have hlt:((k:Int) < (ws.length:Int))=False:=eq_false (by omega)
    simp -implicitDefEqProofs only [hlt,go_sem,seval]
    rw [List.take_of_length_le hk] at h2
    exact h2
end W10
/- strings.Replacer of the signs: WriteString, Replace. -/
namespace W10
open Go Go.AX Go.AX.Ty Go.Proofs
def D6 (E:Nat) (l:Str):St:=⟨[(1,.cells 1 [.sl 0 (2 * E + 1) 0 l.length 1] false),(0,.cells (2 * E + 1) (aQ l) false)],2⟩
def Xw (E:Nat) (l x:Str):Nat:=if x=[] then E else max (E + 1) (l.length + x.length)
theorem Rw (E:Nat) (l x:Str) (hl:l.length + x.length ≤ 140737488355328):aF Tryz.prog 166 [.ptr 1 1 0,.str x] (D6 E l) fun v s'=>v=.tup [.int .i64 x.length,.nili] ∧ s'=D6 (Xw E l x) (l ++ x):=by
  refine bE mix (dx _) c166 (by kernel_rfl) (Nat.le_of_ble_eq_true (by kernel_rfl)) ?_
  have hle2:(l.length + x.length ≤ 140737488355328)=True:=eq_true (by omega)
  simp -implicitDefEqProofs only [F166,D6,go_sem,seval]
  by_cases hx:x=[]
  · subst hx
    simp -implicitDefEqProofs only [List.length_nil,go_sem,seval]
    simp [Xw]
  · have hx0:(x.length=0)=False:=by simp [hx]
    have hM:iC true (2 * E + 1) (l.length + x.length)=2 * Xw E l x + 1:=by rw [vO,Xw,if_neg hx]
    have ht:List.take l.length (aQ l)=aQ l:=List.take_of_length_le (by rw [bO];exact Nat.le_refl _)
    simp -implicitDefEqProofs only [hx0,hle2,hM,ht,Nat.mul_one,bO,Nat.le_refl,go_sem,seval]
    simp [mQ,Xw,hx,Nat.max_def]
def iK:Nat → Str → Str
  | _,[]=>[]
  | k + 1,_ :: r=>iK k r
  | 0,c :: r=>if (bZ (c :: r)).2.2=true then (bZ (c :: r)).1 ++ iK ((bZ (c :: r)).2.1 - 1) r else c :: iK 0 r
def bN (s:Str):Str:=iK 0 s
theorem wK:∀ (k:Nat) (s:Str),iK k s=iK 0 (s.drop k)
  | 0,s=>rfl
  | k + 1,[]=>rfl
  | k + 1,c :: r=>by rw [iK,List.drop_succ_cons,wK k r]
theorem vM {s:Str} (h:(bZ s).2.2=true):0 < (bZ s).2.1 ∧ (bZ s).2.1 ≤ s.length ∧ (bZ s).1.length ≤ 1:=by
  unfold bZ at h ⊢
  have hb:∀ {p:Str},hasB s p=true → p.length ≤ s.length:=fun hh=>by obtain ⟨r,rfl⟩:=bS.1 hh;simp
  repeat' split at h
  all_goals first | (simp at h;done) | skip
  · rename_i h1;simp only [h1,if_true];have:=hb h1;simp at this;exact ⟨by simp,by simpa using this,by simp⟩
  · rename_i h1 h2;simp only [h1,h2,if_true,if_false];have:=hb h2;simp at this;exact ⟨by simp,by simpa using this,by simp⟩
  · rename_i h1 h2 h3;simp only [h1,h2,h3,if_true,if_false];have:=hb h3;simp at this;exact ⟨by simp,by simpa using this,by simp⟩
  · rename_i h1 h2 h3 h4;simp only [h1,h2,h3,h4,if_true,if_false];have:=hb h4;simp at this;exact ⟨by simp,by simpa using this,by simp⟩
theorem yO {s:Str} (h:(bZ s).2.2=true):bN s=(bZ s).1 ++ bN (s.drop (bZ s).2.1):=by
  cases s with
  | nil=>simp [bZ,hasB] at h
  | cons c r =>
    have:=vM h
    show iK 0 (c :: r)=_
    rw [iK,if_pos h,wK]
    obtain ⟨k,hk⟩:∃ k,(bZ (c :: r)).2.1=k + 1:=⟨(bZ (c :: r)).2.1 - 1,by omega⟩
    rw [hk];rfl
theorem xw {c:UInt8} {r:Str} (h:(bZ (c :: r)).2.2=false):bN (c :: r)=c :: bN r:=by
  show iK 0 (c :: r)=_
  rw [iK,if_neg (by simp [h])];rfl
theorem Gd {c:UInt8} {r:Str} (h:c ≠ 38):(bZ (c :: r)).2.2=false:=by
  simp [bZ,mF,h]
theorem kQ:∀ (k:Nat) (s:Str),(iK k s).length ≤ s.length
  | _,[]=>by simp [iK]
  | k + 1,_ :: r=>by rw [iK];have:=kQ k r;simp;omega
  | 0, c :: r => by
    rw [iK]
    split
    · rename_i h
      have:=vM h
      have h2:=kQ ((bZ (c :: r)).2.1 - 1) r
      simp;omega
    · have:=kQ 0 r;simp;omega
end W10
/- strings.Replacer of the signs: WriteString, Replace. -/
namespace W10
open Go Go.AX Go.AX.Ty Go.Proofs
theorem Xp (s:St):aF Tryz.prog 155 [.ifc 200 (.ptr 1 1 0)] s fun v s'=>v=.ifc 200 (.ptr 1 1 0) ∧ s'=s:=by
  obtain ⟨h,n⟩:=s
  refine bE mix (dx _) c155 (by kernel_rfl) (Nat.le_of_ble_eq_true (by kernel_rfl)) ?_
  have e:([83,101,200,210]:List Nat).contains 200=true:=by decide
  simp -implicitDefEqProofs only [F155,e,go_sem,seval]
theorem OH {c:UInt8} (h:c ≠ 38):MQ c.toNat=11 ∨ ∃ i:Nat,MQ c.toNat=i ∧ i < 11 ∧ bW i 1 (.ps 11 r9)=some (.vp (.nilp :: r9.drop (i + 1))):=by
  have hn:c.toNat ≠ 38:=fun e=>h (by rw [← UInt8.ofNat_toNat (x:=c),e];rfl)
  unfold MQ
  rw [if_neg hn]
  repeat' split
  all_goals first | (left;rfl) | (right;exact ⟨1,rfl,by omega,by simp [bW,r9]⟩) | (right;exact ⟨2,rfl,by omega,by simp [bW,r9]⟩) | (right;exact ⟨3,rfl,by omega,by simp [bW,r9]⟩) | (right;exact ⟨4,rfl,by omega,by simp [bW,r9]⟩) | (right;exact ⟨5,rfl,by omega,by simp [bW,r9]⟩) | (right;exact ⟨6,rfl,by omega,by simp [bW,r9]⟩) | (right;exact ⟨7,rfl,by omega,by simp [bW,r9]⟩) | (right;exact ⟨8,rfl,by omega,by simp [bW,r9]⟩) | (right;exact ⟨9,rfl,by omega,by simp [bW,r9]⟩) | (right;exact ⟨10,rfl,by omega,by simp [bW,r9]⟩)
theorem Ep (E:Nat) (l:Str):Wf (D6 E l):=fun id hid=>by
  have h:2 ≤ id:=hid
  show AX.look id [(1,_),(0,_)]=none
  simp only [AX.look]
  rw [if_neg (by omega),if_neg (by omega)]
structure GS where
  i:Nat
  last:Nat
  n:Int
  E:Nat
  l:Str
theorem drop_at {s:Str} {i:Nat} {c:UInt8} (hc:s[i]? = some c):s.drop i=c :: s.drop (i + 1):=by
  obtain ⟨h,rfl⟩:=List.getElem?_eq_some_iff.1 hc
  exact List.drop_eq_getElem_cons h
theorem take_at {s:Str} {i:Nat} {c:UInt8} (hc:s[i]? = some c) {k:Nat} (hk:k ≤ i):(s.take (i + 1)).drop k=(s.take i).drop k ++ [c]:=by
  rw [List.take_add_one,hc]
  have hi:i < s.length:=(List.getElem?_eq_some_iff.1 hc).1
  rw [List.drop_append_of_le_length (by simp;omega)]
  rfl
theorem wo {s l:Str} {i last:Nat} {c:UInt8} (hc:s[i]? = some c) (h3:last ≤ i) (hm:(bZ (s.drop i)).2.2=false) (h5:l ++ (s.take i).drop last ++ bN (s.drop i)=bN s) :
    l ++ (s.take (i + 1)).drop last ++ bN (s.drop (i + 1))=bN s:=by
  rw [drop_at hc] at hm h5
  rw [xw hm] at h5
  rw [take_at hc h3,← h5];simp
theorem Rf {s l:Str} {i last:Nat} (hm:(bZ (s.drop i)).2.2=true) (h5:l ++ (s.take i).drop last ++ bN (s.drop i)=bN s) :
    (l ++ (s.take i).drop last ++ (bZ (s.drop i)).1) ++ (s.take (i + (bZ (s.drop i)).2.1)).drop (i + (bZ (s.drop i)).2.1) ++ bN (s.drop (i + (bZ (s.drop i)).2.1))=bN s:=by
  rw [yO hm,List.drop_drop] at h5
  have e:(s.take (i + (bZ (s.drop i)).2.1)).drop (i + (bZ (s.drop i)).2.1)=[]:=List.drop_eq_nil_of_le (by rw [List.length_take];omega)
  rw [← h5,e];simp
set_option maxHeartbeats 8000000 in
set_option maxRecDepth 20000 in
theorem OB (s:Str) (hs:s.length ≤ 1000000000):aF Tryz.prog 154 [GP,.ifc 200 (.ptr 1 1 0),.str s] (D6 0 []) fun v s'=>∃ E,s'=D6 E (bN s):=by
  refine bE mix (dx _) c154 (by kernel_rfl) (Nat.le_of_ble_eq_true (by kernel_rfl)) ?_
  have m38:BP.drop 38=.int .u8 0 :: BP.drop 39:=nR 38 (by omega)
  simp -implicitDefEqProofs only [F154,go_sem,seval]
  refine eH (Xp (D6 0 [])) ?_
  simp -implicitDefEqProofs only [D6,go_sem,seval]
  refine bA (fun x:GS=>s.length + 1 - x.i) (fun x=>[(0,GP),(2,.str s),(6,.int .i64 x.n),(7,.nili),(8,.ifc 200 (.ptr 1 1 0)),(9,.int .i64 x.last),(11,.bool false),(12,.int .i64 x.i)])
    (fun x s'=>s'=D6 x.E x.l ∧ x.i ≤ s.length + 1 ∧ x.last ≤ x.i ∧ x.last ≤ s.length ∧ x.l ++ (s.take x.i).drop x.last ++ bN (s.drop x.i)=bN s ∧ x.l.length ≤ s.length) ⟨0,0,0,0,[]⟩ ?_ ?_
  · simp -implicitDefEqProofs only [go_sem,seval]
    rfl
  rintro ⟨i,last,n,E,l⟩ ρ s' ⟨h1,h2,h3,h4,h5,h6⟩
  dsimp only at h1 h2 h3 h4 h5 h6
  subst h1
  rcases Nat.lt_or_ge i s.length with hi | hi
  · have hle:((i:Int) ≤ (s.length:Int))=True:=eq_true (by omega)
    have hne:((i:Int)=(s.length:Int))=False:=eq_false (by omega)
    obtain ⟨c,hc⟩:∃ c,s[i]? = some c:=⟨s[i],by simp [hi]⟩
    have hcl:(c.toNat < 256)=True:=eq_true c.toNat_lt
    have w1:IntKind.i64.wrap ((i:Int) + 1)=((i + 1:Nat):Int):=by rw [wrap64 (by omega) (by omega)];omega
    by_cases h38:c=38
    · subst h38
      have hdr:=drop_at hc
      have hil:(i ≤ s.length)=True:=eq_true (by omega)
      simp -implicitDefEqProofs only [hle,hne,hc,hcl,GP,KJ,D6,m38,go_sem,seval]
      refine aA (by kernel_rfl) ?_
      simp -implicitDefEqProofs only [X7,node1,hil,hdr,m38,GP,KJ,go_sem,seval]
      refine ak (OU _) ?_
      cases hh:(bZ (38 :: s.drop (i + 1))).2.2 with
      | false =>
        simp -implicitDefEqProofs only [w1,hh,go_sem,seval]
        exact ⟨⟨i + 1,last,n,E,l⟩,by dsimp only;omega,⟨rfl,rfl,rfl⟩,rfl,by dsimp only;omega,by dsimp only;omega,h4,wo hc h3 (by rw [drop_at hc];exact hh) h5,h6⟩
      | true =>
        have hp:=vM hh
        have hk0:(((bZ (38 :: s.drop (i + 1))).2.1:Int)=0)=False:=eq_false (by omega)
        have hli:(last ≤ i ∧ i ≤ s.length)=True:=eq_true ⟨h3,by omega⟩
        have hb5:=congrArg List.length h5
        have hpl:=kQ 0 s
        have hb6:l.length + ((s.take i).drop last).length ≤ s.length:=by
          simp only [List.length_append] at hb5
          have:(bN s).length ≤ s.length:=hpl
          omega
        simp -implicitDefEqProofs only [w1,hh,hk0,hli,go_sem,seval]
        have hX:List.take (i - last) (List.drop last s)=(s.take i).drop last:=(List.drop_take ..).symm
        rw [hX]
        refine tL (Rw E l ((s.take i).drop last) (by omega)) (Ep E l) (Nat.le_refl _) (Ep _ _) ?_
        simp -implicitDefEqProofs only [D6,go_sem,seval]
        refine aA (by kernel_rfl) ?_
        simp -implicitDefEqProofs only [go_sem,seval]
        refine eH (Rw (Xw E l ((s.take i).drop last)) (l ++ (s.take i).drop last) (bZ (38 :: s.drop (i + 1))).1 (by rw [List.length_append];omega)) ?_
        have w3:IntKind.i64.wrap ((i:Int) + ((bZ (38 :: s.drop (i + 1))).2.1:Int))=((i + (bZ (38 :: s.drop (i + 1))).2.1:Nat):Int):=by
          have:=hp.2.1
          simp only [List.length_cons,List.length_drop] at this
          rw [wrap64 (by omega) (by omega)];omega
        simp -implicitDefEqProofs only [w3,D6,go_sem,seval]
        have h5':=Rf (by rw [hdr];exact hh) h5
        rw [hdr] at h5'
        have hp2:=hp.2.1
        simp only [List.length_cons,List.length_drop] at hp2
        have hb7:=congrArg List.length h5'
        refine ⟨⟨i + (bZ (38 :: s.drop (i + 1))).2.1,i + (bZ (38 :: s.drop (i + 1))).2.1,_,_,_⟩,by dsimp only;omega,⟨rfl,rfl,by simp;omega,rfl⟩,rfl,by dsimp only;omega,Nat.le_refl _,by dsimp only;omega,h5',?_⟩
        have:(bN s).length ≤ s.length:=hpl
        simp only [List.length_append] at hb7 ⊢
        omega
    · rcases OH h38 with hm | ⟨j,hm,hj,ht⟩
      · have hd:=nR c.toNat c.toNat_lt
        rw [hm] at hd
        simp -implicitDefEqProofs only [hle,hne,hc,hcl,GP,KJ,hd,D6,go_sem,seval]
        refine aA (by kernel_rfl) ?_
        simp -implicitDefEqProofs only [w1,GP,KJ,go_sem,seval]
        exact ⟨⟨i + 1,last,n,E,l⟩,by dsimp only;omega,⟨rfl,rfl,rfl⟩,rfl,by dsimp only;omega,by dsimp only;omega,h4,wo hc h3 (by rw [drop_at hc];exact Gd h38) h5,h6⟩
      · have hd:=nR c.toNat c.toNat_lt
        rw [hm] at hd
        have hj':((j:Int)=11)=False:=eq_false (by omega)
        have hwi:IntKind.i64.wrap (j:Int)=(j:Int):=wrap64 (by omega) (by omega)
        simp -implicitDefEqProofs only [hle,hne,hc,hcl,GP,KJ,hd,ht,D6,go_sem,seval]
        refine aA (by kernel_rfl) ?_
        simp -implicitDefEqProofs only [w1,hj',hwi,ht,GP,KJ,go_sem,seval]
        exact ⟨⟨i + 1,last,n,E,l⟩,by dsimp only;omega,⟨rfl,rfl,rfl⟩,rfl,by dsimp only;omega,by dsimp only;omega,h4,wo hc h3 (by rw [drop_at hc];exact Gd h38) h5,h6⟩
  · have hpl:(bN s).length ≤ s.length:=kQ 0 s
    have hdn:s.drop i=[]:=List.drop_eq_nil_of_le hi
    have htk:s.take i=s:=List.take_of_length_le hi
    have hb5:=congrArg List.length h5
    rw [hdn,htk] at h5
    rcases Nat.lt_or_ge s.length i with hi2 | hi2
    · have hle:((i:Int) ≤ (s.length:Int))=False:=eq_false (by omega)
      simp -implicitDefEqProofs only [hle,go_sem,seval]
      by_cases hls:last=s.length
      · have h1:((last:Int)=(s.length:Int))=True:=eq_true (by omega)
        simp -implicitDefEqProofs only [h1,go_sem,seval]
        exact ⟨E,by rw [← h5,hls];simp [bN,iK]⟩
      · have h1:((last:Int)=(s.length:Int))=False:=eq_false (by omega)
        have h2:(last ≤ s.length)=True:=eq_true h4
        have hb6:l.length + (s.drop last).length ≤ s.length:=by
          rw [htk] at hb5
          simp only [List.length_append] at hb5
          omega
        simp -implicitDefEqProofs only [h1,h2,D6,go_sem,seval]
        refine tL (Rw E l (s.drop last) (by omega)) (Ep E l) (Nat.le_refl _) (Ep _ _) ?_
        simp -implicitDefEqProofs only [D6,go_sem,seval]
        refine aA (by kernel_rfl) ?_
        simp -implicitDefEqProofs only [go_sem,seval]
        exact ⟨Xw E l (s.drop last),by rw [show bN s=l ++ s.drop last by rw [← h5];simp [bN,iK]];rfl⟩
    · have e:i=s.length:=by omega
      subst e
      have hle:((s.length:Int) ≤ (s.length:Int))=True:=eq_true (by omega)
      have hll:(s.length ≤ s.length)=True:=eq_true (Nat.le_refl _)
      simp -implicitDefEqProofs only [hle,hll,List.drop_length,D6,GP,KJ,go_sem,seval]
      refine ak look_nil ?_
      have w1:IntKind.i64.wrap ((s.length:Int) + 1)=((s.length + 1:Nat):Int):=by rw [wrap64 (by omega) (by omega)];omega
      simp -implicitDefEqProofs only [w1,D6,go_sem,seval]
      exact ⟨⟨s.length + 1,last,n,E,l⟩,by dsimp only;omega,⟨rfl,rfl,rfl⟩,rfl,Nat.le_refl _,by dsimp only;omega,h4,by dsimp only;rw [List.take_of_length_le (by omega),List.drop_eq_nil_of_le (by omega:s.length ≤ s.length + 1)];exact h5,h6⟩
theorem Ar:∀ l:Str,bytesOf (aQ l)=some l
  | []=>rfl
  | b :: r => by
    have:=Ar r
    simp only [aQ,List.map_cons] at this ⊢
    have hb:=b.toNat_lt
    simp [bytesOf,this]
theorem Ub (s:Str) (hs:s.length ≤ 1000000000):bB Tryz.prog 153 [GP,.str s] (.str (bN s)):=by
  refine bf mix c153 (by kernel_rfl) (by kernel_rfl) (by simp [aI,flat];kernel_rfl) (by simp [flat,aI]) ?_
  have hle:(s.length ≤ 140737488355328)=True:=eq_true (by omega)
  have hle2:(s.length ≤ 9223372036854775807)=True:=eq_true (by omega)
  simp -implicitDefEqProofs only [F153,hle,hle2,GP,KJ,go_sem,seval]
  refine aH ((OB s hs).mono fun v s' ⟨E,hE⟩=>?_)
  subst hE
  have hb:=Ar (bN s)
  have h1:((bN s).length ≤ (aQ (bN s)).length)=True:=eq_true (by rw [bO];exact Nat.le_refl _)
  have h2:List.take (bN s).length (aQ (bN s))=aQ (bN s):=List.take_of_length_le (by rw [bO];exact Nat.le_refl _)
  simp -implicitDefEqProofs only [D6,hb,Nat.mul_one,h1,h2,go_sem,seval]
end W10
/- strings.Replacer that writes signs: Replace. -/
namespace W10
open Go Go.AX Go.AX.Ty Go.Proofs
theorem Ak:jA Tryz.prog 161:=⟨_,Tryz.func161,by kernel_rfl,by kernel_rfl⟩
theorem yx (s:Str) (c:UInt8):bB Tryz.prog 161 [.str s,.str [c]] (.int .i64 (s.count c)):=by
  refine ⟨⟨Ak,fun cx w vs hs hr=>?_⟩,rfl,rfl⟩
  simp only [aB,aD] at hr
  obtain ⟨u,us,rfl,rfl,u2,us2,rfl,rfl,rfl⟩:=hr
  refine (Tryz.strings_Count_one ⟨s.toArray⟩ c w).mono fun e w' ⟨h1,h2⟩=>?_
  subst h2
  exact ⟨.int .i64 (s.count c),_,cx,_,h1,rfl,hs,Ext.refl _ _ _,rfl⟩
def mZ (c:UInt8):Str:=if c=34 then [38,113,117,111,116,59] else if c=38 then [38,97,109,112,59] else if c=60 then [38,108,116,59] else if c=62 then [38,103,116,59] else [c]
def NP (c:UInt8):Bool:=c == 34 || c == 38 || c == 60 || c == 62
def aG (s:Str):Str:=s.flatMap mZ
theorem oQ (b:Nat) (h:b < 256):VN.drop b=Ul b :: VN.drop (b + 1):=by
  have h':b < YN.length:=by simp [YN,h]
  have h2:b < VN.length:=by simp [VN];omega
  rw [List.drop_eq_getElem_cons h2]
  congr 1
  simp only [VN]
  rw [List.getElem_append_left h']
  simp [YN]
theorem La (c:UInt8):(NP c=true ∧ Ul c.toNat=.ps (mZ c).length (aQ (mZ c))) ∨ (NP c=false ∧ Ul c.toNat=.nils ∧ mZ c=[c]):=by
  have key:∀ n:Nat,n < 256 → (c=UInt8.ofNat n ↔ c.toNat=n):=fun n hn=>⟨fun h=>by rw [h,UInt8.toNat_ofNat',Nat.mod_eq_of_lt hn],fun h=>by rw [← h,UInt8.ofNat_toNat]⟩
  have k34:=key 34 (by omega)
  have k38:=key 38 (by omega)
  have k60:=key 60 (by omega)
  have k62:=key 62 (by omega)
  by_cases h1:c.toNat=34
  · left;have:=k34.2 h1;subst this;exact ⟨rfl,rfl⟩
  by_cases h2:c.toNat=38
  · left;have:=k38.2 h2;subst this;exact ⟨rfl,rfl⟩
  by_cases h3:c.toNat=60
  · left;have:=k60.2 h3;subst this;exact ⟨rfl,rfl⟩
  by_cases h4:c.toNat=62
  · left;have:=k62.2 h4;subst this;exact ⟨rfl,rfl⟩
  right
  have n1:c ≠ 34:=fun h=>h1 (k34.1 h)
  have n2:c ≠ 38:=fun h=>h2 (k38.1 h)
  have n3:c ≠ 60:=fun h=>h3 (k60.1 h)
  have n4:c ≠ 62:=fun h=>h4 (k62.1 h)
  exact ⟨by simp [NP,n1,n2,n3,n4],by simp [Ul,h1,h2,h3,h4],by simp [mZ,n1,n2,n3,n4]⟩
theorem Bf {s:Str} (h:s.any NP=false):aG s=s:=by
  induction s with
  | nil=>rfl
  | cons c r ih =>
    simp only [List.any_cons,Bool.or_eq_false_iff] at h
    simp only [aG,List.flatMap_cons] at ih ⊢
    rw [ih h.2]
    rcases La c with ⟨h1,_⟩ | ⟨_,_,h3⟩
    · rw [h.1] at h1;simp at h1
    · rw [h3];rfl
end W10
/- strings.Replacer that writes signs: Replace. -/
namespace W10
open Go Go.AX Go.AX.Ty Go.Proofs
def wC (s:Str) (k:Nat):Nat:=s.length + (if 0 < k then s.count 34 * 5 else 0) + (if 1 < k then s.count 62 * 3 else 0) + (if 2 < k then s.count 60 * 3 else 0) + (if 3 < k then s.count 38 * 4 else 0)
def xW (s:Str) (k:Nat):Bool:=decide (0 < k ∧ s.count 34 ≠ 0) || decide (1 < k ∧ s.count 62 ≠ 0) || decide (2 < k ∧ s.count 60 ≠ 0) || decide (3 < k ∧ s.count 38 ≠ 0)
theorem EJ (s:Str) (k:Nat):wC s k ≤ 21 * s.length:=by
  have h:∀ c:UInt8,s.count c ≤ s.length:=fun c=>List.count_le_length
  have h1:=h 34
  have h2:=h 62
  have h3:=h 60
  have h4:=h 38
  unfold wC
  repeat' split
  all_goals omega
theorem UN (s:Str):wC s 4=(aG s).length:=by
  have e:∀ s:Str,wC s 4=s.length + s.count 34 * 5 + s.count 62 * 3 + s.count 60 * 3 + s.count 38 * 4:=fun s=>by simp [wC]
  rw [e]
  induction s with
  | nil=>rfl
  | cons c r ih =>
    simp only [aG,List.flatMap_cons,List.length_append] at ih ⊢
    rw [← ih]
    simp only [List.length_cons,List.count_cons]
    by_cases h1:c=34
    · subst h1;simp [mZ];omega
    by_cases h2:c=62
    · subst h2;simp [mZ];omega
    by_cases h3:c=60
    · subst h3;simp [mZ];omega
    by_cases h4:c=38
    · subst h4;simp [mZ];omega
    · simp [mZ,h1,h2,h3,h4];omega
theorem N8 (s:Str):xW s 4=s.any NP:=by
  rw [Bool.eq_iff_iff]
  simp only [xW,Bool.or_eq_true,decide_eq_true_eq,List.any_eq_true,NP,beq_iff_eq]
  have hc:∀ c:UInt8,s.count c ≠ 0 ↔ c ∈ s:=fun c=>by rw [ne_eq,List.count_eq_zero,Classical.not_not]
  rw [hc,hc,hc,hc]
  constructor
  · rintro (((⟨_,h⟩ | ⟨_,h⟩) | ⟨_,h⟩) | ⟨_,h⟩)
    · exact ⟨_,h,by simp⟩
    · exact ⟨_,h,by simp⟩
    · exact ⟨_,h,by simp⟩
    · exact ⟨_,h,by simp⟩
  · rintro ⟨x,hx,((rfl | rfl) | rfl) | rfl⟩ <;> simp [hx]
def nB (s:Str) (k:Nat):Nat:=(aG (s.take k)).length + (s.length - k)
theorem rC (c:UInt8):1 ≤ (mZ c).length ∧ (mZ c).length ≤ 6:=by
  unfold mZ;repeat' split
  all_goals simp
theorem nD {s:Str} {k:Nat} {c:UInt8} (h:s[k]? = some c):aG (s.take (k + 1))=aG (s.take k) ++ mZ c:=by
  rw [List.take_add_one,h];simp [aG]
theorem FT {s:Str} {k:Nat} {c:UInt8} (h:s[k]? = some c):(s.take (k + 1)).any NP=((s.take k).any NP || NP c):=by
  rw [List.take_add_one,h];simp
theorem ji (s:Str):(aG s).length ≤ 6 * s.length:=by
  induction s with
  | nil=>simp [aG]
  | cons c r ih=>simp only [aG,List.flatMap_cons,List.length_append,List.length_cons] at ih ⊢;have:=(rC c).2;omega
theorem Ue {s:Str} {k:Nat} {c:UInt8} (h:s[k]? = some c):nB s (k + 1) + 1=nB s k + (mZ c).length:=by
  have hk:k < s.length:=(List.getElem?_eq_some_iff.1 h).1
  unfold nB;rw [nD h,List.length_append];omega
theorem Yx (s:Str) (k:Nat):nB s k ≤ 7 * s.length:=by
  unfold nB
  have:=ji (s.take k)
  simp only [List.length_take] at this
  omega
def cW (s:Str) (k:Nat):List AV:=aQ (aG (s.take k)) ++ List.replicate ((aG s).length - (aG (s.take k)).length) (.int .u8 0)
theorem xE (s:Str) (k:Nat):aG s=aG (s.take k) ++ aG (s.drop k):=by
  simp only [aG]
  rw [← List.flatMap_append,List.take_append_drop]
theorem Bu {s:Str} {k:Nat} {c:UInt8} (h:s[k]? = some c):(aG (s.take k)).length + (mZ c).length ≤ (aG s).length:=by
  rw [xE s (k + 1),List.length_append,nD h,List.length_append];omega
theorem R4 (s:Str) (k:Nat):(cW s k).length=(aG s).length:=by
  have:=congrArg List.length (xE s k)
  simp only [List.length_append] at this
  simp [cW,aQ];omega
theorem Le {s:Str} {k:Nat} {c:UInt8} (h:s[k]? = some c):(cW s k).take (aG (s.take k)).length ++ aQ (mZ c) ++ (cW s k).drop ((aG (s.take k)).length + (mZ c).length)=cW s (k + 1):=by
  have h1:(aQ (aG (s.take k))).length=(aG (s.take k)).length:=by simp [aQ]
  have h2:=Bu h
  unfold cW
  rw [List.take_append_of_le_length (by omega),List.take_of_length_le (by omega),List.drop_append,List.drop_of_length_le (by omega),List.nil_append,List.drop_replicate,nD h,h1]
  rw [← mQ,List.length_append]
  congr 2
  omega
theorem QG (s:Str):cW s s.length=aQ (aG s):=by simp [cW]
theorem KZ (s:Str):cW s 0=List.replicate (aG s).length (.int .u8 0):=by simp [cW,aG,aQ]
theorem nI:∀ l:Str,bytesOf (aQ l)=some l
  | []=>rfl
  | b :: r => by
    have:=nI r
    simp only [aQ,List.map_cons] at this ⊢
    have hb:=b.toNat_lt
    simp [bytesOf,this]
set_option maxHeartbeats 8000000 in
set_option maxRecDepth 20000 in
theorem Ug (s:Str) (hs:s.length ≤ 1000000000):bB Tryz.prog 159 [SG,.str s] (.str (aG s)):=by
  refine bf mix c159 (by kernel_rfl) (by kernel_rfl) (by simp [aI,flat];kernel_rfl) (by simp [flat,aI]) ?_
  have h256:VN.drop 256=[.ps 4 [.str [34],.str [62],.str [60],.str [38]]]:=by rw [VN,List.drop_left' (by simp [YN])]
  simp -implicitDefEqProofs only [F159,SG,h256,go_sem,seval]
  rcases Nat.lt_or_ge s.length 32 with h32 | h32
  · have hlt:((32:Int) ≤ (s.length:Int))=False:=eq_false (by omega)
    simp -implicitDefEqProofs only [hlt,go_sem,seval]
    refine bA (fun k:Nat=>s.length - k) (fun k=>[(0,SG),(1,.str s),(5,.int .i64 (nB s k)),(6,.bool ((s.take k).any NP)),(10,.int .i64 k)])
      (fun k s'=>s'=⟨[],0⟩ ∧ k ≤ s.length) 0 ?_ ?_
    · simp -implicitDefEqProofs only [SG,go_sem,seval]
      simp [nB,aG]
    rintro k ρ s' ⟨rfl,hk0⟩
    rcases Nat.lt_or_ge k s.length with hk | hk
    · obtain ⟨c,hc⟩:∃ c,s[k]? = some c:=⟨s[k],by simp [hk]⟩
      have hkl:((k:Int) < (s.length:Int))=True:=eq_true (by omega)
      have hcl:(c.toNat < 256)=True:=eq_true c.toNat_lt
      have w1:IntKind.i64.wrap ((k:Int) + 1)=((k + 1:Nat):Int):=by rw [wrap64 (by omega) (by omega)];omega
      have hd:=oQ c.toNat c.toNat_lt
      have hst:=Ue hc
      have hle:=Yx s k
      have hsl:=rC c
      rcases La c with ⟨hsp,hf⟩ | ⟨hsp,hf,hone⟩
      · rw [hf] at hd
        have hp:(0 < (mZ c).length)=True:=eq_true (by omega)
        have w2:IntKind.i64.wrap (((mZ c).length:Int) - 1)=((mZ c).length:Int) - 1:=wrap64 (by omega) (by omega)
        have w3:IntKind.i64.wrap ((nB s k:Int) + (((mZ c).length:Int) - 1))=(nB s (k + 1):Int):=by rw [wrap64 (by omega) (by omega)];omega
        simp -implicitDefEqProofs only [hkl,hc,hcl,SG,hd,hp,w1,w2,w3,go_sem,seval]
        exact ⟨k + 1,by omega,⟨rfl,by rw [FT hc,hsp];simp,rfl⟩,by omega⟩
      · rw [hf] at hd
        simp -implicitDefEqProofs only [hkl,hc,hcl,SG,hd,w1,go_sem,seval]
        have hn1:nB s (k + 1)=nB s k:=by rw [hone] at hst;simp at hst;omega
        exact ⟨k + 1,by omega,⟨by rw [hn1],by rw [FT hc,hsp];simp,rfl⟩,by omega⟩
    · have hkl:((k:Int) < (s.length:Int))=False:=eq_false (by omega)
      have hkk:k=s.length:=by omega
      subst hkk
      have hN:nB s s.length=(aG s).length:=by simp [nB]
      rw [List.take_length,hN]
      simp -implicitDefEqProofs only [hkl,go_sem,seval]
      cases hany:s.any NP with
      | false =>
        rw [Bf hany]
        simp -implicitDefEqProofs only [go_sem,seval]
      | true =>
        have hsl:=ji s
        have hb1:((aG s).length ≤ 140737488355328)=True:=eq_true (by omega)
        have hb2:((aG s).length ≤ 9223372036854775807)=True:=eq_true (by omega)
        simp -implicitDefEqProofs only [hb1,hb2,Nat.mul_one,go_sem,seval]
        refine bA (fun k:Nat=>s.length - k) (fun k=>[(0,SG),(1,.str s),(12,.sl 0 (2 * (aG s).length + 1) 0 (aG s).length 1),(13,.int .i64 (aG (s.take k)).length),(14,.int .i64 k)])
          (fun k s'=>s'=⟨[(0,.cells (2 * (aG s).length + 1) (cW s k) false)],1⟩ ∧ k ≤ s.length) 0 ?_ ?_
        · simp -implicitDefEqProofs only [SG,go_sem,seval]
          simp [KZ,aG]
        rintro k ρ s' ⟨rfl,hk0⟩
        rcases Nat.lt_or_ge k s.length with hk | hk
        · obtain ⟨c,hc⟩:∃ c,s[k]? = some c:=⟨s[k],by simp [hk]⟩
          have hkl:((k:Int) < (s.length:Int))=True:=eq_true (by omega)
          have hcl:(c.toNat < 256)=True:=eq_true c.toNat_lt
          have w1:IntKind.i64.wrap ((k:Int) + 1)=((k + 1:Nat):Int):=by rw [wrap64 (by omega) (by omega)];omega
          have hd:=oQ c.toNat c.toNat_lt
          have hat:=Bu hc
          have hcw:=Le hc
          have hcl2:=R4 s k
          have hst:=nD hc
          rcases La c with ⟨hsp,hf⟩ | ⟨hsp,hf,hone⟩
          · rw [hf] at hd
            have hp:(0 < (mZ c).length)=True:=eq_true (by have:=rC c;omega)
            have hm1:((aG (s.take k)).length ≤ (aG s).length)=True:=eq_true (by omega)
            have hm2:((mZ c).length ≤ (aG s).length - (aG (s.take k)).length)=True:=eq_true (by omega)
            have hm3:((aG (s.take k)).length + (mZ c).length ≤ (cW s k).length)=True:=eq_true (by omega)
            have w2:IntKind.i64.wrap (((aG (s.take k)).length:Int) + ((mZ c).length:Int))=((aG (s.take (k + 1))).length:Int):=by rw [hst,List.length_append,wrap64 (by omega) (by omega)];omega
            have hl1:=rC c
            rcases Nat.eq_zero_or_pos (aG (s.take k)).length with h0 | h0
            · rw [h0] at hcw w2 hm2 hm3 hm1
              simp only [List.take_zero,List.nil_append,Nat.zero_add,Nat.sub_zero] at hcw hm2 hm3
              have h0':((aG (s.take k)).length=0)=True:=eq_true h0
              have w2z:IntKind.i64.wrap (0 + ((mZ c).length:Int))=((aG (s.take (k + 1))).length:Int):=w2
              simp -implicitDefEqProofs only [hkl,hc,hcl,SG,hd,hp,w1,h0,hm1,hm2,hm3,Nat.mul_one,bO,hcw,w2,go_sem,seval]
              refine aA (by kernel_rfl) ?_
              simp -implicitDefEqProofs only [w1,w2,hcw,go_sem,seval]
              exact ⟨k + 1,by omega,⟨by rw [w2z],rfl⟩,rfl,by omega⟩
            · have h0':((aG (s.take k)).length=0)=False:=eq_false (by omega)
              have hm4:((aG (s.take k)).length < (aG s).length)=True:=eq_true (by omega)
              simp -implicitDefEqProofs only [hkl,hc,hcl,SG,hd,hp,w1,h0',hm1,hm2,hm3,hm4,Nat.mul_one,bO,hcw,w2,go_sem,seval]
              refine aA (by kernel_rfl) ?_
              simp -implicitDefEqProofs only [w1,w2,hcw,go_sem,seval]
              exact ⟨k + 1,by omega,⟨rfl,rfl⟩,rfl,by omega⟩
          · rw [hf] at hd
            rw [hone] at hat hcw hst
            simp only [List.length_cons,List.length_nil,Nat.zero_add,aQ,List.map_cons,List.map_nil] at hat hcw
            have hm1:((aG (s.take k)).length < (aG s).length)=True:=eq_true (by omega)
            have hm3:((aG (s.take k)).length + 1 ≤ (cW s k).length)=True:=eq_true (by omega)
            have w2:IntKind.i64.wrap (((aG (s.take k)).length:Int) + 1)=((aG (s.take (k + 1))).length:Int):=by rw [hst,List.length_append,wrap64 (by omega) (by omega)];simp
            simp -implicitDefEqProofs only [hkl,hc,hcl,SG,hd,w1,hm1,hm3,hcw,w2,go_sem,seval]
            exact ⟨k + 1,by omega,⟨rfl,rfl⟩,rfl,by omega⟩
        · have hkl:((k:Int) < (s.length:Int))=False:=eq_false (by omega)
          have hkk:k=s.length:=by omega
          subst hkk
          have h1:((aG s).length ≤ (aQ (aG s)).length)=True:=eq_true (by rw [bO];exact Nat.le_refl _)
          have h2:List.take (aG s).length (aQ (aG s))=aQ (aG s):=List.take_of_length_le (by rw [bO];exact Nat.le_refl _)
          have hb:=nI (aG s)
          simp -implicitDefEqProofs only [hkl,QG,h1,h2,hb,go_sem,seval]
  · have hlt:((32:Int) ≤ (s.length:Int))=True:=eq_true (by omega)
    simp -implicitDefEqProofs only [hlt,h256,go_sem,seval]
    refine bA (fun k:Nat=>4 - k) (fun k=>[(0,SG),(1,.str s),(5,.int .i64 (wC s k)),(6,.bool (xW s k)),(30,.ps 4 [.str [34],.str [62],.str [60],.str [38]]),(31,.int .i64 4),(32,.int .i64 k)])
      (fun k s'=>s'=⟨[],0⟩ ∧ k ≤ 4) 0 ?_ ?_
    · simp -implicitDefEqProofs only [SG,go_sem,seval]
      simp [wC,xW]
    rintro k ρ s' ⟨rfl,hk0⟩
    have hcle:∀ c:UInt8,s.count c ≤ s.length:=fun c=>List.count_le_length
    rcases (by omega:k=0 ∨ k=1 ∨ k=2 ∨ k=3 ∨ k=4) with rfl | rfl | rfl | rfl | rfl
    · have hq:=hcle 34
      have hd:=oQ 34 (by omega)
      have hs1:=EJ s 0
      have hs2:wC s 1=wC s 0 + s.count 34 * 5:=by simp [wC]
      have hel:bW 0 1 (.ps 4 [.str [34],.str [62],.str [60],.str [38]])=some (.vp [.str [34],.str [62],.str [60],.str [38]]):=by simp [bW]
      have w2:IntKind.i64.wrap ((s.count 34:Int) * 5)=((s.count 34 * 5:Nat):Int):=by rw [wrap64 (by omega) (by omega)];omega
      have w3:IntKind.i64.wrap ((wC s 0:Int) + ((s.count 34 * 5:Nat):Int))=(wC s 1:Int):=by rw [wrap64 (by omega) (by omega)];omega
      simp -implicitDefEqProofs only [hel,go_sem,seval]
      refine ak (yx s 34) ?_
      by_cases h0:s.count 34=0
      · have h0':((s.count 34:Int)=0)=True:=eq_true (by omega)
        simp -implicitDefEqProofs only [h0',go_sem,seval]
        exact ⟨1,by omega,⟨by rw [hs2,h0];simp,by simp [xW,h0],rfl⟩,by omega⟩
      · have h0':((s.count 34:Int)=0)=False:=eq_false (by omega)
        have hf:Ul 34=.ps 6 (Wq (mZ 34)):=rfl
        have w4:IntKind.i64.wrap 5=5:=rfl
        simp -implicitDefEqProofs only [h0',SG,hd,hf,w2,w3,w4,go_sem,seval]
        refine aA (by kernel_rfl) ?_
        simp -implicitDefEqProofs only [w2,w3,go_sem,seval]
        exact ⟨1,by omega,⟨rfl,by simp [xW,h0],rfl⟩,by omega⟩
    · have hq:=hcle 62
      have hd:=oQ 62 (by omega)
      have hs1:=EJ s 1
      have hs2:wC s 2=wC s 1 + s.count 62 * 3:=by simp [wC]
      have hel:bW 1 1 (.ps 4 [.str [34],.str [62],.str [60],.str [38]])=some (.vp [.str [62],.str [60],.str [38]]):=by simp [bW]
      have w2:IntKind.i64.wrap ((s.count 62:Int) * 3)=((s.count 62 * 3:Nat):Int):=by rw [wrap64 (by omega) (by omega)];omega
      have w3:IntKind.i64.wrap ((wC s 1:Int) + ((s.count 62 * 3:Nat):Int))=(wC s 2:Int):=by rw [wrap64 (by omega) (by omega)];omega
      simp -implicitDefEqProofs only [hel,go_sem,seval]
      refine ak (yx s 62) ?_
      by_cases h0:s.count 62=0
      · have h0':((s.count 62:Int)=0)=True:=eq_true (by omega)
        simp -implicitDefEqProofs only [h0',go_sem,seval]
        exact ⟨2,by omega,⟨by rw [hs2,h0];simp,by simp [xW,h0],rfl⟩,by omega⟩
      · have h0':((s.count 62:Int)=0)=False:=eq_false (by omega)
        have hf:Ul 62=.ps 4 (Wq (mZ 62)):=rfl
        have w4:IntKind.i64.wrap 3=3:=rfl
        simp -implicitDefEqProofs only [h0',SG,hd,hf,w2,w3,w4,go_sem,seval]
        refine aA (by kernel_rfl) ?_
        simp -implicitDefEqProofs only [w2,w3,go_sem,seval]
        exact ⟨2,by omega,⟨rfl,by simp [xW,h0],rfl⟩,by omega⟩
    · have hq:=hcle 60
      have hd:=oQ 60 (by omega)
      have hs1:=EJ s 2
      have hs2:wC s 3=wC s 2 + s.count 60 * 3:=by simp [wC]
      have hel:bW 2 1 (.ps 4 [.str [34],.str [62],.str [60],.str [38]])=some (.vp [.str [60],.str [38]]):=by simp [bW]
      have w2:IntKind.i64.wrap ((s.count 60:Int) * 3)=((s.count 60 * 3:Nat):Int):=by rw [wrap64 (by omega) (by omega)];omega
      have w3:IntKind.i64.wrap ((wC s 2:Int) + ((s.count 60 * 3:Nat):Int))=(wC s 3:Int):=by rw [wrap64 (by omega) (by omega)];omega
      simp -implicitDefEqProofs only [hel,go_sem,seval]
      refine ak (yx s 60) ?_
      by_cases h0:s.count 60=0
      · have h0':((s.count 60:Int)=0)=True:=eq_true (by omega)
        simp -implicitDefEqProofs only [h0',go_sem,seval]
        exact ⟨3,by omega,⟨by rw [hs2,h0];simp,by simp [xW,h0],rfl⟩,by omega⟩
      · have h0':((s.count 60:Int)=0)=False:=eq_false (by omega)
        have hf:Ul 60=.ps 4 (Wq (mZ 60)):=rfl
        have w4:IntKind.i64.wrap 3=3:=rfl
        simp -implicitDefEqProofs only [h0',SG,hd,hf,w2,w3,w4,go_sem,seval]
        refine aA (by kernel_rfl) ?_
        simp -implicitDefEqProofs only [w2,w3,go_sem,seval]
        exact ⟨3,by omega,⟨rfl,by simp [xW,h0],rfl⟩,by omega⟩
    · have hq:=hcle 38
      have hd:=oQ 38 (by omega)
      have hs1:=EJ s 3
      have hs2:wC s 4=wC s 3 + s.count 38 * 4:=by simp [wC]
      have hel:bW 3 1 (.ps 4 [.str [34],.str [62],.str [60],.str [38]])=some (.vp [.str [38]]):=by simp [bW]
      have w2:IntKind.i64.wrap ((s.count 38:Int) * 4)=((s.count 38 * 4:Nat):Int):=by rw [wrap64 (by omega) (by omega)];omega
      have w3:IntKind.i64.wrap ((wC s 3:Int) + ((s.count 38 * 4:Nat):Int))=(wC s 4:Int):=by rw [wrap64 (by omega) (by omega)];omega
      simp -implicitDefEqProofs only [hel,go_sem,seval]
      refine ak (yx s 38) ?_
      by_cases h0:s.count 38=0
      · have h0':((s.count 38:Int)=0)=True:=eq_true (by omega)
        simp -implicitDefEqProofs only [h0',go_sem,seval]
        exact ⟨4,by omega,⟨by rw [hs2,h0];simp,by simp [xW,h0],rfl⟩,by omega⟩
      · have h0':((s.count 38:Int)=0)=False:=eq_false (by omega)
        have hf:Ul 38=.ps 5 (Wq (mZ 38)):=rfl
        have w4:IntKind.i64.wrap 4=4:=rfl
        simp -implicitDefEqProofs only [h0',SG,hd,hf,w2,w3,w4,go_sem,seval]
        refine aA (by kernel_rfl) ?_
        simp -implicitDefEqProofs only [w2,w3,go_sem,seval]
        exact ⟨4,by omega,⟨rfl,by simp [xW,h0],rfl⟩,by omega⟩
    · rw [UN,N8]
      simp -implicitDefEqProofs only [go_sem,seval]
      cases hany:s.any NP with
      | false =>
        rw [Bf hany]
        simp -implicitDefEqProofs only [go_sem,seval]
      | true =>
        have hsl:=ji s
        have hb1:((aG s).length ≤ 140737488355328)=True:=eq_true (by omega)
        have hb2:((aG s).length ≤ 9223372036854775807)=True:=eq_true (by omega)
        simp -implicitDefEqProofs only [hb1,hb2,Nat.mul_one,go_sem,seval]
        refine bA (fun k:Nat=>s.length - k) (fun k=>[(0,SG),(1,.str s),(12,.sl 0 (2 * (aG s).length + 1) 0 (aG s).length 1),(13,.int .i64 (aG (s.take k)).length),(14,.int .i64 k)])
          (fun k s'=>s'=⟨[(0,.cells (2 * (aG s).length + 1) (cW s k) false)],1⟩ ∧ k ≤ s.length) 0 ?_ ?_
        · simp -implicitDefEqProofs only [SG,go_sem,seval]
          simp [KZ,aG]
        rintro k ρ s' ⟨rfl,hk0⟩
        rcases Nat.lt_or_ge k s.length with hk | hk
        · obtain ⟨c,hc⟩:∃ c,s[k]? = some c:=⟨s[k],by simp [hk]⟩
          have hkl:((k:Int) < (s.length:Int))=True:=eq_true (by omega)
          have hcl:(c.toNat < 256)=True:=eq_true c.toNat_lt
          have w1:IntKind.i64.wrap ((k:Int) + 1)=((k + 1:Nat):Int):=by rw [wrap64 (by omega) (by omega)];omega
          have hd:=oQ c.toNat c.toNat_lt
          have hat:=Bu hc
          have hcw:=Le hc
          have hcl2:=R4 s k
          have hst:=nD hc
          rcases La c with ⟨hsp,hf⟩ | ⟨hsp,hf,hone⟩
          · rw [hf] at hd
            have hp:(0 < (mZ c).length)=True:=eq_true (by have:=rC c;omega)
            have hm1:((aG (s.take k)).length ≤ (aG s).length)=True:=eq_true (by omega)
            have hm2:((mZ c).length ≤ (aG s).length - (aG (s.take k)).length)=True:=eq_true (by omega)
            have hm3:((aG (s.take k)).length + (mZ c).length ≤ (cW s k).length)=True:=eq_true (by omega)
            have w2:IntKind.i64.wrap (((aG (s.take k)).length:Int) + ((mZ c).length:Int))=((aG (s.take (k + 1))).length:Int):=by rw [hst,List.length_append,wrap64 (by omega) (by omega)];omega
            have hl1:=rC c
            rcases Nat.eq_zero_or_pos (aG (s.take k)).length with h0 | h0
            · rw [h0] at hcw w2 hm2 hm3 hm1
              simp only [List.take_zero,List.nil_append,Nat.zero_add,Nat.sub_zero] at hcw hm2 hm3
              have h0':((aG (s.take k)).length=0)=True:=eq_true h0
              simp -implicitDefEqProofs only [hkl,hc,hcl,SG,hd,hp,w1,h0,hm1,hm2,hm3,Nat.mul_one,bO,hcw,w2,go_sem,seval]
              refine aA (by kernel_rfl) ?_
              simp -implicitDefEqProofs only [w1,w2,hcw,go_sem,seval]
              have w2z:IntKind.i64.wrap (0 + ((mZ c).length:Int))=((aG (s.take (k + 1))).length:Int):=w2
              exact ⟨k + 1,by omega,⟨by rw [w2z],rfl⟩,rfl,by omega⟩
            · have h0':((aG (s.take k)).length=0)=False:=eq_false (by omega)
              have hm4:((aG (s.take k)).length < (aG s).length)=True:=eq_true (by omega)
              simp -implicitDefEqProofs only [hkl,hc,hcl,SG,hd,hp,w1,h0',hm1,hm2,hm3,hm4,Nat.mul_one,bO,hcw,w2,go_sem,seval]
              refine aA (by kernel_rfl) ?_
              simp -implicitDefEqProofs only [w1,w2,hcw,go_sem,seval]
              exact ⟨k + 1,by omega,⟨rfl,rfl⟩,rfl,by omega⟩
          · rw [hf] at hd
            rw [hone] at hat hcw hst
            simp only [List.length_cons,List.length_nil,Nat.zero_add,aQ,List.map_cons,List.map_nil] at hat hcw
            have hm1:((aG (s.take k)).length < (aG s).length)=True:=eq_true (by omega)
            have hm3:((aG (s.take k)).length + 1 ≤ (cW s k).length)=True:=eq_true (by omega)
            have w2:IntKind.i64.wrap (((aG (s.take k)).length:Int) + 1)=((aG (s.take (k + 1))).length:Int):=by rw [hst,List.length_append,wrap64 (by omega) (by omega)];simp
            simp -implicitDefEqProofs only [hkl,hc,hcl,SG,hd,w1,hm1,hm3,hcw,w2,go_sem,seval]
            exact ⟨k + 1,by omega,⟨rfl,rfl⟩,rfl,by omega⟩
        · have hkl:((k:Int) < (s.length:Int))=False:=eq_false (by omega)
          have hkk:k=s.length:=by omega
          subst hkk
          have h1:((aG s).length ≤ (aQ (aG s)).length)=True:=eq_true (by rw [bO];exact Nat.le_refl _)
          have h2:List.take (aG s).length (aQ (aG s))=aQ (aG s):=List.take_of_length_le (by rw [bO];exact Nat.le_refl _)
          have hb:=nI (aG s)
          simp -implicitDefEqProofs only [hkl,QG,h1,h2,hb,go_sem,seval]
end W10
/- The scanner: strings.Cut, strings.Index. -/
namespace W10
open Go Go.AX Go.AX.Ty Go.Proofs
def dS (e:Str):Str → Str
  | []=>[]
  | c :: r=>if hasB (c :: r) e=true then [] else c :: dS e r
def bT (e:Str):Str → Str
  | []=>[]
  | c :: r=>if hasB (c :: r) e=true then (c :: r).drop e.length else bT e r
theorem PX (s p:Str):p.isPrefixOf s=hasB s p:=by
  rw [Bool.eq_iff_iff,bS]
  rw [List.isPrefixOf_iff_prefix]
  exact ⟨fun ⟨r,h⟩=>⟨r,h.symm⟩,fun ⟨r,h⟩=>⟨r,h.symm⟩⟩
def idxOf (e:Str):Str → Option Nat
  | []=>none
  | c :: r=>if hasB (c :: r) e=true then some 0 else (idxOf e r).map (· + 1)
theorem Am {e:Str} (he:e ≠ []):∀ s:Str,Lib.index s e=match idxOf e s with | some i=>(i:Int) | none=>-1
  | [] => by cases e with
    | nil=>exact absurd rfl he
    | cons x y=>rfl
  | c :: r => by
    simp only [Lib.index,idxOf,PX]
    have ih:=Am he r
    cases hasB (c :: r) e with
    | true=>rfl
    | false =>
      simp only [Bool.false_eq_true,if_false]
      rw [ih]
      cases idxOf e r with
      | none=>rfl
      | some i =>
        simp only [Option.map_some]
        rw [if_neg (by simp)]
        rfl
theorem OT {e:Str}:∀ s:Str,(match idxOf e s with | some i=>(s.take i,s.drop (i + e.length)) | none=>(s,[]))=(dS e s,bT e s)
  | []=>rfl
  | c :: r => by
    simp only [idxOf,dS,bT]
    have ih:=OT (e:=e) r
    cases hasB (c :: r) e with
    | true=>simp
    | false =>
      simp only [Bool.false_eq_true,if_false]
      cases hi:idxOf e r with
      | none=>rw [hi] at ih;simp only [Prod.mk.injEq] at ih;simp only [Option.map_none];rw [← ih.1,← ih.2]
      | some i =>
        rw [hi] at ih;simp only [Prod.mk.injEq] at ih;simp only [Option.map_some];rw [← ih.1,← ih.2]
        simp only [List.take_succ_cons,Prod.mk.injEq,true_and]
        rw [show i + 1 + e.length=(i + e.length) + 1 by omega,List.drop_succ_cons]
theorem Xd {e:Str} (he:e ≠ []) (s:Str):(Lib.cut s e).1=dS e s ∧ (Lib.cut s e).2.1=bT e s:=by
  have h1:=Am he s
  have h2:=OT (e:=e) s
  unfold Lib.cut
  cases hi:idxOf e s with
  | none =>
    rw [hi] at h1 h2;simp only [Prod.mk.injEq] at h1 h2
    rw [h1,if_neg (by omega)]
    exact h2
  | some i =>
    rw [hi] at h1 h2;simp only [Prod.mk.injEq] at h1 h2
    rw [h1,if_pos (by omega)]
    simpa using h2
theorem DC:jA Tryz.prog 73:=⟨_,Tryz.func73,by kernel_rfl,by kernel_rfl⟩
theorem zA:jA Tryz.prog 80:=⟨_,Tryz.func80,by kernel_rfl,by kernel_rfl⟩
theorem Y1 (s:Str) {e:Str} (he:e ≠ []) (hs:s.length ≤ 1000000000):bB Tryz.prog 73 [.str s,.str e] (.tup [.str (dS e s),.str (bT e s),.bool (Lib.cut s e).2.2]):=by
  refine ⟨⟨DC,fun cx w vs hs' hr=>?_⟩,rfl,rfl⟩
  simp only [aB,aD] at hr
  obtain ⟨u,us,rfl,rfl,u2,us2,rfl,rfl,rfl⟩:=hr
  obtain ⟨m,hm⟩:=cx.gl
  refine (Tryz.strings_Cut ⟨s.toArray⟩ ⟨e.toArray⟩ m w (by show s.toArray.size < _;simp;omega) (hs'.mem _ _ _ hm).1).mono fun o w' ⟨h1,n,h2⟩=>?_
  subst h2
  obtain ⟨q1,q2⟩:=hs'.sameHeap (w':=w.drewN n) rfl ⟨rfl,rfl,rfl⟩
  obtain ⟨k1,k2⟩:=Xd he s
  refine ⟨_,_,cx,_,h1,?_,q1,q2,rfl⟩
  simp only [aD,aB]
  exact ⟨[_,_,_],rfl,_,_,rfl,by rw [k1],_,_,rfl,by rw [k2],_,_,rfl,rfl,rfl⟩
theorem UC (s:Str) {e:Str} (he:e ≠ []) (hs:s.length ≤ 1000000000):bB Tryz.prog 80 [.str s,.str e] (.int .i64 (match idxOf e s with | some i=>(i:Int) | none=>-1)):=by
  refine ⟨⟨zA,fun cx w vs hs' hr=>?_⟩,rfl,rfl⟩
  simp only [aB,aD] at hr
  obtain ⟨u,us,rfl,rfl,u2,us2,rfl,rfl,rfl⟩:=hr
  obtain ⟨m,hm⟩:=cx.gl
  refine (Tryz.strings_Index ⟨s.toArray⟩ ⟨e.toArray⟩ m w (by show s.toArray.size < _;simp;omega) (hs'.mem _ _ _ hm).1).mono fun o w' ⟨h1,h2⟩=>?_
  subst h2
  refine ⟨_,_,cx,_,h1,?_,hs',Ext.refl _ _ _,rfl⟩
  simp only [aD]
  rw [← Am he]
theorem lI {e:Str}:∀ s:Str,(bT e s).length ≤ s.length
  | []=>Nat.le_refl _
  | c :: r => by
    simp only [bT]
    split
    · simp
    · have:=lI (e:=e) r;simp;omega
theorem Aw {s:St} {b v:Nat} {t e:Str} {V:AV} (g:s.get b=some (.cells v [.str t,V] false)) (he:e ≠ []) (ht:t.length ≤ 1000000000) :
    aF Tryz.prog 57 [.ptr b v 0,.str e] s fun x s'=>x=.str (dS e t) ∧ s'=s.put b (.cells v [.str (bT e t),V] false):=by
  obtain ⟨h,m⟩:=s
  refine bE mix (dx _) c57 (by kernel_rfl) (Nat.le_of_ble_eq_true (by kernel_rfl)) ?_
  have g':AX.look b h=some (.cells v [.str t,V] false):=g
  simp -implicitDefEqProofs only [F57,g',go_sem,seval]
  refine ak (Y1 t he ht) ?_
  simp -implicitDefEqProofs only [g',go_sem,seval]
theorem rO {p:UInt8 → Bool}:∀ t:Str,t.dropWhile p=t.drop (t.takeWhile p).length
  | []=>rfl
  | c :: r => by
    rw [List.dropWhile_cons,List.takeWhile_cons]
    split
    · simp [rO r]
    · rfl
theorem x9 {p:UInt8 → Bool}:∀ t:Str,t.takeWhile p=t.take (t.takeWhile p).length
  | []=>rfl
  | c :: r => by
    rw [List.takeWhile_cons]
    split
    · simp [← x9 r]
    · rfl
theorem yc {s:St} {b v f:Nat} {t:Str} {V:AV} {p:UInt8 → Bool} (hp:∀ c:UInt8,bB Tryz.prog f [.int .u8 c.toNat] (.bool (p c))) (g:s.get b=some (.cells v [.str t,V] false)) (ht:t.length ≤ 1000000000) :
    aF Tryz.prog 92 [.ptr b v 0,.fn (.func f) [] []] s fun x s'=>x=.str (t.takeWhile p) ∧ s'=s.put b (.cells v [.str (t.dropWhile p),V] false):=by
  obtain ⟨h,m⟩:=s
  refine bE mix (dx _) c92 (by kernel_rfl) (Nat.le_of_ble_eq_true (by kernel_rfl)) ?_
  have g':AX.look b h=some (.cells v [.str t,V] false):=g
  simp -implicitDefEqProofs only [F92,go_sem,seval]
  refine bA (fun n:Nat=>t.length - n) (fun n=>[(0,.ptr b v 0),(1,.fn (.func f) [] []),(5,.int .i64 n)])
    (fun n st=>st=⟨h,m⟩ ∧ n ≤ t.length ∧ ∀ i,i < n → ∃ c,t[i]? = some c ∧ p c=true) 0 ?_ ?_
  · simp -implicitDefEqProofs only [go_sem,seval]
    exact fun i hi=>hi.elim
  rintro n ρ st ⟨rfl,n1,n2⟩
  have w1:IntKind.i64.wrap ((n:Int) + 1)=((n + 1:Nat):Int):=by rw [wrap64 (by omega) (by omega)];omega
  rcases Nat.lt_or_ge n t.length with hn | hn
  · obtain ⟨x,hx⟩:∃ x,t[n]? = some x:=⟨t[n],by simp [hn]⟩
    have h2:((n:Int) < (t.length:Int))=True:=eq_true (by omega)
    simp -implicitDefEqProofs only [g',h2,hx,go_sem,seval]
    refine ak (hp x) ?_
    cases hi:p x with
    | true =>
      simp -implicitDefEqProofs only [w1,go_sem,seval]
      refine ⟨n + 1,by omega,rfl,by omega,fun i hi'=>?_⟩
      rcases Nat.lt_or_ge i n with hlt | hge
      · exact n2 i hlt
      · have:i=n:=by omega
        subst this
        exact ⟨x,hx,hi⟩
    | false =>
      simp -implicitDefEqProofs only [go_sem,seval]
      have e:=EZ t n n2 (.inr ⟨x,hx,hi⟩)
      have e1:t.takeWhile p=t.take n:=by rw [x9 t,e]
      have e2:t.dropWhile p=t.drop n:=by rw [rO,e]
      refine eH (jH g n (by omega) ht) ?_
      rw [e1,e2]
      simp -implicitDefEqProofs only [go_sem,seval]
  · have h2:((n:Int) < (t.length:Int))=False:=eq_false (by omega)
    simp -implicitDefEqProofs only [g',h2,go_sem,seval]
    have e:=EZ t n n2 (.inl (by omega))
    have e1:t.takeWhile p=t.take n:=by rw [x9 t,e]
    have e2:t.dropWhile p=t.drop n:=by rw [rO,e]
    refine eH (jH g n (by omega) ht) ?_
    rw [e1,e2]
    simp -implicitDefEqProofs only [go_sem,seval]
end W10
