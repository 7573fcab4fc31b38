/- The laws of this seat: each returns true for every input, and its arguments read as they did. -/
import Derived.Test.YtdeclhljkmlpiaaGreatRows
import Derived.ProofKit
import Derived.SizedLaws
import Derived.HandedShaped
import Derived.Shelf.Vars
import Derived.Test.YtdeclhljkmlpiaaGreatTxZ
set_option linter.unusedSimpArgs false
set_option linter.unusedVariables false
namespace Go.Proofs.YtdeclhljkmlpiaaGreat
open Go.ChangeShapes Go.WideShapes Go.ChangeAt Go.RowKit Go.AX Go.AX.Ty
theorem own:ownKnob Tryz.prog.godebug=none:=by kernel_rfl
theorem laidOut:laidOutB Tryz.prog=true:=by kernel_rfl
theorem rdStr:Reads Tryz.prog 9 Str:=LG Tryz.underlying9
theorem Xt:Reads Tryz.prog 48 Ty.Attr:=Kg Tryz.underlying48 (by kernel_rfl) (by kernel_rfl) rdStr rdStr
theorem RA:Reads Tryz.prog 33 (List Ty.Attr):=fun n=>qN Tryz.underlying33 (by kernel_rfl) (by decide) (of_decide_eq_true (by kernel_rfl)) fun m _=>Xt m
theorem Sm:Reads Tryz.prog 3 Int:=LH Tryz.underlying3
theorem TD:Reads Tryz.prog 34 (List Int):=fun n=>qN Tryz.underlying34 (by kernel_rfl) (by decide) (of_decide_eq_true (by kernel_rfl)) fun m _=>Sm m
theorem WA:Reads Tryz.prog 36 Ty.Node:=Jg Tryz.underlying36 (by kernel_rfl) (by kernel_rfl) rdStr RA rdStr Sm TD
theorem Xm:Reads Tryz.prog 23 (List Ty.Node):=fun n=>qN Tryz.underlying23 (by kernel_rfl) (by decide) (of_decide_eq_true (by kernel_rfl)) fun m _=>WA m
set_option maxRecDepth 100000 in
theorem Bo (os:Os) (started:os.Started) (H:Type) (enc:TypeId × Value → H) :
    ReturnsInHanded {} Tryz.checked os 3 .any (Rows.domBackSpec.pre6 enc Tryz.prog Tryz.f3 Rows.domBackRow.domain false) (Rows.domBackSpec.post enc Tryz.prog Tryz.f3 false true false false):=by
  refine returnsInHanded_of_change_shaped (C:=Tryz.checked) own started (by kernel_rfl) Tryz.func3
    (ChangeSpec.witness6 (enc:=enc) (C:=Tryz.checked) false ⟨#[],#[.string ⟨#[]⟩,.slice none 0 0],[]⟩ 20 (by kernel_rfl) (by kernel_rfl) (by kernel_rfl) (by kernel_rfl)) ?_
  intro W base args ds gs before hval0 hW hcnd hsz0 hsh _
  have hGl:LK W:=⟨by obtain ⟨m,hm⟩:=cell_of_shapedOpen_int (P:=Tryz.prog) (g:=0) (t:=3) (zero:=#[.int .i64 0]) hsh (of_decide_eq_true (by kernel_rfl)) (by kernel_rfl) rfl (by kernel_rfl) (by kernel_rfl) Tryz.underlying3;exact ⟨m,hm⟩⟩
  have hval:∀ (j:Nat) t v,Tryz.f3.params[j]? = some t → args[j]? = some v → Value.okWide Tryz.prog W .any base t v:=hval0
  have hW':=hW
  obtain ⟨p,q,hA0,hV,rfl,hfz,hnd⟩:=hW
  have hA:DataW.TrodAll enc Tryz.prog W 0 (fun _=>true) true Tryz.f3.params.toList args.toList ds p:=hA0
  have hsz:(DataW.weightsEach Tryz.prog (Tryz.f3.params.toList ++ []) (ds ++ gs)).all (· ≤ reachBytes)=true:=hsz0
  obtain ⟨rfl,rfl⟩:=trodVars_none hV
  rw [Tryz.params3] at hA hval hsz
  obtain ⟨v0,v1,d0,d1,p0,p1,rfl,rfl,rfl,h0,h1⟩:=trodAll_two hA
  simp only [List.append_nil] at hsz
  obtain ⟨a0,r0,o0⟩:=ow rdStr Tryz.underlying9 (.inr (.inr (.inl rfl))) (fun _=>rfl) (hval 0 _ v0 rfl rfl) h0 (lu hsz 0 _ d0 rfl rfl)
  obtain ⟨a1,r1,o1⟩:=ow Xm Tryz.underlying23 (.inr (.inr (.inr ⟨_,rfl⟩))) (fun _=>rfl) (hval 1 _ v1 rfl rfl) h1 (lu hsz 1 _ d1 rfl rfl)
  refine (mX ((W10.Rn a0 a1 o1).1) (YV r0 r1)).mono fun e W' ⟨he,hb⟩=>?_
  exact ⟨_,he,oh (tb:=4) laidOut (by kernel_rfl) rfl (by kernel_rfl) (by kernel_rfl) ⟨rfl,rfl,rfl⟩ hW' hb⟩
theorem domBack_holds:Rows.DomBackSaid:=
  OpenClaim.holds_of_wide 3 Tryz.f3 rfl rfl rfl rfl rfl rfl rfl ⟨rfl,rfl,rfl,rfl,rfl⟩ rfl rfl rfl rfl rfl (by kernel_rfl) Tryz.func3 (by kernel_rfl)
    (of_decide_eq_true (by kernel_rfl)) (by unfold Func.isWrapper;rw [if_neg (by decide +kernel)];exact ⟨rfl,rfl⟩)
    (fun os started H enc _=>Bo os started H enc)
set_option maxRecDepth 100000 in
theorem zR (os:Os) (started:os.Started) (H:Type) (enc:TypeId × Value → H) :
    ReturnsInHanded {} Tryz.checked os 4 .any (Rows.domTreeSpec.pre6 enc Tryz.prog Tryz.f4 Rows.domTreeRow.domain false) (Rows.domTreeSpec.post enc Tryz.prog Tryz.f4 false true false false):=by
  refine returnsInHanded_of_change_shaped (C:=Tryz.checked) own started (by kernel_rfl) Tryz.func4
    (ChangeSpec.witness6 (enc:=enc) (C:=Tryz.checked) false ⟨#[],#[.string ⟨#[]⟩],[]⟩ 20 (by kernel_rfl) (by kernel_rfl) (by kernel_rfl) (by kernel_rfl)) ?_
  intro W base args ds gs before hval0 hW hcnd hsz0 hsh _
  have hGl:LK W:=⟨by obtain ⟨m,hm⟩:=cell_of_shapedOpen_int (P:=Tryz.prog) (g:=0) (t:=3) (zero:=#[.int .i64 0]) hsh (of_decide_eq_true (by kernel_rfl)) (by kernel_rfl) rfl (by kernel_rfl) (by kernel_rfl) Tryz.underlying3;exact ⟨m,hm⟩⟩
  have hval:∀ (j:Nat) t v,Tryz.f4.params[j]? = some t → args[j]? = some v → Value.okWide Tryz.prog W .any base t v:=hval0
  have hW':=hW
  obtain ⟨p,q,hA0,hV,rfl,hfz,hnd⟩:=hW
  have hA:DataW.TrodAll enc Tryz.prog W 0 (fun _=>true) true Tryz.f4.params.toList args.toList ds p:=hA0
  have hsz:(DataW.weightsEach Tryz.prog (Tryz.f4.params.toList ++ []) (ds ++ gs)).all (· ≤ reachBytes)=true:=hsz0
  obtain ⟨rfl,rfl⟩:=trodVars_none hV
  rw [Tryz.params4] at hA hval hsz
  obtain ⟨v0,d0,rfl,rfl,h0⟩:=trodAll_one hA
  simp only [List.append_nil] at hsz
  obtain ⟨a0,r0,o0⟩:=ow rdStr Tryz.underlying9 (.inr (.inr (.inl rfl))) (fun _=>rfl) (hval 0 _ v0 rfl rfl) h0 (lu hsz 0 _ d0 rfl rfl)
  refine (mX ((W10.RH a0).1) (KR r0)).mono fun e W' ⟨he,hb⟩=>?_
  exact ⟨_,he,oh (tb:=4) laidOut (by kernel_rfl) rfl (by kernel_rfl) (by kernel_rfl) ⟨rfl,rfl,rfl⟩ hW' hb⟩
theorem domTree_holds:Rows.DomTreeSaid:=
  OpenClaim.holds_of_wide 4 Tryz.f4 rfl rfl rfl rfl rfl rfl rfl ⟨rfl,rfl,rfl,rfl,rfl⟩ rfl rfl rfl rfl rfl (by kernel_rfl) Tryz.func4 (by kernel_rfl)
    (of_decide_eq_true (by kernel_rfl)) (by unfold Func.isWrapper;rw [if_neg (by decide +kernel)];exact ⟨rfl,rfl⟩)
    (fun os started H enc _=>zR os started H enc)
set_option maxRecDepth 100000 in
theorem AP (os:Os) (started:os.Started) (H:Type) (enc:TypeId × Value → H) :
    ReturnsInHanded {} Tryz.checked os 5 .any (Rows.domNestSpec.pre6 enc Tryz.prog Tryz.f5 Rows.domNestRow.domain false) (Rows.domNestSpec.post enc Tryz.prog Tryz.f5 false true false false):=by
  refine returnsInHanded_of_change_shaped (C:=Tryz.checked) own started (by kernel_rfl) Tryz.func5
    (ChangeSpec.witness6 (enc:=enc) (C:=Tryz.checked) false ⟨#[],#[.int .i64 0],[]⟩ 20 (by kernel_rfl) (by kernel_rfl) (by kernel_rfl) (by kernel_rfl)) ?_
  intro W base args ds gs before hval0 hW hcnd hsz0 hsh _
  have hGl:LK W:=⟨by obtain ⟨m,hm⟩:=cell_of_shapedOpen_int (P:=Tryz.prog) (g:=0) (t:=3) (zero:=#[.int .i64 0]) hsh (of_decide_eq_true (by kernel_rfl)) (by kernel_rfl) rfl (by kernel_rfl) (by kernel_rfl) Tryz.underlying3;exact ⟨m,hm⟩⟩
  have hval:∀ (j:Nat) t v,Tryz.f5.params[j]? = some t → args[j]? = some v → Value.okWide Tryz.prog W .any base t v:=hval0
  have hW':=hW
  obtain ⟨p,q,hA0,hV,rfl,hfz,hnd⟩:=hW
  have hA:DataW.TrodAll enc Tryz.prog W 0 (fun _=>true) true Tryz.f5.params.toList args.toList ds p:=hA0
  have hsz:(DataW.weightsEach Tryz.prog (Tryz.f5.params.toList ++ []) (ds ++ gs)).all (· ≤ reachBytes)=true:=hsz0
  obtain ⟨rfl,rfl⟩:=trodVars_none hV
  rw [Tryz.params5] at hA hval hsz
  obtain ⟨v0,d0,rfl,rfl,h0⟩:=trodAll_one hA
  simp only [List.append_nil] at hsz
  obtain ⟨a0,r0,o0⟩:=ow Sm Tryz.underlying3 (.inl ⟨_,rfl⟩) (fun _=>rfl) (hval 0 _ v0 rfl rfl) h0 (lu hsz 0 _ d0 rfl rfl)
  refine (mX ((W10.Q8 a0).1) (KR r0)).mono fun e W' ⟨he,hb⟩=>?_
  exact ⟨_,he,oh (tb:=4) laidOut (by kernel_rfl) rfl (by kernel_rfl) (by kernel_rfl) ⟨rfl,rfl,rfl⟩ hW' hb⟩
theorem domNest_holds:Rows.DomNestSaid:=
  OpenClaim.holds_of_wide 5 Tryz.f5 rfl rfl rfl rfl rfl rfl rfl ⟨rfl,rfl,rfl,rfl,rfl⟩ rfl rfl rfl rfl rfl (by kernel_rfl) Tryz.func5 (by kernel_rfl)
    (of_decide_eq_true (by kernel_rfl)) (by unfold Func.isWrapper;rw [if_neg (by decide +kernel)];exact ⟨rfl,rfl⟩)
    (fun os started H enc _=>AP os started H enc)
set_option maxRecDepth 100000 in
theorem BU (os:Os) (started:os.Started) (H:Type) (enc:TypeId × Value → H) :
    ReturnsInHanded {} Tryz.checked os 6 .any (Rows.domKinSpec.pre6 enc Tryz.prog Tryz.f6 Rows.domKinRow.domain false) (Rows.domKinSpec.post enc Tryz.prog Tryz.f6 false true false false):=by
  refine returnsInHanded_of_change_shaped (C:=Tryz.checked) own started (by kernel_rfl) Tryz.func6
    (ChangeSpec.witness6 (enc:=enc) (C:=Tryz.checked) false ⟨#[],#[.string ⟨#[]⟩],[]⟩ 20 (by kernel_rfl) (by kernel_rfl) (by kernel_rfl) (by kernel_rfl)) ?_
  intro W base args ds gs before hval0 hW hcnd hsz0 hsh _
  have hGl:LK W:=⟨by obtain ⟨m,hm⟩:=cell_of_shapedOpen_int (P:=Tryz.prog) (g:=0) (t:=3) (zero:=#[.int .i64 0]) hsh (of_decide_eq_true (by kernel_rfl)) (by kernel_rfl) rfl (by kernel_rfl) (by kernel_rfl) Tryz.underlying3;exact ⟨m,hm⟩⟩
  have hval:∀ (j:Nat) t v,Tryz.f6.params[j]? = some t → args[j]? = some v → Value.okWide Tryz.prog W .any base t v:=hval0
  have hW':=hW
  obtain ⟨p,q,hA0,hV,rfl,hfz,hnd⟩:=hW
  have hA:DataW.TrodAll enc Tryz.prog W 0 (fun _=>true) true Tryz.f6.params.toList args.toList ds p:=hA0
  have hsz:(DataW.weightsEach Tryz.prog (Tryz.f6.params.toList ++ []) (ds ++ gs)).all (· ≤ reachBytes)=true:=hsz0
  obtain ⟨rfl,rfl⟩:=trodVars_none hV
  rw [Tryz.params6] at hA hval hsz
  obtain ⟨v0,d0,rfl,rfl,h0⟩:=trodAll_one hA
  simp only [List.append_nil] at hsz
  obtain ⟨a0,r0,o0⟩:=ow rdStr Tryz.underlying9 (.inr (.inr (.inl rfl))) (fun _=>rfl) (hval 0 _ v0 rfl rfl) h0 (lu hsz 0 _ d0 rfl rfl)
  refine (mX ((W10.Us a0).1) (KR r0)).mono fun e W' ⟨he,hb⟩=>?_
  exact ⟨_,he,oh (tb:=4) laidOut (by kernel_rfl) rfl (by kernel_rfl) (by kernel_rfl) ⟨rfl,rfl,rfl⟩ hW' hb⟩
theorem domKin_holds:Rows.DomKinSaid:=
  OpenClaim.holds_of_wide 6 Tryz.f6 rfl rfl rfl rfl rfl rfl rfl ⟨rfl,rfl,rfl,rfl,rfl⟩ rfl rfl rfl rfl rfl (by kernel_rfl) Tryz.func6 (by kernel_rfl)
    (of_decide_eq_true (by kernel_rfl)) (by unfold Func.isWrapper;rw [if_neg (by decide +kernel)];exact ⟨rfl,rfl⟩)
    (fun os started H enc _=>BU os started H enc)
set_option maxRecDepth 100000 in
theorem Ae (os:Os) (started:os.Started) (H:Type) (enc:TypeId × Value → H) :
    ReturnsInHanded {} Tryz.checked os 7 .any (Rows.domEndsSpec.pre6 enc Tryz.prog Tryz.f7 Rows.domEndsRow.domain false) (Rows.domEndsSpec.post enc Tryz.prog Tryz.f7 false true false false):=by
  refine returnsInHanded_of_change_shaped (C:=Tryz.checked) own started (by kernel_rfl) Tryz.func7
    (ChangeSpec.witness6 (enc:=enc) (C:=Tryz.checked) false ⟨#[],#[.string ⟨#[]⟩],[]⟩ 20 (by kernel_rfl) (by kernel_rfl) (by kernel_rfl) (by kernel_rfl)) ?_
  intro W base args ds gs before hval0 hW hcnd hsz0 hsh _
  have hGl:LK W:=⟨by obtain ⟨m,hm⟩:=cell_of_shapedOpen_int (P:=Tryz.prog) (g:=0) (t:=3) (zero:=#[.int .i64 0]) hsh (of_decide_eq_true (by kernel_rfl)) (by kernel_rfl) rfl (by kernel_rfl) (by kernel_rfl) Tryz.underlying3;exact ⟨m,hm⟩⟩
  have hval:∀ (j:Nat) t v,Tryz.f7.params[j]? = some t → args[j]? = some v → Value.okWide Tryz.prog W .any base t v:=hval0
  have hW':=hW
  obtain ⟨p,q,hA0,hV,rfl,hfz,hnd⟩:=hW
  have hA:DataW.TrodAll enc Tryz.prog W 0 (fun _=>true) true Tryz.f7.params.toList args.toList ds p:=hA0
  have hsz:(DataW.weightsEach Tryz.prog (Tryz.f7.params.toList ++ []) (ds ++ gs)).all (· ≤ reachBytes)=true:=hsz0
  obtain ⟨rfl,rfl⟩:=trodVars_none hV
  rw [Tryz.params7] at hA hval hsz
  obtain ⟨v0,d0,rfl,rfl,h0⟩:=trodAll_one hA
  simp only [List.append_nil] at hsz
  obtain ⟨a0,r0,o0⟩:=ow rdStr Tryz.underlying9 (.inr (.inr (.inl rfl))) (fun _=>rfl) (hval 0 _ v0 rfl rfl) h0 (lu hsz 0 _ d0 rfl rfl)
  refine (mX ((W10.RD a0).1) (KR r0)).mono fun e W' ⟨he,hb⟩=>?_
  exact ⟨_,he,oh (tb:=4) laidOut (by kernel_rfl) rfl (by kernel_rfl) (by kernel_rfl) ⟨rfl,rfl,rfl⟩ hW' hb⟩
theorem domEnds_holds:Rows.DomEndsSaid:=
  OpenClaim.holds_of_wide 7 Tryz.f7 rfl rfl rfl rfl rfl rfl rfl ⟨rfl,rfl,rfl,rfl,rfl⟩ rfl rfl rfl rfl rfl (by kernel_rfl) Tryz.func7 (by kernel_rfl)
    (of_decide_eq_true (by kernel_rfl)) (by unfold Func.isWrapper;rw [if_neg (by decide +kernel)];exact ⟨rfl,rfl⟩)
    (fun os started H enc _=>Ae os started H enc)
end Go.Proofs.YtdeclhljkmlpiaaGreat
