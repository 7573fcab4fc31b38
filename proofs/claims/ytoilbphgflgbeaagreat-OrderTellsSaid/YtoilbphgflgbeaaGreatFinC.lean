/- The laws of this seat: each returns true for every input, and its arguments read as they did. -/
import Derived.Test.YtoilbphgflgbeaaGreatRows
import Derived.ProofKit
import Derived.SizedLaws
import Derived.Test.YtoilbphgflgbeaaGreatTxI
set_option linter.unusedSimpArgs false
set_option linter.unusedVariables false
namespace Go.Proofs.YtoilbphgflgbeaaGreat
open Go.ChangeShapes Go.WideShapes Go.ChangeAt Go.RowKit Go.AX Go.AX.Ty
theorem own:ownKnob Tryz.prog.godebug=none:=by kernel_rfl
theorem laidOut:laidOutB Tryz.prog=true:=by kernel_rfl
theorem kQ:Reads Tryz.prog 3 Int:=JJ Tryz.underlying3
theorem rdStr:Reads Tryz.prog 9 Str:=Ll Tryz.underlying9
theorem LX:Reads Tryz.prog 149 Ty.Simple:=Bj Tryz.underlying149 (by kernel_rfl) (by kernel_rfl) (of_decide_eq_true (by kernel_rfl)) kQ rdStr rdStr kQ kQ Tryz.underlying99
theorem Gp:Reads Tryz.prog 99 (List Ty.Simple):=fun n=>bV Tryz.underlying99 (by kernel_rfl) (by decide) (of_decide_eq_true (by kernel_rfl)) fun m _=>LX m
theorem TL:Reads Tryz.prog 101 Ty.Part:=E5 Tryz.underlying101 (by kernel_rfl) (by kernel_rfl) kQ Gp
theorem NP:Reads Tryz.prog 96 (List Ty.Part):=fun n=>bV Tryz.underlying96 (by kernel_rfl) (by decide) (of_decide_eq_true (by kernel_rfl)) fun m _=>TL m
theorem Kv:Reads Tryz.prog 98 Ty.Complex:=yX Tryz.underlying98 (by kernel_rfl) (by kernel_rfl) NP rdStr
theorem EG:Reads Tryz.prog 38 (List Ty.Complex):=fun n=>bV Tryz.underlying38 (by kernel_rfl) (by decide) (of_decide_eq_true (by kernel_rfl)) fun m _=>Kv m
theorem Qe:Reads Tryz.prog 79 Ty.Token:=EO Tryz.underlying79 (by kernel_rfl) (by kernel_rfl) kQ rdStr kQ
theorem UC:Reads Tryz.prog 81 Ty.Val:=Ky Tryz.underlying81 (by kernel_rfl) (by kernel_rfl) (of_decide_eq_true (by kernel_rfl)) kQ Qe Tryz.underlying43
theorem IW:Reads Tryz.prog 43 (List Ty.Val):=fun n=>bV Tryz.underlying43 (by kernel_rfl) (by decide) (of_decide_eq_true (by kernel_rfl)) fun m _=>UC m
theorem rdBool:Reads Tryz.prog 4 Bool:=HV Tryz.underlying4
theorem Sz:Reads Tryz.prog 58 Ty.Decl:=Fg Tryz.underlying58 (by kernel_rfl) (by kernel_rfl) rdStr IW rdBool
theorem Oq:Reads Tryz.prog 39 (List Ty.Decl):=fun n=>bV Tryz.underlying39 (by kernel_rfl) (by decide) (of_decide_eq_true (by kernel_rfl)) fun m _=>Sz m
theorem Q8:Reads Tryz.prog 30 (List Str):=fun n=>bV Tryz.underlying30 (by kernel_rfl) (by decide) (of_decide_eq_true (by kernel_rfl)) fun m _=>rdStr m
theorem TP:Reads Tryz.prog 71 Ty.Item:=FV Tryz.underlying71 (by kernel_rfl) (by kernel_rfl) (of_decide_eq_true (by kernel_rfl)) kQ EG Oq Q8 kQ kQ IW Tryz.underlying68
theorem Nj:Reads Tryz.prog 68 (List Ty.Item):=fun n=>bV Tryz.underlying68 (by kernel_rfl) (by decide) (of_decide_eq_true (by kernel_rfl)) fun m _=>TP m
theorem FL:Reads Tryz.prog 22 (List (List Ty.Item)):=fun n=>bV Tryz.underlying22 (by kernel_rfl) (by decide) (of_decide_eq_true (by kernel_rfl)) fun m _=>Nj m
theorem TR:Reads Tryz.prog 127 Ty.Attr:=Gg Tryz.underlying127 (by kernel_rfl) (by kernel_rfl) rdStr rdStr
theorem OD:Reads Tryz.prog 122 (List Ty.Attr):=fun n=>bV Tryz.underlying122 (by kernel_rfl) (by decide) (of_decide_eq_true (by kernel_rfl)) fun m _=>TR m
theorem Qk:Reads Tryz.prog 123 (List Int):=fun n=>bV Tryz.underlying123 (by kernel_rfl) (by decide) (of_decide_eq_true (by kernel_rfl)) fun m _=>kQ m
theorem Ug:Reads Tryz.prog 125 Ty.Node:=GL Tryz.underlying125 (by kernel_rfl) (by kernel_rfl) rdStr OD rdStr kQ Qk
theorem TS:Reads Tryz.prog 24 (List Ty.Node):=fun n=>bV Tryz.underlying24 (by kernel_rfl) (by decide) (of_decide_eq_true (by kernel_rfl)) fun m _=>Ug m
theorem PS:Reads Tryz.prog 129 Ty.State:=Dc Tryz.underlying129 (by kernel_rfl) (by kernel_rfl) kQ rdStr
theorem KL:Reads Tryz.prog 25 (List Ty.State):=fun n=>bV Tryz.underlying25 (by kernel_rfl) (by decide) (of_decide_eq_true (by kernel_rfl)) fun m _=>PS m
theorem Qh:Reads Tryz.prog 27 Ty.bO:=EH Tryz.underlying27 (by kernel_rfl) (by kernel_rfl) FL TS kQ KL
set_option maxRecDepth 100000 in
theorem orderTells_lifted (os:Os) (started:os.Started) (H:Type) (enc:TypeId × Value → H) :
    ReturnsInHanded {} Tryz.checked os 3 .any (Rows.orderTellsSpec.pre6 enc Tryz.prog Tryz.f3 Rows.orderTellsRow.domain false) (Rows.orderTellsSpec.post enc Tryz.prog Tryz.f3 false true false false):=by
  refine returnsInHanded_of_change_sized (C:=Tryz.checked) own started (by kernel_rfl) Tryz.func3
    (ChangeSpec.witness6 (enc:=enc) (C:=Tryz.checked) false ⟨#[],#[.agg #[.slice none 0 0,.slice none 0 0,.int .i64 0,.slice none 0 0],.int .i64 0,.string ⟨#[]⟩],[]⟩ 20 (by kernel_rfl) (by kernel_rfl) (by kernel_rfl) (by kernel_rfl)) ?_
  intro W base args ds gs before hval0 hW hcnd hsz0 _
  have hval:∀ (j:Nat) t v,Tryz.f3.params[j]? = some t → args[j]? = some v → Value.okWide Tryz.prog W .any base t v:=hval0
  have hW':=hW
  obtain ⟨p,q,hA0,hV,rfl,hfz,hnd⟩:=hW
  have hA:DataW.TrodAll enc Tryz.prog W 0 (fun _=>true) true Tryz.f3.params.toList args.toList ds p:=hA0
  have hsz:(DataW.weightsEach Tryz.prog (Tryz.f3.params.toList ++ []) (ds ++ gs)).all (· ≤ reachBytes)=true:=hsz0
  obtain ⟨rfl,rfl⟩:=trodVars_none hV
  rw [Tryz.params3] at hA hval hsz
  obtain ⟨v0,v1,v2,d0,d1,d2,p0,p1,p2,rfl,rfl,rfl,h0,h1,h2⟩:=trodAll_three hA
  simp only [List.append_nil] at hsz
  obtain ⟨a0,r0,o0⟩:=Mw Qh (.inl ⟨_,Tryz.underlying27⟩) (fun _=>rfl) (hval 0 _ v0 rfl rfl) h0 (ow hsz 0 _ d0 rfl rfl)
  obtain ⟨a1,r1,o1⟩:=CJ kQ Tryz.underlying3 (.inl ⟨_,rfl⟩) (fun _=>rfl) (hval 1 _ v1 rfl rfl) h1 (ow hsz 1 _ d1 rfl rfl)
  obtain ⟨a2,r2,o2⟩:=CJ rdStr Tryz.underlying9 (.inr (.inr (.inl rfl))) (fun _=>rfl) (hval 2 _ v2 rfl rfl) h2 (ow hsz 2 _ d2 rfl rfl)
  refine (GQ ((W15.Ck a0 a1 a2 o0).1) (Uo r0 r1 r2)).mono fun e W' ⟨he,hb⟩=>?_
  exact ⟨_,he,Lb (tb:=4) laidOut (by kernel_rfl) rfl (by kernel_rfl) (by kernel_rfl) ⟨rfl,rfl,rfl⟩ hW' hb⟩
theorem orderTells_holds:Rows.OrderTellsSaid:=
  OpenClaim.holds_of_wide 3 Tryz.f3 rfl rfl rfl rfl rfl rfl rfl ⟨rfl,rfl,rfl,rfl,rfl⟩ rfl rfl rfl rfl rfl (by kernel_rfl) Tryz.func3 (by kernel_rfl)
    (of_decide_eq_true (by kernel_rfl)) (by unfold Func.isWrapper;rw [if_neg (by decide +kernel)];exact ⟨rfl,rfl⟩)
    (fun os started H enc _=>orderTells_lifted os started H enc)
end Go.Proofs.YtoilbphgflgbeaaGreat
