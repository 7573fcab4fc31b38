/- Parse: the closure that is called at the end, the code ahead of it. -/
import Derived.Test.YtdeclhljkmlpiaaGreatTxN
import Derived.Recover
set_option linter.unusedSimpArgs false
set_option linter.unusedVariables false
namespace W10
open Go Go.AX Go.AX.Ty Go.Proofs
def sL:Code → Code | .seq a _=>a | .cond _ a _=>a | c=>c
def sR:Code → Code | .seq _ b=>b | c=>c
def gI (k:Nat):Code → Oper | .region _ ops _=>ops.getD k default | _=>default
noncomputable def B10:Code:=Tryz.f10.body.getD .skip
noncomputable def wX:Code:=Tryz.f23.body.getD .skip
theorem b10:Tryz.f10.body=some (.seq (sL B10) (.seq (sL (sR B10)) (sR (sR B10)))):=by kernel_rfl
theorem ZH:Tryz.f23.body=some (.seq (sL wX) (.seq (sL (sR wX)) (.cond (.tmp 7) (sL (sR (sR wX))) .skip))):=by kernel_rfl
theorem ZR:sL (sR B10)=.region 1 #[gI 0 (sL (sR B10)),gI 1 (sL (sR B10))] false:=by kernel_rfl
theorem Zz:(gI 0 (sL (sR B10))).op=.makeFunc (.func 23) #[] #[.tmp 2,.tmp 3]:=by kernel_rfl
theorem Zl:(gI 0 (sL (sR B10))).dst=some 7:=by kernel_rfl
theorem Zm:(gI 0 (sL (sR B10))).guard=none:=by kernel_rfl
theorem Zk:(gI 1 (sL (sR B10))).op=.defer { callee:=.value (.tmp 7),args:=#[],argTypes:=#[] }:=by kernel_rfl
theorem Zo:(gI 1 (sL (sR B10))).dst=none:=by kernel_rfl
theorem ZB:(gI 1 (sL (sR B10))).guard=none:=by kernel_rfl
theorem XP {Q:Exit → Act → Go.World → Prop} {a:Act} {w:Go.World} {x y:Value} (h:7 < a.tmps.size) (h2:a.tmps[2]? = some x) (h3:a.tmps[3]? = some y)
    (hq:Q .normal ⟨a.tmps.setIfInBounds 7 (.func (.func 23) #[] #[x,y]),⟨.fn (.func 23) #[x,y],#[]⟩ :: a.defers⟩ w):(sL (sR B10)).wp Tryz.prog Q a w:=by
  have hmf:∀ (fn:Fn) (first cap:Array Value) (w:Go.World),(Instr.makeFunc fn first cap).run Tryz.prog w=.ok (.func fn first cap) w:=fun _ _ _ _=>rfl
  rw [ZR]
  refine wp_region ?_
  show wpOps _ _ _ [0,1] a w
  simp [wpOps,Oper.wp,Zz,Zl,Zm,Zk,Zo,ZB,Region.wanted,hmf,execOp,Oper.upon,Act.put,Act.eval,h,h2,h3,resolve,Deferred.ofValue]
  exact .inl (.inl hq)
def aL:bL → bL | .seq a _=>a | .cond _ a _=>a | c=>c
def aR:bL → bL | .seq _ b=>b | c=>c
def aO:bL → List aJ | .region l=>l | _=>[]
noncomputable def jB:Code:=sL (sR (sR wX))
theorem x23:jB=.seq (sL jB) (sR jB):=by kernel_rfl
theorem Zw:sL jB=.region 2 #[gI 0 (sL jB),gI 1 (sL jB),gI 2 (sL jB),gI 3 (sL jB),gI 4 (sL jB),gI 5 (sL jB),gI 6 (sL jB),gI 7 (sL jB)] false:=by kernel_rfl
theorem R7:(gI 0 (sL jB)).op=.move (.tmp 2) ∧ (gI 0 (sL jB)).dst=some 9 ∧ (gI 0 (sL jB)).guard=none:=⟨by kernel_rfl,by kernel_rfl,by kernel_rfl⟩
theorem UH:(gI 1 (sL jB)).op=.typeAssert (.tmp 9) 20 50 true ∧ (gI 1 (sL jB)).dst=some 10 ∧ (gI 1 (sL jB)).guard=none:=⟨by kernel_rfl,by kernel_rfl,by kernel_rfl⟩
theorem Zt:dM Tryz.prog #[gI 0 (sL jB),gI 1 (sL jB),gI 2 (sL jB),gI 3 (sL jB),gI 4 (sL jB),gI 5 (sL jB),gI 6 (sL jB),gI 7 (sL jB)] [gI 2 (sL jB),gI 3 (sL jB),gI 4 (sL jB),gI 5 (sL jB),gI 6 (sL jB),gI 7 (sL jB)]=some ((aO (aL (aL (aR (aR F23.body))))).drop 2):=by kernel_rfl
theorem NS {P:Program} {ro:Option Nat} {ops:Array Oper} {o:Oper} {i:Nat} {rest:List Nat} {Q:Exit → Act → Go.World → Prop} {a:Act} {w:Go.World} (ho:ops[i]? = some o) (hg:o.guard=none) (h:o.wpIn (fw ro) 0 P a w (wpOpsIn (fw ro) 0 P ops Q rest) Q) :
    wpOpsIn (fw ro) 0 P ops Q (i :: rest) a w:=by
  simp only [wpOpsIn,ho]
  rw [if_pos (by unfold Region.wanted;rw [hg])]
  exact h
theorem Jw (V:Value) (w:Go.World):(Instr.typeAssert (.iface 50 V) 20 50 true).run Tryz.prog w=.ok (.tuple #[V,.bool true]) w:=by kernel_rfl
theorem WY {n:Int} {c:Ctx} {s:St} {w:Go.World} {a:Act} {ρ:Env} {Q:bV} (hs:Sat c s w) (hF:aB c (lN 18 ρ) a.tmps.toList) (hρ:ρ 2=.ifc 50 (.agg [.int .i64 n]))
    (h:opsE Tryz.prog C0 (Q .normal) ((aO (aL (aL (aR (aR F23.body))))).drop 2) (upd (upd ρ 9 (.ifc 50 (.agg [.int .i64 n]))) 10 (.tup [.agg [.int .i64 n],.bool true])) s) :
    (sL jB).wpIn (fw none) 0 Tryz.prog (Exit.noGoto (Post a.defers c s w (QF 18 Q))) a w:=by
  have h2:a.eval (.tmp 2)=.iface 50 (.agg #[.int .i64 n]):=by
    obtain ⟨u,e,hr⟩:=hF.get 2 (ρ 2) (by simp [lN])
    rw [hρ] at hr
    simp only [aD] at hr
    obtain ⟨u',rfl,hr⟩:=hr
    have e2:=DJ (n:=n) (c:=c) (u:=u') (by simpa only [aD] using hr)
    subst e2
    simp only [Array.getElem?_toList] at e
    simp [Act.eval,e]
  have hs9:10 < a.tmps.size:=by have:=hF.length;simp [lN] at this;omega
  rw [Zw]
  refine wpIn_region ?_
  show wpOpsIn _ _ _ _ _ [0,1,2,3,4,5,6,7] a w
  refine NS rfl R7.2.2 (jJ (w':=w) (v:=.iface 50 (.agg #[.int .i64 n])) (by simp [execOp,R7.1,h2]) (by simp [R7.1]) ?_)
  refine NS rfl UH.2.2 (jJ (w':=w) (v:=.tuple #[.agg #[.int .i64 n],.bool true]) (by
    simp [execOp,UH.1,R7.2.1,Act.eval,Act.put,hs9,Nat.lt_of_succ_lt hs9,Jw]) (by simp [UH.1]) ?_)
  rw [show #[gI 0 (sL jB),gI 1 (sL jB),gI 2 (sL jB),gI 3 (sL jB),gI 4 (sL jB),gI 5 (sL jB),gI 6 (sL jB),gI 7 (sL jB)][0].dst=some 9 from R7.2.1,show #[gI 0 (sL jB),gI 1 (sL jB),gI 2 (sL jB),gI 3 (sL jB),gI 4 (sL jB),gI 5 (sL jB),gI 6 (sL jB),gI 7 (sL jB)][1].dst=some 10 from UH.2.1]
  have hr1:aD c (.ifc 50 (.agg [.int .i64 n])) (.iface 50 (.agg #[.int .i64 n])):=by simp [aD,aB]
  have hr2:aD c (.tup [.agg [.int .i64 n],.bool true]) (.tuple #[.agg #[.int .i64 n],.bool true]):=by simp [aD,aB]
  have hF2:=dQ (d:=some 10) (dQ (d:=some 9) hF hr1) hr2
  rw [jF,jF] at hF2
  exact dn (P:=Tryz.prog) (ops:=#[gI 0 (sL jB),gI 1 (sL jB),gI 2 (sL jB),gI 3 (sL jB),gI 4 (sL jB),gI 5 (sL jB),gI 6 (sL jB),gI 7 (sL jB)]) (Q:=QF 18 Q) [gI 2 (sL jB),gI 3 (sL jB),gI 4 (sL jB),gI 5 (sL jB),gI 6 (sL jB),gI 7 (sL jB)] 2 _ (fun j=>by
      match j with
      | 0 | 1 | 2 | 3 | 4 | 5=>rfl
      | j + 6=>rw [Array.getElem?_eq_none (by simp;omega)];rfl) Zt _ s
    (jL (dx _) (fun ρ s hh=>⟨ρ,rfl,hh⟩) _ _ s (by kernel_rfl) h) none a.defers c s w c w _ (Ext.refl _ _ _) hs hF2 rfl
theorem a23:sL wX=.region 0 #[gI 0 (sL wX),gI 1 (sL wX)] false:=by kernel_rfl
theorem X3:(gI 0 (sL wX)).op=.call { callee:=.builtin .recover,args:=#[],argTypes:=#[] } ∧ (gI 0 (sL wX)).dst=some 5 ∧ (gI 0 (sL wX)).guard=none:=⟨by kernel_rfl,by kernel_rfl,by kernel_rfl⟩
theorem XB:(gI 1 (sL wX)).op=.assign (.tmp 5) ∧ (gI 1 (sL wX)).dst=some 2 ∧ (gI 1 (sL wX)).guard=none:=⟨by kernel_rfl,by kernel_rfl,by kernel_rfl⟩
theorem Yj:aP Tryz.prog (sL (sR wX))=some (aL (aR F23.body)):=by kernel_rfl
theorem Zj:aP Tryz.prog (sR jB)=some (aR (aL (aR (aR F23.body)))):=by kernel_rfl
theorem Wv {c:Ctx} {args:List AV} {vs:List Value} {N:Nat} (h:aB c args vs) (hl:args.length ≤ N):aB c (lN N (vF args)) (vs.toArray ++ Array.replicate (N - vs.toArray.size) undef).toList:=by
  rw [← yJ hl]
  simp only [iN,Array.toList_append,Array.toList_replicate]
  refine h.append ?_
  rw [show vs.toArray.size=args.length by simpa using h.length]
  have:∀ n,aB c (List.replicate n (.tup [])) (List.replicate n undef):=by
    intro n
    induction n with
    | zero=>simp [aB]
    | succ n ih=>simp only [List.replicate_succ,aB];exact ⟨_,_,rfl,by simp [aD,aB,undef],ih⟩
  exact this _
theorem U3 (ρ:Operand → Value) (w:Go.World):(execOp ρ (gI 0 (sL wX))).run Tryz.prog w=.ok .recover w:=by
  simp [execOp,X3.1,resolve,invoke]
  rfl
theorem Bt {Q:Exit → Act → List Frame → Go.World → Prop} {a:Act} {cs cs':List Frame} {w:Go.World} {V:Value} (h:recoverD cs=some (V,cs') ∨ recoverD cs=none ∧ V=.nilIface ∧ cs'=cs) (hz:5 < a.tmps.size)
    (hq:Q .normal ((a.put (some 5) V).put (some 2) V) cs' w):(sL wX).wpS Tryz.prog Q a cs w:=by
  rw [a23]
  refine wpS_region ?_
  show wpOpsS _ _ _ [0,1] _ _ _
  have h1:(execOp (a.put (some 5) V).eval (gI 1 (sL wX))).run Tryz.prog w=.ok (.value V) w:=by simp [execOp,XB.1,Act.eval,Act.put,hz]
  have h2:wpOpsS Tryz.prog #[gI 0 (sL wX),gI 1 (sL wX)] Q [1] (a.put (some 5) V) cs' w:=by
    simp only [wpOpsS,show #[gI 0 (sL wX),gI 1 (sL wX)][1]? = some (gI 1 (sL wX)) from rfl]
    rw [if_pos (by unfold Region.wanted;rw [XB.2.2]),h1]
    simp only [Oper.upon,XB.2.1]
    exact hq
  simp only [wpOpsS,show #[gI 0 (sL wX),gI 1 (sL wX)][0]? = some (gI 0 (sL wX)) from rfl,U3]
  rw [if_pos (by unfold Region.wanted;rw [X3.2.2])]
  simp only [X3.2.1]
  rcases h with h | ⟨h,rfl,rfl⟩
  · rw [h];exact h2
  · rw [h];exact h2
def pE (n:Int) (r:Bool):PanicEntry:={ v:=.iface 50 (.agg #[.int .i64 n]),recovered:=r }
theorem Xy {c:Ctx} {s:St} {w:Go.World} {x y:Value} {pb eb:Nat} {n:Int} {z1 z2:AV} (hs:Sat c s w) (hr:aB c [.ptr pb 1 0,.ptr eb 1 0] [x,y]) (gp:s.get pb=some (.cells 1 [z1] false)) (ge:s.get eb=some (.cells 1 [z2] false)) (hne:pb ≠ eb) (l1:pb < s.next) (l2:eb < s.next) :
    CallsD Tryz.prog 23 #[x,y] (.panicking [pE n false]) w fun e u' w'=>e=.returned (.tuple #[]) ∧ u'=.panicking [pE n true] ∧ ∃ c' s',Sat c' s' w' ∧ Ext c s w c' s' w' ∧ s'.get pb=some (.cells 1 [.nils] false) ∧ s'.get eb=some (.cells 1 [.int .i64 n] false):=by
  refine callsD_of_wpS Tryz.func23 ZH fun c₀ cs hu=>?_
  have hF:=dQ (a:=⟨_,[]⟩) (d:=some 2) (dQ (a:=⟨_,[]⟩) (d:=some 5) (Wv (N:=18) hr (by simp)) (show aD c (.ifc 50 (.agg [.int .i64 n])) (.iface 50 (.agg #[.int .i64 n])) by simp [aD,aB])) (show aD c (.ifc 50 (.agg [.int .i64 n])) (.iface 50 (.agg #[.int .i64 n])) by simp [aD,aB])
  rw [jF,jF] at hF
  refine wpS_seq (Bt (V:=.iface 50 (.agg #[.int .i64 n])) (cs':={ c₀ with mode:=.panicking [pE n true] } :: cs) (.inl (by simp [recoverD,hu,pE])) (by simp [Tryz.ntmps23]) ?_)
  simp only [Exit.thenS]
  refine wpS_of_wp ((wpIn_wide (n:=0)).1 ?_)
  rw [Tryz.ntmps23]
  refine wpIn_seq (wpIn_mono (jD (N:=18) mix (dx _) (aL (aR F23.body)) (fun e ρ' s'=>e=.normal ∧ agree ρ' [(0,.ptr pb 1 0),(1,.ptr eb 1 0),(2,.ifc 50 (.agg [.int .i64 n])),(7,.bool true)] ∧ s'=s) _ s (by kernel_rfl) ?_ _ Yj none [] c w _ hs hF rfl) fun e a1 w1 hp=>?_)
  · obtain ⟨h,m⟩:=s
    simp only [F23,aL,aR]
    simp -implicitDefEqProofs only [oD,vF,List.getD_cons_zero,List.getD_cons_succ,go_sem,seval]
  obtain ⟨hd,c1,F1,s1,hF1,hs1,hx1,ρ1,rfl,rfl,ha1,rfl⟩:=(gX hp).1
  simp only [Exit.then]
  have ev7:a1.eval (.tmp 7)=.bool true:=by
    obtain ⟨u,e,hr7⟩:=hF1.get 7 (ρ1 7) (by simp [lN])
    rw [ha1.2.2.2.1] at hr7
    simp only [aD] at hr7
    subst hr7
    simp only [Array.getElem?_toList] at e
    simp [Act.eval,e]
  refine wpIn_cond (t:=true) ev7 ?_
  rw [if_pos rfl,show sL (sR (sR wX))=jB from rfl,x23]
  rw [← iI ha1] at hF1
  refine wpIn_seq (wpIn_mono (WY (n:=n) (Q:=fun e ρ' s'=>e=.normal ∧ agree ρ' [(0,.ptr pb 1 0),(1,.ptr eb 1 0),(3,.ptr s1.next 1 0),(4,.bool true)] ∧ s'=s1.push (.cells 1 [.int .i64 n] false)) hs1 hF1 rfl ?_) fun e a2 w2 hp2=>?_)
  · obtain ⟨h,m⟩:=s1
    simp only [F23,aL,aR,aO,List.drop_succ_cons,List.drop_zero]
    simp -implicitDefEqProofs only [go_sem,seval]
  rw [hd] at hp2
  obtain ⟨hd2,c2,F2,s2,hF2,hs2,hx2,ρ2,rfl,rfl,ha2,rfl⟩:=(gX hp2).1
  simp only [Exit.then]
  rw [← iI ha2] at hF2
  refine wpIn_mono (jD (N:=18) mix (dx _) (aR (aL (aR (aR F23.body)))) (fun e ρ' s'=>e=.normal ∧ s'.get pb=some (.cells 1 [.nils] false) ∧ s'.get eb=some (.cells 1 [.int .i64 n] false)) _ _ (by kernel_rfl) ?_ _ Zj none [] c2 w2 _ hs2 hF2 hd2) fun e a3 w3 hp3=>?_
  · obtain ⟨h,m⟩:=s1
    simp only [F23,aL,aR]
    have gp':AX.look pb h=_:=gp
    have ge':AX.look eb h=_:=ge
    have l1':pb < m:=l1
    have l2':eb < m:=l2
    have m1:(m=pb)=False:=eq_false (by omega)
    have m2:(m=eb)=False:=eq_false (by omega)
    have T1:(pb < m + 1)=True:=eq_true (by omega)
    have T2:(eb < m + 1)=True:=eq_true (by omega)
    have n1:(pb=eb)=False:=eq_false hne
    have n2:(eb=pb)=False:=eq_false (Ne.symm hne)
    simp -implicitDefEqProofs only [gp',ge',m1,m2,T1,T2,n1,n2,go_sem,seval]
    refine aA (by (simp [aM,aX,aY,Nat.testBit_eq_decide_div_mod_eq];repeat' (first | omega | (intro x hx;omega) | refine And.intro ?_ ?_))) ?_
    simp -implicitDefEqProofs only [gp',ge',m1,m2,T1,T2,n1,n2,go_sem,seval]
  obtain ⟨hd3,c3,F3,s3,hF3,hs3,hx3,ρ3,rfl,rfl,g1,g2⟩:=(gX hp3).1
  exact ⟨hd3,_,rfl,.tuple #[],by simp [results,Tryz.results23],rfl,rfl,c3,s3,hs3,hx1.trans (hx2.trans hx3),g1,g2⟩
theorem XT {c:Ctx} {s:St} {w:Go.World} {x y:Value} {pb eb:Nat} (hs:Sat c s w) (hr:aB c [.ptr pb 1 0,.ptr eb 1 0] [x,y]) :
    CallsD Tryz.prog 23 #[x,y] .returning w fun e u' w'=>e=.returned (.tuple #[]) ∧ u'=.returning ∧ ∃ c',Sat c' s w' ∧ Ext c s w c' s w':=by
  refine callsD_of_wpS Tryz.func23 ZH fun c₀ cs hu=>?_
  have hF:=dQ (a:=⟨_,[]⟩) (d:=some 2) (dQ (a:=⟨_,[]⟩) (d:=some 5) (Wv (N:=18) hr (by simp)) (show aD c .nili .nilIface by simp [aD])) (show aD c .nili .nilIface by simp [aD])
  rw [jF,jF] at hF
  refine wpS_seq (Bt (V:=.nilIface) (cs':=c₀ :: cs) (.inr (by simp [recoverD,hu])) (by simp [Tryz.ntmps23]) ?_)
  simp only [Exit.thenS]
  refine wpS_of_wp ((wpIn_wide (n:=0)).1 ?_)
  rw [Tryz.ntmps23]
  refine wpIn_seq (wpIn_mono (jD (N:=18) mix (dx _) (aL (aR F23.body)) (fun e ρ' s'=>e=.normal ∧ agree ρ' [(7,.bool false)] ∧ s'=s) _ s (by kernel_rfl) ?_ _ Yj none [] c w _ hs hF rfl) fun e a1 w1 hp=>?_)
  · obtain ⟨h,m⟩:=s
    simp only [F23,aL,aR]
    simp -implicitDefEqProofs only [oD,vF,List.getD_cons_zero,List.getD_cons_succ,go_sem,seval]
  obtain ⟨hd,c1,F1,s1,hF1,hs1,hx1,ρ1,rfl,rfl,ha1,rfl⟩:=(gX hp).1
  simp only [Exit.then]
  have ev7:a1.eval (.tmp 7)=.bool false:=by
    obtain ⟨u,e,hr7⟩:=hF1.get 7 (ρ1 7) (by simp [lN])
    rw [ha1.1] at hr7
    simp only [aD] at hr7
    subst hr7
    simp only [Array.getElem?_toList] at e
    simp [Act.eval,e]
  refine wpIn_cond (t:=false) ev7 ?_
  rw [if_neg (by simp)]
  refine wpIn_skip ?_
  exact ⟨hd,.returning,by rw [← hu],.tuple #[],by simp [results,Tryz.results23],rfl,rfl,c1,hs1,hx1⟩
end W10
/- Parse. -/
namespace W10
open Go Go.AX Go.AX.Ty Go.Proofs
theorem Dg (g:Nat → Option AX.Obj) (d:Nat):∀ l:List Int,bg (bM g (d + 1)) (aj l)=some (aj l,[])
  | []=>rfl
  | a :: l => by
    show (match bM g (d + 1) (AV.int .i64 a),bg (bM g (d + 1)) (aj l) with | some (y,p),some (ys,q)=>some (y :: ys,p ++ q) | _,_=>none)=some (AV.int .i64 a :: aj l,[])
    rw [Dg g d l];rfl
theorem OW (g:Nat → Option AX.Obj) (d b e o n z:Nat):bM g (d + 1) (.sl b e o n z)=qA b e (g b) fun cs=>if o + n * z ≤ cs.length then kK (.ps n) (bg (bM g d) ((cs.drop o).take (n * z))) else none:=rfl
theorem Bg {g:Nat → Option AX.Obj} {d b e n z:Nat} {cs ys:List AV} {ps:List (Nat × AX.Obj)} (hg:g b=some (.cells e cs false)) (hn:cs.length=n * z) (h:bg (bM g d) cs=some (ys,ps)) :
    bM g (d + 1) (.sl b e 0 n z)=some (.ps n ys,(b,.cells e cs true) :: ps):=by
  rw [OW,hg]
  simp only [qA,if_true,Nat.zero_add,List.drop_zero]
  rw [if_pos (by omega),List.take_of_length_le (by omega),h]
  rfl
theorem QX {g:Nat → Option AX.Obj} {d:Nat} {K:List Int} {i:Nat} (h:K ≠ [] → g i=some (.cells (2 * K.length + 1) (aj K) false)):∃ ps,bM g (d + 2) (l8 K i)=some (.ps K.length (aj K),ps):=by
  unfold l8
  by_cases hk:K=[]
  · subst hk;exact ⟨[],rfl⟩
  · rw [if_neg hk]
    exact ⟨_,Bg (h hk) (by rw [W10K.eY,Nat.mul_one]) (Dg g d K)⟩
theorem K3 {g:Nat → Option AX.Obj} {d:Nat}:∀ L:List (Ty.Node × Nat),(∀ x ∈ L,x.1.kids ≠ [] → g x.2=some (.cells (2 * x.1.kids.length + 1) (aj x.1.kids) false)) → ∃ ps,bg (bM g (d + 2)) (gY L)=some (aj (jN L),ps)
  | [],_=>⟨[],rfl⟩
  | x :: r, h => by
    obtain ⟨ps,e⟩:=K3 (d:=d) r fun y hy=>h y (by simp [hy])
    obtain ⟨p1,e1⟩:=QX (d:=d) (h x (by simp))
    have e2:bM g (d + 2) (.ps x.1.attrs.length (aj x.1.attrs))=some (.ps x.1.attrs.length (aj x.1.attrs),[]):=by
      simp only [bM]
      rw [if_pos (fT _)]
    have e3:bM g (d + 2) (.str x.1.name)=some (.str x.1.name,[]):=rfl
    have e4:bM g (d + 2) (.str x.1.text)=some (.str x.1.text,[]):=rfl
    have e5:bM g (d + 2) (.int .i64 x.1.up)=some (.int .i64 x.1.up,[]):=rfl
    have e6:bg (bM g (d + 2)) (gY (x :: r))=some (.str x.1.name :: .ps x.1.attrs.length (aj x.1.attrs) :: .str x.1.text :: .int .i64 x.1.up :: .ps x.1.kids.length (aj x.1.kids) :: aj (jN r),[] ++ ([] ++ ([] ++ ([] ++ (p1 ++ ps))))):=by
      simp only [gY,mU,List.cons_append,List.nil_append,bg,e,e1,e2,e3,e4,e5]
    exact ⟨_,e6⟩
theorem MG {g:Nat → Option AX.Obj} {d pid e1:Nat} {n:Int} {L:List (Ty.Node × Nat)} (gp:g pid=some (.cells e1 (gY L) false)) (h:∀ x ∈ L,x.1.kids ≠ [] → g x.2=some (.cells (2 * x.1.kids.length + 1) (aj x.1.kids) false)) :
    ∃ ps,bM g (d + 4) (.tup [.sl pid e1 0 L.length 5,.int .i64 n])=some (.tup [Enc.av (jN L),.int .i64 n],ps):=by
  obtain ⟨ps,e⟩:=K3 (d:=d) L h
  have e2:=Bg (n:=L.length) (z:=5) gp (by rw [iB]) e
  have e3:bM g (d + 4) (.tup [.sl pid e1 0 L.length 5,.int .i64 n])=some (.tup [.ps L.length (aj (jN L)),.int .i64 n],((pid,.cells e1 (gY L) true) :: ps) ++ ([] ++ [])):=by
    show kK .tup (match bM g (d + 3) (.sl pid e1 0 L.length 5),bg (bM g (d + 3)) [.int .i64 n] with | some (y,p),some (ys,q)=>some (y :: ys,p ++ q) | _,_=>none)=_
    rw [e2];rfl
  have e4:AV.ps L.length (aj (jN L))=Enc.av (jN L):=by rw [← jE L];rfl
  rw [e4] at e3
  exact ⟨_,e3⟩
def nW (z:Ty.Node):Nat:=z.name.length + z.text.length + sM z.attrs
theorem KW {st st':PS} {t:Tag} {M R:Nat} (h:∀ z ∈ st.pg,nW z + tO t + R ≤ M) (hM:tO t + R ≤ M) (hs:eO st t=.ok st'):∀ z ∈ st'.pg,nW z + R ≤ M:=by
  have hnd:∀ i,nW (nd st.pg i) + tO t + R ≤ M:=fun i=>by
    rcases Nat.lt_or_ge i st.pg.length with hi | hi
    · exact h _ (List.mem_of_getElem? (tC hi))
    · have e:nd st.pg i=dN:=by simp [nd,List.getD_eq_getElem?_getD,List.getElem?_eq_none hi]
      rw [e];simpa [dN,nW,sM] using hM
  have hadd:∀ (u:Nat) (x:Ty.Node),nW x ≤ tO t → ∀ z ∈ dX st.pg u x,nW z + R ≤ M:=fun u x hx z hz=>by
    unfold dX at hz
    rcases List.mem_or_eq_of_mem_set hz with hz | rfl
    · rcases List.mem_append.1 hz with hz | hz
      · have:=h z hz;omega
      · rw [List.mem_singleton] at hz;subst hz;unfold nW at hx ⊢;simp only;omega
    · have:=hnd u;unfold nW at this ⊢;simp only;omega
  have htx:t.text.length ≤ tO t:=by unfold tO;omega
  unfold eO at hs
  split at hs
  · unfold jP at hs
    split at hs
    · simp at hs
    · split at hs
      · simp at hs
      · rw [← Except.ok.inj hs];exact hadd _ _ (by simp [nW,tO];omega)
  · split at hs
    · rw [← Except.ok.inj hs];exact fun z hz=>by have:=h z hz;omega
    · split at hs
      · unfold jv at hs
        split at hs
        · rw [← Except.ok.inj hs]
          intro z hz
          unfold dK at hz
          rcases List.mem_or_eq_of_mem_set hz with hz | rfl
          · have:=h z hz;omega
          · rename_i k _
            have:=hnd k
            unfold nW at this ⊢
            simp only [List.length_append];omega
        · unfold xV at hs
          split at hs
          · simp at hs
          · rw [← Except.ok.inj hs];exact hadd _ _ (by simp [nW,sM];exact htx)
      · rw [← Except.ok.inj hs];exact fun z hz=>by have:=h z hz;omega
structure PJ (s:Str) (k:Nat) (st:St) (e1 e2:Nat) (L:List (Ty.Node × Nat)) (oc:List AV) (os:List Nat):Prop where
  bd:Bd 4 2 3 e1 e2 L oc os st
  si:SI ⟨jN L,os⟩
  lk:∃ p0,Lk ⟨jN L,os⟩ p0 ((dB s).drop k)
  run:fE (dB s) tV=fE ((dB s).drop k) ⟨jN L,os⟩
  g0:st.get 0=some (.cells 1 [.nils] false)
  g1:st.get 1=some (.cells 1 [.int .i64 0] false)
  le:k ≤ (dB s).length
  tx:∀ z ∈ jN L,nW z + kr ((dB s).drop k) ≤ 4611686018427387904
def QP (s:Str):bV
  | .normal,_,_=>False
  | .ret,ρ,st=>agree ρ [(2,.ptr 0 1 0),(3,.ptr 1 1 0)] ∧ ∃ e1 L os,fE (dB s) tV=.ok ⟨jN L,os⟩ ∧ st.get 2=some (.cells e1 (gY L) false) ∧ (∀ x ∈ L,x.1.kids ≠ [] → st.get x.2=some (.cells (2 * x.1.kids.length + 1) (aj x.1.kids) false)) ∧ st.get 0=some (.cells 1 [.sl 2 e1 0 L.length 5] false) ∧ st.get 1=some (.cells 1 [.int .i64 0] false)
  | .panic ch,ρ,st=>agree ρ [(2,.ptr 0 1 0),(3,.ptr 1 1 0)] ∧ ∃ e,fE (dB s) tV=.error e ∧ ch=Gx e ∧ st.get 0=some (.cells 1 [.nils] false) ∧ st.get 1=some (.cells 1 [.int .i64 0] false)
  | _,_,_=>False
theorem PJ.zero (s:Str) (hs:s.length ≤ 400000000):PJ s 0 ⟨[(4,.cells 1 [.sl 2 11 0 1 5,.sl 3 3 0 1 1] false),(3,.cells 3 [.int .i64 0] false),(2,.cells 11 [.str [],.ps 0 [],.str [],.int .i64 (-1),.nils] false),(1,.cells 1 [.int .i64 0] false),(0,.cells 1 [.nils] false)],5⟩
    11 3 [((⟨[],[],[],-1,[]⟩:Ty.Node),0)] [] [0]:=by
  have hz:(⟨jN [((⟨[],[],[],-1,[]⟩:Ty.Node),0)],[0]⟩:PS)=tV:=rfl
  have hw2:=D5 s
  refine ⟨⟨fun id hid=>?_,rfl,rfl,rfl,fun x hx hk=>?_,by decide,by decide,by decide,fun x hx hk=>?_,fun i j x y hx hy hk=>?_⟩,by rw [hz];exact SI.zero,⟨gZ,yh _ s gZ (Nat.le_refl _) kC,fun h=>absurd h kC,fun _ h=>absurd h (by decide)⟩,rfl,rfl,rfl,Nat.zero_le _,fun z hz=>?_⟩
  · have hid':5 ≤ id:=hid
    show AX.look id _=none
    simp only [AX.look]
    rw [if_neg (by omega),if_neg (by omega),if_neg (by omega),if_neg (by omega),if_neg (by omega)]
  · rw [List.mem_singleton] at hx;subst hx;exact absurd rfl hk
  · rw [List.mem_singleton] at hx;subst hx;exact absurd rfl hk
  · have hx':=List.mem_of_getElem? hx
    rw [List.mem_singleton] at hx';subst hx';exact absurd rfl hk
  · rw [show jN [((⟨[],[],[],-1,[]⟩:Ty.Node),0)]=[⟨[],[],[],-1,[]⟩] from rfl,List.mem_singleton] at hz
    subst hz
    rw [List.drop_zero]
    simp [nW,sM];omega
theorem PJ.kid {s:Str} {k:Nat} {st:St} {e1 e2:Nat} {L:List (Ty.Node × Nat)} {oc:List AV} {os:List Nat} (J:PJ s k st e1 e2 L oc os) {x:Ty.Node × Nat} (hx:x ∈ L) (hk:x.1.kids ≠ []):x.2 ≠ 0 ∧ x.2 ≠ 1:=by
  have:=J.bd.gk x hx hk
  have hl0:0 < x.1.kids.length:=List.length_pos_iff.2 hk
  refine ⟨fun e=>?_,fun e=>?_⟩
  · rw [e,J.g0] at this;simp only [Option.some.injEq,AX.Obj.cells.injEq] at this;omega
  · rw [e,J.g1] at this;simp only [Option.some.injEq,AX.Obj.cells.injEq] at this;omega
theorem PJ.far {s:Str} {k:Nat} {st s':St} {e1 e2:Nat} {L:List (Ty.Node × Nat)} {oc:List AV} {os:List Nat} (J:PJ s k st e1 e2 L oc os) {o:AX.Obj} (h4:sQ 4 2 3 L (st.push o) s') (id:Nat) (hid:id=0 ∨ id=1):s'.get id=st.get id:=by
  have hlt:id < st.next:=by
    rcases hid with rfl | rfl
    · exact J.bd.lt J.g0
    · exact J.bd.lt J.g1
  rw [h4.2 id (Nat.lt_succ_of_lt hlt) (by omega) (by omega) (by omega) fun x hx hk e=>?_]
  · rw [St.dL,if_neg (by omega)]
  · have:=J.kid hx hk;omega
theorem PJ.step {s:Str} {k:Nat} {st s':St} {e1 e2:Nat} {L:List (Ty.Node × Nat)} {oc:List AV} {os:List Nat} (J:PJ s k st e1 e2 L oc os) {t:Tag} (ht:(dB s)[k]? = some t) {o:AX.Obj} {v:AV}
    (h:zV 4 2 3 L (st.push o) (eO ⟨jN L,os⟩ t) v s'):v=.tup [] ∧ ∃ e1 e2 L oc os,PJ s (k + 1) s' e1 e2 L oc os:=by
  obtain ⟨rfl,st',e1',e2',oc',L',h1,h2,h3,h4⟩:=h
  refine ⟨rfl,e1',e2',L',oc',st'.os,?_⟩
  have hl:=fC ht
  have hd:(dB s).drop k=t :: (dB s).drop (k + 1):=by
    rw [List.drop_eq_getElem_cons hl]
    congr 1
    rw [List.getElem?_eq_getElem hl] at ht
    exact Option.some.inj ht
  have hst:(⟨jN L',st'.os⟩:PS)=st':=by rw [h3]
  obtain ⟨p0,hlk⟩:=J.lk
  rw [hd] at hlk
  obtain ⟨S1,L1⟩:=KV J.si hlk h1
  have hr:=J.run
  have htx:=J.tx
  rw [hd] at hr htx
  simp only [jo] at htx
  have hg:=J.far h4
  refine ⟨h2,by rw [hst];exact S1,⟨t,by rw [hst];exact L1⟩,?_,by rw [hg 0 (.inl rfl)];exact J.g0,by rw [hg 1 (.inr rfl)];exact J.g1,hl,?_⟩
  · rw [hr,fE,h1,hst]
  · rw [h3]
    refine KW (fun z hz=>by have:=htx z hz;omega) ?_ h1
    obtain ⟨u,r,_,_,_,h5,_⟩:=J.si.facts
    have h0:=htx (nd (jN L) 0) (List.mem_of_getElem? (tC (by have:=J.si.pi.pos;exact this)))
    omega
theorem PJ.Fj {s:Str} {k:Nat} {st s':St} {e1 e2:Nat} {L:List (Ty.Node × Nat)} {oc:List AV} {os:List Nat} (J:PJ s k st e1 e2 L oc os) {t:Tag} (ht:(dB s)[k]? = some t) {o:AX.Obj} {ch:List PanicEntry} {ρ:Env}
    (h:∃ e,eO ⟨jN L,os⟩ t=.error e ∧ ch=Gx e ∧ sQ 4 2 3 L (st.push o) s') (h2:ρ 2=.ptr 0 1 0) (h3:ρ 3=.ptr 1 1 0):QP s (.panic ch) ρ s':=by
  obtain ⟨e,g1,g2,g3⟩:=h
  have hl:=fC ht
  have hd:(dB s).drop k=t :: (dB s).drop (k + 1):=by
    rw [List.drop_eq_getElem_cons hl]
    congr 1
    rw [List.getElem?_eq_getElem hl] at ht
    exact Option.some.inj ht
  refine ⟨⟨h2,h3,trivial⟩,e,?_,g2,by rw [J.far g3 0 (.inl rfl)];exact J.g0,by rw [J.far g3 1 (.inr rfl)];exact J.g1⟩
  have hr:=J.run
  rw [hd,fE,g1] at hr
  exact hr
theorem Qt {M:Nat}:∀ {l:List Tag} {st st':PS},(∀ z ∈ st.pg,nW z + kr l ≤ M) → kr l ≤ M → fE l st=.ok st' → ∀ z ∈ st'.pg,nW z ≤ M
  | [], st, st', h, _, hr => by
    rw [← Except.ok.inj hr]
    intro z hz
    have:=h z hz
    omega
  | t :: l, st, st', h, hM, hr => by
    rw [fE] at hr
    rw [jo] at hM
    split at hr
    · rename_i st1 h1
      exact Qt (KW (R:=kr l) (fun z hz=>by have:=h z hz;rw [jo] at this;omega) hM h1) (by omega) hr
    · simp at hr
theorem RL {s:Str} {st:PS} (h:fE (dB s) tV=.ok st):∀ z ∈ st.pg,nW z ≤ 2 * s.length:=fun z hz=>
  Nat.le_trans (Qt (M:=kr (dB s)) (fun z hz=>by
    rw [show tV.pg=[⟨[],[],[],-1,[]⟩] from rfl,List.mem_singleton] at hz
    subst hz
    simp [nW,sM]) (Nat.le_refl _) h z hz) (D5 s)
end W10
/- Parse: its loop. -/
namespace W10
open Go Go.AX Go.AX.Ty Go.Proofs
theorem XM (s:Str) (hs:s.length ≤ 400000000) (ρ:Env):WX Tryz.prog 44 (aR (aR F10.body)) (QP s) (uY ρ [(0,.str s),(2,.ptr 0 1 0),(3,.ptr 1 1 0)]) ⟨[(1,.cells 1 [.int .i64 0] false),(0,.cells 1 [.nils] false)],2⟩:=by
  simp only [F10,aR]
  refine dG (gU mix (by kernel_rfl) ?_)
  simp -implicitDefEqProofs only [go_sem,seval]
  refine MN (b:=2) (e:=11) (i:=1) (x:=.nils) (y:=.ps 0 []) rfl rfl (fun c u h=>by
    simp only [aD] at h ⊢
    exact .inl ⟨trivial,trivial,none,0,h⟩) ?_
  show WX _ _ _ _ _ ⟨[(4,.cells 1 [.sl 2 11 0 1 5,.sl 3 3 0 1 1] false),(3,.cells 3 [.int .i64 0] false),(2,.cells 11 [.str [],.ps 0 [],.str [],.int .i64 (-1),.nils] false),(1,.cells 1 [.int .i64 0] false),(0,.cells 1 [.nils] false)],5⟩
  refine dG (dG (gU mix (by kernel_rfl) ?_))
  simp -implicitDefEqProofs only [go_sem,seval]
  refine ak (YH s hs) ?_
  simp -implicitDefEqProofs only [go_sem,seval]
  refine zX ?_
  refine JE (fun k:Nat=>(dB s).length - k) (fun k=>[(2,.ptr 0 1 0),(3,.ptr 1 1 0),(4,.ptr 4 1 0),(14,.ps (dB s).length (aj (dB s))),(15,.int .i64 (dB s).length),(16,.int .i64 k)]) (fun k st=>∃ e1 e2 L oc os,PJ s k st e1 e2 L oc os) 0 ?_ ?_
  · exact ⟨by simp [agree,upd],11,3,_,[],[0],PJ.zero s hs⟩
  intro k ρ st hJ
  obtain ⟨e1,e2,L,oc,os,J⟩:=hJ
  have hwl:=PG (dB s)
  have hw2:=D5 s
  have hk:=J.le
  obtain ⟨h,m⟩:=st
  have gb:AX.look 4 h=_:=J.bd.gb
  have g0:AX.look 0 h=_:=J.g0
  have g1:AX.look 1 h=_:=J.g1
  have lt4:4 < m:=J.bd.lt J.bd.gb
  rcases Nat.lt_or_ge k (dB s).length with hlt | hge
  rotate_left
  · have h2:((k:Int) < ((dB s).length:Int))=False:=eq_false (by omega)
    refine dG (gU mix (by kernel_rfl) ?_)
    simp -implicitDefEqProofs only [h2,go_sem,seval]
    refine dG (iA (by kernel_rfl) false rfl (Ut ?_))
    simp -implicitDefEqProofs only [go_sem,seval]
    refine dG (gU mix (by kernel_rfl) ?_)
    simp -implicitDefEqProofs only [gb,g0,g1,go_sem,seval]
    refine XU ?_
    have hd0:(dB s).drop k=[]:=List.drop_of_length_le hge
    have hrun:=J.run
    rw [hd0] at hrun
    have hp:AX.look 2 h=_:=J.bd.gp
    refine ⟨by simp [agree,upd],e1,L,os,hrun,?_,fun x hx hk=>?_,?_,?_⟩
    · show AX.look 2 _=_;rw [ay (by decide),ay (by decide)];exact hp
    · obtain ⟨k0,k1⟩:=J.kid hx hk
      show AX.look x.2 _=_;rw [ay (Ne.symm k1),ay (Ne.symm k0)];exact J.bd.gk x hx hk
    · show AX.look 0 _=_;rw [ay (by decide)];exact aS g0
    · show AX.look 1 _=_;exact aS (by rw [ay (by decide)];exact g1)
  have h2:((k:Int) < ((dB s).length:Int))=True:=eq_true (by omega)
  refine dG (gU mix (by kernel_rfl) ?_)
  simp -implicitDefEqProofs only [h2,go_sem,seval]
  refine dG (iA (by kernel_rfl) true rfl (yA ?_))
  simp -implicitDefEqProofs only [go_sem,seval]
  obtain ⟨t,ht,hdt,htm⟩:=aW hlt
  refine dG (zX (dG (gU mix (by kernel_rfl) ?_)))
  simp -implicitDefEqProofs only [ht,Tag.bY,Tag.elem,lt4,go_sem,seval]
  have w1:IntKind.i64.wrap ((k:Int) + 1)=((k + 1:Nat):Int):=by rw [wrap64 (by omega) (by omega)];omega
  have mm:(m < m + 1)=True:=eq_true (by omega)
  refine dG (gU mix (by kernel_rfl) ?_)
  simp -implicitDefEqProofs only [mm,go_sem,seval]
  obtain ⟨p0,hlk⟩:=J.lk
  rw [hdt] at hlk
  obtain ⟨⟨hkt,_,_⟩,_,_⟩:=hlk
  have hB:=J.bd.push (.cells 1 [.int .i64 t.kind,.str t.name,.ps t.attrs.length (aj t.attrs),.str t.text] false)
  refine zX (dG (gU mix (by kernel_rfl) ?_))
  rcases hkt with ⟨k1,k2,k3,k4⟩ | ⟨k1,k2,k3,k4⟩ | ⟨k1,k2,k3,k4⟩
  · have q1:(t.kind=1)=True:=eq_true k1
    simp -implicitDefEqProofs only [q1,go_sem,seval]
    refine iA (by kernel_rfl) true (by simp [bD,upd,k1]) ?_
    rw [if_pos rfl]
    have hst:eO ⟨jN L,os⟩ t=jP ⟨jN L,os⟩ t:=by rw [eO,if_pos k1]
    refine uJ (some 26) 25 [.t 24,.t 25] rfl (by kernel_rfl) ?_
    simp -implicitDefEqProofs only [mm,go_sem,seval]
    refine dI.mono (Om hB J.si t k2.1 (by have:=FU htm;have:=yu t.attrs;unfold tO at *;omega)) (fun v s' hv=>?_) fun ch s' hd=>?_
    rotate_left
    · exact J.Fj ht (by rw [hst];exact hd) (by simp [upd]) (by simp [upd])
    obtain ⟨rfl,hJ'⟩:=J.step ht (by rw [hst];exact hv)
    refine gU mix (by kernel_rfl) ?_
    simp -implicitDefEqProofs only [w1,oD,go_sem,seval]
    exact ⟨k + 1,by omega,rfl,hJ'⟩
  · have q1:(t.kind=1)=False:=eq_false (by omega)
    have q2:(t.kind=2)=True:=eq_true k1
    simp -implicitDefEqProofs only [q1,go_sem,seval]
    refine iA (by kernel_rfl) false (by simp [bD,upd,k1]) ?_
    refine dG (gU mix (by kernel_rfl) ?_)
    simp -implicitDefEqProofs only [q2,go_sem,seval]
    refine iA (by kernel_rfl) true (by simp [bD,upd,k1]) ?_
    rw [if_pos rfl]
    have hst:eO ⟨jN L,os⟩ t=.ok (vo ⟨jN L,os⟩ t.name):=by rw [eO,if_neg (by omega),if_pos k1]
    refine uJ (some 32) 26 [.t 29,.t 31] rfl (by kernel_rfl) ?_
    simp -implicitDefEqProofs only [mm,go_sem,seval]
    refine dI.mono (D:=fun _ _=>False) (Xi hB J.si t.name).toP (fun v s' hv=>?_) fun _ _ h=>h.elim
    obtain ⟨rfl,hJ'⟩:=J.step ht (by rw [hst];exact hv)
    refine gU mix (by kernel_rfl) ?_
    simp -implicitDefEqProofs only [w1,oD,go_sem,seval]
    exact ⟨k + 1,by omega,rfl,hJ'⟩
  · have q1:(t.kind=1)=False:=eq_false (by omega)
    have q2:(t.kind=2)=False:=eq_false (by omega)
    have q3:(t.kind=3)=True:=eq_true k1
    simp -implicitDefEqProofs only [q1,go_sem,seval]
    refine iA (by kernel_rfl) false (by simp [bD,upd,k1]) ?_
    refine dG (gU mix (by kernel_rfl) ?_)
    simp -implicitDefEqProofs only [q2,go_sem,seval]
    refine iA (by kernel_rfl) false (by simp [bD,upd,k1]) ?_
    refine dG (gU mix (by kernel_rfl) ?_)
    simp -implicitDefEqProofs only [q3,go_sem,seval]
    refine iA (by kernel_rfl) true (by simp [bD,upd,k1]) ?_
    rw [if_pos rfl]
    have hst:eO ⟨jN L,os⟩ t=jv ⟨jN L,os⟩ t.text:=by rw [eO,if_neg (by omega),if_neg (by omega),if_pos k1]
    refine uJ (some 38) 27 [.t 35,.t 37] rfl (by kernel_rfl) ?_
    simp -implicitDefEqProofs only [mm,go_sem,seval]
    refine dI.mono (Tv hB J.si t.text (fun z hz=>?_)) (fun v s' hv=>?_) fun ch s' hd=>?_
    · have htx:=J.tx z.1 (List.mem_map.2 ⟨z,hz,rfl⟩)
      have:=FU htm
      unfold tO at this
      unfold nW at htx
      omega
    rotate_left
    · exact J.Fj ht (by rw [hst];exact hd) (by simp [upd]) (by simp [upd])
    obtain ⟨rfl,hJ'⟩:=J.step ht (by rw [hst];exact hv)
    refine gU mix (by kernel_rfl) ?_
    simp -implicitDefEqProofs only [w1,oD,go_sem,seval]
    exact ⟨k + 1,by omega,rfl,hJ'⟩
end W10
/- Parse: its contract. -/
namespace W10
open Go Go.AX Go.AX.Ty Go.Proofs
theorem Zg:aP Tryz.prog (sL B10)=some (aL F10.body):=by kernel_rfl
theorem Zp:aP Tryz.prog (sR (sR B10))=some (aR (aR F10.body)):=by kernel_rfl
theorem K5 (x y:Value) (w:Go.World):(invoke (.fn (.func 23) #[x,y]) #[]).run Tryz.prog w=.ok (.enter 23 #[x,y]) w:=by kernel_rfl
theorem Oj (s:Str) (hs:s.length ≤ 400000000):aF Tryz.prog 10 [.str s] ⟨[],0⟩ fun v s'=>Em s' v (.tup [Enc.av (dH s).1,.int .i64 (dH s).2]):=by
  refine ⟨⟨Tryz.f10,Tryz.func10,by rw [b10];rfl,by kernel_rfl⟩,fun c w vs hs' hv=>?_⟩
  refine calls_of_wp_defers Tryz.func10 b10 ?_
  have hF:=Wv (N:=44) hv (by simp)
  rw [Tryz.ntmps10]
  refine wp_seq ((wpIn_wide (n:=0)).1 (wpIn_mono (jD (N:=44) mix (dx _) (aL F10.body) (fun e ρ' s'=>e=.normal ∧ agree ρ' [(0,.str s),(2,.ptr 0 1 0),(3,.ptr 1 1 0)] ∧ s'=⟨[(1,.cells 1 [.int .i64 0] false),(0,.cells 1 [.nils] false)],2⟩) _ _ (by kernel_rfl) ?_ _ Zg none [] c w _ hs' hF rfl) fun e a1 w1 hp=>?_))
  · simp only [F10,aL]
    simp -implicitDefEqProofs only [vF,List.getD_cons_zero,go_sem,seval]
  obtain ⟨hd,c1,F1,s1,hF1,hs1,hx1,ρ1,rfl,rfl,ha1,rfl⟩:=(gX hp).1
  simp only [Exit.then]
  obtain ⟨x,e2,hr2⟩:=hF1.get 2 (ρ1 2) (by simp [lN])
  obtain ⟨y,e3,hr3⟩:=hF1.get 3 (ρ1 3) (by simp [lN])
  rw [ha1.2.1] at hr2
  rw [ha1.2.2.1] at hr3
  have hlen:=hF1.length
  simp only [lN,List.length_map,List.length_range,Array.length_toList] at hlen
  refine wp_seq (XP (x:=x) (y:=y) (by omega) (by simpa using e2) (by simpa using e3) ?_)
  simp only [Exit.then]
  rw [hd]
  have hF2:=dQ (d:=some 7) (v:=.any) (u:=.func (.func 23) #[] #[x,y]) hF1 (by simp [aD])
  rw [jF] at hF2
  have ha2:agree (oD ρ1 (some 7) .any) [(0,.str s),(2,.ptr 0 1 0),(3,.ptr 1 1 0)]:=by
    simpa [agree,oD,upd] using ha1
  rw [← iI ha2] at hF2
  refine (wpIn_wide (n:=0)).1 (wpIn_mono (XM s hs _ _ Zp none [⟨.fn (.func 23) #[x,y],#[]⟩] c1 w1 ⟨_,[⟨.fn (.func 23) #[x,y],#[]⟩]⟩ hs1 hF2 rfl) fun e a3 w3 hp3=>?_)
  obtain ⟨hd3,c3,F3,s3,hF3,hs3,hx3,ρ3,rfl,hq⟩:=(gX hp3).1
  have hxy:aB c3 [.ptr 0 1 0,.ptr 1 1 0] [x,y]:=aB.mono hx3.le _ _ (by simp only [aB];exact ⟨x,[y],rfl,hr2,y,[],rfl,hr3,rfl⟩)
  cases e with
  | ret =>
    obtain ⟨⟨q2,q3,_⟩,e1,L,os,hrun,gp,gk,g0,g1⟩:=hq
    show Leaves Tryz.prog Tryz.f10 a3.tmps _ a3.defers .returning w3
    rw [hd3]
    refine leaves_cons (by simp) (K5 x y w3) ((XT hs3 hxy).mono ?_)
    rintro e u' w' ⟨rfl,rfl,c4,hs4,hx4⟩
    have hres:lZ F10.results (lN 44 ρ3) s3.get=some (.tup [.sl 2 e1 0 L.length 5,.int .i64 0]):=by
      unfold lZ
      rw [ql _ (by kernel_rfl)]
      simp [F10,nN,oU,rd,show ρ3 2=_ from q2,show ρ3 3=_ from q3,g0,g1]
    obtain ⟨u,hu,hru⟩:=rG (P:=Tryz.prog) (fn:=Tryz.f10) hs4 (aB.mono hx4.le _ _ hF3) (l:=F10.results) (by kernel_rfl) hres
    refine ⟨u,hu,_,u,c4,s3,rfl,hru,hs4,hx1.trans (hx3.trans hx4),?_⟩
    obtain ⟨ps,hvw⟩:=MG (g:=s3.get) (d:=4) (n:=0) gp gk
    have hpb:dH s=(jN L,0):=by unfold dH;rw [hrun];rfl
    rw [hpb]
    show (bM s3.get 8 _).map (·.1)=_
    rw [hvw];rfl
  | panic ch =>
    obtain ⟨⟨q2,q3,_⟩,e,hrun,rfl,g0,g1⟩:=hq
    show Leaves Tryz.prog Tryz.f10 a3.tmps _ a3.defers (.panicking [pE e false]) w3
    rw [hd3]
    refine leaves_cons (by simp) (K5 x y w3) ((Xy hs3 hxy g0 g1 (by decide) ?_ ?_).mono ?_)
    · exact Nat.lt_of_lt_of_le (by decide) hx3.next
    · exact Nat.lt_of_lt_of_le (by decide) hx3.next
    rintro e5 u' w' ⟨rfl,rfl,c4,s4,hs4,hx4,g3,g4⟩
    have hres:lZ F10.results (lN 44 ρ3) s4.get=some (.tup [.nils,.int .i64 e]):=by
      unfold lZ
      rw [ql _ (by kernel_rfl)]
      simp [F10,nN,oU,rd,show ρ3 2=_ from q2,show ρ3 3=_ from q3,g3,g4]
    obtain ⟨u,hu,hru⟩:=rG (P:=Tryz.prog) (fn:=Tryz.f10) hs4 (aB.mono hx4.le _ _ hF3) (l:=F10.results) (by kernel_rfl) hres
    refine ⟨u,hu,_,u,c4,s4,rfl,hru,hs4,hx1.trans (hx3.trans hx4),?_⟩
    have hpb:dH s=([],e):=by unfold dH;rw [hrun];rfl
    rw [hpb]
    rfl
  | _=>exact hq.elim
theorem iP (s:Str) (hs:s.length ≤ 400000000):bB Tryz.prog 10 [.str s] (.tup [Enc.av (dH s).1,.int .i64 (dH s).2]):=
  ⟨aF.upd ((Oj s hs).mono fun v' s' hv=>by obtain ⟨s2,hu⟩:=xM hv;exact ⟨_,s2,hu,rfl⟩),rfl,by simp [Go.AX.flat,aI,au]⟩
end W10
