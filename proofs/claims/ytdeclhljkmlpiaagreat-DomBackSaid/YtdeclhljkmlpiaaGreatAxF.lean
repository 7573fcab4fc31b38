/- Panics: calls that may end so; walks of code that may. -/
import Derived.Test.YtdeclhljkmlpiaaGreatAxE
import Derived.WalkSmall
set_option linter.unusedSimpArgs false
set_option linter.unusedVariables false
namespace Go.AX
open Go
def dI (P:Program) (f:FuncId) (args:List AV) (s:St) (R:AV → St → Prop) (D:List PanicEntry → St → Prop):Prop:=
  jA P f ∧ ∀ (c:Ctx) (w:World) (vs:List Value),Sat c s w → aB c args vs →
    Calls P f vs.toArray w fun e w'=>(∃ v u c' s',e=.returned u ∧ aD c' v u ∧ Sat c' s' w' ∧ Ext c s w c' s' w' ∧ R v s') ∨ ∃ ch c' s',e=.panicked ch ∧ Sat c' s' w' ∧ Ext c s w c' s' w' ∧ D ch s'
theorem dI.mono {P:Program} {f:FuncId} {args:List AV} {s:St} {R R':AV → St → Prop} {D D':List PanicEntry → St → Prop} (h:dI P f args s R D) (hr:∀ v s,R v s → R' v s) (hd:∀ ch s,D ch s → D' ch s):dI P f args s R' D':=
  ⟨h.1,fun c w vs hs hv=>(h.2 c w vs hs hv).mono fun e w' hp=>by
    rcases hp with ⟨v,u,c',s',h1,h2,h3,h4,h5⟩ | ⟨ch,c',s',h1,h3,h4,h5⟩
    · exact .inl ⟨v,u,c',s',h1,h2,h3,h4,hr _ _ h5⟩
    · exact .inr ⟨ch,c',s',h1,h3,h4,hd _ _ h5⟩⟩
theorem aF.toP {P:Program} {f:FuncId} {args:List AV} {s:St} {R:AV → St → Prop} {D:List PanicEntry → St → Prop} (h:aF P f args s R):dI P f args s R D:=
  ⟨h.1,fun c w vs hs hv=>(h.2 c w vs hs hv).mono fun e w' hp=>.inl hp⟩
theorem dI.views {P:Program} {f:FuncId} {args xs:List AV} {s:St} {ps:List (Nat × Obj)} {R:AV → St → Prop} {D:List PanicEntry → St → Prop} (hv:views s.get args=some (xs,ps)) (h:dI P f xs (s.puts ps) R D):dI P f args s R D:=
  ⟨h.1,fun c w vs hs hr=>by
    obtain ⟨c',h1,h2,_,h4⟩:=jU args xs ps hv c s vs hs (Since.refl s) hr
    refine (h.2 c' w vs h1 h4).mono fun e w' hp=>?_
    rcases hp with ⟨v,u,c2,s2,e1,e2,e3,e4,e5⟩ | ⟨ch,c2,s2,e1,e3,e4,e5⟩
    · exact .inl ⟨v,u,c2,s2,e1,e2,e3,h2.trans e4,e5⟩
    · exact .inr ⟨ch,c2,s2,e1,e3,h2.trans e4,e5⟩⟩
section
variable {P:Program} {Q:Exit → List AV → St → Prop} {F:List AV} {s:St}
theorem eB {ops:Array Oper} {K:List AV → St → Prop} {QQ:Exit → Act → World → Prop} (m:Nat):∀ (l:List Oper) (k:Nat) (al:List aJ),(∀ j,j < l.length → l[j]? = ops[k + j]?) → dM P ops l=some al → ∀ (F:List AV) (s:St),gH P K al F s →
    ∀ (ro:Option Nat) (ds:List Deferred) (c0:Ctx) (s0:St) (w0:World) (c:Ctx) (w:World) (a:Act),Ext c0 s0 w0 c s w → Sat c s w → aB c F a.tmps.toList → a.defers=ds →
    (∀ (F':List AV) (s':St) (c':Ctx) (w':World) (a':Act),K F' s' → Ext c0 s0 w0 c' s' w' → Sat c' s' w' → aB c' F' a'.tmps.toList → a'.defers=ds → wpOpsIn (fw ro) 0 P ops QQ (List.range' (k + l.length) m) a' w') →
    wpOpsIn (fw ro) 0 P ops QQ (List.range' k (l.length + m)) a w
  | [], k, al, hk, hal, F, s, hq, ro, ds, c0, s0, w0, c, w, a, hx, hs, hF, hd, hK => by
    simp [dM] at hal;subst hal
    simpa using hK F s c w a hq hx hs hF hd
  | o :: l, k, al, hk, hal, F, s, hq, ro, ds, c0, s0, w0, c, w, a, hx, hs, hF, hd, hK => by
    have hK':∀ (F':List AV) (s':St) (c':Ctx) (w':World) (a':Act),K F' s' → Ext c0 s0 w0 c' s' w' → Sat c' s' w' → aB c' F' a'.tmps.toList → a'.defers=ds → wpOpsIn (fw ro) 0 P ops QQ (List.range' (k + 1 + l.length) m) a' w':=fun F' s' c' w' a' g1 g2 g3 g4 g5=>by
      have:=hK F' s' c' w' a' g1 g2 g3 g4 g5
      rwa [show k + (o :: l).length=k + 1 + l.length by simp;omega] at this
    simp only [dM] at hal
    split at hal
    · rename_i ao r h1 h2
      simp at hal;subst hal
      have ho:ops[k]? = some o:=by have:=hk 0 (by simp);simpa using this.symm
      have hk':∀ j,j < l.length → l[j]? = ops[k + 1 + j]?:=fun j hj=>by have:=hk (j + 1) (by simp;omega);simpa [Nat.add_assoc,Nat.add_comm 1 j] using this
      rw [show (o :: l).length + m=(l.length + m) + 1 by simp;omega]
      simp only [List.range'_succ,wpOpsIn,ho]
      simp only [sH,Option.some.injEq] at h1
      subst h1
      simp only [gH] at hq
      split at hq
      · exact hq.elim
      · rename_i hg
        have hw:=qY hF hg
        simp only [hw,Bool.false_eq_true,if_false]
        refine ⟨fun _ _=>trivial,?_⟩
        exact eB m l (k + 1) r hk' h2 _ s hq ro ds c0 s0 w0 c w _ hx hs (dQ hF (by simp [aD,undef,aB])) (by rw [put_defers];exact hd) hK'
      · rename_i hg
        have hw:=qY hF hg
        simp only [hw,if_true]
        generalize hop':(fu P o.op).getD .bad=op at hq
        split at hq
        · rename_i hcall
          have hop:=mR hop' (by rintro rfl;simp [dW] at hcall)
          split at hq
          · rename_i f args hco
            obtain ⟨vs,hvs,hrun⟩:=rA (w:=w) hF hop hco hq.1
            refine mJ hrun (fun cl hcl=>by rw [hcl] at hop;simp [fu] at hop) ?_
            refine (hq.2 c w vs hs hvs).mono fun e w' hp=>?_
            obtain ⟨v,u,c',s',rfl,g1,g2,g3,g4⟩:=hp
            simp only
            exact eB m l (k + 1) r hk' h2 _ s' g4 ro ds c0 s0 w0 c' w' _ (hx.trans g3) g2 (dQ (aB.mono g3.le _ _ hF) g1) (by rw [put_defers];exact hd) hK'
          · split at hq
            · rename_i lp args hyo
              obtain ⟨vs,hvs,hrun⟩:=zD (w:=w) hF hop hyo
              obtain ⟨fn,tm,as,bd,hy,hR⟩:=hq ro c w vs hs hvs
              refine zG (hrun _ _ hy) (fun cl hcl=>by rw [hcl] at hop;simp [fu] at hop) ?_
              refine hR.mono fun e w' hp=>?_
              obtain ⟨v,u,c',s',rfl,g1,g2,g3,g4⟩:=hp
              simp only
              exact eB m l (k + 1) r hk' h2 _ s' g4 ro ds c0 s0 w0 c' w' _ (hx.trans g3) g2 (dQ (aB.mono g3.le _ _ hF) g1) (by rw [put_defers];exact hd) hK'
            · exact hq.elim
        · split at hq
          · rename_i v ps qs hv
            have hop:=mR hop' (by rintro rfl;simp [bn] at hv)
            obtain ⟨c',w',u,hrun,g1,g2,g3⟩:=vG (P:=P) hs (gu hF) hop hv
            rcases hrun with hrun | ⟨hrun,rfl⟩
            · refine jJ hrun (fun cl hcl=>by rw [hcl] at hop;simp [fu] at hop) ?_
              exact eB m l (k + 1) r hk' h2 _ _ hq ro ds c0 s0 w0 c' w' _ (hx.trans g3) g2 (dQ (aB.mono g3.le _ _ hF) g1) (by rw [put_defers];exact hd) hK'
            · refine oL hrun (fun cl hcl=>by rw [hcl] at hop;simp [fu] at hop) ?_
              exact eB m l (k + 1) r hk' h2 _ _ hq ro ds c0 s0 w0 c' w' _ (hx.trans g3) g2 (dQ (aB.mono g3.le _ _ hF) g1) (by rw [put_defers];exact hd) hK'
          · obtain ⟨hu,hq⟩:=hq
            have hop:=mR hop' (by rintro rfl;simp [wJ] at hu)
            obtain ⟨b,c',w',u,hrun,g1,g2,g3⟩:=wP (P:=P) hs (gu hF) hop hu
            rcases hrun with hrun | ⟨hrun,rfl⟩
            · refine jJ hrun (fun cl hcl=>by rw [hcl] at hop;simp [fu] at hop) ?_
              exact eB m l (k + 1) r hk' h2 _ _ (hq b) ro ds c0 s0 w0 c' w' _ (hx.trans g3) g2 (dQ (aB.mono g3.le _ _ hF) g1) (by rw [put_defers];exact hd) hK'
            · refine oL hrun (fun cl hcl=>by rw [hcl] at hop;simp [fu] at hop) ?_
              exact eB m l (k + 1) r hk' h2 _ _ (hq b) ro ds c0 s0 w0 c' w' _ (hx.trans g3) g2 (dQ (aB.mono g3.le _ _ hF) g1) (by rw [put_defers];exact hd) hK'
    · simp at hal
theorem qH {ops:Array Oper}:∀ {l:List Oper} {al:List aJ} {ao:aJ},dM P ops l=some (al ++ [ao]) → ∃ l1 o,l=l1 ++ [o] ∧ dM P ops l1=some al ∧ sH P ops o=some ao
  | [],al,ao,h=>by simp [dM] at h
  | o :: r, al, ao, h => by
    simp only [dM] at h
    split at h
    · rename_i x xs h1 h2
      simp only [Option.some.injEq] at h
      cases al with
      | nil =>
        simp only [List.nil_append,List.cons.injEq] at h
        obtain ⟨rfl,rfl⟩:=h
        cases r with
        | nil=>exact ⟨[],o,rfl,rfl,h1⟩
        | cons y r =>
          simp only [dM] at h2
          split at h2 <;> simp at h2
      | cons y al =>
        simp only [List.cons_append,List.cons.injEq] at h
        obtain ⟨rfl,rfl⟩:=h
        obtain ⟨l1,o',rfl,g1,g2⟩:=qH h2
        exact ⟨o :: l1,o',rfl,by simp only [dM,h1,g1],g2⟩
    · simp at h
theorem MR {l:List aJ} {dst:Option Nat} {f:Nat} {args:List AO}
    (h:gH P (fun F s=>dI P f (args.map (AO.ev F)) s (fun v s'=>Q .normal (fQ F dst v) s') fun ch s'=>Q (.panic ch) F s') l F s):q8 P (.region (l ++ [⟨dst,.call f args,none⟩])) Q F s:=by
  refine kN fun code hns hc ro ds c w a hs hF hd=>?_
  cases code with
  | region id ops draw =>
    rcases dz hc with ⟨l',h0,h1,rfl⟩ | ⟨l',h0,_⟩ | ⟨l',k,h0,_⟩
    · cases h0
      refine wpIn_region ?_
      obtain ⟨l1,o,e1,g1,g2⟩:=qH h1
      have hsz:ops.size=l1.length + 1:=by have:=congrArg List.length e1;simpa using this
      have hat:∀ j,j < l1.length → l1[j]? = ops[0 + j]?:=fun j hj=>by
        have:ops.toList[j]? = (l1 ++ [o])[j]?:=by rw [e1]
        rw [List.getElem?_append_left hj] at this
        simpa using this.symm
      have hol:ops[l1.length]? = some o:=by
        have:ops.toList[l1.length]? = (l1 ++ [o])[l1.length]?:=by rw [e1]
        simpa using this
      simp only [sH,Option.some.injEq,aJ.mk.injEq] at g2
      obtain ⟨rfl,g3,g4⟩:=g2
      have hgn:o.guard=none:=by cases hg:o.guard with
        | none=>rfl
        | some x=>rw [hg] at g4;simp at g4
      have hop:=mR g3 (by simp)
      have:=eB (QQ:=Exit.noGoto (Post ds c s w Q)) 1 l1 0 l hat g1 F s h ro ds c s w c w a (Ext.refl _ _ _) hs hF hd (fun F' s' c' w' a' hp gx gs gF gd'=>by
        simp only [Nat.zero_add,List.range'_one,wpOpsIn,hol]
        have hw:Region.wanted o (yielded ops a'.tmps)=true:=by unfold Region.wanted;rw [hgn]
        simp only [hw,if_true]
        obtain ⟨vs,hvs,hrun⟩:=rA (w:=w') gF hop rfl hp.1
        refine mJ hrun (fun cl hcl=>by rw [hcl] at hop;simp [fu] at hop) ?_
        refine (hp.2 c' w' vs gs hvs).mono fun e w'' hh=>?_
        rcases hh with ⟨v,u,c2,s2,rfl,k1,k2,k3,k4⟩ | ⟨ch,c2,s2,rfl,k2,k3,k4⟩
        · exact ⟨by rw [put_defers];exact gd',c2,_,s2,dQ (aB.mono k3.le _ _ gF) k1,k2,gx.trans k3,k4⟩
        · exact ⟨gd',c2,F',s2,aB.mono k3.le _ _ gF,k2,gx.trans k3,k4⟩)
      rw [List.range_eq_range',hsz]
      exact this
    · cases h0
    · cases h0
  | rangeFunc f ps x y=>simp only [aP] at hc;split at hc <;> simp at hc
  | seq x y=>simp only [aP] at hc;split at hc <;> simp at hc
  | cond x y z=>simp only [aP] at hc;split at hc <;> simp at hc
  | block id x=>simp [aP] at hc
  | loop x=>simp [aP] at hc
  | scope x=>simp [iO] at hns
  | skip | label l | ret | exit i=>simp [aP] at hc
  | _ =>
    exfalso
    simp only [aP,Option.some.injEq,bL.region.injEq] at hc
    have:=congrArg List.getLast? hc
    simp at this
theorem Mw {l:List aJ} {dst:Option Nat} {x:AO}
    (h:gH P (fun F s=>∃ t X,x.ev F=.ifc t X ∧ ∀ c u,aD c X u → Q (.panic [{ v:=.iface t u,recovered:=false }]) F s) l F s):q8 P (.region (l ++ [⟨dst,.Fj x,none⟩])) Q F s:=by
  refine kN fun code hns hc ro ds c w a hs hF hd=>?_
  cases code with
  | region id ops draw =>
    rcases dz hc with ⟨l',h0,h1,rfl⟩ | ⟨l',h0,_⟩ | ⟨l',k,h0,_⟩
    · cases h0
      refine wpIn_region ?_
      obtain ⟨l1,o,e1,g1,g2⟩:=qH h1
      have hsz:ops.size=l1.length + 1:=by have:=congrArg List.length e1;simpa using this
      have hat:∀ j,j < l1.length → l1[j]? = ops[0 + j]?:=fun j hj=>by
        have:ops.toList[j]? = (l1 ++ [o])[j]?:=by rw [e1]
        rw [List.getElem?_append_left hj] at this
        simpa using this.symm
      have hol:ops[l1.length]? = some o:=by
        have:ops.toList[l1.length]? = (l1 ++ [o])[l1.length]?:=by rw [e1]
        simpa using this
      simp only [sH,Option.some.injEq,aJ.mk.injEq] at g2
      obtain ⟨rfl,g3,g4⟩:=g2
      have hgn:o.guard=none:=by cases hg:o.guard with
        | none=>rfl
        | some x=>rw [hg] at g4;simp at g4
      have hop:=mR g3 (by simp)
      have:=eB (QQ:=Exit.noGoto (Post ds c s w Q)) 1 l1 0 l hat g1 F s h ro ds c s w c w a (Ext.refl _ _ _) hs hF hd (fun F' s' c' w' a' hp gx gs gF gd'=>by
        simp only [Nat.zero_add,List.range'_one,wpOpsIn,hol]
        have hw:Region.wanted o (yielded ops a'.tmps)=true:=by unfold Region.wanted;rw [hgn]
        simp only [hw,if_true]
        obtain ⟨t,X,hx,hq⟩:=hp
        have hpan:∃ y,o.op=.panic y ∧ cO y=some x:=by
          cases ho:o.op <;> rw [ho] at hop <;> simp only [fu] at hop
          case panic y=>obtain ⟨z,z1,z2⟩:=omap hop;simp only [jy.Fj.injEq] at z2;subst z2;exact ⟨y,rfl,z1⟩
          case next y b=>
            exfalso
            cases b with
            | false=>simp [fu] at hop
            | true=>simp only [fu] at hop;obtain ⟨_,_,h2⟩:=omap hop;simp at h2
          case makeMap t r=>cases r <;> simp [fu] at hop
          all_goals
            exfalso
            repeat' (split at hop)
            all_goals first | (simp at hop;done) | (obtain ⟨_,_,h2⟩:=omap hop;simp at h2;done) | contradiction
        obtain ⟨y,hy,hcy⟩:=hpan
        have hrep:=gu gF y x hcy
        rw [hx] at hrep
        simp only [aD] at hrep
        obtain ⟨u,hu,hru⟩:=hrep
        have hrun:(execOp a'.eval o).run P w'=.halt (.panic (.iface t u)) w':=by
          simp [execOp,hy,hu,run_panic_iface]
        refine ⟨fun _ _=>trivial,?_⟩
        rw [show (fw ro).round=ro from rfl,Oper.semAt_eq _ _ _ (fun c hc=>by rw [hy] at hc;simp at hc),hrun]
        exact ⟨gd',c',F',s',gF,gs,gx,hq c' u hru⟩)
      rw [List.range_eq_range',hsz]
      exact this
    · cases h0
    · cases h0
  | rangeFunc f ps x y=>simp only [aP] at hc;split at hc <;> simp at hc
  | seq x y=>simp only [aP] at hc;split at hc <;> simp at hc
  | cond x y z=>simp only [aP] at hc;split at hc <;> simp at hc
  | block id x=>simp [aP] at hc
  | loop x=>simp [aP] at hc
  | scope x=>simp [iO] at hns
  | skip | label l | ret | exit i=>simp [aP] at hc
  | _ =>
    exfalso
    simp only [aP,Option.some.injEq,bL.region.injEq] at hc
    have:=congrArg List.getLast? hc
    simp at this
end
end Go.AX
/- Walks that may panic. -/
namespace Go.AX
open Go
def WX (P:Program) (N:Nat) (c:bL) (Q:bV) (ρ:Env) (s:St):Prop:=q8 P c (QF N Q) (lN N ρ) s
section
variable {P:Program} {N:Nat} {Q:bV} {ρ:Env} {s:St}
theorem gU (hmix:P.follows .mixedOrders=true) {c:bL} (hin:dU N c=true) (h:W P C0 c Q ρ s):WX P N c Q ρ s:=jD hmix (dx P) c Q ρ s hin h
theorem WX.mono {c:bL} {Q':bV} (h:WX P N c Q ρ s) (hq:∀ e ρ s,Q e ρ s → Q' e ρ s):WX P N c Q' ρ s:=
  q8.mono h fun e F s ⟨ρ',h1,h2⟩=>⟨ρ',h1,hq _ _ _ h2⟩
theorem dG {a b:bL} (h:WX P N a (kF (WX P N b Q) Q) ρ s):WX P N (.seq a b) Q ρ s:=by
  refine DW (q8.mono h fun e F s hq=>?_)
  obtain ⟨ρ',rfl,hq⟩:=hq
  cases e with
  | normal=>exact hq
  | _=>exact ⟨ρ',rfl,hq⟩
theorem iA {c:AO} {a b:bL} (hin:kP N c=true) (t:Bool) (hc:bD ρ c=.bool t) (h:WX P N (if t then a else b) Q ρ s):WX P N (.cond c a b) Q ρ s:=
  A9 (t:=t) (by rw [aV hin];exact hc) h
theorem zX {id:Nat} {a:bL} (h:WX P N a (gP id Q) ρ s):WX P N (.block id a) Q ρ s:=by
  refine vH (q8.mono h fun e F s hq=>?_)
  obtain ⟨ρ',rfl,hq⟩:=hq
  cases e with
  | exit i =>
    simp only [gP] at hq
    simp only [wh]
    split at hq
    · rename_i hi;rw [if_pos hi];exact ⟨ρ',rfl,hq⟩
    · rename_i hi;rw [if_neg hi];exact ⟨ρ',rfl,hq⟩
  | _=>exact ⟨ρ',rfl,hq⟩
theorem yA (h:Q .normal ρ s):WX P N .skip Q ρ s:=zC ⟨ρ,rfl,h⟩
theorem XU (h:Q .ret ρ s):WX P N .ret Q ρ s:=Fa ⟨ρ,rfl,h⟩
theorem Ut {id:Nat} (h:Q (.exit id) ρ s):WX P N (.exit id) Q ρ s:=zQ ⟨ρ,rfl,h⟩
theorem Vt {σ:Type} {a:bL} (μ:σ → Nat) (J:σ → Env → St → Prop) (x0:σ) (h0:J x0 ρ s)
    (h:∀ x ρ s,J x ρ s → WX P N a (kF (fun ρ' s'=>∃ y,μ y < μ x ∧ J y ρ' s') Q) ρ s):WX P N (.loop a) Q ρ s:=by
  have key:∀ (n:Nat) (x:σ) (ρ:Env) (s:St),μ x < n → J x ρ s → LoopN P a (QF N Q) n (lN N ρ) s:=by
    intro n
    induction n with
    | zero=>intro x ρ s hn;omega
    | succ n ih =>
      intro x ρ s hn hj
      refine q8.mono (h x ρ s hj) fun e F s hq=>?_
      obtain ⟨ρ',rfl,hq⟩:=hq
      cases e with
      | normal=>obtain ⟨y,h1,h2⟩:=hq;exact ih y ρ' s (by omega) h2
      | _=>exact ⟨ρ',rfl,hq⟩
  exact yS (μ x0 + 1) (key (μ x0 + 1) x0 ρ s (Nat.lt_succ_self _) h0)
theorem JE {σ:Type} {a:bL} (μ:σ → Nat) (L:σ → List (Nat × AV)) (J:σ → St → Prop) (x0:σ) (h0:agree ρ (L x0) ∧ J x0 s)
    (h:∀ x ρ s,J x s → WX P N a (kF (fun ρ' s'=>∃ y,μ y < μ x ∧ agree ρ' (L y) ∧ J y s') Q) (uY ρ (L x)) s):WX P N (.loop a) Q ρ s:=
  Vt μ (fun x ρ s=>agree ρ (L x) ∧ J x s) x0 h0 fun x ρ s hi=>by
    have:=h x ρ s hi.2
    rwa [iI hi.1] at this
def Qo (P:Program) (f:Nat) (args:List AV) (s:St) (R:AV → St → Prop) (D:List PanicEntry → St → Prop):Prop:=dI P f args s R D
theorem A8 {l:List aJ} {o:aJ} (h:l.getLast? = some o):l=l.dropLast ++ [o]:=by
  rw [List.getLast?_eq_some_iff] at h
  obtain ⟨ys,rfl⟩:=h
  simp
theorem uJ {l:List aJ} (dst:Option Nat) (f:Nat) (args:List AO) (hl:l.getLast? = some ⟨dst,.call f args,none⟩) (hin:(l.dropLast.all (kT N) && args.all (kP N))=true)
    (h:opsE P C0 (fun ρ s=>Qo P f (args.map (bD ρ)) s (fun v s'=>Q .normal (oD ρ dst v) s') fun ch s'=>Q (.panic ch) ρ s') l.dropLast ρ s):WX P N (.region l) Q ρ s:=by
  simp only [Bool.and_eq_true] at hin
  unfold WX
  rw [A8 hl]
  refine MR (jL (dx P) (fun ρ s hh=>?_) _ ρ s hin.1 h)
  rw [kG hin.2]
  exact hh.mono (fun v s' hq=>⟨_,jF N ρ dst v,hq⟩) fun ch s' hq=>⟨ρ,rfl,hq⟩
theorem Iu {l:List aJ} (dst:Option Nat) (x:AO) (hl:l.getLast? = some ⟨dst,.Fj x,none⟩) (hin:(l.dropLast.all (kT N) && kP N x)=true)
    (h:opsE P C0 (fun ρ s=>∃ t X,bD ρ x=.ifc t X ∧ ∀ c u,aD c X u → Q (.panic [{ v:=.iface t u,recovered:=false }]) ρ s) l.dropLast ρ s):WX P N (.region l) Q ρ s:=by
  simp only [Bool.and_eq_true] at hin
  unfold WX
  rw [A8 hl]
  refine Mw (jL (dx P) (fun ρ s hh=>?_) _ ρ s hin.1 h)
  obtain ⟨t,X,h1,h2⟩:=hh
  exact ⟨t,X,by rw [aV hin.2];exact h1,fun c u hr=>⟨ρ,rfl,h2 c u hr⟩⟩
def Tq (res:List (Nat × Option (Option Nat))) (R:AV → St → Prop) (D:List PanicEntry → St → Prop):bV
  | .normal,ρ,s=>vN res R ρ s
  | .ret,ρ,s=>vN res R ρ s
  | .panic ch,_,s=>D ch s
  | _,_,_=>False
def X4 (res:List (Nat × Option (Option Nat))) (R:AV → St → Prop) (D:List PanicEntry → St → Prop) (e:Exit) (F:List AV) (s:St):Prop:=
  ((e=.normal ∨ e=.ret) ∧ ∃ v,lZ res F s.get=some v ∧ R v s) ∨ ∃ ch,e=.panic ch ∧ D ch s
theorem Ip {f:FuncId} {af:bI} (hf:bF P f=some af) {args:List AV} {s:St} {R:AV → St → Prop} {D:List PanicEntry → St → Prop} (h:q8 P af.body (X4 af.results R D) (iN args af.ntmps) s):dI P f args s R D:=by
  obtain ⟨fn,b,h1,h2,h3,h4,h5,h6⟩:=Dl hf
  refine ⟨⟨fn,h1,by simp [h2],h6⟩,fun c w vs hs hv=>?_⟩
  refine calls_of_wp h1 h2 ?_
  have hF:aB c (iN args af.ntmps) ((vs.toArray ++ Array.replicate (fn.ntmps - vs.toArray.size) undef).toList):=by
    simp only [iN,Array.toList_append,Array.toList_replicate]
    refine hv.append ?_
    have hl:=hv.length
    rw [h5,show vs.toArray.size=args.length by simpa using hl]
    have:∀ n,aB c (List.replicate n (.tup [])) (List.replicate n undef):=by
      intro n
      induction n with
      | zero=>simp [aB]
      | succ n ih=>simp only [List.replicate_succ,aB];exact ⟨_,_,rfl,by simp [aD,aB,undef],ih⟩
    exact this _
  refine (wpIn_wide (n:=0)).1 ?_
  refine wpIn_mono (h b h3 none [] c w _ hs hF rfl) fun e a' w' hp=>?_
  replace hp:=(gX hp).1
  obtain ⟨hd,c',F',s',g1,g2,g3,hq⟩:=hp
  rcases hq with ⟨he,v,hv,hR⟩ | ⟨ch,rfl,hD⟩
  · obtain ⟨u,hu,hru⟩:=rG g2 g1 h4 hv
    rcases he with rfl | rfl
    · exact ⟨hd,u,hu,.inl ⟨v,u,c',s',rfl,hru,g2,g3,hR⟩⟩
    · exact ⟨hd,u,hu,.inl ⟨v,u,c',s',rfl,hru,g2,g3,hR⟩⟩
  · exact ⟨hd,.inr ⟨ch,c',s',rfl,g2,g3,hD⟩⟩
theorem wH {f:FuncId} {af:bI} (hf:bF P f=some af) (hin:uo af.ntmps af.results=true) {args:List AV} {s:St} {R:AV → St → Prop} {D:List PanicEntry → St → Prop}
    (hl:args.length ≤ af.ntmps) (h:WX P af.ntmps af.body (Tq af.results R D) (vF args) s):dI P f args s R D:=by
  refine Ip hf ?_
  rw [yJ hl]
  refine q8.mono h fun e F s hq=>?_
  obtain ⟨ρ,rfl,hq⟩:=hq
  have key:vN af.results R ρ s → ∃ v,lZ af.results (lN af.ntmps ρ) s.get=some v ∧ R v s:=fun h=>by
    unfold vN at h
    split at h
    · rename_i vs hv
      refine ⟨oneOf vs,?_,h⟩
      simp only [lZ]
      rw [ql _ hin,hv]
      rcases vs with _ | ⟨a,_ | ⟨b,r⟩⟩ <;> rfl
    · exact h.elim
  cases e with
  | normal=>exact .inl ⟨.inl rfl,key hq⟩
  | ret=>exact .inl ⟨.inr rfl,key hq⟩
  | panic ch=>exact .inr ⟨ch,rfl,hq⟩
  | _=>exact hq.elim
theorem Hf (res:List (Nat × Option (Option Nat))) (R:AV → St → Prop) (D:List PanicEntry → St → Prop) (ρ:Env) (s:St):Tq res R D .normal ρ s=vN res R ρ s:=rfl
theorem OA (res:List (Nat × Option (Option Nat))) (R:AV → St → Prop) (D:List PanicEntry → St → Prop) (ρ:Env) (s:St):Tq res R D .ret ρ s=vN res R ρ s:=rfl
theorem JY (res:List (Nat × Option (Option Nat))) (R:AV → St → Prop) (D:List PanicEntry → St → Prop) (ch:List PanicEntry) (ρ:Env) (s:St):Tq res R D (.panic ch) ρ s=D ch s:=rfl
theorem FN (K:Env → St → Prop) (Q:bV) (ch:List PanicEntry) (ρ:Env) (s:St):kF K Q (.panic ch) ρ s=Q (.panic ch) ρ s:=rfl
theorem yY (id:Nat) (Q:bV) (ch:List PanicEntry) (ρ:Env) (s:St):gP id Q (.panic ch) ρ s=Q (.panic ch) ρ s:=rfl
attribute [go_sem] Hf OA JY FN yY List.dropLast_cons₂ List.dropLast_singleton
end
end Go.AX
/- A region that draws, whose tail begins with a call that may panic. -/
namespace Go.AX
open Go
theorem Km {P:Program} {ops:Array Oper} {Q:Exit → List AV → St → Prop} {k:Nat} {dst:Option Nat} {f:Nat} {args:List AO} {al:List aJ} {F:List AV} {s:St} (hc:dM P ops (ops.toList.drop k)=some (⟨dst,.call f args,none⟩ :: al))
    (h:dI P f (args.map (AO.ev F)) s (fun v s'=>gH P (Q .normal) al (fQ F dst v) s') fun ch s'=>Q (.panic ch) F s') (ro:Option Nat) (ds:List Deferred) (c0:Ctx) (s0:St) (w0:World) (c:Ctx) (w:World) (a:Act)
    (hx:Ext c0 s0 w0 c s w) (hs:Sat c s w) (hF:aB c F a.tmps.toList) (hd:a.defers=ds):wpOpsIn (fw ro) 0 P ops (Exit.noGoto (Post ds c0 s0 w0 Q)) (List.range' k (ops.toList.drop k).length) a w:=by
  have hk:∀ j,(ops.toList.drop k)[j]? = ops[k + j]?:=fun j=>by simp [List.getElem?_drop]
  generalize ops.toList.drop k=l at hc hk
  cases l with
  | nil=>simp [dM] at hc
  | cons o l=>
  simp only [dM] at hc
  split at hc
  · rename_i ao r h1 h2
    simp only [Option.some.injEq,List.cons.injEq] at hc
    obtain ⟨rfl,rfl⟩:=hc
    simp only [sH,Option.some.injEq,aJ.mk.injEq] at h1
    obtain ⟨rfl,g3,g4⟩:=h1
    have hgn:o.guard=none:=by cases hg:o.guard with
      | none=>rfl
      | some x=>rw [hg] at g4;simp at g4
    have hop:=mR g3 (by simp)
    have ho:ops[k]? = some o:=by have:=hk 0;simpa using this.symm
    have hk':∀ j,l[j]? = ops[k + 1 + j]?:=fun j=>by have:=hk (j + 1);simpa [Nat.add_assoc,Nat.add_comm 1 j] using this
    simp only [List.length_cons,List.range'_succ,wpOpsIn,ho]
    have hw:Region.wanted o (yielded ops a.tmps)=true:=by unfold Region.wanted;rw [hgn]
    simp only [hw,if_true]
    obtain ⟨vs,hvs,hrun⟩:=rA (w:=w) hF hop rfl h.1
    refine mJ hrun (fun cl hcl=>by rw [hcl] at hop;simp [fu] at hop) ?_
    refine (h.2 c w vs hs hvs).mono fun e w'' hh=>?_
    rcases hh with ⟨v,u,c2,s2,rfl,k1,k2,k3,k4⟩ | ⟨ch,c2,s2,rfl,k2,k3,k4⟩
    · exact dn l (k + 1) _ hk' h2 _ s2 k4 ro ds c0 s0 w0 c2 w'' _ (hx.trans k3) k2 (dQ (aB.mono k3.le _ _ hF) k1) (by rw [put_defers];exact hd)
    · exact ⟨hd,c2,F,s2,aB.mono k3.le _ _ hF,k2,hx.trans k3,k4⟩
  · simp at hc
theorem GK {P:Program} (hmix:P.follows .mixedOrders=true) {M:List Nat} {al r:List aJ} {dst:Option Nat} {f:Nat} {args:List AO} {Q:Exit → List AV → St → Prop} {F:List AV} {s:St} {Fs:Nat → List AV} {ss:Nat → St} {es:Nat → Entry}
    (h0:Fs 0=F) (h1:ss 0=s) (hrun:Uq P al Fs ss es) (hind:Iw M es al.length)
    (hq:dI P f (args.map (AO.ev (Fs al.length))) (ss al.length) (fun v s'=>gH P (Q .normal) r (fQ (Fs al.length) dst v) s') fun ch s'=>Q (.panic ch) (Fs al.length) s'):q8 P (.drawT M al (⟨dst,.call f args,none⟩ :: r)) Q F s:=by
  refine kN fun code hns hc ro ds c w a hs hF hd=>?_
  cases code with
  | region id ops draw =>
    rcases dz hc with ⟨l,e0,_⟩ | ⟨l,e0,_⟩ | ⟨l,k,e0,e1,rfl,e3,e4,e5⟩
    · cases e0
    · cases e0
    · simp only [bL.drawT.injEq] at e0
      obtain ⟨rfl,rfl,e6⟩:=e0
      obtain ⟨hl,_⟩:=rT e1
      have hlen:l.length=ops.size:=by rw [hl];simp
      have htk:(l.take k).length=k:=by rw [List.length_take];omega
      rw [htk] at hind hq
      have R:yC P ops l (dZ ops.toList []) k Fs ss es:=⟨e1,hlen,by omega,rfl,e3,fun i hi o ho=>hrun.step i o (by rw [List.getElem?_take_of_lt hi];exact ho),hind⟩
      subst h0;subst h1
      have hs':=hs.sameHeap (w':={ w with drawn:=w.drawn + 1 }) rfl ⟨rfl,rfl,rfl⟩
      have hfull:∀ j,k ≤ j → j < l.length → ∀ i,i < j → Bit (dZ ops.toList []) j i:=fun j h1 h2 i h3=>by
        simp only [qb,List.all_eq_true,List.mem_range,Bool.or_eq_true,decide_eq_true_eq] at e4
        rcases e4 j h2 with h | h
        · omega
        · exact h i h3
      refine wpIn_region_any hmix ?_
      rw [← hlen]
      refine R.WR hs'.1 (R.closed (a:=a) hs'.1 hF hd) (Q:=Exit.noGoto (Post ds c (ss 0) w Q)) ro hfull
        (fun fuel listed c' a' w' hf hsz hall ht _ g1 g2 g3 g4=>R.tail hfull (l.length - k) k listed a' w' fuel (Nat.le_refl _) (by omega) (by omega) hsz
          (fun i hi=>⟨fun h=>by
            rcases Nat.lt_or_ge i k with h' | h'
            · exact h'
            · rw [ht i h'] at h;exact Bool.noConfusion h,fun h=>hall i h⟩) (fun i hi=>ht i (by omega)) ?_) _ _ c (ss 0).get a _ (R.first hs'.1 hF hd) ?_
      · have:=Km (P:=P) (ops:=ops) (Q:=Q) (k:=k) (by rw [rz k e1,← e6]) hq ro ds c (ss 0) w c' w' a' (hs'.2.trans g3) g2 g1 g4
        rw [List.length_drop,Array.length_toList,← hlen] at this
        exact this
      · have:=List.length_filter_le (fun i=>!(Array.replicate l.length false).getD i false) (List.range k)
        simp only [List.length_range] at this
        unfold todo
        omega
  | seq x y=>simp only [aP] at hc;split at hc <;> simp at hc
  | cond x y z=>simp only [aP] at hc;split at hc <;> simp at hc
  | block id x=>simp [aP] at hc
  | loop x=>simp [aP] at hc
  | scope x=>simp [iO] at hns
  | rangeFunc f ps x y=>simp only [aP] at hc;split at hc <;> simp at hc
  | _=>simp [aP] at hc
theorem FQ {P:Program} {N:Nat} {Q:bV} {ρ:Env} {s:St} (hmix:P.follows .mixedOrders=true) {m:List Nat} {l r:List aJ} {dst:Option Nat} {f:Nat} {args:List AO} (hin:(l.all (kT N) && args.all (kP N) && r.all (kT N))=true)
    (h:jr P C0 (fun ρ s es=>@jZ (aM m es 0 es=true) ⟨Qo P f (args.map (bD ρ)) s (fun v s'=>opsE P C0 (Q .normal) r (oD ρ dst v) s') fun ch s'=>Q (.panic ch) ρ s'⟩) l ρ s []):WX P N (.drawT m l (⟨dst,.call f args,none⟩ :: r)) Q ρ s:=by
  simp only [Bool.and_eq_true] at hin
  obtain ⟨ρ',s',es',h1,h2⟩:=nM (dx P) l ρ s [] hin.1.1 h
  simp only [List.nil_append] at h2
  obtain ⟨hl,Fs,ss,a,b,c,d,hr⟩:=h1.SX
  refine GK hmix a b hr (by rw [← hl];exact oZ h2.1) ?_
  rw [c,d,kG hin.1.2]
  exact dI.mono h2.2 (fun v s' hq=>by
    rw [jF N ρ' dst v]
    exact jL (dx P) (fun ρ s hh=>⟨ρ,rfl,hh⟩) r _ s' hin.2 hq) fun ch s' hq=>⟨_,rfl,hq⟩
theorem Sat.weaken {c:Ctx} {s:St} {w:World} (h:Sat c s w) {b e i:Nat} {cs:List AV} {x y:AV} (hg:s.get b=some (.cells e cs false)) (hi:cs[i]? = some x) (hxy:∀ (c:Ctx) (u:Value),aD c x u → aD c y u) :
    ∃ c',Sat c' (s.put b (.cells e (cs.set i y) false)) w ∧ Ext c s w c' (s.put b (.cells e (cs.set i y) false)) w:=by
  obtain ⟨k,z,arr,el,fr,g1,g2,g3,g4,g5,g6,g7⟩:=h.block hg
  obtain ⟨u,a1,a2,a3⟩:=g6 i x hi
  obtain ⟨c2,r1,r2,_⟩:=h.inPlace (w':=w) hg g1 g2 (e':=e) (cs':=cs.set i y) (seen':=false) (arr':=arr) g3 (by simpa using g4) (fun j x' hx'=>by
    by_cases hij:i=j
    · subst hij
      rw [List.getElem?_set_self (by exact (List.getElem?_eq_some_iff.1 hi).1)] at hx'
      simp only [Option.some.injEq] at hx';subst hx'
      exact ⟨u,a1,a2,hxy _ _ a3⟩
    · rw [List.getElem?_set_ne hij] at hx'
      exact g6 j x' hx') (fun j u hu=>by rw [g7] at hu;simp at hu) (.inl rfl) (lT e) (by
      apply Array.ext (by simp)
      intro i h1 h2
      rw [Array.getElem_setIfInBounds]
      split
      · rename_i heq;subst heq
        rw [Array.getElem?_eq_getElem h1] at g2
        simpa using g2
      · rfl) (eG.refl w)
  exact ⟨c2,r1,r2⟩
theorem MN {P:Program} {N:Nat} {a:bL} {Q:bV} {ρ:Env} {s:St} {b e i:Nat} {cs:List AV} {x y:AV} (hg:s.get b=some (.cells e cs false)) (hi:cs[i]? = some x) (hxy:∀ (c:Ctx) (u:Value),aD c x u → aD c y u)
    (h:WX P N a Q ρ (s.put b (.cells e (cs.set i y) false))):WX P N a Q ρ s:=by
  intro code hc ro ds c w a hs hF hd
  obtain ⟨c',h1,h2⟩:=hs.weaken hg hi hxy
  exact wpIn_mono (h code hc ro ds c' w a h1 (aB.mono h2.le _ _ hF) hd) fun e a' w' hp=>rH hp fun hp=>hp.step h2
end Go.AX
