/- What a piece of code makes of abstract states: rules for sequences, branches, blocks, loops, regions, calls. -/
import Derived.Test.YtdeclhljkmlpiaaGreatAxB
import Derived.LoopN
import Derived.Orders
import Derived.Scope
import Derived.LoopNIn
import Derived.OrdersIn
import Derived.RangeFuncNested
set_option linter.unusedSimpArgs false
set_option linter.unusedVariables false
namespace Go.AX
open Go
def fw (ro:Option Nat):Fence:={ Fence.wide with round:=ro }
theorem En (ro:Option Nat) (n:Nat):(fw ro).room n:=room_wide n
theorem Q7 {ro:Option Nat} {n:Nat} {P:Program} {f:FuncId} {args:Array Value} {w:World} {R:Ending → World → Prop} (h:Calls P f args w R):CallsIn (fw ro) n P f args w R:=by
  cases ro with
  | none=>exact callsIn_wide.2 h
  | some l=>exact CallsIn.inRound l (callsIn_wide.2 h)
theorem jJ {P:Program} {ro:Option Nat} {o:Oper} {a:Act} {w w':World} {v:Value} {K:Act → World → Prop} {Qf:Exit → Act → World → Prop} (hrun:(execOp a.eval o).run P w=.ok (.value v) w') (hnd:∀ c,o.op ≠ .defer c) (h:K (a.put o.dst v) w'):o.wpIn (fw ro) 0 P a w K Qf:=
  ⟨fun _ _=>trivial,by rw [show (fw ro).round=ro from rfl,Oper.semAt_eq _ _ _ hnd,hrun];exact h⟩
theorem oL {P:Program} {ro:Option Nat} {o:Oper} {a:Act} {w w':World} {K:Act → World → Prop} {Qf:Exit → Act → World → Prop} (hrun:(execOp a.eval o).run P w=.ok .skip w') (hnd:∀ c,o.op ≠ .defer c) (h:K (a.put o.dst undef) w'):o.wpIn (fw ro) 0 P a w K Qf:=
  ⟨fun _ _=>trivial,by rw [show (fw ro).round=ro from rfl,Oper.semAt_eq _ _ _ hnd,hrun];exact h⟩
theorem mJ {P : Program} {ro : Option Nat} {o : Oper} {a : Act} {w w' : World} {f : FuncId} {args : Array Value} {K : Act → World → Prop} {Qf : Exit → Act → World → Prop} (hrun : (execOp a.eval o).run P w = .ok (.enter f args) w') (hnd : ∀ c, o.op ≠ .defer c)
    (h:Calls P f args w' fun
      | .returned v,w''=>K (a.put o.dst v) w''
      | .panicked chain,w''=>Qf (.panic chain) a w''
      | .outgrown,_=>LetsOut Qf):o.wpIn (fw ro) 0 P a w K Qf:=
  ⟨fun _ _=>trivial,by rw [show (fw ro).round=ro from rfl,Oper.semAt_eq _ _ _ hnd,hrun];exact ⟨fun h=>(by cases h),Q7 h⟩⟩
theorem rY {P:Program} {F:Fence} {n:Nat} {a:Act} {w:World} {Q:Exit → Act → World → Prop} {c:Code} (h:c.wpIn F n P (Exit.noGoto Q) a w):(Code.scope c).wpIn F n P Q a w:=by
  intro b k cs hro hb hr
  have h0:(lone (b.atR a (.code (.scope c) :: k)) cs w).fenced P F:=fenced_calm hb hr rfl
  have s0:step P (lone (b.atR a (.code (.scope c) :: k)) cs w)=.next (lone (b.atR a (.code c :: .inScope c :: k)) cs w):=step_lone_go (by simp [stepG,stepG.exec,Frame.atR])
  have s1:∀ a₁ w₁,step P (lone (b.atR a₁ (.inScope c :: k)) cs w₁)=.next (lone (b.atR a₁ k) cs w₁):=fun a₁ w₁=>step_lone_go (by simp [stepG,stepG.exec,Frame.atR])
  obtain ⟨e,a₁,w₁,hq,harr⟩:=h b (.inScope c :: k) cs hro hb hr
  cases e with
  | normal=>exact ⟨.normal,a₁,w₁,hq,.head h0 s0 (StepsIn.trans harr (.one (fenced_calm hb hr rfl) (s1 _ _)))⟩
  | exit id =>
    have hx:exitTo id (.inScope c :: k)=exitTo id k:=by simp [exitTo]
    exact ⟨.exit id,a₁,w₁,hq,fun k' hk=>.head h0 s0 (harr.1 k' (by rw [hx];exact hk)),
      fun hr' hk=>let ⟨k₁,h1,h2⟩:=harr.2 hr' (by rw [hx];exact hk);⟨k₁,h1,.head h0 s0 h2⟩⟩
  | goto l=>exact hq.elim
  | ret=>exact ⟨_,a₁,w₁,hq,.of_steps (.one h0 s0) harr⟩
  | panic ch=>exact ⟨_,a₁,w₁,hq,.of_steps (.one h0 s0) harr⟩
  | outgrown=>exact ⟨_,a₁,w₁,hq,.of_steps (.one h0 s0) harr⟩
def Post (ds:List Deferred) (c:Ctx) (s:St) (w:World) (Q:Exit → List AV → St → Prop) (e:Exit) (a':Act) (w':World):Prop:=
  a'.defers=ds ∧ ∃ c' F' s',aB c' F' a'.tmps.toList ∧ Sat c' s' w' ∧ Ext c s w c' s' w' ∧ Q e F' s'
theorem Post.step {ds:List Deferred} {c c1:Ctx} {s s1:St} {w w1:World} {Q:Exit → List AV → St → Prop} {e:Exit} {a':Act} {w':World} (h:Ext c s w c1 s1 w1) (hp:Post ds c1 s1 w1 Q e a' w'):Post ds c s w Q e a' w':=by
  obtain ⟨hd,c',F',s',h1,h2,h3,h4⟩:=hp
  exact ⟨hd,c',F',s',h1,h2,h.trans h3,h4⟩
theorem Post.mono {ds:List Deferred} {c:Ctx} {s:St} {w:World} {Q Q':Exit → List AV → St → Prop} {e:Exit} {a':Act} {w':World} (hp:Post ds c s w Q e a' w') (h:∀ F s,Q e F s → Q' e F s):Post ds c s w Q' e a' w':=by
  obtain ⟨hd,c',F',s',h1,h2,h3,h4⟩:=hp
  exact ⟨hd,c',F',s',h1,h2,h3,h _ _ h4⟩
def ZI (P:Program) (code:Code) (Q:Exit → List AV → St → Prop) (F:List AV) (s:St):Prop:=
  ∀ (ro:Option Nat) (ds:List Deferred) (c:Ctx) (w:World) (a:Act),Sat c s w → aB c F a.tmps.toList → a.defers=ds → code.wpIn (fw ro) 0 P (Exit.noGoto (Post ds c s w Q)) a w
theorem rH {Q Q':Exit → Act → World → Prop} {e:Exit} {a:Act} {w:World} (h:Exit.noGoto Q e a w) (hq:Q e a w → Q' e a w):Exit.noGoto Q' e a w:=by
  cases e <;> first | exact h | exact hq h
theorem gX {Q:Exit → Act → World → Prop} {e:Exit} {a:Act} {w:World} (h:Exit.noGoto Q e a w):Q e a w ∧ ∀ l,e ≠ .goto l:=by
  cases e <;> first | exact h.elim | exact ⟨h,by simp⟩
def iO:Code → Bool
  | .scope _=>true
  | _=>false
def q8 (P:Program) (ac:bL) (Q:Exit → List AV → St → Prop) (F:List AV) (s:St):Prop:=
  ∀ code,aP P code=some ac → ZI P code Q F s
def jA (P : Program) (f : FuncId) : Prop := ∃ fn, P.funcs[f]? = some fn ∧ fn.body.isSome = true ∧ (fn.name == "runtime.NumGoroutine") = false
theorem kN {P:Program} {ac:bL} {Q:Exit → List AV → St → Prop} {F:List AV} {s:St} (h:∀ code,iO code=false → aP P code=some ac → ZI P code Q F s):q8 P ac Q F s:=by
  intro code
  induction code with
  | scope x ih =>
    intro hc ro ds c w a hs hF hd
    simp only [aP] at hc
    exact rY (wpIn_mono (ih hc ro ds c w a hs hF hd) fun e a' w' hp=>by cases e <;> exact hp)
  | _=>exact h _ rfl
def aF (P:Program) (f:FuncId) (args:List AV) (s:St) (R:AV → St → Prop):Prop:=
  jA P f ∧ ∀ (c:Ctx) (w:World) (vs:List Value),Sat c s w → aB c args vs →
    Calls P f vs.toArray w fun e w'=>∃ v u c' s',e=.returned u ∧ aD c' v u ∧ Sat c' s' w' ∧ Ext c s w c' s' w' ∧ R v s'
theorem aF.mono {P:Program} {f:FuncId} {args:List AV} {s:St} {R R':AV → St → Prop} (h:aF P f args s R) (hr:∀ v s,R v s → R' v s):aF P f args s R':=
  ⟨h.1,fun c w vs hs hv=>(h.2 c w vs hs hv).mono fun e w' ⟨v,u,c',s',h1,h2,h3,h4,h5⟩=>⟨v,u,c',s',h1,h2,h3,h4,hr _ _ h5⟩⟩
def pI (P:Program) (l:Nat) (args:List AV) (s:St) (R:AV → St → Prop):Prop:=
  ∀ (ro : Option Nat) (c : Ctx) (w : World) (vs : List Value), Sat c s w → aB c args vs →
    ∃ fn tmps assign body, (Instr.yield l vs.toArray).run P w = .ok (.round l fn tmps assign body) w ∧
      RoundIn (fw ro) 0 P l fn tmps assign body w fun e w'=>∃ v u c' s',e=.returned u ∧ aD c' v u ∧ Sat c' s' w' ∧ Ext c s w c' s' w' ∧ R v s'
theorem pI.mono {P:Program} {l:Nat} {args:List AV} {s:St} {R R':AV → St → Prop} (h:pI P l args s R) (hr:∀ v s,R v s → R' v s):pI P l args s R':=
  fun ro c w vs hs hv=>by
    obtain ⟨fn,tmps,as,bd,h1,h2⟩:=h ro c w vs hs hv
    exact ⟨fn,tmps,as,bd,h1,h2.mono fun e w' ⟨v,u,c',s',g1,g2,g3,g4,g5⟩=>⟨v,u,c',s',g1,g2,g3,g4,hr _ _ g5⟩⟩
theorem zG {P : Program} {ro : Option Nat} {o : Oper} {a : Act} {w w' : World} {l : Nat} {f : FuncId} {tmps : Array Value} {as bd : Code} {K : Act → World → Prop} {Qf : Exit → Act → World → Prop} (hrun : (execOp a.eval o).run P w = .ok (.round l f tmps as bd) w') (hnd : ∀ c, o.op ≠ .defer c)
    (h:RoundIn (fw ro) 0 P l f tmps as bd w' fun
      | .returned v,w''=>K (a.put o.dst v) w''
      | .panicked chain,w''=>Qf (.panic chain) a w''
      | .outgrown,_=>LetsOut Qf):o.wpIn (fw ro) 0 P a w K Qf:=
  ⟨fun _ _=>trivial,by rw [show (fw ro).round=ro from rfl,Oper.semAt_eq _ _ _ hnd,hrun];exact ⟨fun h=>(by cases h),h⟩⟩
section
variable {P:Program} {Q:Exit → List AV → St → Prop} {F:List AV} {s:St}
theorem Dx (M:List Nat) (l:List aJ):Ec M l=.draw M l ∨ ∃ k,Ec M l=.drawT M (l.take k) (l.drop k) ∧ qb M k l.length=true ∧ k ≤ l.length:=by
  unfold Ec
  split
  · exact .inl rfl
  · rename_i k hk
    split
    · rename_i h
      refine .inr ⟨k,rfl,h,?_⟩
      unfold V9 at hk
      simp only [Option.map_eq_some_iff] at hk
      obtain ⟨j,_,rfl⟩:=hk
      omega
    · exact .inl rfl
theorem dz {id:Nat} {ops:Array Oper} {draw:Bool} {ac:bL} (hc:aP P (.region id ops draw)=some ac) :
    (∃ l,ac=.region l ∧ dM P ops ops.toList=some l ∧ draw=false) ∨ (∃ l,ac=.draw (dZ ops.toList []) l ∧ dM P ops ops.toList=some l ∧ draw=true ∧ tJ (dZ ops.toList []) l 0 l=true) ∨
    (∃ l k,ac=.drawT (dZ ops.toList []) (l.take k) (l.drop k) ∧ dM P ops ops.toList=some l ∧ draw=true ∧ tJ (dZ ops.toList []) l 0 l=true ∧ qb (dZ ops.toList []) k l.length=true ∧ k ≤ l.length):=by
  simp only [aP] at hc
  split at hc
  · rename_i l h1
    split at hc
    · rename_i hd
      split at hc
      · rename_i hok
        simp only [Option.some.injEq] at hc
        rcases Dx (dZ ops.toList []) l with h | ⟨k,h,h2,h3⟩
        · rw [h] at hc;exact .inr (.inl ⟨l,hc.symm,h1,hd,hok⟩)
        · rw [h] at hc;exact .inr (.inr ⟨l,k,hc.symm,h1,hd,hok,h2,h3⟩)
      · simp at hc
    · rename_i hd;simp at hc;exact .inl ⟨l,hc.symm,h1,by simpa using hd⟩
  · simp at hc
theorem zC (h:Q .normal F s):q8 P .skip Q F s:=by
  refine kN fun code hns hc ro ds c w a hs hF hd=>?_
  have hp:Exit.noGoto (Post ds c s w Q) .normal a w:=⟨hd,c,F,s,hF,hs,Ext.refl _ _ _,h⟩
  cases code with
  | skip=>exact wpIn_skip hp
  | label l=>exact wpIn_label hp
  | region id ops draw=>rcases dz hc with ⟨_,h0,_⟩ | ⟨_,h0,_⟩ | ⟨_,_,h0,_⟩ <;> cases h0
  | rangeFunc f ps x y=>simp only [aP] at hc;split at hc <;> simp at hc
  | seq x y=>simp only [aP] at hc;split at hc <;> simp at hc
  | cond x y z=>simp only [aP] at hc;split at hc <;> simp at hc
  | block id x=>simp [aP] at hc
  | loop x=>simp [aP] at hc
  | scope x=>simp [iO] at hns
  | _=>simp [aP] at hc
def QN (K:List AV → St → Prop) (Q:Exit → List AV → St → Prop):Exit → List AV → St → Prop
  | .normal,F,s=>K F s
  | e,F,s=>Q e F s
theorem DW {x y:bL} (h:q8 P x (QN (q8 P y Q) Q) F s):q8 P (.seq x y) Q F s:=by
  refine kN fun code hns hc ro ds c w a hs hF hd=>?_
  cases code with
  | seq cx cy =>
    simp only [aP] at hc
    split at hc
    · rename_i x' y' hx hy
      simp at hc;obtain ⟨rfl,rfl⟩:=hc
      refine wpIn_seq (wpIn_mono (h cx hx ro ds c w a hs hF hd) fun e a' w' hp=>?_)
      cases e with
      | normal =>
        obtain ⟨hd',c',F',s',h1,h2,h3,h4⟩:=hp
        simp only [QN] at h4
        exact wpIn_mono (h4 cy hy ro ds c' w' a' h2 h1 hd') fun e a2 w2 hp2=>rH hp2 fun hp2=>hp2.step h3
      | goto l=>exact hp.elim
      | _=>obtain ⟨hd',c',F',s',h1,h2,h3,h4⟩:=hp;exact ⟨hd',c',F',s',h1,h2,h3,h4⟩
    · simp at hc
  | region id ops draw=>rcases dz hc with ⟨_,h0,_⟩ | ⟨_,h0,_⟩ | ⟨_,_,h0,_⟩ <;> cases h0
  | rangeFunc f ps x y=>simp only [aP] at hc;split at hc <;> simp at hc
  | cond x y z=>simp only [aP] at hc;split at hc <;> simp at hc
  | block id x=>simp [aP] at hc
  | loop x=>simp [aP] at hc
  | scope x=>simp [iO] at hns
  | _=>simp [aP] at hc
theorem A9 {cnd:AO} {x y:bL} {t:Bool} (hcnd:cnd.ev F=.bool t) (h:q8 P (if t then x else y) Q F s):q8 P (.cond cnd x y) Q F s:=by
  refine kN fun code hns hc ro ds c w a hs hF hd=>?_
  cases code with
  | cond cc cx cy =>
    simp only [aP] at hc
    split at hc
    · rename_i c' x' y' h1 hx hy
      simp at hc;obtain ⟨rfl,rfl,rfl⟩:=hc
      have hr:=gu hF cc c' h1
      rw [hcnd] at hr
      simp only [aD] at hr
      refine wpIn_cond hr ?_
      cases t
      · exact h cy hy ro ds c w a hs hF hd
      · exact h cx hx ro ds c w a hs hF hd
    · simp at hc
  | region id ops draw=>rcases dz hc with ⟨_,h0,_⟩ | ⟨_,h0,_⟩ | ⟨_,_,h0,_⟩ <;> cases h0
  | rangeFunc f ps x y=>simp only [aP] at hc;split at hc <;> simp at hc
  | seq x y=>simp only [aP] at hc;split at hc <;> simp at hc
  | block id x=>simp [aP] at hc
  | loop x=>simp [aP] at hc
  | scope x=>simp [iO] at hns
  | _=>simp [aP] at hc
def wh (id:Nat) (Q:Exit → List AV → St → Prop):Exit → List AV → St → Prop
  | .exit i,F,s=>if i=id then Q .normal F s else Q (.exit i) F s
  | e,F,s=>Q e F s
theorem vH {id:Nat} {x:bL} (h:q8 P x (wh id Q) F s):q8 P (.block id x) Q F s:=by
  refine kN fun code hns hc ro ds c w a hs hF hd=>?_
  cases code with
  | block i cx =>
    obtain ⟨x',h1,h2⟩:=omap (by simpa only [aP] using hc)
    simp at h2;obtain ⟨rfl,rfl⟩:=h2
    refine wpIn_block (wpIn_mono (h cx h1 ro ds c w a hs hF hd) fun e a' w' hp=>?_)
    cases e with
    | exit j =>
      obtain ⟨hd',c',F',s',h1,h2,h3,h4⟩:=hp
      simp only [Exit.inBlock,wh] at h4 ⊢
      split
      · rename_i hj;rw [if_pos hj] at h4;exact ⟨hd',c',F',s',h1,h2,h3,h4⟩
      · rename_i hj;rw [if_neg hj] at h4;exact ⟨hd',c',F',s',h1,h2,h3,h4⟩
    | goto l=>exact hp.elim
    | _=>obtain ⟨hd',c',F',s',h1,h2,h3,h4⟩:=hp;exact ⟨hd',c',F',s',h1,h2,h3,h4⟩
  | region id ops draw=>rcases dz hc with ⟨_,h0,_⟩ | ⟨_,h0,_⟩ | ⟨_,_,h0,_⟩ <;> cases h0
  | rangeFunc f ps x y=>simp only [aP] at hc;split at hc <;> simp at hc
  | seq x y=>simp only [aP] at hc;split at hc <;> simp at hc
  | cond x y z=>simp only [aP] at hc;split at hc <;> simp at hc
  | loop x=>simp [aP] at hc
  | scope x=>simp [iO] at hns
  | _=>simp [aP] at hc
def LoopN (P:Program) (b:bL) (Q:Exit → List AV → St → Prop):Nat → List AV → St → Prop
  | 0,_,_=>False
  | n + 1,F,s=>q8 P b (QN (LoopN P b Q n) Q) F s
theorem yS {x:bL} (n:Nat) (h:LoopN P x Q n F s):q8 P (.loop x) Q F s:=by
  refine kN fun code hns hc ro ds c w a hs hF hd=>?_
  cases code with
  | loop cx =>
    obtain ⟨x',h1,h2⟩:=omap (by simpa only [aP] using hc)
    simp at h2;subst h2
    refine wpIn_loop_rounds n ?_
    have key:∀ (n:Nat) (F:List AV) (s1:St) (c1:Ctx) (w1:World) (a1:Act),LoopN P x' Q n F s1 → Sat c1 s1 w1 → aB c1 F a1.tmps.toList → a1.defers=ds → Ext c s w c1 s1 w1 → Code.roundsIn (fw ro) 0 P cx (Exit.noGoto (Post ds c s w Q)) n a1 w1:=by
      intro n
      induction n with
      | zero=>intro F s1 c1 w1 a1 hl;exact hl.elim
      | succ n ih =>
        intro F s1 c1 w1 a1 hl hs1 hF1 hd1 hx
        rw [roundsIn_succ]
        refine wpIn_mono (hl cx h1 ro ds c1 w1 a1 hs1 hF1 hd1) fun e a' w' hp=>?_
        cases e with
        | normal=>obtain ⟨hd',c',F',s',g1,g2,g3,g4⟩:=hp;exact ih F' s' c' w' a' g4 g2 g1 hd' (hx.trans g3)
        | goto l=>exact hp.elim
        | _=>obtain ⟨hd',c',F',s',g1,g2,g3,g4⟩:=hp;exact ⟨hd',c',F',s',g1,g2,hx.trans g3,g4⟩
    exact key n F s c w a h hs hF hd (Ext.refl _ _ _)
  | region id ops draw=>rcases dz hc with ⟨_,h0,_⟩ | ⟨_,h0,_⟩ | ⟨_,_,h0,_⟩ <;> cases h0
  | rangeFunc f ps x y=>simp only [aP] at hc;split at hc <;> simp at hc
  | seq x y=>simp only [aP] at hc;split at hc <;> simp at hc
  | cond x y z=>simp only [aP] at hc;split at hc <;> simp at hc
  | block id x=>simp [aP] at hc
  | scope x=>simp [iO] at hns
  | _=>simp [aP] at hc
theorem zQ {id:Nat} (h:Q (.exit id) F s):q8 P (.exit id) Q F s:=by
  refine kN fun code hns hc ro ds c w a hs hF hd=>?_
  cases code with
  | exit i=>simp [aP] at hc;subst hc;exact wpIn_exit ⟨hd,c,F,s,hF,hs,Ext.refl _ _ _,h⟩
  | region id ops draw=>rcases dz hc with ⟨_,h0,_⟩ | ⟨_,h0,_⟩ | ⟨_,_,h0,_⟩ <;> cases h0
  | rangeFunc f ps x y=>simp only [aP] at hc;split at hc <;> simp at hc
  | seq x y=>simp only [aP] at hc;split at hc <;> simp at hc
  | cond x y z=>simp only [aP] at hc;split at hc <;> simp at hc
  | block id x=>simp [aP] at hc
  | loop x=>simp [aP] at hc
  | scope x=>simp [iO] at hns
  | _=>simp [aP] at hc
theorem Fa (h:Q .ret F s):q8 P .ret Q F s:=by
  refine kN fun code hns hc ro ds c w a hs hF hd=>?_
  cases code with
  | ret=>exact wpIn_ret ⟨hd,c,F,s,hF,hs,Ext.refl _ _ _,h⟩
  | region id ops draw=>rcases dz hc with ⟨_,h0,_⟩ | ⟨_,h0,_⟩ | ⟨_,_,h0,_⟩ <;> cases h0
  | rangeFunc f ps x y=>simp only [aP] at hc;split at hc <;> simp at hc
  | seq x y=>simp only [aP] at hc;split at hc <;> simp at hc
  | cond x y z=>simp only [aP] at hc;split at hc <;> simp at hc
  | block id x=>simp [aP] at hc
  | loop x=>simp [aP] at hc
  | scope x=>simp [iO] at hns
  | _=>simp [aP] at hc
def fQ (F:List AV) (d:Option Nat) (v:AV):List AV:=
  match d with
  | some d=>F.set d v
  | none=>F
def gd (F:List AV):Option (Option Nat × Bool) → Option Bool
  | none=>some true
  | some (none,_)=>some false
  | some (some t, want) => match F[t]? with
    | none=>some false
    | some (.bool b)=>some (b == want)
    | some .any=>none
    | some _=>some false
def dP (F:List AV):jy → Option (Nat × List AV)
  | .call f args=>some (f,args.map (AO.ev F))
  | .callv f args => match f.ev F with
    | .fn (.func g) first cap=>some (g,first ++ args.map (AO.ev F) ++ cap)
    | _=>none
  | .inv kg r args => match invK kg (r.ev F) with
    | some (g,v)=>some (g,v :: args.map (AO.ev F))
    | none=>none
  | _=>none
def yieldOf (F:List AV):jy → Option (Nat × List AV)
  | .callv f args => match f.ev F with
    | .fn (.yield l) [] []=>some (l,args.map (AO.ev F))
    | _=>none
  | _=>none
def dW:jy → Bool
  | .call _ _ | .callv _ _ | .inv _ _ _=>true
  | _=>false
def gH (P:Program) (Q:List AV → St → Prop):List aJ → List AV → St → Prop
  | [],F,s=>Q F s
  | o :: r, F, s => match gd F o.guard with
    | none=>False
    | some false=>gH P Q r (fQ F o.dst (.tup [])) s
    | some true =>
      if dW o.op then
        match dP F o.op with
        | some (f,args)=>aF P f args s fun v s'=>gH P Q r (fQ F o.dst v) s'
        | none => match yieldOf F o.op with
          | some (l,args)=>pI P l args s fun v s'=>gH P Q r (fQ F o.dst v) s'
          | none=>False
      else
        match bn o.op F s.get s.next with
        | some (v,ps,qs)=>gH P Q r (fQ F o.dst v) (s.apply ps qs)
        | none=>wJ o.op F=true ∧ ∀ b,gH P Q r (fQ F o.dst (.bool b)) s
theorem dQ {c:Ctx} {F:List AV} {a:Act} {d:Option Nat} {v:AV} {u:Value} (h:aB c F a.tmps.toList) (hv:aD c v u):aB c (fQ F d v) (a.put d u).tmps.toList:=by
  cases d with
  | none=>simpa [fQ,Act.put] using h
  | some d=>simp only [fQ,Act.put,Array.toList_setIfInBounds];exact h.set d hv
theorem put_defers (a:Act) (d:Option Nat) (u:Value):(a.put d u).defers=a.defers:=by cases d <;> rfl
theorem qY {c:Ctx} {F:List AV} {a:Act} {ops:Array Oper} {o:Oper} {b:Bool} (h:aB c F a.tmps.toList) (hg:gd F (o.guard.map fun g=>((ops[g.1]?).bind (·.dst),g.2))=some b) :
    Region.wanted o (yielded ops a.tmps)=b:=by
  cases hgd:o.guard with
  | none=>rw [hgd] at hg;simp [gd] at hg;subst hg;simp [Region.wanted,hgd]
  | some g =>
    obtain ⟨j,want⟩:=g
    rw [hgd] at hg
    simp only [Option.map_some] at hg
    simp only [Region.wanted,hgd,yielded]
    cases hd:(ops[j]?).bind (·.dst) with
    | none=>rw [hd] at hg;simp [gd] at hg;subst hg;simp
    | some t =>
      rw [hd] at hg
      simp only [gd] at hg
      simp only [Option.bind_some]
      split at hg
      · rename_i hF
        simp at hg;subst hg
        have:a.tmps[t]? = none:=by
          have hl:=h.length
          have:F.length ≤ t:=by rw [List.getElem?_eq_none_iff] at hF;exact hF
          apply Array.getElem?_eq_none
          simp at hl;omega
        rw [this];simp
      · rename_i b' hF
        simp at hg;subst hg
        obtain ⟨u,hu,hr⟩:=h.get t _ hF
        simp only [aD] at hr
        have:a.tmps[t]? = some (.bool b'):=by rw [← hr];simpa using hu
        rw [this];rfl
      · simp at hg
      · rename_i x hnb hna hF
        simp at hg;subst hg
        obtain ⟨u,hu,hr⟩:=h.get t _ hF
        have hu':a.tmps[t]? = some u:=by simpa using hu
        rw [hu']
        cases x <;> simp only [aD] at hr <;> (try (exact absurd rfl (hnb _))) <;> (try (exact absurd rfl hna))
        case ps=>rcases hr with ⟨_,_,_,_,rfl⟩ | ⟨_,_,_,rfl,_⟩ <;> rfl
        all_goals first
          | (subst hr;rfl)
          | (obtain ⟨_,rfl,_⟩:=hr;rfl)
          | (obtain ⟨_,_,_,rfl⟩:=hr;rfl)
          | (obtain ⟨_,_,rfl,_⟩:=hr;rfl)
          | (obtain ⟨_,_,_,_,rfl,_⟩:=hr;rfl)
theorem oV {f:FuncId} (h:jA P f) (args:Array Value) (w:World):(callFunc f args).run P w=.ok (.enter f args) w:=by
  obtain ⟨fn,h1,h2,h3⟩:=h
  have h4:fn.body.isNone=false:=by cases hb:fn.body <;> simp_all
  simp only [callFunc,Sem.run_bind,run_program,Result.andThen_ok,h1,h3,h4,Bool.false_eq_true,if_false,Sem.run_pure]
theorem mR {x:Op} {op:jy} (h:(fu P x).getD .bad=op) (hb:op ≠ .bad):fu P x=some op:=by
  cases hc:fu P x with
  | none=>rw [hc] at h;exact (hb h.symm).elim
  | some y=>rw [hc] at h;simp at h;rw [h]
theorem Oy {op:Op} {f:Nat} {args:List AO} (h:fu P op=some (.call f args)):∃ cl,op=.call cl ∧ cl.callee=.value (.func f) ∧ KE cl.args.toList=some args:=by
  cases op <;> simp only [fu] at h
  case call cl=>
    refine ⟨cl,rfl,?_⟩
    split at h
    · rename_i g hg
      split at h
      · rename_i xs hxs
        split at h
        · split at h <;> simp at h
        · simp at h;obtain ⟨rfl,rfl⟩:=h
          exact ⟨hg,hxs⟩
      · simp at h
    · exfalso
      split at h <;> simp at h
    all_goals
      exfalso
      repeat' (split at h)
      all_goals first | (simp at h;done) | (obtain ⟨_,_,h2⟩:=omap h;simp at h2)
  case next x b=>cases b <;> simp [fu] at h
  case makeMap t r=>cases r <;> simp [fu] at h
  case typeAssert x t u ok=>
    cases ok
    · simp [fu] at h
    · simp only [fu] at h;split at h <;> simp at h
  all_goals
    exfalso
    repeat' (split at h)
    all_goals first | (simp at h;done) | (obtain ⟨_,_,h2⟩:=omap h;simp at h2)
theorem Di {op:Op} {f:AO} {args:List AO} (h:fu P op=some (.callv f args)):∃ cl x,op=.call cl ∧ cl.callee=.value x ∧ cO x=some f ∧ KE cl.args.toList=some args:=by
  cases op <;> simp only [fu] at h
  case call cl=>
    split at h
    · exfalso
      split at h
      · split at h
        · split at h <;> simp at h
        · simp at h
      · simp at h
    · rename_i x hx
      split at h
      · rename_i h1 h2;simp at h;obtain ⟨rfl,rfl⟩:=h;exact ⟨cl,_,rfl,by assumption,h1,h2⟩
      · simp at h
    all_goals
      exfalso
      repeat' (split at h)
      all_goals first | (simp at h;done) | (obtain ⟨_,_,h2⟩:=omap h;simp at h2)
  case next x b=>cases b <;> simp [fu] at h
  case makeMap t r=>cases r <;> simp [fu] at h
  case typeAssert x t u ok=>
    cases ok
    · simp [fu] at h
    · simp only [fu] at h;split at h <;> simp at h
  all_goals
    exfalso
    repeat' (split at h)
    all_goals first | (simp at h;done) | (obtain ⟨_,_,h2⟩:=omap h;simp at h2)
theorem SC {op:Op} {kg:List (Nat × Nat)} {f:AO} {args:List AO} (h:fu P op=some (.inv kg f args)):∃ cl x name,op=.call cl ∧ cl.callee=.invoke x name ∧ kg=Vj P name ∧ cO x=some f ∧ KE cl.args.toList=some args:=by
  cases op <;> simp only [fu] at h
  case call cl=>
    split at h
    · exfalso
      split at h
      · split at h
        · split at h <;> simp at h
        · simp at h
      · simp at h
    · exfalso
      split at h <;> simp at h
    · rename_i x name hx
      split at h
      · rename_i h1 h2;simp at h;obtain ⟨rfl,rfl,rfl⟩:=h;exact ⟨cl,_,_,rfl,hx,rfl,h1,h2⟩
      · simp at h
    all_goals
      exfalso
      repeat' (split at h)
      all_goals first | (simp at h;done) | (obtain ⟨_,_,h2⟩:=omap h;simp at h2)
  case next x b=>cases b <;> simp [fu] at h
  case makeMap t r=>cases r <;> simp [fu] at h
  case typeAssert x t u ok=>
    cases ok
    · simp [fu] at h
    · simp only [fu] at h;split at h <;> simp at h
  all_goals
    exfalso
    repeat' (split at h)
    all_goals first | (simp at h;done) | (obtain ⟨_,_,h2⟩:=omap h;simp at h2)
theorem Dc:∀ (l:List (Nat × Nat)) (t f:Nat),uT l t=some f → (t,f) ∈ l
  | [],_,_,h=>by simp [uT] at h
  | (a, b) :: r, t, f, h => by
    simp only [uT] at h
    split at h
    · rename_i e;subst e;simp only [Option.some.injEq] at h;subst h;simp
    · exact List.mem_cons_of_mem _ (Dc r t f h)
theorem JO {w:World} {name:String} {t f:Nat} {v:Value} (h:(t,f) ∈ Vj P name) (n:Nat):(method (n + 1) t v name).run P w=.ok (f,v) w:=by
  simp only [Vj,List.mem_filterMap,Option.map_eq_some_iff] at h
  obtain ⟨t',_,f',h1,h2⟩:=h
  cases h2
  unfold YA at h1
  split at h1
  · rename_i i e hi hu
    split at h1
    · rename_i m hm
      split at h1
      · rename_i hp
        split at h1
        · rename_i g hg
          simp only [Option.some.injEq] at h1
          subst h1
          have e1:(typeInfo t).run P w=.ok i w:=by simp [typeInfo,hi]
          have hp':m.path.toList=[]:=by simpa [Array.isEmpty,Array.size_eq_zero_iff] using hp
          simp [method,e1,hm,hp',follow,hg,receiverAt,run_underlying hu,Place.get]
        · simp at h1
      · simp at h1
    · simp at h1
  · simp at h1
theorem rA {c:Ctx} {a:Act} {w:World} {o:Oper} {ao:jy} {f:Nat} {args:List AV} (hF:aB c F a.tmps.toList) (hc:fu P o.op=some ao) (hcall:dP F ao=some (f,args)) (hf:jA P f) :
    ∃ vs:List Value,aB c args vs ∧ (execOp a.eval o).run P w=.ok (.enter f vs.toArray) w:=by
  have hρ:=gu hF
  unfold dP at hcall
  split at hcall
  · rename_i g as
    simp at hcall;obtain ⟨rfl,rfl⟩:=hcall
    obtain ⟨cl,h1,h2,h3⟩:=Oy hc
    refine ⟨cl.args.toList.map a.eval,jw hρ h3,?_⟩
    have e:(List.map a.eval cl.args.toList).toArray=cl.args.map a.eval:=by apply Array.ext';simp
    rw [e]
    simp [execOp,h1,resolve,h2,Act.eval,Deferred.ofValue,invoke,oV hf]
  · rename_i fo as
    split at hcall
    · rename_i g first cap hev
      simp at hcall;obtain ⟨rfl,rfl⟩:=hcall
      obtain ⟨cl,x,h1,h2,h3,h4⟩:=Di hc
      have hx:=hρ x fo h3
      rw [hev] at hx
      simp only [aD] at hx
      obtain ⟨us,ws,e1,r1,r2⟩:=hx
      refine ⟨us ++ cl.args.toList.map a.eval ++ ws,by simpa using (r1.append (jw hρ h4)).append r2,?_⟩
      have e:(us ++ List.map a.eval cl.args.toList ++ ws).toArray=us.toArray ++ cl.args.map a.eval ++ ws.toArray:=by apply Array.ext';simp
      rw [e]
      simp [execOp,h1,resolve,h2,e1,Deferred.ofValue,invoke,oV hf]
    · simp at hcall
  · rename_i kg ro as
    split at hcall
    · rename_i g v hev
      simp at hcall;obtain ⟨rfl,rfl⟩:=hcall
      obtain ⟨cl,x,name,h1,h2,rfl,h3,h4⟩:=SC hc
      have hx:=hρ x ro h3
      unfold invK at hev
      split at hev
      · rename_i t v' hr
        split at hev
        · rename_i f' hl
          simp only [Option.some.injEq,Prod.mk.injEq] at hev
          obtain ⟨rfl,rfl⟩:=hev
          rw [hr] at hx
          simp only [aD] at hx
          obtain ⟨u,e1,r1⟩:=hx
          refine ⟨u :: cl.args.toList.map a.eval,⟨u,_,rfl,r1,jw hρ h4⟩,?_⟩
          have e:(u :: List.map a.eval cl.args.toList).toArray = #[u] ++ cl.args.map a.eval:=by apply Array.ext';simp
          have hm:=JO (w:=w) (v:=u) (Dc _ _ _ hl) (P.types.size + (Made.depth - 1))
          have hd:P.types.size + (Made.depth - 1) + 1=P.types.size + Made.depth:=by simp [Made.depth]
          rw [hd] at hm
          rw [e]
          have q0:(#[Value.iface t u] ++ cl.args.map a.eval)[0]? = some (.iface t u):=by
            rw [Array.getElem?_append_left (by simp)];rfl
          have q1:(#[Value.iface t u] ++ cl.args.map a.eval).extract 1 (#[Value.iface t u] ++ cl.args.map a.eval).size=cl.args.map a.eval:=by
            apply Array.ext';simp;rw [List.take_of_length_le (by simp)]
          simp only [execOp,h1,resolve,h2,invoke,Sem.run_bind,Sem.run_pure,Result.andThen_ok]
          rw [show (#[a.eval x] ++ Array.map a.eval cl.args) = #[Value.iface t u] ++ Array.map a.eval cl.args by rw [e1]]
          simp only [q0,q1,callMethod,Sem.run_bind,run_program,Result.andThen_ok,hm,oV hf]
        · simp at hev
      · simp at hev
    · simp at hcall
  · simp at hcall
theorem zD {c:Ctx} {a:Act} {w:World} {o:Oper} {ao:jy} {l:Nat} {args:List AV} (hF:aB c F a.tmps.toList) (hc:fu P o.op=some ao) (hcall:yieldOf F ao=some (l,args)) :
    ∃ vs:List Value,aB c args vs ∧ ∀ x w',(Instr.yield l vs.toArray).run P w=.ok x w' → (execOp a.eval o).run P w=.ok x w':=by
  have hρ:=gu hF
  unfold yieldOf at hcall
  split at hcall
  · rename_i fo as
    split at hcall
    · rename_i l' hev
      simp at hcall;obtain ⟨rfl,rfl⟩:=hcall
      obtain ⟨cl,x,h1,h2,h3,h4⟩:=Di hc
      have hx:=hρ x fo h3
      rw [hev] at hx
      simp only [aD,aB] at hx
      obtain ⟨us,ws,e1,rfl,rfl⟩:=hx
      refine ⟨cl.args.toList.map a.eval,jw hρ h4,fun x' w' hr=>?_⟩
      have e:(List.map a.eval cl.args.toList).toArray=cl.args.map a.eval:=by apply Array.ext';simp
      rw [e] at hr
      simp [execOp,h1,resolve,h2,e1,Deferred.ofValue,invoke,hr]
    · simp at hcall
  · simp at hcall
theorem dn {ops:Array Oper} {Q:Exit → List AV → St → Prop}:∀ (l:List Oper) (k:Nat) (al:List aJ),(∀ j,l[j]? = ops[k + j]?) → dM P ops l=some al → ∀ (F:List AV) (s:St),gH P (Q .normal) al F s →
    ∀ (ro:Option Nat) (ds:List Deferred) (c0:Ctx) (s0:St) (w0:World) (c:Ctx) (w:World) (a:Act),Ext c0 s0 w0 c s w → Sat c s w → aB c F a.tmps.toList → a.defers=ds → wpOpsIn (fw ro) 0 P ops (Exit.noGoto (Post ds c0 s0 w0 Q)) (List.range' k l.length) a w
  | [], k, al, hk, hal, F, s, hq, ro, ds, c0, s0, w0, c, w, a, hx, hs, hF, hd => by
    simp [dM] at hal;subst hal
    simp only [List.length_nil,List.range'_zero,wpOpsIn]
    exact ⟨hd,c,F,s,hF,hs,hx,hq⟩
  | o :: l, k, al, hk, hal, F, s, hq, ro, ds, c0, s0, w0, c, w, a, hx, hs, hF, hd => by
    simp only [dM] at hal
    split at hal
    · rename_i ao r h1 h2
      simp at hal;subst hal
      have ho:ops[k]? = some o:=by have:=hk 0;simpa using this.symm
      have hk':∀ j,l[j]? = ops[k + 1 + j]?:=fun j=>by have:=hk (j + 1);simpa [Nat.add_assoc,Nat.add_comm 1 j] using this
      simp only [List.length_cons,List.range'_succ,wpOpsIn,ho]
      simp only [sH,Option.some.injEq] at h1
      subst h1
      simp only [gH] at hq
      split at hq
      · exact hq.elim
      · rename_i hg
        have hw:=qY hF hg
        simp only [hw,Bool.false_eq_true,if_false]
        refine ⟨fun _ _=>trivial,?_⟩
        exact dn l (k + 1) r hk' h2 _ s hq ro ds c0 s0 w0 c w _ hx hs (dQ hF (by simp [aD,undef,aB])) (by rw [put_defers];exact hd)
      · rename_i hg
        have hw:=qY hF hg
        simp only [hw,if_true]
        generalize hop':(fu P o.op).getD .bad=op at hq
        split at hq
        · rename_i hcall
          have hop:=mR hop' (by rintro rfl;simp [dW] at hcall)
          split at hq
          · rename_i f args hco
            obtain ⟨vs,hvs,hrun⟩:=rA (w:=w) hF hop hco hq.1
            refine mJ hrun (fun cl hcl=>by rw [hcl] at hop;simp [fu] at hop) ?_
            refine (hq.2 c w vs hs hvs).mono fun e w' hp=>?_
            obtain ⟨v,u,c',s',rfl,g1,g2,g3,g4⟩:=hp
            simp only
            exact dn l (k + 1) r hk' h2 _ s' g4 ro ds c0 s0 w0 c' w' _ (hx.trans g3) g2 (dQ (aB.mono g3.le _ _ hF) g1) (by rw [put_defers];exact hd)
          · split at hq
            · rename_i lp args hyo
              obtain ⟨vs,hvs,hrun⟩:=zD (w:=w) hF hop hyo
              obtain ⟨fn,tm,as,bd,hy,hR⟩:=hq ro c w vs hs hvs
              refine zG (hrun _ _ hy) (fun cl hcl=>by rw [hcl] at hop;simp [fu] at hop) ?_
              refine hR.mono fun e w' hp=>?_
              obtain ⟨v,u,c',s',rfl,g1,g2,g3,g4⟩:=hp
              simp only
              exact dn l (k + 1) r hk' h2 _ s' g4 ro ds c0 s0 w0 c' w' _ (hx.trans g3) g2 (dQ (aB.mono g3.le _ _ hF) g1) (by rw [put_defers];exact hd)
            · exact hq.elim
        · split at hq
          · rename_i v ps qs hv
            have hop:=mR hop' (by rintro rfl;simp [bn] at hv)
            obtain ⟨c',w',u,hrun,g1,g2,g3⟩:=vG (P:=P) hs (gu hF) hop hv
            rcases hrun with hrun | ⟨hrun,rfl⟩
            · refine jJ hrun (fun cl hcl=>by rw [hcl] at hop;simp [fu] at hop) ?_
              exact dn l (k + 1) r hk' h2 _ _ hq ro ds c0 s0 w0 c' w' _ (hx.trans g3) g2 (dQ (aB.mono g3.le _ _ hF) g1) (by rw [put_defers];exact hd)
            · refine oL hrun (fun cl hcl=>by rw [hcl] at hop;simp [fu] at hop) ?_
              exact dn l (k + 1) r hk' h2 _ _ hq ro ds c0 s0 w0 c' w' _ (hx.trans g3) g2 (dQ (aB.mono g3.le _ _ hF) g1) (by rw [put_defers];exact hd)
          · obtain ⟨hu,hq⟩:=hq
            have hop:=mR hop' (by rintro rfl;simp [wJ] at hu)
            obtain ⟨b,c',w',u,hrun,g1,g2,g3⟩:=wP (P:=P) hs (gu hF) hop hu
            rcases hrun with hrun | ⟨hrun,rfl⟩
            · refine jJ hrun (fun cl hcl=>by rw [hcl] at hop;simp [fu] at hop) ?_
              exact dn l (k + 1) r hk' h2 _ _ (hq b) ro ds c0 s0 w0 c' w' _ (hx.trans g3) g2 (dQ (aB.mono g3.le _ _ hF) g1) (by rw [put_defers];exact hd)
            · refine oL hrun (fun cl hcl=>by rw [hcl] at hop;simp [fu] at hop) ?_
              exact dn l (k + 1) r hk' h2 _ _ (hq b) ro ds c0 s0 w0 c' w' _ (hx.trans g3) g2 (dQ (aB.mono g3.le _ _ hF) g1) (by rw [put_defers];exact hd)
    · simp at hal
theorem yV {al:List aJ} (h:gH P (Q .normal) al F s):q8 P (.region al) Q F s:=by
  refine kN fun code hns hc ro ds c w a hs hF hd=>?_
  cases code with
  | region id ops draw =>
    rcases dz hc with ⟨l,h0,h1,rfl⟩ | ⟨l,h0,_⟩ | ⟨l,k,h0,_⟩
    · cases h0
      refine wpIn_region ?_
      have:=dn (Q:=Q) ops.toList 0 al (fun j=>by simp) h1 F s h ro ds c s w c w a (Ext.refl _ _ _) hs hF hd
      simpa [List.range_eq_range'] using this
    · cases h0
    · cases h0
  | rangeFunc f ps x y=>simp only [aP] at hc;split at hc <;> simp at hc
  | seq x y=>simp only [aP] at hc;split at hc <;> simp at hc
  | cond x y z=>simp only [aP] at hc;split at hc <;> simp at hc
  | block id x=>simp [aP] at hc
  | loop x=>simp [aP] at hc
  | scope x=>simp [iO] at hns
  | skip | label l | ret | exit i=>simp [aP] at hc
  | _ =>
    exfalso
    simp only [aP,Option.some.injEq,bL.region.injEq] at hc
    subst hc
    simp [gH,gd,dW,bn,wJ] at h
end
end Go.AX
/- Regions that draw their order (1): one operation, in a state of which only a part is asked. -/
set_option linter.unusedSectionVars false
namespace Go.AX
open Go
mutual
def Cl (n:Nat):AV → Prop
  | .agg xs=>Cls n xs
  | .tup xs=>Cls n xs
  | .ptr b _ _=>b < n
  | .vp xs=>Cls n xs
  | .sl b _ _ _ _=>b < n
  | .ps _ xs=>Cls n xs
  | .fn _ xs ys=>Cls n xs ∧ Cls n ys
  | .ifc _ x=>Cl n x
  | .map r=>r < n
  | _=>True
def Cls (n:Nat):List AV → Prop
  | []=>True
  | x :: xs=>Cl n x ∧ Cls n xs
end
theorem Cls.get {n:Nat}:∀ {xs:List AV},Cls n xs → ∀ (i:Nat) (x:AV),xs[i]? = some x → Cl n x
  | [],_,i,x,h=>by simp at h
  | y :: ys, hc, i, x, h => by
    simp only [Cls] at hc
    cases i with
    | zero=>simp at h;subst h;exact hc.1
    | succ i=>exact Cls.get hc.2 i x (by simpa using h)
theorem Cls.eU {n:Nat}:∀ {xs:List AV},(∀ (i:Nat) (x:AV),xs[i]? = some x → Cl n x) → Cls n xs
  | [],_=>by simp [Cls]
  | y :: ys, h => by
    simp only [Cls]
    exact ⟨h 0 y (by simp),Cls.eU fun i x hx=>h (i + 1) x (by simpa using hx)⟩
section
variable {c:Ctx} {n:Nat} (hn:∀ id e,n ≤ id → c.σ id e=none)
include hn
theorem nG {b e:Nat} {x:Nat × Nat} (h:c.σ b e=some x):b < n:=by
  rcases Nat.lt_or_ge b n with hh | hh
  · exact hh
  · rw [hn b e hh] at h;simp at h
mutual
theorem lV:∀ (x:AV) (u:Value),aD c x u → Cl n x
  | .agg xs,u,h=>by simp only [aD] at h;obtain ⟨us,_,h⟩:=h;simp only [Cl];exact uH xs us h
  | .tup xs,u,h=>by simp only [aD] at h;obtain ⟨us,_,h⟩:=h;simp only [Cl];exact uH xs us h
  | .ptr b e o,u,h=>by simp only [aD] at h;obtain ⟨k,z,h,_⟩:=h;simp only [Cl];exact nG hn h
  | .vp xs,u,h=>by simp only [aD] at h;obtain ⟨k,o,_,h⟩:=h;simp only [Cl];exact AQ k o xs h
  | .sl b e o m z,u,h=>by simp only [aD] at h;obtain ⟨k,s,q,h,_⟩:=h;simp only [Cl];exact nG hn h
  | .ps m xs, u, h => by
    simp only [aD] at h;simp only [Cl]
    rcases h with ⟨_,rfl,_⟩ | ⟨k,o,q,_,_,h⟩
    · simp [Cls]
    · exact AQ k o xs h
  | .fn f xs ys,u,h=>by simp only [aD] at h;obtain ⟨us,ws,_,h1,h2⟩:=h;simp only [Cl];exact ⟨uH xs us h1,uH ys ws h2⟩
  | .ifc t x,u,h=>by simp only [aD] at h;obtain ⟨v,_,h⟩:=h;simp only [Cl];exact lV x v h
  | .map r,u,h=>by simp only [aD] at h;obtain ⟨k,z,h,_⟩:=h;simp only [Cl];exact nG hn h
  | .bool _,_,_=>by simp [Cl]
  | .int _ _,_,_=>by simp [Cl]
  | .str _,_,_=>by simp [Cl]
  | .nilp,_,_=>by simp [Cl]
  | .nils,_,_=>by simp [Cl]
  | .nilf,_,_=>by simp [Cl]
  | .nili,_,_=>by simp [Cl]
  | .nilm,_,_=>by simp [Cl]
  | .any,_,_=>by simp [Cl]
theorem uH:∀ (xs:List AV) (us:List Value),aB c xs us → Cls n xs
  | [],_,_=>by simp [Cls]
  | x :: xs, us, h => by
    simp only [aB] at h
    obtain ⟨u,us',_,h1,h2⟩:=h
    simp only [Cls]
    exact ⟨lV x u h1,uH xs us' h2⟩
theorem AQ (k:Nat):∀ (o:Nat) (xs:List AV),bG c k o xs → Cls n xs
  | _,[],_=>by simp [Cls]
  | o, x :: xs, h => by
    simp only [bG] at h
    obtain ⟨⟨u,_,h1⟩,h2⟩:=h
    simp only [Cls]
    exact ⟨lV x u h1,AQ k (o + 1) xs h2⟩
end
end
def Ctx.cut (c:Ctx) (n:Nat):Ctx:=⟨fun b e=>if b < n then c.σ b e else none,c.m,c.gl⟩
section
variable {c:Ctx} {n:Nat}
mutual
theorem rF:∀ (x:AV) (u:Value),aD c x u → Cl n x → aD (c.cut n) x u
  | .agg xs,u,h,hc=>by simp only [aD,Cl] at h hc ⊢;obtain ⟨us,e,h⟩:=h;exact ⟨us,e,oz xs us h hc⟩
  | .tup xs,u,h,hc=>by simp only [aD,Cl] at h hc ⊢;obtain ⟨us,e,h⟩:=h;exact ⟨us,e,oz xs us h hc⟩
  | .ptr b e o,u,h,hc=>by simp only [aD,Cl] at h hc ⊢;obtain ⟨k,z,h,e⟩:=h;exact ⟨k,z,by simp [Ctx.cut,hc,h],e⟩
  | .vp xs,u,h,hc=>by simp only [aD,Cl] at h hc ⊢;obtain ⟨k,o,e,h⟩:=h;exact ⟨k,o,e,vD k o xs h hc⟩
  | .sl b e o m z,u,h,hc=>by simp only [aD,Cl] at h hc ⊢;obtain ⟨k,s,q,h,e⟩:=h;exact ⟨k,s,q,by simp [Ctx.cut,hc,h],e⟩
  | .ps m xs, u, h, hc => by
    simp only [aD,Cl] at h hc ⊢
    rcases h with h | ⟨k,o,q,e,hq,h⟩
    · exact .inl h
    · exact .inr ⟨k,o,q,e,hq,vD k o xs h hc⟩
  | .fn f xs ys,u,h,hc=>by simp only [aD,Cl] at h hc ⊢;obtain ⟨us,ws,e,h1,h2⟩:=h;exact ⟨us,ws,e,oz xs us h1 hc.1,oz ys ws h2 hc.2⟩
  | .ifc t x,u,h,hc=>by simp only [aD,Cl] at h hc ⊢;obtain ⟨v,e,h⟩:=h;exact ⟨v,e,rF x v h hc⟩
  | .map r,u,h,hc=>by simp only [aD,Cl] at h hc ⊢;obtain ⟨k,z,h,e⟩:=h;exact ⟨k,z,by simp [Ctx.cut,hc,h],e⟩
  | .bool _,_,h,_=>by simpa [aD] using h
  | .int _ _,_,h,_=>by simpa [aD] using h
  | .str _,_,h,_=>by simpa [aD] using h
  | .nilp,_,h,_=>by simpa [aD] using h
  | .nils,_,h,_=>by simpa [aD] using h
  | .nilf,_,h,_=>by simpa [aD] using h
  | .nili,_,h,_=>by simpa [aD] using h
  | .nilm,_,h,_=>by simpa [aD] using h
  | .any,_,_,_=>by simp [aD]
theorem oz:∀ (xs:List AV) (us:List Value),aB c xs us → Cls n xs → aB (c.cut n) xs us
  | [],_,h,_=>by simpa [aB] using h
  | x :: xs, us, h, hc => by
    simp only [aB,Cls] at h hc ⊢
    obtain ⟨u,us',e,h1,h2⟩:=h
    exact ⟨u,us',e,rF x u h1 hc.1,oz xs us' h2 hc.2⟩
theorem vD (k:Nat):∀ (o:Nat) (xs:List AV),bG c k o xs → Cls n xs → bG (c.cut n) k o xs
  | _,[],_,_=>by simp [bG]
  | o, x :: xs, h, hc => by
    simp only [bG,Cls] at h hc ⊢
    obtain ⟨⟨u,e,h1⟩,h2⟩:=h
    exact ⟨⟨u,e,rF x u h1 hc.1⟩,vD k (o + 1) xs h2 hc.2⟩
end
end
def NQ (n:Nat):Obj → Prop
  | .cells _ cs _=>Cls n cs
  | .map es=>∀ p ∈ es,Cl n p.1 ∧ Cl n p.2
  | .iter _ _=>True
  | .raw _ _ F _=>Cls n F
structure OC (c:Ctx) (H:Nat → Option Obj) (U:Nat → Prop) (w:World):Prop where
  mem:∀ k o u,c.m k o=some u → w.cell? ⟨k,o,none⟩=some u ∧ u.oneCell'=true
  obj:∀ id o,H id=some o → gJ c w id o
  inj:∀ id id' o o' k,H id=some o → H id'=some o' → blk c id o=some k → blk c id' o'=some k → id=id'
  fresh:∀ id e,U id → c.σ id e=none
  top:∀ id o,H id=some o → ∀ e,o.ver < e → c.σ id e=none
  low:∀ b e k z,c.σ b e=some (k,z) → k < w.heap.size
def YU (c:Ctx) (H:Nat → Option Obj) (k:Nat):Prop:=∃ id o,H id=some o ∧ blk c id o=some k
structure ES (c:Ctx) (H:Nat → Option Obj) (w:World) (c':Ctx) (H':Nat → Option Obj) (w':World):Prop where
  le:c.le c'
  size:w.heap.size ≤ w'.heap.size
  same:∀ k,k < w.heap.size → ¬ YU c H k → w'.heap[k]? = w.heap[k]? ∧ ∀ o,c'.m k o=c.m k o
  foot:∀ k,YU c' H' k → YU c H k ∨ w.heap.size ≤ k
  os:eG w w'
theorem ES.refl (c:Ctx) (H:Nat → Option Obj) (w:World):ES c H w c H w:=
  ⟨Ctx.le_refl c,Nat.le_refl _,fun _ _ _=>⟨rfl,fun _=>rfl⟩,fun _ h=>.inl h,eG.refl w⟩
theorem ES.trans {c c1 c2:Ctx} {H H1 H2:Nat → Option Obj} {w w1 w2:World} (h:ES c H w c1 H1 w1) (h':ES c1 H1 w1 c2 H2 w2):ES c H w c2 H2 w2 where
  le:=Ctx.le_trans h.le h'.le
  size:=Nat.le_trans h.size h'.size
  same:=fun k hk hn=>by
    have hn1:¬ YU c1 H1 k:=fun hf=>(h.foot k hf).elim hn (fun hle=>by omega)
    obtain ⟨e1,m1⟩:=h.same k hk hn
    obtain ⟨e2,m2⟩:=h'.same k (Nat.lt_of_lt_of_le hk h.size) hn1
    exact ⟨e2.trans e1,fun o=>(m2 o).trans (m1 o)⟩
  foot:=fun k hf=>(h'.foot k hf).elim (h.foot k) (fun hle=>.inr (Nat.le_trans h.size hle))
  os:=h.os.trans h'.os
theorem gJ.bound {c:Ctx} {w:World} {id:Nat} {o:Obj} (h:gJ c w id o):∃ k z,c.σ id o.ver=some (k,z):=by
  cases o with
  | cells v cs sn=>obtain ⟨k,z,_,_,_,g,_⟩:=h;exact ⟨k,z,g⟩
  | map es=>obtain ⟨k,z,_,_,g,_⟩:=h;exact ⟨k,z,g⟩
  | iter p q=>obtain ⟨k,z,g,_⟩:=h;exact ⟨k,z,g⟩
  | raw k o F us=>obtain ⟨z,g,_⟩:=h;exact ⟨k,z,g⟩
theorem Hq {c c':Ctx}:∀ {F:List AV} {us:List Value},aB c F us → (∀ (x:AV) (u:Value),x ∈ F → aD c x u → aD c' x u) → aB c' F us
  | [],us,h,_=>by simpa [aB] using h
  | x :: r, us, h, hr => by
    simp only [aB] at h ⊢
    obtain ⟨u,us',e,h1,h2⟩:=h
    exact ⟨u,us',e,hr x u (by simp) h1,Hq h2 fun y v hy=>hr y v (by simp [hy])⟩
theorem gJ.RV {c c':Ctx} {w:World} {id:Nat} {o:Obj} (h:gJ c w id o) (hσ:∀ e,c'.σ id e=c.σ id e) (hm:∀ k i,c'.m k i=c.m k i)
    (hr:∀ (x:AV) (u:Value),(match o with | .cells _ cs _=>x ∈ cs | .map es=>∃ p ∈ es,x=p.1 ∨ x=p.2 | .iter _ _=>False | .raw _ _ F _=>x ∈ F) → aD c x u → aD c' x u):gJ c' w id o:=by
  cases o with
  | cells v cs sn =>
    obtain ⟨k,z,arr,el,fr,h1,h2,h3,h4,h5,h6,h7⟩:=h
    refine ⟨k,z,arr,el,fr,by rw [hσ];exact h1,h2,h3,h4,h5,fun i x hx=>?_,fun i=>by rw [hm];exact h7 i⟩
    obtain ⟨u,a,b,r⟩:=h6 i x hx
    exact ⟨u,a,b,hr x u (List.mem_of_getElem? hx) r⟩
  | map es =>
    obtain ⟨k,z,mes,clock,h1,h2,h3,h4⟩:=h
    refine ⟨k,z,mes,clock,by rw [hσ];exact h1,h2,?_,fun i=>by rw [hm];exact h4 i⟩
    have:∀ (es:List (AV × AV)) (us:List MapEntry),gQ c es us → (∀ (x:AV) (u:Value),(∃ p ∈ es,x=p.1 ∨ x=p.2) → aD c x u → aD c' x u) → gQ c' es us:=by
      intro es
      induction es with
      | nil=>intro us h _;simpa [gQ] using h
      | cons p r ih =>
        obtain ⟨a,b⟩:=p
        intro us h hr
        simp only [gQ] at h ⊢
        obtain ⟨e,es',e1,r1,r2,r3⟩:=h
        exact ⟨e,es',e1,hr _ _ ⟨(a,b),by simp,.inl rfl⟩ r1,hr _ _ ⟨(a,b),by simp,.inr rfl⟩ r2,ih es' r3 fun x u hx=>hr x u (by obtain ⟨p,hp,e⟩:=hx;exact ⟨p,by simp [hp],e⟩)⟩
    exact this es _ h3 hr
  | iter p q =>
    obtain ⟨k,z,h1,h2,h3⟩:=h
    exact ⟨k,z,by rw [hσ];exact h1,h2,fun i=>by rw [hm];exact h3 i⟩
  | raw k o F us =>
    obtain ⟨z,h1,h2,h3,h4⟩:=h
    exact ⟨z,by rw [hσ];exact h1,h2,Hq h3 fun x u hx=>hr x u hx,fun i=>by rw [hm];exact h4 i⟩
theorem OC.local {c : Ctx} {H : Nat → Option Obj} {U : Nat → Prop} {w : World} (h : OC c H U w) {D : List Nat} {t : St}
    (ht:∀ id,t.get id=if D.contains id then H id else none) (hcl:∀ id o,t.get id=some o → NQ t.next o) (hid:∀ id o,t.get id=some o → id < t.next) :
    Sat (c.cut t.next) t w ∧ ∀ (c1:Ctx) (t1:St) (w1:World),Sat c1 t1 w1 → Ext (c.cut t.next) t w c1 t1 w1 → (∀ id,t.next ≤ id → id < t1.next → U id) →
      ∃ c2, OC c2 (fun id => if D.contains id || (decide (t.next ≤ id) && decide (id < t1.next)) then t1.get id else H id) (fun id => U id ∧ ¬ (t.next ≤ id ∧ id < t1.next)) w1 ∧
        ES c H w c2 (fun id=>if D.contains id || (decide (t.next ≤ id) && decide (id < t1.next)) then t1.get id else H id) w1 ∧ c1.le c2 ∧
        (∀ id,id < t.next → H id=none → ∀ e,c2.σ id e=c.σ id e):=by
  have htH:∀ id o,t.get id=some o → H id=some o ∧ D.contains id=true:=fun id o hg=>by
    rw [ht] at hg;split at hg
    · rename_i hc;exact ⟨hg,hc⟩
    · simp at hg
  have hcut:∀ id e,id < t.next → (c.cut t.next).σ id e=c.σ id e:=fun id e hl=>by simp [Ctx.cut,hl]
  have hblkc:∀ id o,id < t.next → blk (c.cut t.next) id o=blk c id o:=fun id o hl=>by simp [blk,hcut id _ hl]
  have hS:Sat (c.cut t.next) t w:=by
    refine ⟨h.mem,fun id o hg=>?_,fun id id' o o' k hg hg' hk hk'=>?_,fun id e hl=>?_,fun id o hg e he=>?_,fun b e k z hs=>?_⟩
    · obtain ⟨hH,_⟩:=htH id o hg
      refine (h.obj id o hH).RV (fun e=>hcut id e (hid id o hg)) (fun _ _=>rfl) fun x u hx hr=>rF x u hr ?_
      have:=hcl id o hg
      cases o with
      | cells v cs sn =>
        obtain ⟨i,hi,rfl⟩:=List.getElem_of_mem hx
        exact Cls.get this i _ (by simp [hi])
      | map es =>
        obtain ⟨p,hp,e⟩:=hx
        rcases e with rfl | rfl
        · exact (this p hp).1
        · exact (this p hp).2
      | iter p q=>exact hx.elim
      | raw k o F us =>
        obtain ⟨i,hi,rfl⟩:=List.getElem_of_mem hx
        exact Cls.get this i _ (by simp [hi])
    · rw [hblkc id o (hid id o hg)] at hk
      rw [hblkc id' o' (hid id' o' hg')] at hk'
      exact h.inj id id' o o' k (htH id o hg).1 (htH id' o' hg').1 hk hk'
    · simp only [Ctx.cut];rw [if_neg (by omega)]
    · rw [hcut id e (hid id o hg)];exact h.top id o (htH id o hg).1 e he
    · simp only [Ctx.cut] at hs
      split at hs
      · exact h.low _ _ _ _ hs
      · simp at hs
  refine ⟨hS,fun c1 t1 w1 h1 hx hU=>?_⟩
  -- the joined context
  let c2:Ctx:=⟨fun b e=>if b < t1.next then c1.σ b e else c.σ b e,c1.m,c1.gl⟩
  have hnn:t.next ≤ t1.next:=hx.next
  have hle1:c1.le c2:=⟨fun b e x hb=>by
    show (if b < t1.next then c1.σ b e else c.σ b e)=some x
    rw [if_pos];exact hb
    rcases Nat.lt_or_ge b t1.next with hh | hh
    · exact hh
    · rw [h1.fresh b e hh] at hb;simp at hb,fun _ _ _ hm=>hm⟩
  have hle:c.le c2:=⟨fun b e x hb=>by
    show (if b < t1.next then c1.σ b e else c.σ b e)=some x
    split
    · rename_i hlt
      by_cases hb2:b < t.next
      · exact hx.le.1 b e x (by rw [hcut b e hb2];exact hb)
      · rw [h.fresh b e (hU b (by omega) hlt)] at hb;simp at hb
    · exact hb,fun k o u hm=>hx.le.2 k o u hm⟩
  have hσold:∀ id,id < t.next → t.get id=none → ∀ e,c2.σ id e=c.σ id e:=fun id hl hg e=>by
    show (if id < t1.next then c1.σ id e else c.σ id e)=_
    rw [if_pos (by omega),hx.sig id hl hg e,hcut id e hl]
  have hσhi:∀ id,t1.next ≤ id → ∀ e,c2.σ id e=c.σ id e:=fun id hl e=>by
    show (if id < t1.next then c1.σ id e else c.σ id e)=_
    rw [if_neg (by omega)]
  have hσnew:∀ id,id < t1.next → ∀ e,c2.σ id e=c1.σ id e:=fun id hl e=>by
    show (if id < t1.next then c1.σ id e else c.σ id e)=_
    rw [if_pos hl]
  have h1lt:∀ id o,t1.get id=some o → id < t1.next:=fun id o hg=>by
    rcases Nat.lt_or_ge id t1.next with hh | hh
    · exact hh
    · obtain ⟨k,z,hs⟩:=(h1.obj id o hg).bound;rw [h1.fresh _ _ hh] at hs;simp at hs
  -- an id of the new heap is of the part,or is an old one outside it
  let new:Nat → Bool:=fun id=>D.contains id || (decide (t.next ≤ id) && decide (id < t1.next))
  let H2:Nat → Option Obj:=fun id=>if new id then t1.get id else H id
  have hcase:∀ id o,H2 id=some o → (new id=true ∧ t1.get id=some o ∧ id < t1.next) ∨ (new id=false ∧ H id=some o ∧ t.get id=none ∧ (id < t.next ∨ t1.next ≤ id)):=fun id o hg=>by
    simp only [H2] at hg
    split at hg
    · rename_i hn;exact .inl ⟨hn,hg,h1lt id o hg⟩
    · rename_i hn
      have hn':new id=false:=by simpa using hn
      simp only [new,Bool.or_eq_false_iff,Bool.and_eq_false_iff,decide_eq_false_iff_not] at hn'
      refine .inr ⟨by simpa using hn,hg,by rw [ht,hn'.1];rfl,?_⟩
      rcases hn'.2 with h' | h'
      · left;omega
      · right;omega
  have hσout:∀ id,new id=false → t.get id=none → (id < t.next ∨ t1.next ≤ id) → ∀ e,c2.σ id e=c.σ id e:=fun id _ hg hr e=>by
    rcases hr with hl | hl
    · exact hσold id hl hg e
    · exact hσhi id hl e
  have hlowk:∀ id o k,blk c id o=some k → k < w.heap.size:=fun id o k hb=>by
    simp only [blk,Option.map_eq_some_iff] at hb
    obtain ⟨⟨k1,z1⟩,hs1,rfl⟩:=hb
    exact h.low _ _ _ _ hs1
  have hfp:∀ k,fp (c.cut t.next) t k → ∃ id o,H id=some o ∧ D.contains id=true ∧ blk c id o=some k:=fun k hf=>by
    obtain ⟨id,o,hg,hb⟩:=hf
    obtain ⟨hH,hD⟩:=htH id o hg
    exact ⟨id,o,hH,hD,by rw [← hblkc id o (hid id o hg)];exact hb⟩
  have hnotfp:∀ id o,H id=some o → D.contains id=false → ∀ k,blk c id o=some k → ¬ fp (c.cut t.next) t k:=fun id o hH hD k hb hf=>by
    obtain ⟨id2,o2,hH2,hD2,hb2⟩:=hfp k hf
    have:=h.inj id id2 o o2 k hH hH2 hb hb2
    subst this
    rw [hD] at hD2;simp at hD2
  have hDnew:∀ id,new id=false → D.contains id=false:=fun id hn=>by
    simp only [new,Bool.or_eq_false_iff] at hn;exact hn.1
  have hblk2new:∀ id o,id < t1.next → blk c2 id o=blk c1 id o:=fun id o hl=>by simp [blk,hσnew id hl]
  have hblk2old:∀ id o,new id=false → t.get id=none → (id < t.next ∨ t1.next ≤ id) → blk c2 id o=blk c id o:=fun id o hn hg hr=>by simp [blk,hσout id hn hg hr]
  have hcross:∀ id o id2 o2 k,new id=false → H id=some o → t1.get id2=some o2 → blk c id o=some k → blk c1 id2 o2=some k → False:=fun id o id2 o2 k hn hH hg hb hb2=>by
    rcases hx.foot k ⟨id2,o2,hg,hb2⟩ with hf | hge
    · exact hnotfp id o hH (hDnew id hn) k hb hf
    · have:=hlowk id o k hb;omega
  have hSat:OC c2 H2 (fun id=>U id ∧ ¬ (t.next ≤ id ∧ id < t1.next)) w1:=by
    refine ⟨h1.mem,fun id o hg=>?_,fun id id' o o' k hg hg' hk hk'=>?_,fun id e hu=>?_,fun id o hg e he=>?_,fun b e k z hs=>?_⟩
    · rcases hcase id o hg with ⟨_,hg1,hl⟩ | ⟨hn,hH,hg0,hr⟩
      · exact (h1.obj id o hg1).RV (fun e=>hσnew id hl e) (fun _ _=>rfl) fun x u _ hr=>hr.mono hle1
      · refine (h.obj id o hH).move hle fun k hk=>?_
        exact hx.same k (hlowk id o k hk) (hnotfp id o hH (hDnew id hn) k hk)
    · rcases hcase id o hg with ⟨_,hg1,hl⟩ | ⟨hn,hH,hg0,hr⟩
      · rw [hblk2new id o hl] at hk
        rcases hcase id' o' hg' with ⟨_,hg1',hl'⟩ | ⟨hn',hH',hg0',hr'⟩
        · rw [hblk2new id' o' hl'] at hk'
          exact h1.inj id id' o o' k hg1 hg1' hk hk'
        · rw [hblk2old id' o' hn' hg0' hr'] at hk'
          exact (hcross id' o' id o k hn' hH' hg1 hk' hk).elim
      · rw [hblk2old id o hn hg0 hr] at hk
        rcases hcase id' o' hg' with ⟨_,hg1',hl'⟩ | ⟨hn',hH',hg0',hr'⟩
        · rw [hblk2new id' o' hl'] at hk'
          exact (hcross id o id' o' k hn hH hg1' hk hk').elim
        · rw [hblk2old id' o' hn' hg0' hr'] at hk'
          exact h.inj id id' o o' k hH hH' hk hk'
    · obtain ⟨hu1,hu2⟩:=hu
      by_cases hl:id < t.next
      · have hg:t.get id=none:=by
          cases hg:t.get id with
          | none=>rfl
          | some o=>obtain ⟨k,z,hs⟩:=(h.obj id o (htH id o hg).1).bound;rw [h.fresh _ _ hu1] at hs;simp at hs
        rw [hσold id hl hg];exact h.fresh id e hu1
      · rw [hσhi id (by omega)];exact h.fresh id e hu1
    · rcases hcase id o hg with ⟨_,hg1,hl⟩ | ⟨hn,hH,hg0,hr⟩
      · rw [hσnew id hl];exact h1.top id o hg1 e he
      · rw [hσout id hn hg0 hr];exact h.top id o hH e he
    · by_cases hb:b < t1.next
      · rw [hσnew b hb] at hs;exact h1.low _ _ _ _ hs
      · rw [hσhi b (by omega)] at hs
        have:=h.low _ _ _ _ hs
        exact Nat.lt_of_lt_of_le this hx.size
  refine ⟨c2,hSat,⟨hle,hx.size,fun k hk hn=>?_,fun k hf=>?_,hx.os⟩,hle1,fun id hl hH e=>hσold id hl (by rw [ht];split <;> simp_all) e⟩
  · exact hx.same k hk fun hf=>hn (by obtain ⟨id,o,hH,_,hb⟩:=hfp k hf;exact ⟨id,o,hH,hb⟩)
  · obtain ⟨id,o,hg,hb⟩:=hf
    rcases hcase id o hg with ⟨_,hg1,hl⟩ | ⟨hn,hH,hg0,hr⟩
    · rw [hblk2new id o hl] at hb
      rcases hx.foot k ⟨id,o,hg1,hb⟩ with hf | hge
      · obtain ⟨id2,o2,hH2,_,hb2⟩:=hfp k hf
        exact .inl ⟨id2,o2,hH2,hb2⟩
      · exact .inr hge
    · rw [hblk2old id o hn hg0 hr] at hb
      exact .inl ⟨id,o,hH,hb⟩
end Go.AX
/- Regions that draw their order (2): what an operation looks at; the walk in the order of the text. -/
namespace Go.AX
open Go
theorem iw {F F':List AV}:∀ {l:List AO},(∀ x ∈ l,x.ev F=x.ev F') → l.map (AO.ev F)=l.map (AO.ev F')
  | [],_=>rfl
  | x :: r,h=>by simp only [List.map_cons];rw [h x (by simp),iw (fun y hy=>h y (by simp [hy]))]
theorem nL {F F':List AV} {x:Option AO} (d:Nat) (h:∀ y ∈ x.toList,y.ev F=y.ev F'):bound x F d=bound x F' d:=by
  cases x with
  | none=>rfl
  | some y=>simp only [bound];rw [h y (by simp)]
theorem qB {F F':List AV}:∀ {l:List (Nat × Nat × AO)},(∀ x ∈ l.map (·.2.2),x.ev F=x.ev F') →
    l.map (fun p=>(p.1,p.2.1,p.2.2.ev F))=l.map (fun p=>(p.1,p.2.1,p.2.2.ev F')) ∧ l.map (fun p=>p.2.2.ev F)=l.map (fun p=>p.2.2.ev F')
  | [],_=>⟨rfl,rfl⟩
  | x :: r, h => by
    obtain ⟨a,b⟩:=qB (l:=r) (fun y hy=>h y (by simp only [List.map_cons,List.mem_cons];exact .inr hy))
    have:=h x.2.2 (by simp)
    simp only [List.map_cons,a,b,this,and_self]
theorem Nr {F F':List AV} {o:jy} (h:∀ x ∈ o.yE,x.ev F=x.ev F') (g:Nat → Option Obj) (n:Nat):bn o F g n=bn o F' g n:=by
  cases o <;> simp only [jy.yE] at h
  case mv x=>simp only [bn,h x (by simp)]
  case pick c a b=>simp only [bn,h c (by simp),h a (by simp),h b (by simp)]
  case alloc=>rfl
  case bad=>rfl
  case Fj x=>rfl
  case mkmap=>rfl
  case rng x=>simp only [bn,h x (by simp)]
  case nxt x=>simp only [bn,h x (by simp)]
  case i2s x=>simp only [bn,h x (by simp)]
  case clr z x=>simp only [bn,h x (by simp)]
  case idxB x y=>simp only [bn,h x (by simp),h y (by simp)]
  case lkp tr z ok m k=>simp only [bn,h m (by simp),h k (by simp)]
  case mup tr m k v=>simp only [bn,h m (by simp),h k (by simp),h v (by simp)]
  case box x=>simp only [bn,h x (by simp)]
  case build z ps=>simp only [bn];rw [(qB h).1]
  case bslice z m e ps=>simp only [bn];rw [(qB h).2]
  case load q a=>simp only [bn,h a (by simp)]
  case store q a x=>simp only [bn,h a (by simp),h x (by simp)]
  case nilck x=>simp only [bn,h x (by simp)]
  case bin op x y=>simp only [bn,h x (by simp),h y (by simp)]
  case eq neg t x y=>simp only [bn,h x (by simp),h y (by simp)]
  case un op x=>simp only [bn,h x (by simp)]
  case i2i k x=>simp only [bn,h x (by simp)]
  case s2s x=>simp only [bn,h x (by simp)]
  case s2b x=>simp only [bn,h x (by simp)]
  case b2s x=>simp only [bn,h x (by simp)]
  case ifc t x=>simp only [bn,h x (by simp)]
  case mkfn f xs ys=>simp only [bn];rw [iw (l:=xs) (fun x hx=>h x (by simp [hx])),iw (l:=ys) (fun x hx=>h x (by simp [hx]))]
  case slcS x lo hi=>
    have e1:=fun d=>nL (F:=F) (F':=F') (x:=lo) d (fun y hy=>h y (by simp at hy ⊢;simp [hy]))
    have e2:=fun d=>nL (F:=F) (F':=F') (x:=hi) d (fun y hy=>h y (by simp at hy ⊢;simp [hy]))
    simp only [bn,h x (by simp),e1,e2]
  case slc z x lo hi=>
    have e1:=fun d=>nL (F:=F) (F':=F') (x:=lo) d (fun y hy=>h y (by simp at hy ⊢;simp [hy]))
    have e2:=fun d=>nL (F:=F) (F':=F') (x:=hi) d (fun y hy=>h y (by simp at hy ⊢;simp [hy]))
    simp only [bn,h x (by simp),e1,e2]
  case faddr off x=>simp only [bn,h x (by simp)]
  case fld off q x=>simp only [bn,h x (by simp)]
  case iaddr arr z x i=>simp only [bn,h x (by simp),h i (by simp)]
  case sidx x i=>simp only [bn,h x (by simp),h i (by simp)]
  case aidx l z q x i=>simp only [bn,h x (by simp),h i (by simp)]
  case ext i x=>simp only [bn,h x (by simp)]
  case len x=>simp only [bn,h x (by simp)]
  case lenS x=>simp only [bn,h x (by simp)]
  case cst=>rfl
  case app z b st x y=>simp only [bn,h x (by simp),h y (by simp)]
  case mkslice z b x y=>simp only [bn,h x (by simp),h y (by simp)]
  case mm mx xs=>simp only [bn];rw [iw h]
  case call=>rfl
  case callv=>rfl
  case inv=>rfl
  case tas kg x=>simp only [bn,h x (by simp)]
  case cpy z d s=>simp only [bn,h d (by simp),h s (by simp)]
theorem DV {F F':List AV} {o:jy} (h:∀ x ∈ o.yE,x.ev F=x.ev F'):dP F o=dP F' o:=by
  cases o <;> simp only [jy.yE] at h <;> (try rfl)
  case call f xs=>simp only [dP];rw [iw h]
  case callv f xs=>simp only [dP];rw [h f (by simp),iw (fun x hx=>h x (by simp [hx]))]
  case inv kg f xs=>simp only [dP];rw [h f (by simp),iw (fun x hx=>h x (by simp [hx]))]
def fH:AV → List Nat
  | .ptr b _ _=>[b]
  | .sl b _ _ _ _=>[b]
  | .map b=>[b]
  | _=>[]
mutual
def Cj:AV → List Nat
  | .sl b _ _ _ _=>[b]
  | .agg xs=>fF xs
  | .tup xs=>fF xs
  | _=>[]
def fF:List AV → List Nat
  | []=>[]
  | x :: r=>Cj x ++ fF r
end
def jX (o:jy) (F:List AV):List Nat:=
  match o with
  | .load _ a=>fH (a.ev F)
  | .store _ a _=>fH (a.ev F)
  | .bslice _ _ _ ps=>fF (ps.map fun p=>p.2.2.ev F)
  | .b2s x=>fH (x.ev F)
  | .nxt x=>fH (x.ev F)
  | .clr _ x=>fH (x.ev F)
  | .lkp _ _ _ m _=>fH (m.ev F)
  | .mup _ m _ _=>fH (m.ev F)
  | .app _ _ _ s x=>fH (s.ev F) ++ fH (x.ev F)
  | .cpy _ d s=>fH (d.ev F) ++ fH (s.ev F)
  | _=>[]
mutual
theorem Ji {g g':Nat → Option Obj}:∀ (x:AV),(∀ id ∈ Cj x,g id=g' id) → view g x=view g' x
  | .sl b e o n z,h=>by simp only [view];rw [h b (by simp [Cj])]
  | .agg xs,h=>by simp only [view];rw [kZ xs (by simpa [Cj] using h)]
  | .tup xs,h=>by simp only [view];rw [kZ xs (by simpa [Cj] using h)]
  | .bool _,_=>rfl
  | .int _ _,_=>rfl
  | .str _,_=>rfl
  | .nilp,_=>rfl
  | .ptr _ _ _,_=>rfl
  | .vp _,_=>rfl
  | .nils,_=>rfl
  | .ps _ _,_=>rfl
  | .nilf,_=>rfl
  | .fn _ _ _,_=>rfl
  | .nili,_=>rfl
  | .ifc _ _,_=>rfl
  | .nilm,_=>rfl
  | .map _,_=>rfl
  | .any,_=>rfl
theorem kZ {g g':Nat → Option Obj}:∀ (xs:List AV),(∀ id ∈ fF xs,g id=g' id) → views g xs=views g' xs
  | [],_=>rfl
  | x :: r, h => by
    simp only [views]
    rw [Ji x (fun id hi=>h id (by simp [fF,hi])),kZ r (fun id hi=>h id (by simp [fF,hi]))]
end
mutual
theorem O7 {g:Nat → Option Obj}:∀ (x y:AV) (ps:List (Nat × Obj)),view g x=some (y,ps) → ∀ p ∈ ps,p.1 ∈ Cj x
  | .sl b e o n z, y, ps, h => by
    simp only [view] at h
    split at h
    · split at h
      · simp at h;obtain ⟨_,rfl⟩:=h;simp [Cj]
      · simp at h
    · simp at h
  | .agg xs, y, ps, h => by
    simp only [view] at h
    split at h
    · rename_i ys q hq;simp at h;obtain ⟨_,rfl⟩:=h;simpa [Cj] using oK xs ys q hq
    · simp at h
  | .tup xs, y, ps, h => by
    simp only [view] at h
    split at h
    · rename_i ys q hq;simp at h;obtain ⟨_,rfl⟩:=h;simpa [Cj] using oK xs ys q hq
    · simp at h
  | .bool _,_,_,h=>by simp [view] at h;simp [h.2]
  | .int _ _,_,_,h=>by simp [view] at h;simp [h.2]
  | .str _,_,_,h=>by simp [view] at h;simp [h.2]
  | .nilp,_,_,h=>by simp [view] at h;simp [h.2]
  | .ptr _ _ _,_,_,h=>by simp [view] at h;simp [h.2]
  | .vp _,_,_,h=>by simp [view] at h;simp [h.2]
  | .nils,_,_,h=>by simp [view] at h;simp [h.2]
  | .ps _ _,_,_,h=>by simp [view] at h;simp [h.2]
  | .nilf,_,_,h=>by simp [view] at h;simp [h.2]
  | .fn _ _ _,_,_,h=>by simp [view] at h;simp [h.2]
  | .nili,_,_,h=>by simp [view] at h;simp [h.2]
  | .ifc _ _,_,_,h=>by simp [view] at h;simp [h.2]
  | .nilm,_,_,h=>by simp [view] at h;simp [h.2]
  | .map _,_,_,h=>by simp [view] at h;simp [h.2]
  | .any,_,_,h=>by simp [view] at h;simp [h.2]
theorem oK {g:Nat → Option Obj}:∀ (xs ys:List AV) (ps:List (Nat × Obj)),views g xs=some (ys,ps) → ∀ p ∈ ps,p.1 ∈ fF xs
  | [],_,_,h=>by simp [views] at h;simp [h.2]
  | x :: r, ys, ps, h => by
    simp only [views] at h
    split at h
    · rename_i y p ys' q h1 h2
      simp at h;obtain ⟨_,rfl⟩:=h
      intro z hz
      simp only [List.mem_append] at hz
      simp only [fF,List.mem_append]
      rcases hz with hz | hz
      · exact .inl (O7 x y p h1 z hz)
      · exact .inr (oK r ys' q h2 z hz)
    · simp at h
theorem EP {n:Nat} {g g':Nat → Option Obj} (xs:List AV) (h:∀ id ∈ fF xs,g id=g' id):jM n g xs=jM n g' xs:=by
  unfold jM;split
  · rfl
  · exact kZ xs h
theorem Jk {n:Nat} {g:Nat → Option Obj} (xs ys:List AV) (ps:List (Nat × Obj)) (h:jM n g xs=some (ys,ps)):∀ p ∈ ps,p.1 ∈ fF xs:=by
  unfold jM at h;split at h
  · simp only [Option.some.injEq,Prod.mk.injEq] at h;rw [← h.2];simp
  · exact oK xs ys ps h
end
theorem Py {g g':Nat → Option Obj} {x:AV} (h:∀ id ∈ fH x,g id=g' id):rd g x=rd g' x:=by
  cases x <;> simp only [rd]
  case ptr b e o=>rw [h b (by simp [fH])]
theorem qR {g g':Nat → Option Obj} {x:AV} (z:Nat) (h:∀ id ∈ fH x,g id=g' id):rowOf g z x=rowOf g' z x:=by
  cases x <;> simp only [rowOf]
  case sl b e o n z'=>rw [h b (by simp [fH])]
theorem Jb {g g':Nat → Option Obj} {s:AV} {q:Bool} {z b nx n:Nat} {xs:List AV} (h:∀ id ∈ fH s,g id=g' id):vK q z b g nx s n xs=vK q z b g' nx s n xs:=by
  cases s <;> (try rfl)
  case sl b e o n z'=>unfold vK;simp only [h b (by simp [fH])]
theorem JN {g g':Nat → Option Obj} {d:AV} {z n:Nat} {xs:List AV} (h:∀ id ∈ fH d,g id=g' id):ED z g d n xs=ED z g' d n xs:=by
  cases d <;> (try rfl)
  case sl b e o n z'=>unfold ED;simp only [h b (by simp [fH])]
theorem ME {F:List AV} {o:jy} {g g':Nat → Option Obj} (n:Nat) (h:∀ id ∈ jX o F,g id=g' id):bn o F g n=bn o F g' n:=by
  cases o <;> (try rfl) <;> simp only [jX] at h
  case load q a=>simp only [bn];rw [Py h]
  case store q a x=>
    simp only [bn]
    cases ha:a.ev F <;> (try rfl)
    rename_i b e O
    rw [ha] at h
    simp only
    rw [h b (by simp [fH])]
  case bslice z m e ps=>simp only [bn];rw [EP _ h]
  case b2s x=>simp only [bn];rw [qR 1 h]
  case nxt x=>
    simp only [bn]
    cases ha:x.ev F <;> (try rfl)
    rename_i b e O
    have hb:=h b (by rw [ha];simp [fH])
    cases e <;> cases O <;> first | rfl | simp only [hb]
  case clr z x=>
    simp only [bn,Pe]
    cases ha:x.ev F <;> (try rfl)
    case ps n cs=>cases n <;> rfl
    case sl b e O n z'=>
      have hb:=h b (by rw [ha];simp [fH])
      simp only [hb]
  case lkp tr z ok m k=>
    simp only [bn]
    cases ha:m.ev F <;> (try rfl)
    rename_i b
    rw [ha] at h
    simp only
    rw [h b (by simp [fH])]
  case mup tr m k v=>
    simp only [bn]
    cases ha:m.ev F <;> (try rfl)
    rename_i b
    rw [ha] at h
    simp only
    rw [h b (by simp [fH])]
  case cpy z d s=>
    simp only [bn]
    rw [qR z (x:=s.ev F) (fun id hi=>h id (by simp [hi]))]
    have h1:∀ (n:Nat) (xs:List AV),ED z g (d.ev F) n xs=ED z g' (d.ev F) n xs:=fun n xs=>JN (fun id hi=>h id (by simp [hi]))
    simp only [h1]
  case app z b st x y=>
    simp only [bn]
    have h1:∀ (q:Bool) (nx n:Nat) (xs:List AV),vK q z b g nx (x.ev F) n xs=vK q z b g' nx (x.ev F) n xs:=fun q nx n xs=>Jb (fun id hi=>h id (by simp [hi]))
    rw [qR z (x:=y.ev F) (fun id hi=>h id (by simp [hi]))]
    simp only [h1]
theorem Gh {g:Nat → Option Obj} {s v:AV} {q:Bool} {z b nx n:Nat} {xs:List AV} {ps:List (Nat × Obj)} {qs:List Obj} (h:vK q z b g nx s n xs=some (v,ps,qs)):∀ p ∈ ps,p.1 ∈ fH s:=by
  unfold vK at h
  split at h
  · split at h <;> simp at h
    simp [h.2.1]
  · split at h
    · split at h
      · split at h
        · simp at h;simp [h.2.1]
        · simp at h
      · split at h
        · split at h
          · simp at h;simp [h.2.1.symm,fH]
          · simp at h
        · simp at h
      · simp at h
    · simp at h
theorem Tn {F:List AV} {o:jy} {g:Nat → Option Obj} {n:Nat} {v:AV} {ps:List (Nat × Obj)} {qs:List Obj} (h:bn o F g n=some (v,ps,qs)):∀ p ∈ ps,p.1 ∈ jX o F:=by
  cases o
  case store q a x=>
    simp only [bn] at h
    split at h
    · rename_i b e O ha
      split at h
      · split at h
        · simp at h;simp [h.2.1.symm,jX,ha,fH]
        · simp at h
      · simp at h
    · simp at h
  case bslice z m e ps'=>
    simp only [bn] at h
    split at h
    · rename_i xs vs hv
      split at h
      · simp at h;rw [← h.2.1];exact Jk _ xs vs hv
      · simp at h
    · simp at h
  case nxt x=>
    simp only [bn] at h
    split at h
    · rename_i b ha
      split at h
      · split at h
        · simp at h;simp [h.2.1.symm,jX,ha,fH]
        · simp at h;simp [h.2.1]
      · simp at h
    · simp at h
  case clr z x=>
    simp only [bn,Pe] at h
    split at h
    · simp at h;simp [h.2.1]
    · simp at h;simp [h.2.1]
    · rename_i b e O n z' ha
      split at h
      · split at h
        · simp at h;simp [h.2.1.symm,jX,ha,fH]
        · simp at h
      · simp at h
    · simp at h
  case mup tr m k v=>
    simp only [bn] at h
    split at h
    · split at h
      · rename_i b ha
        split at h
        · split at h
          · simp at h;simp [h.2.1.symm,jX,ha,fH]
          · simp at h
        · simp at h
      · simp at h
    · simp at h
  case cpy z d s=>
    simp only [bn] at h
    split at h
    · rename_i n xs hr
      unfold ED at h
      split at h
      · rename_i b e o m z' hd
        split at h
        · split at h
          · simp at h;simp [h.2.1.symm,jX,hd,fH]
          · simp at h
        · simp at h
      · simp at h
    · simp at h
  case app z b st x y=>
    simp only [bn] at h
    intro p hp
    simp only [jX,List.mem_append]
    split at h
    · split at h
      · exact .inl (Gh h p hp)
      · simp at h
    · split at h
      · exact .inl (Gh h p hp)
      · simp at h
  all_goals
    simp only [bn] at h
    repeat' (split at h)
    all_goals first | (simp at h;done) | (simp only [Option.some.injEq,Prod.mk.injEq] at h;simp [h.2.1.symm])
def St.keep (s:St) (D:List Nat):St:=⟨s.heap.filter fun x=>D.contains x.1,s.next⟩
theorem St.nu (s:St) (D:List Nat) (id:Nat):(s.keep D).get id=if D.contains id then s.get id else none:=by
  have:=fU (fun i=>D.contains i) id s.heap
  simpa [St.get,St.keep] using this
def vW (D:List Nat) (n n' id:Nat):Bool:=D.contains id || (decide (n ≤ id) && decide (id < n'))
def St.merge (s:St) (D:List Nat) (t:St):St:=
  ⟨(t.heap.filter fun x=>vW D s.next t.next x.1) ++ s.heap.filter fun x=>!vW D s.next t.next x.1,t.next⟩
theorem St.get_merge (s:St) (D:List Nat) (t:St) (id:Nat):(s.merge D t).get id=if vW D s.next t.next id then t.get id else s.get id:=by
  show look id (_ ++ _)=_
  rw [lS,fU (fun i=>vW D s.next t.next i) id t.heap,fU (fun i=>!vW D s.next t.next i) id s.heap]
  cases vW D s.next t.next id <;> simp [St.get]
theorem qj (s:St) (id:Nat) (o:Obj) (id':Nat):(s.put id o).get id'=if id=id' then (s.get id).map (fun _=>o) else s.get id':=jO id id' o s.heap
theorem zT (s:St) (D:List Nat) (ps:List (Nat × Obj)) (qs:List Obj) (h:∀ p ∈ ps,D.contains p.1=true) :
    (s.apply ps qs).next=((s.keep D).apply ps qs).next ∧ s.next ≤ (s.apply ps qs).next ∧
    (∀ id,(s.apply ps qs).get id=if D.contains id || (decide (s.next ≤ id) && decide (id < (s.apply ps qs).next)) then ((s.keep D).apply ps qs).get id else s.get id) ∧
    (∀ id,D.contains id=true → id < s.next → (∀ p ∈ ps,p.1 ≠ id) → ((s.keep D).apply ps qs).get id=s.get id):=by
  -- puts
  have puts:∀ (ps:List (Nat × Obj)) (s t:St),(∀ p ∈ ps,D.contains p.1=true) → s.next=t.next → (∀ id,t.get id=if D.contains id then s.get id else none) →
      (s.puts ps).next=(t.puts ps).next ∧ (s.puts ps).next=s.next ∧ (∀ id,(t.puts ps).get id=if D.contains id then (s.puts ps).get id else none) ∧ (∀ id,D.contains id=false → (s.puts ps).get id=s.get id) ∧
      (∀ id,(∀ p ∈ ps,p.1 ≠ id) → (s.puts ps).get id=s.get id):=by
    intro ps
    induction ps with
    | nil=>intro s t _ hn hg;exact ⟨hn,rfl,hg,fun _ _=>rfl,fun _ _=>rfl⟩
    | cons p r ih =>
      intro s t hp hn hg
      have hpD:=hp p (by simp)
      obtain ⟨a,b,c,d,e⟩:=ih (s.put p.1 p.2) (t.put p.1 p.2) (fun q hq=>hp q (by simp [hq])) hn (fun id=>by
        rw [qj,qj]
        by_cases he:p.1=id
        · subst he;simp only [if_true,hg,hpD]
        · simp only [if_neg he,hg])
      refine ⟨a,b,c,fun id hid=>?_,fun id hid=>?_⟩
      · rw [show s.puts (p :: r)=(s.put p.1 p.2).puts r from rfl,d id hid,qj,if_neg (fun he=>by subst he;rw [hpD] at hid;simp at hid)]
      · rw [show s.puts (p :: r)=(s.put p.1 p.2).puts r from rfl,e id (fun q hq=>hid q (by simp [hq])),qj,if_neg (hid p (by simp))]
  obtain ⟨a,b,c,d,e⟩:=puts ps s (s.keep D) h rfl (fun id=>St.nu s D id)
  -- pushes
  have pushes:∀ (qs:List Obj) (s1 t1:St),s1.next=t1.next → s.next ≤ s1.next → (∀ id,(D.contains id || (decide (s.next ≤ id) && decide (id < s1.next)))=true → t1.get id=s1.get id) → (∀ id,(D.contains id || (decide (s.next ≤ id) && decide (id < s1.next)))=false → s1.get id=s.get id) →
      (qs.foldl St.push s1).next=(qs.foldl St.push t1).next ∧ s.next ≤ (qs.foldl St.push s1).next ∧ (∀ id,(D.contains id || (decide (s.next ≤ id) && decide (id < (qs.foldl St.push s1).next)))=true → (qs.foldl St.push t1).get id=(qs.foldl St.push s1).get id) ∧
      (∀ id,(D.contains id || (decide (s.next ≤ id) && decide (id < (qs.foldl St.push s1).next)))=false → (qs.foldl St.push s1).get id=s.get id) ∧ (∀ id,id < s1.next → (qs.foldl St.push t1).get id=t1.get id):=by
    intro qs
    induction qs with
    | nil=>intro s1 t1 h1 h2 h3 h4;exact ⟨h1,h2,h3,h4,fun _ _=>rfl⟩
    | cons q r ih =>
      intro s1 t1 h1 h2 h3 h4
      have e1:(s1.push q).next=s1.next + 1:=rfl
      obtain ⟨i1,i2,i3,i4,i5⟩:=ih (s1.push q) (t1.push q) (by show s1.next + 1=t1.next + 1;omega) (by rw [e1];omega) (fun id hid=>by
        rw [St.dL,St.dL,← h1]
        split
        · rfl
        · rename_i hne
          refine h3 id ?_
          rw [e1] at hid
          simp only [Bool.or_eq_true,Bool.and_eq_true,decide_eq_true_eq] at hid ⊢
          rcases hid with hid | hid
          · exact .inl hid
          · exact .inr ⟨hid.1,by omega⟩) (fun id hid=>by
        rw [e1] at hid
        simp only [Bool.or_eq_false_iff,Bool.and_eq_false_iff,decide_eq_false_iff_not] at hid
        rw [St.dL,if_neg (by omega)]
        refine h4 id ?_
        simp only [Bool.or_eq_false_iff,Bool.and_eq_false_iff,decide_eq_false_iff_not]
        exact ⟨hid.1,by omega⟩)
      refine ⟨i1,i2,i3,i4,fun id hid=>?_⟩
      rw [show (q :: r).foldl St.push t1=r.foldl St.push (t1.push q) from rfl,i5 id (by rw [e1];omega),St.dL,if_neg (by omega)]
  obtain ⟨p1,p2,p3,p4,p5⟩:=pushes qs (s.puts ps) ((s.keep D).puts ps) a (by omega) (fun id hid=>by
    rw [c id]
    simp only [Bool.or_eq_true,Bool.and_eq_true,decide_eq_true_eq] at hid
    rcases hid with hid | hid
    · rw [if_pos hid]
    · omega) (fun id hid=>by
    simp only [Bool.or_eq_false_iff] at hid
    exact d id hid.1)
  refine ⟨p1,p2,fun id=>?_,fun id hD hlt hne=>?_⟩
  · split
    · rename_i hc;exact (p3 id hc).symm
    · rename_i hc;exact p4 id (eq_false_of_ne_true hc)
  · show (qs.foldl St.push ((s.keep D).puts ps)).get id=s.get id
    rw [p5 id (by omega),c id,if_pos hD]
    exact e id hne
end Go.AX
/- Regions that draw their order (3): whatever the order, what comes is what the order of the text gives. -/
namespace Go.AX
open Go
structure Entry where
  D:List Nat
  W:List Nat
  n:Nat
  n':Nat
  deriving Inhabited
def OO (P:Program) (op:jy) (F:List AV) (t:St) (v:AV) (t':St):Prop:=
  if dW op then ∃ f args,dP F op=some (f,args) ∧ aF P f args t (fun v2 t2=>v2=v ∧ t2=t')
  else ∃ ps qs,bn op F t.get t.next=some (v,ps,qs) ∧ t'=t.apply ps qs
def uP (P:Program) (o:aJ) (F:List AV) (s:St) (e:Entry) (F':List AV) (s':St):Prop:=
  e.n=s.next ∧ e.n'=s'.next ∧ e.n ≤ e.n' ∧ (∀ id ∈ e.D,id < e.n) ∧ (∀ id ∈ e.W,id ∈ e.D) ∧
  ((gd F o.guard=some false ∧ F'=fQ F o.dst (.tup []) ∧ s'=s ∧ e.W=[]) ∨
   (gd F o.guard=some true ∧ ∃ v t',F'=fQ F o.dst v ∧ OO P o.op F (s.keep e.D) v t' ∧ t'.next=e.n' ∧
      (∀ id,s'.get id=if e.D.contains id || (decide (e.n ≤ id) && decide (id < e.n')) then t'.get id else s.get id) ∧
      (∀ id ∈ e.D,id ∉ e.W → t'.get id=s.get id)))
def Wn (e:Entry) (id:Nat):Prop:=id ∈ e.W ∨ (e.n ≤ id ∧ id < e.n')
structure Uq (P:Program) (al:List aJ) (Fs:Nat → List AV) (ss:Nat → St) (es:Nat → Entry):Prop where
  step:∀ i o,al[i]? = some o → uP P o (Fs i) (ss i) (es i) (Fs (i + 1)) (ss (i + 1))
def Bit (M:List Nat) (j i:Nat):Prop:=(M.getD j 0).testBit i=true
def Iw (M:List Nat) (es:Nat → Entry) (N:Nat):Prop:=
  ∀ i j,i < j → j < N → ¬ Bit M j i → (∀ id,Wn (es i) id → id ∉ (es j).D) ∧ (∀ id,Wn (es j) id → id ∉ (es i).D)
theorem Iq (acc:List Nat):∀ (l:List Edge) (m i:Nat),(l.foldl (fun m e=>if Region.binds .any e then m ||| 2 ^ e.on ||| acc.getD e.on 0 else m) m).testBit i=true →
    m.testBit i=true ∨ ∃ e ∈ l,Region.binds .any e=true ∧ (i=e.on ∨ (acc.getD e.on 0).testBit i=true)
  | [],m,i,h=>.inl h
  | e :: r, m, i, h => by
    simp only [List.foldl_cons] at h
    rcases Iq acc r _ i h with h | ⟨e',he',hb,h⟩
    · split at h
      · rename_i hb
        simp only [Nat.testBit_or,Bool.or_eq_true] at h
        rcases h with (h | h) | h
        · exact .inl h
        · rw [Nat.testBit_two_pow] at h
          exact .inr ⟨e,by simp,hb,.inl (by simpa using (of_decide_eq_true h).symm)⟩
        · exact .inr ⟨e,by simp,hb,.inr h⟩
      · exact .inl h
    · exact .inr ⟨e',by simp [he'],hb,h⟩
theorem sI (acc:List Nat):∀ (l:List Edge) (m i:Nat),m.testBit i=true → (l.foldl (fun m e=>if Region.binds .any e then m ||| 2 ^ e.on ||| acc.getD e.on 0 else m) m).testBit i=true
  | [],m,i,h=>h
  | e :: r, m, i, h => by
    simp only [List.foldl_cons]
    refine sI acc r _ i ?_
    split
    · simp [Nat.testBit_or,h]
    · exact h
theorem sD (acc:List Nat):∀ (l:List Edge) (m:Nat) (e:Edge),e ∈ l → Region.binds .any e=true → (l.foldl (fun m e=>if Region.binds .any e then m ||| 2 ^ e.on ||| acc.getD e.on 0 else m) m).testBit e.on=true
  | [],m,e,h,_=>by simp at h
  | e' :: r, m, e, h, hb => by
    simp only [List.foldl_cons]
    simp only [List.mem_cons] at h
    rcases h with rfl | h
    · refine sI acc r _ _ ?_
      simp [hb,Nat.testBit_or,Nat.testBit_two_pow]
    · exact sD acc r _ e h hb
theorem pO:∀ (l:List Oper) (acc:List Nat),∃ M,dZ l acc=acc ++ M ∧ M.length=l.length ∧ ∀ j o,l[j]? = some o → M[j]? = some (uL (acc ++ M.take j) o)
  | [],acc=>⟨[],by simp [dZ],rfl,by simp⟩
  | o :: r, acc => by
    obtain ⟨M,h1,h2,h3⟩:=pO r (acc ++ [uL acc o])
    refine ⟨uL acc o :: M,by simp [dZ,h1],by simp [h2],fun j x hx=>?_⟩
    cases j with
    | zero=>simp at hx;subst hx;simp
    | succ j =>
      have:=h3 j x (by simpa using hx)
      simpa using this
theorem Cy {l:List Oper} {j i:Nat} {o:Oper} (hj:l[j]? = some o) (h:Bit (dZ l []) j i):∃ e ∈ o.after.toList,Region.binds .any e=true ∧ (i=e.on ∨ Bit (dZ l []) e.on i):=by
  obtain ⟨M,h1,h2,h3⟩:=pO l []
  simp only [List.nil_append] at h1 h3
  have hM:=h3 j o hj
  simp only [Bit,h1,List.getD_eq_getElem?_getD,hM,Option.getD_some] at h
  rcases Iq _ _ _ _ h with h | ⟨e,he,hb,h⟩
  · simp at h
  · refine ⟨e,he,hb,?_⟩
    rcases h with h | h
    · exact .inl h
    · right
      simp only [Bit,h1]
      simp only [List.getD_eq_getElem?_getD] at h ⊢
      by_cases hlt:e.on < j
      · rw [List.getElem?_take_of_lt hlt] at h;exact h
      · rw [List.getElem?_eq_none (by simp;omega)] at h;simp at h
theorem MH {l:List Oper} {j:Nat} {o:Oper} (hj:l[j]? = some o) {e:Edge} (he:e ∈ o.after.toList) (hb:Region.binds .any e=true):Bit (dZ l []) j e.on:=by
  obtain ⟨M,h1,h2,h3⟩:=pO l []
  simp only [List.nil_append] at h1 h3
  have hM:=h3 j o hj
  simp only [Bit,h1,List.getD_eq_getElem?_getD,hM,Option.getD_some]
  exact sD _ _ _ e he hb
theorem u7 {m:Nat} {o:aJ}:∀ {l:List aJ} {i:Nat},yg m o i l=true → ∀ k x,l[k]? = some x → m.testBit (i + k)=true ∨ meets x o=false
  | [],i,h,k,x,hx=>by simp at hx
  | y :: r, i, h, k, x, hx => by
    simp only [yg,Bool.and_eq_true,Bool.or_eq_true,Bool.not_eq_true'] at h
    cases k with
    | zero=>simp at hx;subst hx;exact h.1
    | succ k =>
      have:=u7 h.2 k x (by simpa using hx)
      simpa [Nat.add_assoc,Nat.add_comm 1 k] using this
theorem lQ {M:List Nat} {all:List aJ}:∀ {l:List aJ} {j:Nat},tJ M all j l=true → ∀ k o,l[k]? = some o → M.getD (j + k) 0 < 2 ^ (j + k) ∧ ∀ i x,i < j + k → all[i]? = some x → Bit M (j + k) i ∨ meets x o=false
  | [],j,h,k,o,ho=>by simp at ho
  | y :: r, j, h, k, o, ho => by
    simp only [tJ,Bool.and_eq_true,decide_eq_true_eq] at h
    cases k with
    | zero =>
      simp at ho;subst ho
      refine ⟨h.1.1,fun i x hi hx=>?_⟩
      have:=u7 h.1.2 i x (by rw [List.getElem?_take_of_lt (by simpa using hi)];exact hx)
      simpa [Bit] using this
    | succ k =>
      have:=lQ h.2 k o (by simpa using ho)
      simpa [Nat.add_assoc,Nat.add_comm 1 k] using this
theorem Dt {a b:aJ} {t:Nat} (h:a.dst=some t) (hb:t ∈ b.uses):meets a b=true:=by
  simp [meets,h,hb]
theorem yK {a b:aJ} {t:Nat} (h:b.dst=some t) (ha:t ∈ a.uses):meets a b=true:=by
  simp [meets,h,ha]
theorem CJ {a b:aJ} {t:Nat} (h:a.dst=some t) (hb:b.dst=some t):meets a b=true:=by
  simp [meets,h,hb]
def sG (us:List Nat) (F:List AV):List AV:=F.mapIdx fun i v=>if us.contains i then v else .any
theorem rP (us:List Nat) (F:List AV) (i:Nat):(sG us F)[i]? = (F[i]?).map fun v=>if us.contains i then v else .any:=by
  simp [sG]
theorem Nw (us:List Nat) (F:List AV):(sG us F).length=F.length:=by simp [sG]
theorem Vx {us:List Nat} {F:List AV} {x:AO} (h:∀ n,x=.t n → n ∈ us):x.ev (sG us F)=x.ev F:=by
  cases x with
  | k v=>rfl
  | t n =>
    have:=h n rfl
    simp only [AO.ev,List.getD_eq_getElem?_getD,rP]
    cases F[n]? <;> simp [this]
theorem VD {us:List Nat} {F:List AV} {g:Option (Option Nat × Bool)} (h:∀ t b,g=some (some t,b) → t ∈ us):gd (sG us F) g=gd F g:=by
  unfold gd
  split
  · rfl
  · rfl
  · rename_i t want
    have ht:=h t want rfl
    rw [rP]
    cases F[t]? with
    | none=>rfl
    | some v=>simp [ht]
theorem Np {P:Program} {op:jy} {F F':List AV} {t t':St} {v:AV} (h:∀ x ∈ op.yE,x.ev F=x.ev F') (hd:OO P op F t v t'):OO P op F' t v t':=by
  unfold OO at hd ⊢
  rw [DV h] at hd
  rw [Nr h] at hd
  exact hd
theorem Uk {o:aJ} {x:AO} (hx:x ∈ o.op.yE) (n:Nat) (h:x=.t n):n ∈ o.uses:=by
  subst h
  simp only [aJ.uses,List.mem_append,List.mem_filterMap]
  exact .inl ⟨.t n,hx,rfl⟩
theorem JF {o:aJ} {t:Nat} {b:Bool} (h:o.guard=some (some t,b)):t ∈ o.uses:=by
  simp only [aJ.uses,List.mem_append]
  right
  rw [h];simp
theorem Ww {P:Program} {o:Oper} {op:jy} {F:List AV} {t t':St} {v:AV} {c:Ctx} {w:World} {a:Act} {Qf:Exit → Act → World → Prop} (hop':(fu P o.op).getD .bad=op) (hs:Sat c t w) (hF:aB c F a.tmps.toList)
    (hd:OO P op F t v t') {K:Act → World → Prop} (hK:∀ c1 w1 u,aD c1 v u → Sat c1 t' w1 → Ext c t w c1 t' w1 → K (a.put o.dst u) w1) (ro:Option Nat):o.wpIn (fw ro) 0 P a w K Qf:=by
  unfold OO at hd
  split at hd
  · rename_i hcall
    have hop:=mR hop' (by rintro rfl;simp [dW] at hcall)
    obtain ⟨f,args,h1,h2⟩:=hd
    obtain ⟨vs,hvs,hrun⟩:=rA (w:=w) hF hop h1 h2.1
    refine mJ hrun (fun cl hcl=>by rw [hcl] at hop;simp [fu] at hop) ?_
    refine (h2.2 c w vs hs hvs).mono fun e w' hp=>?_
    obtain ⟨v2,u,c',s',rfl,g1,g2,g3,rfl,rfl⟩:=hp
    exact hK c' w' u g1 g2 g3
  · obtain ⟨ps,qs,h1,rfl⟩:=hd
    have hop:=mR hop' (by rintro rfl;simp [bn] at h1)
    obtain ⟨c',w',u,hrun,g1,g2,g3⟩:=vG (P:=P) hs (gu hF) hop h1
    rcases hrun with hrun | ⟨hrun,rfl⟩
    · exact jJ hrun (fun cl hcl=>by rw [hcl] at hop;simp [fu] at hop) <| hK c' w' u g1 g2 g3
    · exact oL hrun (fun cl hcl=>by rw [hcl] at hop;simp [fu] at hop) <| hK c' w' _ g1 g2 g3
theorem Nl {P:Program} {ro:Option Nat} {o:Oper} {a:Act} {w:World} {K:Act → World → Prop} (h:o.wpIn (fw ro) 0 P a w K (fun _ _ _=>False)):∃ a' w',K a' w':=by
  unfold Oper.wpIn at h
  replace h:=h.2
  generalize (o.semAt (fw ro).round a.eval).run P w=r at h
  cases r with
  | ok n w' =>
    cases n <;> simp only [Oper.uponIn] at h
    case value v=>exact ⟨_,_,h⟩
    case skip=>exact ⟨_,_,h⟩
    case defer d=>exact ⟨_,_,h⟩
    case enter f args=>
      obtain ⟨e,w2,fr,hr,_⟩:=h.2.2 [] (En _ _)
      cases e with
      | returned v=>exact ⟨_,_,hr⟩
      | panicked ch=>exact hr.elim
      | outgrown=>obtain ⟨_,_,hq⟩:=hr;exact hq.elim
    case row r as=>
      obtain ⟨v,w2,hr,_⟩:=h.2 default [] (En _ _)
      exact ⟨_,_,hr⟩
    case round l f tm as bd=>
      obtain ⟨e,w2,hr,_⟩:=h.2.2 default [] (En _ _)
      cases e with
      | returned v=>exact ⟨_,_,hr⟩
      | panicked ch=>exact hr.elim
      | outgrown=>obtain ⟨_,_,hq⟩:=hr;exact hq.elim
  | halt x w'=>cases x <;> simp only [Oper.uponIn] at h
end Go.AX
/- Regions that draw their order (4): the induction over the orders. -/
set_option linter.unusedSectionVars false
namespace Go.AX
open Go
section
variable {P:Program} {ops:Array Oper} {al:List aJ} {M:List Nat} {N:Nat} {Fs:Nat → List AV} {ss:Nat → St} {es:Nat → Entry}
structure yC (P:Program) (ops:Array Oper) (al:List aJ) (M:List Nat) (N:Nat) (Fs:Nat → List AV) (ss:Nat → St) (es:Nat → Entry):Prop where
  com:dM P ops ops.toList=some al
  len:al.length=ops.size
  size:N ≤ ops.size
  masks:M=dZ ops.toList []
  ok:tJ M al 0 al=true
  run:∀ i,i < N → ∀ o,al[i]? = some o → uP P o (Fs i) (ss i) (es i) (Fs (i + 1)) (ss (i + 1))
  ind:Iw M es N
theorem rT {ops:Array Oper}:∀ {l:List Oper} {al:List aJ},dM P ops l=some al → al.length=l.length ∧ ∀ (i:Nat) (o:Oper),l[i]? = some o → ∃ ao,al[i]? = some ao ∧ sH P ops o=some ao
  | [],al,h=>by simp [dM] at h;subst h;simp
  | o :: r, al, h => by
    simp only [dM] at h
    split at h
    · rename_i x xs h1 h2
      simp at h;subst h
      obtain ⟨a,b⟩:=rT h2
      refine ⟨by simp [a],fun i y hy=>?_⟩
      cases i with
      | zero=>simp at hy;subst hy;exact ⟨x,by simp,h1⟩
      | succ i=>obtain ⟨ao,p,q⟩:=b i y (by simpa using hy);exact ⟨ao,by simpa using p,q⟩
    · simp at h
variable (R:yC P ops al M N Fs ss es)
include R
theorem yC.op {i:Nat} (hi:i < N):∃ o ao op,ops[i]? = some o ∧ al[i]? = some ao ∧ sH P ops o=some ao ∧ (fu P o.op).getD .bad=op ∧ ao.op=op ∧ ao.dst=o.dst ∧ ao.guard=o.guard.map (fun g=>((ops[g.1]?).bind (·.dst),g.2)) ∧ uP P ao (Fs i) (ss i) (es i) (Fs (i + 1)) (ss (i + 1)):=by
  obtain ⟨h1,h2⟩:=rT R.com
  have hs:i < ops.size:=Nat.lt_of_lt_of_le hi R.size
  obtain ⟨ao,h3,h4⟩:=h2 i ops[i] (by simp [hs])
  refine ⟨ops[i],ao,?_⟩
  refine ⟨_,by simp [hs],h3,h4,rfl,?_⟩
  unfold sH at h4
  simp only [Option.some.injEq] at h4;subst h4
  exact ⟨rfl,rfl,rfl,R.run i hi _ h3⟩
theorem yC.nexts {i:Nat} (hi:i < N):(es i).n=(ss i).next ∧ (es i).n'=(ss (i + 1)).next ∧ (es i).n ≤ (es i).n':=by
  obtain ⟨o,ao,op,_,_,_,_,_,_,_,hst⟩:=R.op hi
  exact ⟨hst.1,hst.2.1,hst.2.2.1⟩
theorem yC.mono {i j:Nat} (hij:i ≤ j) (hj:j ≤ N):(ss i).next ≤ (ss j).next:=by
  induction j with
  | zero => have : i = 0 := by omega
            subst this;exact Nat.le_refl _
  | succ j ih =>
    by_cases h:i=j + 1
    · subst h;exact Nat.le_refl _
    · have h1:=ih (by omega) (by omega)
      obtain ⟨a,b,c⟩:=R.nexts (i:=j) (by omega)
      omega
theorem yC.JZ {i:Nat} (hi:i ≤ N):(Fs i).length=(Fs 0).length:=by
  induction i with
  | zero=>rfl
  | succ i ih =>
    obtain ⟨o,ao,op,_,_,_,_,_,_,_,hst⟩:=R.op (i:=i) (by omega)
    have hl:∀ (F:List AV) d v,(fQ F d v).length=F.length:=fun F d v=>by cases d <;> simp [fQ]
    rcases hst.2.2.2.2.2 with ⟨_,h,_⟩ | ⟨_,v,t',h,_⟩ <;> rw [h,hl] <;> exact ih (by omega)
theorem yC.V4 {t m m':Nat} (h:m ≤ m') (hm:m' ≤ N) (hw:∀ i,m ≤ i → i < m' → ∀ ao,al[i]? = some ao → ao.dst ≠ some t):(Fs m').getD t .any=(Fs m).getD t .any:=by
  induction m' with
  | zero => have : m = 0 := by omega
            subst this;rfl
  | succ k ih =>
    by_cases he:m=k + 1
    · subst he;rfl
    · rw [← ih (by omega) (by omega) fun i a b=>hw i a (by omega)]
      obtain ⟨o,ao,op,_,hao,_,_,_,_,_,hst⟩:=R.op (i:=k) (by omega)
      have hne:=hw k (by omega) (by omega) ao hao
      have key:∀ v,(fQ (Fs k) ao.dst v).getD t .any=(Fs k).getD t .any:=fun v=>by
        cases hd:ao.dst with
        | none=>rfl
        | some d =>
          have:d ≠ t:=fun e=>hne (by rw [hd,e])
          simp only [fQ,List.getD_eq_getElem?_getD]
          rw [List.getElem?_set_ne this]
      rcases hst.2.2.2.2.2 with ⟨_,h,_⟩ | ⟨_,v,t',h,_⟩ <;> rw [h] <;> exact key _
theorem yC.CW {x m m':Nat} (h:m ≤ m') (hm:m' ≤ N) (hw:∀ i,m ≤ i → i < m' → ¬ Wn (es i) x):(ss m').get x=(ss m).get x:=by
  induction m' with
  | zero => have : m = 0 := by omega
            subst this;rfl
  | succ k ih =>
    by_cases he:m=k + 1
    · subst he;rfl
    · rw [← ih (by omega) (by omega) fun i a b=>hw i a (by omega)]
      obtain ⟨o,ao,op,_,hao,_,_,_,_,_,hst⟩:=R.op (i:=k) (by omega)
      have hne:=hw k (by omega) (by omega)
      obtain ⟨hn,hn',hle,hD,hWD,hcase⟩:=hst
      rcases hcase with ⟨_,_,h,_⟩ | ⟨_,v,t',_,_,_,hg,hk⟩
      · rw [h]
      · rw [hg x]
        split
        · rename_i hc
          simp only [Bool.or_eq_true,Bool.and_eq_true,decide_eq_true_eq,List.contains_iff_mem] at hc
          rcases hc with hc | hc
          · exact hk x hc (fun hx=>hne (.inl hx))
          · exact (hne (.inr hc)).elim
        · rfl
def Un (es:Nat → Entry) (top N:Nat) (listed:Array Bool) (id:Nat):Prop:=top ≤ id ∨ ∃ i,i < N ∧ listed.getD i false=false ∧ (es i).n ≤ id ∧ id < (es i).n'
structure Inv (ds:List Deferred) (al:List aJ) (M:List Nat) (N:Nat) (Fs:Nat → List AV) (ss:Nat → St) (es:Nat → Entry) (c0:Ctx) (w0:World) (listed:Array Bool) (c:Ctx) (H:Nat → Option Obj) (a:Act) (w:World):Prop where
  sat:OC c H (Un es (ss N).next N listed) w
  ext:ES c0 (ss 0).get w0 c H w
  sig:∀ id,id < (ss 0).next → (ss 0).get id=none → ∀ e,c.σ id e=c0.σ id e
  dom:∀ id o,H id=some o → (∃ o',(ss 0).get id=some o') ∨ (ss 0).next ≤ id
  down:∀ i j,listed.getD i false=true → Bit M i j → listed.getD j false=true
  size:listed.size=al.length
  tail:∀ i,N ≤ i → listed.getD i false=false
  hp:∀ x m,m ≤ N → (∀ i,i < N → Wn (es i) x → (listed.getD i false=true ↔ i < m)) → H x=(ss m).get x
  JZ:a.tmps.size=(Fs 0).length
  fr:∀ t m,m ≤ N → (∀ i ao,i < N → al[i]? = some ao → ao.dst=some t → (listed.getD i false=true ↔ i < m)) → aD c ((Fs m).getD t .any) (a.tmps.getD t undef)
  defs:a.defers=ds
def ClosedAt (F:List AV) (s:St):Prop:=(∀ id o,s.get id=some o → NQ s.next o ∧ id < s.next) ∧ Cls s.next F
theorem yC.conf {i j:Nat} (hi:i < N) (hj:j < N) (hij:i ≠ j) (h:(∃ id,Wn (es i) id ∧ id ∈ (es j).D) ∨ (∃ id,Wn (es j) id ∧ id ∈ (es i).D)):(i < j ∧ Bit M j i) ∨ (j < i ∧ Bit M i j):=by
  rcases Nat.lt_or_ge i j with hl | hl
  · by_cases hb:Bit M j i
    · exact .inl ⟨hl,hb⟩
    · obtain ⟨a,b⟩:=R.ind i j hl hj hb
      rcases h with ⟨id,h1,h2⟩ | ⟨id,h1,h2⟩
      · exact (a id h1 h2).elim
      · exact (b id h1 h2).elim
  · have hl':j < i:=by omega
    by_cases hb:Bit M i j
    · exact .inr ⟨hl',hb⟩
    · obtain ⟨a,b⟩:=R.ind j i hl' hi hb
      rcases h with ⟨id,h1,h2⟩ | ⟨id,h1,h2⟩
      · exact (b id h1 h2).elim
      · exact (a id h1 h2).elim
theorem yC.Wd {i j:Nat} {a b:aJ} (hi:al[i]? = some a) (hj:al[j]? = some b) (hij:i ≠ j) (h:∃ t,(a.dst=some t ∧ (t ∈ b.uses ∨ b.dst=some t)) ∨ (b.dst=some t ∧ t ∈ a.uses)):(i < j ∧ Bit M j i) ∨ (j < i ∧ Bit M i j):=by
  obtain ⟨t,h⟩:=h
  rcases Nat.lt_or_ge i j with hl | hl
  · left
    refine ⟨hl,?_⟩
    rcases (lQ R.ok j b hj).2 i a (by omega) hi with hb | hm
    · simpa using hb
    · rcases h with ⟨h1,h2 | h2⟩ | ⟨h1,h2⟩
      · rw [Dt h1 h2] at hm;simp at hm
      · rw [CJ h1 h2] at hm;simp at hm
      · rw [yK h1 h2] at hm;simp at hm
  · right
    have hl':j < i:=by omega
    refine ⟨hl',?_⟩
    rcases (lQ R.ok i a hi).2 j b (by omega) hj with hb | hm
    · simpa using hb
    · rcases h with ⟨h1,h2 | h2⟩ | ⟨h1,h2⟩
      · rw [yK h1 h2] at hm;simp at hm
      · rw [CJ h2 h1] at hm;simp at hm
      · rw [Dt h1 h2] at hm;simp at hm
theorem yC.ready {ds:List Deferred} {c0:Ctx} {w0:World} {listed:Array Bool} {c:Ctx} {H:Nat → Option Obj} {a:Act} {w:World} (I:Inv ds al M N Fs ss es c0 w0 listed c H a w) {j:Nat} (hr:j ∈ Region.ready .any ops listed) :
    j < al.length ∧ listed.getD j false=false ∧ ∀ i,Bit M j i → listed.getD i false=true:=by
  rw [mem_ready] at hr
  obtain ⟨h0,o,ho,hall⟩:=hr
  have hj:j < al.length:=by rw [R.len];exact (Array.getElem?_eq_some_iff.1 ho).1
  have hl0:listed.getD j false=false:=by
    have hlt:j < listed.size:=by rw [I.size];exact hj
    simp [Array.getD,hlt] at h0 ⊢;exact h0
  refine ⟨hj,hl0,fun i hb=>?_⟩
  rw [R.masks] at hb
  obtain ⟨e,he,hbd,h⟩:=Cy (by simpa using ho) hb
  have hl:=hall e (by simpa using he) hbd
  rcases h with rfl | h
  · exact hl
  · exact I.down _ _ hl (by rw [R.masks];exact h)
theorem yC.sN {listed:Array Bool} {j:Nat} (hs:listed.size=al.length) (hj:j < al.length) (i:Nat):(listed.setIfInBounds j true).getD i false=if i=j then true else listed.getD i false:=by
  by_cases h:i=j
  · subst h;simp [hs,hj]
  · simp only [Array.getD_eq_getD_getElem?,if_neg h];rw [Array.getElem?_setIfInBounds_ne (Ne.symm h)]
set_option maxHeartbeats 800000 in
theorem yC.more {ds:List Deferred} {c0:Ctx} {w0:World} {listed:Array Bool} {c:Ctx} {H:Nat → Option Obj} {a:Act} {w:World} (I:Inv ds al M N Fs ss es c0 w0 listed c H a w) {j:Nat} (hr:j ∈ Region.ready .any ops listed) (hj:j < N)
    (hcl:ClosedAt (Fs j) (ss j)) (ro:Option Nat) {Qf:Exit → Act → World → Prop} {K:Act → World → Prop}
    (hK:∀ c' H' a' w',Inv ds al M N Fs ss es c0 w0 (listed.setIfInBounds j true) c' H' a' w' → K a' w') :
    wpOpIn (fw ro) 0 P ops Qf j K a w ∧ (∀ o,ops[j]? = some o → Region.wanted o (yielded ops a.tmps)=true → o.wpIn (fw ro) 0 P a w K Qf):=by
  obtain ⟨hja,hl0,hbits⟩:=R.ready I hr
  obtain ⟨o,ao,op,ho,hao,hcom,hop,rfl,hdst,hgu,hst⟩:=R.op hj
  obtain ⟨hn,hn',hle,hD,hWD,hcase⟩:=hst
  have hlset:=R.sN I.size hja
  -- who else writes what is looked at
  have hxD:∀ x ∈ (es j).D,∀ i,i < N → Wn (es i) x → (listed.getD i false=true ↔ i < j):=fun x hx i hi hw=>by
    by_cases hij:i=j
    · subst hij;rw [hl0];simp
    · rcases R.conf hi hj hij (.inl ⟨x,hw,hx⟩) with ⟨hlt,hb⟩ | ⟨hlt,hb⟩
      · exact ⟨fun _=>hlt,fun _=>hbits i hb⟩
      · refine ⟨fun hl=>?_,fun h=>by omega⟩
        have:=I.down i j hl hb
        rw [hl0] at this;simp at this
  have hxW:∀ x,Wn (es j) x → ∀ i,i < N → i ≠ j → Wn (es i) x → (listed.getD i false=true ↔ i < j):=fun x hx i hi hij hw=>by
    have hcf:(∃ id,Wn (es i) id ∧ id ∈ (es j).D) ∨ (∃ id,Wn (es j) id ∧ id ∈ (es i).D):=by
      rcases hx with hx | hx
      · exact .inl ⟨x,hw,hWD x hx⟩
      · rcases hw with hw | hw
        · obtain ⟨_,_,_,_,_,_,_,_,_,_,hsti⟩:=R.op hi
          exact .inr ⟨x,.inr hx,hsti.2.2.2.2.1 x hw⟩
        · exfalso
          obtain ⟨a1,a2,a3⟩:=R.nexts hi
          rcases Nat.lt_or_ge i j with hl | hl
          · have:=R.mono (i:=i + 1) (j:=j) (by omega) (by omega);omega
          · have:=R.mono (i:=j + 1) (j:=i) (by omega) (by omega);omega
    rcases R.conf hi hj hij hcf with ⟨hlt,hb⟩ | ⟨hlt,hb⟩
    · exact ⟨fun _=>hlt,fun _=>hbits i hb⟩
    · refine ⟨fun hl=>?_,fun h=>by omega⟩
      have:=I.down i j hl hb
      rw [hl0] at this;simp at this
  have htu:∀ t,(t ∈ ao.uses) → ∀ i x,i < N → al[i]? = some x → x.dst=some t → (listed.getD i false=true ↔ i < j):=fun t ht i x hi hx hd=>by
    by_cases hij:i=j
    · subst hij;rw [hl0];simp
    · rcases R.Wd hx hao hij ⟨t,.inl ⟨hd,.inl ht⟩⟩ with ⟨hlt,hb⟩ | ⟨hlt,hb⟩
      · exact ⟨fun _=>hlt,fun _=>hbits i hb⟩
      · refine ⟨fun hl=>?_,fun h=>by omega⟩
        have:=I.down i j hl hb
        rw [hl0] at this;simp at this
  have htd:∀ t,ao.dst=some t → ∀ i x,i < N → i ≠ j → al[i]? = some x → x.dst=some t → (listed.getD i false=true ↔ i < j):=fun t ht i x hi hij hx hd=>by
    rcases R.Wd hx hao hij ⟨t,.inl ⟨hd,.inr ht⟩⟩ with ⟨hlt,hb⟩ | ⟨hlt,hb⟩
    · exact ⟨fun _=>hlt,fun _=>hbits i hb⟩
    · refine ⟨fun hl=>?_,fun h=>by omega⟩
      have:=I.down i j hl hb
      rw [hl0] at this;simp at this
  -- the frame that it looks at
  have hFl:(Fs j).length=(Fs 0).length:=R.JZ (by omega)
  have hF:aB c (sG ao.uses (Fs j)) a.tmps.toList:=by
    refine aB.eU (by rw [Nw,hFl];simpa using I.JZ) fun t x u hx hu=>?_
    rw [rP] at hx
    obtain ⟨v,hv,rfl⟩:=Option.map_eq_some_iff.1 hx
    by_cases ht:ao.uses.contains t=true
    · rw [if_pos ht]
      have:=I.fr t j (by omega) (htu t (by simpa using ht))
      have e1:(Fs j).getD t .any=v:=by simp [List.getD_eq_getElem?_getD,hv]
      have e2:a.tmps.getD t undef=u:=by
        have:a.tmps[t]? = some u:=by simpa using hu
        simp [Array.getD_eq_getD_getElem?,this]
      rw [e1,e2] at this
      exact this
    · rw [if_neg ht];simp [aD]
  have hg:∀ b,gd (Fs j) ao.guard=some b → Region.wanted o (yielded ops a.tmps)=b:=fun b hb=>by
    refine qY (F:=sG ao.uses (Fs j)) hF ?_
    rw [← hgu]
    rw [VD (fun t b' h=>JF h)]
    exact hb
  -- the frames afterwards
  have hdown':∀ i k,(listed.setIfInBounds j true).getD i false=true → Bit M i k → (listed.setIfInBounds j true).getD k false=true:=fun i k hi hb=>by
    rw [hlset] at hi ⊢
    by_cases hk:k=j
    · simp [hk]
    · rw [if_neg hk]
      by_cases hi':i=j
      · subst hi';exact hbits k hb
      · rw [if_neg hi'] at hi;exact I.down i k hi hb
  have hfr':∀ (v:AV) (c':Ctx) (u:Value),Fs (j + 1)=fQ (Fs j) ao.dst v → c.le c' → aD c' v u → ∀ t m,m ≤ N → (∀ i x,i < N → al[i]? = some x → x.dst=some t → ((listed.setIfInBounds j true).getD i false=true ↔ i < m)) →
      aD c' ((Fs m).getD t .any) ((a.put o.dst u).tmps.getD t undef):=by
    intro v c' u hFs hcc hvu t m hm hcond
    rw [← hdst]
    by_cases ht:ao.dst=some t
    · have hjm:j < m:=(hcond j ao hj hao ht).1 (by rw [hlset];simp)
      have CW:(Fs m).getD t .any=(Fs (j + 1)).getD t .any:=R.V4 (by omega) hm fun i h1 h2 x hx hd=>by
        have hi:i < N:=by omega
        have h3:=(hcond i x hi hx hd).2 h2
        rw [hlset,if_neg (by omega)] at h3
        have:=(htd t ht i x hi (by omega) hx hd).1 h3
        omega
      rw [CW,hFs,ht]
      simp only [fQ,Act.put,List.getD_eq_getElem?_getD,Array.getD_eq_getD_getElem?]
      by_cases htl:t < (Fs j).length
      · rw [List.getElem?_set_self htl,Array.getElem?_setIfInBounds_self_of_lt (by rw [I.JZ,← hFl];exact htl)]
        exact hvu
      · rw [List.getElem?_eq_none (by simp;omega)];simp [aD]
    · have hold:=I.fr t m hm fun i x hi hx hd=>by
        have h3:=hcond i x hi hx hd
        have hij:i ≠ j:=fun e=>by subst e;rw [hao] at hx;cases hx;exact ht hd
        rw [hlset,if_neg hij] at h3
        exact h3
      have e:(a.put ao.dst u).tmps.getD t undef=a.tmps.getD t undef:=by
        cases hd:ao.dst with
        | none=>rfl
        | some d =>
          have:d ≠ t:=fun e=>ht (by rw [hd,e])
          simp only [Act.put,Array.getD_eq_getD_getElem?]
          rw [Array.getElem?_setIfInBounds_ne this]
      rw [e]
      exact hold.mono hcc
  have hsz':∀ u,(a.put o.dst u).tmps.size=(Fs 0).length:=fun u=>by
    rw [← I.JZ];cases o.dst <;> simp [Act.put]
  have hdf':∀ u,(a.put o.dst u).defers=ds:=fun u=>by rw [put_defers];exact I.defs
  have htail':∀ i,N ≤ i → (listed.setIfInBounds j true).getD i false=false:=fun i hi=>by
    rw [hlset,if_neg (by omega)];exact I.tail i hi
  have hls':(listed.setIfInBounds j true).size=al.length:=by simpa using I.size
  rcases hcase with ⟨hgd,hFs,hss,hW⟩ | ⟨hgd,v,t',hFs,hdet,htn,hget,hkeep⟩
  · -- it is passed by
    have hw:=hg _ hgd
    have hnn:(es j).n=(es j).n':=by rw [hn,hn',hss]
    have hWn:∀ x,¬ Wn (es j) x:=fun x hx=>by
      rcases hx with hx | hx
      · rw [hW] at hx;simp at hx
      · omega
    have I':Inv ds al M N Fs ss es c0 w0 (listed.setIfInBounds j true) c H (a.put o.dst undef) w:=by
      refine ⟨⟨I.sat.mem,I.sat.obj,I.sat.inj,fun id e hu=>?_,I.sat.top,I.sat.low⟩,I.ext,I.sig,I.dom,hdown',hls',htail',fun x m hm hcond=>?_,hsz' _,hfr' (.tup []) c undef hFs (Ctx.le_refl c) (by simp [aD,aB,undef]),hdf' _⟩
      · refine I.sat.fresh id e ?_
        rcases hu with hu | ⟨i,hi,hl,h1,h2⟩
        · exact .inl hu
        · rw [hlset] at hl
          split at hl
          · simp at hl
          · exact .inr ⟨i,hi,hl,h1,h2⟩
      · refine I.hp x m hm fun i hi hw=>?_
        have:=hcond i hi hw
        have hij:i ≠ j:=fun e=>by subst e;exact hWn x hw
        rwa [hlset,if_neg hij] at this
    refine ⟨?_,fun o' ho' hw'=>by rw [ho] at ho';cases ho';rw [hw] at hw';simp at hw'⟩
    unfold wpOpIn
    rw [ho]
    simp only [hw,Bool.false_eq_true,if_false]
    exact ⟨fun _ _=>trivial,hK _ _ _ _ I'⟩
  · -- it is done
    have hw:=hg _ hgd
    have htget:∀ id,((ss j).keep (es j).D).get id=if (es j).D.contains id then H id else none:=fun id=>by
      rw [St.nu]
      split
      · rename_i hc
        exact (I.hp id j (by omega) (hxD id (by simpa using hc))).symm
      · rfl
    have hknext:((ss j).keep (es j).D).next=(ss j).next:=rfl
    obtain ⟨hS,hloc⟩:=I.sat.local (D:=(es j).D) (t:=(ss j).keep (es j).D) htget
      (fun id ob hg'=>by
        rw [St.nu] at hg'
        split at hg'
        · exact (hcl.1 id ob hg').1
        · simp at hg')
      (fun id ob hg'=>by
        rw [St.nu] at hg'
        split at hg'
        · exact (hcl.1 id ob hg').2
        · simp at hg')
    have hFc:aB (c.cut (ss j).next) (sG ao.uses (Fs j)) a.tmps.toList:=oz _ _ hF (Cls.eU fun i x hx=>by
      rw [rP] at hx
      obtain ⟨v',hv',rfl⟩:=Option.map_eq_some_iff.1 hx
      split
      · exact Cls.get hcl.2 i v' hv'
      · simp [Cl])
    have hdet':OO P ao.op (sG ao.uses (Fs j)) ((ss j).keep (es j).D) v t':=Np (fun x hx=>(Vx (fun n hn=>Uk hx n hn)).symm) hdet
    have key:o.wpIn (fw ro) 0 P a w K Qf:=Ww (ro:=ro) hop hS hFc hdet' fun c1 w1 u hvu h1 hx=>by
      obtain ⟨c2,s1,s2,s3,s4⟩:=hloc c1 t' w1 h1 hx (fun id h1 h2=>.inr ⟨j,hj,hl0,by rw [hn];exact h1,by rw [htn] at h2;exact h2⟩)
      rw [hknext,htn] at s1 s2
      refine hK c2 _ _ _ ⟨?_,I.ext.trans s2,fun id hid hnone e=>?_,fun id ob hg'=>?_,hdown',hls',htail',fun x m hm hcond=>?_,hsz' _,hfr' v c2 u hFs s2.le (hvu.mono s3),hdf' _⟩
      · refine ⟨s1.mem,s1.obj,s1.inj,fun id e hu=>s1.fresh id e ?_,s1.top,s1.low⟩
        have h2:=R.mono (i:=j + 1) (j:=N) (by omega) (Nat.le_refl _)
        rcases hu with hu | ⟨i,hi,hl,h3,h4⟩
        · exact ⟨.inl hu,by omega⟩
        · rw [hlset] at hl
          split at hl
          · simp at hl
          · rename_i hij
            refine ⟨.inr ⟨i,hi,hl,h3,h4⟩,?_⟩
            obtain ⟨b1,b2,b3⟩:=R.nexts hi
            rcases Nat.lt_or_ge i j with hl2 | hl2
            · have:=R.mono (i:=i + 1) (j:=j) (by omega) (by omega);omega
            · have:=R.mono (i:=j + 1) (j:=i) (by omega) (by omega);omega
      · have h0:=R.mono (i:=0) (j:=j) (by omega) (by omega)
        have hHn:H id=none:=by
          cases hH:H id with
          | none=>rfl
          | some ob =>
            rcases I.dom id ob hH with ⟨o',ho'⟩ | hge
            · rw [hnone] at ho';simp at ho'
            · omega
        rw [s4 id (by rw [hknext];omega) hHn,I.sig id hid hnone]
      · have h0:=R.mono (i:=0) (j:=j) (by omega) (by omega)
        have old:∀ ob,H id=some ob → (∃ o',(ss 0).get id=some o') ∨ (ss 0).next ≤ id:=fun ob hH=>I.dom id ob hH
        split at hg'
        · rcases hx.dom id ob hg' with ⟨o',ho'⟩ | hge
          · rw [htget] at ho'
            split at ho'
            · exact old _ ho'
            · simp at ho'
          · right;rw [hknext] at hge;omega
        · exact old _ hg'
      · -- the heap
        by_cases hx2:Wn (es j) x
        · have hjm:j < m:=(hcond j hj hx2).1 (by rw [hlset];simp)
          have CW:(ss m).get x=(ss (j + 1)).get x:=R.CW (by omega) hm fun i h1 h2 hw=>by
            have hi:i < N:=by omega
            have h3:=(hcond i hi hw).2 h2
            rw [hlset,if_neg (by omega)] at h3
            have:=(hxW x hx2 i hi (by omega) hw).1 h3
            omega
          rw [CW,hget x]
          have hc:((es j).D.contains x || (decide ((es j).n ≤ x) && decide (x < (es j).n')))=true:=by
            rcases hx2 with hx2 | hx2
            · simp [hWD x hx2]
            · simp [hx2]
          rw [if_pos hc]
          rw [hn] at hc
          simp only [hc,if_true]
        · have hH:=I.hp x m hm fun i hi hw=>by
            have h3:=hcond i hi hw
            have hij:i ≠ j:=fun e=>by subst e;exact hx2 hw
            rwa [hlset,if_neg hij] at h3
          by_cases hc:x ∈ (es j).D
          · have e1:=hkeep x hc (fun h=>hx2 (.inl h))
            have e2:=I.hp x j (by omega) (hxD x hc)
            have:((es j).D.contains x || (decide ((ss j).next ≤ x) && decide (x < (es j).n')))=true:=by simp [hc]
            simp only [this,if_true]
            rw [e1,← e2,hH]
          · have:((es j).D.contains x || (decide ((ss j).next ≤ x) && decide (x < (es j).n')))=false:=by
              simp only [Bool.or_eq_false_iff,Bool.and_eq_false_iff,decide_eq_false_iff_not]
              refine ⟨by simpa using hc,?_⟩
              by_cases h1:(ss j).next ≤ x
              · right;exact fun h2=>hx2 (.inr ⟨by rw [hn];exact h1,h2⟩)
              · left;exact h1
            simp only [this,Bool.false_eq_true,if_false]
            exact hH
    refine ⟨?_,fun o' ho' _=>by rw [ho] at ho';cases ho';exact key⟩
    unfold wpOpIn
    rw [ho]
    simp only [hw,if_true]
    exact key
end
end Go.AX
/- Regions that draw their order (5): the rule. -/
set_option linter.unusedSectionVars false
namespace Go.AX
open Go
section
variable {P:Program} {ops:Array Oper} {al:List aJ} {M:List Nat} {N:Nat} {Fs:Nat → List AV} {ss:Nat → St} {es:Nat → Entry}
variable (R:yC P ops al M N Fs ss es)
include R
theorem yC.edges {j:Nat} {o:Oper} (hj:ops[j]? = some o) {e:Edge} (he:e ∈ o.after) (hb:Region.binds .any e=true):e.on < j:=by
  obtain ⟨h1,h2⟩:=rT R.com
  obtain ⟨ao,h3,h4⟩:=h2 j o (by simpa using hj)
  have hlt:=(lQ R.ok j ao h3).1
  have hbit:=MH (l:=ops.toList) (j:=j) (o:=o) (by simpa using hj) (by simpa using he) hb
  rw [← R.masks] at hbit
  simp only [Nat.zero_add] at hlt
  rcases Nat.lt_or_ge e.on j with h | h
  · exact h
  · exfalso
    have:=Nat.ge_two_pow_of_testBit hbit
    have h2:2 ^ j ≤ 2 ^ e.on:=Nat.pow_le_pow_right (by omega) h
    omega
theorem yC.first {ds:List Deferred} {c:Ctx} {w:World} {a:Act} (hs:Sat c (ss 0) w) (hF:aB c (Fs 0) a.tmps.toList) (hd:a.defers=ds):Inv ds al M N Fs ss es c w (Array.replicate al.length false) c (ss 0).get a w:=by
  have hl:∀ i,(Array.replicate al.length false).getD i false=false:=fun i=>by
    simp only [Array.getD_eq_getD_getElem?,Array.getElem?_replicate];split <;> rfl
  refine ⟨⟨hs.mem,hs.obj,hs.inj,fun id e hu=>?_,hs.top,hs.low⟩,ES.refl _ _ _,fun _ _ _ _=>rfl,fun id o h=>.inl ⟨o,h⟩,fun i j h=>?_,by simp,fun i _=>hl i,fun x m hm hcond=>?_,by have:=hF.length;simpa using this,fun t m hm hcond=>?_,hd⟩
  · refine hs.fresh id e ?_
    rcases hu with hu | ⟨i,hi,_,h1,_⟩
    · have:=R.mono (i:=0) (j:=N) (by omega) (Nat.le_refl _);omega
    · obtain ⟨b1,_,_⟩:=R.nexts hi
      have:=R.mono (i:=0) (j:=i) (by omega) (by omega);omega
  · rw [hl] at h;simp at h
  · refine (R.CW (by omega) hm fun i _ h2 hw=>?_).symm
    have:=(hcond i (by omega) hw).2 h2
    rw [hl] at this;simp at this
  · rw [R.V4 (t:=t) (m:=0) (m':=m) (by omega) hm fun i _ h2 x hx hd=>by
      have:=(hcond i x (by omega) hx hd).2 h2
      rw [hl] at this;simp at this]
    cases hv:(Fs 0)[t]? with
    | none=>simp [List.getD_eq_getElem?_getD,hv,aD]
    | some v =>
      obtain ⟨u,hu,hr⟩:=hF.get t v hv
      have e2:a.tmps.getD t undef=u:=by
        have:a.tmps[t]? = some u:=by simpa using hu
        simp [Array.getD_eq_getD_getElem?,this]
      rw [e2];simpa [List.getD_eq_getElem?_getD,hv] using hr
def upto (N:Nat):Nat → Array Bool
  | 0=>Array.replicate N false
  | i + 1=>(upto N i).setIfInBounds i true
omit R in
theorem vV (N:Nat):∀ i,(upto N i).size=N
  | 0=>by simp [upto]
  | i + 1=>by simp [upto,vV N i]
omit R in
theorem nZ (N:Nat):∀ i k,k < N → (upto N i).getD k false=decide (k < i)
  | 0,k,hk=>by simp [upto,Array.getD_eq_getD_getElem?,Array.getElem?_replicate,hk]
  | i + 1, k, hk => by
    simp only [upto,Array.getD_eq_getD_getElem?]
    by_cases h:i=k
    · subst h
      rw [Array.getElem?_setIfInBounds_self_of_lt (by rw [vV];exact hk)];simp
    · rw [Array.getElem?_setIfInBounds_ne h]
      have:=nZ N i k hk
      simp only [Array.getD_eq_getD_getElem?] at this
      rw [this]
      simp;omega
theorem yC.Nc {i:Nat} (hi:i < N):i ∈ Region.ready .any ops (upto al.length i):=by
  rw [mem_ready]
  have hs:i < ops.size:=Nat.lt_of_lt_of_le hi R.size
  have ha:i < al.length:=by rw [R.len];exact hs
  refine ⟨?_,ops[i],by simp [hs],fun e he hb=>?_⟩
  · have:=nZ al.length i i ha
    have hlt:i < (upto al.length i).size:=by rw [vV];exact ha
    simp [Array.getD,hlt] at this ⊢
    exact this
  · have:=R.edges (j:=i) (by simp [hs]) he hb
    rw [nZ al.length i e.on (by omega)]
    simpa using this
theorem yC.closed {ds:List Deferred} {c:Ctx} {w:World} {a:Act} (hs:Sat c (ss 0) w) (hF:aB c (Fs 0) a.tmps.toList) (hd:a.defers=ds):∀ i,i < N → ClosedAt (Fs i) (ss i):=by
  have hN:N ≤ al.length:=by rw [R.len];exact R.size
  have close:∀ i,i < N → ∀ c' H a' w',Inv ds al M N Fs ss es c w (upto al.length i) c' H a' w' → ClosedAt (Fs i) (ss i):=by
    intro i hi c' H a' w' I
    have hfresh:∀ id e,(ss i).next ≤ id → c'.σ id e=none:=fun id e hid=>I.sat.fresh id e (by
      by_cases ht:(ss N).next ≤ id
      · exact .inl ht
      · right
        have:∀ k,i ≤ k → k ≤ N → id < (ss k).next → ∃ m,i ≤ m ∧ m < k ∧ (ss m).next ≤ id ∧ id < (ss (m + 1)).next:=by
          intro k
          induction k with
          | zero => intro h1 h2 h3; have : i = 0 := by omega
                    subst this;omega
          | succ k ih =>
            intro h1 h2 h3
            by_cases h4:i=k + 1
            · subst h4;omega
            · by_cases h5:id < (ss k).next
              · obtain ⟨m,p1,p2,p3,p4⟩:=ih (by omega) (by omega) h5
                exact ⟨m,p1,by omega,p3,p4⟩
              · exact ⟨k,by omega,by omega,by omega,h3⟩
        obtain ⟨m,p1,p2,p3,p4⟩:=this N (by omega) (Nat.le_refl _) (by omega)
        obtain ⟨b1,b2,_⟩:=R.nexts (i:=m) (by omega)
        exact ⟨m,by omega,by rw [nZ al.length i m (by omega)];simp;omega,by omega,by omega⟩)
    have hH:∀ x,H x=(ss i).get x:=fun x=>I.hp x i (by omega) fun k hk _=>by rw [nZ al.length i k (by omega)];simp
    refine ⟨fun id o ho=>?_,Cls.eU fun t v hv=>?_⟩
    · have hobj:=I.sat.obj id o (by rw [hH];exact ho)
      obtain ⟨k,z,hb⟩:=hobj.bound
      refine ⟨?_,nG hfresh hb⟩
      cases o with
      | cells ver cs sn =>
        obtain ⟨k,z,arr,el,fr,_,_,_,_,_,h6,_⟩:=hobj
        exact Cls.eU fun j x hx=>by
          obtain ⟨u,_,_,hr⟩:=h6 j x hx
          exact lV hfresh x u hr
      | iter p q=>trivial
      | raw k o F us =>
        obtain ⟨z,_,_,h3,_⟩:=hobj
        exact Cls.eU fun j x hx=>by
          obtain ⟨u,_,hr⟩:=h3.get j x hx
          exact lV hfresh x u hr
      | map mes =>
        obtain ⟨k,z,es',clock,_,_,h3,_⟩:=hobj
        have:∀ (l:List (AV × AV)) (us:List MapEntry),gQ c' l us → ∀ p ∈ l,Cl (ss i).next p.1 ∧ Cl (ss i).next p.2:=by
          intro l
          induction l with
          | nil=>intro us _ p hp;simp at hp
          | cons q r ih =>
            obtain ⟨x,y⟩:=q
            intro us h p hp
            simp only [gQ] at h
            obtain ⟨e,es2,_,r1,r2,r3⟩:=h
            simp only [List.mem_cons] at hp
            rcases hp with rfl | hp
            · exact ⟨lV hfresh _ _ r1,lV hfresh _ _ r2⟩
            · exact ih es2 r3 p hp
        exact this mes _ h3
    · have:=I.fr t i (by omega) fun k ao hk _ _=>by rw [nZ al.length i k (by omega)];simp
      have e1:(Fs i).getD t .any=v:=by simp [List.getD_eq_getElem?_getD,hv]
      rw [e1] at this
      exact lV hfresh v _ this
  have key:∀ i,i ≤ N → ∃ c' H a' w',Inv ds al M N Fs ss es c w (upto al.length i) c' H a' w':=by
    intro i
    induction i with
    | zero=>intro _;exact ⟨c,(ss 0).get,a,w,R.first hs hF hd⟩
    | succ i ih =>
      intro hi
      obtain ⟨c',H,a',w',I⟩:=ih (by omega)
      have hm:=R.more I (R.Nc (i:=i) (by omega)) (by omega) (close i (by omega) c' H a' w' I) none (Qf:=fun _ _ _=>False)
        (K:=fun a2 w2=>∃ c2 H2,Inv ds al M N Fs ss es c w (upto al.length (i + 1)) c2 H2 a2 w2) (fun c2 H2 a2 w2 I2=>⟨c2,H2,I2⟩)
      have h1:=hm.1
      unfold wpOpIn at h1
      obtain ⟨o,ao,op,ho,_⟩:=R.op (i:=i) (by omega)
      rw [ho] at h1
      simp only at h1
      split at h1
      · rename_i hw
        obtain ⟨a2,w2,c2,H2,I2⟩:=Nl (hm.2 o ho hw)
        exact ⟨c2,H2,a2,w2,I2⟩
      · obtain ⟨c2,H2,I2⟩:=h1.2
        exact ⟨c2,H2,_,_,I2⟩
  intro i hi
  obtain ⟨c',H,a',w',I⟩:=key i (by omega)
  exact close i hi c' H a' w' I
theorem yC.last {ds:List Deferred} {c:Ctx} {w:World} {listed:Array Bool} {c':Ctx} {H:Nat → Option Obj} {a':Act} {w':World} (hs:Sat c (ss 0) w) (I:Inv ds al M N Fs ss es c w listed c' H a' w') (hall:∀ i,i < N → listed.getD i false=true) :
    aB c' (Fs N) a'.tmps.toList ∧ Sat c' (ss N) w' ∧ Ext c (ss 0) w c' (ss N) w':=by
  have hH:∀ x,H x=(ss N).get x:=fun x=>I.hp x N (Nat.le_refl _) fun k hk _=>by simp [hall k hk,hk]
  have hHe:H=(ss N).get:=funext hH
  have hfp:∀ k,YU c (ss 0).get k ↔ fp c (ss 0) k:=fun k=>Iff.rfl
  refine ⟨aB.eU (by rw [R.JZ (Nat.le_refl _)];simpa using I.JZ) fun t x u hx hu=>?_,⟨I.sat.mem,fun id o ho=>I.sat.obj id o (by rw [hH];exact ho),fun id id' o o' k h1 h2=>I.sat.inj id id' o o' k (by rw [hH];exact h1) (by rw [hH];exact h2),fun id e hid=>I.sat.fresh id e (.inl hid),fun id o ho=>I.sat.top id o (by rw [hH];exact ho),I.sat.low⟩,
    ⟨I.ext.le,I.ext.size,I.ext.same,fun k hf=>I.ext.foot k (by rw [hHe];exact hf),R.mono (by omega) (Nat.le_refl _),I.sig,fun id o ho=>I.dom id o (by rw [hH];exact ho),I.ext.os⟩⟩
  have:=I.fr t N (Nat.le_refl _) fun k ao hk _ _=>by simp [hall k hk,hk]
  have e1:(Fs N).getD t .any=x:=by simp [List.getD_eq_getElem?_getD,hx]
  have e2:a'.tmps.getD t undef=u:=by
    have:a'.tmps[t]? = some u:=by simpa using hu
    simp [Array.getD_eq_getD_getElem?,this]
  rw [e1,e2] at this
  exact this
def todo (N:Nat) (listed:Array Bool):Nat:=((List.range N).filter fun i=>!listed.getD i false).length
theorem yC.WR {ds : List Deferred} {c : Ctx} {w : World} (hs : Sat c (ss 0) w) (hcl : ∀ i, i < N → ClosedAt (Fs i) (ss i)) {Q : Exit → Act → World → Prop} (ro : Option Nat)
    (hfull:∀ j,N ≤ j → j < al.length → ∀ i,i < j → Bit M j i)
    (hK:∀ fuel listed c' a' w',al.length - N ≤ fuel → listed.size=al.length → (∀ i,i < N → listed.getD i false=true) → (∀ i,N ≤ i → listed.getD i false=false) → (∀ i j,listed.getD i false=true → Bit M i j → listed.getD j false=true) →
      aB c' (Fs N) a'.tmps.toList → Sat c' (ss N) w' → Ext c (ss 0) w c' (ss N) w' → a'.defers=ds → wpAnyIn (fw ro) 0 P .any ops Q fuel listed a' w') :
    ∀ (fuel:Nat) (listed:Array Bool) (c':Ctx) (H:Nat → Option Obj) (a':Act) (w':World),Inv ds al M N Fs ss es c w listed c' H a' w' → todo N listed + (al.length - N) ≤ fuel → wpAnyIn (fw ro) 0 P .any ops Q fuel listed a' w':=by
  have hN:N ≤ al.length:=by rw [R.len];exact R.size
  have hdone:∀ fuel listed c' H a' w',Inv ds al M N Fs ss es c w listed c' H a' w' → (∀ i,i < N → listed.getD i false=true) → al.length - N ≤ fuel → wpAnyIn (fw ro) 0 P .any ops Q fuel listed a' w':=by
    intro fuel listed c' H a' w' I hall hf
    obtain ⟨h1,h2,h3⟩:=R.last hs I hall
    exact hK fuel listed c' a' w' hf I.size hall I.tail I.down h1 h2 h3 I.defs
  have hnil:∀ listed c' H a' w',Inv ds al M N Fs ss es c w listed c' H a' w' → Region.ready .any ops listed=[] → ∀ i,i < N → listed.getD i false=true:=by
    intro listed c' H a' w' I hr i
    induction i using Nat.strongRecOn with
    | _ i ih =>
      intro hi
      cases hl:listed.getD i false with
      | true=>rfl
      | false =>
        exfalso
        have hs':i < ops.size:=Nat.lt_of_lt_of_le hi R.size
        have:i ∈ Region.ready .any ops listed:=by
          rw [mem_ready]
          refine ⟨?_,ops[i],by simp [hs'],fun e he hb=>?_⟩
          · have hlt:i < listed.size:=by rw [I.size];omega
            simp [Array.getD,hlt] at hl ⊢;exact hl
          · have:=R.edges (j:=i) (by simp [hs']) he hb
            exact ih e.on this (by omega)
        rw [hr] at this;simp at this
  intro fuel
  induction fuel with
  | zero =>
    intro listed c' H a' w' I hf
    have hall:∀ i,i < N → listed.getD i false=true:=fun i hi=>by
      cases hl:listed.getD i false with
      | true=>rfl
      | false =>
        exfalso
        have:i ∈ (List.range N).filter fun i=>!listed.getD i false:=List.mem_filter.2 ⟨List.mem_range.2 hi,by simp only [hl];rfl⟩
        have h0:((List.range N).filter fun i=>!listed.getD i false)=[]:=List.eq_nil_of_length_eq_zero (by unfold todo at hf;omega)
        rw [h0] at this;simp at this
    exact hdone 0 listed c' H a' w' I hall (by omega)
  | succ fuel ih =>
    intro listed c' H a' w' I hf
    by_cases hall:∀ i,i < N → listed.getD i false=true
    · exact hdone (fuel + 1) listed c' H a' w' I hall (by omega)
    refine ⟨fun hr=>(hall (hnil listed c' H a' w' I hr)).elim,fun j hj=>?_⟩
    obtain ⟨h0,h2,h3⟩:=R.ready I hj
    have h1:j < N:=by
      rcases Nat.lt_or_ge j N with h | h
      · exact h
      · exact (hall fun i hi=>h3 i (hfull j h h0 i (by omega))).elim
    refine (R.more I hj h1 (hcl j h1) ro fun c2 H2 a2 w2 I2=>ih _ c2 H2 a2 w2 I2 ?_).1
    have:todo N (listed.setIfInBounds j true) < todo N listed:=by
      unfold todo
      have hset:=R.sN I.size h0
      have key:∀ l:List Nat,(l.filter fun i=>!(listed.setIfInBounds j true).getD i false).length ≤ (l.filter fun i=>!listed.getD i false).length ∧ (j ∈ l → (l.filter fun i=>!(listed.setIfInBounds j true).getD i false).length < (l.filter fun i=>!listed.getD i false).length):=by
        intro l
        induction l with
        | nil=>simp
        | cons x r ih2 =>
          simp only [List.filter_cons,hset]
          by_cases hx:x=j
          · subst hx
            simp only [if_true,Bool.not_true,Bool.false_eq_true,if_false,h2,Bool.not_false,List.length_cons]
            simp only [hset] at ih2
            exact ⟨by omega,fun _=>by omega⟩
          · simp only [if_neg hx]
            simp only [hset] at ih2
            split
            · simp only [List.length_cons]
              exact ⟨by omega,fun hm=>by simp only [List.mem_cons] at hm;have:=ih2.2 (hm.resolve_left (Ne.symm hx));omega⟩
            · exact ⟨ih2.1,fun hm=>by simp only [List.mem_cons] at hm;exact ih2.2 (hm.resolve_left (Ne.symm hx))⟩
      exact (key (List.range N)).2 (by simp [h1])
    omega
theorem yC.Vp {listed:Array Bool} (hsz:listed.size=al.length) (hdown:∀ i j,listed.getD i false=true → Bit M i j → listed.getD j false=true) {j:Nat} (hr:j ∈ Region.ready .any ops listed) :
    j < al.length ∧ listed.getD j false=false ∧ ∀ i,Bit M j i → listed.getD i false=true:=by
  rw [mem_ready] at hr
  obtain ⟨h0,o,ho,hall⟩:=hr
  have hj:j < al.length:=by rw [R.len];exact (Array.getElem?_eq_some_iff.1 ho).1
  have hl0:listed.getD j false=false:=by
    have hlt:j < listed.size:=by rw [hsz];exact hj
    simp [Array.getD,hlt] at h0 ⊢;exact h0
  refine ⟨hj,hl0,fun i hb=>?_⟩
  rw [R.masks] at hb
  obtain ⟨e,he,hbd,h⟩:=Cy (by simpa using ho) hb
  have hl:=hall e (by simpa using he) hbd
  rcases h with rfl | h
  · exact hl
  · exact hdown _ _ hl (by rw [R.masks];exact h)
theorem yC.tail {ro : Option Nat} {Q : Exit → Act → World → Prop} (hfull : ∀ j, N ≤ j → j < al.length → ∀ i, i < j → Bit M j i) :
    ∀ (k : Nat) (m : Nat) (listed : Array Bool) (a : Act) (w : World) (fuel : Nat), N ≤ m → m + k = al.length → k ≤ fuel → listed.size = al.length → (∀ i, i < al.length → (listed.getD i false = true ↔ i < m)) → (∀ i, al.length ≤ i → listed.getD i false = false) →
      wpOpsIn (fw ro) 0 P ops Q (List.range' m k) a w → wpAnyIn (fw ro) 0 P .any ops Q fuel listed a w:=by
  have bitlt:∀ i j,i < al.length → Bit M i j → j < i:=fun i j hi hb=>by
    have hs:i < al.length:=hi
    have hlt:=(lQ R.ok i al[i] (by simp [hs])).1
    simp only [Nat.zero_add] at hlt
    rcases Nat.lt_or_ge j i with h | h
    · exact h
    · exfalso
      have:=Nat.ge_two_pow_of_testBit hb
      have h2:2 ^ i ≤ 2 ^ j:=Nat.pow_le_pow_right (by omega) h
      omega
  have rdy:∀ (m:Nat) (listed:Array Bool),N ≤ m → listed.size=al.length → (∀ i,i < al.length → (listed.getD i false=true ↔ i < m)) → (∀ i,al.length ≤ i → listed.getD i false=false) → ∀ j ∈ Region.ready .any ops listed,j=m ∧ m < al.length:=by
    intro m listed hm hsz hl ht j hj
    have hdown:∀ i j,listed.getD i false=true → Bit M i j → listed.getD j false=true:=fun i j h hb=>by
      have hi:i < al.length:=by
        rcases Nat.lt_or_ge i al.length with h' | h'
        · exact h'
        · rw [ht i h'] at h;cases h
      have:=bitlt i j hi hb
      have h1:=(hl i hi).1 h
      exact (hl j (by omega)).2 (by omega)
    obtain ⟨h1,h2,h3⟩:=R.Vp hsz hdown hj
    have h4:¬ j < m:=fun h=>by rw [(hl j h1).2 h] at h2;cases h2
    rcases Nat.lt_or_ge m j with h | h
    · have:=h3 m (hfull j (by omega) h1 m h)
      have:=(hl m (by omega)).1 this
      omega
    · exact ⟨by omega,by omega⟩
  intro k
  induction k with
  | zero =>
    intro m listed a w fuel hm hk hf hsz hl ht h
    have hnil:Region.ready .any ops listed=[]:=by
      cases hr:Region.ready .any ops listed with
      | nil=>rfl
      | cons j r =>
        obtain ⟨_,h2⟩:=rdy m listed hm hsz hl ht j (by rw [hr];simp)
        omega
    simp only [List.range'_zero,wpOpsIn] at h
    cases fuel with
    | zero=>exact ⟨hnil,h⟩
    | succ f=>exact ⟨fun _=>h,fun j hj=>by rw [hnil] at hj;simp at hj⟩
  | succ k ih =>
    intro m listed a w fuel hm hk hf hsz hl ht h
    cases fuel with
    | zero=>omega
    | succ f =>
      have hs:m < ops.size:=by rw [← R.len];omega
      have hmem:m ∈ Region.ready .any ops listed:=by
        rw [mem_ready]
        have hl0:listed.getD m false=false:=by
          cases hh:listed.getD m false with
          | false=>rfl
          | true=>have:=(hl m (by omega)).1 hh;omega
        refine ⟨?_,ops[m],by simp [hs],fun e he hb=>?_⟩
        · have hlt:m < listed.size:=by omega
          simp [Array.getD,hlt] at hl0 ⊢;exact hl0
        · have:=R.edges (j:=m) (by simp [hs]) he hb
          exact (hl e.on (by omega)).2 this
      refine ⟨fun hr=>by rw [hr] at hmem;simp at hmem,fun j hj=>?_⟩
      obtain ⟨rfl,_⟩:=rdy m listed hm hsz hl ht j hj
      rw [List.range'_succ,wpOpsIn_cons] at h
      refine wpOpIn_mono (fun a2 w2 h2=>?_) h
      have hset:=R.sN hsz (show j < al.length by omega)
      refine ih (j + 1) _ a2 w2 f (by omega) (by omega) (by omega) (by simpa using hsz) (fun i hi=>?_) (fun i hi=>?_) h2
      · rw [hset]
        split
        · rename_i e;subst e;simp
        · rw [hl i hi];omega
      · rw [hset,if_neg (by omega)];exact ht i hi
end
theorem Ob {P:Program} (hmix:P.follows .mixedOrders=true) {M:List Nat} {al:List aJ} {Q:Exit → List AV → St → Prop} {F:List AV} {s:St} {Fs:Nat → List AV} {ss:Nat → St} {es:Nat → Entry}
    (h0:Fs 0=F) (h1:ss 0=s) (hrun:Uq P al Fs ss es) (hind:Iw M es al.length) (hq:Q .normal (Fs al.length) (ss al.length)):q8 P (.draw M al) Q F s:=by
  refine kN fun code hns hc ro ds c w a hs hF hd=>?_
  cases code with
  | region id ops draw =>
    rcases dz hc with ⟨l,e0,_⟩ | ⟨l,e0,e1,rfl,e3⟩ | ⟨l,k,e0,_⟩
    rotate_right
    · cases e0
    · cases e0
    · cases e0
      obtain ⟨hl,_⟩:=rT e1
      have R:yC P ops al (dZ ops.toList []) al.length Fs ss es:=⟨e1,by rw [hl];simp,by rw [hl];simp,rfl,e3,fun i _=>hrun.step i,hind⟩
      subst h0;subst h1
      have hs':=hs.sameHeap (w':={ w with drawn:=w.drawn + 1 }) rfl ⟨rfl,rfl,rfl⟩
      refine wpIn_region_any hmix ?_
      rw [show ops.size=al.length from by rw [hl];simp]
      refine R.WR hs'.1 (R.closed (a:=a) hs'.1 hF hd) (Q:=Exit.noGoto (Post ds c (ss 0) w Q)) ro (fun j h1 h2=>by omega)
        (fun fuel listed c' a' w' hf hsz hall ht _ g1 g2 g3 g4=>R.tail (fun j h1 h2=>by omega) 0 al.length listed a' w' fuel (Nat.le_refl _) rfl (by omega) hsz (fun i hi=>⟨fun _=>hi,fun _=>hall i hi⟩) ht (by
          simp only [List.range'_zero,wpOpsIn]
          exact ⟨g4,c',_,_,g1,g2,hs'.2.trans g3,hq⟩)) _ _ c (ss 0).get a _ (R.first hs'.1 hF hd) ?_
      have:=List.length_filter_le (fun i=>!(Array.replicate al.length false).getD i false) (List.range al.length)
      simpa [todo] using this
  | rangeFunc f ps x y=>simp only [aP] at hc;split at hc <;> simp at hc
  | seq x y=>simp only [aP] at hc;split at hc <;> simp at hc
  | cond x y z=>simp only [aP] at hc;split at hc <;> simp at hc
  | block id x=>simp [aP] at hc
  | loop x=>simp [aP] at hc
  | scope x=>simp [iO] at hns
  | _=>simp [aP] at hc
theorem rz {P:Program} {ops:Array Oper}:∀ (k:Nat) {l:List Oper} {al:List aJ},dM P ops l=some al → dM P ops (l.drop k)=some (al.drop k)
  | 0,_,_,h=>by simpa using h
  | k + 1,[],al,h=>by simp [dM] at h;subst h;simp [dM]
  | k + 1, o :: r, al, h => by
    simp only [dM] at h
    split at h
    · rename_i x xs h1 h2
      simp only [Option.some.injEq] at h;subst h
      exact rz k h2
    · simp at h
theorem Ma {P:Program} (hmix:P.follows .mixedOrders=true) {M:List Nat} {al ar:List aJ} {Q:Exit → List AV → St → Prop} {F:List AV} {s:St} {Fs:Nat → List AV} {ss:Nat → St} {es:Nat → Entry}
    (h0:Fs 0=F) (h1:ss 0=s) (hrun:Uq P al Fs ss es) (hind:Iw M es al.length) (hq:gH P (Q .normal) ar (Fs al.length) (ss al.length)):q8 P (.drawT M al ar) Q F s:=by
  refine kN fun code hns hc ro ds c w a hs hF hd=>?_
  cases code with
  | region id ops draw =>
    rcases dz hc with ⟨l,e0,_⟩ | ⟨l,e0,_⟩ | ⟨l,k,e0,e1,rfl,e3,e4,e5⟩
    · cases e0
    · cases e0
    · cases e0
      obtain ⟨hl,_⟩:=rT e1
      have hlen:l.length=ops.size:=by rw [hl];simp
      have htk:(l.take k).length=k:=by rw [List.length_take];omega
      rw [htk] at hind hq
      have R:yC P ops l (dZ ops.toList []) k Fs ss es:=⟨e1,hlen,by omega,rfl,e3,fun i hi o ho=>hrun.step i o (by rw [List.getElem?_take_of_lt hi];exact ho),hind⟩
      subst h0;subst h1
      have hs':=hs.sameHeap (w':={ w with drawn:=w.drawn + 1 }) rfl ⟨rfl,rfl,rfl⟩
      have hfull:∀ j,k ≤ j → j < l.length → ∀ i,i < j → Bit (dZ ops.toList []) j i:=fun j h1 h2 i h3=>by
        simp only [qb,List.all_eq_true,List.mem_range,Bool.or_eq_true,decide_eq_true_eq] at e4
        rcases e4 j h2 with h | h
        · omega
        · exact h i h3
      refine wpIn_region_any hmix ?_
      rw [← hlen]
      refine R.WR hs'.1 (R.closed (a:=a) hs'.1 hF hd) (Q:=Exit.noGoto (Post ds c (ss 0) w Q)) ro hfull
        (fun fuel listed c' a' w' hf hsz hall ht _ g1 g2 g3 g4=>R.tail hfull (l.length - k) k listed a' w' fuel (Nat.le_refl _) (by omega) (by omega) hsz
          (fun i hi=>⟨fun h=>by
            rcases Nat.lt_or_ge i k with h' | h'
            · exact h'
            · rw [ht i h'] at h;exact Bool.noConfusion h,fun h=>hall i h⟩) (fun i hi=>ht i (by omega)) ?_) _ _ c (ss 0).get a _ (R.first hs'.1 hF hd) ?_
      · have:=dn (P:=P) (ops:=ops) (Q:=Q) (ops.toList.drop k) k (l.drop k) (fun j=>by simp [List.getElem?_drop]) (rz k e1) (Fs k) (ss k) hq ro ds c (ss 0) w c' w' a' (hs'.2.trans g3) g2 g1 g4
        rw [List.length_drop,Array.length_toList,← hlen] at this
        exact this
      · have:=List.length_filter_le (fun i=>!(Array.replicate l.length false).getD i false) (List.range k)
        simp only [List.length_range] at this
        unfold todo
        omega
  | seq x y=>simp only [aP] at hc;split at hc <;> simp at hc
  | cond x y z=>simp only [aP] at hc;split at hc <;> simp at hc
  | block id x=>simp [aP] at hc
  | loop x=>simp [aP] at hc
  | scope x=>simp [iO] at hns
  | rangeFunc f ps x y=>simp only [aP] at hc;split at hc <;> simp at hc
  | _=>simp [aP] at hc
end Go.AX
/- Functions: a call by its body; what is forgotten, what is seen at its end. -/
namespace Go.AX
open Go
theorem q8.mono {P:Program} {ac:bL} {Q Q':Exit → List AV → St → Prop} {F:List AV} {s:St} (h:q8 P ac Q F s) (hq:∀ e F s,Q e F s → Q' e F s):q8 P ac Q' F s:=
  fun code hc ro ds c w a hs hF hd=>wpIn_mono (h code hc ro ds c w a hs hF hd) fun e a' w' hp=>rH hp fun hp=>hp.mono (hq e)
theorem LoopN.mono {P:Program} {b:bL} {Q Q':Exit → List AV → St → Prop} (hq:∀ e F s,Q e F s → Q' e F s):∀ (n:Nat) (F:List AV) (s:St),LoopN P b Q n F s → LoopN P b Q' n F s
  | 0,_,_,h=>h.elim
  | n + 1, F, s, h => q8.mono h fun e F s h => by
    cases e with
    | normal=>exact LoopN.mono hq n F s h
    | _=>exact hq _ F s h
def ny (F:List AV) (g:Nat → Option Obj):Nat × Option (Option Nat) → Option AV
  | (t,none)=>F[t]?
  | (t, some q) => match rd g (F.getD t .any) with
    | some cs => match q with
      | none=>cs[0]?
      | some n=>if n ≤ cs.length then some (.agg (cs.take n)) else none
    | none=>none
def lX (F:List AV) (g:Nat → Option Obj):List (Nat × Option (Option Nat)) → Option (List AV)
  | []=>some []
  | r :: l => match ny F g r, lX F g l with
    | some v,some vs=>some (v :: vs)
    | _,_=>none
def lZ (res:List (Nat × Option (Option Nat))) (F:List AV) (g:Nat → Option Obj):Option AV:=
  match lX F g res with
  | some [v]=>some v
  | some vs=>some (.tup vs)
  | none=>none
def Bp (tmps:Array Value):ResultVar → Sem Value
  | .tmp t=>pure (tmps.getD t undef)
  | .cell x t=>do loadVar t (← asAddr (tmps.getD x undef))
theorem IC (fn:Func) (tmps:Array Value):results fn tmps=(do
    let vs ← fn.results.mapM (Bp tmps)
    pure (if h:vs.size=1 then vs[0] else .tuple vs):Sem Value):=by
  unfold results
  congr 2
section
variable {P:Program} {c:Ctx} {s:St} {w:World} {F:List AV}
theorem pF (h:Sat c s w) {a:Act} (hF:aB c F a.tmps.toList):∀ {rs:List ResultVar} {l:List (Nat × Option (Option Nat))} {vs:List AV},EO P rs=some l → lX F s.get l=some vs →
    ∃ us:List Value,aB c vs us ∧ (rs.mapM (Bp a.tmps)).run P w=.ok us w
  | [], l, vs, hl, hv => by
    simp [EO] at hl;subst hl
    simp [lX] at hv;subst hv
    exact ⟨[],by simp [aB],by simp⟩
  | .tmp t :: r, l, vs, hl, hv => by
    simp only [EO] at hl
    obtain ⟨l',h1,rfl⟩:=omap hl
    simp only [lX] at hv
    split at hv
    · rename_i v vs' e1 e2
      simp at hv;subst hv
      obtain ⟨us,g1,g2⟩:=pF h hF h1 e2
      simp only [ny] at e1
      obtain ⟨u,hu,hr⟩:=hF.get t v e1
      have e3:a.tmps.getD t undef=u:=by
        have:a.tmps[t]? = some u:=by simpa using hu
        simp [Array.getD_eq_getD_getElem?,this]
      refine ⟨u :: us,by simp only [aB];exact ⟨u,us,rfl,hr,g1⟩,?_⟩
      simp only [List.mapM_cons,Bp,Sem.run_bind,Sem.run_pure,Result.andThen_ok,e3]
      rw [g2];rfl
    · simp at hv
  | .cell x t :: r, l, vs, hl, hv => by
    simp only [EO] at hl
    split at hl
    · rename_i q l' hq h1
      simp at hl;subst hl
      simp only [lX] at hv
      split at hv
      · rename_i v vs' e1 e2
        simp at hv;subst hv
        obtain ⟨us,g1,g2⟩:=pF h hF h1 e2
        simp only [ny] at e1
        split at e1
        · rename_i cs hcs
          have hx:=gu hF (.tmp x) (.t x) rfl
          simp only [AO.ev,Act.eval] at hx
          obtain ⟨k,off,hxx,ws,hws,hc⟩:=G8 h hcs hx
          obtain ⟨d,i,h2,h3,h4⟩:=z8 (w:=w) hq
          have key:∃ u,(loadVar t ⟨k,off,none⟩).run P w=.ok u w ∧ aD c v u:=by
            split at e1
            · obtain ⟨h4,h5⟩:_ ∧ _:=by
                rcases h4 with ⟨hh,_⟩ | h4
                · simp at hh
                · exact h4
              obtain ⟨u,hu,hru⟩:=hws.get 0 v e1
              have hc0:=(hc 0 u hu).1
              simp only [qI,Nat.add_zero] at hc0
              exact ⟨u,by simp [loadVar,h5,hc0],hru⟩
            · rename_i n
              split at e1
              · rename_i hn
                simp at e1;subst e1
                obtain ⟨h4,h5⟩:_ ∧ _:=by
                  rcases h4 with h4 | ⟨hh,_⟩
                  · exact h4
                  · simp at hh
                simp at h4
                have hl:=mg (P:=P) (w:=w) (n:=n) (by rw [hws.length];exact hn) hc
                have hcs:P.cellsOf t=n:=by simp [Program.cellsOf,h3,h4]
                exact ⟨.agg (ws.take n).toArray,by simp [loadVar,h5,run_sizeOf w h3,hcs,hl],by simp only [aD];exact ⟨_,rfl,hws.take n⟩⟩
              · simp at e1
          obtain ⟨u,k1,k2⟩:=key
          refine ⟨u :: us,by simp only [aB];exact ⟨u,us,rfl,k2,g1⟩,?_⟩
          simp only [List.mapM_cons,Bp,Sem.run_bind,hxx,asAddr,Sem.run_pure,Result.andThen_ok,k1]
          rw [g2];rfl
        · simp at e1
      · simp at hv
    · simp at hl
theorem rG (h:Sat c s w) {a:Act} (hF:aB c F a.tmps.toList) {fn:Func} {l:List (Nat × Option (Option Nat))} {v:AV} (hl:EO P fn.results.toList=some l) (hv:lZ l F s.get=some v) :
    ∃ u,(results fn a.tmps).run P w=.ok u w ∧ aD c v u:=by
  unfold lZ at hv
  have conv:∀ (us:List Value),(fn.results.toList.mapM (Bp a.tmps)).run P w=.ok us w →
      (results fn a.tmps).run P w=.ok (if h:us.toArray.size=1 then us.toArray[0] else .tuple us.toArray) w:=fun us hus=>by
    rw [IC]
    simp only [Sem.run_bind]
    rw [Array.mapM_eq_mapM_toList]
    simp only [Sem.run_map,hus,Result.andThen_ok,Sem.run_pure]
  split at hv
  · rename_i x hx
    simp at hv;subst hv
    obtain ⟨us,h1,h2⟩:=pF h hF hl hx
    simp only [aB] at h1
    obtain ⟨u,us',rfl,h1,rfl⟩:=h1
    exact ⟨u,by rw [conv _ h2];rfl,h1⟩
  · rename_i vs hne hvs
    simp at hv;subst hv
    obtain ⟨us,h1,h2⟩:=pF h hF hl hvs
    refine ⟨.tuple us.toArray,?_,by simp only [aD];exact ⟨us,rfl,h1⟩⟩
    rw [conv _ h2,dif_neg]
    intro h3
    simp at h3
    have:=h1.length
    rw [h3] at this
    cases vs with
    | nil=>simp at this
    | cons a r =>
      cases r with
      | nil=>exact hne a rfl
      | cons b r=>simp at this
  · simp at hv
end
def Ya (res:List (Nat × Option (Option Nat))) (R:AV → St → Prop) (e:Exit) (F:List AV) (s:St):Prop:=
  (e=.normal ∨ e=.ret) ∧ ∃ v,lZ res F s.get=some v ∧ R v s
def iN (args:List AV) (n:Nat):List AV:=args ++ List.replicate (n - args.length) (.tup [])
theorem Dl {P : Program} {f : FuncId} {af : bI} (h : bF P f = some af) : ∃ fn b, P.funcs[f]? = some fn ∧ fn.body = some b ∧ aP P b = some af.body ∧ EO P fn.results.toList = some af.results ∧ fn.ntmps = af.ntmps ∧ (fn.name == "runtime.NumGoroutine") = false := by
  unfold bF at h
  split at h
  · rename_i fn hfn
    split at h
    · rename_i b hb
      split at h
      · rename_i c r hc hr
        split at h
        · simp at h
        · rename_i hname
          simp at h;subst h
          exact ⟨fn,b,hfn,hb,hc,hr,rfl,by simpa using hname⟩
      · simp at h
    · simp at h
  · simp at h
theorem xK {P:Program} {f:FuncId} {af:bI} (hf:bF P f=some af) {args:List AV} {s:St} {R:AV → St → Prop} (h:q8 P af.body (Ya af.results R) (iN args af.ntmps) s):aF P f args s R:=by
  obtain ⟨fn,b,h1,h2,h3,h4,h5,h6⟩:=Dl hf
  refine ⟨⟨fn,h1,by simp [h2],h6⟩,fun c w vs hs hv=>?_⟩
  refine calls_of_wp h1 h2 ?_
  have hF:aB c (iN args af.ntmps) ((vs.toArray ++ Array.replicate (fn.ntmps - vs.toArray.size) undef).toList):=by
    simp only [iN,Array.toList_append,Array.toList_replicate]
    refine hv.append ?_
    have hl:=hv.length
    rw [h5,show vs.toArray.size=args.length by simpa using hl]
    have:∀ n,aB c (List.replicate n (.tup [])) (List.replicate n undef):=by
      intro n
      induction n with
      | zero=>simp [aB]
      | succ n ih=>simp only [List.replicate_succ,aB];exact ⟨_,_,rfl,by simp [aD,aB,undef],ih⟩
    exact this _
  refine (wpIn_wide (n:=0)).1 ?_
  refine wpIn_mono (h b h3 none [] c w _ hs hF rfl) fun e a' w' hp=>?_
  replace hp:=(gX hp).1
  obtain ⟨hd,c',F',s',g1,g2,g3,he,v,hv,hR⟩:=hp
  obtain ⟨u,hu,hru⟩:=rG g2 g1 h4 hv
  rcases he with rfl | rfl
  · exact ⟨hd,u,hu,v,u,c',s',rfl,hru,g2,g3,hR⟩
  · exact ⟨hd,u,hu,v,u,c',s',rfl,hru,g2,g3,hR⟩
def BS (v:AV) (s:St) (v':AV) (s':St):Prop:=∀ (c:Ctx) (w:World) (u:Value),Sat c s w → aD c v u → ∃ c',Sat c' s' w ∧ Ext c s w c' s' w ∧ aD c' v' u
theorem BS.refl (v:AV) (s:St):BS v s v s:=fun c w u h hr=>⟨c,h,Ext.refl _ _ _,hr⟩
theorem BS.trans {v v1 v2:AV} {s s1 s2:St} (h:BS v s v1 s1) (h':BS v1 s1 v2 s2):BS v s v2 s2:=fun c w u hs hr=>by
  obtain ⟨c1,a1,a2,a3⟩:=h c w u hs hr
  obtain ⟨c2,b1,b2,b3⟩:=h' c1 w u a1 a3
  exact ⟨c2,b1,a2.trans b2,b3⟩
theorem BS.view {v v':AV} {s:St} {ps:List (Nat × Obj)} (h:view s.get v=some (v',ps)):BS v s v' (s.puts ps):=fun c w u hs hr=>by
  obtain ⟨c',h1,h2,_,h4⟩:=Ad v v' ps h c s u hs (Since.refl s) hr
  exact ⟨c',h1,h2,h4⟩
def St.old (s:St) (n:Nat):St:=⟨s.heap.filter fun x=>decide (x.1 < n),s.next⟩
theorem St.UG (s:St) (n id:Nat):(s.old n).get id=if id < n then s.get id else none:=by
  have:=fU (fun i=>decide (i < n)) id s.heap
  simp only [St.get,St.old]
  rw [this]
  simp
theorem BS.old (v:AV) (s:St) (n:Nat):BS v s v (s.old n):=fun c w u hs hr=>by
  obtain ⟨h1,h2⟩:=hs.forget (s':=s.old n) (fun id o ho=>by rw [St.UG] at ho;split at ho <;> simp_all) (Nat.le_refl _)
  exact ⟨c,h1,h2,hr⟩
theorem aF.upd {P:Program} {f:FuncId} {args:List AV} {s:St} {R:AV → St → Prop} (h:aF P f args s fun v s'=>∃ v2 s2,BS v s' v2 s2 ∧ R v2 s2):aF P f args s R:=
  ⟨h.1,fun c w vs hs hv=>(h.2 c w vs hs hv).mono fun e w' ⟨v,u,c',s',h1,h2,h3,h4,v2,s2,h5,h6⟩=>by
    obtain ⟨c2,a1,a2,a3⟩:=h5 c' w' u h3 h2
    exact ⟨v2,u,c2,s2,h1,a3,a1,h4.trans a2,h6⟩⟩
theorem aF.views {P:Program} {f:FuncId} {args xs:List AV} {s:St} {ps:List (Nat × Obj)} {R:AV → St → Prop} (hv:views s.get args=some (xs,ps)) (h:aF P f xs (s.puts ps) R):aF P f args s R:=
  ⟨h.1,fun c w vs hs hr=>by
    obtain ⟨c',h1,h2,_,h4⟩:=jU args xs ps hv c s vs hs (Since.refl s) hr
    exact (h.2 c' w vs h1 h4).mono fun e w' ⟨v,u,c2,s2,e1,e2,e3,e4,e5⟩=>⟨v,u,c2,s2,e1,e2,e3,h2.trans e4,e5⟩⟩
theorem aF.hide {P:Program} {f:FuncId} {args:List AV} {s:St} {R:AV → St → Prop} (l:List Nat) (h:aF P f args (s.hide l) fun v s1=>R v (s.join s1 l)):aF P f args s R:=
  ⟨h.1,fun c w vs hs hr=>(h.2 c w vs (hs.hide l) hr).mono fun e w' ⟨v,u,c',s1,e1,e2,e3,e4,e5⟩=>by
    obtain ⟨a1,a2⟩:=hs.join l e3 e4
    exact ⟨v,u,c',_,e1,e2,a1,a2,e5⟩⟩
end Go.AX
