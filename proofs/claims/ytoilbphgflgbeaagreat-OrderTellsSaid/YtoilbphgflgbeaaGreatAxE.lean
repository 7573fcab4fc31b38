/- From a call of abstract values to the row: nothing that was there has turned, so the arguments read as they did. -/
import Derived.Test.YtoilbphgflgbeaaGreatAxD
import Derived.ProofKit
import Derived.JoinedCond
import Derived.RangeFuncLeaves
set_option linter.unusedSimpArgs false
set_option linter.unusedVariables false
namespace Go.AX
open Go Go.RowKit Go.ChangeShapes
def pJ (W:World):Ctx:=⟨fun _ _=>none,fun k o=>(W.cell? ⟨k,o,none⟩).filter (·.oneCell')⟩
theorem VE (W:World):Sat (pJ W) ⟨[],0⟩ W where
  mem:=fun k o u h=>by
    simp only [pJ,Option.filter_eq_some_iff] at h
    exact h
  obj:=fun id o h=>by simp [St.get,look] at h
  inj:=fun id id' o o' k h=>by simp [St.get,look] at h
  fresh:=fun _ _ _=>rfl
  top:=fun id o h=>by simp [St.get,look] at h
  low:=fun b e k z h=>by simp [pJ] at h
theorem TG {W:World} {k o:Nat} {u:Value} (h:W.cell? ⟨k,o,none⟩=some u) (h1:u.oneCell'=true):(pJ W).m k o=some u:=by
  simp [pJ,h,Option.filter,h1]
theorem BK {c c':Ctx} {s':St} {W W':World} (h:Ext c ⟨[],0⟩ W c' s' W'):Below W.heap.size W W' where
  os:=h.os.1
  tape:=h.os.2.2
  output:=h.os.2.1
  size:=h.size
  block:=fun k hk=>(h.same k hk (fun ⟨id,o,ho,_⟩=>by simp [St.get,look] at ho)).1
theorem GQ {P:Program} {f:FuncId} {args:List AV} {vs:Array Value} {W:World} (h:aR P f args ⟨[],0⟩ fun v _=>v=.bool true) (hv:aI (pJ W) args vs.toList) :
    Calls P f vs W fun e W'=>e=.returned (.bool true) ∧ Below W.heap.size W W':=by
  have:=h.2 (pJ W) W vs.toList (VE W) hv
  rw [Array.toArray_toList] at this
  refine this.mono fun e W' ⟨v,u,c',s',h1,h2,h3,h4,h5⟩=>?_
  subst h5
  simp only [aN] at h2
  subst h2
  exact ⟨h1,BK h4⟩
section
variable {H:Type} {enc:TypeId × Value → H} {P:Program}
theorem Below.trodAll (hl:laidOutB P=true) {W W':World} (hb:Below W.heap.size W W'):∀ {ts:List TypeId} {vs:List Value} {ds:List (DataW H)} {ps:List MemPlace},
    (ts.all fun t=>P.readableRec t && decide (t < P.types.size))=true → DataW.TrodAll enc P W 0 (fun _=>true) true ts vs ds ps → (∀ p ∈ ps,p.block < W.heap.size) →
    ∀ sp:Nat → Bool,(∀ p ∈ ps,sp p.block=true) → DataW.TrodAll enc P W' 0 sp true ts vs ds ps
  | [],[],[],ps,_,h,_,sp,_=>h
  | [],[],_ :: _,ps,_,h,_,sp,_=>h.elim
  | [],_ :: _,_,ps,_,h,_,sp,_=>h.elim
  | t :: ts,[],_,ps,_,h,_,sp,_=>h.elim
  | t :: ts,_ :: _,[],ps,_,h,_,sp,_=>h.elim
  | t :: ts, v :: vs, d :: ds, ps, ht, h, hlt, sp, hsp => by
    obtain ⟨p,q,h1,h2,rfl⟩:=h
    simp only [List.all_cons,Bool.and_eq_true,decide_eq_true_eq] at ht
    refine ⟨p,q,WideElems.Trod_stays hl ht.1.1 ht.1.2 h1 (fun x hx=>hb.same (hlt x (by simp [hx]))) (fun x hx=>hsp x (by simp [hx])),?_,rfl⟩
    exact Below.trodAll hl hb (by simpa using ht.2) h2 (fun x hx=>hlt x (by simp [hx])) sp (fun x hx=>hsp x (by simp [hx]))
theorem Lb {f:Func} {s:ChangeSpec} {fresh handsOn again:Bool} {W W':World} {args:Array Value} {ds gs:List (DataW H)} {before:List MemPlace} {tb:TypeId}
    (hl:laidOutB P=true) (hts:(f.params.toList.all fun t=>P.readableRec t && decide (t < P.types.size))=true) (hvars:s.vars=[]) (hres:f.resultTypes = #[tb]) (htb:P.underlying tb=some .bool)
    (hfn:(s.fn H (ds ++ gs)).results=[.lit (.bool true)] ∧ (s.fn H (ds ++ gs)).args=ds ∧ (s.fn H (ds ++ gs)).vars=[])
    (hW:DataW.Whole enc P f.params.toList s.vars false W args.toList ds gs before) (hb:Below W.heap.size W W') :
    s.post enc P f false fresh handsOn again W args (.bool true) W':=by
  have hlt:∀ p ∈ before,p.block < W.heap.size:=fun p hp=>hW.lt p hp
  have hW':=hW
  obtain ⟨p,q,hA,hV,hpq,hz,_⟩:=hW'
  rw [hvars] at hV
  obtain ⟨rfl,rfl⟩:=trodVars_none hV
  simp only [List.append_nil] at hpq
  subst hpq
  have hold:∀ x ∈ before,(fun b=>decide (b < W.heap.size)) x.block=true:=fun x hx=>by simpa using hlt x hx
  have hargs:∀ sp:Nat → Bool,(∀ p ∈ before,sp p.block=true) → DataW.TrodAll enc P W' 0 sp true f.params.toList args.toList (s.fn H (ds ++ [])).args before:=fun sp hsp=>by
    rw [hfn.2.1];exact Below.trodAll hl hb hts hA hlt sp hsp
  have hvs:∀ sp:Nat → Bool,DataW.TrodVars enc P W' sp s.vars (s.fn H (ds ++ [])).vars []:=fun sp=>by
    rw [hvars,hfn.2.2];rfl
  have hrs:∀ (b:Nat) (sp:Nat → Bool) (hd:Bool),DataW.TrodAll enc P W' b sp hd f.resultTypes.toList ((Value.bool true).resultList f.resultTypes.size) (s.fn H (ds ++ [])).results []:=fun b sp hd=>by
    rw [hfn.1,hres]
    exact trodAll_mk1 (shut_bool htb true)
  refine ⟨ds,[],before,[],before,[],hW,hrs _ _ _,hargs _ hold,hvs _,World.keptBut_mono (fun p hp=>⟨hp,Or.inr (by simpa using hp)⟩) (hb.frame _),fun _=>?_⟩
  refine ⟨ok_one hres rfl (okWide_bool_mk htb true),_,_,([] ++ before) ++ [],⟨[] ++ before,[],trodAll_append (hargs _ (fun _ _=>rfl)) (hrs _ _ _),hvs _,rfl,?_,?_⟩,?_⟩
  · intro b off hp
    have hp':MemPlace.cell b off ∈ before:=by simpa using hp
    rw [hb.frozen (hlt _ hp')]
    exact hz b off hp'
  · intro ha;cases ha
  · intro p hp _
    simpa using hp
end
end Go.AX
/- A call of values without ids: what it does it does in every state, and the state stays as it is. -/
namespace Go.AX
open Go
mutual
def flat:AV → Bool
  | .ptr _ _ _=>false
  | .sl _ _ _ _ _=>false
  | .map _=>false
  | .nils=>false
  | .agg xs=>ay xs
  | .tup xs=>ay xs
  | .vp xs=>ay xs
  | .ps _ xs=>ay xs
  | .fn _ xs ys=>ay xs && ay ys
  | .ifc _ x=>flat x
  | _=>true
def ay:List AV → Bool
  | []=>true
  | x :: r=>flat x && ay r
end
mutual
theorem aN.flat {c c':Ctx} (h:∀ k o u,c.m k o=some u → c'.m k o=some u):∀ (x:AV) (v:Value),flat x=true → aN c x v → aN c' x v
  | .bool _,_,_,r=>by simpa [aN] using r
  | .int _ _,_,_,r=>by simpa [aN] using r
  | .str _,_,_,r=>by simpa [aN] using r
  | .agg cs, _, hf, r => by
    simp only [aN] at r ⊢
    obtain ⟨us,e,r⟩:=r
    exact ⟨us,e,aI.flat h cs us (by simpa [Go.AX.flat] using hf) r⟩
  | .tup cs, _, hf, r => by
    simp only [aN] at r ⊢
    obtain ⟨us,e,r⟩:=r
    exact ⟨us,e,aI.flat h cs us (by simpa [Go.AX.flat] using hf) r⟩
  | .nilp,_,_,r=>by simpa [aN] using r
  | .ptr b e o,_,hf,r=>by simp [Go.AX.flat] at hf
  | .vp cs, _, hf, r => by
    simp only [aN] at r ⊢
    obtain ⟨k,o,e,r⟩:=r
    exact ⟨k,o,e,bG.flat h k o cs (by simpa [Go.AX.flat] using hf) r⟩
  | .nils,_,_,r=>by simpa [aN] using r
  | .sl b e o n z,_,hf,r=>by simp [Go.AX.flat] at hf
  | .ps n cs, _, hf, r => by
    simp only [aN] at r ⊢
    rcases r with r | ⟨k,o,q,e,hq,r⟩
    · exact .inl r
    · exact .inr ⟨k,o,q,e,hq,bG.flat h k o cs (by simpa [Go.AX.flat] using hf) r⟩
  | .nilf,_,_,r=>by simpa [aN] using r
  | .fn f xs ys, _, hf, r => by
    simp only [Go.AX.flat,Bool.and_eq_true] at hf
    simp only [aN] at r ⊢
    obtain ⟨us,ws,e,r1,r2⟩:=r
    exact ⟨us,ws,e,aI.flat h xs us hf.1 r1,aI.flat h ys ws hf.2 r2⟩
  | .nili,_,_,r=>by simpa [aN] using r
  | .ifc t x, _, hf, r => by
    simp only [aN] at r ⊢
    obtain ⟨u,e,r⟩:=r
    exact ⟨u,e,aN.flat h x u (by simpa [Go.AX.flat] using hf) r⟩
  | .nilm,_,_,r=>by simpa [aN] using r
  | .map r',_,hf,r=>by simp [Go.AX.flat] at hf
  | .any,_,_,_=>by simp [aN]
theorem aI.flat {c c':Ctx} (h:∀ k o u,c.m k o=some u → c'.m k o=some u):∀ (xs:List AV) (us:List Value),ay xs=true → aI c xs us → aI c' xs us
  | [],_,_,r=>by simpa [aI] using r
  | x :: xs, us, hf, r => by
    simp only [Go.AX.ay,Bool.and_eq_true] at hf
    simp only [aI] at r ⊢
    obtain ⟨u,us',e,r1,r2⟩:=r
    exact ⟨u,us',e,aN.flat h x u hf.1 r1,aI.flat h xs us' hf.2 r2⟩
theorem bG.flat {c c':Ctx} (h:∀ k o u,c.m k o=some u → c'.m k o=some u) (k:Nat):∀ (o:Nat) (xs:List AV),ay xs=true → bG c k o xs → bG c' k o xs
  | _,[],_,_=>by simp [bG]
  | o, x :: xs, hf, r => by
    simp only [Go.AX.ay,Bool.and_eq_true] at hf
    simp only [bG] at r ⊢
    obtain ⟨⟨u,e,r1⟩,r2⟩:=r
    exact ⟨⟨u,h _ _ _ e,aN.flat h x u hf.1 r1⟩,bG.flat h k (o + 1) xs hf.2 r2⟩
end
def Pure (P:Program) (f:FuncId) (args:List AV) (v:AV):Prop:=aR P f args ⟨[],0⟩ fun v' _=>v'=v
theorem Pure.any {P:Program} {f:FuncId} {args:List AV} {v:AV} (h:Pure P f args v) (ha:ay args=true) (hv:flat v=true) (s:St):aR P f args s fun v' s'=>v'=v ∧ s'=s:=by
  refine ⟨h.1,fun c w vs hs hr=>?_⟩
  have h0:Sat ⟨fun _ _=>none,c.m⟩ ⟨[],0⟩ w:=⟨hs.mem,fun id o ho=>by simp [St.get,look] at ho,fun id id' o o' k ho=>by simp [St.get,look] at ho,fun _ _ _=>rfl,fun id o ho=>by simp [St.get,look] at ho,fun b e k z hb=>by simp at hb⟩
  refine (h.2 _ w vs h0 (aI.flat (c:=c) (c':=⟨fun _ _=>none,c.m⟩) (fun _ _ _ h=>h) _ _ ha hr)).mono fun e w' ⟨v',u,c',s',e1,r,h1,h2,h3⟩=>?_
  subst h3
  have hsame:∀ k,k < w.heap.size → w'.heap[k]? = w.heap[k]? ∧ ∀ o,c'.m k o=c.m k o:=fun k hk=>h2.same k hk fun ⟨id,o,ho,_⟩=>by simp [St.get,look] at ho
  have hle:c.le ⟨c.σ,c'.m⟩:=⟨fun _ _ _ h=>h,h2.le.2⟩
  have hblk:∀ id o,blk ⟨c.σ,c'.m⟩ id o=blk c id o:=fun _ _=>rfl
  refine ⟨v',u,⟨c.σ,c'.m⟩,s,e1,aN.flat (c:=c') (c':=⟨c.σ,c'.m⟩) (fun _ _ _ h=>h) _ _ hv r,⟨h1.mem,fun id o ho=>?_,fun id id' o o' k ho ho'=>hs.inj id id' o o' k ho ho',hs.fresh,hs.top,fun b e k z hb=>?_⟩,
    ⟨hle,h2.size,fun k hk _=>hsame k hk,fun k hf=>.inl hf,Nat.le_refl _,fun _ _ _ _=>rfl,fun id o ho=>.inl ⟨o,ho⟩,h2.os⟩,rfl,rfl⟩
  · refine (hs.obj id o ho).move hle fun k hk=>?_
    simp only [blk,Option.map_eq_some_iff] at hk
    obtain ⟨⟨k1,z1⟩,hs1,rfl⟩:=hk
    exact hsame _ (hs.low _ _ _ _ hs1)
  · exact Nat.lt_of_lt_of_le (hs.low _ _ _ _ hb) h2.size
def aK (P:Program) (f:FuncId) (args:List AV) (v:AV):Prop:=Pure P f args v ∧ ay args=true ∧ flat v=true
end Go.AX
/- Walks with frames as functions: what is to be shown of a piece of code, as a proposition that unfolds. -/
namespace Go.AX
open Go
abbrev Env:=Nat → AV
def upd (ρ:Env) (k:Nat) (v:AV):Env:=fun i=>if i=k then v else ρ i
def xV (ρ:Env) (d:Option Nat) (v:AV):Env:=match d with
  | some d=>upd ρ d v
  | none=>ρ
def bF (ρ:Env):AO → AV
  | .t n=>ρ n
  | .k v=>v
def gW (N:Nat) (ρ:Env):List AV:=(List.range N).map ρ
theorem vk (N:Nat) (ρ:Env):(gW N ρ).length=N:=by simp [gW]
theorem o9 {N:Nat} {ρ:Env} {i:Nat} (h:i < N):(gW N ρ)[i]? = some (ρ i):=by simp [gW,h]
theorem aZ {N:Nat} {ρ:Env} {x:AO} (h:kX N x=true):x.ev (gW N ρ)=bF ρ x:=by
  cases x with
  | k v=>rfl
  | t n =>
    simp only [kX,decide_eq_true_eq] at h
    simp [AO.ev,bF,List.getD_eq_getElem?_getD,o9 h]
theorem vE (N:Nat) (ρ:Env) (d:Option Nat) (v:AV):fD (gW N ρ) d v=gW N (xV ρ d v):=by
  cases d with
  | none=>rfl
  | some k =>
    apply List.ext_getElem?
    intro i
    simp only [fD,xV]
    by_cases hi:i < N
    · rw [o9 hi]
      by_cases hk:k=i
      · subst hk;rw [List.getElem?_set_self (by simpa [vk] using hi)];simp [upd]
      · rw [List.getElem?_set_ne hk,o9 hi];simp [upd,Ne.symm hk]
    · rw [List.getElem?_eq_none (by simp [vk];omega),List.getElem?_eq_none (by simp [vk];omega)]
theorem mR {N:Nat} {ρ:Env}:∀ {l:List AO},l.all (kX N)=true → l.map (AO.ev (gW N ρ))=l.map (bF ρ)
  | [],_=>rfl
  | x :: r, h => by
    simp only [List.all_cons,Bool.and_eq_true] at h
    simp only [List.map_cons]
    rw [aZ h.1,mR h.2]
def kE (ρ:Env):iI → iI
  | .mv x=>.mv (.k (bF ρ x))
  | .pick c a b=>.pick (.k (bF ρ c)) (.k (bF ρ a)) (.k (bF ρ b))
  | .alloc z=>.alloc z
  | .cst v=>.cst v
  | .box x=>.box (.k (bF ρ x))
  | .build z ps=>.build z (ps.map fun p=>(p.1,p.2.1,.k (bF ρ p.2.2)))
  | .bslice z n e ps=>.bslice z n e (ps.map fun p=>(p.1,p.2.1,.k (bF ρ p.2.2)))
  | .load n a=>.load n (.k (bF ρ a))
  | .store n a x=>.store n (.k (bF ρ a)) (.k (bF ρ x))
  | .nilck x=>.nilck (.k (bF ρ x))
  | .bin op x y=>.bin op (.k (bF ρ x)) (.k (bF ρ y))
  | .eq neg q x y=>.eq neg q (.k (bF ρ x)) (.k (bF ρ y))
  | .un op x=>.un op (.k (bF ρ x))
  | .i2i k x=>.i2i k (.k (bF ρ x))
  | .s2s x=>.s2s (.k (bF ρ x))
  | .s2b x=>.s2b (.k (bF ρ x))
  | .b2s x=>.b2s (.k (bF ρ x))
  | .ifc q x=>.ifc q (.k (bF ρ x))
  | .mkfn f xs ys=>.mkfn f (xs.map fun x=>.k (bF ρ x)) (ys.map fun x=>.k (bF ρ x))
  | .slcS x lo hi=>.slcS (.k (bF ρ x)) (lo.map fun x=>.k (bF ρ x)) (hi.map fun x=>.k (bF ρ x))
  | .slc z x lo hi=>.slc z (.k (bF ρ x)) (lo.map fun x=>.k (bF ρ x)) (hi.map fun x=>.k (bF ρ x))
  | .faddr off x=>.faddr off (.k (bF ρ x))
  | .fld off q x=>.fld off q (.k (bF ρ x))
  | .iaddr arr z x i=>.iaddr arr z (.k (bF ρ x)) (.k (bF ρ i))
  | .sidx x i=>.sidx (.k (bF ρ x)) (.k (bF ρ i))
  | .aidx l z q x i=>.aidx l z q (.k (bF ρ x)) (.k (bF ρ i))
  | .ext i x=>.ext i (.k (bF ρ x))
  | .len x=>.len (.k (bF ρ x))
  | .lenS x=>.lenS (.k (bF ρ x))
  | .app z b s x y=>.app z b s (.k (bF ρ x)) (.k (bF ρ y))
  | .mkslice z b x y=>.mkslice z b (.k (bF ρ x)) (.k (bF ρ y))
  | .mm mx xs=>.mm mx (xs.map fun x=>.k (bF ρ x))
  | .bad=>.bad
  | .mkmap=>.mkmap
  | .rng x=>.rng (.k (bF ρ x))
  | .nxt x=>.nxt (.k (bF ρ x))
  | .i2s x=>.i2s (.k (bF ρ x))
  | .clr z x=>.clr z (.k (bF ρ x))
  | .idxB x y=>.idxB (.k (bF ρ x)) (.k (bF ρ y))
  | .lkp tr z ok m k=>.lkp tr z ok (.k (bF ρ m)) (.k (bF ρ k))
  | .mup tr m k v=>.mup tr (.k (bF ρ m)) (.k (bF ρ k)) (.k (bF ρ v))
  | .call f xs=>.call f (xs.map fun x=>.k (bF ρ x))
  | .callv f xs=>.callv (.k (bF ρ f)) (xs.map fun x=>.k (bF ρ x))
theorem rV {N:Nat} {ρ:Env}:∀ {l:List (Nat × Nat × AO)},(l.map (·.2.2)).all (kX N)=true →
    (l.map fun p=>(p.1,p.2.1,AO.k (bF ρ p.2.2))).map (fun p=>(p.1,p.2.1,p.2.2.ev []))=l.map (fun p=>(p.1,p.2.1,p.2.2.ev (gW N ρ))) ∧
    (l.map fun p=>(p.1,p.2.1,AO.k (bF ρ p.2.2))).map (fun p=>p.2.2.ev [])=l.map (fun p=>p.2.2.ev (gW N ρ)) ∧
    ∀ xs:List AV,(((l.map fun p=>(p.1,p.2.1,AO.k (bF ρ p.2.2))).zip xs).map fun p=>(p.1.1,p.1.2.1,p.2))=((l.zip xs).map fun p=>(p.1.1,p.1.2.1,p.2))
  | [],_=>⟨rfl,rfl,fun _=>rfl⟩
  | x :: r, hl => by
    simp only [List.map_cons,List.all_cons,Bool.and_eq_true] at hl
    obtain ⟨a,b,c⟩:=rV (ρ:=ρ) (l:=r) hl.2
    refine ⟨?_,?_,fun xs=>?_⟩
    · rw [List.map_cons,List.map_cons,a,List.map_cons]
      show (x.1,x.2.1,bF ρ x.2.2) :: _=_
      rw [aZ hl.1]
    · rw [List.map_cons,List.map_cons,b,List.map_cons]
      show bF ρ x.2.2 :: _=_
      rw [aZ hl.1]
    · cases xs with
      | nil=>rfl
      | cons y ys =>
        simp only [List.map_cons,List.zip_cons_cons]
        rw [c ys]
theorem Bv {N:Nat} {ρ:Env} {l:List AO} (h:l.all (kX N)=true):(l.map fun x=>AO.k (bF ρ x)).map (AO.ev [])=l.map (AO.ev (gW N ρ)):=by
  rw [mR h,List.map_map];rfl
theorem vI {N:Nat} {ρ:Env} {x:Option AO} (hx:x.toList.all (kX N)=true) (n:Nat):bound (x.map fun y=>AO.k (bF ρ y)) [] n=bound x (gW N ρ) n:=by
  cases x with
  | none=>rfl
  | some y =>
    simp only [Option.toList_some,List.all_cons,List.all_nil,Bool.and_true] at hx
    simp only [Option.map_some,bound,cZ]
    rw [aZ hx]
theorem Sb {N:Nat} {ρ:Env} {o:iI} (ho:o.yN.all (kX N)=true) (g:Nat → Option Obj) (n:Nat):bq o (gW N ρ) g n=bq (kE ρ o) [] g n:=by
  cases o <;> simp only [iI.yN,List.all_cons,List.all_nil,Bool.and_eq_true,Bool.and_true] at ho
  case alloc=>rfl
  case cst=>rfl
  case bad=>rfl
  case mkmap=>rfl
  case rng x=>simp only [kE,bq,cZ];rw [aZ ho]
  case nxt x=>simp only [kE,bq,cZ];rw [aZ ho]
  case i2s x=>simp only [kE,bq,cZ];rw [aZ ho]
  case clr z x=>simp only [kE,bq,cZ];rw [aZ ho]
  case idxB x y=>simp only [kE,bq,cZ];rw [aZ ho.1,aZ ho.2]
  case lkp tr z ok m k=>simp only [kE,bq,cZ];rw [aZ ho.1,aZ ho.2];try rfl
  case mup tr m k v=>simp only [kE,bq,cZ];rw [aZ ho.1,aZ ho.2.1,aZ ho.2.2];try rfl
  case call=>rfl
  case callv=>rfl
  case pick c a b=>simp only [kE,bq,cZ];rw [aZ ho.1,aZ ho.2.1,aZ ho.2.2]
  case build z ps=>simp only [kE,bq];rw [(rV ho).1]
  case bslice z m e ps=>
    obtain ⟨a,b,c⟩:=rV (ρ:=ρ) ho
    simp only [kE,bq]
    rw [b]
    simp only [c]
  case mkfn f xs ys=>
    rw [List.all_append,Bool.and_eq_true] at ho
    simp only [kE,bq]
    rw [Bv ho.1,Bv ho.2]
  case slcS x lo hi=>
    simp only [List.all_append,Bool.and_eq_true] at ho
    simp only [kE,bq,cZ,vI ho.2.1,vI ho.2.2,rR]
    rw [aZ ho.1]
  case slc z x lo hi=>
    simp only [List.all_append,Bool.and_eq_true] at ho
    simp only [kE,bq,cZ,vI ho.2.1,vI ho.2.2,rR]
    rw [aZ ho.1]
  case mm mx xs=>simp only [kE,bq];rw [Bv ho]
  case mv x=>simp only [kE,bq,cZ];rw [aZ ho]
  case box x=>simp only [kE,bq,cZ];rw [aZ ho];try rfl
  case load n a=>simp only [kE,bq,cZ];rw [aZ ho]
  case nilck a=>simp only [kE,bq,cZ];rw [aZ ho]
  case un op a=>simp only [kE,bq,cZ];rw [aZ ho]
  case i2i op a=>simp only [kE,bq,cZ];rw [aZ ho]
  case s2s a=>simp only [kE,bq,cZ];rw [aZ ho]
  case s2b a=>simp only [kE,bq,cZ];rw [aZ ho]
  case b2s a=>simp only [kE,bq,cZ];rw [aZ ho]
  case ifc q a=>simp only [kE,bq,cZ];rw [aZ ho]
  case faddr q a=>simp only [kE,bq,cZ];rw [aZ ho]
  case fld q n a=>simp only [kE,bq,cZ];rw [aZ ho]
  case ext i a=>simp only [kE,bq,cZ];rw [aZ ho]
  case len a=>simp only [kE,bq,cZ];rw [aZ ho]
  case lenS a=>simp only [kE,bq,cZ];rw [aZ ho]
  case store q a x=>simp only [kE,bq,cZ];rw [aZ ho.1,aZ ho.2];try rfl
  case bin q a x=>simp only [kE,bq,cZ];rw [aZ ho.1,aZ ho.2]
  case eq q n a x=>simp only [kE,bq,cZ];rw [aZ ho.1,aZ ho.2]
  case iaddr q n a x=>simp only [kE,bq,cZ];rw [aZ ho.1,aZ ho.2]
  case sidx a x=>simp only [kE,bq,cZ];rw [aZ ho.1,aZ ho.2]
  case aidx q n m a x=>simp only [kE,bq,cZ];rw [aZ ho.1,aZ ho.2]
  case app q n m a x=>simp only [kE,bq,cZ];rw [aZ ho.1,aZ ho.2]
  case mkslice q n a x=>simp only [kE,bq,cZ];rw [aZ ho.1,aZ ho.2]
end Go.AX
/- The walk: what is to be shown of a piece of code, and that it is enough. -/
namespace Go.AX
open Go
abbrev Known:=Nat → List AV → Option AV
def iV (P:Program) (C:Known):Prop:=∀ f xs v,C f xs=some v → Pure P f xs v ∧ ay xs=true ∧ flat v=true
def R8 (P:Program) (f:Nat) (args:List AV) (s:St) (xs:List AV) (s':St) (K:AV → St → Prop):Prop:=
  aR P f args s K ∨ ∃ v,aK P f xs v ∧ K v s'
def p9 (P:Program) (C:Known) (f:Nat) (args:List AV) (s:St) (K:AV → St → Prop):Prop:=
  match views s.get args with
  | some (xs, ps) => match C f xs with
    | some v=>K v (s.puts ps)
    | none=>R8 P f args s xs (s.puts ps) K
  | none=>aR P f args s K
def eD (P:Program) (C:Known) (ρ:Env) (s:St) (K:AV → St → Prop) (op:iI):Prop:=
  match op with
  | .call f args=>p9 P C f (args.map (bF ρ)) s K
  | .callv f args => match bF ρ f with
    | .fn (.func g) first cap=>p9 P C g (first ++ args.map (bF ρ) ++ cap) s K
    | .fn (.yield l) [] []=>iD P l (args.map (bF ρ)) s K
    | _=>False
  | .eq neg t x y => match eqv t (bF ρ x) (bF ρ y) with
    | some b=>K (.bool (if neg then !b else b)) s
    | none=>Vb t (bF ρ x) (bF ρ y)=true ∧ ∀ b,K (.bool b) s
  | op => match bq (kE ρ op) [] s.get s.next with
    | some (v,ps,qs)=>K v (s.apply ps qs)
    | none=>False
def guardE (ρ:Env) (X Y:Prop):Option (Option Nat × Bool) → Prop
  | none=>X
  | some (none,_)=>Y
  | some (some t, want) => match ρ t with
    | .bool b=>if b=want then X else Y
    | .any=>False
    | _=>Y
def opsE (P:Program) (C:Known) (K:Env → St → Prop):List aQ → Env → St → Prop
  | [],ρ,s=>K ρ s
  | o :: r,ρ,s=>guardE ρ (eD P C ρ s (fun v s'=>opsE P C K r (xV ρ o.dst v) s') o.op) (opsE P C K r (xV ρ o.dst (.tup [])) s) o.guard
def unseen (s:St) (ps:List (Nat × Obj)):List Nat:=(ps.filter fun p=>match s.get p.1 with
  | some (.cells _ _ sn)=>!sn
  | _=>true).map (·.1)
def Wf (s:St):Prop:=∀ id,s.next ≤ id → s.get id=none
def Gs (P:Program) (f:Nat) (args:List AV) (s:St) (K:AV → St → Entry → Prop):Prop:=
  ∃ v s' Wr,aR P f args s (fun v' t=>v'=v ∧ t=s') ∧ Wf s ∧ s.next ≤ s'.next ∧ Wf s' ∧ ((∀ id ∈ Wr,id < s.next) ∧ ∀ id,id < s.next → id ∉ Wr → s'.get id=s.get id) ∧ K v s' ⟨List.range s.next,Wr,s.next,s'.next⟩
def lg (P:Program) (C:Known) (f:Nat) (args:List AV) (s:St) (K:AV → St → Entry → Prop):Prop:=
  match views s.get args with
  | some (xs, ps) => match C f xs with
    | some v=>(∀ id ∈ eY args,id < s.next) ∧ K v (s.puts ps) ⟨eY args,unseen s ps,s.next,s.next⟩
    | none=>(∃ v,aK P f xs v ∧ (∀ id ∈ eY args,id < s.next) ∧ K v (s.puts ps) ⟨eY args,unseen s ps,s.next,s.next⟩) ∨ Gs P f args s K
  | none=>Gs P f args s K
def dR (P:Program) (C:Known) (ρ:Env) (s:St) (K:AV → St → Entry → Prop) (op:iI):Prop:=
  match op with
  | .call f args=>lg P C f (args.map (bF ρ)) s K
  | .callv f args => match bF ρ f with
    | .fn (.func g) first cap=>lg P C g (first ++ args.map (bF ρ) ++ cap) s K
    | _=>False
  | op => match bq (kE ρ op) [] s.get s.next with
    | some (v,ps,qs)=>(∀ id ∈ jh (kE ρ op) [],id < s.next) ∧ K v (s.apply ps qs) ⟨jh (kE ρ op) [],ps.map (·.1),s.next,(s.apply ps qs).next⟩
    | none=>False
def gZ (P:Program) (C:Known) (K:Env → St → List Entry → Prop):List aQ → Env → St → List Entry → Prop
  | [],ρ,s,es=>K ρ s es
  | o :: r,ρ,s,es=>guardE ρ (dR P C ρ s (fun v s' e=>gZ P C K r (xV ρ o.dst v) s' (es ++ [e])) o.op) (gZ P C K r (xV ρ o.dst (.tup [])) s (es ++ [⟨[],[],s.next,s.next⟩])) o.guard
abbrev bY:=Exit → Env → St → Prop
def kP (K:Env → St → Prop) (Q:bY):bY
  | .normal,ρ,s=>K ρ s
  | e,ρ,s=>Q e ρ s
def gD (id:Nat) (Q:bY):bY
  | .exit i,ρ,s=>if i=id then Q .normal ρ s else Q (.exit i) ρ s
  | e,ρ,s=>Q e ρ s
def uG (body:bY → Env → St → Prop) (Q:bY):Nat → Env → St → Prop
  | 0,_,_=>False
  | n + 1,ρ,s=>body (kP (uG body Q n) Q) ρ s
def II (body:bY → Env → St → Prop) (Q:bY) (ρ:Env) (s:St):Prop:=∃ n,uG body Q n ρ s
def W (P:Program) (C:Known):bM → bY → Env → St → Prop
  | .skip,Q,ρ,s=>Q .normal ρ s
  | .region l,Q,ρ,s=>opsE P C (Q .normal) l ρ s
  | .draw m l,Q,ρ,s=>gZ P C (fun ρ s es=>aB m es 0 es=true ∧ Q .normal ρ s) l ρ s []
  | .drawT m l r,Q,ρ,s=>gZ P C (fun ρ s es=>aB m es 0 es=true ∧ opsE P C (Q .normal) r ρ s) l ρ s []
  | .rangeF _ _ _ _,_,_,_=>False
  | .seq a b,Q,ρ,s=>W P C a (kP (W P C b Q) Q) ρ s
  | .cond c a b, Q, ρ, s => match bF ρ c with
    | .bool t=>if t then W P C a Q ρ s else W P C b Q ρ s
    | _=>False
  | .block id a,Q,ρ,s=>W P C a (gD id Q) ρ s
  | .loop a,Q,ρ,s=>II (W P C a) Q ρ s
  | .exit id,Q,ρ,s=>Q (.exit id) ρ s
  | .ret,Q,ρ,s=>Q .ret ρ s
def QF (N:Nat) (Q:bY):Exit → List AV → St → Prop:=fun e F s=>∃ ρ,F=gW N ρ ∧ Q e ρ s
section
variable {P:Program} {C:Known} {N:Nat}
theorem uw (hC:iV P C) {f:Nat} {args:List AV} {s:St} {K:AV → St → Prop} (h:p9 P C f args s K):aR P f args s K:=by
  unfold p9 at h
  split at h
  · rename_i xs ps hv
    split at h
    · rename_i v hc
      obtain ⟨h1,h2,h3⟩:=hC _ _ _ hc
      refine aR.views hv ((h1.any h2 h3 (s.puts ps)).mono fun v' s' hh=>?_)
      obtain ⟨rfl,rfl⟩:=hh
      exact h
    · rcases h with h | ⟨v,⟨h1,h2,h3⟩,h⟩
      · exact h
      · refine aR.views hv ((h1.any h2 h3 (s.puts ps)).mono fun v' s' hh=>?_)
        obtain ⟨rfl,rfl⟩:=hh
        exact h
  · exact h
theorem Vd {ρ:Env} {g:Option (Option Nat × Bool)} (hg:(match g with | some (some t,_)=>decide (t < N) | _=>true)=true) {X Y:Prop} (h:guardE ρ X Y g) :
    (gd (gW N ρ) g=some true ∧ X) ∨ (gd (gW N ρ) g=some false ∧ Y):=by
  unfold guardE at h
  split at h
  · exact .inl ⟨rfl,h⟩
  · exact .inr ⟨rfl,h⟩
  · rename_i t want
    simp only [decide_eq_true_eq] at hg
    have e:=o9 (ρ:=ρ) hg
    split at h
    · rename_i b hb
      split at h
      · rename_i hw
        subst hw
        exact .inl ⟨by simp [gd,e,hb],h⟩
      · rename_i hw
        refine .inr ⟨?_,h⟩
        simp [gd,e,hb,hw]
    · exact h.elim
    · rename_i h1 h2
      refine .inr ⟨?_,h⟩
      simp only [gd,e]
theorem qA (hC:iV P C) {Q:List AV → St → Prop} {K:Env → St → Prop} (hK:∀ ρ s,K ρ s → Q (gW N ρ) s):∀ (l:List aQ) (ρ:Env) (s:St),l.all (mM N)=true → opsE P C K l ρ s → jc P Q l (gW N ρ) s
  | [],ρ,s,_,h=>hK ρ s h
  | o :: r, ρ, s, hl, h => by
    simp only [List.all_cons,Bool.and_eq_true] at hl
    obtain ⟨ho1,ho2,ho3⟩:=lC hl.1
    have ih:=qA hC hK r
    simp only [opsE] at h
    simp only [jc]
    rcases Vd ho3 h with ⟨hg,h⟩ | ⟨hg,h⟩
    · rw [hg]
      simp only
      have key:∀ v s',opsE P C K r (xV ρ o.dst v) s' → jc P Q r (fD (gW N ρ) o.dst v) s':=fun v s' hh=>by
        rw [vE];exact ih _ _ hl.2 hh
      unfold eD at h
      split at h
      · rename_i f args hop
        rw [hop] at ho1
        have hm:args.all (kX N)=true:=ho1
        simp only [hop,dX,if_true,dV]
        rw [mR hm]
        exact (uw hC h).mono fun v s'=>key v s'
      · rename_i f args hop
        rw [hop] at ho1
        simp only [iI.yN,List.all_cons,Bool.and_eq_true] at ho1
        simp only [hop,dX,if_true,dV]
        rw [mR ho1.2,aZ ho1.1]
        split at h
        · rename_i g first cap hf
          rw [hf]
          exact (uw hC h).mono fun v s'=>key v s'
        · rename_i l hf
          rw [hf]
          simp only [yieldOf,aZ ho1.1,hf,mR ho1.2]
          exact h.mono fun v s'=>key v s'
        · exact h.elim
      · rename_i neg t x y hop
        rw [hop] at ho1
        simp only [iI.yN,List.all_cons,List.all_nil,Bool.and_true,Bool.and_eq_true] at ho1
        simp only [hop,dX,Bool.false_eq_true,if_false,bq,yL,aZ ho1.1,aZ ho1.2]
        split at h
        · rename_i b hb
          rw [hb]
          exact key _ _ h
        · rename_i hb
          rw [hb]
          exact ⟨h.1,fun b=>key _ _ (h.2 b)⟩
      · rename_i h1 h2 h3
        have hc:dX o.op=false:=by
          cases hop:o.op <;> simp [dX] <;> simp_all
        simp only [hc,Bool.false_eq_true,if_false]
        rw [Sb ho1]
        split at h
        · rename_i v ps qs hv
          rw [hv]
          exact key v _ h
        · exact h.elim
    · rw [hg]
      simp only
      rw [vE]
      exact ih _ _ hl.2 h
mutual
theorem ML {g:Nat → Option Obj}:∀ (x y:AV) (ps:List (Nat × Obj)),view g x=some (y,ps) → ∀ p ∈ ps,∃ e cs sn,g p.1=some (.cells e cs sn) ∧ p.2=.cells e cs true
  | .sl b e o m z, y, ps, h => by
    simp only [view] at h
    split at h
    · rename_i e' cs sn hg
      split at h
      · rename_i he
        simp only [Option.some.injEq,Prod.mk.injEq] at h
        obtain ⟨_,rfl⟩:=h
        intro p hp
        simp only [List.mem_singleton] at hp
        subst hp
        exact ⟨e',cs,sn,hg,by simp [he.1]⟩
      · simp at h
    · simp at h
  | .agg cs, y, ps, h => by
    simp only [view] at h
    split at h
    · rename_i xs q h1
      simp only [Option.some.injEq,Prod.mk.injEq] at h
      obtain ⟨_,rfl⟩:=h
      exact mJ cs _ _ h1
    · simp at h
  | .tup cs, y, ps, h => by
    simp only [view] at h
    split at h
    · rename_i xs q h1
      simp only [Option.some.injEq,Prod.mk.injEq] at h
      obtain ⟨_,rfl⟩:=h
      exact mJ cs _ _ h1
    · simp at h
  | .bool _,y,ps,h=>by simp [view] at h;simp [h.2]
  | .int _ _,y,ps,h=>by simp [view] at h;simp [h.2]
  | .str _,y,ps,h=>by simp [view] at h;simp [h.2]
  | .nilp,y,ps,h=>by simp [view] at h;simp [h.2]
  | .ptr _ _ _,y,ps,h=>by simp [view] at h;simp [h.2]
  | .vp _,y,ps,h=>by simp [view] at h;simp [h.2]
  | .nils,y,ps,h=>by simp [view] at h;simp [h.2]
  | .ps _ _,y,ps,h=>by simp [view] at h;simp [h.2]
  | .nilf,y,ps,h=>by simp [view] at h;simp [h.2]
  | .fn _ _ _,y,ps,h=>by simp [view] at h;simp [h.2]
  | .nili,y,ps,h=>by simp [view] at h;simp [h.2]
  | .ifc _ _,y,ps,h=>by simp [view] at h;simp [h.2]
  | .nilm,y,ps,h=>by simp [view] at h;simp [h.2]
  | .map _,y,ps,h=>by simp [view] at h;simp [h.2]
  | .any,y,ps,h=>by simp [view] at h;simp [h.2]
theorem mJ {g:Nat → Option Obj}:∀ (xs ys:List AV) (ps:List (Nat × Obj)),views g xs=some (ys,ps) → ∀ p ∈ ps,∃ e cs sn,g p.1=some (.cells e cs sn) ∧ p.2=.cells e cs true
  | [],ys,ps,h=>by simp [views] at h;simp [h.2]
  | x :: r, ys, ps, h => by
    simp only [views] at h
    split at h
    · rename_i y p1 ys' q h1 h2
      simp only [Option.some.injEq,Prod.mk.injEq] at h
      obtain ⟨_,rfl⟩:=h
      intro p hp
      rcases List.mem_append.1 hp with hp | hp
      · exact ML x _ _ h1 p hp
      · exact mJ r _ _ h2 p hp
    · simp at h
end
theorem Ae (s0:St) (id:Nat):∀ (ps:List (Nat × Obj)) (s:St),s.get id=s0.get id → (∀ p ∈ ps,p.1=id → s0.get id=some p.2) → (∀ p ∈ ps,∃ o,s.get p.1=some o) → (s.puts ps).get id=s0.get id
  | [],s,h,_,_=>h
  | p :: r, s, h, hp, hd => by
    show ((s.put p.1 p.2).puts r).get id=_
    obtain ⟨o,ho⟩:=hd p (by simp)
    refine Ae s0 id r _ ?_ (fun q hq=>hp q (by simp [hq])) fun q hq=>?_
    · rw [St.get_put ho]
      split
      · rename_i he;exact (hp p (by simp) he).symm
      · exact h
    · obtain ⟨o2,ho2⟩:=hd q (by simp [hq])
      rw [St.get_put ho]
      split
      · exact ⟨_,rfl⟩
      · exact ⟨o2,ho2⟩
theorem uJ {o:aQ} {F:List AV} {s:St} {f:Nat} {args xs:List AV} {ps:List (Nat × Obj)} {v:AV} (hg:gd F o.guard=some true) (hc:dX o.op=true) (hco:dV F o.op=some (f,args))
    (hv:views s.get args=some (xs,ps)) (hk:aK P f xs v) (hD:∀ id ∈ eY args,id < s.next) :
    qU P o F s ⟨eY args,unseen s ps,s.next,s.next⟩ (fD F o.dst v) (s.puts ps):=by
  obtain ⟨k1,k2,k3⟩:=hk
  have hids:=mh args xs ps hv
  obtain ⟨h1,h2,h3,h4⟩:=yB s (eY args) ps [] (fun p hp=>by simpa using hids p hp)
  have hnext:∀ (ps:List (Nat × Obj)) (s:St),(s.puts ps).next=s.next:=by
    intro ps
    induction ps with
    | nil=>intro s;rfl
    | cons p r ih=>intro s;exact (ih _).trans rfl
  have hget:∀ id,id ∈ eY args → (s.keep (eY args)).get id=s.get id:=fun id hid=>by rw [St.kN,if_pos (by simpa using hid)]
  have hv2:views (s.keep (eY args)).get args=some (xs,ps):=by rw [← hv];exact jJ args fun id hid=>hget id hid
  refine ⟨rfl,(hnext ps s).symm,Nat.le_refl _,hD,fun id hid=>?_,.inr ⟨hg,v,(s.keep (eY args)).puts ps,rfl,?_,(hnext ps _).trans rfl,fun id=>?_,fun id hid hne=>?_⟩⟩
  · simp only [unseen,List.mem_map,List.mem_filter] at hid
    obtain ⟨p,⟨hp,_⟩,rfl⟩:=hid
    exact hids p hp
  · unfold Nn
    rw [if_pos hc]
    exact ⟨f,args,hco,aR.views hv2 (k1.any k2 k3 _)⟩
  · have:=h3 id
    rw [show (s.apply ps [])=s.puts ps from rfl,hnext] at this
    exact this
  · refine (Ae (s.keep (eY args)) id ps _ rfl (fun p hp he=>?_) fun p hp=>?_).trans (hget id hid)
    · obtain ⟨e,cs,sn,g1,g2⟩:=mJ args xs ps hv p hp
      have:sn=true:=by
        cases sn with
        | true=>rfl
        | false =>
          refine (hne ?_).elim
          simp only [unseen,List.mem_map,List.mem_filter]
          exact ⟨p,⟨hp,by rw [g1];rfl⟩,he⟩
      subst this
      rw [hget id hid,← he,g1,g2]
    · obtain ⟨e,cs,sn,g1,g2⟩:=mJ args xs ps hv p hp
      exact ⟨_,(hget p.1 (hids p hp)).trans g1⟩
theorem ET {f:FuncId} {args:List AV} {s:St} {R:AV → St → Prop} (hw:Wf s) (h:aR P f args s R):aR P f args (s.keep (List.range s.next)) R:=by
  have hg:∀ id,(s.keep (List.range s.next)).get id=s.get id:=fun id=>by
    rw [St.kN]
    by_cases hid:id < s.next
    · rw [if_pos (by simpa using hid)]
    · rw [if_neg (by simpa using hid),hw id (by omega)]
  refine ⟨h.1,fun c w vs hs hr=>?_⟩
  have hs':Sat c s w:=⟨hs.mem,fun id o ho=>hs.obj id o (by rw [hg];exact ho),fun id id' o o' k h1 h2=>hs.inj id id' o o' k (by rw [hg];exact h1) (by rw [hg];exact h2),hs.fresh,fun id o ho=>hs.top id o (by rw [hg];exact ho),hs.low⟩
  refine (h.2 c w vs hs' hr).mono fun e w' ⟨v,u,c',s',h1,h2,h3,h4,h5⟩=>⟨v,u,c',s',h1,h2,h3,?_,h5⟩
  have hfp:∀ k,fp c (s.keep (List.range s.next)) k ↔ fp c s k:=fun k=>by
    unfold fp;simp only [hg]
  exact ⟨h4.le,h4.size,fun k hk hn=>h4.same k hk (fun hf=>hn ((hfp k).2 hf)),fun k hf=>(h4.foot k hf).elim (fun hf=>.inl ((hfp k).2 hf)) .inr,h4.next,fun id hid hn e=>h4.sig id hid (by rw [← hg];exact hn) e,fun id o ho=>(h4.dom id o ho).elim (fun ⟨o',ho'⟩=>.inl ⟨o',by rw [hg];exact ho'⟩) .inr,h4.os⟩
theorem K3 {o:aQ} {F:List AV} {s s':St} {f:Nat} {args:List AV} {v:AV} (hg:gd F o.guard=some true) (hc:dX o.op=true) (hco:dV F o.op=some (f,args))
    (h:aR P f args s (fun v' t=>v'=v ∧ t=s')) (hw:Wf s) (hn:s.next ≤ s'.next) (hw':Wf s') {Wr:List Nat} (hW:(∀ id ∈ Wr,id < s.next) ∧ ∀ id,id < s.next → id ∉ Wr → s'.get id=s.get id) :
    qU P o F s ⟨List.range s.next,Wr,s.next,s'.next⟩ (fD F o.dst v) s':=by
  refine ⟨rfl,rfl,hn,fun id hid=>by simpa using hid,fun id hid=>by simpa using hW.1 id hid,.inr ⟨hg,v,s',rfl,?_,rfl,fun id=>?_,fun id hid hne=>hW.2 id (by simpa using hid) hne⟩⟩
  · unfold Nn
    rw [if_pos hc]
    exact ⟨f,args,hco,ET hw h⟩
  · split
    · rfl
    · rename_i hnot
      simp only [Bool.or_eq_true,Bool.and_eq_true,decide_eq_true_eq,List.contains_iff_mem,List.mem_range] at hnot
      have h1:¬ id < s.next:=fun h=>hnot (.inl h)
      have h2:¬ id < s'.next:=fun h=>hnot (.inr ⟨by omega,h⟩)
      rw [hw id (by omega),hw' id (by omega)]
end
end Go.AX
/- The walk is enough; loops; functions. -/
namespace Go.AX
open Go
section
variable {P:Program} {C:Known} {N:Nat}
theorem Sc {ρ:Env} {o:iI} (ho:o.yN.all (kX N)=true):jh o (gW N ρ)=jh (kE ρ o) []:=by
  cases o <;> (try rfl) <;> simp only [iI.yN,List.all_cons,List.all_nil,Bool.and_eq_true,Bool.and_true] at ho
  case load q a=>simp only [jh,kE,cZ];rw [aZ ho]
  case store q a x=>simp only [jh,kE,cZ];rw [aZ ho.1]
  case bslice z m e ps=>simp only [jh,kE];rw [(rV ho).2.1]
  case b2s x=>simp only [jh,kE,cZ];rw [aZ ho]
  case nxt x=>simp only [jh,kE,cZ];rw [aZ ho]
  case clr z x=>simp only [jh,kE,cZ];rw [aZ ho]
  case lkp tr z ok m k=>simp only [jh,kE,cZ];rw [aZ ho.1]
  case mup tr m k v=>simp only [jh,kE,cZ];rw [aZ ho.1]
  case app z b st x y=>simp only [jh,kE,cZ];rw [aZ ho.1,aZ ho.2]
theorem oD (hC:iV P C) {K:Env → St → List Entry → Prop}:∀ (l:List aQ) (ρ:Env) (s:St) (es:List Entry),l.all (mM N)=true → gZ P C K l ρ s es →
    ∃ ρ' s' es',xO P l (gW N ρ) s (gW N ρ') s' es' ∧ K ρ' s' (es ++ es')
  | [],ρ,s,es,_,h=>⟨ρ,s,[],⟨rfl,rfl,rfl⟩,by rw [List.append_nil];exact h⟩
  | o :: r, ρ, s, es, hl, h => by
    simp only [List.all_cons,Bool.and_eq_true] at hl
    obtain ⟨ho1,ho2,ho3⟩:=lC hl.1
    simp only [gZ] at h
    have key:∀ (v:AV) (s1:St) (e:Entry),qU P o (gW N ρ) s e (fD (gW N ρ) o.dst v) s1 → gZ P C K r (xV ρ o.dst v) s1 (es ++ [e]) → ∃ ρ' s' es',xO P (o :: r) (gW N ρ) s (gW N ρ') s' es' ∧ K ρ' s' (es ++ es'):=fun v s1 e ht hd=>by
      obtain ⟨ρ',s',es',h1,h2⟩:=oD hC r _ _ _ hl.2 hd
      refine ⟨ρ',s',e :: es',⟨_,s1,e,es',rfl,ht,?_⟩,by simpa using h2⟩
      rw [vE];exact h1
    rcases Vd ho3 h with ⟨hg,h⟩ | ⟨hg,h⟩
    · have hdc : ∀ (f : Nat) (args : List AV), dX o.op = true → dV (gW N ρ) o.op = some (f, args) → lg P C f args s (fun v s' e => gZ P C K r (xV ρ o.dst v) s' (es ++ [e])) → ∃ ρ' s' es', xO P (o :: r) (gW N ρ) s (gW N ρ') s' es' ∧ K ρ' s' (es ++ es') := fun f args hic hco h => by
        have gen:Gs P f args s (fun v s' e=>gZ P C K r (xV ρ o.dst v) s' (es ++ [e])) → ∃ ρ' s' es',xO P (o :: r) (gW N ρ) s (gW N ρ') s' es' ∧ K ρ' s' (es ++ es'):=fun h=>by
          obtain ⟨v,s',Wr,h1,h2,h3,h4,hW,h5⟩:=h
          exact key v _ _ (K3 hg hic hco h1 h2 h3 h4 hW) h5
        unfold lg at h
        split at h
        · rename_i xs ps hv
          split at h
          · rename_i v hk
            obtain ⟨hD,h⟩:=h
            exact key v _ _ (uJ hg hic hco hv (hC _ _ _ hk) hD) h
          · rcases h with ⟨v,hk,hD,h⟩ | h
            · exact key v _ _ (uJ hg hic hco hv hk hD) h
            · exact gen h
        · exact gen h
      unfold dR at h
      split at h
      · rename_i f args hop
        rw [hop] at ho1
        have hm:args.all (kX N)=true:=ho1
        exact hdc f _ (by rw [hop];rfl) (by rw [hop];simp only [dV];rw [mR hm]) h
      · rename_i f args hop
        rw [hop] at ho1
        simp only [iI.yN,List.all_cons,Bool.and_eq_true] at ho1
        split at h
        · rename_i g first cap hf
          exact hdc g _ (by rw [hop];rfl) (by rw [hop];simp only [dV];rw [mR ho1.2,aZ ho1.1,hf]) h
        · exact h.elim
      · rename_i h1 h2
        have hc:dX o.op=false:=by
          cases hop:o.op <;> simp [dX] <;> simp_all
        split at h
        · rename_i v ps qs hv
          obtain ⟨hD,h⟩:=h
          rw [← Sb ho1] at hv
          have ht:=Du (P:=P) hg hc hv (by rw [Sc ho1];exact hD)
          rw [Sc ho1] at ht
          exact key v _ _ ht h
        · exact h.elim
    · exact key (.tup []) s ⟨[],[],s.next,s.next⟩ ⟨rfl,rfl,Nat.le_refl _,by simp,by simp,.inl ⟨hg,rfl,rfl,rfl⟩⟩ h
theorem dY (hmix:P.follows .mixedOrders=true) (hC:iV P C):∀ (c:bM) (Q:bY) (ρ:Env) (s:St),bR N c=true → W P C c Q ρ s → qF P c (QF N Q) (gW N ρ) s
  | .skip,Q,ρ,s,_,h=>DZ ⟨ρ,rfl,h⟩
  | .exit id,Q,ρ,s,_,h=>EN ⟨ρ,rfl,h⟩
  | .ret,Q,ρ,s,_,h=>Ip ⟨ρ,rfl,h⟩
  | .region l,Q,ρ,s,hin,h=>vR (qA hC (fun ρ s hh=>⟨ρ,rfl,hh⟩) l ρ s (by simpa [bR] using hin) h)
  | .draw m l, Q, ρ, s, hin, h => by
    obtain ⟨ρ',s',es',h1,h2⟩:=oD hC l ρ s [] (by simpa [bR] using hin) h
    simp only [List.nil_append] at h2
    exact EU hmix h1 h2.1 ⟨ρ',rfl,h2.2⟩
  | .drawT m l r, Q, ρ, s, hin, h => by
    simp only [bR,Bool.and_eq_true] at hin
    obtain ⟨ρ',s',es',h1,h2⟩:=oD hC l ρ s [] hin.1 h
    simp only [List.nil_append] at h2
    exact KR hmix h1 h2.1 (qA hC (fun ρ s hh=>⟨ρ,rfl,hh⟩) r ρ' s' hin.2 h2.2)
  | .rangeF _ _ _ _,Q,ρ,s,hin,h=>h.elim
  | .seq a b, Q, ρ, s, hin, h => by
    simp only [bR,Bool.and_eq_true] at hin
    refine I6 ((dY hmix hC a _ ρ s hin.1 h).mono fun e F s hq=>?_)
    obtain ⟨ρ',rfl,hq⟩:=hq
    cases e with
    | normal=>exact dY hmix hC b Q ρ' s hin.2 hq
    | _=>exact ⟨ρ',rfl,hq⟩
  | .cond c a b, Q, ρ, s, hin, h => by
    simp only [bR,Bool.and_eq_true] at hin
    simp only [W] at h
    split at h
    · rename_i t ht
      refine EJ (t:=t) (by rw [aZ hin.1];exact ht) ?_
      cases t with
      | true=>exact dY hmix hC a Q ρ s hin.2.1 (by simpa using h)
      | false=>exact dY hmix hC b Q ρ s hin.2.2 (by simpa using h)
    · exact h.elim
  | .block id a, Q, ρ, s, hin, h => by
    refine zH ((dY hmix hC a _ ρ s (by simpa [bR] using hin) h).mono fun e F s hq=>?_)
    obtain ⟨ρ',rfl,hq⟩:=hq
    cases e with
    | exit i =>
      simp only [gD] at hq
      simp only [oz]
      split at hq
      · rename_i hi;rw [if_pos hi];exact ⟨ρ',rfl,hq⟩
      · rename_i hi;rw [if_neg hi];exact ⟨ρ',rfl,hq⟩
    | _=>exact ⟨ρ',rfl,hq⟩
  | .loop a, Q, ρ, s, hin, h => by
    obtain ⟨n,h⟩:=h
    refine Ey n ?_
    have key:∀ (n:Nat) (ρ:Env) (s:St),uG (W P C a) Q n ρ s → LoopN P a (QF N Q) n (gW N ρ) s:=by
      intro n
      induction n with
      | zero=>intro ρ s h;exact h.elim
      | succ n ih =>
        intro ρ s h
        refine (dY hmix hC a _ ρ s (by simpa [bR] using hin) h).mono fun e F s hq=>?_
        obtain ⟨ρ',rfl,hq⟩:=hq
        cases e with
        | normal=>exact ih ρ' s hq
        | _=>exact ⟨ρ',rfl,hq⟩
    exact key n ρ s h
theorem uo {ρ:Env} {X Y X' Y':Prop} (hx:X → X') (hy:Y → Y') {g:Option (Option Nat × Bool)} (h:guardE ρ X Y g):guardE ρ X' Y' g:=by
  unfold guardE at h ⊢
  split at h
  · exact hx h
  · exact hy h
  · split at h
    · split at h
      · rename_i hb;rw [if_pos hb];exact hx h
      · rename_i hb;rw [if_neg hb];exact hy h
    · exact h.elim
    · exact hy h
theorem x9 {f:Nat} {args:List AV} {s:St} {K K':AV → St → Prop} (hk:∀ v s,K v s → K' v s) (h:p9 P C f args s K):p9 P C f args s K':=by
  unfold p9 at h ⊢
  split at h
  · split at h
    · exact hk _ _ h
    · rcases h with h | ⟨v,h1,h2⟩
      · exact .inl (h.mono hk)
      · exact .inr ⟨v,h1,hk _ _ h2⟩
  · exact h.mono hk
theorem L8 {ρ:Env} {s:St} {K K':AV → St → Prop} (hk:∀ v s,K v s → K' v s) {op:iI} (h:eD P C ρ s K op):eD P C ρ s K' op:=by
  unfold eD at h ⊢
  split at h
  · exact x9 hk h
  · split at h
    · exact x9 hk h
    · exact h.mono hk
    · exact h.elim
  · split at h
    · exact hk _ _ h
    · exact ⟨h.1,fun b=>hk _ _ (h.2 b)⟩
  · split at h
    · exact hk _ _ h
    · exact h.elim
theorem oV {K K':Env → St → Prop} (hk:∀ ρ s,K ρ s → K' ρ s):∀ (l:List aQ) (ρ:Env) (s:St),opsE P C K l ρ s → opsE P C K' l ρ s
  | [],ρ,s,h=>hk ρ s h
  | o :: r, ρ, s, h => by
    simp only [opsE] at h ⊢
    exact uo (L8 fun v s'=>oV hk r _ _) (oV hk r _ _) h
theorem Kh {ρ:Env} {s:St} {K K':AV → St → Entry → Prop} (hk:∀ v s e,K v s e → K' v s e) {op:iI} (h:dR P C ρ s K op):dR P C ρ s K' op:=by
  have gen:∀ {f:Nat} {args:List AV},Gs P f args s K → Gs P f args s K':=fun ⟨v,s',Wr,h1,h2,h3,h4,hW,h5⟩=>⟨v,s',Wr,h1,h2,h3,h4,hW,hk _ _ _ h5⟩
  have dc:∀ {f:Nat} {args:List AV},lg P C f args s K → lg P C f args s K':=fun h=>by
    unfold lg at h ⊢
    split at h
    · split at h
      · exact ⟨h.1,hk _ _ _ h.2⟩
      · rcases h with ⟨v,h1,h2,h3⟩ | h
        · exact .inl ⟨v,h1,h2,hk _ _ _ h3⟩
        · exact .inr (gen h)
    · exact gen h
  unfold dR at h ⊢
  split at h
  · exact dc h
  · split at h
    · exact dc h
    · exact h.elim
  · split at h
    · exact ⟨h.1,hk _ _ _ h.2⟩
    · exact h
theorem nI {K K':Env → St → List Entry → Prop} (hk:∀ ρ s es,K ρ s es → K' ρ s es):∀ (l:List aQ) (ρ:Env) (s:St) (es:List Entry),gZ P C K l ρ s es → gZ P C K' l ρ s es
  | [],ρ,s,es,h=>hk ρ s es h
  | o :: r, ρ, s, es, h => by
    simp only [gZ] at h ⊢
    exact uo (Kh fun v s' e=>nI hk r _ _ _) (nI hk r _ _ _) h
theorem nR:∀ (c:bM) {Q Q':bY} (hq:∀ e ρ s,Q e ρ s → Q' e ρ s) (ρ:Env) (s:St),W P C c Q ρ s → W P C c Q' ρ s
  | .skip,Q,Q',hq,ρ,s,h=>hq _ _ _ h
  | .exit id,Q,Q',hq,ρ,s,h=>hq _ _ _ h
  | .ret,Q,Q',hq,ρ,s,h=>hq _ _ _ h
  | .region l,Q,Q',hq,ρ,s,h=>oV (hq .normal) l ρ s h
  | .draw m l,Q,Q',hq,ρ,s,h=>nI (fun _ _ _ hh=>⟨hh.1,hq _ _ _ hh.2⟩) l ρ s [] h
  | .drawT m l r,Q,Q',hq,ρ,s,h=>nI (fun _ _ _ hh=>⟨hh.1,oV (hq .normal) r _ _ hh.2⟩) l ρ s [] h
  | .rangeF _ _ _ _,Q,Q',hq,ρ,s,h=>h.elim
  | .seq a b, Q, Q', hq, ρ, s, h => nR a (fun e ρ s hh => by
    cases e with
    | normal=>exact nR b hq ρ s hh
    | _=>exact hq _ _ _ hh) ρ s h
  | .cond c a b, Q, Q', hq, ρ, s, h => by
    simp only [W] at h ⊢
    split at h
    · rename_i t ht
      cases t with
      | true=>exact nR a hq ρ s h
      | false=>exact nR b hq ρ s h
    · exact h.elim
  | .block id a, Q, Q', hq, ρ, s, h => nR a (fun e ρ s hh => by
    cases e with
    | exit i =>
      simp only [gD] at hh ⊢
      split at hh
      · rename_i hi;rw [if_pos hi];exact hq _ _ _ hh
      · rename_i hi;rw [if_neg hi];exact hq _ _ _ hh
    | _=>exact hq _ _ _ hh) ρ s h
  | .loop a, Q, Q', hq, ρ, s, ⟨n, h⟩ => by
    refine ⟨n,?_⟩
    have key:∀ (n:Nat) (ρ:Env) (s:St),uG (W P C a) Q n ρ s → uG (W P C a) Q' n ρ s:=by
      intro n
      induction n with
      | zero=>intro ρ s h;exact h.elim
      | succ n ih =>
        intro ρ s h
        refine nR a (fun e ρ s hh=>?_) ρ s h
        cases e with
        | normal=>exact ih _ _ hh
        | _=>exact hq _ _ _ hh
    exact key n ρ s h
theorem NA {a:bM} {Q:bY} (I:Nat → Env → St → Prop) (h:∀ n ρ s,I n ρ s → W P C a (kP (fun ρ' s'=>∃ m,m < n ∧ I m ρ' s') Q) ρ s) {n:Nat} {ρ:Env} {s:St} (h0:I n ρ s):II (W P C a) Q ρ s:=by
  have key:∀ (k n:Nat) (ρ:Env) (s:St),n < k → I n ρ s → uG (W P C a) Q k ρ s:=by
    intro k
    induction k with
    | zero=>intro n ρ s hn;omega
    | succ k ih =>
      intro n ρ s hn hi
      refine nR a (fun e ρ s hh=>?_) ρ s (h n ρ s hi)
      cases e with
      | normal=>obtain ⟨m,hm,hi⟩:=hh;exact ih m ρ s (by omega) hi
      | _=>exact hh
  exact ⟨n + 1,key _ n ρ s (Nat.lt_succ_self n) h0⟩
def uX (args:List AV):Env:=fun i=>args.getD i (.tup [])
theorem EX {args:List AV} {N:Nat} (h:args.length ≤ N):gG args N=gW N (uX args):=by
  apply List.ext_getElem?
  intro i
  by_cases hi:i < N
  · rw [o9 hi]
    simp only [gG,uX]
    by_cases h2:i < args.length
    · rw [List.getElem?_append_left h2];simp [List.getD_eq_getElem?_getD,h2]
    · rw [List.getElem?_append_right (by omega)]
      rw [List.getElem?_replicate,if_pos (by omega)]
      simp [List.getD_eq_getElem?_getD,List.getElem?_eq_none (show args.length ≤ i by omega)]
  · rw [List.getElem?_eq_none (by simp [gG];omega),List.getElem?_eq_none (by simp [vk];omega)]
def rD (ρ:Env) (g:Nat → Option Obj):Nat × Option (Option Nat) → Option AV
  | (k,none)=>some (ρ k)
  | (k, some q) => match rd g (ρ k) with
    | some cs => match q with
      | none=>cs[0]?
      | some n=>if n ≤ cs.length then some (.agg (cs.take n)) else none
    | none=>none
def o8 (ρ:Env) (g:Nat → Option Obj):List (Nat × Option (Option Nat)) → Option (List AV)
  | []=>some []
  | r :: l => match rD ρ g r, o8 ρ g l with
    | some v,some vs=>some (v :: vs)
    | _,_=>none
def oneOf:List AV → AV
  | [v]=>v
  | vs=>.tup vs
def AZ (res:List (Nat × Option (Option Nat))) (R:AV → St → Prop) (ρ:Env) (s:St):Prop:=
  match o8 ρ s.get res with
  | some vs=>R (oneOf vs) s
  | none=>False
def Cy (res:List (Nat × Option (Option Nat))) (R:AV → St → Prop):bY
  | .normal,ρ,s=>AZ res R ρ s
  | .ret,ρ,s=>AZ res R ρ s
  | _,_,_=>False
theorem vU {ρ:Env} (g:Nat → Option Obj):∀ {l:List (Nat × Option (Option Nat))},mg N l=true → jO (gW N ρ) g l=o8 ρ g l
  | [],_=>rfl
  | (k, q) :: r, hl => by
    simp only [mg,List.all_cons,Bool.and_eq_true,decide_eq_true_eq] at hl
    have e:=o9 (ρ:=ρ) hl.1
    simp only [o8,jO]
    rw [vU g (l:=r) hl.2]
    have:rD ρ g (k,q)=kR (gW N ρ) g (k,q):=by
      cases q with
      | none=>simp only [rD,kR,e]
      | some q =>
        simp only [rD,kR,List.getD_eq_getElem?_getD,e,Option.getD_some]
        cases rd g (ρ k) <;> rfl
    rw [this]
    cases kR (gW N ρ) g (k,q) <;> cases o8 ρ g r <;> rfl
theorem bT (hmix:P.follows .mixedOrders=true) (hC:iV P C) {f:FuncId} {af:aM} (hf:aL P f=some af) (hin:(bR af.ntmps af.body && mg af.ntmps af.results)=true) {args:List AV} {s:St} {R:AV → St → Prop}
    (hl:args.length ≤ af.ntmps) (h:W P C af.body (Cy af.results R) (uX args) s):aR P f args s R:=by
  simp only [Bool.and_eq_true] at hin
  refine uO hf ?_
  rw [EX hl]
  refine (dY hmix hC af.body _ _ s hin.1 h).mono fun e F s hq=>?_
  obtain ⟨ρ,rfl,hq⟩:=hq
  have key:AZ af.results R ρ s → ∃ v,oG af.results (gW af.ntmps ρ) s.get=some v ∧ R v s:=fun h=>by
    unfold AZ at h
    split at h
    · rename_i vs hv
      refine ⟨oneOf vs,?_,h⟩
      simp only [oG]
      rw [vU _ hin.2,hv]
      rcases vs with _ | ⟨a,_ | ⟨b,r⟩⟩ <;> rfl
    · exact h.elim
  cases e with
  | normal=>exact ⟨.inl rfl,key hq⟩
  | ret=>exact ⟨.inr rfl,key hq⟩
  | _=>exact hq.elim
theorem BF (hmix:P.follows .mixedOrders=true) (hC:iV P C) {f:FuncId} {af:aM} (hf:aL P f=some af) (hin:(bR af.ntmps af.body && mg af.ntmps af.results)=true) {args:List AV} {v:AV}
    (hl:args.length ≤ af.ntmps) (h:W P C af.body (Cy af.results fun v' s'=>v'=v) (uX args) ⟨[],0⟩):Pure P f args v:=bT hmix hC hf hin hl h
end
end Go.AX
/- The rules by which a walk unfolds: one for each word, none by computing in the checker. -/
namespace Go.AX
open Go
class yZ where
  p:Prop
class uS (α:Type) where
  k:α → Prop
class DF where
  k:AV → St → Prop
class Vs where
  k:List AV → List (Nat × Obj) → Prop
class Qx where
  q:bY
class Ot where
  k:St → Prop
def rY (s:St) [K:Ot]:Prop:=K.k s
theorem Tx (h:List (Nat × Obj)) (n:Nat) (K:St → Prop):@rY ⟨h,n⟩ ⟨K⟩=K ⟨h,n⟩:=rfl
def iN {α:Type} (o:Option α) [K:uS α]:Prop:=match o with
  | some v=>K.k v
  | none=>False
theorem J8 {α:Type} (v:α) (K:α → Prop):@iN α (some v) ⟨K⟩=K v:=rfl
def Jw (c:Prop) (X Y:yZ):Prop:=(c → X.p) ∧ (¬ c → Y.p)
def su (c:Prop) [X:yZ] [Y:yZ]:Prop:=Jw c X Y
theorem Mc (X Y:Prop):@su True ⟨X⟩ ⟨Y⟩=X:=by simp [su,Jw]
theorem J6 (X Y:Prop):@su False ⟨X⟩ ⟨Y⟩=Y:=by simp [su,Jw]
theorem Ay {c:Prop} {X Y:Prop} (h1:c → X) (h2:¬ c → Y):@su c ⟨X⟩ ⟨Y⟩:=⟨h1,h2⟩
def BJ (v:AV) (want:Bool) [X:yZ] [Y:yZ]:Prop:=match v with
  | .bool b=>if b=want then X.p else Y.p
  | .any=>False
  | _=>Y.p
theorem Em (b want:Bool) (X Y:Prop):@BJ (.bool b) want ⟨X⟩ ⟨Y⟩ = @su (b=want) ⟨X⟩ ⟨Y⟩:=by
  by_cases h:b=want <;> simp [BJ,su,Jw,h]
theorem GK (l:List AV) (want:Bool) (X Y:Prop):@BJ (.tup l) want ⟨X⟩ ⟨Y⟩=Y:=rfl
theorem EB (ρ:Env) (X Y:Prop):guardE ρ X Y none=X:=rfl
theorem Fb (ρ:Env) (X Y:Prop) (w:Bool):guardE ρ X Y (some (none,w))=Y:=rfl
theorem Ea (ρ:Env) (X Y:Prop) (t:Nat) (w:Bool):guardE ρ X Y (some (some t,w)) = @BJ (ρ t) w ⟨X⟩ ⟨Y⟩:=rfl
def OY (v:AV) [X:yZ] [Y:yZ]:Prop:=match v with
  | .bool t=>if t then X.p else Y.p
  | _=>False
theorem GX (t:Bool) (X Y:Prop):@OY (.bool t) ⟨X⟩ ⟨Y⟩ = @su (t=true) ⟨X⟩ ⟨Y⟩:=by
  cases t <;> simp [OY,su,Jw]
section
variable (P:Program) (C:Known)
theorem TK (Q:bY) (ρ:Env) (s:St):W P C .skip Q ρ s=Q .normal ρ s:=rfl
theorem MB (l:List aQ) (Q:bY) (ρ:Env) (s:St):W P C (.region l) Q ρ s=opsE P C (Q .normal) l ρ s:=rfl
theorem Vg (a b:bM) (Q:bY) (ρ:Env) (s:St):W P C (.seq a b) Q ρ s=W P C a (kP (W P C b Q) Q) ρ s:=rfl
theorem SN (c:AO) (a b:bM) (Q:bY) (ρ:Env) (s:St):W P C (.cond c a b) Q ρ s = @OY (bF ρ c) ⟨W P C a Q ρ s⟩ ⟨W P C b Q ρ s⟩:=rfl
theorem Py (id:Nat) (a:bM) (Q:bY) (ρ:Env) (s:St):W P C (.block id a) Q ρ s=W P C a (gD id Q) ρ s:=rfl
def I5 (a:bM) (ρ:Env) (s:St) [Q:Qx]:Prop:=II (W P C a) Q.q ρ s
theorem SI (a:bM) (Q:bY) (ρ:Env) (s:St):W P C (.loop a) Q ρ s = @I5 P C a ρ s ⟨Q⟩:=rfl
theorem kC (a:bM) (Q:bY) (ρ:Env) (s:St):@I5 P C a ρ s ⟨Q⟩=II (W P C a) Q ρ s:=rfl
theorem SX (id:Nat) (Q:bY) (ρ:Env) (s:St):W P C (.exit id) Q ρ s=Q (.exit id) ρ s:=rfl
theorem Ux (Q:bY) (ρ:Env) (s:St):W P C .ret Q ρ s=Q .ret ρ s:=rfl
theorem BP (K:Env → St → Prop) (Q:bY) (ρ:Env) (s:St):kP K Q .normal ρ s=K ρ s:=rfl
theorem Le (K:Env → St → Prop) (Q:bY) (ρ:Env) (s:St):kP K Q .ret ρ s=Q .ret ρ s:=rfl
theorem GZ (K:Env → St → Prop) (Q:bY) (i:Nat) (ρ:Env) (s:St):kP K Q (.exit i) ρ s=Q (.exit i) ρ s:=rfl
theorem uY (id:Nat) (Q:bY) (ρ:Env) (s:St):gD id Q .normal ρ s=Q .normal ρ s:=rfl
theorem BU (id:Nat) (Q:bY) (ρ:Env) (s:St):gD id Q .ret ρ s=Q .ret ρ s:=rfl
theorem yQ (id:Nat) (Q:bY) (ρ:Env) (s:St):gD id Q (.exit id) ρ s=Q .normal ρ s:=if_pos rfl
theorem zC (id i:Nat) (Q:bY) (ρ:Env) (s:St) (h:(i=id)=False):gD id Q (.exit i) ρ s=Q (.exit i) ρ s:=if_neg (by simp [h])
theorem Er (res:List (Nat × Option (Option Nat))) (R:AV → St → Prop) (ρ:Env) (s:St):Cy res R .normal ρ s=AZ res R ρ s:=rfl
theorem M9 (res:List (Nat × Option (Option Nat))) (R:AV → St → Prop) (ρ:Env) (s:St):Cy res R .ret ρ s=AZ res R ρ s:=rfl
theorem L9 (K:Env → St → Prop) (ρ:Env) (s:St):opsE P C K [] ρ s=K ρ s:=rfl
theorem Jg (K:Env → St → Prop) (d:Nat) (op:iI) (g:Option (Option Nat × Bool)) (r:List aQ) (ρ:Env) (s:St) :
    opsE P C K (⟨some d,op,g⟩ :: r) ρ s=guardE ρ (eD P C ρ s (fun v s'=>opsE P C K r (upd ρ d v) s') op) (opsE P C K r (upd ρ d (.tup [])) s) g:=rfl
theorem FZ (K:Env → St → Prop) (op:iI) (g:Option (Option Nat × Bool)) (r:List aQ) (ρ:Env) (s:St) :
    opsE P C K (⟨none,op,g⟩ :: r) ρ s=guardE ρ (eD P C ρ s (fun v s'=>opsE P C K r ρ s') op) (opsE P C K r ρ s) g:=rfl
theorem Jz (K:Env → St → List Entry → Prop) (ρ:Env) (s:St) (es:List Entry):gZ P C K [] ρ s es=K ρ s es:=rfl
theorem Hg (K:Env → St → List Entry → Prop) (d:Nat) (op:iI) (g:Option (Option Nat × Bool)) (r:List aQ) (ρ:Env) (s:St) (es:List Entry) :
    gZ P C K (⟨some d,op,g⟩ :: r) ρ s es=guardE ρ (dR P C ρ s (fun v s' e=>gZ P C K r (upd ρ d v) s' (es ++ [e])) op) (gZ P C K r (upd ρ d (.tup [])) s (es ++ [⟨[],[],s.next,s.next⟩])) g:=rfl
theorem D9 (K:Env → St → List Entry → Prop) (op:iI) (g:Option (Option Nat × Bool)) (r:List aQ) (ρ:Env) (s:St) (es:List Entry) :
    gZ P C K (⟨none,op,g⟩ :: r) ρ s es=guardE ρ (dR P C ρ s (fun v s' e=>gZ P C K r ρ s' (es ++ [e])) op) (gZ P C K r ρ s (es ++ [⟨[],[],s.next,s.next⟩])) g:=rfl
theorem Qz (ρ:Env) (k:Nat) (v:AV) (i:Nat):upd ρ k v i=if i=k then v else ρ i:=rfl
theorem Ut (ρ:Env) (n:Nat):bF ρ (.t n)=ρ n:=rfl
theorem UJ (ρ:Env) (v:AV):bF ρ (.k v)=v:=rfl
theorem Jl (x:AV) (r:List AV):uX (x :: r) 0=x:=rfl
theorem JM (x:AV) (r:List AV) (n:Nat):uX (x :: r) (n + 1)=uX r n:=rfl
variable (ρ:Env) (s:St) (K:AV → St → Prop)
def kT (e:Eff) (s:St) [K:DF]:Prop:=match e with
  | some (v,ps,qs)=>K.k v (s.apply ps qs)
  | none=>False
theorem La (v:AV) (ps:List (Nat × Obj)) (qs:List Obj):@kT (some (v,ps,qs)) s ⟨K⟩ = @rY (s.apply ps qs) ⟨K v⟩:=rfl
theorem Tk (x:AO):eD P C ρ s K (.mv x) = @iN _ (some (bF ρ x)) ⟨fun v=>K v s⟩:=rfl
theorem Ry (x:AV):eD P C ρ s K (.cst x)=K x s:=rfl
def C8 (c a b:AV) [K:uS AV]:Prop:=match c with
  | .bool t=>K.k (if t then a else b)
  | _=>False
theorem Gj (a b:AV) (K:AV → Prop):@C8 (.bool true) a b ⟨K⟩=K a:=rfl
theorem DT (a b:AV) (K:AV → Prop):@C8 (.bool false) a b ⟨K⟩=K b:=rfl
theorem Fh (t:Bool) (a b:AV) (K:AV → Prop):@C8 (.bool t) a b ⟨K⟩ = @su (t=true) ⟨K a⟩ ⟨K b⟩:=by
  cases t <;> simp [C8,su,Jw]
theorem Me (c a b:AO):eD P C ρ s K (.pick c a b) = @C8 (bF ρ c) (bF ρ a) (bF ρ b) ⟨fun v=>K v s⟩:=by
  simp only [eD,kE,bq,AO.ev]
  cases bF ρ c <;> rfl
theorem Kj (z:List AV):eD P C ρ s K (.alloc z) = @kT (some (.ptr s.next 0 0,[],[.cells 0 z false])) s ⟨K⟩:=rfl
theorem Rq (o:BinOp) (x y:AO):eD P C ρ s K (.bin o x y) = @iN _ (u6 o (bF ρ x) (bF ρ y)) ⟨(fun v=>K v s)⟩:=by
  simp only [eD,kE,bq,AO.ev]
  cases u6 o (bF ρ x) (bF ρ y) <;> rfl
theorem Tt (o:UnOp) (x:AO):eD P C ρ s K (.un o x) = @iN _ (SV o (bF ρ x)) ⟨(fun v=>K v s)⟩:=by
  simp only [eD,kE,bq,AO.ev]
  cases SV o (bF ρ x) <;> rfl
def PV (o:Option Bool) (u:Bool) (neg:Bool) [K:uS Bool]:Prop:=match o with
  | some b=>K.k (if neg then !b else b)
  | none=>u=true ∧ ∀ b,K.k b
theorem Lg (b u neg:Bool) (K:Bool → Prop):@PV (some b) u neg ⟨K⟩ = @iN _ (some b) ⟨fun b=>K (if neg then !b else b)⟩:=rfl
def Co [K:uS Bool]:Prop:=∀ b,K.k b
theorem y8 {K:Bool → Prop} (h1:K true) (h2:K false):@Co ⟨K⟩:=fun b=>by cases b;exact h2;exact h1
theorem JW (neg:Bool) (K:Bool → Prop):@PV none true neg ⟨K⟩ = @Co ⟨K⟩:=by simp [PV,Co]
theorem Ud (neg:Bool) (t:nN) (x y:AO):eD P C ρ s K (.eq neg t x y) = @PV (eqv t (bF ρ x) (bF ρ y)) (Vb t (bF ρ x) (bF ρ y)) neg ⟨(fun b=>K (.bool b) s)⟩:=by
  simp only [eD]
  cases eqv t (bF ρ x) (bF ρ y) <;> rfl
def jf (n:Option Nat):Option (List AV) → Option AV
  | some cs => match n with
    | none => match cs with
      | x :: _=>some x
      | []=>none
    | some n=>if n ≤ cs.length then some (.agg (cs.take n)) else none
  | none=>none
theorem Kr (x:AV) (r:List AV):jf none (some (x :: r))=some x:=rfl
theorem HZ (n:Nat) (cs:List AV):jf (some n) (some cs)=if n ≤ cs.length then some (.agg (cs.take n)) else none:=rfl
theorem OO (n:Option Nat) (a:AO):eD P C ρ s K (.load n a) = @iN _ (jf n (rd s.get (bF ρ a))) ⟨(fun v=>K v s)⟩:=by
  simp only [eD,kE,bq,AO.ev]
  cases rd s.get (bF ρ a) with
  | none=>rfl
  | some cs =>
    cases n with
    | none=>cases cs <;> rfl
    | some n =>
      simp only [jf]
      by_cases h:n ≤ cs.length <;> simp [h,iN,St.apply]
def BH (s:St) (n:Nat) (a x:AV) [K:DF]:Prop:=match a with
  | .ptr b e o => match s.get b with
    | some (.cells e' cs false)=>(e=e' ∧ o + n ≤ cs.length ∧ x.cells.length=n ∧ x.cells.all AV.one=true) ∧ K.k .any (s.put b (.cells e (cs.take o ++ x.cells ++ cs.drop (o + n)) false))
    | _=>False
  | _=>False
def E8 (o:Option Obj) (s:St) (n b e off:Nat) (x:AV) [K:DF]:Prop:=match o with
  | some (.cells e' cs false)=>(e=e' ∧ off + n ≤ cs.length ∧ x.cells.length=n ∧ x.cells.all AV.one=true) ∧ K.k .any (s.put b (.cells e (cs.take off ++ x.cells ++ cs.drop (off + n)) false))
  | _=>False
def jd (c:Prop) [X:yZ]:Prop:=c ∧ X.p
theorem Jp (X:Prop):@jd True ⟨X⟩=X:=by simp [jd]
theorem aA {c X:Prop} (h1:c) (h2:X):@jd c ⟨X⟩:=⟨h1,h2⟩
theorem FP (s:St) (n b e o:Nat) (x:AV) (K:AV → St → Prop):@BH s n (.ptr b e o) x ⟨K⟩ = @E8 (s.get b) s n b e o x ⟨K⟩:=by
  simp only [BH,E8]
theorem ER (s:St) (n b e e' o:Nat) (cs:List AV) (x:AV) (K:AV → St → Prop):@E8 (some (.cells e' cs false)) s n b e o x ⟨K⟩ = @jd (e=e' ∧ o + n ≤ cs.length ∧ x.cells.length=n ∧ x.cells.all AV.one=true) ⟨@rY (s.put b (.cells e (cs.take o ++ x.cells ++ cs.drop (o + n)) false)) ⟨K .any⟩⟩:=rfl
theorem Kk (n:Nat) (a x:AO):eD P C ρ s K (.store n a x) = @BH s n (bF ρ a) (bF ρ x) ⟨K⟩:=by
  simp only [eD,kE,bq,AO.ev,BH]
  cases bF ρ a <;> (try rfl)
  rename_i b e o
  simp only
  cases hg:s.get b with
  | none=>rfl
  | some ob =>
    cases ob with
    | map es=>rfl
    | iter p q=>rfl
    | raw k o F us=>rfl
    | cells e' cs sn =>
      cases sn with
      | true=>rfl
      | false =>
        simp only
        generalize (bF ρ x)=X
        show (match (if e=e' ∧ o + n ≤ cs.length ∧ X.cells.length=n ∧ X.cells.all AV.one=true then some (AV.any,[(b,Obj.cells e (List.take o cs ++ X.cells ++ List.drop (o + n) cs) false)],([]:List Obj)) else none) with
          | some (v,ps,qs)=>K v (s.apply ps qs)
          | none=>False)=_
        by_cases h:e=e' ∧ o + n ≤ cs.length ∧ X.cells.length=n ∧ X.cells.all AV.one=true
        · rw [if_pos h];simp only [h,true_and,St.apply,List.foldl,and_self]
        · rw [if_neg h];simp only [h,false_and]
theorem QZ (x:AO):eD P C ρ s K (.box x) = @jd ((bF ρ x).cells.all AV.one=true) ⟨@kT (some (.ptr s.next 0 0,[],[.cells 0 (bF ρ x).cells false])) s ⟨K⟩⟩:=by
  simp only [eD,kE,bq,AO.ev]
  generalize (bF ρ x)=X
  show (match (if X.cells.all AV.one=true then some (AV.ptr s.next 0 0,([]:List (Nat × Obj)),[Obj.cells 0 X.cells false]) else none) with
    | some (v,ps,qs)=>K v (s.apply ps qs)
    | none=>False)=_
  by_cases h:X.cells.all AV.one=true
  · rw [if_pos h];simp only [jd,kT,h,true_and,St.apply,List.foldl]
  · rw [if_neg h];simp only [jd,h,Bool.false_eq_true,false_and]
theorem KH (z:List AV) (ps:List (Nat × Nat × AO)):eD P C ρ s K (.build z ps) = @iN _ (iP z (ps.map fun p=>(p.1,p.2.1,bF ρ p.2.2))) ⟨(fun cs=>K (.agg cs) s)⟩:=by
  simp only [eD,kE,bq,List.map_map]
  show (match (match iP z (ps.map fun p=>(p.1,p.2.1,bF ρ p.2.2)) with | some cs=>some (AV.agg cs,([]:List (Nat × Obj)),([]:List Obj)) | none=>none) with | some (v,ps,qs)=>K v (s.apply ps qs) | none=>False)=_
  cases iP z (ps.map fun p=>(p.1,p.2.1,bF ρ p.2.2)) <;> rfl
def U1:AV → Option AV
  | .nils=>some (.int .i64 0)
  | .ps n _=>some (.int .i64 n)
  | .sl _ _ _ n _=>some (.int .i64 n)
  | _=>none
theorem Qr (x:AO):eD P C ρ s K (.len x) = @iN _ (U1 (bF ρ x)) ⟨(fun v=>K v s)⟩:=by
  simp only [eD,kE,bq,AO.ev]
  cases bF ρ x <;> rfl
def R6:AV → Option AV
  | .str l=>some (.int .i64 l.length)
  | _=>none
theorem NZ (x:AO):eD P C ρ s K (.lenS x) = @iN _ (R6 (bF ρ x)) ⟨(fun v=>K v s)⟩:=by
  simp only [eD,kE,bq,AO.ev]
  cases bF ρ x <;> rfl
def yJ (arr:Option Nat) (z:Nat) (x:AV):Option Nat → Option AV
  | some i => match arr with
    | some n=>if i < n then shift (i * z) x else none
    | none=>dH i z x
  | none=>none
theorem Ie (z:Nat) (x:AV) (i:Nat):yJ none z x (some i)=dH i z x:=rfl
theorem FI (n z:Nat) (x:AV) (i:Nat):yJ (some n) z x (some i)=if i < n then shift (i * z) x else none:=rfl
theorem KS (arr:Option Nat) (z:Nat) (x i:AO):eD P C ρ s K (.iaddr arr z x i) = @iN _ (yJ arr z (bF ρ x) (asNat (bF ρ i))) ⟨(fun v=>K v s)⟩:=by
  simp only [eD,kE,bq,AO.ev]
  cases asNat (bF ρ i) with
  | none=>rfl
  | some i =>
    cases arr with
    | none=>simp only [yJ];cases dH i z (bF ρ x) <;> rfl
    | some n =>
      simp only [yJ]
      by_cases h:i < n
      · rw [if_pos h,if_pos h];cases shift (i * z) (bF ρ x) <;> rfl
      · rw [if_neg h,if_neg h];rfl
theorem KY (off:Nat) (x:AO):eD P C ρ s K (.faddr off x) = @iN _ (shift off (bF ρ x)) ⟨(fun v=>K v s)⟩:=by
  simp only [eD,kE,bq,AO.ev]
  cases shift off (bF ρ x) <;> rfl
def SK (off:Nat) (n:Option Nat):AV → Option AV
  | .agg cs=>partOf n off cs
  | _=>none
theorem OG (off:Nat) (n:Option Nat) (cs:List AV):SK off n (.agg cs)=partOf n off cs:=rfl
theorem QB (off:Nat) (n:Option Nat) (x:AO):eD P C ρ s K (.fld off n x) = @iN _ (SK off n (bF ρ x)) ⟨(fun v=>K v s)⟩:=by
  simp only [eD,kE,bq,AO.ev]
  cases bF ρ x <;> (try rfl)
  rename_i cs
  simp only [SK]
  cases partOf n off cs <;> rfl
def Ou (len z:Nat) (n:Option Nat):AV → Option Nat → Option AV
  | .agg cs,some i=>if i < len then partOf n (i * z) cs else none
  | _,_=>none
theorem K8 (len z:Nat) (n:Option Nat) (cs:List AV) (i:Nat):Ou len z n (.agg cs) (some i)=if i < len then partOf n (i * z) cs else none:=rfl
theorem Nq (len z:Nat) (n:Option Nat) (x i:AO):eD P C ρ s K (.aidx len z n x i) = @iN _ (Ou len z n (bF ρ x) (asNat (bF ρ i))) ⟨(fun v=>K v s)⟩:=by
  simp only [eD,kE,bq,AO.ev]
  cases bF ρ x <;> (try rfl)
  rename_i cs
  cases asNat (bF ρ i) with
  | none=>rfl
  | some i =>
    simp only [Ou]
    by_cases h:i < len
    · rw [if_pos h,if_pos h];cases partOf n (i * z) cs <;> rfl
    · rw [if_neg h,if_neg h];rfl
def TI (i:Nat):AV → Option AV
  | .tup vs=>vs[i]?
  | _=>none
theorem L6 (i:Nat) (vs:List AV):TI i (.tup vs)=vs[i]?:=rfl
theorem Qd (i:Nat) (x:AO):eD P C ρ s K (.ext i x) = @iN _ (TI i (bF ρ x)) ⟨(fun v=>K v s)⟩:=by
  simp only [eD,kE,bq,AO.ev]
  cases bF ρ x <;> (try rfl)
  rename_i vs
  simp only [TI]
  cases vs[i]? <;> rfl
def FQ:AV → Option AV
  | .ptr b e o=>some (.ptr b e o)
  | .vp cs=>some (.vp cs)
  | _=>none
theorem Ku (x:AO):eD P C ρ s K (.nilck x) = @iN _ (FQ (bF ρ x)) ⟨(fun v=>K v s)⟩:=by
  simp only [eD,kE,bq,AO.ev]
  cases bF ρ x <;> rfl
theorem GN (z:List AV) (n e:Nat) (ps:List (Nat × Nat × AO)):eD P C ρ s K (.bslice z n e ps) = @kT (bq (kE ρ (.bslice z n e ps)) [] s.get s.next) s ⟨K⟩:=rfl
theorem RA (z b:Nat) (st:Bool) (x y:AO):eD P C ρ s K (.app z b st x y) = @kT (bq (kE ρ (.app z b st x y)) [] s.get s.next) s ⟨K⟩:=rfl
theorem QO (z:Nat) (x:AO) (lo hi:Option AO):eD P C ρ s K (.slc z x lo hi) = @kT (bq (kE ρ (.slc z x lo hi)) [] s.get s.next) s ⟨K⟩:=rfl
theorem LP (x:AO) (lo hi:Option AO):eD P C ρ s K (.slcS x lo hi) = @kT (bq (kE ρ (.slcS x lo hi)) [] s.get s.next) s ⟨K⟩:=rfl
theorem OX (x i:AO):eD P C ρ s K (.sidx x i) = @kT (bq (kE ρ (.sidx x i)) [] s.get s.next) s ⟨K⟩:=rfl
theorem PO (k:IntKind) (x:AO):eD P C ρ s K (.i2i k x) = @kT (bq (kE ρ (.i2i k x)) [] s.get s.next) s ⟨K⟩:=rfl
theorem Q9 (x:AO):eD P C ρ s K (.s2s x) = @kT (bq (kE ρ (.s2s x)) [] s.get s.next) s ⟨K⟩:=rfl
theorem Rn (x:AO):eD P C ρ s K (.s2b x) = @kT (bq (kE ρ (.s2b x)) [] s.get s.next) s ⟨K⟩:=rfl
theorem Pv (x:AO):eD P C ρ s K (.b2s x) = @kT (bq (kE ρ (.b2s x)) [] s.get s.next) s ⟨K⟩:=rfl
theorem Ez (z:List AV) (b:Nat) (x y:AO):eD P C ρ s K (.mkslice z b x y) = @kT (bq (kE ρ (.mkslice z b x y)) [] s.get s.next) s ⟨K⟩:=rfl
theorem SL (m:Bool) (xs:List AO):eD P C ρ s K (.mm m xs) = @kT (bq (kE ρ (.mm m xs)) [] s.get s.next) s ⟨K⟩:=rfl
theorem Rk (x:AO):eD P C ρ s K (.rng x) = @kT (bq (kE ρ (.rng x)) [] s.get s.next) s ⟨K⟩:=rfl
theorem RJ (x:AO):eD P C ρ s K (.i2s x) = @kT (bq (kE ρ (.i2s x)) [] s.get s.next) s ⟨K⟩:=rfl
theorem KQ:eD P C ρ s K .mkmap = @kT (some (.map s.next,[],[.map []])) s ⟨K⟩:=rfl
theorem Pz (z:List AV) (x:AO):eD P C ρ s K (.clr z x) = @kT (bq (kE ρ (.clr z x)) [] s.get s.next) s ⟨K⟩:=rfl
theorem Ow (x y:AO):eD P C ρ s K (.idxB x y) = @kT (bq (kE ρ (.idxB x y)) [] s.get s.next) s ⟨K⟩:=rfl
def Ov (o:Option Obj) (b:Nat) (s:St) [K:DF]:Prop:=match o with
  | some (.iter l p)=>if p < l.length then K.k (.tup [.bool true,.int .i64 p,.int .i32 (fZ (l.drop p)).1]) (s.put b (.iter l (p + (fZ (l.drop p)).2))) else K.k (.tup [.bool false]) s
  | _=>False
theorem JE (l:List UInt8) (p b:Nat) (s:St) (K:AV → St → Prop):@Ov (some (.iter l p)) b s ⟨K⟩ = @su (p < l.length) ⟨@rY (s.put b (.iter l (p + (fZ (l.drop p)).2))) ⟨K (.tup [.bool true,.int .i64 p,.int .i32 (fZ (l.drop p)).1])⟩⟩ ⟨K (.tup [.bool false]) s⟩:=by
  by_cases h:p < l.length <;> simp [Ov,su,Jw,h,rY]
def Ue (x:AV) (s:St) [K:DF]:Prop:=match x with
  | .ptr b 0 0=>Ov (s.get b) b s
  | _=>False
theorem Od (b:Nat) (s:St) (K:AV → St → Prop):@Ue (.ptr b 0 0) s ⟨K⟩ = @Ov (s.get b) b s ⟨K⟩:=rfl
theorem Rw (x:AO):eD P C ρ s K (.nxt x) = @Ue (bF ρ x) s ⟨K⟩:=by
  simp only [eD,kE,bq,AO.ev]
  cases bF ρ x <;> (try rfl)
  rename_i b e o
  cases e <;> (try rfl)
  cases o <;> (try rfl)
  simp only [Ue,Ov]
  cases hg:s.get b with
  | none=>rfl
  | some ob =>
    cases ob <;> (try rfl)
    rename_i l p
    simp only
    by_cases h:p < l.length
    · rw [if_pos h,if_pos h];rfl
    · rw [if_neg h,if_neg h];rfl
def AY (o:Option Obj) [K:uS (List (AV × AV))]:Prop:=match o with
  | some (.map es)=>K.k es
  | _=>False
theorem LA (es:List (AV × AV)) (K:List (AV × AV) → Prop):@AY (some (.map es)) ⟨K⟩=K es:=rfl
def KC (m:AV) (s:St) [K:uS (List (AV × AV))]:Prop:=match m with
  | .nilm=>K.k []
  | .map b=>AY (s.get b)
  | _=>False
theorem NJ (s:St) (K:List (AV × AV) → Prop):@KC .nilm s ⟨K⟩=K []:=rfl
theorem Mi (b:Nat) (s:St) (K:List (AV × AV) → Prop):@KC (.map b) s ⟨K⟩ = @AY (s.get b) ⟨K⟩:=rfl
theorem RF (tr:nN) (z:AV) (ok:Bool) (m k:AO):eD P C ρ s K (.lkp tr z ok m k) = @jd (kF tr (bF ρ k)=true) ⟨@KC (bF ρ m) s ⟨fun es=>@iN _ (uV tr z ok (bF ρ k) es) ⟨fun v=>K v s⟩⟩⟩:=by
  simp only [eD,kE,bq,AO.ev,jd]
  by_cases hk:kF tr (bF ρ k)=true
  · simp only [hk,if_true,true_and]
    cases bF ρ m <;> (try rfl)
    rename_i b
    simp only [KC]
    cases s.get b with
    | none=>rfl
    | some ob =>
      cases ob <;> (try rfl)
      rename_i es
      simp only [AY]
      cases uV tr z ok (bF ρ k) es <;> rfl
  · simp only [hk,Bool.false_eq_true,if_false,false_and]
def Oj (m:AV) (s:St) [K:uS (Nat × List (AV × AV))]:Prop:=match m with
  | .map b=>@AY (s.get b) ⟨fun es=>K.k (b,es)⟩
  | _=>False
theorem LW (b:Nat) (s:St) (K:Nat × List (AV × AV) → Prop):@Oj (.map b) s ⟨K⟩ = @AY (s.get b) ⟨fun es=>K (b,es)⟩:=rfl
theorem RB (tr:nN) (m k v:AO):eD P C ρ s K (.mup tr m k v) = @jd (kF tr (bF ρ k)=true) ⟨@Oj (bF ρ m) s ⟨fun p=>@iN _ (yY tr (bF ρ k) (bF ρ v) p.2) ⟨fun es'=>@rY (s.put p.1 (.map es')) ⟨K .any⟩⟩⟩⟩:=by
  simp only [eD,kE,bq,AO.ev,jd]
  by_cases hk:kF tr (bF ρ k)=true
  · simp only [hk,if_true,true_and]
    cases bF ρ m <;> (try rfl)
    rename_i b
    simp only [Oj]
    cases s.get b with
    | none=>rfl
    | some ob =>
      cases ob <;> (try rfl)
      rename_i es
      simp only [AY]
      cases yY tr (bF ρ k) (bF ρ v) es <;> rfl
  · simp only [hk,Bool.false_eq_true,if_false,false_and]
theorem Qg (t:Nat) (x:AO):eD P C ρ s K (.ifc t x)=K (.ifc t (bF ρ x)) s:=rfl
def qo (o:Option AV) [K:uS AV] [Y:yZ]:Prop:=match o with
  | some v=>K.k v
  | none=>Y.p
theorem EI (v:AV) (K:AV → Prop) (Y:Prop):@qo (some v) ⟨K⟩ ⟨Y⟩=K v:=rfl
theorem DW (K:AV → Prop) (Y:Prop):@qo none ⟨K⟩ ⟨Y⟩=Y:=rfl
def wX (o:Option (List AV × List (Nat × Obj))) [K:Vs] [Y:yZ]:Prop:=match o with
  | some (xs,ps)=>K.k xs ps
  | none=>Y.p
theorem xu (xs:List AV) (ps:List (Nat × Obj)) (K:List AV → List (Nat × Obj) → Prop) (Y:Prop):@wX (some (xs,ps)) ⟨K⟩ ⟨Y⟩=K xs ps:=rfl
def IY (f:FuncId) (args:List AV) (s:St) [K:DF]:Prop:=aR P f args s K.k
def pU (f:FuncId) (args:List AV) (s:St) (xs:List AV) (s':St) [K:DF]:Prop:=R8 P f args s xs s' K.k
theorem O4 (f:Nat) (args:List AO):eD P C ρ s K (.call f args) = @wX (views s.get (args.map (bF ρ))) ⟨fun xs ps=>@qo (C f xs) ⟨fun v=>@rY (s.puts ps) ⟨K v⟩⟩ ⟨@pU P f (args.map (bF ρ)) s xs (s.puts ps) ⟨K⟩⟩⟩ ⟨@IY P f (args.map (bF ρ)) s ⟨K⟩⟩:=by
  show p9 P C f (args.map (bF ρ)) s K=_
  unfold p9
  cases views s.get (args.map (bF ρ)) with
  | none=>rfl
  | some p =>
    obtain ⟨xs,ps⟩:=p
    simp only [wX]
    cases C f xs <;> rfl
def VL (v:AV) [K:uS (Fn × List AV × List AV)]:Prop:=match v with
  | .fn f a c=>K.k (f,a,c)
  | _=>False
def VY (f:Fn) [K:uS Nat]:Prop:=match f with
  | .func g=>K.k g
  | _=>False
theorem Ta (f:Fn) (a c:List AV) (K:Fn × List AV × List AV → Prop):@VL (.fn f a c) ⟨K⟩=K (f,a,c):=rfl
theorem Mg (g:Nat) (K:Nat → Prop):@VY (.func g) ⟨K⟩=K g:=rfl
def MX (l:Nat) (args:List AV) (s:St) [K:DF]:Prop:=iD P l args s K.k
def VD (f:Fn) (a c:List AV) [K:uS Nat] [L:uS Nat]:Prop:=match f,a,c with
  | .func g,_,_=>K.k g
  | .yield l,[],[]=>L.k l
  | _,_,_=>False
theorem MG (g:Nat) (a c:List AV) (K L:Nat → Prop):@VD (.func g) a c ⟨K⟩ ⟨L⟩=K g:=rfl
theorem Lr (l:Nat) (K L:Nat → Prop):@VD (.yield l) [] [] ⟨K⟩ ⟨L⟩=L l:=rfl
theorem JG (f:AO) (args:List AO):eD P C ρ s K (.callv f args) = @VL (bF ρ f) ⟨fun p=>@VD p.1 p.2.1 p.2.2 ⟨fun g=>@wX (views s.get (p.2.1 ++ args.map (bF ρ) ++ p.2.2)) ⟨fun xs ps=>@qo (C g xs) ⟨fun v=>@rY (s.puts ps) ⟨K v⟩⟩ ⟨@pU P g (p.2.1 ++ args.map (bF ρ) ++ p.2.2) s xs (s.puts ps) ⟨K⟩⟩⟩ ⟨@IY P g (p.2.1 ++ args.map (bF ρ) ++ p.2.2) s ⟨K⟩⟩⟩ ⟨fun l=>@MX P l (args.map (bF ρ)) s ⟨K⟩⟩⟩:=by
  show (match bF ρ f with
    | .fn (.func g) first cap=>p9 P C g (first ++ args.map (bF ρ) ++ cap) s K
    | .fn (.yield l) [] []=>iD P l (args.map (bF ρ)) s K
    | _=>False)=_
  cases bF ρ f <;> (try rfl)
  rename_i fn a c
  cases fn <;> (try rfl)
  cases a <;> cases c <;> rfl
end
theorem FJ (body:bY → Env → St → Prop) (Q:bY) (n:Nat) (ρ:Env) (s:St):uG body Q (n + 1) ρ s=body (kP (uG body Q n) Q) ρ s:=rfl
theorem wrap64 {n:Int} (h1:-9223372036854775808 ≤ n) (h2:n ≤ 9223372036854775807):IntKind.i64.wrap n=n:=by
  simp [IntKind.wrap,IntKind.bits,IntKind.signed];omega
end Go.AX
/- The rules for regions that draw. -/
namespace Go.AX
open Go
def qY:iI → Bool
  | .call _ _ | .callv _ _=>true
  | _=>false
def nY:iI → Bool
  | .mv _ | .pick _ _ _ | .build _ _ | .nilck _ | .bin _ _ _ | .un _ _ | .i2i _ _ | .s2s _ | .ifc _ _ | .mkfn _ _ _ | .slcS _ _ _ | .slc _ _ _ _ | .faddr _ _ | .fld _ _ _ | .iaddr _ _ _ _ | .sidx _ _ | .aidx _ _ _ _ _ | .ext _ _ | .len _ | .lenS _ | .cst _ | .mm _ _ | .i2s _ | .idxB _ _=>true
  | _=>false
class Uh where
  k:AV → St → Entry → Prop
def gY (e:Eff) (D:List Nat) (s:St) [K:Uh]:Prop:=match e with
  | some (v,ps,qs)=>(D.all fun id=>decide (id < s.next))=true ∧ K.k v (s.apply ps qs) ⟨D,ps.map (·.1),s.next,(s.apply ps qs).next⟩
  | none=>False
theorem Gh (v:AV) (ps:List (Nat × Obj)) (qs:List Obj) (D:List Nat) (s:St) (K:AV → St → Entry → Prop) :
    @gY (some (v,ps,qs)) D s ⟨K⟩ = @jd ((D.all fun id=>decide (id < s.next))=true) ⟨@rY (s.apply ps qs) ⟨fun s'=>K v s' ⟨D,ps.map (·.1),s.next,s'.next⟩⟩⟩:=rfl
section
variable (P:Program) (C:Known) (ρ:Env) (s:St) (K:AV → St → Entry → Prop)
theorem dU (op:iI) (h:qY op=false):dR P C ρ s K op = @gY (bq (kE ρ op) [] s.get s.next) (jh (kE ρ op) []) s ⟨K⟩:=by
  have e:dR P C ρ s K op=match bq (kE ρ op) [] s.get s.next with
      | some (v,ps,qs)=>(∀ id ∈ jh (kE ρ op) [],id < s.next) ∧ K v (s.apply ps qs) ⟨jh (kE ρ op) [],ps.map (·.1),s.next,(s.apply ps qs).next⟩
      | none=>False:=by
    cases op <;> first | rfl | simp [qY] at h
  rw [e]
  cases bq (kE ρ op) [] s.get s.next with
  | none=>rfl
  | some p =>
    obtain ⟨v,ps,qs⟩:=p
    simp only [gY,List.all_eq_true,decide_eq_true_eq]
theorem MZ {op:iI} (h:nY op=true) {F:List AV} {g:Nat → Option Obj} {n:Nat} {v:AV} {ps:List (Nat × Obj)} {qs:List Obj} (hv:bq op F g n=some (v,ps,qs)):ps=[] ∧ qs=[]:=by
  cases op <;> simp [nY] at h <;> simp only [bq] at hv <;>
    (repeat' split at hv) <;> simp_all
theorem bL (op:iI) (h:nY op=true):dR P C ρ s K op=eD P C ρ s (fun v s'=>K v s' ⟨[],[],s.next,s.next⟩) op:=by
  have hc:qY op=false:=by cases op <;> simp [nY] at h <;> rfl
  have hf:jh (kE ρ op) []=[]:=by cases op <;> simp [nY] at h <;> rfl
  have hp:nY (kE ρ op)=true:=by cases op <;> simp [nY] at h <;> rfl
  have e:eD P C ρ s (fun v s'=>K v s' ⟨[],[],s.next,s.next⟩) op=match bq (kE ρ op) [] s.get s.next with
      | some (v,ps,qs)=>K v (s.apply ps qs) ⟨[],[],s.next,s.next⟩
      | none=>False:=by
    cases op <;> first | rfl | (simp [nY] at h;done) | (simp [qY] at hc;done)
  rw [dU P C ρ s K op hc,e,hf]
  cases he:bq (kE ρ op) [] s.get s.next with
  | none=>rfl
  | some p =>
    obtain ⟨v,ps,qs⟩:=p
    obtain ⟨rfl,rfl⟩:=MZ hp he
    simp only [gY,List.all_nil,true_and]
    rfl
def Cm (f:FuncId) (args xs:List AV) (D W:List Nat) (s s':St) [K:Uh]:Prop:=(∃ v,aK P f xs v ∧ (∀ id ∈ D,id < s.next) ∧ K.k v s' ⟨D,W,s.next,s.next⟩) ∨ Gs P f args s K.k
def Sd (f:FuncId) (args:List AV) (s:St) [K:Uh]:Prop:=Gs P f args s K.k
theorem Aj (f:Nat) (args:List AV):lg P C f args s K = @wX (views s.get args) ⟨fun xs ps=>@qo (C f xs) ⟨fun v=>@jd (((eY args).all fun id=>decide (id < s.next))=true) ⟨@rY (s.puts ps) ⟨fun s'=>K v s' ⟨eY args,unseen s ps,s.next,s.next⟩⟩⟩⟩ ⟨@Cm P f args xs (eY args) (unseen s ps) s (s.puts ps) ⟨K⟩⟩⟩ ⟨@Sd P f args s ⟨K⟩⟩:=by
  unfold lg
  cases views s.get args with
  | none=>rfl
  | some p =>
    obtain ⟨xs,ps⟩:=p
    simp only [wX]
    cases C f xs with
    | none=>rfl
    | some v=>simp only [qo,jd,rY,List.all_eq_true,decide_eq_true_eq]
theorem Gb (f:AO) (args:List AO):dR P C ρ s K (.callv f args) = @VL (bF ρ f) ⟨fun p=>@VY p.1 ⟨fun g=>lg P C g (p.2.1 ++ args.map (bF ρ) ++ p.2.2) s K⟩⟩:=by
  show (match bF ρ f with
    | .fn (.func g) first cap=>lg P C g (first ++ args.map (bF ρ) ++ cap) s K
    | _=>False)=_
  cases bF ρ f <;> (try rfl)
  rename_i fn a c
  cases fn <;> rfl
theorem Jq (f:Nat) (args:List AO):dR P C ρ s K (.call f args) = @wX (views s.get (args.map (bF ρ))) ⟨fun xs ps=>@qo (C f xs) ⟨fun v=>@jd (((eY (args.map (bF ρ))).all fun id=>decide (id < s.next))=true) ⟨@rY (s.puts ps) ⟨fun s'=>K v s' ⟨eY (args.map (bF ρ)),unseen s ps,s.next,s.next⟩⟩⟩⟩ ⟨@Cm P f (args.map (bF ρ)) xs (eY (args.map (bF ρ))) (unseen s ps) s (s.puts ps) ⟨K⟩⟩⟩ ⟨@Sd P f (args.map (bF ρ)) s ⟨K⟩⟩:=Aj P C s K f _
theorem RH (x:AO):dR P C ρ s K (.mv x)=eD P C ρ s (fun v s'=>K v s' ⟨[],[],s.next,s.next⟩) (.mv x):=bL P C ρ s K _ rfl
theorem KV (x y z:AO):dR P C ρ s K (.pick x y z)=eD P C ρ s (fun v s'=>K v s' ⟨[],[],s.next,s.next⟩) (.pick x y z):=bL P C ρ s K _ rfl
theorem Fv (z:List AV) (ps:List (Nat × Nat × AO)):dR P C ρ s K (.build z ps)=eD P C ρ s (fun v s'=>K v s' ⟨[],[],s.next,s.next⟩) (.build z ps):=bL P C ρ s K _ rfl
theorem H6 (x:AO):dR P C ρ s K (.nilck x)=eD P C ρ s (fun v s'=>K v s' ⟨[],[],s.next,s.next⟩) (.nilck x):=bL P C ρ s K _ rfl
theorem Ny (o:BinOp) (x y:AO):dR P C ρ s K (.bin o x y)=eD P C ρ s (fun v s'=>K v s' ⟨[],[],s.next,s.next⟩) (.bin o x y):=bL P C ρ s K _ rfl
theorem Pt (neg:Bool) (t:nN) (x y:AO):dR P C ρ s K (.eq neg t x y) = @iN _ (eqv t (bF ρ x) (bF ρ y)) ⟨fun b=>K (.bool (if neg then !b else b)) s ⟨[],[],s.next,s.next⟩⟩:=by
  rw [dU P C ρ s K (.eq neg t x y) rfl]
  simp only [kE,bq,AO.ev]
  cases eqv t (bF ρ x) (bF ρ y) with
  | none=>rfl
  | some b=>simp only [gY,iN,jh,List.all_nil,true_and];rfl
theorem Rh (o:UnOp) (x:AO):dR P C ρ s K (.un o x)=eD P C ρ s (fun v s'=>K v s' ⟨[],[],s.next,s.next⟩) (.un o x):=bL P C ρ s K _ rfl
theorem Oa (k:IntKind) (x:AO):dR P C ρ s K (.i2i k x)=eD P C ρ s (fun v s'=>K v s' ⟨[],[],s.next,s.next⟩) (.i2i k x):=bL P C ρ s K _ rfl
theorem Nw (x:AO):dR P C ρ s K (.s2s x)=eD P C ρ s (fun v s'=>K v s' ⟨[],[],s.next,s.next⟩) (.s2s x):=bL P C ρ s K _ rfl
theorem Nh (t:Nat) (x:AO):dR P C ρ s K (.ifc t x)=eD P C ρ s (fun v s'=>K v s' ⟨[],[],s.next,s.next⟩) (.ifc t x):=bL P C ρ s K _ rfl
theorem Js (x:AO) (lo hi:Option AO):dR P C ρ s K (.slcS x lo hi)=eD P C ρ s (fun v s'=>K v s' ⟨[],[],s.next,s.next⟩) (.slcS x lo hi):=bL P C ρ s K _ rfl
theorem OP (z:Nat) (x:AO) (lo hi:Option AO):dR P C ρ s K (.slc z x lo hi)=eD P C ρ s (fun v s'=>K v s' ⟨[],[],s.next,s.next⟩) (.slc z x lo hi):=bL P C ρ s K _ rfl
theorem Hr (o:Nat) (x:AO):dR P C ρ s K (.faddr o x)=eD P C ρ s (fun v s'=>K v s' ⟨[],[],s.next,s.next⟩) (.faddr o x):=bL P C ρ s K _ rfl
theorem Mv (o:Nat) (n:Option Nat) (x:AO):dR P C ρ s K (.fld o n x)=eD P C ρ s (fun v s'=>K v s' ⟨[],[],s.next,s.next⟩) (.fld o n x):=bL P C ρ s K _ rfl
theorem Gn (a:Option Nat) (z:Nat) (x i:AO):dR P C ρ s K (.iaddr a z x i)=eD P C ρ s (fun v s'=>K v s' ⟨[],[],s.next,s.next⟩) (.iaddr a z x i):=bL P C ρ s K _ rfl
theorem Ju (x i:AO):dR P C ρ s K (.sidx x i)=eD P C ρ s (fun v s'=>K v s' ⟨[],[],s.next,s.next⟩) (.sidx x i):=bL P C ρ s K _ rfl
theorem Kt (l z:Nat) (n:Option Nat) (x i:AO):dR P C ρ s K (.aidx l z n x i)=eD P C ρ s (fun v s'=>K v s' ⟨[],[],s.next,s.next⟩) (.aidx l z n x i):=bL P C ρ s K _ rfl
theorem Pf (i:Nat) (x:AO):dR P C ρ s K (.ext i x)=eD P C ρ s (fun v s'=>K v s' ⟨[],[],s.next,s.next⟩) (.ext i x):=bL P C ρ s K _ rfl
theorem Nu (x:AO):dR P C ρ s K (.len x)=eD P C ρ s (fun v s'=>K v s' ⟨[],[],s.next,s.next⟩) (.len x):=bL P C ρ s K _ rfl
theorem Kl (x:AO):dR P C ρ s K (.lenS x)=eD P C ρ s (fun v s'=>K v s' ⟨[],[],s.next,s.next⟩) (.lenS x):=bL P C ρ s K _ rfl
theorem Pk (v:AV):dR P C ρ s K (.cst v)=eD P C ρ s (fun v s'=>K v s' ⟨[],[],s.next,s.next⟩) (.cst v):=bL P C ρ s K _ rfl
theorem PW (m:Bool) (xs:List AO):dR P C ρ s K (.mm m xs)=eD P C ρ s (fun v s'=>K v s' ⟨[],[],s.next,s.next⟩) (.mm m xs):=bL P C ρ s K _ rfl
theorem KA (n:Option Nat) (a:AO):dR P C ρ s K (.load n a) = @gY (bq (kE ρ (.load n a)) [] s.get s.next) (jh (kE ρ (.load n a)) []) s ⟨K⟩:=dU P C ρ s K _ rfl
theorem Ia (n:Nat) (a x:AO):dR P C ρ s K (.store n a x) = @gY (bq (kE ρ (.store n a x)) [] s.get s.next) (jh (kE ρ (.store n a x)) []) s ⟨K⟩:=dU P C ρ s K _ rfl
theorem Gv (z:List AV):dR P C ρ s K (.alloc z) = @gY (bq (kE ρ (.alloc z)) [] s.get s.next) (jh (kE ρ (.alloc z)) []) s ⟨K⟩:=dU P C ρ s K _ rfl
theorem Pb (x:AO):dR P C ρ s K (.box x) = @gY (bq (kE ρ (.box x)) [] s.get s.next) (jh (kE ρ (.box x)) []) s ⟨K⟩:=dU P C ρ s K _ rfl
theorem Dz (z:List AV) (n e:Nat) (ps:List (Nat × Nat × AO)):dR P C ρ s K (.bslice z n e ps) = @gY (bq (kE ρ (.bslice z n e ps)) [] s.get s.next) (jh (kE ρ (.bslice z n e ps)) []) s ⟨K⟩:=dU P C ρ s K _ rfl
theorem NK (x:AO):dR P C ρ s K (.b2s x) = @gY (bq (kE ρ (.b2s x)) [] s.get s.next) (jh (kE ρ (.b2s x)) []) s ⟨K⟩:=dU P C ρ s K _ rfl
theorem O7 (x:AO):dR P C ρ s K (.s2b x) = @gY (bq (kE ρ (.s2b x)) [] s.get s.next) (jh (kE ρ (.s2b x)) []) s ⟨K⟩:=dU P C ρ s K _ rfl
theorem MU (z b:Nat) (st:Bool) (x y:AO):dR P C ρ s K (.app z b st x y) = @gY (bq (kE ρ (.app z b st x y)) [] s.get s.next) (jh (kE ρ (.app z b st x y)) []) s ⟨K⟩:=dU P C ρ s K _ rfl
theorem Bf (z:List AV) (b:Nat) (x y:AO):dR P C ρ s K (.mkslice z b x y) = @gY (bq (kE ρ (.mkslice z b x y)) [] s.get s.next) (jh (kE ρ (.mkslice z b x y)) []) s ⟨K⟩:=dU P C ρ s K _ rfl
theorem Nr (x:AO):dR P C ρ s K (.i2s x)=eD P C ρ s (fun v s'=>K v s' ⟨[],[],s.next,s.next⟩) (.i2s x):=bL P C ρ s K _ rfl
theorem Ko (x y:AO):dR P C ρ s K (.idxB x y)=eD P C ρ s (fun v s'=>K v s' ⟨[],[],s.next,s.next⟩) (.idxB x y):=bL P C ρ s K _ rfl
theorem LU (x:AO):dR P C ρ s K (.rng x) = @gY (bq (kE ρ (.rng x)) [] s.get s.next) (jh (kE ρ (.rng x)) []) s ⟨K⟩:=dU P C ρ s K _ rfl
theorem E9:dR P C ρ s K .mkmap = @gY (some (.map s.next,[],[.map []])) [] s ⟨K⟩:=dU P C ρ s K _ rfl
theorem MV (z:List AV) (x:AO):dR P C ρ s K (.clr z x) = @gY (bq (kE ρ (.clr z x)) [] s.get s.next) (jh (kE ρ (.clr z x)) []) s ⟨K⟩:=dU P C ρ s K _ rfl
theorem N7 (tr:nN) (z:AV) (ok:Bool) (m k:AO):dR P C ρ s K (.lkp tr z ok m k) = @jd (kF tr (bF ρ k)=true) ⟨@KC (bF ρ m) s ⟨fun es=>@iN _ (uV tr z ok (bF ρ k) es) ⟨fun v=>@jd (((fT (bF ρ m)).all fun id=>decide (id < s.next))=true) ⟨K v s ⟨fT (bF ρ m),[],s.next,s.next⟩⟩⟩⟩⟩:=by
  rw [dU P C ρ s K _ rfl]
  simp only [kE,bq,AO.ev,jd,jh]
  by_cases hk:kF tr (bF ρ k)=true
  · simp only [hk,if_true,true_and]
    cases bF ρ m <;> (try rfl)
    rename_i b
    simp only [KC]
    cases s.get b with
    | none=>rfl
    | some ob =>
      cases ob <;> (try rfl)
      rename_i es
      simp only [AY]
      cases uV tr z ok (bF ρ k) es <;> rfl
  · simp only [hk,Bool.false_eq_true,if_false,false_and];rfl
theorem MC (tr:nN) (m k v:AO):dR P C ρ s K (.mup tr m k v) = @jd (kF tr (bF ρ k)=true) ⟨@Oj (bF ρ m) s ⟨fun p=>@iN _ (yY tr (bF ρ k) (bF ρ v) p.2) ⟨fun es'=>@jd (p.1 < s.next) ⟨@rY (s.put p.1 (.map es')) ⟨fun s'=>K .any s' ⟨[p.1],[p.1],s.next,s.next⟩⟩⟩⟩⟩⟩:=by
  rw [dU P C ρ s K _ rfl]
  simp only [kE,bq,AO.ev,jd,jh]
  by_cases hk:kF tr (bF ρ k)=true
  · simp only [hk,if_true,true_and]
    cases bF ρ m <;> (try rfl)
    rename_i b
    simp only [Oj]
    cases s.get b with
    | none=>rfl
    | some ob =>
      cases ob <;> (try rfl)
      rename_i es
      simp only [AY]
      cases yY tr (bF ρ k) (bF ρ v) es with
      | none=>rfl
      | some es'=>simp only [gY,iN,fT,List.all_cons,List.all_nil,Bool.and_true,decide_eq_true_eq,St.apply,List.foldl,List.map,rY];rfl
  · simp only [hk,Bool.false_eq_true,if_false,false_and];rfl
theorem QC (m:List Nat) (l:List aQ) (Q:bY) (ρ:Env) (s:St):W P C (.draw m l) Q ρ s=gZ P C (fun ρ s es=>@jd (aB m es 0 es=true) ⟨Q .normal ρ s⟩) l ρ s []:=rfl
theorem Ml (m:List Nat) (l r:List aQ) (Q:bY) (ρ:Env) (s:St):W P C (.drawT m l r) Q ρ s=gZ P C (fun ρ s es=>@jd (aB m es 0 es=true) ⟨opsE P C (Q .normal) r ρ s⟩) l ρ s []:=rfl
end
end Go.AX
/- Typed values: how a Lean value lies in cells, and that what a row reads is one. -/
namespace Go.AX
open Go Go.RowKit Go.ChangeShapes
class Enc (α:Type) where
  sz:Nat
  cells:α → List AV
  av:α → AV
  ok:α → Prop
  len:∀ a,(cells a).length=sz
  one:∀ a,(cells a).all AV.one=true
  avc:∀ a,av a=.agg (cells a) ∨ (cells a=[av a] ∧ (av a).one=true)
  flat:∀ a,ay (cells a)=true
abbrev Str:=List UInt8
def aj {α:Type} [Enc α]:List α → List AV
  | []=>[]
  | a :: r=>Enc.cells a ++ aj r
theorem aT {α:Type} [Enc α]:∀ l:List α,(aj l).length=l.length * Enc.sz α
  | []=>by simp [aj]
  | a :: r=>by simp [aj,aT r,Enc.len,Nat.add_mul];omega
theorem gL:∀ a b:List AV,ay (a ++ b)=(ay a && ay b)
  | [],b=>rfl
  | x :: r,b=>by simp only [List.cons_append,ay,gL r b,Bool.and_assoc]
theorem aP {α:Type} [Enc α]:∀ l:List α,ay (aj l)=true
  | []=>rfl
  | a :: r=>by simp only [aj,gL,Enc.flat,aP r,Bool.and_self]
theorem ak {α:Type} [Enc α] (a:α):Go.AX.flat (Enc.av a)=true:=by
  have h:=Enc.flat a
  rcases Enc.avc a with h1 | ⟨h1,_⟩
  · rw [h1];simpa [Go.AX.flat] using h
  · rw [h1] at h;simpa [ay] using h
instance:Enc Int:=⟨1,fun n=>[.int .i64 n],fun n=>.int .i64 n,fun n=>-9223372036854775808 ≤ n ∧ n ≤ 9223372036854775807,fun _=>rfl,fun _=>rfl,fun _=>.inr ⟨rfl,rfl⟩,fun _=>rfl⟩
instance:Enc Bool:=⟨1,fun n=>[.bool n],fun n=>.bool n,fun _=>True,fun _=>rfl,fun _=>rfl,fun _=>.inr ⟨rfl,rfl⟩,fun _=>rfl⟩
instance:Enc Str:=⟨1,fun n=>[.str n],fun n=>.str n,fun n=>n.length ≤ 140737488355328,fun _=>rfl,fun _=>rfl,fun _=>.inr ⟨rfl,rfl⟩,fun _=>rfl⟩
instance (priority:=low) {α:Type} [Enc α]:Enc (List α):=⟨1,fun l=>[.ps l.length (aj l)],fun l=>.ps l.length (aj l),fun l=>l.length ≤ 140737488355328 ∧ ∀ a ∈ l,Enc.ok a,fun _=>rfl,fun _=>rfl,fun _=>.inr ⟨rfl,rfl⟩,fun l=>by simp only [ay,Go.AX.flat,aP,Bool.and_self]⟩
theorem fq {α:Type} [Enc α]:∀ (l:List α) (k:Nat),(aj l).drop (k * Enc.sz α)=aj (l.drop k)
  | l,0=>by simp
  | [],k + 1=>by simp [aj]
  | a :: r, k + 1 => by
    simp only [aj,List.drop_succ_cons]
    rw [Nat.add_mul,Nat.one_mul,Nat.add_comm,← List.drop_drop,List.drop_left' (Enc.len a),fq r k]
theorem iH {α:Type} [Enc α]:∀ (l:List α) (k:Nat),(aj l).take (k * Enc.sz α)=aj (l.take k)
  | l,0=>by simp [aj]
  | [],k + 1=>by simp [aj]
  | a :: r, k + 1 => by
    simp only [aj,List.take_succ_cons]
    rw [Nat.add_mul,Nat.one_mul,Nat.add_comm,List.take_append,Enc.len,List.take_of_length_le (by rw [Enc.len];omega),show Enc.sz α + k * Enc.sz α - Enc.sz α=k * Enc.sz α by omega,iH r k]
theorem aW {α:Type} [Enc α]:∀ (l r:List α),aj (l ++ r)=aj l ++ aj r
  | [],r=>rfl
  | a :: l,r=>by simp only [List.cons_append,aj,aW l r,List.append_assoc]
theorem dD {α:Type} [Enc α] (l:List α) (k:Nat):dH k (Enc.sz α) (.ps (List.length l) (aj l))=(l[k]?).map fun x=>.vp (Enc.cells x ++ aj (l.drop (k + 1))):=by
  simp only [dH]
  by_cases h:k < l.length
  · rw [if_pos h,fq]
    have:l[k]? = some l[k]:=by simp [h]
    rw [this,List.drop_eq_getElem_cons h]
    rfl
  · rw [if_neg h,List.getElem?_eq_none (by omega)];rfl
theorem JB (l:List Int) (k:Nat):dH k 1 (.ps (List.length l) (aj l))=(l[k]?).map fun x=>.vp (Enc.cells x ++ aj (l.drop (k + 1))):=dD l k
theorem KX (l:List Str) (k:Nat):dH k 1 (.ps (List.length l) (aj l))=(l[k]?).map fun x=>.vp (Enc.cells x ++ aj (l.drop (k + 1))):=dD l k
theorem qy (l:List Bool) (k:Nat):dH k 1 (.ps (List.length l) (aj l))=(l[k]?).map fun x=>.vp (Enc.cells x ++ aj (l.drop (k + 1))):=dD l k
theorem Np {α:Type} [Enc α] (l:List (List α)) (k:Nat):dH k 1 (.ps (List.length l) (aj l))=(l[k]?).map fun x=>.vp (Enc.cells x ++ aj (l.drop (k + 1))):=dD l k
theorem GD (n:Int):Enc.cells n=[.int .i64 n]:=rfl
theorem Eb (n:Bool):Enc.cells n=[.bool n]:=rfl
theorem Hu (n:Str):Enc.cells n=[.str n]:=rfl
theorem Na {α:Type} [Enc α] (l:List α):Enc.cells l=[.ps (List.length l) (aj l)]:=rfl
theorem PI (n:Int):Enc.av n=.int .i64 n:=rfl
theorem MI (n:Bool):Enc.av n=.bool n:=rfl
theorem Ru (n:Str):Enc.av n=.str n:=rfl
theorem R3 {α:Type} [Enc α] (l:List α):Enc.av l=.ps (List.length l) (aj l):=rfl
def Po {H:Type} (P:Program) (t:TypeId) (d:DataW H):Prop:=(d.weights P t).all (· ≤ reachBytes)=true
theorem IQ {H:Type} {P:Program} {e:TypeId}:∀ {ds:List (DataW H)},(DataW.weightsAll P e ds).all (· ≤ reachBytes)=true → ∀ d ∈ ds,Po P e d
  | [],_,d,hd=>by simp at hd
  | x :: r, h, d, hd => by
    simp only [DataW.weightsAll,List.all_append,Bool.and_eq_true] at h
    rcases List.mem_cons.1 hd with rfl | hd
    · exact h.1
    · exact IQ h.2 d hd
theorem ow {H:Type} {P:Program}:∀ {ts:List TypeId} {ds:List (DataW H)},(DataW.weightsEach P ts ds).all (· ≤ reachBytes)=true → ∀ (i:Nat) (t:TypeId) (d:DataW H),ts[i]? = some t → ds[i]? = some d → Po P t d
  | [],ds,_,i,t,d,ht,_=>by simp at ht
  | t0 :: ts,[],_,i,t,d,_,hd=>by simp at hd
  | t0 :: ts, d0 :: ds, h, i, t, d, ht, hd => by
    simp only [DataW.weightsEach,List.all_append,Bool.and_eq_true] at h
    cases i with
    | zero=>simp at ht hd;subst ht;subst hd;exact h.1
    | succ i=>exact ow h.2 i t d (by simpa using ht) (by simpa using hd)
def aX (P:Program) (t:TypeId) (α:Type) [Enc α] (n:Nat):Prop:=
  ∀ (H : Type) (enc : TypeId × Value → H) (W : World) (sp : Nat → Bool) (hd : Bool) (cs : List Value) (x : DataW H × List MemPlace),
    DataW.trod enc P W 0 sp hd n t cs=some x → Po P t x.1 → ∃ a:α,aI (pJ W) (Enc.cells a) cs ∧ Enc.ok a
def Reads (P:Program) (t:TypeId) (α:Type) [Enc α]:Prop:=∀ n,aX P t α n
section
variable {P:Program} {t e:TypeId}
theorem eF {α:Type} [Enc α]:aX P t α 0:=fun H enc W sp hd cs x h _=>by simp [DataW.trod] at h
theorem JJ (hu:P.underlying t=some (.int .i64)):Reads P t Int:=fun n H enc W sp hd cs x h _=>by
  cases n with
  | zero=>simp [DataW.trod] at h
  | succ n =>
    simp only [DataW.trod,hu] at h
    split at h
    all_goals (try (simp at *;done))
    rename_i k k' m he
    simp only [Option.some.injEq,TypeDesc.int.injEq] at he
    subst he
    split at h
    · rename_i hc
      obtain ⟨rfl,hw⟩:=hc
      refine ⟨m,?_,?_⟩
      · exact ⟨_,[],rfl,rfl,rfl⟩
      · simp [Lit.wf,IntKind.min,IntKind.max,IntKind.bits,IntKind.signed] at hw
        exact hw
    · simp at h
theorem HV (hu:P.underlying t=some .bool):Reads P t Bool:=fun n H enc W sp hd cs x h _=>by
  cases n with
  | zero=>simp [DataW.trod] at h
  | succ n =>
    simp only [DataW.trod,hu] at h
    split at h
    all_goals (try (simp at *;done))
    rename_i b he
    exact ⟨b,⟨_,[],rfl,rfl,rfl⟩,trivial⟩
theorem Ll (hu:P.underlying t=some .string):Reads P t Str:=fun n H enc W sp hd cs x h hw=>by
  cases n with
  | zero=>simp [DataW.trod] at h
  | succ n =>
    simp only [DataW.trod,hu] at h
    split at h
    all_goals (try (simp at *;done))
    rename_i s he
    split at h
    · rename_i hc
      refine ⟨s.data.toList,⟨_,[],rfl,by simp [aN],rfl⟩,?_⟩
      simp only [Option.some.injEq] at h
      subst h
      simp only [Po,DataW.weights,List.all_cons,List.all_nil,Bool.and_true,decide_eq_true_eq] at hw
      unfold reachBytes at hw
      show s.data.toList.length ≤ _
      omega
    · simp at h
theorem rO {γ β:Type} {f:γ → Option β}:∀ {l:List γ} {ys:List β},l.mapM f=some ys → ys.length=l.length ∧ ∀ (i:Nat) (x:γ),l[i]? = some x → ∃ y,ys[i]? = some y ∧ f x=some y
  | [],ys,h=>by simp at h;subst h;simp
  | a :: r, ys, h => by
    rw [List.mapM_cons] at h
    cases ha:f a with
    | none=>rw [ha] at h;simp at h
    | some b =>
      cases hr:r.mapM f with
      | none=>rw [ha,hr] at h;simp at h
      | some bs =>
        rw [ha,hr] at h
        simp at h
        subst h
        obtain ⟨h1,h2⟩:=rO hr
        refine ⟨by simp [h1],fun i x hx=>?_⟩
        cases i with
        | zero=>simp at hx;subst hx;exact ⟨b,rfl,ha⟩
        | succ i=>simpa using h2 i x (by simpa using hx)
theorem vZ {W:World} {k o:Nat} {xs:List AV} {us:List Value} (h1:xs.all AV.one=true) (hr:aI (pJ W) xs us) (hc:∀ i,i < us.length → W.cell? ⟨k,o + i,none⟩=us[i]?):bG (pJ W) k o xs:=
  bG.dS fun i x hx=>by
    obtain ⟨u,hu,r⟩:=hr.get i x hx
    have hi:i < us.length:=by
      rcases Nat.lt_or_ge i us.length with h | h
      · exact h
      · rw [List.getElem?_eq_none h] at hu;simp at hu
    have h1x:x.one=true:=List.all_eq_true.1 h1 x (List.mem_of_getElem? hx)
    exact ⟨u,TG (by rw [hc i hi,hu]) (r.one h1x),r⟩
theorem JQ {W:World} {a:Addr} {n:Nat} {us:List Value} (h:W.cells? 0 a n=some us):us.length=n ∧ ∀ i,i < n → W.cell? (a.add i)=us[i]?:=by
  simp only [World.cells?,Nat.zero_le,if_true] at h
  obtain ⟨h1,h2⟩:=rO h
  refine ⟨by simpa using h1,fun i hi=>?_⟩
  obtain ⟨y,hy,hf⟩:=h2 i i (by simp [hi])
  rw [hf,hy]
theorem wF {α:Type} [Enc α] {W:World} {k:Nat}:∀ {l:List α} {o:Nat},(∀ (i:Nat) (a:α),l[i]? = some a → bG (pJ W) k (o + i * Enc.sz α) (Enc.cells a)) → bG (pJ W) k o (aj l)
  | [],o,_=>by simp [aj,bG]
  | a :: r, o, h => by
    refine bG.append (by simpa using h 0 a rfl) ?_
    rw [Enc.len]
    refine wF fun i b hb=>?_
    have:=h (i + 1) b (by simpa using hb)
    rwa [show o + (i + 1) * Enc.sz α=o + Enc.sz α + i * Enc.sz α by rw [Nat.add_mul];omega] at this
theorem bV {α:Type} [Enc α] (hu:P.underlying t=some (.slice e)) (hz:P.cellsOf e=Enc.sz α) (hsz:0 < Enc.sz α) (hby:0 < P.bytesOf e) {n:Nat} (he:∀ m,m < n → aX P e α m):aX P t (List α) n:=fun H enc W sp hd cs x h hw=>by
  cases n with
  | zero=>simp [DataW.trod] at h
  | succ n =>
    simp only [DataW.trod,hu] at h
    split at h
    all_goals (try (simp at *;done))
    · exact ⟨[],⟨_,[],rfl,.inl ⟨rfl,rfl,none,0,rfl⟩,rfl⟩,by simp [Enc.ok]⟩
    · rename_i e' a len cap heq
      simp only [Option.some.injEq,TypeDesc.slice.injEq] at heq
      subst heq
      split at h
      · rename_i hc
        obtain ⟨_,hlc,hcap⟩:=hc
        simp only [Option.bind_eq_some_iff] at h
        obtain ⟨elems,hel,hx⟩:=h
        obtain ⟨hl,hget⟩:=rO hel
        simp only [Option.map_eq_some_iff] at hx
        obtain ⟨rest,_,rfl⟩:=hx
        simp only [Po,DataW.weights,hu,List.all_cons,List.all_append,Bool.and_eq_true,decide_eq_true_eq,List.length_map] at hw
        obtain ⟨hw1,hw2,_⟩:=hw
        have hw3:=IQ hw2
        rw [List.length_range] at hl
        by_cases hz0:len=0
        · subst hz0
          exact ⟨[],⟨_,[],rfl,.inl ⟨rfl,rfl,some a,cap,rfl⟩,rfl⟩,by simp [Enc.ok]⟩
        have hone:∀ i,i < len → ∃ (b:α) (us:List Value),us.length=Enc.sz α ∧ (∀ j,j < us.length → W.cell? ((a.add (i * Enc.sz α)).add j)=us[j]?) ∧ aI (pJ W) (Enc.cells b) us ∧ Enc.ok b:=fun i hi=>by
          obtain ⟨y,hy,hf⟩:=hget i i (by simp [hi])
          rw [hz] at hf
          simp only [Option.bind_eq_some_iff] at hf
          obtain ⟨us,hus,hf⟩:=hf
          obtain ⟨g1,g2⟩:=JQ hus
          obtain ⟨b,r1,r2⟩:=he n (Nat.lt_succ_self n) H enc W sp hd us y hf (hw3 y.1 (List.mem_map.2 ⟨y,List.mem_of_getElem? hy,rfl⟩))
          exact ⟨b,us,g1,by rw [g1];exact g2,r1,r2⟩
        -- the address has no spot
        have hpos:0 < Enc.sz α ∨ Enc.sz α=0:=by omega
        rcases hpos with hpos | hpos
        · have hspot : a.spot = none := by
            obtain ⟨b,us,g1,g2,_,_⟩:=hone 0 (by omega)
            have:=g2 0 (by omega)
            rw [Nat.zero_mul] at this
            have hu0:us[0]? = some us[0]:=by simp [g1,hpos]
            rw [hu0] at this
            cases hsp:a.spot with
            | none=>rfl
            | some x =>
              simp [Addr.add,World.cell?,hsp] at this
              split at this <;> simp at this
          obtain ⟨k,o,spp⟩:=a
          simp only at hspot
          subst hspot
          have hadd:∀ i j,((⟨k,o,none⟩:Addr).add i).add j=⟨k,o + i + j,none⟩:=fun i j=>by
            simp only [Addr.add]
            by_cases h1:i=0 <;> by_cases h2:j=0 <;> simp [h1,h2]
          -- choose
          have hch:∀ n',n' ≤ len → ∃ l:List α,l.length=n' ∧ ∀ i b,l[i]? = some b → bG (pJ W) k (o + i * Enc.sz α) (Enc.cells b) ∧ Enc.ok b:=fun n'=>by
            induction n' with
            | zero=>intro _;exact ⟨[],rfl,by simp⟩
            | succ n' ih =>
              intro hle
              obtain ⟨l,hl1,hl2⟩:=ih (by omega)
              obtain ⟨b,us,g1,g2,g3,g4⟩:=hone n' (by omega)
              refine ⟨l ++ [b],by simp [hl1],fun i b' hb'=>?_⟩
              by_cases hi:i < n'
              · rw [List.getElem?_append_left (by omega)] at hb';exact hl2 i b' hb'
              · have hi':i=n':=by
                  rcases Nat.lt_or_ge i (n' + 1) with h | h
                  · omega
                  · rw [List.getElem?_eq_none (by simp [hl1];omega)] at hb';simp at hb'
                subst hi'
                rw [List.getElem?_append_right (by omega)] at hb'
                simp [hl1] at hb'
                subst hb'
                exact ⟨vZ (Enc.one b) g3 (fun j hj=>by have:=g2 j hj;rwa [hadd] at this),g4⟩
          obtain ⟨l,hl1,hl2⟩:=hch len (Nat.le_refl _)
          refine ⟨l,⟨_,[],rfl,.inr ⟨k,o,cap,by rw [hl1],by omega,wF fun i b hb=>(hl2 i b hb).1⟩,rfl⟩,?_⟩
          have hle:len ≤ (elems.length + rest.length) * P.bytesOf e:=by
            exact Nat.le_trans (show len ≤ elems.length + rest.length by omega) (Nat.le_mul_of_pos_right _ hby)
          unfold reachBytes at hw1
          refine ⟨by omega,fun b hb=>?_⟩
          obtain ⟨i,hi⟩:=List.mem_iff_getElem?.1 hb
          exact (hl2 i b hi).2
        · exact absurd hpos (by have:=hsz;omega)
      · simp at h
def bU (P:Program) (f:Field):Nat × Nat × TypeId:=(f.offset,P.cellsOf f.type,f.type)
theorem trod_struct {H:Type} {enc:TypeId × Value → H} {W:World} {sp:Nat → Bool} {hd:Bool} {cs:List Value} {x:DataW H × List MemPlace} {n:Nat} {fs:Array Field} (hu:P.underlying t=some (.struct fs))
    {rows:List (Nat × Nat × TypeId)} (hf:fs.toList.map (bU P)=rows) (h:DataW.trod enc P W 0 sp hd (n + 1) t cs=some x) (hw:Po P t x.1) :
    cs.length=P.cellsOf t ∧ ∀ r ∈ rows,∃ y,DataW.trod enc P W 0 sp hd n r.2.2 ((cs.drop r.1).take r.2.1)=some y ∧ Po P r.2.2 y.1:=by
  simp only [DataW.trod,hu] at h
  split at h
  · rename_i hc
    refine ⟨hc,fun r hr=>?_⟩
    rw [← hf,List.mem_map] at hr
    obtain ⟨f,hf1,rfl⟩:=hr
    simp only [Option.map_eq_some_iff] at h
    obtain ⟨ys,hys,rfl⟩:=h
    obtain ⟨i,hi⟩:=List.mem_iff_getElem?.1 hf1
    obtain ⟨y,hyi,hy⟩:=(rO hys).2 i f hi
    simp only [Po,DataW.weights,hu] at hw
    exact ⟨y,hy,ow hw i f.type y.1 (by simp [hi]) (by simp [hyi])⟩
  · simp at h
theorem aU {c:Ctx} {A B:List AV} {us:List Value} {o z:Nat} (h1:aI c A ((us.drop o).take z)) (h2:aI c B (us.drop (o + z))):aI c (A ++ B) (us.drop o):=by
  have:=h1.append h2
  rwa [← List.drop_drop,List.take_append_drop] at this
theorem gH {c:Ctx} {us:List Value} {o:Nat} (h:us.length=o):aI c [] (us.drop o):=by
  simp only [aI];exact List.drop_of_length_le (by omega)
theorem IX {α:Type} [Enc α] {c:Ctx} {a:α} {v:Value} (h:aI c (Enc.cells a) v.cells.toList) (hv:(∃ cs,v=.agg cs) ↔ Enc.av a=.agg (Enc.cells a)) (ht:∀ vs,v ≠ .tuple vs):aN c (Enc.av a) v:=by
  by_cases hag:Enc.av a=.agg (Enc.cells a)
  · obtain ⟨cs,rfl⟩:=hv.2 hag
    rw [hag]
    simp only [aN]
    exact ⟨cs.toList,by simp,by simpa [Value.cells] using h⟩
  · rcases Enc.avc a with h1 | ⟨h1,h2⟩
    · exact absurd h1 hag
    · rw [h1] at h
      have:v.cells = #[v]:=by
        cases v <;> first | rfl | skip
        · rename_i cs;exact absurd (hv.1 ⟨cs,rfl⟩) hag
      rw [this] at h
      simp only [aI] at h
      obtain ⟨u,us,he,r,rfl⟩:=h
      simp at he
      subst he
      exact r
end
end Go.AX
/- The types: by tygen.py. -/
namespace Go.AX
open Go
namespace Ty
@[ext] structure Attr where
  name:Str
  value:Str
  deriving DecidableEq
instance:Enc Attr:=⟨2,fun x=>[.str x.name,.str x.value],fun x=>.agg [.str x.name,.str x.value],fun x=>Enc.ok x.name ∧ Enc.ok x.value,fun _=>rfl,fun _=>rfl,fun _=>.inl rfl,fun _=>by simp only [ay,Go.AX.flat,aP,Bool.and_self]⟩
theorem Attr.bH (x:Attr):Enc.ok x ↔ (Enc.ok x.name ∧ Enc.ok x.value):=Iff.rfl
theorem Attr.aO (x:Attr):Enc.cells x=[.str x.name,.str x.value]:=rfl
theorem Attr.fC (x:Attr):Enc.av x=.agg [.str x.name,.str x.value]:=rfl
theorem Attr.elem (l:List Attr) (k:Nat):dH k 2 (.ps (List.length l) (aj l))=(l[k]?).map fun x=>.vp (Enc.cells x ++ aj (l.drop (k + 1))):=dD l k
theorem Attr.je (l:List Attr):(aj l).length=List.length l * 2:=aT l
theorem Cr {P:Program} {t t0 t1:TypeId} {fs:Array Field} {n:Nat} (hu:P.underlying t=some (.struct fs)) (hf:fs.toList.map (bU P)=[(0,1,t0),(1,1,t1)]) (hc:P.cellsOf t=2) (h0:aX P t0 Str n) (h1:aX P t1 Str n):aX P t Attr (n + 1):=fun H enc W sp hd cs x hx hw=>by
  obtain ⟨g1,g2⟩:=trod_struct hu hf hx hw
  rw [hc] at g1
  obtain ⟨y0,e0,z0⟩:=g2 (0,1,t0) (by simp)
  obtain ⟨a0,r0,k0⟩:=h0 H enc W sp hd _ _ e0 z0
  obtain ⟨y1,e1,z1⟩:=g2 (1,1,t1) (by simp)
  obtain ⟨a1,r1,k1⟩:=h1 H enc W sp hd _ _ e1 z1
  refine ⟨.mk a0 a1,?_,(Attr.bH _).2 ⟨k0,k1⟩⟩
  have hh:=(aU (o:=0) (z:=1) r0 (aU (o:=1) (z:=1) r1 (gH (o:=2) g1)))
  rw [List.drop_zero] at hh
  rw [Attr.aO];exact hh
theorem Gg {P:Program} {t t0 t1:TypeId} {fs:Array Field} (hu:P.underlying t=some (.struct fs)) (hf:fs.toList.map (bU P)=[(0,1,t0),(1,1,t1)]) (hc:P.cellsOf t=2) (h0:Reads P t0 Str) (h1:Reads P t1 Str):Reads P t Attr:=fun n=>by
  cases n with
  | zero=>exact eF
  | succ n=>exact Cr hu hf hc (h0 n) (h1 n)
inductive Simple where
  | mk (kind:Int) (name:Str) (value:Str) (a:Int) (b:Int) (l:List Simple)
def Simple.kind:Simple → Int
  | .mk x _ _ _ _ _=>x
def Simple.name:Simple → Str
  | .mk _ x _ _ _ _=>x
def Simple.value:Simple → Str
  | .mk _ _ x _ _ _=>x
def Simple.a:Simple → Int
  | .mk _ _ _ x _ _=>x
def Simple.b:Simple → Int
  | .mk _ _ _ _ x _=>x
def Simple.l:Simple → List Simple
  | .mk _ _ _ _ _ x=>x
mutual
def Simple.cells:Simple → List AV
  | .mk x0 x1 x2 x3 x4 x5=>[.int .i64 x0,.str x1,.str x2,.int .i64 x3,.int .i64 x4,.ps (List.length x5) (Simple.cellsS x5)]
def Simple.cellsS:List Simple → List AV
  | []=>[]
  | x :: r=>Simple.cells x ++ Simple.cellsS r
end
mutual
def Simple.ok:Simple → Prop
  | .mk x0 x1 x2 x3 x4 x5=>Enc.ok x0 ∧ Enc.ok x1 ∧ Enc.ok x2 ∧ Enc.ok x3 ∧ Enc.ok x4 ∧ (List.length x5 ≤ 140737488355328 ∧ Simple.yK x5)
def Simple.yK:List Simple → Prop
  | []=>True
  | x :: r=>Simple.ok x ∧ Simple.yK r
end
theorem Simple.mH (x:Simple):x.cells.length=6:=by cases x;rfl
mutual
theorem Simple.flat:∀ x:Simple,ay x.cells=true
  | .mk x0 x1 x2 x3 x4 x5=>by simp only [Simple.cells,ay,Go.AX.flat,aP,Simple.uy x5,Bool.and_self]
theorem Simple.uy:∀ l:List Simple,ay (Simple.cellsS l)=true
  | []=>rfl
  | x :: r=>by simp only [Simple.cellsS,gL,Simple.flat x,Simple.uy r,Bool.and_self]
end
instance:Enc Simple:=⟨6,Simple.cells,fun x=>.agg x.cells,Simple.ok,Simple.mH,fun x=>by cases x;rfl,fun _=>.inl rfl,Simple.flat⟩
theorem Simple.iG:∀ l:List Simple,Simple.cellsS l=aj l
  | []=>rfl
  | x :: r=>by simp only [Simple.cellsS,aj,Simple.iG r];rfl
theorem Simple.lD:∀ l:List Simple,Simple.yK l ↔ ∀ x ∈ l,Enc.ok x
  | []=>by simp [Simple.yK]
  | x :: r=>by simp only [Simple.yK,Simple.lD r,List.mem_cons,forall_eq_or_imp];exact Iff.rfl
theorem Simple.jB (x:Simple):x.cells=[.int .i64 x.kind,.str x.name,.str x.value,.int .i64 x.a,.int .i64 x.b,.ps (List.length x.l) (aj x.l)]:=by cases x;simp only [Simple.cells,Simple.iG,Simple.kind,Simple.name,Simple.value,Simple.a,Simple.b,Simple.l]
theorem Simple.bH (x:Simple):Enc.ok x ↔ (Enc.ok x.kind ∧ Enc.ok x.name ∧ Enc.ok x.value ∧ Enc.ok x.a ∧ Enc.ok x.b ∧ Enc.ok x.l):=by cases x;simp only [Enc.ok,Simple.ok,Simple.lD,Simple.kind,Simple.name,Simple.value,Simple.a,Simple.b,Simple.l]
theorem Simple.aO (x:Simple):Enc.cells x=[.int .i64 x.kind,.str x.name,.str x.value,.int .i64 x.a,.int .i64 x.b,.ps (List.length x.l) (aj x.l)]:=x.jB
theorem Simple.fC (x:Simple):Enc.av x=.agg [.int .i64 x.kind,.str x.name,.str x.value,.int .i64 x.a,.int .i64 x.b,.ps (List.length x.l) (aj x.l)]:=congrArg AV.agg x.jB
theorem Simple.elem (l:List Simple) (k:Nat):dH k 6 (.ps (List.length l) (aj l))=(l[k]?).map fun x=>.vp (Enc.cells x ++ aj (l.drop (k + 1))):=dD l k
theorem Simple.je (l:List Simple):(aj l).length=List.length l * 6:=aT l
theorem xS {P:Program} {t t0 t1 t2 t3 t4 t5:TypeId} {fs:Array Field} {n:Nat} (hu:P.underlying t=some (.struct fs)) (hf:fs.toList.map (bU P)=[(0,1,t0),(1,1,t1),(2,1,t2),(3,1,t3),(4,1,t4),(5,1,t5)]) (hc:P.cellsOf t=6) (h0:aX P t0 Int n) (h1:aX P t1 Str n) (h2:aX P t2 Str n) (h3:aX P t3 Int n) (h4:aX P t4 Int n) (h5:aX P t5 (List Simple) n):aX P t Simple (n + 1):=fun H enc W sp hd cs x hx hw=>by
  obtain ⟨g1,g2⟩:=trod_struct hu hf hx hw
  rw [hc] at g1
  obtain ⟨y0,e0,z0⟩:=g2 (0,1,t0) (by simp)
  obtain ⟨a0,r0,k0⟩:=h0 H enc W sp hd _ _ e0 z0
  obtain ⟨y1,e1,z1⟩:=g2 (1,1,t1) (by simp)
  obtain ⟨a1,r1,k1⟩:=h1 H enc W sp hd _ _ e1 z1
  obtain ⟨y2,e2,z2⟩:=g2 (2,1,t2) (by simp)
  obtain ⟨a2,r2,k2⟩:=h2 H enc W sp hd _ _ e2 z2
  obtain ⟨y3,e3,z3⟩:=g2 (3,1,t3) (by simp)
  obtain ⟨a3,r3,k3⟩:=h3 H enc W sp hd _ _ e3 z3
  obtain ⟨y4,e4,z4⟩:=g2 (4,1,t4) (by simp)
  obtain ⟨a4,r4,k4⟩:=h4 H enc W sp hd _ _ e4 z4
  obtain ⟨y5,e5,z5⟩:=g2 (5,1,t5) (by simp)
  obtain ⟨a5,r5,k5⟩:=h5 H enc W sp hd _ _ e5 z5
  refine ⟨.mk a0 a1 a2 a3 a4 a5,?_,(Simple.bH _).2 ⟨k0,k1,k2,k3,k4,k5⟩⟩
  have hh:=(aU (o:=0) (z:=1) r0 (aU (o:=1) (z:=1) r1 (aU (o:=2) (z:=1) r2 (aU (o:=3) (z:=1) r3 (aU (o:=4) (z:=1) r4 (aU (o:=5) (z:=1) r5 (gH (o:=6) g1)))))))
  rw [List.drop_zero] at hh
  rw [Simple.aO];exact hh
theorem Bj {P:Program} {t t0 t1 t2 t3 t4 t5:TypeId} {fs:Array Field} (hu:P.underlying t=some (.struct fs)) (hf:fs.toList.map (bU P)=[(0,1,t0),(1,1,t1),(2,1,t2),(3,1,t3),(4,1,t4),(5,1,t5)]) (hc:P.cellsOf t=6) (hby:0 < P.bytesOf t) (h0:Reads P t0 Int) (h1:Reads P t1 Str) (h2:Reads P t2 Str) (h3:Reads P t3 Int) (h4:Reads P t4 Int) (h5:P.underlying t5=some (.slice t)):Reads P t Simple:=fun n=>by
  induction n using Nat.strongRecOn with
  | ind n ih =>
    cases n with
    | zero=>exact eF
    | succ n=>exact xS hu hf hc (h0 n) (h1 n) (h2 n) (h3 n) (h4 n) (bV h5 hc (by decide) hby fun m hm=>ih m (by omega))
@[ext] structure Part where
  comb:Int
  l:List Simple
instance:Enc Part:=⟨2,fun x=>[.int .i64 x.comb,.ps (List.length x.l) (aj x.l)],fun x=>.agg [.int .i64 x.comb,.ps (List.length x.l) (aj x.l)],fun x=>Enc.ok x.comb ∧ Enc.ok x.l,fun _=>rfl,fun _=>rfl,fun _=>.inl rfl,fun _=>by simp only [ay,Go.AX.flat,aP,Bool.and_self]⟩
theorem Part.bH (x:Part):Enc.ok x ↔ (Enc.ok x.comb ∧ Enc.ok x.l):=Iff.rfl
theorem Part.aO (x:Part):Enc.cells x=[.int .i64 x.comb,.ps (List.length x.l) (aj x.l)]:=rfl
theorem Part.fC (x:Part):Enc.av x=.agg [.int .i64 x.comb,.ps (List.length x.l) (aj x.l)]:=rfl
theorem Part.elem (l:List Part) (k:Nat):dH k 2 (.ps (List.length l) (aj l))=(l[k]?).map fun x=>.vp (Enc.cells x ++ aj (l.drop (k + 1))):=dD l k
theorem Part.je (l:List Part):(aj l).length=List.length l * 2:=aT l
theorem Ca {P:Program} {t t0 t1:TypeId} {fs:Array Field} {n:Nat} (hu:P.underlying t=some (.struct fs)) (hf:fs.toList.map (bU P)=[(0,1,t0),(1,1,t1)]) (hc:P.cellsOf t=2) (h0:aX P t0 Int n) (h1:aX P t1 (List Simple) n):aX P t Part (n + 1):=fun H enc W sp hd cs x hx hw=>by
  obtain ⟨g1,g2⟩:=trod_struct hu hf hx hw
  rw [hc] at g1
  obtain ⟨y0,e0,z0⟩:=g2 (0,1,t0) (by simp)
  obtain ⟨a0,r0,k0⟩:=h0 H enc W sp hd _ _ e0 z0
  obtain ⟨y1,e1,z1⟩:=g2 (1,1,t1) (by simp)
  obtain ⟨a1,r1,k1⟩:=h1 H enc W sp hd _ _ e1 z1
  refine ⟨.mk a0 a1,?_,(Part.bH _).2 ⟨k0,k1⟩⟩
  have hh:=(aU (o:=0) (z:=1) r0 (aU (o:=1) (z:=1) r1 (gH (o:=2) g1)))
  rw [List.drop_zero] at hh
  rw [Part.aO];exact hh
theorem E5 {P:Program} {t t0 t1:TypeId} {fs:Array Field} (hu:P.underlying t=some (.struct fs)) (hf:fs.toList.map (bU P)=[(0,1,t0),(1,1,t1)]) (hc:P.cellsOf t=2) (h0:Reads P t0 Int) (h1:Reads P t1 (List Simple)):Reads P t Part:=fun n=>by
  cases n with
  | zero=>exact eF
  | succ n=>exact Ca hu hf hc (h0 n) (h1 n)
@[ext] structure Complex where
  parts:List Part
  pseudo:Str
instance:Enc Complex:=⟨2,fun x=>[.ps (List.length x.parts) (aj x.parts),.str x.pseudo],fun x=>.agg [.ps (List.length x.parts) (aj x.parts),.str x.pseudo],fun x=>Enc.ok x.parts ∧ Enc.ok x.pseudo,fun _=>rfl,fun _=>rfl,fun _=>.inl rfl,fun _=>by simp only [ay,Go.AX.flat,aP,Bool.and_self]⟩
theorem Complex.bH (x:Complex):Enc.ok x ↔ (Enc.ok x.parts ∧ Enc.ok x.pseudo):=Iff.rfl
theorem Complex.aO (x:Complex):Enc.cells x=[.ps (List.length x.parts) (aj x.parts),.str x.pseudo]:=rfl
theorem Complex.fC (x:Complex):Enc.av x=.agg [.ps (List.length x.parts) (aj x.parts),.str x.pseudo]:=rfl
theorem Complex.elem (l:List Complex) (k:Nat):dH k 2 (.ps (List.length l) (aj l))=(l[k]?).map fun x=>.vp (Enc.cells x ++ aj (l.drop (k + 1))):=dD l k
theorem Complex.je (l:List Complex):(aj l).length=List.length l * 2:=aT l
theorem uW {P:Program} {t t0 t1:TypeId} {fs:Array Field} {n:Nat} (hu:P.underlying t=some (.struct fs)) (hf:fs.toList.map (bU P)=[(0,1,t0),(1,1,t1)]) (hc:P.cellsOf t=2) (h0:aX P t0 (List Part) n) (h1:aX P t1 Str n):aX P t Complex (n + 1):=fun H enc W sp hd cs x hx hw=>by
  obtain ⟨g1,g2⟩:=trod_struct hu hf hx hw
  rw [hc] at g1
  obtain ⟨y0,e0,z0⟩:=g2 (0,1,t0) (by simp)
  obtain ⟨a0,r0,k0⟩:=h0 H enc W sp hd _ _ e0 z0
  obtain ⟨y1,e1,z1⟩:=g2 (1,1,t1) (by simp)
  obtain ⟨a1,r1,k1⟩:=h1 H enc W sp hd _ _ e1 z1
  refine ⟨.mk a0 a1,?_,(Complex.bH _).2 ⟨k0,k1⟩⟩
  have hh:=(aU (o:=0) (z:=1) r0 (aU (o:=1) (z:=1) r1 (gH (o:=2) g1)))
  rw [List.drop_zero] at hh
  rw [Complex.aO];exact hh
theorem yX {P:Program} {t t0 t1:TypeId} {fs:Array Field} (hu:P.underlying t=some (.struct fs)) (hf:fs.toList.map (bU P)=[(0,1,t0),(1,1,t1)]) (hc:P.cellsOf t=2) (h0:Reads P t0 (List Part)) (h1:Reads P t1 Str):Reads P t Complex:=fun n=>by
  cases n with
  | zero=>exact eF
  | succ n=>exact uW hu hf hc (h0 n) (h1 n)
@[ext] structure Node where
  name:Str
  attrs:List Attr
  text:Str
  up:Int
  kids:List Int
  deriving DecidableEq
instance:Enc Node:=⟨5,fun x=>[.str x.name,.ps (List.length x.attrs) (aj x.attrs),.str x.text,.int .i64 x.up,.ps (List.length x.kids) (aj x.kids)],fun x=>.agg [.str x.name,.ps (List.length x.attrs) (aj x.attrs),.str x.text,.int .i64 x.up,.ps (List.length x.kids) (aj x.kids)],fun x=>Enc.ok x.name ∧ Enc.ok x.attrs ∧ Enc.ok x.text ∧ Enc.ok x.up ∧ Enc.ok x.kids,fun _=>rfl,fun _=>rfl,fun _=>.inl rfl,fun _=>by simp only [ay,Go.AX.flat,aP,Bool.and_self]⟩
theorem Node.bH (x:Node):Enc.ok x ↔ (Enc.ok x.name ∧ Enc.ok x.attrs ∧ Enc.ok x.text ∧ Enc.ok x.up ∧ Enc.ok x.kids):=Iff.rfl
theorem Node.aO (x:Node):Enc.cells x=[.str x.name,.ps (List.length x.attrs) (aj x.attrs),.str x.text,.int .i64 x.up,.ps (List.length x.kids) (aj x.kids)]:=rfl
theorem Node.fC (x:Node):Enc.av x=.agg [.str x.name,.ps (List.length x.attrs) (aj x.attrs),.str x.text,.int .i64 x.up,.ps (List.length x.kids) (aj x.kids)]:=rfl
theorem Node.elem (l:List Node) (k:Nat):dH k 5 (.ps (List.length l) (aj l))=(l[k]?).map fun x=>.vp (Enc.cells x ++ aj (l.drop (k + 1))):=dD l k
theorem Node.je (l:List Node):(aj l).length=List.length l * 5:=aT l
theorem Bo {P:Program} {t t0 t1 t2 t3 t4:TypeId} {fs:Array Field} {n:Nat} (hu:P.underlying t=some (.struct fs)) (hf:fs.toList.map (bU P)=[(0,1,t0),(1,1,t1),(2,1,t2),(3,1,t3),(4,1,t4)]) (hc:P.cellsOf t=5) (h0:aX P t0 Str n) (h1:aX P t1 (List Attr) n) (h2:aX P t2 Str n) (h3:aX P t3 Int n) (h4:aX P t4 (List Int) n):aX P t Node (n + 1):=fun H enc W sp hd cs x hx hw=>by
  obtain ⟨g1,g2⟩:=trod_struct hu hf hx hw
  rw [hc] at g1
  obtain ⟨y0,e0,z0⟩:=g2 (0,1,t0) (by simp)
  obtain ⟨a0,r0,k0⟩:=h0 H enc W sp hd _ _ e0 z0
  obtain ⟨y1,e1,z1⟩:=g2 (1,1,t1) (by simp)
  obtain ⟨a1,r1,k1⟩:=h1 H enc W sp hd _ _ e1 z1
  obtain ⟨y2,e2,z2⟩:=g2 (2,1,t2) (by simp)
  obtain ⟨a2,r2,k2⟩:=h2 H enc W sp hd _ _ e2 z2
  obtain ⟨y3,e3,z3⟩:=g2 (3,1,t3) (by simp)
  obtain ⟨a3,r3,k3⟩:=h3 H enc W sp hd _ _ e3 z3
  obtain ⟨y4,e4,z4⟩:=g2 (4,1,t4) (by simp)
  obtain ⟨a4,r4,k4⟩:=h4 H enc W sp hd _ _ e4 z4
  refine ⟨.mk a0 a1 a2 a3 a4,?_,(Node.bH _).2 ⟨k0,k1,k2,k3,k4⟩⟩
  have hh:=(aU (o:=0) (z:=1) r0 (aU (o:=1) (z:=1) r1 (aU (o:=2) (z:=1) r2 (aU (o:=3) (z:=1) r3 (aU (o:=4) (z:=1) r4 (gH (o:=5) g1))))))
  rw [List.drop_zero] at hh
  rw [Node.aO];exact hh
theorem GL {P:Program} {t t0 t1 t2 t3 t4:TypeId} {fs:Array Field} (hu:P.underlying t=some (.struct fs)) (hf:fs.toList.map (bU P)=[(0,1,t0),(1,1,t1),(2,1,t2),(3,1,t3),(4,1,t4)]) (hc:P.cellsOf t=5) (h0:Reads P t0 Str) (h1:Reads P t1 (List Attr)) (h2:Reads P t2 Str) (h3:Reads P t3 Int) (h4:Reads P t4 (List Int)):Reads P t Node:=fun n=>by
  cases n with
  | zero=>exact eF
  | succ n=>exact Bo hu hf hc (h0 n) (h1 n) (h2 n) (h3 n) (h4 n)
@[ext] structure State where
  node:Int
  name:Str
  deriving DecidableEq
instance:Enc State:=⟨2,fun x=>[.int .i64 x.node,.str x.name],fun x=>.agg [.int .i64 x.node,.str x.name],fun x=>Enc.ok x.node ∧ Enc.ok x.name,fun _=>rfl,fun _=>rfl,fun _=>.inl rfl,fun _=>by simp only [ay,Go.AX.flat,aP,Bool.and_self]⟩
theorem State.bH (x:State):Enc.ok x ↔ (Enc.ok x.node ∧ Enc.ok x.name):=Iff.rfl
theorem State.aO (x:State):Enc.cells x=[.int .i64 x.node,.str x.name]:=rfl
theorem State.fC (x:State):Enc.av x=.agg [.int .i64 x.node,.str x.name]:=rfl
theorem State.elem (l:List State) (k:Nat):dH k 2 (.ps (List.length l) (aj l))=(l[k]?).map fun x=>.vp (Enc.cells x ++ aj (l.drop (k + 1))):=dD l k
theorem State.je (l:List State):(aj l).length=List.length l * 2:=aT l
theorem yV {P:Program} {t t0 t1:TypeId} {fs:Array Field} {n:Nat} (hu:P.underlying t=some (.struct fs)) (hf:fs.toList.map (bU P)=[(0,1,t0),(1,1,t1)]) (hc:P.cellsOf t=2) (h0:aX P t0 Int n) (h1:aX P t1 Str n):aX P t State (n + 1):=fun H enc W sp hd cs x hx hw=>by
  obtain ⟨g1,g2⟩:=trod_struct hu hf hx hw
  rw [hc] at g1
  obtain ⟨y0,e0,z0⟩:=g2 (0,1,t0) (by simp)
  obtain ⟨a0,r0,k0⟩:=h0 H enc W sp hd _ _ e0 z0
  obtain ⟨y1,e1,z1⟩:=g2 (1,1,t1) (by simp)
  obtain ⟨a1,r1,k1⟩:=h1 H enc W sp hd _ _ e1 z1
  refine ⟨.mk a0 a1,?_,(State.bH _).2 ⟨k0,k1⟩⟩
  have hh:=(aU (o:=0) (z:=1) r0 (aU (o:=1) (z:=1) r1 (gH (o:=2) g1)))
  rw [List.drop_zero] at hh
  rw [State.aO];exact hh
theorem Dc {P:Program} {t t0 t1:TypeId} {fs:Array Field} (hu:P.underlying t=some (.struct fs)) (hf:fs.toList.map (bU P)=[(0,1,t0),(1,1,t1)]) (hc:P.cellsOf t=2) (h0:Reads P t0 Int) (h1:Reads P t1 Str):Reads P t State:=fun n=>by
  cases n with
  | zero=>exact eF
  | succ n=>exact yV hu hf hc (h0 n) (h1 n)
@[ext] structure Token where
  kind:Int
  text:Str
  n:Int
  deriving DecidableEq
instance:Enc Token:=⟨3,fun x=>[.int .i64 x.kind,.str x.text,.int .i64 x.n],fun x=>.agg [.int .i64 x.kind,.str x.text,.int .i64 x.n],fun x=>Enc.ok x.kind ∧ Enc.ok x.text ∧ Enc.ok x.n,fun _=>rfl,fun _=>rfl,fun _=>.inl rfl,fun _=>by simp only [ay,Go.AX.flat,aP,Bool.and_self]⟩
theorem Token.bH (x:Token):Enc.ok x ↔ (Enc.ok x.kind ∧ Enc.ok x.text ∧ Enc.ok x.n):=Iff.rfl
theorem Token.aO (x:Token):Enc.cells x=[.int .i64 x.kind,.str x.text,.int .i64 x.n]:=rfl
theorem Token.fC (x:Token):Enc.av x=.agg [.int .i64 x.kind,.str x.text,.int .i64 x.n]:=rfl
theorem Token.elem (l:List Token) (k:Nat):dH k 3 (.ps (List.length l) (aj l))=(l[k]?).map fun x=>.vp (Enc.cells x ++ aj (l.drop (k + 1))):=dD l k
theorem Token.je (l:List Token):(aj l).length=List.length l * 3:=aT l
theorem yO {P:Program} {t t0 t1 t2:TypeId} {fs:Array Field} {n:Nat} (hu:P.underlying t=some (.struct fs)) (hf:fs.toList.map (bU P)=[(0,1,t0),(1,1,t1),(2,1,t2)]) (hc:P.cellsOf t=3) (h0:aX P t0 Int n) (h1:aX P t1 Str n) (h2:aX P t2 Int n):aX P t Token (n + 1):=fun H enc W sp hd cs x hx hw=>by
  obtain ⟨g1,g2⟩:=trod_struct hu hf hx hw
  rw [hc] at g1
  obtain ⟨y0,e0,z0⟩:=g2 (0,1,t0) (by simp)
  obtain ⟨a0,r0,k0⟩:=h0 H enc W sp hd _ _ e0 z0
  obtain ⟨y1,e1,z1⟩:=g2 (1,1,t1) (by simp)
  obtain ⟨a1,r1,k1⟩:=h1 H enc W sp hd _ _ e1 z1
  obtain ⟨y2,e2,z2⟩:=g2 (2,1,t2) (by simp)
  obtain ⟨a2,r2,k2⟩:=h2 H enc W sp hd _ _ e2 z2
  refine ⟨.mk a0 a1 a2,?_,(Token.bH _).2 ⟨k0,k1,k2⟩⟩
  have hh:=(aU (o:=0) (z:=1) r0 (aU (o:=1) (z:=1) r1 (aU (o:=2) (z:=1) r2 (gH (o:=3) g1))))
  rw [List.drop_zero] at hh
  rw [Token.aO];exact hh
theorem EO {P:Program} {t t0 t1 t2:TypeId} {fs:Array Field} (hu:P.underlying t=some (.struct fs)) (hf:fs.toList.map (bU P)=[(0,1,t0),(1,1,t1),(2,1,t2)]) (hc:P.cellsOf t=3) (h0:Reads P t0 Int) (h1:Reads P t1 Str) (h2:Reads P t2 Int):Reads P t Token:=fun n=>by
  cases n with
  | zero=>exact eF
  | succ n=>exact yO hu hf hc (h0 n) (h1 n) (h2 n)
inductive Val where
  | mk (kind:Int) (tok:Token) (l:List Val)
def Val.kind:Val → Int
  | .mk x _ _=>x
def Val.tok:Val → Token
  | .mk _ x _=>x
def Val.l:Val → List Val
  | .mk _ _ x=>x
mutual
def Val.cells:Val → List AV
  | .mk x0 x1 x2=>[.int .i64 x0,.int .i64 x1.kind,.str x1.text,.int .i64 x1.n,.ps (List.length x2) (Val.cellsS x2)]
def Val.cellsS:List Val → List AV
  | []=>[]
  | x :: r=>Val.cells x ++ Val.cellsS r
end
mutual
def Val.ok:Val → Prop
  | .mk x0 x1 x2=>Enc.ok x0 ∧ Enc.ok x1 ∧ (List.length x2 ≤ 140737488355328 ∧ Val.yK x2)
def Val.yK:List Val → Prop
  | []=>True
  | x :: r=>Val.ok x ∧ Val.yK r
end
theorem Val.mH (x:Val):x.cells.length=5:=by cases x;rfl
mutual
theorem Val.flat:∀ x:Val,ay x.cells=true
  | .mk x0 x1 x2=>by simp only [Val.cells,ay,Go.AX.flat,aP,Val.uy x2,Bool.and_self]
theorem Val.uy:∀ l:List Val,ay (Val.cellsS l)=true
  | []=>rfl
  | x :: r=>by simp only [Val.cellsS,gL,Val.flat x,Val.uy r,Bool.and_self]
end
instance:Enc Val:=⟨5,Val.cells,fun x=>.agg x.cells,Val.ok,Val.mH,fun x=>by cases x;rfl,fun _=>.inl rfl,Val.flat⟩
theorem Val.iG:∀ l:List Val,Val.cellsS l=aj l
  | []=>rfl
  | x :: r=>by simp only [Val.cellsS,aj,Val.iG r];rfl
theorem Val.lD:∀ l:List Val,Val.yK l ↔ ∀ x ∈ l,Enc.ok x
  | []=>by simp [Val.yK]
  | x :: r=>by simp only [Val.yK,Val.lD r,List.mem_cons,forall_eq_or_imp];exact Iff.rfl
theorem Val.jB (x:Val):x.cells=[.int .i64 x.kind,.int .i64 x.tok.kind,.str x.tok.text,.int .i64 x.tok.n,.ps (List.length x.l) (aj x.l)]:=by cases x;simp only [Val.cells,Val.iG,Val.kind,Val.tok,Val.l]
theorem Val.bH (x:Val):Enc.ok x ↔ (Enc.ok x.kind ∧ Enc.ok x.tok ∧ Enc.ok x.l):=by cases x;simp only [Enc.ok,Val.ok,Val.lD,Val.kind,Val.tok,Val.l]
theorem Val.aO (x:Val):Enc.cells x=[.int .i64 x.kind,.int .i64 x.tok.kind,.str x.tok.text,.int .i64 x.tok.n,.ps (List.length x.l) (aj x.l)]:=x.jB
theorem Val.fC (x:Val):Enc.av x=.agg [.int .i64 x.kind,.int .i64 x.tok.kind,.str x.tok.text,.int .i64 x.tok.n,.ps (List.length x.l) (aj x.l)]:=congrArg AV.agg x.jB
theorem Val.elem (l:List Val) (k:Nat):dH k 5 (.ps (List.length l) (aj l))=(l[k]?).map fun x=>.vp (Enc.cells x ++ aj (l.drop (k + 1))):=dD l k
theorem Val.je (l:List Val):(aj l).length=List.length l * 5:=aT l
theorem Db {P:Program} {t t0 t1 t2:TypeId} {fs:Array Field} {n:Nat} (hu:P.underlying t=some (.struct fs)) (hf:fs.toList.map (bU P)=[(0,1,t0),(1,3,t1),(4,1,t2)]) (hc:P.cellsOf t=5) (h0:aX P t0 Int n) (h1:aX P t1 Token n) (h2:aX P t2 (List Val) n):aX P t Val (n + 1):=fun H enc W sp hd cs x hx hw=>by
  obtain ⟨g1,g2⟩:=trod_struct hu hf hx hw
  rw [hc] at g1
  obtain ⟨y0,e0,z0⟩:=g2 (0,1,t0) (by simp)
  obtain ⟨a0,r0,k0⟩:=h0 H enc W sp hd _ _ e0 z0
  obtain ⟨y1,e1,z1⟩:=g2 (1,3,t1) (by simp)
  obtain ⟨a1,r1,k1⟩:=h1 H enc W sp hd _ _ e1 z1
  obtain ⟨y2,e2,z2⟩:=g2 (4,1,t2) (by simp)
  obtain ⟨a2,r2,k2⟩:=h2 H enc W sp hd _ _ e2 z2
  refine ⟨.mk a0 a1 a2,?_,(Val.bH _).2 ⟨k0,k1,k2⟩⟩
  have hh:=(aU (o:=0) (z:=1) r0 (aU (o:=1) (z:=3) r1 (aU (o:=4) (z:=1) r2 (gH (o:=5) g1))))
  rw [List.drop_zero] at hh
  rw [Val.aO];exact hh
theorem Ky {P:Program} {t t0 t1 t2:TypeId} {fs:Array Field} (hu:P.underlying t=some (.struct fs)) (hf:fs.toList.map (bU P)=[(0,1,t0),(1,3,t1),(4,1,t2)]) (hc:P.cellsOf t=5) (hby:0 < P.bytesOf t) (h0:Reads P t0 Int) (h1:Reads P t1 Token) (h2:P.underlying t2=some (.slice t)):Reads P t Val:=fun n=>by
  induction n using Nat.strongRecOn with
  | ind n ih =>
    cases n with
    | zero=>exact eF
    | succ n=>exact Db hu hf hc (h0 n) (h1 n) (bV h2 hc (by decide) hby fun m hm=>ih m (by omega))
@[ext] structure Decl where
  name:Str
  l:List Val
  important:Bool
instance:Enc Decl:=⟨3,fun x=>[.str x.name,.ps (List.length x.l) (aj x.l),.bool x.important],fun x=>.agg [.str x.name,.ps (List.length x.l) (aj x.l),.bool x.important],fun x=>Enc.ok x.name ∧ Enc.ok x.l ∧ Enc.ok x.important,fun _=>rfl,fun _=>rfl,fun _=>.inl rfl,fun _=>by simp only [ay,Go.AX.flat,aP,Bool.and_self]⟩
theorem Decl.bH (x:Decl):Enc.ok x ↔ (Enc.ok x.name ∧ Enc.ok x.l ∧ Enc.ok x.important):=Iff.rfl
theorem Decl.aO (x:Decl):Enc.cells x=[.str x.name,.ps (List.length x.l) (aj x.l),.bool x.important]:=rfl
theorem Decl.fC (x:Decl):Enc.av x=.agg [.str x.name,.ps (List.length x.l) (aj x.l),.bool x.important]:=rfl
theorem Decl.elem (l:List Decl) (k:Nat):dH k 3 (.ps (List.length l) (aj l))=(l[k]?).map fun x=>.vp (Enc.cells x ++ aj (l.drop (k + 1))):=dD l k
theorem Decl.je (l:List Decl):(aj l).length=List.length l * 3:=aT l
theorem Cv {P:Program} {t t0 t1 t2:TypeId} {fs:Array Field} {n:Nat} (hu:P.underlying t=some (.struct fs)) (hf:fs.toList.map (bU P)=[(0,1,t0),(1,1,t1),(2,1,t2)]) (hc:P.cellsOf t=3) (h0:aX P t0 Str n) (h1:aX P t1 (List Val) n) (h2:aX P t2 Bool n):aX P t Decl (n + 1):=fun H enc W sp hd cs x hx hw=>by
  obtain ⟨g1,g2⟩:=trod_struct hu hf hx hw
  rw [hc] at g1
  obtain ⟨y0,e0,z0⟩:=g2 (0,1,t0) (by simp)
  obtain ⟨a0,r0,k0⟩:=h0 H enc W sp hd _ _ e0 z0
  obtain ⟨y1,e1,z1⟩:=g2 (1,1,t1) (by simp)
  obtain ⟨a1,r1,k1⟩:=h1 H enc W sp hd _ _ e1 z1
  obtain ⟨y2,e2,z2⟩:=g2 (2,1,t2) (by simp)
  obtain ⟨a2,r2,k2⟩:=h2 H enc W sp hd _ _ e2 z2
  refine ⟨.mk a0 a1 a2,?_,(Decl.bH _).2 ⟨k0,k1,k2⟩⟩
  have hh:=(aU (o:=0) (z:=1) r0 (aU (o:=1) (z:=1) r1 (aU (o:=2) (z:=1) r2 (gH (o:=3) g1))))
  rw [List.drop_zero] at hh
  rw [Decl.aO];exact hh
theorem Fg {P:Program} {t t0 t1 t2:TypeId} {fs:Array Field} (hu:P.underlying t=some (.struct fs)) (hf:fs.toList.map (bU P)=[(0,1,t0),(1,1,t1),(2,1,t2)]) (hc:P.cellsOf t=3) (h0:Reads P t0 Str) (h1:Reads P t1 (List Val)) (h2:Reads P t2 Bool):Reads P t Decl:=fun n=>by
  cases n with
  | zero=>exact eF
  | succ n=>exact Cv hu hf hc (h0 n) (h1 n) (h2 n)
inductive Item where
  | mk (kind:Int) (bB:List Complex) (decls:List Decl) (names:List Str) (min:Int) (max:Int) (vals:List Val) (l:List Item)
def Item.kind:Item → Int
  | .mk x _ _ _ _ _ _ _=>x
def Item.bB:Item → List Complex
  | .mk _ x _ _ _ _ _ _=>x
def Item.decls:Item → List Decl
  | .mk _ _ x _ _ _ _ _=>x
def Item.names:Item → List Str
  | .mk _ _ _ x _ _ _ _=>x
def Item.min:Item → Int
  | .mk _ _ _ _ x _ _ _=>x
def Item.max:Item → Int
  | .mk _ _ _ _ _ x _ _=>x
def Item.vals:Item → List Val
  | .mk _ _ _ _ _ _ x _=>x
def Item.l:Item → List Item
  | .mk _ _ _ _ _ _ _ x=>x
mutual
def Item.cells:Item → List AV
  | .mk x0 x1 x2 x3 x4 x5 x6 x7=>[.int .i64 x0,.ps (List.length x1) (aj x1),.ps (List.length x2) (aj x2),.ps (List.length x3) (aj x3),.int .i64 x4,.int .i64 x5,.ps (List.length x6) (aj x6),.ps (List.length x7) (Item.cellsS x7)]
def Item.cellsS:List Item → List AV
  | []=>[]
  | x :: r=>Item.cells x ++ Item.cellsS r
end
mutual
def Item.ok:Item → Prop
  | .mk x0 x1 x2 x3 x4 x5 x6 x7=>Enc.ok x0 ∧ Enc.ok x1 ∧ Enc.ok x2 ∧ Enc.ok x3 ∧ Enc.ok x4 ∧ Enc.ok x5 ∧ Enc.ok x6 ∧ (List.length x7 ≤ 140737488355328 ∧ Item.yK x7)
def Item.yK:List Item → Prop
  | []=>True
  | x :: r=>Item.ok x ∧ Item.yK r
end
theorem Item.mH (x:Item):x.cells.length=8:=by cases x;rfl
mutual
theorem Item.flat:∀ x:Item,ay x.cells=true
  | .mk x0 x1 x2 x3 x4 x5 x6 x7=>by simp only [Item.cells,ay,Go.AX.flat,aP,Item.uy x7,Bool.and_self]
theorem Item.uy:∀ l:List Item,ay (Item.cellsS l)=true
  | []=>rfl
  | x :: r=>by simp only [Item.cellsS,gL,Item.flat x,Item.uy r,Bool.and_self]
end
instance:Enc Item:=⟨8,Item.cells,fun x=>.agg x.cells,Item.ok,Item.mH,fun x=>by cases x;rfl,fun _=>.inl rfl,Item.flat⟩
theorem Item.iG:∀ l:List Item,Item.cellsS l=aj l
  | []=>rfl
  | x :: r=>by simp only [Item.cellsS,aj,Item.iG r];rfl
theorem Item.lD:∀ l:List Item,Item.yK l ↔ ∀ x ∈ l,Enc.ok x
  | []=>by simp [Item.yK]
  | x :: r=>by simp only [Item.yK,Item.lD r,List.mem_cons,forall_eq_or_imp];exact Iff.rfl
theorem Item.jB (x:Item):x.cells=[.int .i64 x.kind,.ps (List.length x.bB) (aj x.bB),.ps (List.length x.decls) (aj x.decls),.ps (List.length x.names) (aj x.names),.int .i64 x.min,.int .i64 x.max,.ps (List.length x.vals) (aj x.vals),.ps (List.length x.l) (aj x.l)]:=by cases x;simp only [Item.cells,Item.iG,Item.kind,Item.bB,Item.decls,Item.names,Item.min,Item.max,Item.vals,Item.l]
theorem Item.bH (x:Item):Enc.ok x ↔ (Enc.ok x.kind ∧ Enc.ok x.bB ∧ Enc.ok x.decls ∧ Enc.ok x.names ∧ Enc.ok x.min ∧ Enc.ok x.max ∧ Enc.ok x.vals ∧ Enc.ok x.l):=by cases x;simp only [Enc.ok,Item.ok,Item.lD,Item.kind,Item.bB,Item.decls,Item.names,Item.min,Item.max,Item.vals,Item.l]
theorem Item.aO (x:Item):Enc.cells x=[.int .i64 x.kind,.ps (List.length x.bB) (aj x.bB),.ps (List.length x.decls) (aj x.decls),.ps (List.length x.names) (aj x.names),.int .i64 x.min,.int .i64 x.max,.ps (List.length x.vals) (aj x.vals),.ps (List.length x.l) (aj x.l)]:=x.jB
theorem Item.fC (x:Item):Enc.av x=.agg [.int .i64 x.kind,.ps (List.length x.bB) (aj x.bB),.ps (List.length x.decls) (aj x.decls),.ps (List.length x.names) (aj x.names),.int .i64 x.min,.int .i64 x.max,.ps (List.length x.vals) (aj x.vals),.ps (List.length x.l) (aj x.l)]:=congrArg AV.agg x.jB
theorem Item.elem (l:List Item) (k:Nat):dH k 8 (.ps (List.length l) (aj l))=(l[k]?).map fun x=>.vp (Enc.cells x ++ aj (l.drop (k + 1))):=dD l k
theorem Item.je (l:List Item):(aj l).length=List.length l * 8:=aT l
theorem BL {P:Program} {t t0 t1 t2 t3 t4 t5 t6 t7:TypeId} {fs:Array Field} {n:Nat} (hu:P.underlying t=some (.struct fs)) (hf:fs.toList.map (bU P)=[(0,1,t0),(1,1,t1),(2,1,t2),(3,1,t3),(4,1,t4),(5,1,t5),(6,1,t6),(7,1,t7)]) (hc:P.cellsOf t=8) (h0:aX P t0 Int n) (h1:aX P t1 (List Complex) n) (h2:aX P t2 (List Decl) n) (h3:aX P t3 (List Str) n) (h4:aX P t4 Int n) (h5:aX P t5 Int n) (h6:aX P t6 (List Val) n) (h7:aX P t7 (List Item) n):aX P t Item (n + 1):=fun H enc W sp hd cs x hx hw=>by
  obtain ⟨g1,g2⟩:=trod_struct hu hf hx hw
  rw [hc] at g1
  obtain ⟨y0,e0,z0⟩:=g2 (0,1,t0) (by simp)
  obtain ⟨a0,r0,k0⟩:=h0 H enc W sp hd _ _ e0 z0
  obtain ⟨y1,e1,z1⟩:=g2 (1,1,t1) (by simp)
  obtain ⟨a1,r1,k1⟩:=h1 H enc W sp hd _ _ e1 z1
  obtain ⟨y2,e2,z2⟩:=g2 (2,1,t2) (by simp)
  obtain ⟨a2,r2,k2⟩:=h2 H enc W sp hd _ _ e2 z2
  obtain ⟨y3,e3,z3⟩:=g2 (3,1,t3) (by simp)
  obtain ⟨a3,r3,k3⟩:=h3 H enc W sp hd _ _ e3 z3
  obtain ⟨y4,e4,z4⟩:=g2 (4,1,t4) (by simp)
  obtain ⟨a4,r4,k4⟩:=h4 H enc W sp hd _ _ e4 z4
  obtain ⟨y5,e5,z5⟩:=g2 (5,1,t5) (by simp)
  obtain ⟨a5,r5,k5⟩:=h5 H enc W sp hd _ _ e5 z5
  obtain ⟨y6,e6,z6⟩:=g2 (6,1,t6) (by simp)
  obtain ⟨a6,r6,k6⟩:=h6 H enc W sp hd _ _ e6 z6
  obtain ⟨y7,e7,z7⟩:=g2 (7,1,t7) (by simp)
  obtain ⟨a7,r7,k7⟩:=h7 H enc W sp hd _ _ e7 z7
  refine ⟨.mk a0 a1 a2 a3 a4 a5 a6 a7,?_,(Item.bH _).2 ⟨k0,k1,k2,k3,k4,k5,k6,k7⟩⟩
  have hh:=(aU (o:=0) (z:=1) r0 (aU (o:=1) (z:=1) r1 (aU (o:=2) (z:=1) r2 (aU (o:=3) (z:=1) r3 (aU (o:=4) (z:=1) r4 (aU (o:=5) (z:=1) r5 (aU (o:=6) (z:=1) r6 (aU (o:=7) (z:=1) r7 (gH (o:=8) g1)))))))))
  rw [List.drop_zero] at hh
  rw [Item.aO];exact hh
theorem FV {P:Program} {t t0 t1 t2 t3 t4 t5 t6 t7:TypeId} {fs:Array Field} (hu:P.underlying t=some (.struct fs)) (hf:fs.toList.map (bU P)=[(0,1,t0),(1,1,t1),(2,1,t2),(3,1,t3),(4,1,t4),(5,1,t5),(6,1,t6),(7,1,t7)]) (hc:P.cellsOf t=8) (hby:0 < P.bytesOf t) (h0:Reads P t0 Int) (h1:Reads P t1 (List Complex)) (h2:Reads P t2 (List Decl)) (h3:Reads P t3 (List Str)) (h4:Reads P t4 Int) (h5:Reads P t5 Int) (h6:Reads P t6 (List Val)) (h7:P.underlying t7=some (.slice t)):Reads P t Item:=fun n=>by
  induction n using Nat.strongRecOn with
  | ind n ih =>
    cases n with
    | zero=>exact eF
    | succ n=>exact BL hu hf hc (h0 n) (h1 n) (h2 n) (h3 n) (h4 n) (h5 n) (h6 n) (bV h7 hc (by decide) hby fun m hm=>ih m (by omega))
@[ext] structure W3 where
  a:Int
  b:Int
  c:Int
  deriving DecidableEq
instance:Enc W3:=⟨3,fun x=>[.int .i64 x.a,.int .i64 x.b,.int .i64 x.c],fun x=>.agg [.int .i64 x.a,.int .i64 x.b,.int .i64 x.c],fun x=>Enc.ok x.a ∧ Enc.ok x.b ∧ Enc.ok x.c,fun _=>rfl,fun _=>rfl,fun _=>.inl rfl,fun _=>by simp only [ay,Go.AX.flat,aP,Bool.and_self]⟩
theorem W3.bH (x:W3):Enc.ok x ↔ (Enc.ok x.a ∧ Enc.ok x.b ∧ Enc.ok x.c):=Iff.rfl
theorem W3.aO (x:W3):Enc.cells x=[.int .i64 x.a,.int .i64 x.b,.int .i64 x.c]:=rfl
theorem W3.fC (x:W3):Enc.av x=.agg [.int .i64 x.a,.int .i64 x.b,.int .i64 x.c]:=rfl
theorem W3.elem (l:List W3) (k:Nat):dH k 3 (.ps (List.length l) (aj l))=(l[k]?).map fun x=>.vp (Enc.cells x ++ aj (l.drop (k + 1))):=dD l k
theorem W3.je (l:List W3):(aj l).length=List.length l * 3:=aT l
@[ext] structure Rule where
  bB:List Complex
  decls:List Decl
  layer:Int
instance:Enc Rule:=⟨3,fun x=>[.ps (List.length x.bB) (aj x.bB),.ps (List.length x.decls) (aj x.decls),.int .i64 x.layer],fun x=>.agg [.ps (List.length x.bB) (aj x.bB),.ps (List.length x.decls) (aj x.decls),.int .i64 x.layer],fun x=>Enc.ok x.bB ∧ Enc.ok x.decls ∧ Enc.ok x.layer,fun _=>rfl,fun _=>rfl,fun _=>.inl rfl,fun _=>by simp only [ay,Go.AX.flat,aP,Bool.and_self]⟩
theorem Rule.bH (x:Rule):Enc.ok x ↔ (Enc.ok x.bB ∧ Enc.ok x.decls ∧ Enc.ok x.layer):=Iff.rfl
theorem Rule.aO (x:Rule):Enc.cells x=[.ps (List.length x.bB) (aj x.bB),.ps (List.length x.decls) (aj x.decls),.int .i64 x.layer]:=rfl
theorem Rule.fC (x:Rule):Enc.av x=.agg [.ps (List.length x.bB) (aj x.bB),.ps (List.length x.decls) (aj x.decls),.int .i64 x.layer]:=rfl
theorem Rule.elem (l:List Rule) (k:Nat):dH k 3 (.ps (List.length l) (aj l))=(l[k]?).map fun x=>.vp (Enc.cells x ++ aj (l.drop (k + 1))):=dD l k
theorem Rule.je (l:List Rule):(aj l).length=List.length l * 3:=aT l
@[ext] structure Found where
  decl:Decl
  layer:Int
  weight:W3
  pos:Int
instance:Enc Found:=⟨8,fun x=>[.str x.decl.name,.ps (List.length x.decl.l) (aj x.decl.l),.bool x.decl.important,.int .i64 x.layer,.int .i64 x.weight.a,.int .i64 x.weight.b,.int .i64 x.weight.c,.int .i64 x.pos],fun x=>.agg [.str x.decl.name,.ps (List.length x.decl.l) (aj x.decl.l),.bool x.decl.important,.int .i64 x.layer,.int .i64 x.weight.a,.int .i64 x.weight.b,.int .i64 x.weight.c,.int .i64 x.pos],fun x=>Enc.ok x.decl ∧ Enc.ok x.layer ∧ Enc.ok x.weight ∧ Enc.ok x.pos,fun _=>rfl,fun _=>rfl,fun _=>.inl rfl,fun _=>by simp only [ay,Go.AX.flat,aP,Bool.and_self]⟩
theorem Found.bH (x:Found):Enc.ok x ↔ (Enc.ok x.decl ∧ Enc.ok x.layer ∧ Enc.ok x.weight ∧ Enc.ok x.pos):=Iff.rfl
theorem Found.aO (x:Found):Enc.cells x=[.str x.decl.name,.ps (List.length x.decl.l) (aj x.decl.l),.bool x.decl.important,.int .i64 x.layer,.int .i64 x.weight.a,.int .i64 x.weight.b,.int .i64 x.weight.c,.int .i64 x.pos]:=rfl
theorem Found.fC (x:Found):Enc.av x=.agg [.str x.decl.name,.ps (List.length x.decl.l) (aj x.decl.l),.bool x.decl.important,.int .i64 x.layer,.int .i64 x.weight.a,.int .i64 x.weight.b,.int .i64 x.weight.c,.int .i64 x.pos]:=rfl
theorem Found.elem (l:List Found) (k:Nat):dH k 8 (.ps (List.length l) (aj l))=(l[k]?).map fun x=>.vp (Enc.cells x ++ aj (l.drop (k + 1))):=dD l k
theorem Found.je (l:List Found):(aj l).length=List.length l * 8:=aT l
end Ty
attribute [go_sem] Ty.Attr.elem Ty.Simple.elem Ty.Part.elem Ty.Complex.elem Ty.Node.elem Ty.State.elem Ty.Token.elem Ty.Val.elem Ty.Decl.elem Ty.Item.elem Ty.W3.elem Ty.Rule.elem Ty.Found.elem
attribute [go_sem] Ty.Attr.aO Ty.Simple.aO Ty.Part.aO Ty.Complex.aO Ty.Node.aO Ty.State.aO Ty.Token.aO Ty.Val.aO Ty.Decl.aO Ty.Item.aO Ty.W3.aO Ty.Rule.aO Ty.Found.aO
attribute [go_sem] Ty.Attr.fC Ty.Simple.fC Ty.Part.fC Ty.Complex.fC Ty.Node.fC Ty.State.fC Ty.Token.fC Ty.Val.fC Ty.Decl.fC Ty.Item.fC Ty.W3.fC Ty.Rule.fC Ty.Found.fC
end Go.AX
/- The arguments of a row, one by one. -/
namespace Go.AX
open Go Go.RowKit Go.ChangeShapes
section
variable {P:Program} {t:TypeId} {W:World} {v:Value} {base:Nat} {H:Type} {enc:TypeId × Value → H} {d:DataW H} {ps:List MemPlace}
theorem Mw {α:Type} [Enc α] (h:Reads P t α) (hu:(∃ fs,P.underlying t=some (.struct fs)) ∨ ∃ n e,P.underlying t=some (.array n e)) (hav:∀ a:α,Enc.av a=.agg (Enc.cells a))
    (hval:Value.okWide P W .any base t v) (ht:DataW.Trod enc P W 0 (fun _=>true) true t v d ps) (hw:Po P t d):∃ a:α,aN (pJ W) (Enc.av a) v ∧ Enc.ok a:=by
  obtain ⟨n,hn⟩:=ht
  obtain ⟨a,h1,h2⟩:=h n H enc W _ _ _ _ hn hw
  have hv:∃ cs,v=.agg cs:=by
    unfold Value.okWide at hval
    rcases hu with ⟨fs,hu⟩ | ⟨n,e,hu⟩ <;> rw [hu] at hval <;> obtain ⟨cs,hc,_⟩:=hval <;> exact ⟨cs,hc⟩
  refine ⟨a,IX h1 ⟨fun _=>hav a,fun _=>hv⟩ (fun vs hvs=>?_),h2⟩
  obtain ⟨cs,hc⟩:=hv
  rw [hvs] at hc;cases hc
theorem CJ {α:Type} [Enc α] (h:Reads P t α) {td:TypeDesc} (hu:P.underlying t=some td) (htd:(∃ k,td=.int k) ∨ td=.bool ∨ td=.string ∨ ∃ e,td=.slice e) (hav:∀ a:α,(Enc.av a).one=true)
    (hval:Value.okWide P W .any base t v) (ht:DataW.Trod enc P W 0 (fun _=>true) true t v d ps) (hw:Po P t d):∃ a:α,aN (pJ W) (Enc.av a) v ∧ Enc.ok a:=by
  obtain ⟨n,hn⟩:=ht
  obtain ⟨a,h1,h2⟩:=h n H enc W _ _ _ _ hn hw
  have hne:Enc.av a ≠ .agg (Enc.cells a):=fun he=>by have:=hav a;rw [he] at this;simp [AV.one] at this
  have hv:(∀ cs,v ≠ .agg cs) ∧ ∀ cs,v ≠ .tuple cs:=by
    unfold Value.okWide at hval
    rw [hu] at hval
    rcases htd with ⟨k,rfl⟩ | rfl | rfl | ⟨e,rfl⟩ <;> simp only [Cell.okWide,hu,Cell.ok] at hval <;>
      refine ⟨fun cs hc=>?_,fun cs hc=>?_⟩ <;> subst hc <;> simp at hval
  exact ⟨a,IX h1 ⟨fun ⟨cs,hc⟩=>absurd hc (hv.1 cs),fun he=>absurd he hne⟩ (fun vs=>hv.2 vs),h2⟩
theorem Uo {c:Ctx} {x y z:AV} {v u q:Value} (h:aN c x v) (h2:aN c y u) (h3:aN c z q):aI c [x,y,z] (#[v,u,q]:Array Value).toList:=⟨v,[u,q],rfl,h,u,[q],rfl,h2,q,[],rfl,h3,rfl⟩
end
end Go.AX
/- Loops. -/
namespace Go.AX
open Go
section
variable {P:Program} {C:Known}
def FT (ρ:Env):List (Nat × AV) → Env
  | []=>ρ
  | p :: r=>upd (FT ρ r) p.1 p.2
def agree (ρ:Env):List (Nat × AV) → Prop
  | []=>True
  | p :: r=>ρ p.1=p.2 ∧ agree ρ r
theorem Ns {ρ:Env} {i:Nat} {v:AV} (h:ρ i=v):upd ρ i v=ρ:=by
  funext j
  by_cases hj:j=i
  · subst hj;simp [upd,h]
  · simp [upd,hj]
theorem zI {ρ:Env}:∀ {l:List (Nat × AV)},agree ρ l → FT ρ l=ρ
  | [],_=>rfl
  | p :: r,h=>by simp only [FT];rw [zI h.2];exact Ns h.1
theorem Ox (ρ:Env):FT ρ []=ρ:=rfl
theorem Lv (ρ:Env) (i:Nat) (v:AV) (r:List (Nat × AV)):FT ρ ((i,v) :: r)=upd (FT ρ r) i v:=rfl
theorem Lh (ρ:Env):agree ρ []=True:=rfl
theorem Ga (ρ:Env) (i:Nat) (v:AV) (r:List (Nat × AV)):agree ρ ((i,v) :: r)=(ρ i=v ∧ agree ρ r):=rfl
theorem LQ {σ:Type} {a:bM} {Q:bY} {ρ:Env} {s:St} (μ:σ → Nat) (I:σ → Env → St → Prop) (x0:σ) (h0:I x0 ρ s)
    (h:∀ x ρ s,I x ρ s → W P C a (kP (fun ρ' s'=>∃ y,μ y < μ x ∧ I y ρ' s') Q) ρ s):@I5 P C a ρ s ⟨Q⟩:=
  NA (I:=fun n ρ s=>∃ x,μ x=n ∧ I x ρ s) (fun n ρ s ⟨x,hx,hi⟩=>by
    subst hx
    refine nR a (fun e ρ' s' hq=>?_) _ _ (h x ρ s hi)
    cases e with
    | normal=>obtain ⟨y,hy,hi'⟩:=hq;exact ⟨μ y,hy,y,rfl,hi'⟩
    | _=>exact hq) ⟨x0,rfl,h0⟩
theorem aF {σ:Type} {a:bM} {Q:bY} {ρ:Env} {s:St} (μ:σ → Nat) (L:σ → List (Nat × AV)) (J:σ → St → Prop) (x0:σ) (h0:agree ρ (L x0) ∧ J x0 s)
    (h:∀ x ρ s,J x s → W P C a (kP (fun ρ' s'=>∃ y,μ y < μ x ∧ agree ρ' (L y) ∧ J y s') Q) (FT ρ (L x)) s):@I5 P C a ρ s ⟨Q⟩:=
  LQ μ (fun x ρ s=>agree ρ (L x) ∧ J x s) x0 h0 fun x ρ s hi=>by
    have:=h x ρ s hi.2
    rwa [zI hi.1] at this
end
end Go.AX
/- The rules as one set. -/
namespace Go.AX
open Go
theorem PY (c:Prop) (X Y:Prop):@su (¬ c) ⟨X⟩ ⟨Y⟩ = @su c ⟨Y⟩ ⟨X⟩:=by
  simp only [su,Jw,Classical.not_not];exact propext ⟨fun ⟨a,b⟩=>⟨b,a⟩,fun ⟨a,b⟩=>⟨b,a⟩⟩
theorem Tf (b:Bool) (X Y:Prop):@su (b=false) ⟨X⟩ ⟨Y⟩ = @su (b=true) ⟨Y⟩ ⟨X⟩:=by
  cases b <;> simp [su,Jw]
theorem bC {c:Prop} {X Y:Prop} (h1:c → c=True → X) (h2:¬ c → c=False → Y):@su c ⟨X⟩ ⟨Y⟩:=⟨fun h=>h1 h (eq_true h),fun h=>h2 h (eq_false h)⟩
attribute [go_sem ↓] Rk RJ KQ Pz Ow Rw RF RB Nr Ko LU E9 MV N7 MC Gb Aj JG RH KV Fv H6 Ny Pt Rh Oa Nw Nh Js OP Hr Mv Gn Ju Kt Pf Nu Kl Pk PW Jq KA Ia Gv Pb Dz NK O7 MU Bf  TK MB QC Ml Vg SN Py SI SX Ux BP Le GZ uY BU yQ zC Er M9 L9 Jg FZ Jz Hg D9 EB Fb Ea Tk Ry Me Kj Rq Tt Ud OO Kk QZ KH Qr NZ KS KY QB Nq Qd Ku GN RA QO LP OX PO Q9 O4
attribute [go_sem] Od JE NJ Mi LA LW kF lit mE NW asNat Ox Lv Lh Ga Ta MG Lr Mg xu Gh jh fT eY zA unseen List.filter_cons List.filter_nil FJ Ut UJ Qz Jl JM J8 Em GK GX Gj DT Fh La Tx EI DW xu Mc J6 Jp wrap64 u6 SV AZ o8 rD oneOf List.map views view St.puts St.apply List.foldl Bool.false_eq_true decide_eq_true_eq decide_eq_false_iff_not List.nil_append List.append_nil List.cons_append kE bq AO.ev U1 R6 Ie FI shift rd Kr HZ OG K8 L6 partOf iP eqv eqvs Vb Lg JW decide_true List.zip_cons_cons List.zip_nil_left List.drop_zero List.drop_succ_cons List.drop_nil List.take_zero List.take_succ_cons List.take_nil List.length_cons List.length_nil List.getElem?_cons_zero List.getElem?_cons_succ AV.cells List.all_cons List.all_nil AV.one St.get Go.AX.look St.put putAt St.push FP ER Int.cast_ofNat_Int bne_iff_ne beq_iff_eq Nat.zero_add Nat.add_zero true_and and_true and_self Bool.and_true Bool.true_and Bool.and_self bne_self_eq_false beq_self_eq_true Bool.not_false Bool.not_true Bool.not_eq_true' Bool.not_eq_false' eq_self ne_eq not_true_eq_false not_false_eq_true Nat.le_refl Nat.lt_irrefl Nat.zero_le Int.le_refl false_and and_false Nat.zero_mul Nat.one_mul Nat.mul_one Nat.max_def Nat.not_lt_zero Nat.zero_lt_succ Nat.lt_add_one PY Tf
end Go.AX
/- Functions of typed values. -/
namespace Go.AX
open Go
def C0:Known:=fun _ _=>none
theorem P9 (f:Nat) (xs:List AV):C0 f xs=none:=rfl
theorem fH (P:Program):iV P C0:=fun f xs v h=>by simp [C0] at h
def cB (s:St) (v' v:AV):Prop:=(view s.get v').map (·.1)=some v
section
variable {P:Program}
theorem Gl {s:St} {v' v:AV} (h:cB s v' v):∃ s2,yR v' s v s2:=by
  unfold cB at h
  cases hv:view s.get v' with
  | none=>rw [hv] at h;simp at h
  | some p =>
    obtain ⟨x,ps⟩:=p
    rw [hv] at h
    simp at h
    subst h
    exact ⟨_,yR.view hv⟩
theorem au {f:FuncId} {args:List AV} {s:St} {xs:List AV} {s':St} {K:AV → St → Prop} {v:AV} (h:aK P f xs v) (hk:@rY s' ⟨K v⟩):@pU P f args s xs s' ⟨K⟩:=.inr ⟨v,h,hk⟩
theorem Lm {f:FuncId} {args:List AV} {s:St} {xs:List AV} {s':St} {K:AV → St → Prop} (h:aR P f args s K):@pU P f args s xs s' ⟨K⟩:=.inl h
theorem aJ {f:FuncId} {args xs:List AV} {D W:List Nat} {s s':St} {K:AV → St → Entry → Prop} {v:AV} (h:aK P f xs v) (hk:@jd ((D.all fun id=>decide (id < s.next))=true) ⟨@rY s' ⟨fun s'=>K v s' ⟨D,W,s.next,s.next⟩⟩⟩):@Cm P f args xs D W s s' ⟨K⟩:=
  .inl ⟨v,h,by simpa using hk.1,hk.2⟩
theorem kJ {f:FuncId} {args xs:List AV} {D W:List Nat} {s s0 s':St} {K:AV → St → Entry → Prop} {v:AV} (h:aR P f args s (fun v' t=>v'=v ∧ t=s')) (hw:Wf s) (hn:s.next ≤ s'.next) (hw':Wf s')
    (hk:@rY s' ⟨fun s'=>K v s' ⟨List.range s.next,List.range s.next,s.next,s'.next⟩⟩):@Cm P f args xs D W s s0 ⟨K⟩:=
  .inr ⟨v,s',List.range s.next,h,hw,hn,hw',⟨fun id hid=>by simpa using hid,fun id hid hno=>(hno (by simpa using hid)).elim⟩,hk⟩
theorem pz {h:List (Nat × Obj)} {n:Nat} {o:Obj} (hw:Wf ⟨h,n⟩):Wf ⟨(n,o) :: h,n + 1⟩:=fun id hid=>by
  have hid':n + 1 ≤ id:=hid
  show look id ((n,o) :: h)=none
  rw [look,if_neg (by omega)]
  exact hw id (by show n ≤ id;omega)
theorem Ht {h:List (Nat × Obj)} {n b:Nat} {o:Obj} (hw:Wf ⟨h,n⟩):Wf ⟨putAt b o h,n⟩:=fun id hid=>by
  have:=hw id hid
  simp only [St.get] at this ⊢
  rw [aS]
  split
  · rename_i hb;subst hb;rw [this];rfl
  · exact this
theorem aH (hmix:P.follows .mixedOrders=true) {f:FuncId} {af:aM} (hf:aL P f=some af) (hin:(bR af.ntmps af.body && mg af.ntmps af.results)=true) {args:List AV} {v:AV}
    (hl:Nat.ble args.length af.ntmps=true) (hfa:ay args=true) (hfv:flat v=true) (h:W P C0 af.body (Cy af.results fun v' s'=>cB s' v' v) (uX args) ⟨[],0⟩):aK P f args v:=
  ⟨aR.upd ((bT hmix (fH P) hf hin (Nat.le_of_ble_eq_true hl) h).mono fun v' s' hv=>by obtain ⟨s2,hu⟩:=Gl hv;exact ⟨v,s2,hu,rfl⟩),hfa,hfv⟩
theorem aK.at {f:FuncId} {args:List AV} {v v':AV} (h:aK P f args v) (e:v=v'):aK P f args v':=e ▸ h
end
theorem Rt (a b:AV) (r:List AV):jf (some 2) (some (a :: b :: r))=some (.agg [a,b]):=by simp [jf]
theorem RI (a b c:AV) (r:List AV):jf (some 3) (some (a :: b :: c :: r))=some (.agg [a,b,c]):=by simp [jf]
theorem QD (a b c d:AV) (r:List AV):jf (some 4) (some (a :: b :: c :: d :: r))=some (.agg [a,b,c,d]):=by simp [jf]
theorem RD (a b c d e:AV) (r:List AV):jf (some 5) (some (a :: b :: c :: d :: e :: r))=some (.agg [a,b,c,d,e]):=by simp [jf]
theorem Qj (a b c d e f:AV) (r:List AV):jf (some 6) (some (a :: b :: c :: d :: e :: f :: r))=some (.agg [a,b,c,d,e,f]):=by simp [jf]
theorem P6 (a b c d e f g:AV) (r:List AV):jf (some 7) (some (a :: b :: c :: d :: e :: f :: g :: r))=some (.agg [a,b,c,d,e,f,g]):=by simp [jf]
theorem PZ (a b c d e f g h:AV) (r:List AV):jf (some 8) (some (a :: b :: c :: d :: e :: f :: g :: h :: r))=some (.agg [a,b,c,d,e,f,g,h]):=by simp [jf]
theorem Px (n:Nat):(0 ≤ (n:Int))=True:=eq_true (by omega)
theorem Qq (n:Nat):(n:Int).toNat=n:=rfl
theorem Kc (i z b e o n z':Nat):dH i z (.sl b e o n z')=if i < n then some (.ptr b e (o + i * z)) else none:=rfl
theorem JU (off b e o:Nat):shift off (.ptr b e o)=some (.ptr b e (o + off)):=rfl
theorem OA (off:Nat) (cs:List AV):shift off (.vp cs)=some (.vp (cs.drop off)):=rfl
theorem Fy (b e o:Nat):FQ (.ptr b e o)=some (.ptr b e o):=rfl
theorem Jv (cs:List AV):FQ (.vp cs)=some (.vp cs):=rfl
theorem Pn {α:Type} (c:Prop) [Decidable c] (o:Option α) (K:α → Prop):@iN α (if c then none else o) ⟨K⟩ = @su c ⟨False⟩ ⟨@iN α o ⟨K⟩⟩:=by
  by_cases h:c <;> simp [h,iN,su,Jw]
theorem Jy {α:Type} (c:Prop) [Decidable c] (o:Option α) (K:α → Prop):@iN α (if c then o else none) ⟨K⟩ = @su c ⟨@iN α o ⟨K⟩⟩ ⟨False⟩:=by
  by_cases h:c <;> simp [h,iN,su,Jw]
theorem O5 (c:Prop) [Decidable c] (e:Eff) (s:St) (K:AV → St → Prop):@kT (if c then e else none) s ⟨K⟩ = @su c ⟨@kT e s ⟨K⟩⟩ ⟨False⟩:=by
  by_cases h:c <;> simp [h,kT,su,Jw]
theorem JV (c:Prop) [Decidable c] (e:Eff) (D:List Nat) (s:St) (K:AV → St → Entry → Prop):@gY (if c then e else none) D s ⟨K⟩ = @su c ⟨@gY e D s ⟨K⟩⟩ ⟨False⟩:=by
  by_cases h:c <;> simp [h,gY,su,Jw]
theorem Ul (g:Nat → Option Obj) (cs:List AV):rd g (.vp cs)=some cs:=rfl
theorem Gt (s:St) (k:IntKind) (n:Int) (v:AV):cB s (.int k n) v=(AV.int k n=v):=by simp [cB,view]
theorem Ef (s:St) (n:Bool) (v:AV):cB s (.bool n) v=(AV.bool n=v):=by simp [cB,view]
theorem Hz (s:St) (n:List UInt8) (v:AV):cB s (.str n) v=(AV.str n=v):=by simp [cB,view]
theorem Jo (s:St) (n:Nat) (cs:List AV) (v:AV):cB s (.ps n cs) v=(AV.ps n cs=v):=by simp [cB,view]
theorem DX (s:St) (v:AV):cB s .nils v=(AV.ps 0 []=v):=by simp [cB,view]
theorem Gf (s:St) (cs:List AV) (v:AV):cB s (.agg cs) v=((views s.get cs).map (fun p=>AV.agg p.1)=some v):=by
  simp only [cB,view]
  cases views s.get cs with
  | none=>rfl
  | some p=>rfl
theorem GV (s:St) (cs:List AV) (v:AV):cB s (.tup cs) v=((views s.get cs).map (fun p=>AV.tup p.1)=some v):=by
  simp only [cB,view]
  cases views s.get cs with
  | none=>rfl
  | some p=>rfl
theorem aG {α:Type} {l:List α} {k:Nat} (h:k < l.length):∃ x,l[k]? = some x ∧ l.drop k=x :: l.drop (k + 1) ∧ x ∈ l:=
  ⟨l[k],by simp [h],List.drop_eq_getElem_cons h,List.getElem_mem h⟩
theorem iO {α:Type} {l:List α} {k:Nat} (h:l.length ≤ k):l.drop k=[]:=List.drop_of_length_le h
attribute [go_sem] Px Qq Kc
attribute [go_sem] P9 Rt RI QD RD Qj P6 PZ JU OA Ul Pn Jy O5 JV beq_eq_false_iff_ne bne_eq_false_iff_eq Fy Jv Gt Ef Hz Jo DX Gf GV Option.some.injEq
attribute [go_sem] or_self or_true true_or or_false false_or sZ rowOf LY bound vV TD
attribute [go_sem] JB KX qy Np GD Eb Hu Na PI MI Ru R3 Option.map_some Option.map_none
attribute [go_sem] Ty.Attr.elem Ty.Simple.elem Ty.Part.elem Ty.Complex.elem Ty.Node.elem Ty.State.elem Ty.Token.elem Ty.Val.elem Ty.Decl.elem Ty.Item.elem Ty.W3.elem Ty.Rule.elem Ty.Found.elem
attribute [go_sem] Ty.Attr.aO Ty.Simple.aO Ty.Part.aO Ty.Complex.aO Ty.Node.aO Ty.State.aO Ty.Token.aO Ty.Val.aO Ty.Decl.aO Ty.Item.aO Ty.W3.aO Ty.Rule.aO Ty.Found.aO
attribute [go_sem] Ty.Attr.fC Ty.Simple.fC Ty.Part.fC Ty.Complex.fC Ty.Node.fC Ty.State.fC Ty.Token.fC Ty.Val.fC Ty.Decl.fC Ty.Item.fC Ty.W3.fC Ty.Rule.fC Ty.Found.fC
end Go.AX
/- Calls that change what they were handed: the new ids of a call are given back. -/
namespace Go.AX
open Go
theorem FR {c c':Ctx} {w:World} {id n:Nat} {o:Obj} (h:iR c w id o) (hid:id < n) (ho:FM n o):iR (c.cut n) w id o:=by
  refine h.ME (fun e=>by simp [Ctx.cut,hid]) (fun k i=>rfl) fun x u hx hr=>oQ x u hr ?_
  cases o with
  | cells v cs sn =>
    simp only [FM] at ho
    obtain ⟨i,hi⟩:=List.mem_iff_getElem?.1 hx
    exact ho.get i x hi
  | map es =>
    simp only [FM] at ho
    obtain ⟨p,hp,rfl | rfl⟩:=hx
    · exact (ho p hp).1
    · exact (ho p hp).2
  | iter p q=>exact hx.elim
  | raw k o F us =>
    obtain ⟨i,hi⟩:=List.mem_iff_getElem?.1 hx
    simp only [FM] at ho
    exact ho.get i x hi
theorem Sat.closed {c:Ctx} {s:St} {w:World} (h:Sat c s w) {id:Nat} {o:Obj} (hg:s.get id=some o):FM s.next o ∧ id < s.next:=by
  have hlt:id < s.next:=by
    obtain ⟨k,z,hb⟩:=(h.obj id o hg).bound
    rcases Nat.lt_or_ge id s.next with h1 | h1
    · exact h1
    · rw [h.fresh id _ h1] at hb;simp at hb
  refine ⟨?_,hlt⟩
  have ho:=h.obj id o hg
  cases o with
  | cells v cs sn =>
    obtain ⟨k,z,arr,el,fr,h1,h2,h3,h4,h5,h6,h7⟩:=ho
    simp only [FM]
    refine Cls.dS fun i x hx=>?_
    obtain ⟨u,_,_,r⟩:=h6 i x hx
    exact jP h.fresh x u r
  | map es =>
    obtain ⟨k,z,mes,clock,h1,h2,h3,h4⟩:=ho
    simp only [FM]
    have key:∀ (es:List (AV × AV)) (us:List MapEntry),gu c es us → ∀ p ∈ es,Cl s.next p.1 ∧ Cl s.next p.2:=by
      intro es
      induction es with
      | nil=>intro us _ p hp;simp at hp
      | cons q r ih =>
        intro us hr p hp
        obtain ⟨a,b⟩:=q
        simp only [gu] at hr
        obtain ⟨e,es',_,r1,r2,r3⟩:=hr
        rcases List.mem_cons.1 hp with rfl | hp
        · exact ⟨jP h.fresh _ _ r1,jP h.fresh _ _ r2⟩
        · exact ih es' r3 p hp
    exact key es _ h3
  | iter p q=>trivial
  | raw k o F us =>
    obtain ⟨z,_,_,h3,_⟩:=ho
    exact Cls.dS fun i x hx=>by
      obtain ⟨u,_,r⟩:=h3.get i x hx
      exact jP h.fresh x u r
theorem aR.fin {P:Program} {f:FuncId} {args:List AV} {s:St} {R:AV → St → Prop}
    (h:aR P f args s fun v s'=>Cl s.next v ∧ ∃ s2,s2.next=s.next ∧ (∀ id o,s2.get id=some o → ∃ o',s.get id=some o') ∧ (∀ id o,id < s.next → s2.get id=some o → s'.get id=some o ∧ (s.get id=some o ∨ FM s.next o)) ∧ R v s2):aR P f args s R:=by
  refine ⟨h.1,fun c w vs hs hr=>(h.2 c w vs hs hr).mono fun e w' ⟨v,u,c',s',e1,r,h1,h2,hcl,s2,hn,hex,hg0,hR⟩=>?_⟩
  have hg:∀ id o,s2.get id=some o → s'.get id=some o ∧ id < s.next ∧ (s.get id=some o ∨ FM s.next o):=fun id o ho=>by
    obtain ⟨o',ho'⟩:=hex id o ho
    have hlt:=(hs.closed ho').2
    obtain ⟨a,b⟩:=hg0 id o hlt ho
    exact ⟨a,hlt,b⟩
  have hcl2:∀ id o,s2.get id=some o → FM s.next o:=fun id o ho=>by
    obtain ⟨_,_,h3⟩:=hg id o ho
    rcases h3 with h3 | h3
    · exact (hs.closed h3).1
    · exact h3
  have hblk:∀ id o,id < s.next → blk (c'.cut s.next) id o=blk c' id o:=fun id o hid=>by simp [blk,Ctx.cut,hid]
  refine ⟨v,u,c'.cut s.next,s2,e1,oQ v u r hcl,⟨?_,?_,?_,?_,?_,?_⟩,⟨?_,h2.size,?_,?_,?_,?_,?_,h2.os⟩,hR⟩
  · exact h1.mem
  · intro id o ho
    obtain ⟨g1,g2,_⟩:=hg id o ho
    exact FR (c':=c') (h1.obj id o g1) g2 (hcl2 id o ho)
  · intro id id' o o' k ho ho' hk hk'
    obtain ⟨g1,g2,_⟩:=hg id o ho
    obtain ⟨g1',g2',_⟩:=hg id' o' ho'
    rw [hblk id o g2] at hk
    rw [hblk id' o' g2'] at hk'
    exact h1.inj id id' o o' k g1 g1' hk hk'
  · intro id e hid
    rw [hn] at hid
    simp [Ctx.cut];omega
  · intro id o ho e he
    obtain ⟨g1,g2,_⟩:=hg id o ho
    simp [Ctx.cut,g2,h1.top id o g1 e he]
  · intro b e k z hb
    simp only [Ctx.cut] at hb
    split at hb
    · exact h1.low b e k z hb
    · simp at hb
  · refine ⟨fun b e x hx=>?_,h2.le.2⟩
    have hb:b < s.next:=by
      rcases Nat.lt_or_ge b s.next with h | h
      · exact h
      · rw [hs.fresh b e h] at hx;simp at hx
    simp only [Ctx.cut,hb,if_true]
    exact h2.le.1 b e x hx
  · exact h2.same
  · rintro k ⟨id,o,ho,hk⟩
    obtain ⟨g1,g2,_⟩:=hg id o ho
    rw [hblk id o g2] at hk
    exact h2.foot k ⟨id,o,g1,hk⟩
  · rw [hn];exact Nat.le_refl _
  · intro id hid hno e
    simp only [Ctx.cut,hid,if_true]
    exact h2.sig id hid hno e
  · intro id o ho
    obtain ⟨g1,g2,_⟩:=hg id o ho
    rcases h2.dom id o g1 with h | h
    · exact .inl h
    · omega
section
variable {P:Program}
theorem eU {f:FuncId} {args:List AV} {s:St} {xs:List AV} {s' s2:St} {K:AV → St → Prop} {v:AV} (h:aR P f args s fun v' s''=>v'=v ∧ s''=s2) (hk:@rY s2 ⟨K v⟩):@pU P f args s xs s' ⟨K⟩:=
  .inl (h.mono fun v' s'' ⟨h1,h2⟩=>by subst h1;subst h2;exact hk)
end
theorem xP {P:Program} (hmix:P.follows .mixedOrders=true) {f:FuncId} {af:aM} (hf:aL P f=some af) (hin:(bR af.ntmps af.body && mg af.ntmps af.results)=true) {args:List AV} {s s2:St} {v:AV}
    (hl:Nat.ble args.length af.ntmps=true) (hv:Cl s.next v) (hn:s2.next=s.next) (hex:∀ id o,s2.get id=some o → ∃ o',s.get id=some o') (h:W P C0 af.body (Cy af.results fun v' s'=>v'=v ∧ ∀ id o,id < s.next → s2.get id=some o → s'.get id=some o ∧ (s.get id=some o ∨ FM s.next o)) (uX args) s) :
    aR P f args s fun v' s'=>v'=v ∧ s'=s2:=
  aR.fin ((bT hmix (fH P) hf hin (Nat.le_of_ble_eq_true hl) h).mono fun v' s' ⟨h1,h2⟩=>⟨by subst h1;exact hv,s2,hn,hex,h2,h1,rfl⟩)
theorem Md {h:List (Nat × Obj)} {n b:Nat} {o:Obj}:∀ id x,(St.mk (putAt b o h) n).get id=some x → ∃ o',(St.mk h n).get id=some o':=fun id x hx=>by
  simp only [St.get,aS] at hx
  simp only [St.get]
  split at hx
  · rename_i hb;subst hb
    cases hl:look b h with
    | none=>rw [hl] at hx;simp at hx
    | some y=>exact ⟨y,rfl⟩
  · exact ⟨x,hx⟩
theorem fM {id id':Nat} {o:Obj} {l:List (Nat × Obj)} (h:id ≠ id'):look id' (putAt id o l)=look id' l:=by rw [aS,if_neg h]
theorem jF {id:Nat} {o x:Obj} {l:List (Nat × Obj)} (h:look id l=some x):look id (putAt id o l)=some o:=by rw [aS,if_pos rfl,h];rfl
end Go.AX
namespace Go.AX
attribute [go_sem] aS
end Go.AX
/- A deep view: what is owned becomes plain, within what is plain, too. -/
namespace Go.AX
open Go
abbrev Seen:=AV × List (Nat × Obj)
def bf (f:AV → Option Seen):List AV → Option (List AV × List (Nat × Obj))
  | []=>some ([],[])
  | x :: xs => match f x, bf f xs with
    | some (y,p),some (ys,q)=>some (y :: ys,p ++ q)
    | _,_=>none
def iA (k:List AV → AV):Option (List AV × List (Nat × Obj)) → Option Seen
  | some (xs,q)=>some (k xs,q)
  | none=>none
def qw (k:List AV → List AV → AV):Option (List AV × List (Nat × Obj)) → Option (List AV × List (Nat × Obj)) → Option Seen
  | some (xs,p),some (ys,q)=>some (k xs ys,p ++ q)
  | _,_=>none
def p8 (b e:Nat) (o:Option Obj) (f:List AV → Option Seen):Option Seen:=match o with
  | some (.cells e' cs _)=>if e=e' then (match f cs with | some (x,q)=>some (x,(b,.cells e cs true) :: q) | none=>none) else none
  | _=>none
def bI (g:Nat → Option Obj):Nat → AV → Option Seen
  | 0,v=>some (v,[])
  | d + 1, v => match v with
    | .nils=>some (.ps 0 [],[])
    | .sl b e o n z=>p8 b e (g b) fun cs=>if o + n * z ≤ cs.length then iA (.ps n) (bf (bI g d) ((cs.drop o).take (n * z))) else none
    | .ptr b e o=>p8 b e (g b) fun cs=>if o ≤ cs.length then iA .vp (bf (bI g d) (cs.drop o)) else none
    | .ps n cs=>if ay cs=true then some (.ps n cs,[]) else iA (.ps n) (bf (bI g d) cs)
    | .vp cs=>if ay cs=true then some (.vp cs,[]) else iA .vp (bf (bI g d) cs)
    | .agg cs=>iA .agg (bf (bI g d) cs)
    | .tup cs=>iA .tup (bf (bI g d) cs)
    | .fn f xs ys=>qw (.fn f) (bf (bI g d) xs) (bf (bI g d) ys)
    | .ifc t x => match bI g d x with
      | some (y,q)=>some (.ifc t y,q)
      | none=>none
    | v=>some (v,[])
section
variable {w:World} {g:Nat → Option Obj}
def VS (w : World) (g : Nat → Option Obj) (f : AV → Option Seen) : Prop := ∀ (x y : AV) (ps : List (Nat × Obj)), f x = some (y, ps) → ∀ (c : Ctx) (s : St) (u : Value), Sat c s w → Since g s → aN c x u →
    ∃ c',Sat c' (s.puts ps) w ∧ Ext c s w c' (s.puts ps) w ∧ Since g (s.puts ps) ∧ aN c' y u
theorem dn {f:AV → Option Seen} (hf:VS w g f):∀ (xs ys:List AV) (ps:List (Nat × Obj)),bf f xs=some (ys,ps) → ∀ (c:Ctx) (s:St) (us:List Value),Sat c s w → Since g s → aI c xs us →
    ∃ c',Sat c' (s.puts ps) w ∧ Ext c s w c' (s.puts ps) w ∧ Since g (s.puts ps) ∧ aI c' ys us
  | [], ys, ps, hv, c, s, us, h, hs, hr => by
    simp [bf] at hv;obtain ⟨rfl,rfl⟩:=hv
    exact ⟨c,h,Ext.refl _ _ _,hs,hr⟩
  | x :: xs, ys, ps, hv, c, s, us, h, hs, hr => by
    simp only [bf] at hv
    split at hv
    · rename_i y p ys' q h1 h2
      simp at hv;obtain ⟨rfl,rfl⟩:=hv
      simp only [aI] at hr
      obtain ⟨u,us',rfl,r1,r2⟩:=hr
      obtain ⟨c1,a1,a2,a3,a4⟩:=hf x y p h1 c s u h hs r1
      obtain ⟨c2,b1,b2,b3,b4⟩:=dn hf xs ys' q h2 c1 (s.puts p) us' a1 a3 (aI.mono a2.le xs us' r2)
      have e:s.puts (p ++ q)=(s.puts p).puts q:=by simp [St.puts]
      refine ⟨c2,by rw [e];exact b1,by rw [e];exact a2.trans b2,by rw [e];exact b3,?_⟩
      simp only [aI]
      exact ⟨u,us',rfl,a4.mono b2.le,b4⟩
    · simp at hv
theorem Dl {c:Ctx} {k:Nat}:∀ {o:Nat} {xs:List AV},bG c k o xs → ∃ us,aI c xs us ∧ ∀ i u,us[i]? = some u → c.m k (o + i)=some u
  | o,[],_=>⟨[],by simp [aI],by simp⟩
  | o, x :: xs, r => by
    simp only [bG] at r
    obtain ⟨⟨u,e,r1⟩,r2⟩:=r
    obtain ⟨us,h1,h2⟩:=Dl r2
    refine ⟨u :: us,by simp only [aI];exact ⟨u,us,rfl,r1,h1⟩,fun i v hv=>?_⟩
    cases i with
    | zero=>simp at hv;subst hv;exact e
    | succ i=>simp at hv;have:=h2 i v hv;rwa [show o + 1 + i=o + (i + 1) by omega] at this
theorem wG {c:Ctx} {k:Nat}:∀ {o:Nat} {xs:List AV} {us:List Value},aI c xs us → (∀ i u,us[i]? = some u → c.m k (o + i)=some u) → bG c k o xs
  | o,[],us,_,_=>by simp [bG]
  | o, x :: xs, us, r, h => by
    simp only [aI] at r
    obtain ⟨u,us',rfl,r1,r2⟩:=r
    simp only [bG]
    refine ⟨⟨u,by simpa using h 0 u (by simp),r1⟩,wG r2 fun i v hv=>?_⟩
    have:=h (i + 1) v (by simpa using hv)
    rwa [show o + (i + 1)=o + 1 + i by omega] at this
theorem jX {f:AV → Option Seen} (hf:VS w g f) {k o:Nat} {xs ys:List AV} {ps:List (Nat × Obj)} (hv:bf f xs=some (ys,ps)) {c:Ctx} {s:St} (h:Sat c s w) (hs:Since g s) (hr:bG c k o xs) :
    ∃ c',Sat c' (s.puts ps) w ∧ Ext c s w c' (s.puts ps) w ∧ Since g (s.puts ps) ∧ bG c' k o ys:=by
  obtain ⟨us,h1,h2⟩:=Dl hr
  obtain ⟨c',a1,a2,a3,a4⟩:=dn hf xs ys ps hv c s us h hs h1
  exact ⟨c',a1,a2,a3,wG a4 fun i u hu=>a2.le.2 _ _ _ (h2 i u hu)⟩
theorem jk {k:List AV → AV} {o:Option (List AV × List (Nat × Obj))} {y:AV} {ps:List (Nat × Obj)} (h:iA k o=some (y,ps)):∃ xs,o=some (xs,ps) ∧ y=k xs:=by
  cases o with
  | none=>simp [iA] at h
  | some p=>obtain ⟨xs,q⟩:=p;simp [iA] at h;exact ⟨xs,by rw [h.2],h.1.symm⟩
theorem jK:∀ d,VS w g (bI g d)
  | 0 => fun x y ps hv c s u h hs hr => by
    simp [bI] at hv;obtain ⟨rfl,rfl⟩:=hv
    exact ⟨c,h,Ext.refl _ _ _,hs,hr⟩
  | d + 1 => fun x y ps hv c s u h hs hr => by
    have ih:=jK d
    have same:∀ {y:AV} {ps:List (Nat × Obj)},some (x,([]:List (Nat × Obj)))=some (y,ps) → ∃ c',Sat c' (s.puts ps) w ∧ Ext c s w c' (s.puts ps) w ∧ Since g (s.puts ps) ∧ aN c' y u:=fun e=>by
      simp at e;obtain ⟨rfl,rfl⟩:=e
      exact ⟨c,h,Ext.refl _ _ _,hs,hr⟩
    cases x with
    | nils =>
      simp [bI] at hv;obtain ⟨rfl,rfl⟩:=hv
      simp only [aN] at hr
      refine ⟨c,h,Ext.refl _ _ _,hs,?_⟩
      simp only [aN]
      exact .inl ⟨by first | rfl | trivial,by first | rfl | trivial,none,0,hr⟩
    | sl b e o n z =>
      simp only [bI,p8] at hv
      split at hv
      · rename_i e' cs sn hg
        split at hv
        · rename_i he
          subst he
          split at hv
          · rename_i x q hq
            split at hq
            · rename_i hc
              obtain ⟨xs,h1,rfl⟩:=jk hq
              simp at hv;obtain ⟨rfl,rfl⟩:=hv
              obtain ⟨c1,a1,a2,⟨k,zz,a3,a4⟩,a5⟩:=yG h hs hg
              simp only [aN] at hr
              obtain ⟨k',s',q',g1,g2,g3,g4⟩:=hr
              have:=a2.le.1 _ _ _ g1
              rw [a3] at this;simp only [Option.some.injEq,Prod.mk.injEq] at this;obtain ⟨rfl,rfl⟩:=this
              have hat:bG c1 k o ((cs.drop o).take (n * z)):=by simpa using (a4.drop o).take (n * z)
              obtain ⟨c2,b1,b2,b3,b4⟩:=jX ih h1 a1 a5 hat
              refine ⟨c2,b1,a2.trans b2,b3,?_⟩
              simp only [aN]
              exact .inr ⟨k,o,q',g2,g3,b4⟩
            · simp at hq
          · simp at hv
        · simp at hv
      · simp at hv
    | ptr b e o =>
      simp only [bI,p8] at hv
      split at hv
      · rename_i e' cs sn hg
        split at hv
        · rename_i he
          subst he
          split at hv
          · rename_i x q hq
            split at hq
            · rename_i hc
              obtain ⟨xs,h1,rfl⟩:=jk hq
              simp at hv;obtain ⟨rfl,rfl⟩:=hv
              obtain ⟨c1,a1,a2,⟨k,zz,a3,a4⟩,a5⟩:=yG h hs hg
              simp only [aN] at hr
              obtain ⟨k',s',g1,g2⟩:=hr
              have:=a2.le.1 _ _ _ g1
              rw [a3] at this;simp only [Option.some.injEq,Prod.mk.injEq] at this;obtain ⟨rfl,rfl⟩:=this
              have hat:bG c1 k o (cs.drop o):=by simpa using a4.drop o
              obtain ⟨c2,b1,b2,b3,b4⟩:=jX ih h1 a1 a5 hat
              refine ⟨c2,b1,a2.trans b2,b3,?_⟩
              simp only [aN]
              exact ⟨k,o,g2,b4⟩
            · simp at hq
          · simp at hv
        · simp at hv
      · simp at hv
    | ps n cs =>
      simp only [bI] at hv
      split at hv
      · exact same hv
      · obtain ⟨xs,h1,rfl⟩:=jk hv
        simp only [aN] at hr
        rcases hr with ⟨rfl,rfl,a,q,e⟩ | ⟨k,o,q,e,hq,r⟩
        · simp [bf] at h1
          obtain ⟨rfl,rfl⟩:=h1
          exact ⟨c,h,Ext.refl _ _ _,hs,by simp only [aN];exact .inl ⟨by first | rfl | trivial,by first | rfl | trivial,a,q,e⟩⟩
        · obtain ⟨c2,b1,b2,b3,b4⟩:=jX ih h1 h hs r
          exact ⟨c2,b1,b2,b3,by simp only [aN];exact .inr ⟨k,o,q,e,hq,b4⟩⟩
    | vp cs =>
      simp only [bI] at hv
      split at hv
      · exact same hv
      · obtain ⟨xs,h1,rfl⟩:=jk hv
        simp only [aN] at hr
        obtain ⟨k,o,e,r⟩:=hr
        obtain ⟨c2,b1,b2,b3,b4⟩:=jX ih h1 h hs r
        exact ⟨c2,b1,b2,b3,by simp only [aN];exact ⟨k,o,e,b4⟩⟩
    | agg xs =>
      simp only [bI] at hv
      obtain ⟨ys,h1,rfl⟩:=jk hv
      simp only [aN] at hr
      obtain ⟨us,rfl,hr⟩:=hr
      obtain ⟨c',a1,a2,a3,a4⟩:=dn ih xs ys _ h1 c s us h hs hr
      exact ⟨c',a1,a2,a3,by simp only [aN];exact ⟨us,rfl,a4⟩⟩
    | tup xs =>
      simp only [bI] at hv
      obtain ⟨ys,h1,rfl⟩:=jk hv
      simp only [aN] at hr
      obtain ⟨us,rfl,hr⟩:=hr
      obtain ⟨c',a1,a2,a3,a4⟩:=dn ih xs ys _ h1 c s us h hs hr
      exact ⟨c',a1,a2,a3,by simp only [aN];exact ⟨us,rfl,a4⟩⟩
    | fn f xs ys =>
      simp only [bI] at hv
      cases h1:bf (bI g d) xs with
      | none=>rw [h1] at hv;simp [qw] at hv
      | some p1 =>
        cases h2:bf (bI g d) ys with
        | none=>rw [h1,h2] at hv;simp [qw] at hv
        | some p2 =>
          obtain ⟨xs',p⟩:=p1
          obtain ⟨ys',q⟩:=p2
          rw [h1,h2] at hv
          simp [qw] at hv
          obtain ⟨rfl,rfl⟩:=hv
          simp only [aN] at hr
          obtain ⟨us,ws,rfl,r1,r2⟩:=hr
          obtain ⟨c1,a1,a2,a3,a4⟩:=dn ih xs xs' _ h1 c s us h hs r1
          obtain ⟨c2,b1,b2,b3,b4⟩:=dn ih ys ys' _ h2 c1 _ ws a1 a3 (aI.mono a2.le ys ws r2)
          have e:s.puts (p ++ q)=(s.puts p).puts q:=by simp [St.puts]
          exact ⟨c2,by rw [e];exact b1,by rw [e];exact a2.trans b2,by rw [e];exact b3,by simp only [aN];exact ⟨us,ws,rfl,aI.mono b2.le _ _ a4,b4⟩⟩
    | ifc t x =>
      simp only [bI] at hv
      split at hv
      · rename_i y' q h1
        simp at hv;obtain ⟨rfl,rfl⟩:=hv
        simp only [aN] at hr
        obtain ⟨u',rfl,hr⟩:=hr
        obtain ⟨c',a1,a2,a3,a4⟩:=ih x y' q h1 c s u' h hs hr
        exact ⟨c',a1,a2,a3,by simp only [aN];exact ⟨u',rfl,a4⟩⟩
      · simp at hv
    | _=>exact same (by simpa only [bI] using hv)
end
theorem yR.bI {d:Nat} {v v':AV} {s:St} {ps:List (Nat × Obj)} (h:Go.AX.bI s.get d v=some (v',ps)):yR v s v' (s.puts ps):=fun c w u hs hr=>by
  obtain ⟨c',h1,h2,_,h4⟩:=jK d v v' ps h c s u hs (Since.refl s) hr
  exact ⟨c',h1,h2,h4⟩
section
variable {P:Program}
theorem aR.bI {d:Nat} {f:FuncId} {args xs:List AV} {s:St} {ps:List (Nat × Obj)} {R:AV → St → Prop} (hv:bf (Go.AX.bI s.get d) args=some (xs,ps)) (h:aR P f xs (s.puts ps) R):aR P f args s R:=
  ⟨h.1,fun c w vs hs hr=>by
    obtain ⟨c',h1,h2,_,h4⟩:=dn (jK d) args xs ps hv c s vs hs (Since.refl s) hr
    exact (h.2 c' w vs h1 h4).mono fun e w' ⟨v,u,c2,s2,e1,e2,e3,e4,e5⟩=>⟨v,u,c2,s2,e1,e2,e3,h2.trans e4,e5⟩⟩
theorem FC {f:FuncId} {args:List AV} {s:St} {xs xs':List AV} {s':St} {K:AV → St → Prop} {v:AV} {ps:List (Nat × Obj)} (h:aK P f xs' v) (hv:bf (Go.AX.bI s.get 7) args=some (xs',ps)) (hk:@rY (s.puts ps) ⟨K v⟩):@pU P f args s xs s' ⟨K⟩:=
  .inl (aR.bI hv ((h.1.any h.2.1 h.2.2 (s.puts ps)).mono fun v' s'' ⟨h1,h2⟩=>by subst h1;subst h2;exact hk))
def dW (s:St) (v' v:AV):Prop:=(bI s.get 8 v').map (·.1)=some v
theorem oK {s:St} {v' v:AV} (h:dW s v' v):∃ s2,yR v' s v s2:=by
  unfold dW at h
  cases hv:bI s.get 8 v' with
  | none=>rw [hv] at h;simp at h
  | some p =>
    obtain ⟨x,ps⟩:=p
    rw [hv] at h
    simp at h
    subst h
    exact ⟨_,yR.bI hv⟩
theorem eH (hmix:P.follows .mixedOrders=true) {f:FuncId} {af:aM} (hf:aL P f=some af) (hin:(bR af.ntmps af.body && mg af.ntmps af.results)=true) {args:List AV} {v:AV}
    (hl:Nat.ble args.length af.ntmps=true) (hfa:ay args=true) (hfv:flat v=true) (h:W P C0 af.body (Cy af.results fun v' s'=>dW s' v' v) (uX args) ⟨[],0⟩):aK P f args v:=
  ⟨aR.upd ((bT hmix (fH P) hf hin (Nat.le_of_ble_eq_true hl) h).mono fun v' s' hv=>by obtain ⟨s2,hu⟩:=oK hv;exact ⟨v,s2,hu,rfl⟩),hfa,hfv⟩
def UH:qc → Option AV
  | .val v s=>(bI s.get 8 v).map (·.1)
  | _=>none
theorem ko (hmix:P.follows .mixedOrders=true) {d:Nat} {T:Nat → Option nH} (hT:∀ f tf,T f=some tf → aL P f=some tf.af) (hin:Vi d T) {n f:Nat} {args:List AV} {v:AV}
    (hfa:ay args=true) (hfv:flat v=true) (h:UH (wu d T n (.call f args) .e ⟨[],0⟩)=some v):aK P f args v:=by
  unfold UH at h
  split at h
  · rename_i v0 s0 he
    exact ⟨aR.upd ((Og hmix hT hin he).mono fun v' s' ⟨h1,h2⟩=>by subst h1;subst h2;obtain ⟨s2,hu⟩:=oK h;exact ⟨v,s2,hu,rfl⟩),hfa,hfv⟩
  · simp at h
def Oy (o:Option (List AV × List (Nat × Obj))) (xs':List AV) (s:St) [K:Ot]:Prop:=match o with
  | some (xs,ps)=>xs=xs' ∧ rY (s.puts ps)
  | none=>False
theorem FH (xs xs':List AV) (ps:List (Nat × Obj)) (s:St) (K:St → Prop):@Oy (some (xs,ps)) xs' s ⟨K⟩ = @jd (xs=xs') ⟨@rY (s.puts ps) ⟨K⟩⟩:=rfl
theorem vG {f:FuncId} {args:List AV} {s:St} {xs xs':List AV} {s':St} {K:AV → St → Prop} {v:AV} (h:aK P f xs' v) (hk:@Oy (bf (Go.AX.bI s.get 7) args) xs' s ⟨K v⟩):@pU P f args s xs s' ⟨K⟩:=by
  unfold Oy at hk
  split at hk
  · rename_i ys ps hv
    obtain ⟨rfl,hk⟩:=hk
    exact FC h hv hk
  · exact hk.elim
def VW (s:St):Bool:=s.heap.all fun p=>decide (p.1 < s.next)
theorem Eh {s:St} (h:VW s=true):Wf s:=fun id hid=>by
  have h':∀ p ∈ s.heap,p.1 < s.next:=by
    simpa [VW] using h
  have key:∀ l:List (Nat × Obj),(∀ p ∈ l,p.1 < s.next) → look id l=none:=by
    intro l
    induction l with
    | nil=>intro _;rfl
    | cons p r ih =>
      intro hl
      obtain ⟨a,b⟩:=p
      have:=hl (a,b) (by simp)
      simp only [look]
      rw [if_neg (by simp only at this;omega)]
      exact ih fun q hq=>hl q (by simp [hq])
  exact key _ h'
class UY where
  k:St → List Nat → Prop
def Nz (o:Option (List AV × List (Nat × Obj))) (xs':List AV) (s:St) [K:UY]:Prop:=match o with
  | some (xs,ps)=>xs=xs' ∧ (ps.all fun p=>decide (p.1 < s.next))=true ∧ K.k (s.puts ps) (ps.map (·.1))
  | none=>False
theorem CW (xs xs':List AV) (ps:List (Nat × Obj)) (s:St) (K:St → List Nat → Prop):@Nz (some (xs,ps)) xs' s ⟨K⟩ = @jd (xs=xs' ∧ (ps.all fun p=>decide (p.1 < s.next))=true) ⟨@rY (s.puts ps) ⟨fun s'=>K s' (ps.map (·.1))⟩⟩:=by
  simp only [Nz,jd,rY];exact propext ⟨fun ⟨a,b,c⟩=>⟨⟨a,b⟩,c⟩,fun ⟨⟨a,b⟩,c⟩=>⟨a,b,c⟩⟩
end
theorem jv {h:List (Nat × Obj)} {m b e n z:Nat} {cs:List AV} {sn:Bool} (v:AV) (hl:look b h=some (.cells e cs sn)) (hn:n * z ≤ cs.length):cB ⟨h,m⟩ (.sl b e 0 n z) v=(AV.ps n (cs.take (n * z))=v):=by
  simp [cB,view,St.get,hl,hn]
theorem LZ {P:Program} {C:Known} (ρ:Env) (s:St) (K:AV → St → Prop) (f:Fn) (xs ys:List AO):eD P C ρ s K (.mkfn f xs ys)=K (.fn f (xs.map (bF ρ)) (ys.map (bF ρ))) s:=by
  simp only [eD,kE,bq,List.map_map];rfl
theorem JD {P:Program} {C:Known} (ρ:Env) (s:St) (K:AV → St → Entry → Prop) (f:Fn) (xs ys:List AO):dR P C ρ s K (.mkfn f xs ys)=eD P C ρ s (fun v s'=>K v s' ⟨[],[],s.next,s.next⟩) (.mkfn f xs ys):=bL P C ρ s K _ rfl
attribute [go_sem ↓] LZ JD Ez Rn Pv SL Qg
attribute [go_sem] bI bf iA qw p8 FH CW aP gL Go.AX.ay Go.AX.flat List.range List.range.loop
end Go.AX
/- Calls that give a value without ids, and leave all as it is. -/
namespace Go.AX
open Go
mutual
theorem Jc (n:Nat):∀ x:AV,flat x=true → Cl n x
  | .ptr _ _ _,h=>by simp [flat] at h
  | .sl _ _ _ _ _,h=>by simp [flat] at h
  | .map _,h=>by simp [flat] at h
  | .agg xs,h=>by simp only [flat] at h;exact kZ n xs h
  | .tup xs,h=>by simp only [flat] at h;exact kZ n xs h
  | .vp xs,h=>by simp only [flat] at h;exact kZ n xs h
  | .ps _ xs,h=>by simp only [flat] at h;exact kZ n xs h
  | .fn _ xs ys, h => by
    simp only [flat,Bool.and_eq_true] at h
    exact ⟨kZ n xs h.1,kZ n ys h.2⟩
  | .ifc _ x,h=>by simp only [flat] at h;exact Jc n x h
  | .bool _,_ | .int _ _,_ | .str _,_ | .nilp,_ | .nils,_ | .nilf,_ | .nili,_ | .nilm,_ | .any,_=>trivial
theorem kZ (n:Nat):∀ xs:List AV,ay xs=true → Cls n xs
  | [],_=>trivial
  | x :: r, h => by
    simp only [ay,Bool.and_eq_true] at h
    exact ⟨Jc n x h.1,kZ n r h.2⟩
end
theorem yR.sub (v:AV) {s s2:St} (hg:∀ id o,s2.get id=some o → s.get id=some o) (hn:s.next ≤ s2.next):yR v s v s2:=fun c w u hs hr=>by
  obtain ⟨a,b⟩:=hs.forget hg hn
  exact ⟨c,a,b,hr⟩
end Go.AX
/- A pure call that gives plain values leaves no trace: what it has looked at can still be written. -/
namespace Go.AX
open Go
def wZ:AV → Bool
  | .agg xs=>xs.all mE
  | .tup xs=>xs.all mE
  | v=>mE v
theorem wI {c c':Ctx} {v:AV} (h:mE v=true) {u:Value} (r:aN c v u):aN c' v u:=by
  cases v <;> first | (simp [mE] at h;done) | simpa [aN] using r
theorem tC {c c':Ctx}:∀ {xs:List AV} {us:List Value},xs.all mE=true → aI c xs us → aI c' xs us
  | [],us,_,r=>by simpa [aI] using r
  | x :: xs, us, h, r => by
    simp only [List.all_cons,Bool.and_eq_true] at h
    simp only [aI] at r ⊢
    obtain ⟨u,us',e,r1,r2⟩:=r
    exact ⟨u,us',e,wI h.1 r1,tC h.2 r2⟩
theorem Jr {c c':Ctx} {v:AV} (h:wZ v=true) {u:Value} (r:aN c v u):aN c' v u:=by
  cases v with
  | agg xs=>simp only [aN] at r ⊢;obtain ⟨us,e,r⟩:=r;exact ⟨us,e,tC h r⟩
  | tup xs=>simp only [aN] at r ⊢;obtain ⟨us,e,r⟩:=r;exact ⟨us,e,tC h r⟩
  | _=>exact wI (by simpa [wZ] using h) r
theorem aR.U9 {P:Program} {f:FuncId} {args xs:List AV} {v:AV} {s:St} {ps:List (Nat × Obj)} {d:Nat} (hv:bf (Go.AX.bI s.get d) args=some (xs,ps)) (h:aK P f xs v) (hp:wZ v=true) :
    aR P f args s fun v' s'=>v'=v ∧ s'=s:=by
  obtain ⟨h,ha,_⟩:=h
  refine ⟨h.1,fun c w vs hs hr=>?_⟩
  obtain ⟨c1,g1,g2,_,g4⟩:=dn (jK d) args xs ps hv c s vs hs (Since.refl s) hr
  have h0:Sat ⟨fun _ _=>none,c1.m⟩ ⟨[],0⟩ w:=⟨g1.mem,fun id o ho=>by simp [St.get,look] at ho,fun id id' o o' k ho=>by simp [St.get,look] at ho,fun _ _ _=>rfl,fun id o ho=>by simp [St.get,look] at ho,fun b e k z hb=>by simp at hb⟩
  refine (h.2 _ w vs h0 (aI.flat (c:=c1) (c':=⟨fun _ _=>none,c1.m⟩) (fun _ _ _ h=>h) _ _ ha g4)).mono fun e w' ⟨v',u,c',s',e1,r,h1,h2,h3⟩=>?_
  subst h3
  have hsame:∀ k,k < w.heap.size → w'.heap[k]? = w.heap[k]?:=fun k hk=>(h2.same k hk fun ⟨id,o,ho,_⟩=>by simp [St.get,look] at ho).1
  have hin:∀ k o u,c.m k o=some u → k < w.heap.size:=fun k o u hu=>by
    have:=(hs.mem k o u hu).1
    rcases Nat.lt_or_ge k w.heap.size with h | h
    · exact h
    · exfalso
      simp [World.cell?,Array.getElem?_eq_none h] at this
  let m2:Nat → Nat → Option Value:=fun k o=>if k < w.heap.size then c.m k o else none
  have hm2:∀ k o,k < w.heap.size → m2 k o=c.m k o:=fun k o hk=>if_pos hk
  have hle:c.le ⟨c.σ,m2⟩:=⟨fun _ _ _ h=>h,fun k o u hu=>by rw [← hu];exact hm2 k o (hin k o u hu)⟩
  have hcell:∀ k o,k < w.heap.size → w'.cell? ⟨k,o,none⟩=w.cell? ⟨k,o,none⟩:=fun k o hk=>by
    simp only [World.cell?,hsame k hk]
  refine ⟨v',u,⟨c.σ,m2⟩,s,e1,Jr hp r,⟨fun k o u hu=>?_,fun id o ho=>?_,fun id id' o o' k ho ho'=>hs.inj id id' o o' k ho ho',hs.fresh,hs.top,fun b e k z hb=>?_⟩,
    ⟨hle,h2.size,fun k hk _=>⟨hsame k hk,fun o=>hm2 k o hk⟩,fun k hf=>.inl hf,Nat.le_refl _,fun _ _ _ _=>rfl,fun id o ho=>.inl ⟨o,ho⟩,h2.os⟩,rfl,rfl⟩
  · simp only [m2] at hu
    split at hu
    · rename_i hk
      rw [hcell k o hk]
      exact hs.mem k o u hu
    · simp at hu
  · refine (hs.obj id o ho).move hle fun k hk=>?_
    simp only [blk,Option.map_eq_some_iff] at hk
    obtain ⟨⟨k1,z1⟩,hs1,rfl⟩:=hk
    have:=hs.low _ _ _ _ hs1
    exact ⟨hsame _ this,fun i=>hm2 _ i this⟩
  · exact Nat.lt_of_lt_of_le (hs.low _ _ _ _ hb) h2.size
section
variable {P:Program}
def Iz (o:Option (List AV × List (Nat × Obj))) (xs':List AV) (s:St) [K:Ot]:Prop:=match o with
  | some (xs,_)=>xs=xs' ∧ rY s
  | none=>False
theorem GY (xs xs':List AV) (ps:List (Nat × Obj)) (s:St) (K:St → Prop):@Iz (some (xs,ps)) xs' s ⟨K⟩ = @jd (xs=xs') ⟨@rY s ⟨K⟩⟩:=rfl
theorem PX {f:FuncId} {args:List AV} {s:St} {xs xs':List AV} {s':St} {K:AV → St → Prop} {v:AV} (h:aK P f xs' v) (hp:wZ v=true) (hk:@Iz (bf (Go.AX.bI s.get 7) args) xs' s ⟨K v⟩):@pU P f args s xs s' ⟨K⟩:=by
  unfold Iz at hk
  split at hk
  · rename_i ys ps hv
    obtain ⟨rfl,hk⟩:=hk
    exact .inl ((aR.U9 hv h hp).mono fun v' s'' ⟨h1,h2⟩=>by subst h1;subst h2;exact hk)
  · exact hk.elim
end
attribute [go_sem] GY
end Go.AX
/- Owned results: a call that sees plain values and gives a new list. -/
namespace Go.AX
open Go
def UK (P:Program) (f:FuncId) (args:List AV) (e n z:Nat) (cs:List AV):Prop:=
  aR P f args ⟨[],0⟩ (fun v s'=>∃ b,v=.sl b e 0 n z ∧ s'.get b=some (.cells e cs false)) ∧ ay args=true ∧ cs.all mE=true
theorem CX {cs:List AV} (h:cs.all mE=true) {i:Nat} {x:AV} (hx:cs[i]? = some x):mE x=true:=
  List.all_eq_true.1 h x (List.mem_of_getElem? hx)
theorem UK.calls {P:Program} {f:FuncId} {args xs:List AV} {s:St} {ps:List (Nat × Obj)} {d e n z:Nat} {cs:List AV} (hv:bf (Go.AX.bI s.get d) args=some (xs,ps)) (h:UK P f xs e n z cs) :
    aR P f args s fun v' s'=>v'=.sl s.next e 0 n z ∧ s'=s.push (.cells e cs false):=by
  obtain ⟨h,ha,hlit⟩:=h
  refine ⟨h.1,fun c w vs hs hr=>?_⟩
  obtain ⟨c1,g1,g2,_,g4⟩:=dn (jK d) args xs ps hv c s vs hs (Since.refl s) hr
  have h0:Sat ⟨fun _ _=>none,c1.m⟩ ⟨[],0⟩ w:=⟨g1.mem,fun id o ho=>by simp [St.get,look] at ho,fun id id' o o' k ho=>by simp [St.get,look] at ho,fun _ _ _=>rfl,fun id o ho=>by simp [St.get,look] at ho,fun b e k z hb=>by simp at hb⟩
  refine (h.2 _ w vs h0 (aI.flat (c:=c1) (c':=⟨fun _ _=>none,c1.m⟩) (fun _ _ _ h=>h) _ _ ha g4)).mono fun ev w' ⟨v',u,c',s',e1,r,h1,h2,h3⟩=>?_
  obtain ⟨b,rfl,hg⟩:=h3
  obtain ⟨k,sz,arr,el,fr,o1,o2,o3,o4,o5,o6,o7⟩:=h1.obj b _ hg
  have hkw:w.heap.size ≤ k:=by
    rcases h2.foot k ⟨b,_,hg,by simp [blk,Obj.ver,o1]⟩ with ⟨id,o,ho,_⟩ | h
    · simp [St.get,look] at ho
    · exact h
  have hkw':k < w'.heap.size:=by
    rcases Nat.lt_or_ge k w'.heap.size with h | h
    · exact h
    · rw [Array.getElem?_eq_none h] at o2;simp at o2
  have hsame:∀ k,k < w.heap.size → w'.heap[k]? = w.heap[k]?:=fun k hk=>(h2.same k hk fun ⟨id,o,ho,_⟩=>by simp [St.get,look] at ho).1
  have hin:∀ k o u,c.m k o=some u → k < w.heap.size:=fun k o u hu=>by
    have:=(hs.mem k o u hu).1
    rcases Nat.lt_or_ge k w.heap.size with h | h
    · exact h
    · exfalso
      simp [World.cell?,Array.getElem?_eq_none h] at this
  let m2:Nat → Nat → Option Value:=fun k o=>if k < w.heap.size then c.m k o else none
  let s2:Nat → Nat → Option (Nat × Nat):=fun b' e'=>if b'=s.next ∧ e'=e then some (k,sz) else c.σ b' e'
  have hm2:∀ k o,k < w.heap.size → m2 k o=c.m k o:=fun k o hk=>if_pos hk
  have hs2:∀ b' e',b' ≠ s.next → s2 b' e'=c.σ b' e':=fun b' e' hb=>if_neg fun h=>hb h.1
  have hse:s2 s.next e=some (k,sz):=if_pos ⟨rfl,rfl⟩
  have hle:c.le ⟨s2,m2⟩:=⟨fun b' e' x hx=>by
    show s2 b' e'=some x
    by_cases hb:b'=s.next
    · subst hb;rw [hs.fresh _ _ (Nat.le_refl _)] at hx;simp at hx
    · rw [hs2 _ _ hb];exact hx,fun k o u hu=>by rw [← hu];exact hm2 k o (hin k o u hu)⟩
  have hcell:∀ k o,k < w.heap.size → w'.cell? ⟨k,o,none⟩=w.cell? ⟨k,o,none⟩:=fun k o hk=>by
    simp only [World.cell?,hsame k hk]
  have hlow:∀ id o k',s.get id=some o → blk c id o=some k' → k' < w.heap.size:=fun id o k' _ hb=>by
    simp only [blk,Option.map_eq_some_iff] at hb
    obtain ⟨⟨k1,z1⟩,hs1,rfl⟩:=hb
    exact hs.low _ _ _ _ hs1
  have hne:∀ id o,s.get id=some o → id ≠ s.next:=fun id o ho heq=>by
    have:=(hs.closed ho).2;omega
  have hblk:∀ id o,id ≠ s.next → blk ⟨s2,m2⟩ id o=blk c id o:=fun id o hid=>by
    simp only [blk];rw [hs2 _ _ hid]
  have hblk0:blk ⟨s2,m2⟩ s.next (.cells e cs false)=some k:=by simp only [blk,Obj.ver];rw [hse];rfl
  have hrep:aN ⟨s2,m2⟩ (.sl s.next e 0 n z) u:=by
    simp only [aN] at r ⊢
    obtain ⟨k',s',q,r1,r2,r3,r4⟩:=r
    rw [o1] at r1;simp only [Option.some.injEq,Prod.mk.injEq] at r1;obtain ⟨rfl,rfl⟩:=r1
    exact ⟨k,sz,q,hse,r2,r3,r4⟩
  refine ⟨.sl s.next e 0 n z,u,⟨s2,m2⟩,s.push (.cells e cs false),e1,hrep,⟨fun k o u hu=>?_,fun id o ho=>?_,fun id id' o o' k' ho ho' hb hb'=>?_,fun id e' hid=>?_,fun id o ho e' he'=>?_,fun b e' k' z' hb=>?_⟩,
    ⟨hle,h2.size,fun k hk _=>⟨hsame k hk,fun o=>hm2 k o hk⟩,fun k' hf=>?_,Nat.le_succ _,fun id hid _ e'=>hs2 id e' (by omega),fun id o ho=>?_,h2.os⟩,rfl,rfl⟩
  · simp only [m2] at hu
    split at hu
    · rename_i hk
      rw [hcell k o hk]
      exact hs.mem k o u hu
    · simp at hu
  · rw [St.bZ] at ho
    split at ho
    · rename_i hid;subst hid;cases ho
      refine ⟨k,sz,arr,el,fr,hse,o2,o3,o4,o5,fun i x hx=>?_,fun i=>?_⟩
      · obtain ⟨u',p1,p2,p3⟩:=o6 i x hx
        exact ⟨u',p1,p2,wI (CX hlit hx) p3⟩
      · show m2 k i=_
        simp only [m2]
        rw [if_neg (by omega)]
        simp
    · rename_i hid
      refine (hs.obj id o ho).move hle fun k hk=>?_
      have:=hlow _ _ _ ho hk
      exact ⟨hsame _ this,fun i=>hm2 _ i this⟩
  · rw [St.bZ] at ho ho'
    split at ho
    · rename_i hid;subst hid;cases ho
      split at ho'
      · rename_i hid';exact hid'
      · rw [hblk id' o' (hne _ _ ho')] at hb'
        have:=hlow _ _ _ ho' hb'
        rw [hblk0] at hb
        simp at hb;omega
    · split at ho'
      · rename_i hid';subst hid';cases ho'
        rw [hblk id o (hne _ _ ho)] at hb
        have:=hlow _ _ _ ho hb
        rw [hblk0] at hb'
        simp at hb';omega
      · rw [hblk id o (hne _ _ ho)] at hb
        rw [hblk id' o' (hne _ _ ho')] at hb'
        exact hs.inj id id' o o' k' ho ho' hb hb'
  · have hid':s.next + 1 ≤ id:=hid
    show s2 id e'=none
    rw [hs2 _ _ (by omega)]
    exact hs.fresh _ _ (by omega)
  · rw [St.bZ] at ho
    split at ho
    · rename_i hid;subst hid;cases ho
      show s2 s.next e'=none
      have:e < e':=he'
      simp only [s2]
      rw [if_neg (by omega)]
      exact hs.fresh _ _ (Nat.le_refl _)
    · show s2 id e'=none
      rw [hs2 _ _ (hne _ _ ho)]
      exact hs.top _ _ ho _ he'
  · have hb:s2 b e'=some (k',z'):=hb
    by_cases hbe:b=s.next ∧ e'=e
    · obtain ⟨rfl,rfl⟩:=hbe
      rw [hse] at hb;simp at hb;omega
    · simp only [s2] at hb
      rw [if_neg hbe] at hb
      exact Nat.lt_of_lt_of_le (hs.low _ _ _ _ hb) h2.size
  · obtain ⟨id,o,ho,hb⟩:=hf
    rw [St.bZ] at ho
    split at ho
    · rename_i hid;subst hid;cases ho
      rw [hblk0] at hb
      simp at hb;right;omega
    · rw [hblk id o (hne _ _ ho)] at hb
      exact .inl ⟨id,o,ho,hb⟩
  · rw [St.bZ] at ho
    split at ho
    · rename_i hid;subst hid;exact .inr (Nat.le_refl _)
    · exact .inl ⟨o,ho⟩
section
variable {P:Program}
end
end Go.AX
/- Ranges over functions: a round; the statement; a function that holds one. -/
namespace Go.AX
open Go
theorem Jt {c:Ctx} {s:St} {w w':World} (h:Sat c s w) (b:Go.RowKit.Below w.heap.size w w'):Sat c s w' ∧ Ext c s w c s w':=by
  have hlow:∀ id o k,s.get id=some o → AX.blk c id o=some k → k < w.heap.size:=fun id o k _ hb=>by
    simp only [AX.blk,Option.map_eq_some_iff] at hb
    obtain ⟨⟨k1,z1⟩,hs1,rfl⟩:=hb
    exact h.low _ _ _ _ hs1
  refine ⟨⟨fun k o u hu=>?_,fun id o ho=>?_,h.inj,h.fresh,h.top,fun b' e k z hs=>Nat.lt_of_lt_of_le (h.low _ _ _ _ hs) b.size⟩,
    ⟨Ctx.le_refl c,b.size,fun k hk _=>⟨b.block k hk,fun _=>rfl⟩,fun _ hf=>.inl hf,Nat.le_refl _,fun _ _ _ _=>rfl,fun _ o ho=>.inl ⟨o,ho⟩,⟨b.os,b.output,b.tape⟩⟩⟩
  · have hk:k < w.heap.size:=by
      rcases Nat.lt_or_ge k w.heap.size with hh | hh
      · exact hh
      · rw [h.qD hh] at hu;simp at hu
    rw [cell_of_heap (w:=w) (b.block k hk)];exact h.mem k o u hu
  · exact (h.obj id o ho).move (Ctx.le_refl c) fun k hk=>⟨b.block k (hlow _ _ _ ho hk),fun _=>rfl⟩
def Bh:Go.Obj → Bool
  | .loop _=>true
  | .deferred _=>true
  | _=>false
theorem JK {w:World} {l:Nat} {O:Go.Obj} (hl:w.heap[l]? = some O) (hn:Bh O=true) (i:Nat):w.cell? ⟨l,i,none⟩=none:=by
  cases O <;> simp [Bh] at hn <;> simp [World.cell?,hl]
theorem nk {c:Ctx} {s:St} {w:World} (h:Sat c s w) {l:Nat} {O O':Go.Obj} (hl:w.heap[l]? = some O) (hn:Bh O=true) (hf:¬ fp c s l):Sat c s (w.putObj l O'):=by
  have hother:∀ k,k ≠ l → (w.putObj l O').heap[k]? = w.heap[k]?:=fun k hk=>World.putObj_heap_other hk
  refine ⟨fun k o u hu=>?_,fun id o ho=>?_,h.inj,h.fresh,h.top,fun b e k z hs=>by rw [World.putObj_size];exact h.low _ _ _ _ hs⟩
  · obtain ⟨h1,h2⟩:=h.mem k o u hu
    have hk:k ≠ l:=fun e=>by subst e;rw [JK hl hn] at h1;simp at h1
    exact ⟨by rw [cell_of_heap (hother k hk)];exact h1,h2⟩
  · exact (h.obj id o ho).move (Ctx.le_refl c) fun k hk=>⟨hother k fun e=>hf ⟨id,o,ho,e ▸ hk⟩,fun _=>rfl⟩
theorem tQ (w:World) (l:Nat) (O:Go.Obj):fA w (w.putObj l O):=⟨rfl,rfl,rfl⟩
theorem FY {c c1 c3:Ctx} {s s1 s3:St} {w w1 w3:World} {l:Nat} {O O1:Go.Obj} (hl:w.heap[l]? = some O) (hf:¬ fp c s l) (h1:Ext c s w c1 s1 w1) (h3:Ext c1 s1 (w1.putObj l O1) c3 s3 w3):Ext c s w c3 s3 (w3.putObj l O):=by
  have hlt:l < w.heap.size:=(Array.getElem?_eq_some_iff.1 hl).1
  have hf1:¬ fp c1 s1 l:=fun hf1=>(h1.foot l hf1).elim hf fun hle=>by omega
  have hsz:w1.heap.size ≤ w3.heap.size:=by have:=h3.size;rwa [World.putObj_size] at this
  refine ⟨Ctx.le_trans h1.le h3.le,by rw [World.putObj_size];exact Nat.le_trans h1.size hsz,fun k hk hn=>?_,fun k hk=>?_,Nat.le_trans h1.next h3.next,fun id hid hno e=>?_,fun id o ho=>?_,?_⟩
  · have hn1:¬ fp c1 s1 k:=fun h=>(h1.foot k h).elim hn fun hle=>by omega
    obtain ⟨e1,m1⟩:=h1.same k hk hn
    obtain ⟨e3,m3⟩:=h3.same k (by rw [World.putObj_size];exact Nat.lt_of_lt_of_le hk h1.size) hn1
    refine ⟨?_,fun o=>(m3 o).trans (m1 o)⟩
    by_cases e:k=l
    · subst e
      rw [World.putObj_heap_same (Nat.lt_of_lt_of_le (Nat.lt_of_lt_of_le hk h1.size) hsz),hl]
    · rw [World.putObj_heap_other e,e3,World.putObj_heap_other e,e1]
  · rcases h3.foot k hk with h | h
    · exact h1.foot k h
    · rw [World.putObj_size] at h;exact .inr (Nat.le_trans h1.size h)
  · have hn1 : s1.get id = none := by
      cases hg:s1.get id with
      | none=>rfl
      | some o =>
        rcases h1.dom id o hg with ⟨o',ho'⟩ | hle
        · rw [hno] at ho';simp at ho'
        · omega
    exact (h3.sig id (Nat.lt_of_lt_of_le hid h1.next) hn1 e).trans (h1.sig id hid hno e)
  · rcases h3.dom id o ho with ⟨o',ho'⟩ | hle
    · exact h1.dom id o' ho'
    · exact .inr (Nat.le_trans h1.next hle)
  · exact (h1.os.trans (tQ _ _ _)).trans (h3.os.trans (tQ _ _ _))
theorem zY {c c':Ctx} {s s':St} {w w':World} {l:Nat} {O:Go.Obj} (h:Ext c s w c' s' w') (hl:w.heap.size ≤ l):Ext c s w c' s' (w'.putObj l O):=
  ⟨h.le,by rw [World.putObj_size];exact h.size,fun k hk hn=>⟨by rw [World.putObj_heap_other (by omega)];exact (h.same k hk hn).1,(h.same k hk hn).2⟩,h.foot,h.next,h.sig,h.dom,h.os.trans (tQ _ _ _)⟩
def uh (F:List AV) (ps:List Nat) (args:List AV):List AV:=(ps.zip args).foldl (fun F p=>F.set p.1 p.2) F
theorem zJ {c:Ctx}:∀ (ps:List Nat) (args:List AV) (vs:List Value) (F:List AV) (us:Array Value),aI c F us.toList → aI c args vs →
    aI c (uh F ps args) ((ps.zip vs).foldl (fun t p=>t.setIfInBounds p.1 p.2) us).toList
  | [],args,vs,F,us,hF,_=>by simpa [uh] using hF
  | p :: ps,[],vs,F,us,hF,ha=>by simp only [aI] at ha;subst ha;simpa [uh] using hF
  | p :: ps, x :: args, vs, F, us, hF, ha => by
    simp only [aI] at ha
    obtain ⟨v,vs',rfl,h1,h2⟩:=ha
    show aI c (uh (F.set p x) ps args) _
    exact zJ ps args vs' (F.set p x) (us.setIfInBounds p v) (by rw [Array.toList_setIfInBounds];exact hF.set p h1) h2
structure uL (P:Program) (rec:Loop) (us:List Value) (ps:List Nat) (ca cb:bM):Prop where
  tmps:us=rec.tmps.toList
  ready:rec.state=.ready
  pend:rec.pending=none
  params:rec.params.toList=ps
  assign:aV P rec.assign=some ca
  body:aV P rec.body=some cb
def fP (rec:Loop):Loop:={ rec with state:=.done,pending:=some .ret }
theorem JN {P:Program} {r l:Nat} {rec:Loop} {F:List AV} {us:List Value} {ps:List Nat} {args:List AV} {s:St} {R:AV → St → Prop} {ca cb:bM}
    (hr:s.get r=some (.raw l (.loop rec) F us)) (ok:uL P rec us ps ca cb) (hps:args.length=ps.length)
    (h:qF P ca (fun e F1 s1=>e=.normal ∧ qF P cb (fun e F2 s2=>(e=.normal ∧ R (.bool true) (s.join s2 [r])) ∨ (e=.ret ∧ R (.bool false) ((s.join s2 [r]).put r (.raw l (.loop (fP rec)) F us)))) F1 s1) (uh F ps args) (s.hide [r])) :
    iD P l args s R:=by
  intro ro c w vs hs hv
  obtain ⟨z,hσ,hL,hF,hm⟩:=hs.obj r _ hr
  have hvl:=hv.length
  have hpl:rec.params.size=ps.length:=by rw [← ok.params];simp
  refine ⟨rec.fn,_,rec.assign,rec.body,run_yield hL (by simp only [List.size_toArray];omega),?_⟩
  have hlt:l < w.heap.size:=hs.low _ _ _ _ hσ
  have hnfp:¬ fp c (s.hide [r]) l:=by
    rintro ⟨id,o,ho,hk⟩
    rw [St.bX] at ho
    split at ho
    · simp at ho
    · rename_i hne
      have:=hs.inj id r o _ l ho hr hk (by simp [blk,Obj.ver,hσ])
      subst this;simp at hne
  refine roundIn_of_wpIn (n:=0) trivial ?_
  have hT:aI c (uh F ps args) ((rec.params.zip vs.toArray).foldl (fun tmps p=>tmps.setIfInBounds p.1 p.2) rec.tmps).toList:=by
    have:=zJ (c:=c) ps args vs F rec.tmps (by rw [← ok.tmps];exact hF) hv
    rw [← ok.params] at this ⊢
    rw [← Array.foldl_toList,Array.toList_zip]
    exact this
  refine wpIn_mono (h rec.assign ok.assign (some l) [] c w _ (hs.hide [r]) hT rfl) fun e a1 w1 hp=>?_
  obtain ⟨hd1,c1,F1,s1,hF1,hs1,hx1,rfl,hbody⟩:=(lI hp).1
  have hl1:w1.heap[l]? = some (.loop rec):=(hx1.same l hlt hnfp).1.trans hL
  have hnfp1:¬ fp c1 s1 l:=fun hf=>(hx1.foot l hf).elim hnfp fun hle=>by omega
  have hlt1:l < w1.heap.size:=Nat.lt_of_lt_of_le hlt hx1.size
  refine ⟨_,run_beginRound hl1 ok.ready,?_⟩
  have hs2:Sat c1 s1 (w1.putObj l (.loop { rec with state:=.busy })):=nk hs1 hl1 rfl hnfp1
  refine wpIn_mono (hbody rec.body ok.body (some l) [] c1 _ a1 hs2 hF1 hd1) fun e2 a2 w3 hp2=>?_
  obtain ⟨hd2,c3,F3,s3,hF3,hs3,hx3,hR⟩:=(lI hp2).1
  have hl3:w3.heap[l]? = some (.loop { rec with state:=.busy }):=(hx3.same l (by rw [World.putObj_size];exact hlt1) hnfp1).1.trans (World.putObj_heap_same hlt1)
  have hnfp3:¬ fp c3 s3 l:=fun hf=>(hx3.foot l hf).elim hnfp1 fun hle=>by rw [World.putObj_size] at hle;omega
  have hlt3:l < w3.heap.size:=(Array.getElem?_eq_some_iff.1 hl3).1
  have hs4:Sat c3 s3 (w3.putObj l (.loop rec)):=nk hs3 hl3 rfl hnfp3
  have hx4:Ext c (s.hide [r]) w c3 s3 (w3.putObj l (.loop rec)):=FY hL hnfp hx1 hx3
  obtain ⟨hs5,hx5⟩:=hs.join [r] hs4 hx4
  rcases hR with ⟨rfl,hR⟩ | ⟨rfl,hR⟩
  · have e4:({ { rec with state:=.busy } with state:=if (none:Option Code).isNone then .ready else .done,pending:=none }:Loop)=rec:=by
      have h1:=ok.ready
      have h2:=ok.pend
      cases rec;simp only at h1 h2;subst h1;subst h2;rfl
    have hrun:=run_endRound (P:=P) none hl3
    rw [e4] at hrun
    exact ⟨_,_,hrun,.bool true,_,c3,_,rfl,by simp [aN],hs5,hx5,hR⟩
  · have hrun:=run_endRound (P:=P) (some .ret) hl3
    have e4:({ { rec with state:=.busy } with state:=if (some Code.ret:Option Code).isNone then .ready else .done,pending:=some .ret }:Loop)=fP rec:=rfl
    rw [e4] at hrun
    have hg5:(s.join s3 [r]).get r=some (.raw l (.loop rec) F us):=by
      rw [St.get_join,hr];simp
    have hσ3:c3.σ r 0=some (l,z):=hx4.le.1 _ _ _ hσ
    have hm3:∀ i,c3.m l i=none:=fun i=>by
      rw [(hx4.same l hlt hnfp).2 i,hm i]
    have hF5:aI c3 F us:=aI.mono hx4.le _ _ hF
    obtain ⟨hs6,hx6⟩:=hs5.Sq (w':=w3.putObj l (.loop (fP rec))) (O:=.loop (fP rec)) (o':=.raw l (.loop (fP rec)) F us) hg5 rfl rfl hσ3 hm3
      (fun hh=>⟨z,hσ3,hh,hF5,hm3⟩) (by simp [World.putObj]) ⟨rfl,rfl,rfl⟩
    exact ⟨_,_,hrun,.bool false,_,c3,_,rfl,by simp [aN],hs6,hx5.trans hx6,hR⟩
def Marks (B:Nat) (c:Ctx) (s:St) (w:World) (ds:List Deferred):Prop:=ds=[] ∨ ∃ D,ds=[{ target:=.collected D,args:=#[] }] ∧ B ≤ D ∧ w.heap[D]? = some (.deferred (some [])) ∧ ¬ fp c s D
theorem Marks.mono {B B':Nat} {c:Ctx} {s:St} {w:World} {ds:List Deferred} (h:Marks B c s w ds) (hb:B' ≤ B):Marks B' c s w ds:=h.imp id fun ⟨D,h1,h2,h3⟩=>⟨D,h1,Nat.le_trans hb h2,h3⟩
def Ij (c:Ctx) (s:St) (w:World) (Q:Exit → List AV → St → Prop) (e:Exit) (a':Act) (w':World):Prop:=
  ∃ c' F' s',Marks w.heap.size c' s' w' a'.defers ∧ aI c' F' a'.tmps.toList ∧ Sat c' s' w' ∧ Ext c s w c' s' w' ∧ Q e F' s'
def rJ (P:Program) (ac:bM) (Q:Exit → List AV → St → Prop) (F:List AV) (s:St):Prop:=
  ∀ code,aV P code=some ac → ∀ (c:Ctx) (w:World) (a:Act),Sat c s w → aI c F a.tmps.toList → a.defers=[] → code.wpIn (fw none) 0 P (Exit.noGoto (Ij c s w Q)) a w
theorem KE {B:Nat} {c c':Ctx} {s s':St} {w w':World} {ds:List Deferred} (h:Marks B c s w ds) (hx:Ext c s w c' s' w'):Marks B c' s' w' ds:=by
  rcases h with rfl | ⟨D,rfl,hB,h1,h2⟩
  · exact .inl rfl
  · have hlt:=(Array.getElem?_eq_some_iff.1 h1).1
    exact .inr ⟨D,rfl,hB,(hx.same D hlt h2).1.trans h1,fun hf=>(hx.foot D hf).elim h2 fun hle=>by omega⟩
theorem lN {P:Program} {ac:bM} {Q:Exit → List AV → St → Prop} {F:List AV} {s:St} (h:qF P ac Q F s):rJ P ac Q F s:=
  fun code hc c w a hs hF hd=>wpIn_mono (h code hc none [] c w a hs hF hd) fun e a' w' hp=>ku hp fun ⟨hd',c',F',s',h1,h2,h3,h4⟩=>⟨c',F',s',.inl hd',h1,h2,h3,h4⟩
theorem mO {P:Program} {ac:bM} {Q:Exit → List AV → St → Prop} {F:List AV} {s:St} (h:∀ code,fE code=false → aV P code=some ac → ∀ (c:Ctx) (w:World) (a:Act),Sat c s w → aI c F a.tmps.toList → a.defers=[] → code.wpIn (fw none) 0 P (Exit.noGoto (Ij c s w Q)) a w):rJ P ac Q F s:=by
  intro code
  induction code with
  | scope x ih =>
    intro hc c w a hs hF hd
    simp only [aV] at hc
    exact jR (wpIn_mono (ih hc c w a hs hF hd) fun e a' w' hp=>by cases e <;> exact hp)
  | _=>exact h _ rfl
theorem Jj {P:Program} {x y:bM} {Q:Exit → List AV → St → Prop} {F:List AV} {s:St} (h:qF P x (vS (rJ P y Q) Q) F s):rJ P (.seq x y) Q F s:=by
  refine mO fun code hns hc c w a hs hF hd=>?_
  cases code with
  | seq cx cy =>
    simp only [aV] at hc
    split at hc
    · rename_i x' y' hx hy
      simp at hc;obtain ⟨rfl,rfl⟩:=hc
      refine wpIn_seq (wpIn_mono (h cx hx none [] c w a hs hF hd) fun e a' w' hp=>?_)
      cases e with
      | normal =>
        obtain ⟨hd',c',F',s',h1,h2,h3,h4⟩:=hp
        simp only [vS] at h4
        exact wpIn_mono (h4 cy hy c' w' a' h2 h1 hd') fun e a2 w2 hp2=>ku hp2 fun ⟨c2,F2,s2,g0,g1,g2,g3,g4⟩=>⟨c2,F2,s2,g0.mono h3.size,g1,g2,h3.trans g3,g4⟩
      | goto l=>exact hp.elim
      | _=>obtain ⟨hd',c',F',s',h1,h2,h3,h4⟩:=hp;exact ⟨c',F',s',.inl hd',h1,h2,h3,h4⟩
    · simp at hc
  | region id ops draw=>rcases bS hc with ⟨_,h0,_⟩ | ⟨_,h0,_⟩ | ⟨_,_,h0,_⟩ <;> cases h0
  | rangeFunc f ps x y=>simp only [aV] at hc;split at hc <;> simp at hc
  | cond x y z=>simp only [aV] at hc;split at hc <;> simp at hc
  | block id x=>simp [aV] at hc
  | loop x=>simp [aV] at hc
  | scope x=>simp [fE] at hns
  | _=>simp [aV] at hc
theorem KG {P:Program} {x y:bM} {Q:Exit → List AV → St → Prop} {F:List AV} {s:St} (h:rJ P x (vS (qF P y Q) Q) F s):rJ P (.seq x y) Q F s:=by
  refine mO fun code hns hc c w a hs hF hd=>?_
  cases code with
  | seq cx cy =>
    simp only [aV] at hc
    split at hc
    · rename_i x' y' hx hy
      simp at hc;obtain ⟨rfl,rfl⟩:=hc
      refine wpIn_seq (wpIn_mono (h cx hx c w a hs hF hd) fun e a' w' hp=>?_)
      cases e with
      | normal =>
        obtain ⟨c',F',s',hm,h1,h2,h3,h4⟩:=hp
        simp only [vS] at h4
        exact wpIn_mono (h4 cy hy none a'.defers c' w' a' h2 h1 rfl) fun e a2 w2 hp2=>ku hp2 fun ⟨g0,c2,F2,s2,g1,g2,g3,g4⟩=>⟨c2,F2,s2,by rw [g0];exact KE hm g3,g1,g2,h3.trans g3,g4⟩
      | goto l=>exact hp.elim
      | _=>obtain ⟨c',F',s',hm,h1,h2,h3,h4⟩:=hp;exact ⟨c',F',s',hm,h1,h2,h3,h4⟩
    · simp at hc
  | region id ops draw=>rcases bS hc with ⟨_,h0,_⟩ | ⟨_,h0,_⟩ | ⟨_,_,h0,_⟩ <;> cases h0
  | rangeFunc f ps x y=>simp only [aV] at hc;split at hc <;> simp at hc
  | cond x y z=>simp only [aV] at hc;split at hc <;> simp at hc
  | block id x=>simp [aV] at hc
  | loop x=>simp [aV] at hc
  | scope x=>simp [fE] at hns
  | _=>simp [aV] at hc
theorem G9 {P:Program} {id:Nat} {x:bM} {Q:Exit → List AV → St → Prop} {F:List AV} {s:St} (h:rJ P x (oz id Q) F s):rJ P (.block id x) Q F s:=by
  refine mO fun code hns hc c w a hs hF hd=>?_
  cases code with
  | block i cx =>
    obtain ⟨x',h1,h2⟩:=omap (by simpa only [aV] using hc)
    simp at h2;obtain ⟨rfl,rfl⟩:=h2
    refine wpIn_block (wpIn_mono (h cx h1 c w a hs hF hd) fun e a' w' hp=>?_)
    cases e with
    | exit j =>
      obtain ⟨c',F',s',hm,h1,h2,h3,h4⟩:=hp
      simp only [Exit.inBlock,oz] at h4 ⊢
      split
      · rename_i hj;rw [if_pos hj] at h4;exact ⟨c',F',s',hm,h1,h2,h3,h4⟩
      · rename_i hj;rw [if_neg hj] at h4;exact ⟨c',F',s',hm,h1,h2,h3,h4⟩
    | goto l=>exact hp.elim
    | _=>obtain ⟨c',F',s',hm,h1,h2,h3,h4⟩:=hp;exact ⟨c',F',s',hm,h1,h2,h3,h4⟩
  | region id ops draw=>rcases bS hc with ⟨_,h0,_⟩ | ⟨_,h0,_⟩ | ⟨_,_,h0,_⟩ <;> cases h0
  | rangeFunc f ps x y=>simp only [aV] at hc;split at hc <;> simp at hc
  | seq x y=>simp only [aV] at hc;split at hc <;> simp at hc
  | cond x y z=>simp only [aV] at hc;split at hc <;> simp at hc
  | loop x=>simp [aV] at hc
  | scope x=>simp [fE] at hns
  | _=>simp [aV] at hc
end Go.AX
/- The statement that ranges over a function; a function that holds one; the walk. -/
namespace Go.AX
open Go
theorem FN {P:Program} {fo:AO} {ps:List Nat} {ca cb:bM} {Q:Exit → List AV → St → Prop} {F:List AV} {s:St} {gf:Nat} {caps:List AV} {R:Nat → Loop → List Value → St → Prop}
    (hev:fo.ev F=.fn (.func gf) [] caps)
    (hit:∀ l rec us,uL P rec us ps ca cb → aR P gf (.fn (.yield l) [] [] :: caps) (s.push (.raw l (.loop rec) F us)) fun _ s'=>R l rec us s')
    (hend:∀ l rec us s',uL P rec us ps ca cb → R l rec us s' → ∃ F2 us2,(s'.get s.next=some (.raw l (.loop rec) F2 us2) ∧ Q .normal F (s'.hide [s.next])) ∨ (s'.get s.next=some (.raw l (.loop (fP rec)) F2 us2) ∧ Q .ret F (s'.hide [s.next]))) :
    rJ P (.rangeF fo ps ca cb) Q F s:=by
  refine mO fun code hns hc c w a hs hF hd=>?_
  cases code with
  | rangeFunc g pa as bd =>
    simp only [aV] at hc
    split at hc
    · rename_i x x1 x2 hg has hbd
      simp only [Option.some.injEq,bM.rangeF.injEq] at hc
      obtain ⟨rfl,rfl,rfl,rfl⟩:=hc
      have hx:=gK hF g x hg
      rw [hev] at hx
      simp only [aN,aI] at hx
      obtain ⟨us0,ws,hv,rfl,hcaps⟩:=hx
      have hcall : ∃ fn, P.funcs[gf]? = some fn ∧ fn.body.isSome = true ∧ (fn.name == "runtime.NumGoroutine") = false := by
        have hd0:uL P { state:=.ready,pending:=none,fn:=0,tmps:=a.tmps,params:=pa,assign:=as,body:=bd,defers:=0 } a.tmps.toList pa.toList x1 x2:=⟨rfl,rfl,rfl,rfl,has,hbd⟩
        exact (hit 0 _ _ hd0).1
      refine wpIn_rangeFunc fun fn hfn=>?_
      obtain ⟨rec,hrec⟩:∃ rec:Loop,rec = { state:=.ready,pending:=none,fn,tmps:=a.tmps,params:=pa,assign:=as,body:=bd,defers:=w.heap.size }:=⟨_,rfl⟩
      have ok:uL P rec a.tmps.toList pa.toList x1 x2:=by subst hrec;exact ⟨rfl,rfl,rfl,rfl,has,hbd⟩
      obtain ⟨W0,hW0⟩:∃ W0,w.alloc (.deferred (some []))=W0:=⟨_,rfl⟩
      obtain ⟨W1,hW1⟩:∃ W1,W0.alloc (.loop rec)=W1:=⟨_,rfl⟩
      have hsz0:W0.heap.size=w.heap.size + 1:=by rw [← hW0];simp
      have hsz1:W1.heap.size=w.heap.size + 2:=by rw [← hW1];simp [hsz0]
      have hD0:W0.heap[w.heap.size]? = some (.deferred (some [])):=by rw [← hW0];exact World.alloc_heap_new w _
      have hD1:W1.heap[w.heap.size]? = some (.deferred (some [])):=by rw [← hW1];exact (Go.RowKit.Below.heap_alloc _ _ _ (by omega)).trans hD0
      have hL1:W1.heap[w.heap.size + 1]? = some (.loop rec):=by rw [← hW1,← hsz0];exact World.alloc_heap_new W0 _
      have hB0:Go.RowKit.Below w.heap.size w W0:=by rw [← hW0];exact (Go.RowKit.Below.refl _ w).alloc (Nat.le_refl _) _
      obtain ⟨hs0,hx0⟩:=Jt hs hB0
      obtain ⟨c1,hs1,hx1,hσ1⟩:=hs0.FB (w':=W1) (o':=.raw (w.heap.size + 1) (.loop rec) F a.tmps.toList) (O:=.loop rec) rfl
        (fun c' hle hσ hm=>⟨0,by rw [← hsz0];exact hσ,hL1,aI.mono hle _ _ hF,fun i=>by rw [← hsz0];exact hm i⟩) (by rw [← hW1];rfl) (by rw [← hW1];exact ⟨rfl,rfl,rfl⟩)
      have hx01:=hx0.trans hx1
      refine ⟨w.heap.size + 1,[{ target:=.collected w.heap.size,args:=#[] }],W1,{ target:=.fn (.func gf) ws.toArray,args:=#[.func (.yield (w.heap.size + 1)) #[] #[]] },W1,gf,
        #[.func (.yield (w.heap.size + 1)) #[] #[]] ++ ws.toArray,W1,?_,?_,fun _ _=>trivial,?_,fun h=>(by cases h),?_⟩
      · rw [← hW1,← hW0,hrec];exact run_enterLoop_outer _ _ _ _ _
      · simp only [resolve,hv]
        simp [go_sem]
      · simp [invoke,go_sem,nC hcall]
      · have hv1:aI c1 (.fn (.yield (w.heap.size + 1)) [] [] :: caps) (.func (.yield (w.heap.size + 1)) #[] #[] :: ws):=by
          simp only [aI]
          exact ⟨_,_,rfl,by simp [aN,aI],aI.mono hx01.le _ _ hcaps⟩
        have hA:=(hit (w.heap.size + 1) rec a.tmps.toList ok).2 c1 W1 _ hs1 hv1
        rw [show (#[.func (.yield (w.heap.size + 1)) #[] #[]] ++ ws.toArray:Array Value)=(.func (.yield (w.heap.size + 1)) #[] #[] :: ws).toArray from by apply Array.ext';simp]
        refine (Eu (n:=0 - 1) hA).mono fun e w3 hp=>?_
        obtain ⟨v,u,c3,s3,rfl,hvu,hs3,hx3,hR⟩:=hp
        have hnD1:¬ fp c1 (s.push (.raw (w.heap.size + 1) (.loop rec) F a.tmps.toList)) w.heap.size:=by
          rintro hf
          obtain ⟨id,o,ho,hk⟩:=hf
          rw [St.bZ] at ho
          split at ho
          · rename_i hid
            simp only [Option.some.injEq] at ho;subst ho
            simp only [blk,Obj.ver,← hid,hσ1,Option.map_some,Option.some.injEq] at hk
            omega
          · rename_i hid
            rcases hx01.foot w.heap.size ⟨id,o,by rw [St.bZ,if_neg hid];exact ho,hk⟩ with h | h
            · obtain ⟨id',o',ho',hk'⟩:=h
              simp only [blk,Option.map_eq_some_iff] at hk'
              obtain ⟨⟨k1,z1⟩,h1,h2⟩:=hk'
              have:=hs.low _ _ _ _ h1
              simp only at h2;omega
            · have hlow:=hs0.obj id o ho
              obtain ⟨k2,z2,hb⟩:=hlow.bound
              have h4:=hs.low _ _ _ _ hb
              have h5:c1.σ id o.ver=some (k2,z2):=hx01.le.1 _ _ _ hb
              simp only [blk,h5,Option.map_some,Option.some.injEq] at hk
              omega
        have hD3:w3.heap[w.heap.size]? = some (.deferred (some [])):=(hx3.same _ (by omega) hnD1).1.trans hD1
        have hnD3:¬ fp c3 s3 w.heap.size:=fun hf=>(hx3.foot _ hf).elim hnD1 fun hle=>by omega
        have hout:∀ (rec2:Loop) (F2:List AV) (us2:List Value) (O:Go.Obj),s3.get s.next=some (.raw (w.heap.size + 1) (.loop rec2) F2 us2) →
            w3.heap[w.heap.size + 1]? = some (.loop rec2) ∧ Marks w.heap.size c3 (s3.hide [s.next]) (w3.putObj (w.heap.size + 1) O) [{ target:=.collected w.heap.size,args:=#[] }] ∧ Sat c3 (s3.hide [s.next]) (w3.putObj (w.heap.size + 1) O) ∧ Ext c s w c3 (s3.hide [s.next]) (w3.putObj (w.heap.size + 1) O):=by
          intro rec2 F2 us2 O hg
          obtain ⟨z3,hσ3,hL3,_⟩:=hs3.obj _ _ hg
          obtain ⟨hs4,hx4⟩:=hs3.forget (s':=s3.hide [s.next]) (fun id o ho=>by rw [St.bX] at ho;split at ho <;> simp_all) (Nat.le_refl _)
          have hnL:¬ fp c3 (s3.hide [s.next]) (w.heap.size + 1):=by
            rintro ⟨id,o,ho,hk⟩
            rw [St.bX] at ho
            split at ho
            · simp at ho
            · rename_i hne
              have:=hs3.inj id s.next o _ _ ho hg hk (by simp [blk,Obj.ver,hσ3])
              subst this;simp at hne
          have hnD4:¬ fp c3 (s3.hide [s.next]) w.heap.size:=fun hf=>(hx4.foot _ hf).elim hnD3 fun hle=>by have:=hx3.size;omega
          exact ⟨hL3,.inr ⟨w.heap.size,rfl,Nat.le_refl _,by rw [World.putObj_heap_other (by omega)];exact hD3,hnD4⟩,nk hs4 hL3 rfl hnL,zY ((hx01.trans hx3).trans hx4) (by omega)⟩
        have hF3:aI c3 F a.tmps.toList:=aI.mono (hx01.trans hx3).le _ _ hF
        obtain ⟨F2,us2,⟨hg,hq⟩ | ⟨hg,hq⟩⟩:=hend _ rec _ s3 ok hR
        · obtain ⟨hL3,hm,hs5,hx5⟩:=hout rec F2 us2 (.loop { rec with state:=.exhausted,pending:=none }) hg
          have hrun:=run_endLoop (P:=P) hL3 (by rw [ok.ready];exact fun h=>by cases h)
          rw [ok.pend] at hrun
          refine ⟨_,_,hrun,?_⟩
          show Exit.noGoto (Ij c s w Q) .normal _ _
          exact ⟨c3,F,_,by rw [hd];exact hm,hF3,hs5,hx5,hq⟩
        · obtain ⟨hL3,hm,hs5,hx5⟩:=hout (fP rec) F2 us2 (.loop { fP rec with state:=.exhausted }) hg
          refine ⟨_,_,run_endLoop hL3 (fun h=>by cases h),?_⟩
          show Code.ret.wpIn (fw none) 0 P (Exit.noGoto (Ij c s w Q)) _ _
          exact wpIn_ret ⟨c3,F,_,by rw [hd];exact hm,hF3,hs5,hx5,hq⟩
    · simp at hc
  | region id ops draw=>rcases bS hc with ⟨_,h0,_⟩ | ⟨_,h0,_⟩ | ⟨_,_,h0,_⟩ <;> cases h0
  | seq x y=>simp only [aV] at hc;split at hc <;> simp at hc
  | cond x y z=>simp only [aV] at hc;split at hc <;> simp at hc
  | block id x=>simp [aV] at hc
  | loop x=>simp [aV] at hc
  | scope x=>simp [fE] at hns
  | _=>simp [aV] at hc
theorem Bu {P:Program} {f:FuncId} {af:aM} (hf:aL P f=some af) {args:List AV} {s:St} {R:AV → St → Prop} (h:rJ P af.body (Sg af.results R) (gG args af.ntmps) s):aR P f args s R:=by
  obtain ⟨fn,b,h1,h2,h3,h4,h5,h6⟩:=zR hf
  refine ⟨⟨fn,h1,by simp [h2],h6⟩,fun c w vs hs hv=>?_⟩
  refine callsIn_wide.1 (callsIn_of_wp_marks (F:=Fence.wide) (n:=0) h1 h2 trivial ?_ rfl)
  have hF:aI c (gG args af.ntmps) ((vs.toArray ++ Array.replicate (fn.ntmps - vs.toArray.size) undef).toList):=by
    simp only [gG,Array.toList_append,Array.toList_replicate]
    refine hv.append ?_
    have hl:=hv.length
    rw [h5,show vs.toArray.size=args.length by simpa using hl]
    have:∀ n,aI c (List.replicate n (.tup [])) (List.replicate n undef):=by
      intro n
      induction n with
      | zero=>simp [aI]
      | succ n ih=>simp only [List.replicate_succ,aI];exact ⟨_,_,rfl,by simp [aN,aI,undef],ih⟩
    exact this _
  refine wpIn_mono (h b h3 c w _ hs hF rfl) fun e a' w' hp=>?_
  replace hp:=(lI hp).1
  obtain ⟨c',F',s',hm,g1,g2,g3,he,v,hv,hR⟩:=hp
  have key:LeavesInM Fence.wide 0 P fn a'.tmps (fun e w'=>∃ v u c' s',e=.returned u ∧ aN c' v u ∧ Sat c' s' w' ∧ Ext c s w c' s' w' ∧ R v s') a'.defers .returning w':=by
    rcases hm with hd | ⟨D,hd,hB,hD,hnD⟩
    · rw [hd]
      obtain ⟨u,hu,hru⟩:=sS g2 g1 h4 hv
      exact ⟨u,hu,v,u,c',s',rfl,hru,g2,g3,hR⟩
    · rw [hd]
      have g2':Sat c' s' (w'.putObj D (.deferred none)):=nk g2 hD rfl hnD
      obtain ⟨u,hu,hru⟩:=sS g2' g1 h4 hv
      exact ⟨(fun h=>by cases h),.inl ⟨D,_,rfl,run_takeDeferred hD,u,hu,v,u,c',s',rfl,hru,g2',zY g3 hB,hR⟩⟩
  rcases he with rfl | rfl <;> exact key
end Go.AX
/- The walk through a function that ranges over one; the walk through a round. -/
namespace Go.AX
open Go
def JL:bM → Bool
  | .rangeF _ _ _ _=>true
  | .seq a b=>if JL a=true then true else JL b
  | .block _ a=>JL a
  | _=>false
def NT (P:Program) (N:Nat) (fo:AO) (ps:List Nat) (ca cb:bM) (Q:bY) (ρ:Env) (s:St):Prop:=
  ∃ gf caps, ∃ R : Nat → Loop → List Value → St → Prop, bF ρ fo = .fn (.func gf) [] caps ∧
    (∀ l rec us,uL P rec us ps ca cb → aR P gf (.fn (.yield l) [] [] :: caps) (s.push (.raw l (.loop rec) (gW N ρ) us)) fun _ s'=>R l rec us s') ∧
    ∀ l rec us s',uL P rec us ps ca cb → R l rec us s' → ∃ F2 us2,(s'.get s.next=some (.raw l (.loop rec) F2 us2) ∧ Q .normal ρ (s'.hide [s.next])) ∨ (s'.get s.next=some (.raw l (.loop (fP rec)) F2 us2) ∧ Q .ret ρ (s'.hide [s.next]))
def WO (P:Program) (C:Known) (N:Nat):bM → bY → Env → St → Prop
  | .seq a b,Q,ρ,s=>if JL a=true then WO P C N a (kP (W P C b Q) Q) ρ s else W P C a (kP (WO P C N b Q) Q) ρ s
  | .block id a,Q,ρ,s=>WO P C N a (gD id Q) ρ s
  | .rangeF fo ps ca cb,Q,ρ,s=>NT P N fo ps ca cb Q ρ s
  | c,Q,ρ,s=>W P C c Q ρ s
section
variable {P:Program} {C:Known} {N:Nat}
theorem rJ.mono {ac:bM} {Q Q':Exit → List AV → St → Prop} {F:List AV} {s:St} (h:rJ P ac Q F s) (hq:∀ e F s,Q e F s → Q' e F s):rJ P ac Q' F s:=
  fun code hc c w a hs hF hd=>wpIn_mono (h code hc c w a hs hF hd) fun e a' w' hp=>ku hp fun ⟨c',F',s',h0,h1,h2,h3,h4⟩=>⟨c',F',s',h0,h1,h2,h3,hq _ _ _ h4⟩
theorem rG (hmix:P.follows .mixedOrders=true) (hC:iV P C):∀ (c:bM) (Q:bY) (ρ:Env) (s:St),bR N c=true → WO P C N c Q ρ s → rJ P c (QF N Q) (gW N ρ) s
  | .seq a b, Q, ρ, s, hin, h => by
    simp only [bR,Bool.and_eq_true] at hin
    simp only [WO] at h
    split at h
    · refine KG ((rG hmix hC a _ ρ s hin.1 h).mono fun e F s hq=>?_)
      obtain ⟨ρ',rfl,hq⟩:=hq
      cases e with
      | normal=>exact dY hmix hC b Q ρ' s hin.2 hq
      | _=>exact ⟨ρ',rfl,hq⟩
    · refine Jj ((dY hmix hC a _ ρ s hin.1 h).mono fun e F s hq=>?_)
      obtain ⟨ρ',rfl,hq⟩:=hq
      cases e with
      | normal=>exact rG hmix hC b Q ρ' s hin.2 hq
      | _=>exact ⟨ρ',rfl,hq⟩
  | .block id a, Q, ρ, s, hin, h => by
    refine G9 ((rG hmix hC a _ ρ s (by simpa [bR] using hin) h).mono fun e F s hq=>?_)
    obtain ⟨ρ',rfl,hq⟩:=hq
    cases e with
    | exit i =>
      simp only [gD] at hq
      simp only [oz]
      split at hq
      · rename_i hi;rw [if_pos hi];exact ⟨ρ',rfl,hq⟩
      · rename_i hi;rw [if_neg hi];exact ⟨ρ',rfl,hq⟩
    | _=>exact ⟨ρ',rfl,hq⟩
  | .rangeF fo ps ca cb, Q, ρ, s, hin, h => by
    obtain ⟨gf,caps,R,h1,h2,h3⟩:=h
    simp only [bR,Bool.and_eq_true] at hin
    refine FN (R:=R) (by rw [aZ hin.1];exact h1) h2 fun l rec us s' ok hR=>?_
    obtain ⟨F2,us2,⟨g1,g2⟩ | ⟨g1,g2⟩⟩:=h3 l rec us s' ok hR
    · exact ⟨F2,us2,.inl ⟨g1,ρ,rfl,g2⟩⟩
    · exact ⟨F2,us2,.inr ⟨g1,ρ,rfl,g2⟩⟩
  | .skip,Q,ρ,s,hin,h=>lN (dY hmix hC .skip Q ρ s hin h)
  | .exit id,Q,ρ,s,hin,h=>lN (dY hmix hC (.exit id) Q ρ s hin h)
  | .ret,Q,ρ,s,hin,h=>lN (dY hmix hC .ret Q ρ s hin h)
  | .region l,Q,ρ,s,hin,h=>lN (dY hmix hC (.region l) Q ρ s hin h)
  | .draw m l,Q,ρ,s,hin,h=>lN (dY hmix hC (.draw m l) Q ρ s hin h)
  | .drawT m l r,Q,ρ,s,hin,h=>lN (dY hmix hC (.drawT m l r) Q ρ s hin h)
  | .cond c a b,Q,ρ,s,hin,h=>lN (dY hmix hC (.cond c a b) Q ρ s hin h)
  | .loop a,Q,ρ,s,hin,h=>lN (dY hmix hC (.loop a) Q ρ s hin h)
theorem LC (hmix:P.follows .mixedOrders=true) (hC:iV P C) {f:FuncId} {af:aM} (hf:aL P f=some af) (hin:(bR af.ntmps af.body && mg af.ntmps af.results)=true) {args:List AV} {s:St} {R:AV → St → Prop}
    (hl:args.length ≤ af.ntmps) (h:WO P C af.ntmps af.body (Cy af.results R) (uX args) s):aR P f args s R:=by
  simp only [Bool.and_eq_true] at hin
  refine Bu hf ?_
  rw [EX hl]
  refine (rG hmix hC af.body _ _ s hin.1 h).mono fun e F s hq=>?_
  obtain ⟨ρ,rfl,hq⟩:=hq
  have key:AZ af.results R ρ s → ∃ v,oG af.results (gW af.ntmps ρ) s.get=some v ∧ R v s:=fun h=>by
    unfold AZ at h
    split at h
    · rename_i vs hv
      refine ⟨oneOf vs,?_,h⟩
      simp only [oG]
      rw [vU _ hin.2,hv]
      cases vs with
      | nil=>rfl
      | cons v r=>cases r <;> rfl
    · exact h.elim
  cases e with
  | normal=>exact ⟨.inl rfl,key hq⟩
  | ret=>exact ⟨.inr rfl,key hq⟩
  | _=>exact hq.elim
theorem wB (hmix:P.follows .mixedOrders=true) {f:FuncId} {af:aM} (hf:aL P f=some af) (hin:(bR af.ntmps af.body && mg af.ntmps af.results)=true) {args:List AV} {v:AV}
    (hl:Nat.ble args.length af.ntmps=true) (hfa:ay args=true) (hfv:flat v=true) (h:WO P C0 af.ntmps af.body (Cy af.results fun v' s'=>dW s' v' v) (uX args) ⟨[],0⟩):aK P f args v:=
  ⟨aR.upd ((LC hmix (fH P) hf hin (Nat.le_of_ble_eq_true hl) h).mono fun v' s' hv=>by obtain ⟨s2,hu⟩:=oK hv;exact ⟨v,s2,hu,rfl⟩),hfa,hfv⟩
def xG (P:Program) (N:Nat) (fo:AO) (ps:List Nat) (ca cb:bM) (ρ:Env) (s:St) [Q:Qx]:Prop:=NT P N fo ps ca cb Q.q ρ s
theorem S9 (a b:bM) (Q:bY) (ρ:Env) (s:St):WO P C N (.seq a b) Q ρ s=if JL a=true then WO P C N a (kP (W P C b Q) Q) ρ s else W P C a (kP (WO P C N b Q) Q) ρ s:=rfl
theorem M5 (id:Nat) (a:bM) (Q:bY) (ρ:Env) (s:St):WO P C N (.block id a) Q ρ s=WO P C N a (gD id Q) ρ s:=rfl
theorem Ma (fo:AO) (ps:List Nat) (ca cb:bM) (Q:bY) (ρ:Env) (s:St):WO P C N (.rangeF fo ps ca cb) Q ρ s = @xG P N fo ps ca cb ρ s ⟨Q⟩:=rfl
def AA (ρ:Env) (ps:List Nat) (args:List AV):Env:=(ps.zip args).foldl (fun ρ p=>upd ρ p.1 p.2) ρ
theorem KI (ρ:Env) (ps:List Nat) (args:List AV):uh (gW N ρ) ps args=gW N (AA ρ ps args):=by
  unfold uh AA
  generalize ps.zip args=l
  induction l generalizing ρ with
  | nil=>rfl
  | cons p r ih =>
    simp only [List.foldl_cons]
    have:=vE N ρ (some p.1) p.2
    simp only [fD,xV] at this
    rw [this]
    exact ih _
def Ch (R:AV → St → Prop) (s:St) (r l:Nat) (rec:Loop) (F:List AV) (us:List Value):bY
  | .normal,_,s2=>R (.bool true) (s.join s2 [r])
  | .ret,_,s2=>R (.bool false) ((s.join s2 [r]).put r (.raw l (.loop (fP rec)) F us))
  | _,_,_=>False
theorem wJ (hmix:P.follows .mixedOrders=true) {ρ:Env} {r l:Nat} {rec:Loop} {us:List Value} {ps:List Nat} {args:List AV} {s:St} {R:AV → St → Prop} {ca cb:bM}
    (hr:s.get r=some (.raw l (.loop rec) (gW N ρ) us)) (ok:uL P rec us ps ca cb) (hps:args.length=ps.length) (hin:(bR N ca && bR N cb)=true)
    (h:W P C0 ca (kP (fun ρ1 s1=>W P C0 cb (Ch R s r l rec (gW N ρ) us) ρ1 s1) (fun _ _ _=>False)) (AA ρ ps args) (s.hide [r])):iD P l args s R:=by
  simp only [Bool.and_eq_true] at hin
  refine JN hr ok hps ?_
  rw [KI]
  refine (dY hmix (fH P) ca _ _ _ hin.1 h).mono fun e F1 s1 hq=>?_
  obtain ⟨ρ1,rfl,hq⟩:=hq
  cases e with
  | normal =>
    refine ⟨rfl,(dY hmix (fH P) cb _ _ _ hin.2 hq).mono fun e2 F2 s2 hq2=>?_⟩
    obtain ⟨ρ2,rfl,hq2⟩:=hq2
    cases e2 with
    | normal=>exact .inl ⟨rfl,hq2⟩
    | ret=>exact .inr ⟨rfl,hq2⟩
    | _=>exact hq2.elim
  | _=>exact hq.elim
end
attribute [go_sem ↓] S9 M5 Ma
attribute [go_sem] JL
end Go.AX
