/- From a call of abstract values to the row: nothing that was there has turned, so the arguments read as they did. -/
import Derived.Test.YtdeclhljkmlpiaaGreatAxD
import Derived.ProofKit
import Derived.JoinedCond
import Derived.RangeFuncLeaves
set_option linter.unusedSimpArgs false
set_option linter.unusedVariables false
namespace Go.AX
open Go Go.RowKit Go.ChangeShapes
class LK (W:World):Prop where
  ex:∃ n,W.cell? ⟨gM,0,none⟩=some (.int .i64 n)
def tq (W:World) [g:LK W]:Ctx:=⟨fun _ _=>none,fun k o=>(W.cell? ⟨k,o,none⟩).filter (·.oneCell'),by
  obtain ⟨n,hn⟩:=g.ex
  exact ⟨n,by simp [hn,Option.filter,Value.oneCell']⟩⟩
theorem Zf (W:World) [LK W]:Sat (tq W) ⟨[],0⟩ W where
  mem:=fun k o u h=>by
    simp only [tq,Option.filter_eq_some_iff] at h
    exact h
  obj:=fun id o h=>by simp [St.get,look] at h
  inj:=fun id id' o o' k h=>by simp [St.get,look] at h
  fresh:=fun _ _ _=>rfl
  top:=fun id o h=>by simp [St.get,look] at h
  low:=fun b e k z h=>by simp [tq] at h
theorem XQ {W:World} [LK W] {k o:Nat} {u:Value} (h:W.cell? ⟨k,o,none⟩=some u) (h1:u.oneCell'=true):(tq W).m k o=some u:=by
  simp [tq,h,Option.filter,h1]
theorem E8 {c c':Ctx} {s':St} {W W':World} (h:Ext c ⟨[],0⟩ W c' s' W'):Below W.heap.size W W' where
  os:=h.os.1
  tape:=h.os.2.2
  output:=h.os.2.1
  size:=h.size
  block:=fun k hk=>(h.same k hk (fun ⟨id,o,ho,_⟩=>by simp [St.get,look] at ho)).1
theorem mX {P:Program} {f:FuncId} {args:List AV} {vs:Array Value} {W:World} [LK W] (h:aF P f args ⟨[],0⟩ fun v _=>v=.bool true) (hv:aB (tq W) args vs.toList) :
    Calls P f vs W fun e W'=>e=.returned (.bool true) ∧ Below W.heap.size W W':=by
  have:=h.2 (tq W) W vs.toList (Zf W) hv
  rw [Array.toArray_toList] at this
  refine this.mono fun e W' ⟨v,u,c',s',h1,h2,h3,h4,h5⟩=>?_
  subst h5
  simp only [aD] at h2
  subst h2
  exact ⟨h1,E8 h4⟩
section
variable {H:Type} {enc:TypeId × Value → H} {P:Program}
theorem Below.trodAll (hl:laidOutB P=true) {W W':World} (hb:Below W.heap.size W W'):∀ {ts:List TypeId} {vs:List Value} {ds:List (DataW H)} {ps:List MemPlace},
    (ts.all fun t=>P.readableRec t && decide (t < P.types.size))=true → DataW.TrodAll enc P W 0 (fun _=>true) true ts vs ds ps → (∀ p ∈ ps,p.block < W.heap.size) →
    ∀ sp:Nat → Bool,(∀ p ∈ ps,sp p.block=true) → DataW.TrodAll enc P W' 0 sp true ts vs ds ps
  | [],[],[],ps,_,h,_,sp,_=>h
  | [],[],_ :: _,ps,_,h,_,sp,_=>h.elim
  | [],_ :: _,_,ps,_,h,_,sp,_=>h.elim
  | t :: ts,[],_,ps,_,h,_,sp,_=>h.elim
  | t :: ts,_ :: _,[],ps,_,h,_,sp,_=>h.elim
  | t :: ts, v :: vs, d :: ds, ps, ht, h, hlt, sp, hsp => by
    obtain ⟨p,q,h1,h2,rfl⟩:=h
    simp only [List.all_cons,Bool.and_eq_true,decide_eq_true_eq] at ht
    refine ⟨p,q,WideElems.Trod_stays hl ht.1.1 ht.1.2 h1 (fun x hx=>hb.same (hlt x (by simp [hx]))) (fun x hx=>hsp x (by simp [hx])),?_,rfl⟩
    exact Below.trodAll hl hb (by simpa using ht.2) h2 (fun x hx=>hlt x (by simp [hx])) sp (fun x hx=>hsp x (by simp [hx]))
theorem oh {f:Func} {s:ChangeSpec} {fresh handsOn again:Bool} {W W':World} {args:Array Value} {ds gs:List (DataW H)} {before:List MemPlace} {tb:TypeId}
    (hl:laidOutB P=true) (hts:(f.params.toList.all fun t=>P.readableRec t && decide (t < P.types.size))=true) (hvars:s.vars=[]) (hres:f.resultTypes = #[tb]) (htb:P.underlying tb=some .bool)
    (hfn:(s.fn H (ds ++ gs)).results=[.lit (.bool true)] ∧ (s.fn H (ds ++ gs)).args=ds ∧ (s.fn H (ds ++ gs)).vars=[])
    (hW:DataW.Whole enc P f.params.toList s.vars false W args.toList ds gs before) (hb:Below W.heap.size W W') :
    s.post enc P f false fresh handsOn again W args (.bool true) W':=by
  have hlt:∀ p ∈ before,p.block < W.heap.size:=fun p hp=>hW.lt p hp
  have hW':=hW
  obtain ⟨p,q,hA,hV,hpq,hz,_⟩:=hW'
  rw [hvars] at hV
  obtain ⟨rfl,rfl⟩:=trodVars_none hV
  simp only [List.append_nil] at hpq
  subst hpq
  have hold:∀ x ∈ before,(fun b=>decide (b < W.heap.size)) x.block=true:=fun x hx=>by simpa using hlt x hx
  have hargs:∀ sp:Nat → Bool,(∀ p ∈ before,sp p.block=true) → DataW.TrodAll enc P W' 0 sp true f.params.toList args.toList (s.fn H (ds ++ [])).args before:=fun sp hsp=>by
    rw [hfn.2.1];exact Below.trodAll hl hb hts hA hlt sp hsp
  have hvs:∀ sp:Nat → Bool,DataW.TrodVars enc P W' sp s.vars (s.fn H (ds ++ [])).vars []:=fun sp=>by
    rw [hvars,hfn.2.2];rfl
  have hrs:∀ (b:Nat) (sp:Nat → Bool) (hd:Bool),DataW.TrodAll enc P W' b sp hd f.resultTypes.toList ((Value.bool true).resultList f.resultTypes.size) (s.fn H (ds ++ [])).results []:=fun b sp hd=>by
    rw [hfn.1,hres]
    exact trodAll_mk1 (shut_bool htb true)
  refine ⟨ds,[],before,[],before,[],hW,hrs _ _ _,hargs _ hold,hvs _,World.keptBut_mono (fun p hp=>⟨hp,Or.inr (by simpa using hp)⟩) (hb.frame _),fun _=>?_⟩
  refine ⟨ok_one hres rfl (okWide_bool_mk htb true),_,_,([] ++ before) ++ [],⟨[] ++ before,[],trodAll_append (hargs _ (fun _ _=>rfl)) (hrs _ _ _),hvs _,rfl,?_,?_⟩,?_⟩
  · intro b off hp
    have hp':MemPlace.cell b off ∈ before:=by simpa using hp
    rw [hb.frozen (hlt _ hp')]
    exact hz b off hp'
  · intro ha;cases ha
  · intro p hp _
    simpa using hp
end
end Go.AX
/- A call of values without ids: what it does it does in every state, and the state stays as it is. -/
namespace Go.AX
open Go
mutual
def flat:AV → Bool
  | .ptr _ _ _=>false
  | .sl _ _ _ _ _=>false
  | .map _=>false
  | .agg xs=>aI xs
  | .tup xs=>aI xs
  | .vp xs=>aI xs
  | .ps _ xs=>aI xs
  | .fn _ xs ys=>aI xs && aI ys
  | .ifc _ x=>flat x
  | _=>true
def aI:List AV → Bool
  | []=>true
  | x :: r=>flat x && aI r
end
mutual
theorem aD.flat {c c':Ctx} (h:∀ k o u,c.m k o=some u → c'.m k o=some u):∀ (x:AV) (v:Value),flat x=true → aD c x v → aD c' x v
  | .bool _,_,_,r=>by simpa [aD] using r
  | .int _ _,_,_,r=>by simpa [aD] using r
  | .str _,_,_,r=>by simpa [aD] using r
  | .agg cs, _, hf, r => by
    simp only [aD] at r ⊢
    obtain ⟨us,e,r⟩:=r
    exact ⟨us,e,aB.flat h cs us (by simpa [Go.AX.flat] using hf) r⟩
  | .tup cs, _, hf, r => by
    simp only [aD] at r ⊢
    obtain ⟨us,e,r⟩:=r
    exact ⟨us,e,aB.flat h cs us (by simpa [Go.AX.flat] using hf) r⟩
  | .nilp,_,_,r=>by simpa [aD] using r
  | .ptr b e o,_,hf,r=>by simp [Go.AX.flat] at hf
  | .vp cs, _, hf, r => by
    simp only [aD] at r ⊢
    obtain ⟨k,o,e,r⟩:=r
    exact ⟨k,o,e,bG.flat h k o cs (by simpa [Go.AX.flat] using hf) r⟩
  | .nils,_,_,r=>by simpa [aD] using r
  | .sl b e o n z,_,hf,r=>by simp [Go.AX.flat] at hf
  | .ps n cs, _, hf, r => by
    simp only [aD] at r ⊢
    rcases r with r | ⟨k,o,q,e,hq,r⟩
    · exact .inl r
    · exact .inr ⟨k,o,q,e,hq,bG.flat h k o cs (by simpa [Go.AX.flat] using hf) r⟩
  | .nilf,_,_,r=>by simpa [aD] using r
  | .fn f xs ys, _, hf, r => by
    simp only [Go.AX.flat,Bool.and_eq_true] at hf
    simp only [aD] at r ⊢
    obtain ⟨us,ws,e,r1,r2⟩:=r
    exact ⟨us,ws,e,aB.flat h xs us hf.1 r1,aB.flat h ys ws hf.2 r2⟩
  | .nili,_,_,r=>by simpa [aD] using r
  | .ifc t x, _, hf, r => by
    simp only [aD] at r ⊢
    obtain ⟨u,e,r⟩:=r
    exact ⟨u,e,aD.flat h x u (by simpa [Go.AX.flat] using hf) r⟩
  | .nilm,_,_,r=>by simpa [aD] using r
  | .map r',_,hf,r=>by simp [Go.AX.flat] at hf
  | .any,_,_,_=>by simp [aD]
theorem aB.flat {c c':Ctx} (h:∀ k o u,c.m k o=some u → c'.m k o=some u):∀ (xs:List AV) (us:List Value),aI xs=true → aB c xs us → aB c' xs us
  | [],_,_,r=>by simpa [aB] using r
  | x :: xs, us, hf, r => by
    simp only [Go.AX.aI,Bool.and_eq_true] at hf
    simp only [aB] at r ⊢
    obtain ⟨u,us',e,r1,r2⟩:=r
    exact ⟨u,us',e,aD.flat h x u hf.1 r1,aB.flat h xs us' hf.2 r2⟩
theorem bG.flat {c c':Ctx} (h:∀ k o u,c.m k o=some u → c'.m k o=some u) (k:Nat):∀ (o:Nat) (xs:List AV),aI xs=true → bG c k o xs → bG c' k o xs
  | _,[],_,_=>by simp [bG]
  | o, x :: xs, hf, r => by
    simp only [Go.AX.aI,Bool.and_eq_true] at hf
    simp only [bG] at r ⊢
    obtain ⟨⟨u,e,r1⟩,r2⟩:=r
    exact ⟨⟨u,h _ _ _ e,aD.flat h x u hf.1 r1⟩,bG.flat h k (o + 1) xs hf.2 r2⟩
end
def Pure (P:Program) (f:FuncId) (args:List AV) (v:AV):Prop:=aF P f args ⟨[],0⟩ fun v' _=>v'=v
theorem Pure.any {P:Program} {f:FuncId} {args:List AV} {v:AV} (h:Pure P f args v) (ha:aI args=true) (hv:flat v=true) (s:St):aF P f args s fun v' s'=>v'=v ∧ s'=s:=by
  refine ⟨h.1,fun c w vs hs hr=>?_⟩
  have h0:Sat ⟨fun _ _=>none,c.m,c.gl⟩ ⟨[],0⟩ w:=⟨hs.mem,fun id o ho=>by simp [St.get,look] at ho,fun id id' o o' k ho=>by simp [St.get,look] at ho,fun _ _ _=>rfl,fun id o ho=>by simp [St.get,look] at ho,fun b e k z hb=>by simp at hb⟩
  refine (h.2 _ w vs h0 (aB.flat (c:=c) (c':=⟨fun _ _=>none,c.m,c.gl⟩) (fun _ _ _ h=>h) _ _ ha hr)).mono fun e w' ⟨v',u,c',s',e1,r,h1,h2,h3⟩=>?_
  subst h3
  have hsame:∀ k,k < w.heap.size → w'.heap[k]? = w.heap[k]? ∧ ∀ o,c'.m k o=c.m k o:=fun k hk=>h2.same k hk fun ⟨id,o,ho,_⟩=>by simp [St.get,look] at ho
  have hle:c.le ⟨c.σ,c'.m,c'.gl⟩:=⟨fun _ _ _ h=>h,h2.le.2⟩
  have hblk:∀ id o,blk ⟨c.σ,c'.m,c'.gl⟩ id o=blk c id o:=fun _ _=>rfl
  refine ⟨v',u,⟨c.σ,c'.m,c'.gl⟩,s,e1,aD.flat (c:=c') (c':=⟨c.σ,c'.m,c'.gl⟩) (fun _ _ _ h=>h) _ _ hv r,⟨h1.mem,fun id o ho=>?_,fun id id' o o' k ho ho'=>hs.inj id id' o o' k ho ho',hs.fresh,hs.top,fun b e k z hb=>?_⟩,
    ⟨hle,h2.size,fun k hk _=>hsame k hk,fun k hf=>.inl hf,Nat.le_refl _,fun _ _ _ _=>rfl,fun id o ho=>.inl ⟨o,ho⟩,h2.os⟩,rfl,rfl⟩
  · refine (hs.obj id o ho).move hle fun k hk=>?_
    simp only [blk,Option.map_eq_some_iff] at hk
    obtain ⟨⟨k1,z1⟩,hs1,rfl⟩:=hk
    exact hsame _ (hs.low _ _ _ _ hs1)
  · exact Nat.lt_of_lt_of_le (hs.low _ _ _ _ hb) h2.size
def bB (P:Program) (f:FuncId) (args:List AV) (v:AV):Prop:=Pure P f args v ∧ aI args=true ∧ flat v=true
end Go.AX
/- Walks with frames as functions: what is to be shown of a piece of code, as a proposition that unfolds. -/
namespace Go.AX
open Go
abbrev Env:=Nat → AV
def upd (ρ:Env) (k:Nat) (v:AV):Env:=fun i=>if i=k then v else ρ i
def oD (ρ:Env) (d:Option Nat) (v:AV):Env:=match d with
  | some d=>upd ρ d v
  | none=>ρ
def bD (ρ:Env):AO → AV
  | .t n=>ρ n
  | .k v=>v
def lN (N:Nat) (ρ:Env):List AV:=(List.range N).map ρ
theorem xY (N:Nat) (ρ:Env):(lN N ρ).length=N:=by simp [lN]
theorem rE {N:Nat} {ρ:Env} {i:Nat} (h:i < N):(lN N ρ)[i]? = some (ρ i):=by simp [lN,h]
theorem aV {N:Nat} {ρ:Env} {x:AO} (h:kP N x=true):x.ev (lN N ρ)=bD ρ x:=by
  cases x with
  | k v=>rfl
  | t n =>
    simp only [kP,decide_eq_true_eq] at h
    simp [AO.ev,bD,List.getD_eq_getElem?_getD,rE h]
theorem jF (N:Nat) (ρ:Env) (d:Option Nat) (v:AV):fQ (lN N ρ) d v=lN N (oD ρ d v):=by
  cases d with
  | none=>rfl
  | some k =>
    apply List.ext_getElem?
    intro i
    simp only [fQ,oD]
    by_cases hi:i < N
    · rw [rE hi]
      by_cases hk:k=i
      · subst hk;rw [List.getElem?_set_self (by simpa [xY] using hi)];simp [upd]
      · rw [List.getElem?_set_ne hk,rE hi];simp [upd,Ne.symm hk]
    · rw [List.getElem?_eq_none (by simp [xY];omega),List.getElem?_eq_none (by simp [xY];omega)]
theorem kG {N:Nat} {ρ:Env}:∀ {l:List AO},l.all (kP N)=true → l.map (AO.ev (lN N ρ))=l.map (bD ρ)
  | [],_=>rfl
  | x :: r, h => by
    simp only [List.all_cons,Bool.and_eq_true] at h
    simp only [List.map_cons]
    rw [aV h.1,kG h.2]
def kE (ρ:Env):jy → jy
  | .mv x=>.mv (.k (bD ρ x))
  | .pick c a b=>.pick (.k (bD ρ c)) (.k (bD ρ a)) (.k (bD ρ b))
  | .alloc z=>.alloc z
  | .cst v=>.cst v
  | .box x=>.box (.k (bD ρ x))
  | .build z ps=>.build z (ps.map fun p=>(p.1,p.2.1,.k (bD ρ p.2.2)))
  | .bslice z n e ps=>.bslice z n e (ps.map fun p=>(p.1,p.2.1,.k (bD ρ p.2.2)))
  | .load n a=>.load n (.k (bD ρ a))
  | .store n a x=>.store n (.k (bD ρ a)) (.k (bD ρ x))
  | .nilck x=>.nilck (.k (bD ρ x))
  | .bin op x y=>.bin op (.k (bD ρ x)) (.k (bD ρ y))
  | .eq neg q x y=>.eq neg q (.k (bD ρ x)) (.k (bD ρ y))
  | .un op x=>.un op (.k (bD ρ x))
  | .i2i k x=>.i2i k (.k (bD ρ x))
  | .s2s x=>.s2s (.k (bD ρ x))
  | .s2b x=>.s2b (.k (bD ρ x))
  | .b2s x=>.b2s (.k (bD ρ x))
  | .ifc q x=>.ifc q (.k (bD ρ x))
  | .mkfn f xs ys=>.mkfn f (xs.map fun x=>.k (bD ρ x)) (ys.map fun x=>.k (bD ρ x))
  | .slcS x lo hi=>.slcS (.k (bD ρ x)) (lo.map fun x=>.k (bD ρ x)) (hi.map fun x=>.k (bD ρ x))
  | .slc z x lo hi=>.slc z (.k (bD ρ x)) (lo.map fun x=>.k (bD ρ x)) (hi.map fun x=>.k (bD ρ x))
  | .faddr off x=>.faddr off (.k (bD ρ x))
  | .fld off q x=>.fld off q (.k (bD ρ x))
  | .iaddr arr z x i=>.iaddr arr z (.k (bD ρ x)) (.k (bD ρ i))
  | .sidx x i=>.sidx (.k (bD ρ x)) (.k (bD ρ i))
  | .aidx l z q x i=>.aidx l z q (.k (bD ρ x)) (.k (bD ρ i))
  | .ext i x=>.ext i (.k (bD ρ x))
  | .len x=>.len (.k (bD ρ x))
  | .lenS x=>.lenS (.k (bD ρ x))
  | .app z b s x y=>.app z b s (.k (bD ρ x)) (.k (bD ρ y))
  | .mkslice z b x y=>.mkslice z b (.k (bD ρ x)) (.k (bD ρ y))
  | .mm mx xs=>.mm mx (xs.map fun x=>.k (bD ρ x))
  | .bad=>.bad
  | .Fj x=>.Fj (.k (bD ρ x))
  | .mkmap=>.mkmap
  | .rng x=>.rng (.k (bD ρ x))
  | .nxt x=>.nxt (.k (bD ρ x))
  | .i2s x=>.i2s (.k (bD ρ x))
  | .clr z x=>.clr z (.k (bD ρ x))
  | .idxB x y=>.idxB (.k (bD ρ x)) (.k (bD ρ y))
  | .lkp tr z ok m k=>.lkp tr z ok (.k (bD ρ m)) (.k (bD ρ k))
  | .mup tr m k v=>.mup tr (.k (bD ρ m)) (.k (bD ρ k)) (.k (bD ρ v))
  | .call f xs=>.call f (xs.map fun x=>.k (bD ρ x))
  | .callv f xs=>.callv (.k (bD ρ f)) (xs.map fun x=>.k (bD ρ x))
  | .inv kg f xs=>.inv kg (.k (bD ρ f)) (xs.map fun x=>.k (bD ρ x))
  | .tas kg x=>.tas kg (.k (bD ρ x))
  | .cpy z d s=>.cpy z (.k (bD ρ d)) (.k (bD ρ s))
theorem uG {N:Nat} {ρ:Env}:∀ {l:List (Nat × Nat × AO)},(l.map (·.2.2)).all (kP N)=true →
    (l.map fun p=>(p.1,p.2.1,AO.k (bD ρ p.2.2))).map (fun p=>(p.1,p.2.1,p.2.2.ev []))=l.map (fun p=>(p.1,p.2.1,p.2.2.ev (lN N ρ))) ∧
    (l.map fun p=>(p.1,p.2.1,AO.k (bD ρ p.2.2))).map (fun p=>p.2.2.ev [])=l.map (fun p=>p.2.2.ev (lN N ρ)) ∧
    ∀ xs:List AV,(((l.map fun p=>(p.1,p.2.1,AO.k (bD ρ p.2.2))).zip xs).map fun p=>(p.1.1,p.1.2.1,p.2))=((l.zip xs).map fun p=>(p.1.1,p.1.2.1,p.2))
  | [],_=>⟨rfl,rfl,fun _=>rfl⟩
  | x :: r, hl => by
    simp only [List.map_cons,List.all_cons,Bool.and_eq_true] at hl
    obtain ⟨a,b,c⟩:=uG (ρ:=ρ) (l:=r) hl.2
    refine ⟨?_,?_,fun xs=>?_⟩
    · rw [List.map_cons,List.map_cons,a,List.map_cons]
      show (x.1,x.2.1,bD ρ x.2.2) :: _=_
      rw [aV hl.1]
    · rw [List.map_cons,List.map_cons,b,List.map_cons]
      show bD ρ x.2.2 :: _=_
      rw [aV hl.1]
    · cases xs with
      | nil=>rfl
      | cons y ys =>
        simp only [List.map_cons,List.zip_cons_cons]
        rw [c ys]
theorem ER {N:Nat} {ρ:Env} {l:List AO} (h:l.all (kP N)=true):(l.map fun x=>AO.k (bD ρ x)).map (AO.ev [])=l.map (AO.ev (lN N ρ)):=by
  rw [kG h,List.map_map];rfl
theorem yt {N:Nat} {ρ:Env} {x:Option AO} (hx:x.toList.all (kP N)=true) (n:Nat):bound (x.map fun y=>AO.k (bD ρ y)) [] n=bound x (lN N ρ) n:=by
  cases x with
  | none=>rfl
  | some y =>
    simp only [Option.toList_some,List.all_cons,List.all_nil,Bool.and_true] at hx
    simp only [Option.map_some,bound,dD]
    rw [aV hx]
theorem VQ {N:Nat} {ρ:Env} {o:jy} (ho:o.yE.all (kP N)=true) (g:Nat → Option Obj) (n:Nat):bn o (lN N ρ) g n=bn (kE ρ o) [] g n:=by
  cases o <;> simp only [jy.yE,List.all_cons,List.all_nil,Bool.and_eq_true,Bool.and_true] at ho
  case alloc=>rfl
  case cst=>rfl
  case bad=>rfl
  case Fj x=>rfl
  case mkmap=>rfl
  case rng x=>simp only [kE,bn,dD];rw [aV ho]
  case nxt x=>simp only [kE,bn,dD];rw [aV ho]
  case i2s x=>simp only [kE,bn,dD];rw [aV ho]
  case clr z x=>simp only [kE,bn,dD];rw [aV ho]
  case idxB x y=>simp only [kE,bn,dD];rw [aV ho.1,aV ho.2]
  case lkp tr z ok m k=>simp only [kE,bn,dD];rw [aV ho.1,aV ho.2];try rfl
  case mup tr m k v=>simp only [kE,bn,dD];rw [aV ho.1,aV ho.2.1,aV ho.2.2];try rfl
  case call=>rfl
  case callv=>rfl
  case inv=>rfl
  case tas kg x=>simp only [kE,bn,dD];rw [aV ho]
  case cpy z d s=>simp only [kE,bn,dD];rw [aV ho.1,aV ho.2]
  case pick c a b=>simp only [kE,bn,dD];rw [aV ho.1,aV ho.2.1,aV ho.2.2]
  case build z ps=>simp only [kE,bn];rw [(uG ho).1]
  case bslice z m e ps=>
    obtain ⟨a,b,c⟩:=uG (ρ:=ρ) ho
    simp only [kE,bn]
    rw [b]
    simp only [c]
  case mkfn f xs ys=>
    rw [List.all_append,Bool.and_eq_true] at ho
    simp only [kE,bn]
    rw [ER ho.1,ER ho.2]
  case slcS x lo hi=>
    simp only [List.all_append,Bool.and_eq_true] at ho
    simp only [kE,bn,dD,yt ho.2.1,yt ho.2.2,vw]
    rw [aV ho.1]
  case slc z x lo hi=>
    simp only [List.all_append,Bool.and_eq_true] at ho
    simp only [kE,bn,dD,yt ho.2.1,yt ho.2.2,vw]
    rw [aV ho.1]
  case mm mx xs=>simp only [kE,bn];rw [ER ho]
  case mv x=>simp only [kE,bn,dD];rw [aV ho]
  case box x=>simp only [kE,bn,dD];rw [aV ho];try rfl
  case load n a=>simp only [kE,bn,dD];rw [aV ho]
  case nilck a=>simp only [kE,bn,dD];rw [aV ho]
  case un op a=>simp only [kE,bn,dD];rw [aV ho]
  case i2i op a=>simp only [kE,bn,dD];rw [aV ho]
  case s2s a=>simp only [kE,bn,dD];rw [aV ho]
  case s2b a=>simp only [kE,bn,dD];rw [aV ho]
  case b2s a=>simp only [kE,bn,dD];rw [aV ho]
  case ifc q a=>simp only [kE,bn,dD];rw [aV ho]
  case faddr q a=>simp only [kE,bn,dD];rw [aV ho]
  case fld q n a=>simp only [kE,bn,dD];rw [aV ho]
  case ext i a=>simp only [kE,bn,dD];rw [aV ho]
  case len a=>simp only [kE,bn,dD];rw [aV ho]
  case lenS a=>simp only [kE,bn,dD];rw [aV ho]
  case store q a x=>simp only [kE,bn,dD];rw [aV ho.1,aV ho.2];try rfl
  case bin q a x=>simp only [kE,bn,dD];rw [aV ho.1,aV ho.2]
  case eq q n a x=>simp only [kE,bn,dD];rw [aV ho.1,aV ho.2]
  case iaddr q n a x=>simp only [kE,bn,dD];rw [aV ho.1,aV ho.2]
  case sidx a x=>simp only [kE,bn,dD];rw [aV ho.1,aV ho.2]
  case aidx q n m a x=>simp only [kE,bn,dD];rw [aV ho.1,aV ho.2]
  case app q n m a x=>simp only [kE,bn,dD];rw [aV ho.1,aV ho.2]
  case mkslice q n a x=>simp only [kE,bn,dD];rw [aV ho.1,aV ho.2]
end Go.AX
/- The walk: what is to be shown of a piece of code, and that it is enough. -/
namespace Go.AX
open Go
abbrev Known:=Nat → List AV → Option AV
def rQ (P:Program) (C:Known):Prop:=∀ f xs v,C f xs=some v → Pure P f xs v ∧ aI xs=true ∧ flat v=true
def V7 (P:Program) (f:Nat) (args:List AV) (s:St) (xs:List AV) (s':St) (K:AV → St → Prop):Prop:=
  aF P f args s K ∨ ∃ v,bB P f xs v ∧ K v s'
def pU (P:Program) (C:Known) (f:Nat) (args:List AV) (s:St) (K:AV → St → Prop):Prop:=
  match views s.get args with
  | some (xs, ps) => match C f xs with
    | some v=>K v (s.puts ps)
    | none=>V7 P f args s xs (s.puts ps) K
  | none=>aF P f args s K
def fq (P:Program) (C:Known) (ρ:Env) (s:St) (K:AV → St → Prop) (op:jy):Prop:=
  match op with
  | .call f args=>pU P C f (args.map (bD ρ)) s K
  | .callv f args => match bD ρ f with
    | .fn (.func g) first cap=>pU P C g (first ++ args.map (bD ρ) ++ cap) s K
    | .fn (.yield l) [] []=>pI P l (args.map (bD ρ)) s K
    | _=>False
  | .inv kg r args => match invK kg (bD ρ r) with
    | some (g,v)=>pU P C g (v :: args.map (bD ρ)) s K
    | none=>False
  | .eq neg t x y => match eqv t (bD ρ x) (bD ρ y) with
    | some b=>K (.bool (if neg then !b else b)) s
    | none=>YO t (bD ρ x) (bD ρ y)=true ∧ ∀ b,K (.bool b) s
  | op => match bn (kE ρ op) [] s.get s.next with
    | some (v,ps,qs)=>K v (s.apply ps qs)
    | none=>False
def guardE (ρ:Env) (X Y:Prop):Option (Option Nat × Bool) → Prop
  | none=>X
  | some (none,_)=>Y
  | some (some t, want) => match ρ t with
    | .bool b=>if b=want then X else Y
    | .any=>False
    | _=>Y
def opsE (P:Program) (C:Known) (K:Env → St → Prop):List aJ → Env → St → Prop
  | [],ρ,s=>K ρ s
  | o :: r,ρ,s=>guardE ρ (fq P C ρ s (fun v s'=>opsE P C K r (oD ρ o.dst v) s') o.op) (opsE P C K r (oD ρ o.dst (.tup [])) s) o.guard
def unseen (s:St) (ps:List (Nat × Obj)):List Nat:=(ps.filter fun p=>match s.get p.1 with
  | some (.cells _ _ sn)=>!sn
  | _=>true).map (·.1)
def Wf (s:St):Prop:=∀ id,s.next ≤ id → s.get id=none
def JL (P:Program) (f:Nat) (args:List AV) (s:St) (K:AV → St → Entry → Prop):Prop:=
  ∃ v s' Wr,aF P f args s (fun v' t=>v'=v ∧ t=s') ∧ Wf s ∧ s.next ≤ s'.next ∧ Wf s' ∧ ((∀ id ∈ Wr,id < s.next) ∧ ∀ id,id < s.next → id ∉ Wr → s'.get id=s.get id) ∧ K v s' ⟨List.range s.next,Wr,s.next,s'.next⟩
def ku (P:Program) (C:Known) (f:Nat) (args:List AV) (s:St) (K:AV → St → Entry → Prop):Prop:=
  match views s.get args with
  | some (xs, ps) => match C f xs with
    | some v=>(∀ id ∈ fF args,id < s.next) ∧ K v (s.puts ps) ⟨fF args,unseen s ps,s.next,s.next⟩
    | none=>(∃ v,bB P f xs v ∧ (∀ id ∈ fF args,id < s.next) ∧ K v (s.puts ps) ⟨fF args,unseen s ps,s.next,s.next⟩) ∨ JL P f args s K
  | none=>JL P f args s K
def eD (P:Program) (C:Known) (ρ:Env) (s:St) (K:AV → St → Entry → Prop) (op:jy):Prop:=
  match op with
  | .call f args=>ku P C f (args.map (bD ρ)) s K
  | .callv f args => match bD ρ f with
    | .fn (.func g) first cap=>ku P C g (first ++ args.map (bD ρ) ++ cap) s K
    | _=>False
  | .inv kg r args => match invK kg (bD ρ r) with
    | some (g,v)=>ku P C g (v :: args.map (bD ρ)) s K
    | none=>False
  | op => match bn (kE ρ op) [] s.get s.next with
    | some (v,ps,qs)=>(∀ id ∈ jX (kE ρ op) [],id < s.next) ∧ K v (s.apply ps qs) ⟨jX (kE ρ op) [],ps.map (·.1),s.next,(s.apply ps qs).next⟩
    | none=>False
def jr (P:Program) (C:Known) (K:Env → St → List Entry → Prop):List aJ → Env → St → List Entry → Prop
  | [],ρ,s,es=>K ρ s es
  | o :: r,ρ,s,es=>guardE ρ (eD P C ρ s (fun v s' e=>jr P C K r (oD ρ o.dst v) s' (es ++ [e])) o.op) (jr P C K r (oD ρ o.dst (.tup [])) s (es ++ [⟨[],[],s.next,s.next⟩])) o.guard
abbrev bV:=Exit → Env → St → Prop
def kF (K:Env → St → Prop) (Q:bV):bV
  | .normal,ρ,s=>K ρ s
  | e,ρ,s=>Q e ρ s
def gP (id:Nat) (Q:bV):bV
  | .exit i,ρ,s=>if i=id then Q .normal ρ s else Q (.exit i) ρ s
  | e,ρ,s=>Q e ρ s
def vB (body:bV → Env → St → Prop) (Q:bV):Nat → Env → St → Prop
  | 0,_,_=>False
  | n + 1,ρ,s=>body (kF (vB body Q n) Q) ρ s
def Lc (body:bV → Env → St → Prop) (Q:bV) (ρ:Env) (s:St):Prop:=∃ n,vB body Q n ρ s
def W (P:Program) (C:Known):bL → bV → Env → St → Prop
  | .skip,Q,ρ,s=>Q .normal ρ s
  | .region l,Q,ρ,s=>opsE P C (Q .normal) l ρ s
  | .draw m l,Q,ρ,s=>jr P C (fun ρ s es=>aM m es 0 es=true ∧ Q .normal ρ s) l ρ s []
  | .drawT m l r,Q,ρ,s=>jr P C (fun ρ s es=>aM m es 0 es=true ∧ opsE P C (Q .normal) r ρ s) l ρ s []
  | .rangeF _ _ _ _,_,_,_=>False
  | .seq a b,Q,ρ,s=>W P C a (kF (W P C b Q) Q) ρ s
  | .cond c a b, Q, ρ, s => match bD ρ c with
    | .bool t=>if t then W P C a Q ρ s else W P C b Q ρ s
    | _=>False
  | .block id a,Q,ρ,s=>W P C a (gP id Q) ρ s
  | .loop a,Q,ρ,s=>Lc (W P C a) Q ρ s
  | .exit id,Q,ρ,s=>Q (.exit id) ρ s
  | .ret,Q,ρ,s=>Q .ret ρ s
def QF (N:Nat) (Q:bV):Exit → List AV → St → Prop:=fun e F s=>∃ ρ,F=lN N ρ ∧ Q e ρ s
section
variable {P:Program} {C:Known} {N:Nat}
theorem q9 (hC:rQ P C) {f:Nat} {args:List AV} {s:St} {K:AV → St → Prop} (h:pU P C f args s K):aF P f args s K:=by
  unfold pU at h
  split at h
  · rename_i xs ps hv
    split at h
    · rename_i v hc
      obtain ⟨h1,h2,h3⟩:=hC _ _ _ hc
      refine aF.views hv ((h1.any h2 h3 (s.puts ps)).mono fun v' s' hh=>?_)
      obtain ⟨rfl,rfl⟩:=hh
      exact h
    · rcases h with h | ⟨v,⟨h1,h2,h3⟩,h⟩
      · exact h
      · refine aF.views hv ((h1.any h2 h3 (s.puts ps)).mono fun v' s' hh=>?_)
        obtain ⟨rfl,rfl⟩:=hh
        exact h
  · exact h
theorem YP {ρ:Env} {g:Option (Option Nat × Bool)} (hg:(match g with | some (some t,_)=>decide (t < N) | _=>true)=true) {X Y:Prop} (h:guardE ρ X Y g) :
    (gd (lN N ρ) g=some true ∧ X) ∨ (gd (lN N ρ) g=some false ∧ Y):=by
  unfold guardE at h
  split at h
  · exact .inl ⟨rfl,h⟩
  · exact .inr ⟨rfl,h⟩
  · rename_i t want
    simp only [decide_eq_true_eq] at hg
    have e:=rE (ρ:=ρ) hg
    split at h
    · rename_i b hb
      split at h
      · rename_i hw
        subst hw
        exact .inl ⟨by simp [gd,e,hb],h⟩
      · rename_i hw
        refine .inr ⟨?_,h⟩
        simp [gd,e,hb,hw]
    · exact h.elim
    · rename_i h1 h2
      refine .inr ⟨?_,h⟩
      simp only [gd,e]
theorem jL (hC:rQ P C) {Q:List AV → St → Prop} {K:Env → St → Prop} (hK:∀ ρ s,K ρ s → Q (lN N ρ) s):∀ (l:List aJ) (ρ:Env) (s:St),l.all (kT N)=true → opsE P C K l ρ s → gH P Q l (lN N ρ) s
  | [],ρ,s,_,h=>hK ρ s h
  | o :: r, ρ, s, hl, h => by
    simp only [List.all_cons,Bool.and_eq_true] at hl
    obtain ⟨ho1,ho2,ho3⟩:=nO hl.1
    have ih:=jL hC hK r
    simp only [opsE] at h
    simp only [gH]
    rcases YP ho3 h with ⟨hg,h⟩ | ⟨hg,h⟩
    · rw [hg]
      simp only
      have key:∀ v s',opsE P C K r (oD ρ o.dst v) s' → gH P Q r (fQ (lN N ρ) o.dst v) s':=fun v s' hh=>by
        rw [jF];exact ih _ _ hl.2 hh
      unfold fq at h
      split at h
      · rename_i f args hop
        rw [hop] at ho1
        have hm:args.all (kP N)=true:=ho1
        simp only [hop,dW,if_true,dP]
        rw [kG hm]
        exact (q9 hC h).mono fun v s'=>key v s'
      · rename_i f args hop
        rw [hop] at ho1
        simp only [jy.yE,List.all_cons,Bool.and_eq_true] at ho1
        simp only [hop,dW,if_true,dP]
        rw [kG ho1.2,aV ho1.1]
        split at h
        · rename_i g first cap hf
          rw [hf]
          exact (q9 hC h).mono fun v s'=>key v s'
        · rename_i l hf
          rw [hf]
          simp only [yieldOf,aV ho1.1,hf,kG ho1.2]
          exact h.mono fun v s'=>key v s'
        · exact h.elim
      · rename_i kg r args hop
        rw [hop] at ho1
        simp only [jy.yE,List.all_cons,Bool.and_eq_true] at ho1
        simp only [hop,dW,if_true,dP]
        rw [kG ho1.2,aV ho1.1]
        split at h
        · rename_i g v hf
          rw [hf]
          exact (q9 hC h).mono fun v s'=>key v s'
        · exact h.elim
      · rename_i neg t x y hop
        rw [hop] at ho1
        simp only [jy.yE,List.all_cons,List.all_nil,Bool.and_true,Bool.and_eq_true] at ho1
        simp only [hop,dW,Bool.false_eq_true,if_false,bn,wJ,aV ho1.1,aV ho1.2]
        split at h
        · rename_i b hb
          rw [hb]
          exact key _ _ h
        · rename_i hb
          rw [hb]
          exact ⟨h.1,fun b=>key _ _ (h.2 b)⟩
      · rename_i h1 h2 h3
        have hc:dW o.op=false:=by
          cases hop:o.op <;> simp [dW] <;> simp_all
        simp only [hc,Bool.false_eq_true,if_false]
        rw [VQ ho1]
        split at h
        · rename_i v ps qs hv
          rw [hv]
          exact key v _ h
        · exact h.elim
    · rw [hg]
      simp only
      rw [jF]
      exact ih _ _ hl.2 h
mutual
theorem Po {g:Nat → Option Obj}:∀ (x y:AV) (ps:List (Nat × Obj)),view g x=some (y,ps) → ∀ p ∈ ps,∃ e cs sn,g p.1=some (.cells e cs sn) ∧ p.2=.cells e cs true
  | .sl b e o m z, y, ps, h => by
    simp only [view] at h
    split at h
    · rename_i e' cs sn hg
      split at h
      · rename_i he
        simp only [Option.some.injEq,Prod.mk.injEq] at h
        obtain ⟨_,rfl⟩:=h
        intro p hp
        simp only [List.mem_singleton] at hp
        subst hp
        exact ⟨e',cs,sn,hg,by simp [he.1]⟩
      · simp at h
    · simp at h
  | .agg cs, y, ps, h => by
    simp only [view] at h
    split at h
    · rename_i xs q h1
      simp only [Option.some.injEq,Prod.mk.injEq] at h
      obtain ⟨_,rfl⟩:=h
      exact oH cs _ _ h1
    · simp at h
  | .tup cs, y, ps, h => by
    simp only [view] at h
    split at h
    · rename_i xs q h1
      simp only [Option.some.injEq,Prod.mk.injEq] at h
      obtain ⟨_,rfl⟩:=h
      exact oH cs _ _ h1
    · simp at h
  | .bool _,y,ps,h=>by simp [view] at h;simp [h.2]
  | .int _ _,y,ps,h=>by simp [view] at h;simp [h.2]
  | .str _,y,ps,h=>by simp [view] at h;simp [h.2]
  | .nilp,y,ps,h=>by simp [view] at h;simp [h.2]
  | .ptr _ _ _,y,ps,h=>by simp [view] at h;simp [h.2]
  | .vp _,y,ps,h=>by simp [view] at h;simp [h.2]
  | .nils,y,ps,h=>by simp [view] at h;simp [h.2]
  | .ps _ _,y,ps,h=>by simp [view] at h;simp [h.2]
  | .nilf,y,ps,h=>by simp [view] at h;simp [h.2]
  | .fn _ _ _,y,ps,h=>by simp [view] at h;simp [h.2]
  | .nili,y,ps,h=>by simp [view] at h;simp [h.2]
  | .ifc _ _,y,ps,h=>by simp [view] at h;simp [h.2]
  | .nilm,y,ps,h=>by simp [view] at h;simp [h.2]
  | .map _,y,ps,h=>by simp [view] at h;simp [h.2]
  | .any,y,ps,h=>by simp [view] at h;simp [h.2]
theorem oH {g:Nat → Option Obj}:∀ (xs ys:List AV) (ps:List (Nat × Obj)),views g xs=some (ys,ps) → ∀ p ∈ ps,∃ e cs sn,g p.1=some (.cells e cs sn) ∧ p.2=.cells e cs true
  | [],ys,ps,h=>by simp [views] at h;simp [h.2]
  | x :: r, ys, ps, h => by
    simp only [views] at h
    split at h
    · rename_i y p1 ys' q h1 h2
      simp only [Option.some.injEq,Prod.mk.injEq] at h
      obtain ⟨_,rfl⟩:=h
      intro p hp
      rcases List.mem_append.1 hp with hp | hp
      · exact Po x _ _ h1 p hp
      · exact oH r _ _ h2 p hp
    · simp at h
end
theorem CK (s0:St) (id:Nat):∀ (ps:List (Nat × Obj)) (s:St),s.get id=s0.get id → (∀ p ∈ ps,p.1=id → s0.get id=some p.2) → (∀ p ∈ ps,∃ o,s.get p.1=some o) → (s.puts ps).get id=s0.get id
  | [],s,h,_,_=>h
  | p :: r, s, h, hp, hd => by
    show ((s.put p.1 p.2).puts r).get id=_
    obtain ⟨o,ho⟩:=hd p (by simp)
    refine CK s0 id r _ ?_ (fun q hq=>hp q (by simp [hq])) fun q hq=>?_
    · rw [St.get_put ho]
      split
      · rename_i he;exact (hp p (by simp) he).symm
      · exact h
    · obtain ⟨o2,ho2⟩:=hd q (by simp [hq])
      rw [St.get_put ho]
      split
      · exact ⟨_,rfl⟩
      · exact ⟨o2,ho2⟩
theorem wL {o:aJ} {F:List AV} {s:St} {f:Nat} {args xs:List AV} {ps:List (Nat × Obj)} {v:AV} (hg:gd F o.guard=some true) (hc:dW o.op=true) (hco:dP F o.op=some (f,args))
    (hv:views s.get args=some (xs,ps)) (hk:bB P f xs v) (hD:∀ id ∈ fF args,id < s.next) :
    uP P o F s ⟨fF args,unseen s ps,s.next,s.next⟩ (fQ F o.dst v) (s.puts ps):=by
  obtain ⟨k1,k2,k3⟩:=hk
  have hids:=oK args xs ps hv
  obtain ⟨h1,h2,h3,h4⟩:=zT s (fF args) ps [] (fun p hp=>by simpa using hids p hp)
  have hnext:∀ (ps:List (Nat × Obj)) (s:St),(s.puts ps).next=s.next:=by
    intro ps
    induction ps with
    | nil=>intro s;rfl
    | cons p r ih=>intro s;exact (ih _).trans rfl
  have hget:∀ id,id ∈ fF args → (s.keep (fF args)).get id=s.get id:=fun id hid=>by rw [St.nu,if_pos (by simpa using hid)]
  have hv2:views (s.keep (fF args)).get args=some (xs,ps):=by rw [← hv];exact kZ args fun id hid=>hget id hid
  refine ⟨rfl,(hnext ps s).symm,Nat.le_refl _,hD,fun id hid=>?_,.inr ⟨hg,v,(s.keep (fF args)).puts ps,rfl,?_,(hnext ps _).trans rfl,fun id=>?_,fun id hid hne=>?_⟩⟩
  · simp only [unseen,List.mem_map,List.mem_filter] at hid
    obtain ⟨p,⟨hp,_⟩,rfl⟩:=hid
    exact hids p hp
  · unfold OO
    rw [if_pos hc]
    exact ⟨f,args,hco,aF.views hv2 (k1.any k2 k3 _)⟩
  · have:=h3 id
    rw [show (s.apply ps [])=s.puts ps from rfl,hnext] at this
    exact this
  · refine (CK (s.keep (fF args)) id ps _ rfl (fun p hp he=>?_) fun p hp=>?_).trans (hget id hid)
    · obtain ⟨e,cs,sn,g1,g2⟩:=oH args xs ps hv p hp
      have:sn=true:=by
        cases sn with
        | true=>rfl
        | false =>
          refine (hne ?_).elim
          simp only [unseen,List.mem_map,List.mem_filter]
          exact ⟨p,⟨hp,by rw [g1];rfl⟩,he⟩
      subst this
      rw [hget id hid,← he,g1,g2]
    · obtain ⟨e,cs,sn,g1,g2⟩:=oH args xs ps hv p hp
      exact ⟨_,(hget p.1 (hids p hp)).trans g1⟩
theorem Ic {f:FuncId} {args:List AV} {s:St} {R:AV → St → Prop} (hw:Wf s) (h:aF P f args s R):aF P f args (s.keep (List.range s.next)) R:=by
  have hg:∀ id,(s.keep (List.range s.next)).get id=s.get id:=fun id=>by
    rw [St.nu]
    by_cases hid:id < s.next
    · rw [if_pos (by simpa using hid)]
    · rw [if_neg (by simpa using hid),hw id (by omega)]
  refine ⟨h.1,fun c w vs hs hr=>?_⟩
  have hs':Sat c s w:=⟨hs.mem,fun id o ho=>hs.obj id o (by rw [hg];exact ho),fun id id' o o' k h1 h2=>hs.inj id id' o o' k (by rw [hg];exact h1) (by rw [hg];exact h2),hs.fresh,fun id o ho=>hs.top id o (by rw [hg];exact ho),hs.low⟩
  refine (h.2 c w vs hs' hr).mono fun e w' ⟨v,u,c',s',h1,h2,h3,h4,h5⟩=>⟨v,u,c',s',h1,h2,h3,?_,h5⟩
  have hfp:∀ k,fp c (s.keep (List.range s.next)) k ↔ fp c s k:=fun k=>by
    unfold fp;simp only [hg]
  exact ⟨h4.le,h4.size,fun k hk hn=>h4.same k hk (fun hf=>hn ((hfp k).2 hf)),fun k hf=>(h4.foot k hf).elim (fun hf=>.inl ((hfp k).2 hf)) .inr,h4.next,fun id hid hn e=>h4.sig id hid (by rw [← hg];exact hn) e,fun id o ho=>(h4.dom id o ho).elim (fun ⟨o',ho'⟩=>.inl ⟨o',by rw [hg];exact ho'⟩) .inr,h4.os⟩
theorem Nf {o:aJ} {F:List AV} {s s':St} {f:Nat} {args:List AV} {v:AV} (hg:gd F o.guard=some true) (hc:dW o.op=true) (hco:dP F o.op=some (f,args))
    (h:aF P f args s (fun v' t=>v'=v ∧ t=s')) (hw:Wf s) (hn:s.next ≤ s'.next) (hw':Wf s') {Wr:List Nat} (hW:(∀ id ∈ Wr,id < s.next) ∧ ∀ id,id < s.next → id ∉ Wr → s'.get id=s.get id) :
    uP P o F s ⟨List.range s.next,Wr,s.next,s'.next⟩ (fQ F o.dst v) s':=by
  refine ⟨rfl,rfl,hn,fun id hid=>by simpa using hid,fun id hid=>by simpa using hW.1 id hid,.inr ⟨hg,v,s',rfl,?_,rfl,fun id=>?_,fun id hid hne=>hW.2 id (by simpa using hid) hne⟩⟩
  · unfold OO
    rw [if_pos hc]
    exact ⟨f,args,hco,Ic hw h⟩
  · split
    · rfl
    · rename_i hnot
      simp only [Bool.or_eq_true,Bool.and_eq_true,decide_eq_true_eq,List.contains_iff_mem,List.mem_range] at hnot
      have h1:¬ id < s.next:=fun h=>hnot (.inl h)
      have h2:¬ id < s'.next:=fun h=>hnot (.inr ⟨by omega,h⟩)
      rw [hw id (by omega),hw' id (by omega)]
end
end Go.AX
/- The walk is enough; loops; functions. -/
namespace Go.AX
open Go
section
variable {P:Program} {C:Known} {N:Nat}
theorem Wt {ρ:Env} {o:jy} (ho:o.yE.all (kP N)=true):jX o (lN N ρ)=jX (kE ρ o) []:=by
  cases o <;> (try rfl) <;> simp only [jy.yE,List.all_cons,List.all_nil,Bool.and_eq_true,Bool.and_true] at ho
  case load q a=>simp only [jX,kE,dD];rw [aV ho]
  case store q a x=>simp only [jX,kE,dD];rw [aV ho.1]
  case bslice z m e ps=>simp only [jX,kE];rw [(uG ho).2.1]
  case b2s x=>simp only [jX,kE,dD];rw [aV ho]
  case nxt x=>simp only [jX,kE,dD];rw [aV ho]
  case clr z x=>simp only [jX,kE,dD];rw [aV ho]
  case lkp tr z ok m k=>simp only [jX,kE,dD];rw [aV ho.1]
  case mup tr m k v=>simp only [jX,kE,dD];rw [aV ho.1]
  case app z b st x y=>simp only [jX,kE,dD];rw [aV ho.1,aV ho.2]
  case cpy z d s=>simp only [jX,kE,dD];rw [aV ho.1,aV ho.2]
theorem nM (hC:rQ P C) {K:Env → St → List Entry → Prop}:∀ (l:List aJ) (ρ:Env) (s:St) (es:List Entry),l.all (kT N)=true → jr P C K l ρ s es →
    ∃ ρ' s' es',Aj P l (lN N ρ) s (lN N ρ') s' es' ∧ K ρ' s' (es ++ es')
  | [],ρ,s,es,_,h=>⟨ρ,s,[],⟨rfl,rfl,rfl⟩,by rw [List.append_nil];exact h⟩
  | o :: r, ρ, s, es, hl, h => by
    simp only [List.all_cons,Bool.and_eq_true] at hl
    obtain ⟨ho1,ho2,ho3⟩:=nO hl.1
    simp only [jr] at h
    have key:∀ (v:AV) (s1:St) (e:Entry),uP P o (lN N ρ) s e (fQ (lN N ρ) o.dst v) s1 → jr P C K r (oD ρ o.dst v) s1 (es ++ [e]) → ∃ ρ' s' es',Aj P (o :: r) (lN N ρ) s (lN N ρ') s' es' ∧ K ρ' s' (es ++ es'):=fun v s1 e ht hd=>by
      obtain ⟨ρ',s',es',h1,h2⟩:=nM hC r _ _ _ hl.2 hd
      refine ⟨ρ',s',e :: es',⟨_,s1,e,es',rfl,ht,?_⟩,by simpa using h2⟩
      rw [jF];exact h1
    rcases YP ho3 h with ⟨hg,h⟩ | ⟨hg,h⟩
    · have hdc : ∀ (f : Nat) (args : List AV), dW o.op = true → dP (lN N ρ) o.op = some (f, args) → ku P C f args s (fun v s' e => jr P C K r (oD ρ o.dst v) s' (es ++ [e])) → ∃ ρ' s' es', Aj P (o :: r) (lN N ρ) s (lN N ρ') s' es' ∧ K ρ' s' (es ++ es') := fun f args hic hco h => by
        have gen:JL P f args s (fun v s' e=>jr P C K r (oD ρ o.dst v) s' (es ++ [e])) → ∃ ρ' s' es',Aj P (o :: r) (lN N ρ) s (lN N ρ') s' es' ∧ K ρ' s' (es ++ es'):=fun h=>by
          obtain ⟨v,s',Wr,h1,h2,h3,h4,hW,h5⟩:=h
          exact key v _ _ (Nf hg hic hco h1 h2 h3 h4 hW) h5
        unfold ku at h
        split at h
        · rename_i xs ps hv
          split at h
          · rename_i v hk
            obtain ⟨hD,h⟩:=h
            exact key v _ _ (wL hg hic hco hv (hC _ _ _ hk) hD) h
          · rcases h with ⟨v,hk,hD,h⟩ | h
            · exact key v _ _ (wL hg hic hco hv hk hD) h
            · exact gen h
        · exact gen h
      unfold eD at h
      split at h
      · rename_i f args hop
        rw [hop] at ho1
        have hm:args.all (kP N)=true:=ho1
        exact hdc f _ (by rw [hop];rfl) (by rw [hop];simp only [dP];rw [kG hm]) h
      · rename_i f args hop
        rw [hop] at ho1
        simp only [jy.yE,List.all_cons,Bool.and_eq_true] at ho1
        split at h
        · rename_i g first cap hf
          exact hdc g _ (by rw [hop];rfl) (by rw [hop];simp only [dP];rw [kG ho1.2,aV ho1.1,hf]) h
        · exact h.elim
      · rename_i kg ro args hop
        rw [hop] at ho1
        simp only [jy.yE,List.all_cons,Bool.and_eq_true] at ho1
        split at h
        · rename_i g v hf
          exact hdc g _ (by rw [hop];rfl) (by rw [hop];simp only [dP];rw [kG ho1.2,aV ho1.1,hf]) h
        · exact h.elim
      · rename_i h1 h2 h3
        have hc:dW o.op=false:=by
          cases hop:o.op <;> simp [dW] <;> simp_all
        split at h
        · rename_i v ps qs hv
          obtain ⟨hD,h⟩:=h
          rw [← VQ ho1] at hv
          have ht:=FV (P:=P) hg hc hv (by rw [Wt ho1];exact hD)
          rw [Wt ho1] at ht
          exact key v _ _ ht h
        · exact h.elim
    · exact key (.tup []) s ⟨[],[],s.next,s.next⟩ ⟨rfl,rfl,Nat.le_refl _,by simp,by simp,.inl ⟨hg,rfl,rfl,rfl⟩⟩ h
theorem jD (hmix:P.follows .mixedOrders=true) (hC:rQ P C):∀ (c:bL) (Q:bV) (ρ:Env) (s:St),dU N c=true → W P C c Q ρ s → q8 P c (QF N Q) (lN N ρ) s
  | .skip,Q,ρ,s,_,h=>zC ⟨ρ,rfl,h⟩
  | .exit id,Q,ρ,s,_,h=>zQ ⟨ρ,rfl,h⟩
  | .ret,Q,ρ,s,_,h=>Fa ⟨ρ,rfl,h⟩
  | .region l,Q,ρ,s,hin,h=>yV (jL hC (fun ρ s hh=>⟨ρ,rfl,hh⟩) l ρ s (by simpa [dU] using hin) h)
  | .draw m l, Q, ρ, s, hin, h => by
    obtain ⟨ρ',s',es',h1,h2⟩:=nM hC l ρ s [] (by simpa [dU] using hin) h
    simp only [List.nil_append] at h2
    exact Fw hmix h1 h2.1 ⟨ρ',rfl,h2.2⟩
  | .drawT m l r, Q, ρ, s, hin, h => by
    simp only [dU,Bool.and_eq_true] at hin
    obtain ⟨ρ',s',es',h1,h2⟩:=nM hC l ρ s [] hin.1 h
    simp only [List.nil_append] at h2
    exact C8 hmix h1 h2.1 (jL hC (fun ρ s hh=>⟨ρ,rfl,hh⟩) r ρ' s' hin.2 h2.2)
  | .rangeF _ _ _ _,Q,ρ,s,hin,h=>h.elim
  | .seq a b, Q, ρ, s, hin, h => by
    simp only [dU,Bool.and_eq_true] at hin
    refine DW ((jD hmix hC a _ ρ s hin.1 h).mono fun e F s hq=>?_)
    obtain ⟨ρ',rfl,hq⟩:=hq
    cases e with
    | normal=>exact jD hmix hC b Q ρ' s hin.2 hq
    | _=>exact ⟨ρ',rfl,hq⟩
  | .cond c a b, Q, ρ, s, hin, h => by
    simp only [dU,Bool.and_eq_true] at hin
    simp only [W] at h
    split at h
    · rename_i t ht
      refine A9 (t:=t) (by rw [aV hin.1];exact ht) ?_
      cases t with
      | true=>exact jD hmix hC a Q ρ s hin.2.1 (by simpa using h)
      | false=>exact jD hmix hC b Q ρ s hin.2.2 (by simpa using h)
    · exact h.elim
  | .block id a, Q, ρ, s, hin, h => by
    refine vH ((jD hmix hC a _ ρ s (by simpa [dU] using hin) h).mono fun e F s hq=>?_)
    obtain ⟨ρ',rfl,hq⟩:=hq
    cases e with
    | exit i =>
      simp only [gP] at hq
      simp only [wh]
      split at hq
      · rename_i hi;rw [if_pos hi];exact ⟨ρ',rfl,hq⟩
      · rename_i hi;rw [if_neg hi];exact ⟨ρ',rfl,hq⟩
    | _=>exact ⟨ρ',rfl,hq⟩
  | .loop a, Q, ρ, s, hin, h => by
    obtain ⟨n,h⟩:=h
    refine yS n ?_
    have key:∀ (n:Nat) (ρ:Env) (s:St),vB (W P C a) Q n ρ s → LoopN P a (QF N Q) n (lN N ρ) s:=by
      intro n
      induction n with
      | zero=>intro ρ s h;exact h.elim
      | succ n ih =>
        intro ρ s h
        refine (jD hmix hC a _ ρ s (by simpa [dU] using hin) h).mono fun e F s hq=>?_
        obtain ⟨ρ',rfl,hq⟩:=hq
        cases e with
        | normal=>exact ih ρ' s hq
        | _=>exact ⟨ρ',rfl,hq⟩
    exact key n ρ s h
theorem xC {ρ:Env} {X Y X' Y':Prop} (hx:X → X') (hy:Y → Y') {g:Option (Option Nat × Bool)} (h:guardE ρ X Y g):guardE ρ X' Y' g:=by
  unfold guardE at h ⊢
  split at h
  · exact hx h
  · exact hy h
  · split at h
    · split at h
      · rename_i hb;rw [if_pos hb];exact hx h
      · rename_i hb;rw [if_neg hb];exact hy h
    · exact h.elim
    · exact hy h
theorem sU {f:Nat} {args:List AV} {s:St} {K K':AV → St → Prop} (hk:∀ v s,K v s → K' v s) (h:pU P C f args s K):pU P C f args s K':=by
  unfold pU at h ⊢
  split at h
  · split at h
    · exact hk _ _ h
    · rcases h with h | ⟨v,h1,h2⟩
      · exact .inl (h.mono hk)
      · exact .inr ⟨v,h1,hk _ _ h2⟩
  · exact h.mono hk
theorem P8 {ρ:Env} {s:St} {K K':AV → St → Prop} (hk:∀ v s,K v s → K' v s) {op:jy} (h:fq P C ρ s K op):fq P C ρ s K' op:=by
  unfold fq at h ⊢
  split at h
  · exact sU hk h
  · split at h
    · exact sU hk h
    · exact h.mono hk
    · exact h.elim
  · split at h
    · exact sU hk h
    · exact h.elim
  · split at h
    · exact hk _ _ h
    · exact ⟨h.1,fun b=>hk _ _ (h.2 b)⟩
  · split at h
    · exact hk _ _ h
    · exact h.elim
theorem rJ {K K':Env → St → Prop} (hk:∀ ρ s,K ρ s → K' ρ s):∀ (l:List aJ) (ρ:Env) (s:St),opsE P C K l ρ s → opsE P C K' l ρ s
  | [],ρ,s,h=>hk ρ s h
  | o :: r, ρ, s, h => by
    simp only [opsE] at h ⊢
    exact xC (P8 fun v s'=>rJ hk r _ _) (rJ hk r _ _) h
theorem Ny {ρ:Env} {s:St} {K K':AV → St → Entry → Prop} (hk:∀ v s e,K v s e → K' v s e) {op:jy} (h:eD P C ρ s K op):eD P C ρ s K' op:=by
  have gen:∀ {f:Nat} {args:List AV},JL P f args s K → JL P f args s K':=fun ⟨v,s',Wr,h1,h2,h3,h4,hW,h5⟩=>⟨v,s',Wr,h1,h2,h3,h4,hW,hk _ _ _ h5⟩
  have dc:∀ {f:Nat} {args:List AV},ku P C f args s K → ku P C f args s K':=fun h=>by
    unfold ku at h ⊢
    split at h
    · split at h
      · exact ⟨h.1,hk _ _ _ h.2⟩
      · rcases h with ⟨v,h1,h2,h3⟩ | h
        · exact .inl ⟨v,h1,h2,hk _ _ _ h3⟩
        · exact .inr (gen h)
    · exact gen h
  unfold eD at h ⊢
  split at h
  · exact dc h
  · split at h
    · exact dc h
    · exact h.elim
  · split at h
    · exact dc h
    · exact h.elim
  · split at h
    · exact ⟨h.1,hk _ _ _ h.2⟩
    · exact h
theorem pz {K K':Env → St → List Entry → Prop} (hk:∀ ρ s es,K ρ s es → K' ρ s es):∀ (l:List aJ) (ρ:Env) (s:St) (es:List Entry),jr P C K l ρ s es → jr P C K' l ρ s es
  | [],ρ,s,es,h=>hk ρ s es h
  | o :: r, ρ, s, es, h => by
    simp only [jr] at h ⊢
    exact xC (Ny fun v s' e=>pz hk r _ _ _) (pz hk r _ _ _) h
theorem qF:∀ (c:bL) {Q Q':bV} (hq:∀ e ρ s,Q e ρ s → Q' e ρ s) (ρ:Env) (s:St),W P C c Q ρ s → W P C c Q' ρ s
  | .skip,Q,Q',hq,ρ,s,h=>hq _ _ _ h
  | .exit id,Q,Q',hq,ρ,s,h=>hq _ _ _ h
  | .ret,Q,Q',hq,ρ,s,h=>hq _ _ _ h
  | .region l,Q,Q',hq,ρ,s,h=>rJ (hq .normal) l ρ s h
  | .draw m l,Q,Q',hq,ρ,s,h=>pz (fun _ _ _ hh=>⟨hh.1,hq _ _ _ hh.2⟩) l ρ s [] h
  | .drawT m l r,Q,Q',hq,ρ,s,h=>pz (fun _ _ _ hh=>⟨hh.1,rJ (hq .normal) r _ _ hh.2⟩) l ρ s [] h
  | .rangeF _ _ _ _,Q,Q',hq,ρ,s,h=>h.elim
  | .seq a b, Q, Q', hq, ρ, s, h => qF a (fun e ρ s hh => by
    cases e with
    | normal=>exact qF b hq ρ s hh
    | _=>exact hq _ _ _ hh) ρ s h
  | .cond c a b, Q, Q', hq, ρ, s, h => by
    simp only [W] at h ⊢
    split at h
    · rename_i t ht
      cases t with
      | true=>exact qF a hq ρ s h
      | false=>exact qF b hq ρ s h
    · exact h.elim
  | .block id a, Q, Q', hq, ρ, s, h => qF a (fun e ρ s hh => by
    cases e with
    | exit i =>
      simp only [gP] at hh ⊢
      split at hh
      · rename_i hi;rw [if_pos hi];exact hq _ _ _ hh
      · rename_i hi;rw [if_neg hi];exact hq _ _ _ hh
    | _=>exact hq _ _ _ hh) ρ s h
  | .loop a, Q, Q', hq, ρ, s, ⟨n, h⟩ => by
    refine ⟨n,?_⟩
    have key:∀ (n:Nat) (ρ:Env) (s:St),vB (W P C a) Q n ρ s → vB (W P C a) Q' n ρ s:=by
      intro n
      induction n with
      | zero=>intro ρ s h;exact h.elim
      | succ n ih =>
        intro ρ s h
        refine qF a (fun e ρ s hh=>?_) ρ s h
        cases e with
        | normal=>exact ih _ _ hh
        | _=>exact hq _ _ _ hh
    exact key n ρ s h
theorem Qh {a:bL} {Q:bV} (I:Nat → Env → St → Prop) (h:∀ n ρ s,I n ρ s → W P C a (kF (fun ρ' s'=>∃ m,m < n ∧ I m ρ' s') Q) ρ s) {n:Nat} {ρ:Env} {s:St} (h0:I n ρ s):Lc (W P C a) Q ρ s:=by
  have key:∀ (k n:Nat) (ρ:Env) (s:St),n < k → I n ρ s → vB (W P C a) Q k ρ s:=by
    intro k
    induction k with
    | zero=>intro n ρ s hn;omega
    | succ k ih =>
      intro n ρ s hn hi
      refine qF a (fun e ρ s hh=>?_) ρ s (h n ρ s hi)
      cases e with
      | normal=>obtain ⟨m,hm,hi⟩:=hh;exact ih m ρ s (by omega) hi
      | _=>exact hh
  exact ⟨n + 1,key _ n ρ s (Nat.lt_succ_self n) h0⟩
def vF (args:List AV):Env:=fun i=>args.getD i (.tup [])
theorem yJ {args:List AV} {N:Nat} (h:args.length ≤ N):iN args N=lN N (vF args):=by
  apply List.ext_getElem?
  intro i
  by_cases hi:i < N
  · rw [rE hi]
    simp only [iN,vF]
    by_cases h2:i < args.length
    · rw [List.getElem?_append_left h2];simp [List.getD_eq_getElem?_getD,h2]
    · rw [List.getElem?_append_right (by omega)]
      rw [List.getElem?_replicate,if_pos (by omega)]
      simp [List.getD_eq_getElem?_getD,List.getElem?_eq_none (show args.length ≤ i by omega)]
  · rw [List.getElem?_eq_none (by simp [iN];omega),List.getElem?_eq_none (by simp [xY];omega)]
def oU (ρ:Env) (g:Nat → Option Obj):Nat × Option (Option Nat) → Option AV
  | (k,none)=>some (ρ k)
  | (k, some q) => match rd g (ρ k) with
    | some cs => match q with
      | none=>cs[0]?
      | some n=>if n ≤ cs.length then some (.agg (cs.take n)) else none
    | none=>none
def nN (ρ:Env) (g:Nat → Option Obj):List (Nat × Option (Option Nat)) → Option (List AV)
  | []=>some []
  | r :: l => match oU ρ g r, nN ρ g l with
    | some v,some vs=>some (v :: vs)
    | _,_=>none
def oneOf:List AV → AV
  | [v]=>v
  | vs=>.tup vs
def vN (res:List (Nat × Option (Option Nat))) (R:AV → St → Prop) (ρ:Env) (s:St):Prop:=
  match nN ρ s.get res with
  | some vs=>R (oneOf vs) s
  | none=>False
def U4 (res:List (Nat × Option (Option Nat))) (R:AV → St → Prop):bV
  | .normal,ρ,s=>vN res R ρ s
  | .ret,ρ,s=>vN res R ρ s
  | _,_,_=>False
theorem ql {ρ:Env} (g:Nat → Option Obj):∀ {l:List (Nat × Option (Option Nat))},uo N l=true → lX (lN N ρ) g l=nN ρ g l
  | [],_=>rfl
  | (k, q) :: r, hl => by
    simp only [uo,List.all_cons,Bool.and_eq_true,decide_eq_true_eq] at hl
    have e:=rE (ρ:=ρ) hl.1
    simp only [nN,lX]
    rw [ql g (l:=r) hl.2]
    have:oU ρ g (k,q)=ny (lN N ρ) g (k,q):=by
      cases q with
      | none=>simp only [oU,ny,e]
      | some q =>
        simp only [oU,ny,List.getD_eq_getElem?_getD,e,Option.getD_some]
        cases rd g (ρ k) <;> rfl
    rw [this]
    cases ny (lN N ρ) g (k,q) <;> cases nN ρ g r <;> rfl
theorem bE (hmix:P.follows .mixedOrders=true) (hC:rQ P C) {f:FuncId} {af:bI} (hf:bF P f=some af) (hin:(dU af.ntmps af.body && uo af.ntmps af.results)=true) {args:List AV} {s:St} {R:AV → St → Prop}
    (hl:args.length ≤ af.ntmps) (h:W P C af.body (U4 af.results R) (vF args) s):aF P f args s R:=by
  simp only [Bool.and_eq_true] at hin
  refine xK hf ?_
  rw [yJ hl]
  refine (jD hmix hC af.body _ _ s hin.1 h).mono fun e F s hq=>?_
  obtain ⟨ρ,rfl,hq⟩:=hq
  have key:vN af.results R ρ s → ∃ v,lZ af.results (lN af.ntmps ρ) s.get=some v ∧ R v s:=fun h=>by
    unfold vN at h
    split at h
    · rename_i vs hv
      refine ⟨oneOf vs,?_,h⟩
      simp only [lZ]
      rw [ql _ hin.2,hv]
      rcases vs with _ | ⟨a,_ | ⟨b,r⟩⟩ <;> rfl
    · exact h.elim
  cases e with
  | normal=>exact ⟨.inl rfl,key hq⟩
  | ret=>exact ⟨.inr rfl,key hq⟩
  | _=>exact hq.elim
end
end Go.AX
/- The rules by which a walk unfolds: one for each word, none by computing in the checker. -/
namespace Go.AX
open Go
class Ck where
  p:Prop
class vL (α:Type) where
  k:α → Prop
class Ik where
  k:AV → St → Prop
class Zi where
  k:List AV → List (Nat × Obj) → Prop
class Yk where
  q:bV
class Sc where
  k:St → Prop
def vC (s:St) [K:Sc]:Prop:=K.k s
theorem WZ (h:List (Nat × Obj)) (n:Nat) (K:St → Prop):@vC ⟨h,n⟩ ⟨K⟩=K ⟨h,n⟩:=rfl
def jY {α:Type} (o:Option α) [K:vL α]:Prop:=match o with
  | some v=>K.k v
  | none=>False
theorem NA {α:Type} (v:α) (K:α → Prop):@jY α (some v) ⟨K⟩=K v:=rfl
def LV (c:Prop) (X Y:Ck):Prop:=(c → X.p) ∧ (¬ c → Y.p)
def vT (c:Prop) [X:Ck] [Y:Ck]:Prop:=LV c X Y
theorem Q0 (X Y:Prop):@vT True ⟨X⟩ ⟨Y⟩=X:=by simp [vT,LV]
theorem Mg (X Y:Prop):@vT False ⟨X⟩ ⟨Y⟩=Y:=by simp [vT,LV]
def Ez (v:AV) (want:Bool) [X:Ck] [Y:Ck]:Prop:=match v with
  | .bool b=>if b=want then X.p else Y.p
  | .any=>False
  | _=>Y.p
theorem Ho (b want:Bool) (X Y:Prop):@Ez (.bool b) want ⟨X⟩ ⟨Y⟩ = @vT (b=want) ⟨X⟩ ⟨Y⟩:=by
  by_cases h:b=want <;> simp [Ez,vT,LV,h]
theorem J9 (l:List AV) (want:Bool) (X Y:Prop):@Ez (.tup l) want ⟨X⟩ ⟨Y⟩=Y:=rfl
theorem Ii (ρ:Env) (X Y:Prop):guardE ρ X Y none=X:=rfl
theorem Kv (ρ:Env) (X Y:Prop) (w:Bool):guardE ρ X Y (some (none,w))=Y:=rfl
theorem FY (ρ:Env) (X Y:Prop) (t:Nat) (w:Bool):guardE ρ X Y (some (some t,w)) = @Ez (ρ t) w ⟨X⟩ ⟨Y⟩:=rfl
def RY (v:AV) [X:Ck] [Y:Ck]:Prop:=match v with
  | .bool t=>if t then X.p else Y.p
  | _=>False
theorem JA (t:Bool) (X Y:Prop):@RY (.bool t) ⟨X⟩ ⟨Y⟩ = @vT (t=true) ⟨X⟩ ⟨Y⟩:=by
  cases t <;> simp [RY,vT,LV]
section
variable (P:Program) (C:Known)
theorem Xa (Q:bV) (ρ:Env) (s:St):W P C .skip Q ρ s=Q .normal ρ s:=rfl
theorem Sj (l:List aJ) (Q:bV) (ρ:Env) (s:St):W P C (.region l) Q ρ s=opsE P C (Q .normal) l ρ s:=rfl
theorem Yo (a b:bL) (Q:bV) (ρ:Env) (s:St):W P C (.seq a b) Q ρ s=W P C a (kF (W P C b Q) Q) ρ s:=rfl
theorem WQ (c:AO) (a b:bL) (Q:bV) (ρ:Env) (s:St):W P C (.cond c a b) Q ρ s = @RY (bD ρ c) ⟨W P C a Q ρ s⟩ ⟨W P C b Q ρ s⟩:=rfl
theorem Tj (id:Nat) (a:bL) (Q:bV) (ρ:Env) (s:St):W P C (.block id a) Q ρ s=W P C a (gP id Q) ρ s:=rfl
def Ky (a:bL) (ρ:Env) (s:St) [Q:Yk]:Prop:=Lc (W P C a) Q.q ρ s
theorem XD (a:bL) (Q:bV) (ρ:Env) (s:St):W P C (.loop a) Q ρ s = @Ky P C a ρ s ⟨Q⟩:=rfl
theorem iG (a:bL) (Q:bV) (ρ:Env) (s:St):@Ky P C a ρ s ⟨Q⟩=Lc (W P C a) Q ρ s:=rfl
theorem XJ (id:Nat) (Q:bV) (ρ:Env) (s:St):W P C (.exit id) Q ρ s=Q (.exit id) ρ s:=rfl
theorem YM (Q:bV) (ρ:Env) (s:St):W P C .ret Q ρ s=Q .ret ρ s:=rfl
theorem Eo (K:Env → St → Prop) (Q:bV) (ρ:Env) (s:St):kF K Q .normal ρ s=K ρ s:=rfl
theorem NI (K:Env → St → Prop) (Q:bV) (ρ:Env) (s:St):kF K Q .ret ρ s=Q .ret ρ s:=rfl
theorem JU (K:Env → St → Prop) (Q:bV) (i:Nat) (ρ:Env) (s:St):kF K Q (.exit i) ρ s=Q (.exit i) ρ s:=rfl
theorem xS (id:Nat) (Q:bV) (ρ:Env) (s:St):gP id Q .normal ρ s=Q .normal ρ s:=rfl
theorem DI (id:Nat) (Q:bV) (ρ:Env) (s:St):gP id Q .ret ρ s=Q .ret ρ s:=rfl
theorem BZ (id:Nat) (Q:bV) (ρ:Env) (s:St):gP id Q (.exit id) ρ s=Q .normal ρ s:=if_pos rfl
theorem Co (id i:Nat) (Q:bV) (ρ:Env) (s:St) (h:(i=id)=False):gP id Q (.exit i) ρ s=Q (.exit i) ρ s:=if_neg (by simp [h])
theorem Hg (res:List (Nat × Option (Option Nat))) (R:AV → St → Prop) (ρ:Env) (s:St):U4 res R .normal ρ s=vN res R ρ s:=rfl
theorem Pn (res:List (Nat × Option (Option Nat))) (R:AV → St → Prop) (ρ:Env) (s:St):U4 res R .ret ρ s=vN res R ρ s:=rfl
theorem Qd (K:Env → St → Prop) (ρ:Env) (s:St):opsE P C K [] ρ s=K ρ s:=rfl
theorem LX (K:Env → St → Prop) (d:Nat) (op:jy) (g:Option (Option Nat × Bool)) (r:List aJ) (ρ:Env) (s:St) :
    opsE P C K (⟨some d,op,g⟩ :: r) ρ s=guardE ρ (fq P C ρ s (fun v s'=>opsE P C K r (upd ρ d v) s') op) (opsE P C K r (upd ρ d (.tup [])) s) g:=rfl
theorem IU (K:Env → St → Prop) (op:jy) (g:Option (Option Nat × Bool)) (r:List aJ) (ρ:Env) (s:St) :
    opsE P C K (⟨none,op,g⟩ :: r) ρ s=guardE ρ (fq P C ρ s (fun v s'=>opsE P C K r ρ s') op) (opsE P C K r ρ s) g:=rfl
theorem Nh (K:Env → St → List Entry → Prop) (ρ:Env) (s:St) (es:List Entry):jr P C K [] ρ s es=K ρ s es:=rfl
theorem JJ (K:Env → St → List Entry → Prop) (d:Nat) (op:jy) (g:Option (Option Nat × Bool)) (r:List aJ) (ρ:Env) (s:St) (es:List Entry) :
    jr P C K (⟨some d,op,g⟩ :: r) ρ s es=guardE ρ (eD P C ρ s (fun v s' e=>jr P C K r (upd ρ d v) s' (es ++ [e])) op) (jr P C K r (upd ρ d (.tup [])) s (es ++ [⟨[],[],s.next,s.next⟩])) g:=rfl
theorem Io (K:Env → St → List Entry → Prop) (op:jy) (g:Option (Option Nat × Bool)) (r:List aJ) (ρ:Env) (s:St) (es:List Entry) :
    jr P C K (⟨none,op,g⟩ :: r) ρ s es=guardE ρ (eD P C ρ s (fun v s' e=>jr P C K r ρ s' (es ++ [e])) op) (jr P C K r ρ s (es ++ [⟨[],[],s.next,s.next⟩])) g:=rfl
theorem UF (ρ:Env) (k:Nat) (v:AV) (i:Nat):upd ρ k v i=if i=k then v else ρ i:=rfl
theorem Yc (ρ:Env) (n:Nat):bD ρ (.t n)=ρ n:=rfl
theorem YX (ρ:Env) (v:AV):bD ρ (.k v)=v:=rfl
theorem L9 (x:AV) (r:List AV):vF (x :: r) 0=x:=rfl
theorem LU (x:AV) (r:List AV) (n:Nat):vF (x :: r) (n + 1)=vF r n:=rfl
variable (ρ:Env) (s:St) (K:AV → St → Prop)
def lW (e:Eff) (s:St) [K:Ik]:Prop:=match e with
  | some (v,ps,qs)=>K.k v (s.apply ps qs)
  | none=>False
theorem LZ (v:AV) (ps:List (Nat × Obj)) (qs:List Obj):@lW (some (v,ps,qs)) s ⟨K⟩ = @vC (s.apply ps qs) ⟨K v⟩:=rfl
theorem Xz (x:AO):fq P C ρ s K (.mv x) = @jY _ (some (bD ρ x)) ⟨fun v=>K v s⟩:=rfl
theorem Vw (x:AV):fq P C ρ s K (.cst x)=K x s:=rfl
def Ga (c a b:AV) [K:vL AV]:Prop:=match c with
  | .bool t=>K.k (if t then a else b)
  | _=>False
theorem Jj (a b:AV) (K:AV → Prop):@Ga (.bool true) a b ⟨K⟩=K a:=rfl
theorem GL (a b:AV) (K:AV → Prop):@Ga (.bool false) a b ⟨K⟩=K b:=rfl
theorem Jv (t:Bool) (a b:AV) (K:AV → Prop):@Ga (.bool t) a b ⟨K⟩ = @vT (t=true) ⟨K a⟩ ⟨K b⟩:=by
  cases t <;> simp [Ga,vT,LV]
theorem NZ (c a b:AO):fq P C ρ s K (.pick c a b) = @Ga (bD ρ c) (bD ρ a) (bD ρ b) ⟨fun v=>K v s⟩:=by
  simp only [fq,kE,bn,AO.ev]
  cases bD ρ c <;> rfl
theorem Nq (z:List AV):fq P C ρ s K (.alloc z) = @lW (some (.ptr s.next (vz z) 0,[],[.cells (vz z) z false])) s ⟨K⟩:=rfl
theorem SS (o:BinOp) (x y:AO):fq P C ρ s K (.bin o x y) = @jY _ (xO o (bD ρ x) (bD ρ y)) ⟨(fun v=>K v s)⟩:=by
  simp only [fq,kE,bn,AO.ev]
  cases xO o (bD ρ x) (bD ρ y) <;> rfl
theorem Xl (o:UnOp) (x:AO):fq P C ρ s K (.un o x) = @jY _ (WM o (bD ρ x)) ⟨(fun v=>K v s)⟩:=by
  simp only [fq,kE,bn,AO.ev]
  cases WM o (bD ρ x) <;> rfl
def U0 (o:Option Bool) (u:Bool) (neg:Bool) [K:vL Bool]:Prop:=match o with
  | some b=>K.k (if neg then !b else b)
  | none=>u=true ∧ ∀ b,K.k b
theorem Me (b u neg:Bool) (K:Bool → Prop):@U0 (some b) u neg ⟨K⟩ = @jY _ (some b) ⟨fun b=>K (if neg then !b else b)⟩:=rfl
def DK [K:vL Bool]:Prop:=∀ b,K.k b
theorem Ci {K:Bool → Prop} (h1:K true) (h2:K false):@DK ⟨K⟩:=fun b=>by cases b;exact h2;exact h1
theorem Lv (neg:Bool) (K:Bool → Prop):@U0 none true neg ⟨K⟩ = @DK ⟨K⟩:=by simp [U0,DK]
theorem Xn (neg:Bool) (t:p8) (x y:AO):fq P C ρ s K (.eq neg t x y) = @U0 (eqv t (bD ρ x) (bD ρ y)) (YO t (bD ρ x) (bD ρ y)) neg ⟨(fun b=>K (.bool b) s)⟩:=by
  simp only [fq]
  cases eqv t (bD ρ x) (bD ρ y) <;> rfl
def kJ (n:Option Nat):Option (List AV) → Option AV
  | some cs => match n with
    | none => match cs with
      | x :: _=>some x
      | []=>none
    | some n=>if n ≤ cs.length then some (.agg (cs.take n)) else none
  | none=>none
theorem NK (x:AV) (r:List AV):kJ none (some (x :: r))=some x:=rfl
theorem Kh (n:Nat) (cs:List AV):kJ (some n) (some cs)=if n ≤ cs.length then some (.agg (cs.take n)) else none:=rfl
theorem P9 (n:Option Nat) (a:AO):fq P C ρ s K (.load n a) = @jY _ (kJ n (rd s.get (bD ρ a))) ⟨(fun v=>K v s)⟩:=by
  simp only [fq,kE,bn,AO.ev]
  cases rd s.get (bD ρ a) with
  | none=>rfl
  | some cs =>
    cases n with
    | none=>cases cs <;> rfl
    | some n =>
      simp only [kJ]
      by_cases h:n ≤ cs.length <;> simp [h,jY,St.apply]
def Ey (s:St) (n:Nat) (a x:AV) [K:Ik]:Prop:=match a with
  | .ptr b e o => match s.get b with
    | some (.cells e' cs false)=>(e=e' ∧ o + n ≤ cs.length ∧ x.cells.length=n ∧ x.cells.all AV.one=true) ∧ K.k .any (s.put b (.cells e (cs.take o ++ x.cells ++ cs.drop (o + n)) false))
    | _=>False
  | _=>False
def JH (o:Option Obj) (s:St) (n b e off:Nat) (x:AV) [K:Ik]:Prop:=match o with
  | some (.cells e' cs false)=>(e=e' ∧ off + n ≤ cs.length ∧ x.cells.length=n ∧ x.cells.all AV.one=true) ∧ K.k .any (s.put b (.cells e (cs.take off ++ x.cells ++ cs.drop (off + n)) false))
  | _=>False
def jZ (c:Prop) [X:Ck]:Prop:=c ∧ X.p
theorem MW (X:Prop):@jZ True ⟨X⟩=X:=by simp [jZ]
theorem aA {c X:Prop} (h1:c) (h2:X):@jZ c ⟨X⟩:=⟨h1,h2⟩
theorem Kq (s:St) (n b e o:Nat) (x:AV) (K:AV → St → Prop):@Ey s n (.ptr b e o) x ⟨K⟩ = @JH (s.get b) s n b e o x ⟨K⟩:=by
  simp only [Ey,JH]
theorem GD (s:St) (n b e e' o:Nat) (cs:List AV) (x:AV) (K:AV → St → Prop):@JH (some (.cells e' cs false)) s n b e o x ⟨K⟩ = @jZ (e=e' ∧ o + n ≤ cs.length ∧ x.cells.length=n ∧ x.cells.all AV.one=true) ⟨@vC (s.put b (.cells e (cs.take o ++ x.cells ++ cs.drop (o + n)) false)) ⟨K .any⟩⟩:=rfl
theorem MX (n:Nat) (a x:AO):fq P C ρ s K (.store n a x) = @Ey s n (bD ρ a) (bD ρ x) ⟨K⟩:=by
  simp only [fq,kE,bn,AO.ev,Ey]
  cases bD ρ a <;> (try rfl)
  rename_i b e o
  simp only
  cases hg:s.get b with
  | none=>rfl
  | some ob =>
    cases ob with
    | map es=>rfl
    | iter p q=>rfl
    | raw k o F us=>rfl
    | cells e' cs sn =>
      cases sn with
      | true=>rfl
      | false =>
        simp only
        generalize (bD ρ x)=X
        show (match (if e=e' ∧ o + n ≤ cs.length ∧ X.cells.length=n ∧ X.cells.all AV.one=true then some (AV.any,[(b,Obj.cells e (List.take o cs ++ X.cells ++ List.drop (o + n) cs) false)],([]:List Obj)) else none) with
          | some (v,ps,qs)=>K v (s.apply ps qs)
          | none=>False)=_
        by_cases h:e=e' ∧ o + n ≤ cs.length ∧ X.cells.length=n ∧ X.cells.all AV.one=true
        · rw [if_pos h];simp only [h,true_and,St.apply,List.foldl,and_self]
        · rw [if_neg h];simp only [h,false_and]
theorem Uw (x:AO):fq P C ρ s K (.box x) = @jZ ((bD ρ x).cells.all AV.one=true) ⟨@lW (some (.ptr s.next 1 0,[],[.cells 1 (bD ρ x).cells false])) s ⟨K⟩⟩:=by
  simp only [fq,kE,bn,AO.ev]
  generalize (bD ρ x)=X
  show (match (if X.cells.all AV.one=true then some (AV.ptr s.next 1 0,([]:List (Nat × Obj)),[Obj.cells 1 X.cells false]) else none) with
    | some (v,ps,qs)=>K v (s.apply ps qs)
    | none=>False)=_
  by_cases h:X.cells.all AV.one=true
  · rw [if_pos h];simp only [jZ,lW,h,true_and,St.apply,List.foldl]
  · rw [if_neg h];simp only [jZ,h,Bool.false_eq_true,false_and]
theorem M7 (z:List AV) (ps:List (Nat × Nat × AO)):fq P C ρ s K (.build z ps) = @jY _ (kH z (ps.map fun p=>(p.1,p.2.1,bD ρ p.2.2))) ⟨(fun cs=>K (.agg cs) s)⟩:=by
  simp only [fq,kE,bn,List.map_map]
  show (match (match kH z (ps.map fun p=>(p.1,p.2.1,bD ρ p.2.2)) with | some cs=>some (AV.agg cs,([]:List (Nat × Obj)),([]:List Obj)) | none=>none) with | some (v,ps,qs)=>K v (s.apply ps qs) | none=>False)=_
  cases kH z (ps.map fun p=>(p.1,p.2.1,bD ρ p.2.2)) <;> rfl
def Yl:AV → Option AV
  | .nils=>some (.int .i64 0)
  | .ps n _=>some (.int .i64 n)
  | .sl _ _ _ n _=>some (.int .i64 n)
  | _=>none
theorem UR (x:AO):fq P C ρ s K (.len x) = @jY _ (Yl (bD ρ x)) ⟨(fun v=>K v s)⟩:=by
  simp only [fq,kE,bn,AO.ev]
  cases bD ρ x <;> rfl
def Wp:AV → Option AV
  | .str l=>some (.int .i64 l.length)
  | _=>none
theorem Pp (x:AO):fq P C ρ s K (.lenS x) = @jY _ (Wp (bD ρ x)) ⟨(fun v=>K v s)⟩:=by
  simp only [fq,kE,bn,AO.ev]
  cases bD ρ x <;> rfl
def Bh (arr:Option Nat) (z:Nat) (x:AV):Option Nat → Option AV
  | some i => match arr with
    | some n=>if i < n then shift (i * z) x else none
    | none=>bW i z x
  | none=>none
theorem Kn (z:Nat) (x:AV) (i:Nat):Bh none z x (some i)=bW i z x:=rfl
theorem Jq (n z:Nat) (x:AV) (i:Nat):Bh (some n) z x (some i)=if i < n then shift (i * z) x else none:=rfl
theorem Mf (arr:Option Nat) (z:Nat) (x i:AO):fq P C ρ s K (.iaddr arr z x i) = @jY _ (Bh arr z (bD ρ x) (asNat (bD ρ i))) ⟨(fun v=>K v s)⟩:=by
  simp only [fq,kE,bn,AO.ev]
  cases asNat (bD ρ i) with
  | none=>rfl
  | some i =>
    cases arr with
    | none=>simp only [Bh];cases bW i z (bD ρ x) <;> rfl
    | some n =>
      simp only [Bh]
      by_cases h:i < n
      · rw [if_pos h,if_pos h];cases shift (i * z) (bD ρ x) <;> rfl
      · rw [if_neg h,if_neg h];rfl
theorem Ml (off:Nat) (x:AO):fq P C ρ s K (.faddr off x) = @jY _ (shift off (bD ρ x)) ⟨(fun v=>K v s)⟩:=by
  simp only [fq,kE,bn,AO.ev]
  cases shift off (bD ρ x) <;> rfl
def WU (off:Nat) (n:Option Nat):AV → Option AV
  | .agg cs=>partOf n off cs
  | _=>none
theorem OP (off:Nat) (n:Option Nat) (cs:List AV):WU off n (.agg cs)=partOf n off cs:=rfl
theorem VB (off:Nat) (n:Option Nat) (x:AO):fq P C ρ s K (.fld off n x) = @jY _ (WU off n (bD ρ x)) ⟨(fun v=>K v s)⟩:=by
  simp only [fq,kE,bn,AO.ev]
  cases bD ρ x <;> (try rfl)
  rename_i cs
  simp only [WU]
  cases partOf n off cs <;> rfl
def Sd (len z:Nat) (n:Option Nat):AV → Option Nat → Option AV
  | .agg cs,some i=>if i < len then partOf n (i * z) cs else none
  | _,_=>none
theorem ML (len z:Nat) (n:Option Nat) (cs:List AV) (i:Nat):Sd len z n (.agg cs) (some i)=if i < len then partOf n (i * z) cs else none:=rfl
theorem Sn (len z:Nat) (n:Option Nat) (x i:AO):fq P C ρ s K (.aidx len z n x i) = @jY _ (Sd len z n (bD ρ x) (asNat (bD ρ i))) ⟨(fun v=>K v s)⟩:=by
  simp only [fq,kE,bn,AO.ev]
  cases bD ρ x <;> (try rfl)
  rename_i cs
  cases asNat (bD ρ i) with
  | none=>rfl
  | some i =>
    simp only [Sd]
    by_cases h:i < len
    · rw [if_pos h,if_pos h];cases partOf n (i * z) cs <;> rfl
    · rw [if_neg h,if_neg h];rfl
def WJ (i:Nat):AV → Option AV
  | .tup vs=>vs[i]?
  | _=>none
theorem PV (i:Nat) (vs:List AV):WJ i (.tup vs)=vs[i]?:=rfl
theorem TF (i:Nat) (x:AO):fq P C ρ s K (.ext i x) = @jY _ (WJ i (bD ρ x)) ⟨(fun v=>K v s)⟩:=by
  simp only [fq,kE,bn,AO.ev]
  cases bD ρ x <;> (try rfl)
  rename_i vs
  simp only [WJ]
  cases vs[i]? <;> rfl
def AZ (x:AV):Option AV:=RJ x
theorem NG (x:AO):fq P C ρ s K (.nilck x) = @jY _ (AZ (bD ρ x)) ⟨(fun v=>K v s)⟩:=by
  simp only [fq,kE,bn,AO.ev,AZ]
  cases RJ (bD ρ x) <;> rfl
theorem Kj (z:List AV) (n e:Nat) (ps:List (Nat × Nat × AO)):fq P C ρ s K (.bslice z n e ps) = @lW (bn (kE ρ (.bslice z n e ps)) [] s.get s.next) s ⟨K⟩:=rfl
theorem Ui (z b:Nat) (st:Bool) (x y:AO):fq P C ρ s K (.app z b st x y) = @lW (bn (kE ρ (.app z b st x y)) [] s.get s.next) s ⟨K⟩:=rfl
theorem TK (z:Nat) (x:AO) (lo hi:Option AO):fq P C ρ s K (.slc z x lo hi) = @lW (bn (kE ρ (.slc z x lo hi)) [] s.get s.next) s ⟨K⟩:=rfl
theorem QV (x:AO) (lo hi:Option AO):fq P C ρ s K (.slcS x lo hi) = @lW (bn (kE ρ (.slcS x lo hi)) [] s.get s.next) s ⟨K⟩:=rfl
theorem Ot (x i:AO):fq P C ρ s K (.sidx x i) = @lW (bn (kE ρ (.sidx x i)) [] s.get s.next) s ⟨K⟩:=rfl
theorem U6 (k:IntKind) (x:AO):fq P C ρ s K (.i2i k x) = @lW (bn (kE ρ (.i2i k x)) [] s.get s.next) s ⟨K⟩:=rfl
theorem UK (x:AO):fq P C ρ s K (.s2s x) = @lW (bn (kE ρ (.s2s x)) [] s.get s.next) s ⟨K⟩:=rfl
theorem Vr (x:AO):fq P C ρ s K (.s2b x) = @lW (bn (kE ρ (.s2b x)) [] s.get s.next) s ⟨K⟩:=rfl
theorem U1 (x:AO):fq P C ρ s K (.b2s x) = @lW (bn (kE ρ (.b2s x)) [] s.get s.next) s ⟨K⟩:=rfl
theorem G5 (z:List AV) (b:Nat) (x y:AO):fq P C ρ s K (.mkslice z b x y) = @lW (bn (kE ρ (.mkslice z b x y)) [] s.get s.next) s ⟨K⟩:=rfl
theorem XR (m:Bool) (xs:List AO):fq P C ρ s K (.mm m xs) = @lW (bn (kE ρ (.mm m xs)) [] s.get s.next) s ⟨K⟩:=rfl
theorem SE (x:AO):fq P C ρ s K (.rng x) = @lW (bn (kE ρ (.rng x)) [] s.get s.next) s ⟨K⟩:=rfl
theorem SV (x:AO):fq P C ρ s K (.i2s x) = @lW (bn (kE ρ (.i2s x)) [] s.get s.next) s ⟨K⟩:=rfl
theorem NJ:fq P C ρ s K .mkmap = @lW (some (.map s.next,[],[.map []])) s ⟨K⟩:=rfl
theorem TT (z:List AV) (x:AO):fq P C ρ s K (.clr z x) = @lW (bn (kE ρ (.clr z x)) [] s.get s.next) s ⟨K⟩:=rfl
theorem QC (x y:AO):fq P C ρ s K (.idxB x y) = @lW (bn (kE ρ (.idxB x y)) [] s.get s.next) s ⟨K⟩:=rfl
def R8 (o:Option Obj) (b:Nat) (s:St) [K:Ik]:Prop:=match o with
  | some (.iter l p)=>if p < l.length then K.k (.tup [.bool true,.int .i64 p,.int .i32 (iL (l.drop p)).1]) (s.put b (.iter l (p + (iL (l.drop p)).2))) else K.k (.tup [.bool false]) s
  | _=>False
theorem LM (l:List UInt8) (p b:Nat) (s:St) (K:AV → St → Prop):@R8 (some (.iter l p)) b s ⟨K⟩ = @vT (p < l.length) ⟨@vC (s.put b (.iter l (p + (iL (l.drop p)).2))) ⟨K (.tup [.bool true,.int .i64 p,.int .i32 (iL (l.drop p)).1])⟩⟩ ⟨K (.tup [.bool false]) s⟩:=by
  by_cases h:p < l.length <;> simp [R8,vT,LV,h,vC]
def XC (x:AV) (s:St) [K:Ik]:Prop:=match x with
  | .ptr b 0 0=>R8 (s.get b) b s
  | _=>False
theorem PD (b:Nat) (s:St) (K:AV → St → Prop):@XC (.ptr b 0 0) s ⟨K⟩ = @R8 (s.get b) b s ⟨K⟩:=rfl
theorem UY (x:AO):fq P C ρ s K (.nxt x) = @XC (bD ρ x) s ⟨K⟩:=by
  simp only [fq,kE,bn,AO.ev]
  cases bD ρ x <;> (try rfl)
  rename_i b e o
  cases e <;> (try rfl)
  cases o <;> (try rfl)
  simp only [XC,R8]
  cases hg:s.get b with
  | none=>rfl
  | some ob =>
    cases ob <;> (try rfl)
    rename_i l p
    simp only
    by_cases h:p < l.length
    · rw [if_pos h,if_pos h];rfl
    · rw [if_neg h,if_neg h];rfl
def Ee (o:Option Obj) [K:vL (List (AV × AV))]:Prop:=match o with
  | some (.map es)=>K.k es
  | _=>False
theorem LA (es:List (AV × AV)) (K:List (AV × AV) → Prop):@Ee (some (.map es)) ⟨K⟩=K es:=rfl
def L6 (m:AV) (s:St) [K:vL (List (AV × AV))]:Prop:=match m with
  | .nilm=>K.k []
  | .map b=>Ee (s.get b)
  | _=>False
theorem RF (s:St) (K:List (AV × AV) → Prop):@L6 .nilm s ⟨K⟩=K []:=rfl
theorem OJ (b:Nat) (s:St) (K:List (AV × AV) → Prop):@L6 (.map b) s ⟨K⟩ = @Ee (s.get b) ⟨K⟩:=rfl
theorem TJ (tr:p8) (z:AV) (ok:Bool) (m k:AO):fq P C ρ s K (.lkp tr z ok m k) = @jZ (mP tr (bD ρ k)=true) ⟨@L6 (bD ρ m) s ⟨fun es=>@jY _ (Ef tr z ok (bD ρ k) es) ⟨fun v=>K v s⟩⟩⟩:=by
  simp only [fq,kE,bn,AO.ev,jZ]
  by_cases hk:mP tr (bD ρ k)=true
  · simp only [hk,if_true,true_and]
    cases bD ρ m <;> (try rfl)
    rename_i b
    simp only [L6]
    cases s.get b with
    | none=>rfl
    | some ob =>
      cases ob <;> (try rfl)
      rename_i es
      simp only [Ee]
      cases Ef tr z ok (bD ρ k) es <;> rfl
  · simp only [hk,Bool.false_eq_true,if_false,false_and]
def Q6 (m:AV) (s:St) [K:vL (Nat × List (AV × AV))]:Prop:=match m with
  | .map b=>@Ee (s.get b) ⟨fun es=>K.k (b,es)⟩
  | _=>False
theorem NV (b:Nat) (s:St) (K:Nat × List (AV × AV) → Prop):@Q6 (.map b) s ⟨K⟩ = @Ee (s.get b) ⟨fun es=>K (b,es)⟩:=rfl
theorem SK (tr:p8) (m k v:AO):fq P C ρ s K (.mup tr m k v) = @jZ (mP tr (bD ρ k)=true) ⟨@Q6 (bD ρ m) s ⟨fun p=>@jY _ (Ku tr (bD ρ k) (bD ρ v) p.2) ⟨fun es'=>@vC (s.put p.1 (.map es')) ⟨K .any⟩⟩⟩⟩:=by
  simp only [fq,kE,bn,AO.ev,jZ]
  by_cases hk:mP tr (bD ρ k)=true
  · simp only [hk,if_true,true_and]
    cases bD ρ m <;> (try rfl)
    rename_i b
    simp only [Q6]
    cases s.get b with
    | none=>rfl
    | some ob =>
      cases ob <;> (try rfl)
      rename_i es
      simp only [Ee]
      cases Ku tr (bD ρ k) (bD ρ v) es <;> rfl
  · simp only [hk,Bool.false_eq_true,if_false,false_and]
theorem TG (t:Nat) (x:AO):fq P C ρ s K (.ifc t x)=K (.ifc t (bD ρ x)) s:=rfl
def sK (o:Option AV) [K:vL AV] [Y:Ck]:Prop:=match o with
  | some v=>K.k v
  | none=>Y.p
theorem FJ (v:AV) (K:AV → Prop) (Y:Prop):@sK (some v) ⟨K⟩ ⟨Y⟩=K v:=rfl
theorem GN (K:AV → Prop) (Y:Prop):@sK none ⟨K⟩ ⟨Y⟩=Y:=rfl
def Ba (o:Option (List AV × List (Nat × Obj))) [K:Zi] [Y:Ck]:Prop:=match o with
  | some (xs,ps)=>K.k xs ps
  | none=>Y.p
theorem Ap (xs:List AV) (ps:List (Nat × Obj)) (K:List AV → List (Nat × Obj) → Prop) (Y:Prop):@Ba (some (xs,ps)) ⟨K⟩ ⟨Y⟩=K xs ps:=rfl
def Ld (f:FuncId) (args:List AV) (s:St) [K:Ik]:Prop:=aF P f args s K.k
def yH (f:FuncId) (args:List AV) (s:St) (xs:List AV) (s':St) [K:Ik]:Prop:=V7 P f args s xs s' K.k
theorem PY (f:Nat) (args:List AO):fq P C ρ s K (.call f args) = @Ba (views s.get (args.map (bD ρ))) ⟨fun xs ps=>@sK (C f xs) ⟨fun v=>@vC (s.puts ps) ⟨K v⟩⟩ ⟨@yH P f (args.map (bD ρ)) s xs (s.puts ps) ⟨K⟩⟩⟩ ⟨@Ld P f (args.map (bD ρ)) s ⟨K⟩⟩:=by
  show pU P C f (args.map (bD ρ)) s K=_
  unfold pU
  cases views s.get (args.map (bD ρ)) with
  | none=>rfl
  | some p =>
    obtain ⟨xs,ps⟩:=p
    simp only [Ba]
    cases C f xs <;> rfl
def Zq (v:AV) [K:vL (Fn × List AV × List AV)]:Prop:=match v with
  | .fn f a c=>K.k (f,a,c)
  | _=>False
def ZK (f:Fn) [K:vL Nat]:Prop:=match f with
  | .func g=>K.k g
  | _=>False
theorem WK (f:Fn) (a c:List AV) (K:Fn × List AV × List AV → Prop):@Zq (.fn f a c) ⟨K⟩=K (f,a,c):=rfl
theorem Qx (g:Nat) (K:Nat → Prop):@ZK (.func g) ⟨K⟩=K g:=rfl
def XO (l:Nat) (args:List AV) (s:St) [K:Ik]:Prop:=pI P l args s K.k
def Zy (f:Fn) (a c:List AV) [K:vL Nat] [L:vL Nat]:Prop:=match f,a,c with
  | .func g,_,_=>K.k g
  | .yield l,[],[]=>L.k l
  | _,_,_=>False
theorem Pj (g:Nat) (a c:List AV) (K L:Nat → Prop):@Zy (.func g) a c ⟨K⟩ ⟨L⟩=K g:=rfl
theorem Nj (l:Nat) (K L:Nat → Prop):@Zy (.yield l) [] [] ⟨K⟩ ⟨L⟩=L l:=rfl
def XE (o:Option (Nat × AV)) [K:vL (Nat × AV)]:Prop:=match o with
  | some p=>K.k p
  | none=>False
theorem Mi (f:Nat) (v:AV) (K:Nat × AV → Prop):@XE (some (f,v)) ⟨K⟩=K (f,v):=rfl
def Rk:Option Nat → AV → Option (Nat × AV)
  | some f,v=>some (f,v)
  | none,_=>none
theorem II (f:Nat) (v:AV):Rk (some f) v=some (f,v):=rfl
theorem Qb (kg:List (Nat × Nat)) (t:Nat) (v:AV):invK kg (.ifc t v)=Rk (uT kg t) v:=by
  simp only [invK];cases h:uT kg t <;> simp [h,Rk]
theorem IB (a b t:Nat) (r:List (Nat × Nat)):uT ((a,b) :: r) t=if a=t then some b else uT r t:=rfl
theorem UD (kg:List (Nat × Nat)) (r:AO) (args:List AO):fq P C ρ s K (.inv kg r args) = @XE (invK kg (bD ρ r)) ⟨fun p=>fq P C ρ s K (.call p.1 (.k p.2 :: args))⟩:=by
  show (match invK kg (bD ρ r) with
    | some (g,v)=>pU P C g (v :: args.map (bD ρ)) s K
    | none=>False)=_
  cases invK kg (bD ρ r) with
  | none=>rfl
  | some p=>obtain ⟨g,v⟩:=p;rfl
theorem Tf (kg:List Nat) (x:AO):fq P C ρ s K (.tas kg x) = @lW (bn (kE ρ (.tas kg x)) [] s.get s.next) s ⟨K⟩:=rfl
theorem Va (z:Nat) (d x:AO):fq P C ρ s K (.cpy z d x) = @lW (bn (kE ρ (.cpy z d x)) [] s.get s.next) s ⟨K⟩:=rfl
theorem Li (f:AO) (args:List AO):fq P C ρ s K (.callv f args) = @Zq (bD ρ f) ⟨fun p=>@Zy p.1 p.2.1 p.2.2 ⟨fun g=>@Ba (views s.get (p.2.1 ++ args.map (bD ρ) ++ p.2.2)) ⟨fun xs ps=>@sK (C g xs) ⟨fun v=>@vC (s.puts ps) ⟨K v⟩⟩ ⟨@yH P g (p.2.1 ++ args.map (bD ρ) ++ p.2.2) s xs (s.puts ps) ⟨K⟩⟩⟩ ⟨@Ld P g (p.2.1 ++ args.map (bD ρ) ++ p.2.2) s ⟨K⟩⟩⟩ ⟨fun l=>@XO P l (args.map (bD ρ)) s ⟨K⟩⟩⟩:=by
  show (match bD ρ f with
    | .fn (.func g) first cap=>pU P C g (first ++ args.map (bD ρ) ++ cap) s K
    | .fn (.yield l) [] []=>pI P l (args.map (bD ρ)) s K
    | _=>False)=_
  cases bD ρ f <;> (try rfl)
  rename_i fn a c
  cases fn <;> (try rfl)
  cases a <;> cases c <;> rfl
end
theorem tH (body:bV → Env → St → Prop) (Q:bV) (n:Nat) (ρ:Env) (s:St):vB body Q (n + 1) ρ s=body (kF (vB body Q n) Q) ρ s:=rfl
theorem wrap64 {n:Int} (h1:-9223372036854775808 ≤ n) (h2:n ≤ 9223372036854775807):IntKind.i64.wrap n=n:=by
  simp [IntKind.wrap,IntKind.bits,IntKind.signed];omega
end Go.AX
/- The rules for regions that draw. -/
namespace Go.AX
open Go
def uj:jy → Bool
  | .call _ _ | .callv _ _ | .inv _ _ _=>true
  | _=>false
def qG:jy → Bool
  | .mv _ | .pick _ _ _ | .build _ _ | .nilck _ | .bin _ _ _ | .un _ _ | .i2i _ _ | .s2s _ | .ifc _ _ | .mkfn _ _ _ | .slcS _ _ _ | .slc _ _ _ _ | .faddr _ _ | .fld _ _ _ | .iaddr _ _ _ _ | .sidx _ _ | .aidx _ _ _ _ _ | .ext _ _ | .len _ | .lenS _ | .cst _ | .mm _ _ | .i2s _ | .idxB _ _=>true
  | _=>false
class Wy where
  k:AV → St → Entry → Prop
def iW (e:Eff) (D:List Nat) (s:St) [K:Wy]:Prop:=match e with
  | some (v,ps,qs)=>(D.all fun id=>decide (id < s.next))=true ∧ K.k v (s.apply ps qs) ⟨D,ps.map (·.1),s.next,(s.apply ps qs).next⟩
  | none=>False
theorem IE (v:AV) (ps:List (Nat × Obj)) (qs:List Obj) (D:List Nat) (s:St) (K:AV → St → Entry → Prop) :
    @iW (some (v,ps,qs)) D s ⟨K⟩ = @jZ ((D.all fun id=>decide (id < s.next))=true) ⟨@vC (s.apply ps qs) ⟨fun s'=>K v s' ⟨D,ps.map (·.1),s.next,s'.next⟩⟩⟩:=rfl
section
variable (P:Program) (C:Known) (ρ:Env) (s:St) (K:AV → St → Entry → Prop)
theorem dV (op:jy) (h:uj op=false):eD P C ρ s K op = @iW (bn (kE ρ op) [] s.get s.next) (jX (kE ρ op) []) s ⟨K⟩:=by
  have e:eD P C ρ s K op=match bn (kE ρ op) [] s.get s.next with
      | some (v,ps,qs)=>(∀ id ∈ jX (kE ρ op) [],id < s.next) ∧ K v (s.apply ps qs) ⟨jX (kE ρ op) [],ps.map (·.1),s.next,(s.apply ps qs).next⟩
      | none=>False:=by
    cases op <;> first | rfl | simp [uj] at h
  rw [e]
  cases bn (kE ρ op) [] s.get s.next with
  | none=>rfl
  | some p =>
    obtain ⟨v,ps,qs⟩:=p
    simp only [iW,List.all_eq_true,decide_eq_true_eq]
theorem Px {op:jy} (h:qG op=true) {F:List AV} {g:Nat → Option Obj} {n:Nat} {v:AV} {ps:List (Nat × Obj)} {qs:List Obj} (hv:bn op F g n=some (v,ps,qs)):ps=[] ∧ qs=[]:=by
  cases op <;> simp [qG] at h <;> simp only [bn] at hv <;>
    (repeat' split at hv) <;> simp_all
theorem bU (op:jy) (h:qG op=true):eD P C ρ s K op=fq P C ρ s (fun v s'=>K v s' ⟨[],[],s.next,s.next⟩) op:=by
  have hc:uj op=false:=by cases op <;> simp [qG] at h <;> rfl
  have hf:jX (kE ρ op) []=[]:=by cases op <;> simp [qG] at h <;> rfl
  have hp:qG (kE ρ op)=true:=by cases op <;> simp [qG] at h <;> rfl
  have e:fq P C ρ s (fun v s'=>K v s' ⟨[],[],s.next,s.next⟩) op=match bn (kE ρ op) [] s.get s.next with
      | some (v,ps,qs)=>K v (s.apply ps qs) ⟨[],[],s.next,s.next⟩
      | none=>False:=by
    cases op <;> first | rfl | (simp [qG] at h;done) | (simp [uj] at hc;done)
  rw [dV P C ρ s K op hc,e,hf]
  cases he:bn (kE ρ op) [] s.get s.next with
  | none=>rfl
  | some p =>
    obtain ⟨v,ps,qs⟩:=p
    obtain ⟨rfl,rfl⟩:=Px hp he
    simp only [iW,List.all_nil,true_and]
    rfl
def sZ (f:FuncId) (args xs:List AV) (D W:List Nat) (s s':St) [K:Wy]:Prop:=(∃ v,bB P f xs v ∧ (∀ id ∈ D,id < s.next) ∧ K.k v s' ⟨D,W,s.next,s.next⟩) ∨ JL P f args s K.k
def Wh (f:FuncId) (args:List AV) (s:St) [K:Wy]:Prop:=JL P f args s K.k
theorem Du (f:Nat) (args:List AV):ku P C f args s K = @Ba (views s.get args) ⟨fun xs ps=>@sK (C f xs) ⟨fun v=>@jZ (((fF args).all fun id=>decide (id < s.next))=true) ⟨@vC (s.puts ps) ⟨fun s'=>K v s' ⟨fF args,unseen s ps,s.next,s.next⟩⟩⟩⟩ ⟨@sZ P f args xs (fF args) (unseen s ps) s (s.puts ps) ⟨K⟩⟩⟩ ⟨@Wh P f args s ⟨K⟩⟩:=by
  unfold ku
  cases views s.get args with
  | none=>rfl
  | some p =>
    obtain ⟨xs,ps⟩:=p
    simp only [Ba]
    cases C f xs with
    | none=>rfl
    | some v=>simp only [sK,jZ,vC,List.all_eq_true,decide_eq_true_eq]
theorem Og (kg:List (Nat × Nat)) (r:AO) (args:List AO):eD P C ρ s K (.inv kg r args) = @XE (invK kg (bD ρ r)) ⟨fun p=>ku P C p.1 (p.2 :: args.map (bD ρ)) s K⟩:=by
  show (match invK kg (bD ρ r) with
    | some (g,v)=>ku P C g (v :: args.map (bD ρ)) s K
    | none=>False)=_
  cases invK kg (bD ρ r) with
  | none=>rfl
  | some p=>obtain ⟨g,v⟩:=p;rfl
theorem J2 (f:AO) (args:List AO):eD P C ρ s K (.callv f args) = @Zq (bD ρ f) ⟨fun p=>@ZK p.1 ⟨fun g=>ku P C g (p.2.1 ++ args.map (bD ρ) ++ p.2.2) s K⟩⟩:=by
  show (match bD ρ f with
    | .fn (.func g) first cap=>ku P C g (first ++ args.map (bD ρ) ++ cap) s K
    | _=>False)=_
  cases bD ρ f <;> (try rfl)
  rename_i fn a c
  cases fn <;> rfl
theorem Mx (f:Nat) (args:List AO):eD P C ρ s K (.call f args) = @Ba (views s.get (args.map (bD ρ))) ⟨fun xs ps=>@sK (C f xs) ⟨fun v=>@jZ (((fF (args.map (bD ρ))).all fun id=>decide (id < s.next))=true) ⟨@vC (s.puts ps) ⟨fun s'=>K v s' ⟨fF (args.map (bD ρ)),unseen s ps,s.next,s.next⟩⟩⟩⟩ ⟨@sZ P f (args.map (bD ρ)) xs (fF (args.map (bD ρ))) (unseen s ps) s (s.puts ps) ⟨K⟩⟩⟩ ⟨@Wh P f (args.map (bD ρ)) s ⟨K⟩⟩:=Du P C s K f _
theorem Ud (x:AO):eD P C ρ s K (.mv x)=fq P C ρ s (fun v s'=>K v s' ⟨[],[],s.next,s.next⟩) (.mv x):=bU P C ρ s K _ rfl
theorem M4 (x y z:AO):eD P C ρ s K (.pick x y z)=fq P C ρ s (fun v s'=>K v s' ⟨[],[],s.next,s.next⟩) (.pick x y z):=bU P C ρ s K _ rfl
theorem Jf (z:List AV) (ps:List (Nat × Nat × AO)):eD P C ρ s K (.build z ps)=fq P C ρ s (fun v s'=>K v s' ⟨[],[],s.next,s.next⟩) (.build z ps):=bU P C ρ s K _ rfl
theorem Jl (x:AO):eD P C ρ s K (.nilck x)=fq P C ρ s (fun v s'=>K v s' ⟨[],[],s.next,s.next⟩) (.nilck x):=bU P C ρ s K _ rfl
theorem Rz (o:BinOp) (x y:AO):eD P C ρ s K (.bin o x y)=fq P C ρ s (fun v s'=>K v s' ⟨[],[],s.next,s.next⟩) (.bin o x y):=bU P C ρ s K _ rfl
theorem VA (neg:Bool) (t:p8) (x y:AO):eD P C ρ s K (.eq neg t x y) = @jY _ (eqv t (bD ρ x) (bD ρ y)) ⟨fun b=>K (.bool (if neg then !b else b)) s ⟨[],[],s.next,s.next⟩⟩:=by
  rw [dV P C ρ s K (.eq neg t x y) rfl]
  simp only [kE,bn,AO.ev]
  cases eqv t (bD ρ x) (bD ρ y) with
  | none=>rfl
  | some b=>simp only [iW,jY,jX,List.all_nil,true_and];rfl
theorem U8 (o:UnOp) (x:AO):eD P C ρ s K (.un o x)=fq P C ρ s (fun v s'=>K v s' ⟨[],[],s.next,s.next⟩) (.un o x):=bU P C ρ s K _ rfl
theorem Ru (k:IntKind) (x:AO):eD P C ρ s K (.i2i k x)=fq P C ρ s (fun v s'=>K v s' ⟨[],[],s.next,s.next⟩) (.i2i k x):=bU P C ρ s K _ rfl
theorem Qg (x:AO):eD P C ρ s K (.s2s x)=fq P C ρ s (fun v s'=>K v s' ⟨[],[],s.next,s.next⟩) (.s2s x):=bU P C ρ s K _ rfl
theorem QH (t:Nat) (x:AO):eD P C ρ s K (.ifc t x)=fq P C ρ s (fun v s'=>K v s' ⟨[],[],s.next,s.next⟩) (.ifc t x):=bU P C ρ s K _ rfl
theorem Nv (x:AO) (lo hi:Option AO):eD P C ρ s K (.slcS x lo hi)=fq P C ρ s (fun v s'=>K v s' ⟨[],[],s.next,s.next⟩) (.slcS x lo hi):=bU P C ρ s K _ rfl
theorem O5 (z:Nat) (x:AO) (lo hi:Option AO):eD P C ρ s K (.slc z x lo hi)=fq P C ρ s (fun v s'=>K v s' ⟨[],[],s.next,s.next⟩) (.slc z x lo hi):=bU P C ρ s K _ rfl
theorem JW (o:Nat) (x:AO):eD P C ρ s K (.faddr o x)=fq P C ρ s (fun v s'=>K v s' ⟨[],[],s.next,s.next⟩) (.faddr o x):=bU P C ρ s K _ rfl
theorem Ox (o:Nat) (n:Option Nat) (x:AO):eD P C ρ s K (.fld o n x)=fq P C ρ s (fun v s'=>K v s' ⟨[],[],s.next,s.next⟩) (.fld o n x):=bU P C ρ s K _ rfl
theorem Jm (a:Option Nat) (z:Nat) (x i:AO):eD P C ρ s K (.iaddr a z x i)=fq P C ρ s (fun v s'=>K v s' ⟨[],[],s.next,s.next⟩) (.iaddr a z x i):=bU P C ρ s K _ rfl
theorem Mc (x i:AO):eD P C ρ s K (.sidx x i)=fq P C ρ s (fun v s'=>K v s' ⟨[],[],s.next,s.next⟩) (.sidx x i):=bU P C ρ s K _ rfl
theorem Ll (l z:Nat) (n:Option Nat) (x i:AO):eD P C ρ s K (.aidx l z n x i)=fq P C ρ s (fun v s'=>K v s' ⟨[],[],s.next,s.next⟩) (.aidx l z n x i):=bU P C ρ s K _ rfl
theorem Oc (i:Nat) (x:AO):eD P C ρ s K (.ext i x)=fq P C ρ s (fun v s'=>K v s' ⟨[],[],s.next,s.next⟩) (.ext i x):=bU P C ρ s K _ rfl
theorem NW (x:AO):eD P C ρ s K (.len x)=fq P C ρ s (fun v s'=>K v s' ⟨[],[],s.next,s.next⟩) (.len x):=bU P C ρ s K _ rfl
theorem MV (x:AO):eD P C ρ s K (.lenS x)=fq P C ρ s (fun v s'=>K v s' ⟨[],[],s.next,s.next⟩) (.lenS x):=bU P C ρ s K _ rfl
theorem O8 (v:AV):eD P C ρ s K (.cst v)=fq P C ρ s (fun v s'=>K v s' ⟨[],[],s.next,s.next⟩) (.cst v):=bU P C ρ s K _ rfl
theorem Vu (m:Bool) (xs:List AO):eD P C ρ s K (.mm m xs)=fq P C ρ s (fun v s'=>K v s' ⟨[],[],s.next,s.next⟩) (.mm m xs):=bU P C ρ s K _ rfl
theorem Mk (n:Option Nat) (a:AO):eD P C ρ s K (.load n a) = @iW (bn (kE ρ (.load n a)) [] s.get s.next) (jX (kE ρ (.load n a)) []) s ⟨K⟩:=dV P C ρ s K _ rfl
theorem JI (n:Nat) (a x:AO):eD P C ρ s K (.store n a x) = @iW (bn (kE ρ (.store n a x)) [] s.get s.next) (jX (kE ρ (.store n a x)) []) s ⟨K⟩:=dV P C ρ s K _ rfl
theorem IK (z:List AV):eD P C ρ s K (.alloc z) = @iW (bn (kE ρ (.alloc z)) [] s.get s.next) (jX (kE ρ (.alloc z)) []) s ⟨K⟩:=dV P C ρ s K _ rfl
theorem QZ (x:AO):eD P C ρ s K (.box x) = @iW (bn (kE ρ (.box x)) [] s.get s.next) (jX (kE ρ (.box x)) []) s ⟨K⟩:=dV P C ρ s K _ rfl
theorem GQ (z:List AV) (n e:Nat) (ps:List (Nat × Nat × AO)):eD P C ρ s K (.bslice z n e ps) = @iW (bn (kE ρ (.bslice z n e ps)) [] s.get s.next) (jX (kE ρ (.bslice z n e ps)) []) s ⟨K⟩:=dV P C ρ s K _ rfl
theorem Si (x:AO):eD P C ρ s K (.b2s x) = @iW (bn (kE ρ (.b2s x)) [] s.get s.next) (jX (kE ρ (.b2s x)) []) s ⟨K⟩:=dV P C ρ s K _ rfl
theorem R5 (x:AO):eD P C ρ s K (.s2b x) = @iW (bn (kE ρ (.s2b x)) [] s.get s.next) (jX (kE ρ (.s2b x)) []) s ⟨K⟩:=dV P C ρ s K _ rfl
theorem QO (z b:Nat) (st:Bool) (x y:AO):eD P C ρ s K (.app z b st x y) = @iW (bn (kE ρ (.app z b st x y)) [] s.get s.next) (jX (kE ρ (.app z b st x y)) []) s ⟨K⟩:=dV P C ρ s K _ rfl
theorem DF (z:List AV) (b:Nat) (x y:AO):eD P C ρ s K (.mkslice z b x y) = @iW (bn (kE ρ (.mkslice z b x y)) [] s.get s.next) (jX (kE ρ (.mkslice z b x y)) []) s ⟨K⟩:=dV P C ρ s K _ rfl
theorem Ou (x:AO):eD P C ρ s K (.i2s x)=fq P C ρ s (fun v s'=>K v s' ⟨[],[],s.next,s.next⟩) (.i2s x):=bU P C ρ s K _ rfl
theorem MZ (x y:AO):eD P C ρ s K (.idxB x y)=fq P C ρ s (fun v s'=>K v s' ⟨[],[],s.next,s.next⟩) (.idxB x y):=bU P C ρ s K _ rfl
theorem QD (x:AO):eD P C ρ s K (.rng x) = @iW (bn (kE ρ (.rng x)) [] s.get s.next) (jX (kE ρ (.rng x)) []) s ⟨K⟩:=dV P C ρ s K _ rfl
theorem IZ:eD P C ρ s K .mkmap = @iW (some (.map s.next,[],[.map []])) [] s ⟨K⟩:=dV P C ρ s K _ rfl
theorem QE (kg:List Nat) (x:AO):eD P C ρ s K (.tas kg x) = @iW (bn (kE ρ (.tas kg x)) [] s.get s.next) (jX (kE ρ (.tas kg x)) []) s ⟨K⟩:=dV P C ρ s K _ rfl
theorem NT (z:Nat) (d x:AO):eD P C ρ s K (.cpy z d x) = @iW (bn (kE ρ (.cpy z d x)) [] s.get s.next) (jX (kE ρ (.cpy z d x)) []) s ⟨K⟩:=dV P C ρ s K _ rfl
theorem PW (z:List AV) (x:AO):eD P C ρ s K (.clr z x) = @iW (bn (kE ρ (.clr z x)) [] s.get s.next) (jX (kE ρ (.clr z x)) []) s ⟨K⟩:=dV P C ρ s K _ rfl
theorem Ol (tr:p8) (z:AV) (ok:Bool) (m k:AO):eD P C ρ s K (.lkp tr z ok m k) = @jZ (mP tr (bD ρ k)=true) ⟨@L6 (bD ρ m) s ⟨fun es=>@jY _ (Ef tr z ok (bD ρ k) es) ⟨fun v=>@jZ (((fH (bD ρ m)).all fun id=>decide (id < s.next))=true) ⟨K v s ⟨fH (bD ρ m),[],s.next,s.next⟩⟩⟩⟩⟩:=by
  rw [dV P C ρ s K _ rfl]
  simp only [kE,bn,AO.ev,jZ,jX]
  by_cases hk:mP tr (bD ρ k)=true
  · simp only [hk,if_true,true_and]
    cases bD ρ m <;> (try rfl)
    rename_i b
    simp only [L6]
    cases s.get b with
    | none=>rfl
    | some ob =>
      cases ob <;> (try rfl)
      rename_i es
      simp only [Ee]
      cases Ef tr z ok (bD ρ k) es <;> rfl
  · simp only [hk,Bool.false_eq_true,if_false,false_and];rfl
theorem Qu (tr:p8) (m k v:AO):eD P C ρ s K (.mup tr m k v) = @jZ (mP tr (bD ρ k)=true) ⟨@Q6 (bD ρ m) s ⟨fun p=>@jY _ (Ku tr (bD ρ k) (bD ρ v) p.2) ⟨fun es'=>@jZ (p.1 < s.next) ⟨@vC (s.put p.1 (.map es')) ⟨fun s'=>K .any s' ⟨[p.1],[p.1],s.next,s.next⟩⟩⟩⟩⟩⟩:=by
  rw [dV P C ρ s K _ rfl]
  simp only [kE,bn,AO.ev,jZ,jX]
  by_cases hk:mP tr (bD ρ k)=true
  · simp only [hk,if_true,true_and]
    cases bD ρ m <;> (try rfl)
    rename_i b
    simp only [Q6]
    cases s.get b with
    | none=>rfl
    | some ob =>
      cases ob <;> (try rfl)
      rename_i es
      simp only [Ee]
      cases Ku tr (bD ρ k) (bD ρ v) es with
      | none=>rfl
      | some es'=>simp only [iW,jY,fH,List.all_cons,List.all_nil,Bool.and_true,decide_eq_true_eq,St.apply,List.foldl,List.map,vC];rfl
  · simp only [hk,Bool.false_eq_true,if_false,false_and];rfl
theorem Vz (m:List Nat) (l:List aJ) (Q:bV) (ρ:Env) (s:St):W P C (.draw m l) Q ρ s=jr P C (fun ρ s es=>@jZ (aM m es 0 es=true) ⟨Q .normal ρ s⟩) l ρ s []:=rfl
theorem Od (m:List Nat) (l r:List aJ) (Q:bV) (ρ:Env) (s:St):W P C (.drawT m l r) Q ρ s=jr P C (fun ρ s es=>@jZ (aM m es 0 es=true) ⟨opsE P C (Q .normal) r ρ s⟩) l ρ s []:=rfl
end
end Go.AX
/- Typed values: how a Lean value lies in cells, and that what a row reads is one. -/
namespace Go.AX
open Go Go.RowKit Go.ChangeShapes
class Enc (α:Type) where
  sz:Nat
  cells:α → List AV
  av:α → AV
  ok:α → Prop
  len:∀ a,(cells a).length=sz
  one:∀ a,(cells a).all AV.one=true
  avc:∀ a,av a=.agg (cells a) ∨ (cells a=[av a] ∧ (av a).one=true)
  flat:∀ a,aI (cells a)=true
abbrev Str:=List UInt8
def aj {α:Type} [Enc α]:List α → List AV
  | []=>[]
  | a :: r=>Enc.cells a ++ aj r
theorem dh {α:Type} [Enc α]:∀ l:List α,(aj l).length=l.length * Enc.sz α
  | []=>by simp [aj]
  | a :: r=>by simp [aj,dh r,Enc.len,Nat.add_mul];omega
theorem o8:∀ a b:List AV,aI (a ++ b)=(aI a && aI b)
  | [],b=>rfl
  | x :: r,b=>by simp only [List.cons_append,aI,o8 r b,Bool.and_assoc]
theorem fT {α:Type} [Enc α]:∀ l:List α,aI (aj l)=true
  | []=>rfl
  | a :: r=>by simp only [aj,o8,Enc.flat,fT r,Bool.and_self]
theorem au {α:Type} [Enc α] (a:α):Go.AX.flat (Enc.av a)=true:=by
  have h:=Enc.flat a
  rcases Enc.avc a with h1 | ⟨h1,_⟩
  · rw [h1];simpa [Go.AX.flat] using h
  · rw [h1] at h;simpa [aI] using h
instance:Enc Int:=⟨1,fun n=>[.int .i64 n],fun n=>.int .i64 n,fun n=>-9223372036854775808 ≤ n ∧ n ≤ 9223372036854775807,fun _=>rfl,fun _=>rfl,fun _=>.inr ⟨rfl,rfl⟩,fun _=>rfl⟩
instance:Enc Bool:=⟨1,fun n=>[.bool n],fun n=>.bool n,fun _=>True,fun _=>rfl,fun _=>rfl,fun _=>.inr ⟨rfl,rfl⟩,fun _=>rfl⟩
instance:Enc Str:=⟨1,fun n=>[.str n],fun n=>.str n,fun n=>n.length ≤ 140737488355328,fun _=>rfl,fun _=>rfl,fun _=>.inr ⟨rfl,rfl⟩,fun _=>rfl⟩
instance (priority:=low) {α:Type} [Enc α]:Enc (List α):=⟨1,fun l=>[.ps l.length (aj l)],fun l=>.ps l.length (aj l),fun l=>l.length ≤ 140737488355328 ∧ ∀ a ∈ l,Enc.ok a,fun _=>rfl,fun _=>rfl,fun _=>.inr ⟨rfl,rfl⟩,fun l=>by simp only [aI,Go.AX.flat,fT,Bool.and_self]⟩
theorem lD {α:Type} [Enc α]:∀ (l:List α) (k:Nat),(aj l).drop (k * Enc.sz α)=aj (l.drop k)
  | l,0=>by simp
  | [],k + 1=>by simp [aj]
  | a :: r, k + 1 => by
    simp only [aj,List.drop_succ_cons]
    rw [Nat.add_mul,Nat.one_mul,Nat.add_comm,← List.drop_drop,List.drop_left' (Enc.len a),lD r k]
theorem wZ {α:Type} [Enc α]:∀ (l:List α) (k:Nat),(aj l).take (k * Enc.sz α)=aj (l.take k)
  | l,0=>by simp [aj]
  | [],k + 1=>by simp [aj]
  | a :: r, k + 1 => by
    simp only [aj,List.take_succ_cons]
    rw [Nat.add_mul,Nat.one_mul,Nat.add_comm,List.take_append,Enc.len,List.take_of_length_le (by rw [Enc.len];omega),show Enc.sz α + k * Enc.sz α - Enc.sz α=k * Enc.sz α by omega,wZ r k]
theorem aU {α:Type} [Enc α]:∀ (l r:List α),aj (l ++ r)=aj l ++ aj r
  | [],r=>rfl
  | a :: l,r=>by simp only [List.cons_append,aj,aU l r,List.append_assoc]
theorem mY {α:Type} [Enc α] (l:List α) (k:Nat):bW k (Enc.sz α) (.ps (List.length l) (aj l))=(l[k]?).map fun x=>.vp (Enc.cells x ++ aj (l.drop (k + 1))):=by
  simp only [bW]
  by_cases h:k < l.length
  · rw [if_pos h,lD]
    have:l[k]? = some l[k]:=by simp [h]
    rw [this,List.drop_eq_getElem_cons h]
    rfl
  · rw [if_neg h,List.getElem?_eq_none (by omega)];rfl
theorem Lu (l:List Int) (k:Nat):bW k 1 (.ps (List.length l) (aj l))=(l[k]?).map fun x=>.vp (Enc.cells x ++ aj (l.drop (k + 1))):=mY l k
theorem LQ (l:List Str) (k:Nat):bW k 1 (.ps (List.length l) (aj l))=(l[k]?).map fun x=>.vp (Enc.cells x ++ aj (l.drop (k + 1))):=mY l k
theorem IX (l:List Bool) (k:Nat):bW k 1 (.ps (List.length l) (aj l))=(l[k]?).map fun x=>.vp (Enc.cells x ++ aj (l.drop (k + 1))):=mY l k
theorem PZ {α:Type} [Enc α] (l:List (List α)) (k:Nat):bW k 1 (.ps (List.length l) (aj l))=(l[k]?).map fun x=>.vp (Enc.cells x ++ aj (l.drop (k + 1))):=mY l k
theorem Jt (n:Int):Enc.cells n=[.int .i64 n]:=rfl
theorem Ib (n:Bool):Enc.cells n=[.bool n]:=rfl
theorem IJ (n:Str):Enc.cells n=[.str n]:=rfl
theorem RI {α:Type} [Enc α] (l:List α):Enc.cells l=[.ps (List.length l) (aj l)]:=rfl
theorem Tc (n:Int):Enc.av n=.int .i64 n:=rfl
theorem Pm (n:Bool):Enc.av n=.bool n:=rfl
theorem Vs (n:Str):Enc.av n=.str n:=rfl
theorem YD {α:Type} [Enc α] (l:List α):Enc.av l=.ps (List.length l) (aj l):=rfl
def TH {H:Type} (P:Program) (t:TypeId) (d:DataW H):Prop:=(d.weights P t).all (· ≤ reachBytes)=true
theorem KT {H:Type} {P:Program} {e:TypeId}:∀ {ds:List (DataW H)},(DataW.weightsAll P e ds).all (· ≤ reachBytes)=true → ∀ d ∈ ds,TH P e d
  | [],_,d,hd=>by simp at hd
  | x :: r, h, d, hd => by
    simp only [DataW.weightsAll,List.all_append,Bool.and_eq_true] at h
    rcases List.mem_cons.1 hd with rfl | hd
    · exact h.1
    · exact KT h.2 d hd
theorem lu {H:Type} {P:Program}:∀ {ts:List TypeId} {ds:List (DataW H)},(DataW.weightsEach P ts ds).all (· ≤ reachBytes)=true → ∀ (i:Nat) (t:TypeId) (d:DataW H),ts[i]? = some t → ds[i]? = some d → TH P t d
  | [],ds,_,i,t,d,ht,_=>by simp at ht
  | t0 :: ts,[],_,i,t,d,_,hd=>by simp at hd
  | t0 :: ts, d0 :: ds, h, i, t, d, ht, hd => by
    simp only [DataW.weightsEach,List.all_append,Bool.and_eq_true] at h
    cases i with
    | zero=>simp at ht hd;subst ht;subst hd;exact h.1
    | succ i=>exact lu h.2 i t d (by simpa using ht) (by simpa using hd)
def jl (P:Program) (t:TypeId) (α:Type) [Enc α] (n:Nat):Prop:=
  ∀ (H : Type) (enc : TypeId × Value → H) (W : World) [LK W] (sp : Nat → Bool) (hd : Bool) (cs : List Value) (x : DataW H × List MemPlace),
    DataW.trod enc P W 0 sp hd n t cs=some x → TH P t x.1 → ∃ a:α,aB (tq W) (Enc.cells a) cs ∧ Enc.ok a
def Reads (P:Program) (t:TypeId) (α:Type) [Enc α]:Prop:=∀ n,jl P t α n
section
variable {P:Program} {t e:TypeId}
theorem BH {α:Type} [Enc α]:jl P t α 0:=fun H enc W _ sp hd cs x h _=>by simp [DataW.trod] at h
theorem LH (hu:P.underlying t=some (.int .i64)):Reads P t Int:=fun n H enc W _ sp hd cs x h _=>by
  cases n with
  | zero=>simp [DataW.trod] at h
  | succ n =>
    simp only [DataW.trod,hu] at h
    split at h
    all_goals (try (simp at *;done))
    rename_i k k' m he
    simp only [Option.some.injEq,TypeDesc.int.injEq] at he
    subst he
    split at h
    · rename_i hc
      obtain ⟨rfl,hw⟩:=hc
      refine ⟨m,?_,?_⟩
      · exact ⟨_,[],rfl,rfl,rfl⟩
      · simp [Lit.wf,IntKind.min,IntKind.max,IntKind.bits,IntKind.signed] at hw
        exact hw
    · simp at h
theorem LG (hu:P.underlying t=some .string):Reads P t Str:=fun n H enc W _ sp hd cs x h hw=>by
  cases n with
  | zero=>simp [DataW.trod] at h
  | succ n =>
    simp only [DataW.trod,hu] at h
    split at h
    all_goals (try (simp at *;done))
    rename_i s he
    split at h
    · rename_i hc
      refine ⟨s.data.toList,⟨_,[],rfl,by simp [aD],rfl⟩,?_⟩
      simp only [Option.some.injEq] at h
      subst h
      simp only [TH,DataW.weights,List.all_cons,List.all_nil,Bool.and_true,decide_eq_true_eq] at hw
      unfold reachBytes at hw
      show s.data.toList.length ≤ _
      omega
    · simp at h
theorem vg {γ β:Type} {f:γ → Option β}:∀ {l:List γ} {ys:List β},l.mapM f=some ys → ys.length=l.length ∧ ∀ (i:Nat) (x:γ),l[i]? = some x → ∃ y,ys[i]? = some y ∧ f x=some y
  | [],ys,h=>by simp at h;subst h;simp
  | a :: r, ys, h => by
    rw [List.mapM_cons] at h
    cases ha:f a with
    | none=>rw [ha] at h;simp at h
    | some b =>
      cases hr:r.mapM f with
      | none=>rw [ha,hr] at h;simp at h
      | some bs =>
        rw [ha,hr] at h
        simp at h
        subst h
        obtain ⟨h1,h2⟩:=vg hr
        refine ⟨by simp [h1],fun i x hx=>?_⟩
        cases i with
        | zero=>simp at hx;subst hx;exact ⟨b,rfl,ha⟩
        | succ i=>simpa using h2 i x (by simpa using hx)
theorem yU {W:World} [LK W] {k o:Nat} {xs:List AV} {us:List Value} (h1:xs.all AV.one=true) (hr:aB (tq W) xs us) (hc:∀ i,i < us.length → W.cell? ⟨k,o + i,none⟩=us[i]?):bG (tq W) k o xs:=
  bG.eU fun i x hx=>by
    obtain ⟨u,hu,r⟩:=hr.get i x hx
    have hi:i < us.length:=by
      rcases Nat.lt_or_ge i us.length with h | h
      · exact h
      · rw [List.getElem?_eq_none h] at hu;simp at hu
    have h1x:x.one=true:=List.all_eq_true.1 h1 x (List.mem_of_getElem? hx)
    exact ⟨u,XQ (by rw [hc i hi,hu]) (r.one h1x),r⟩
theorem Lm {W:World} {a:Addr} {n:Nat} {us:List Value} (h:W.cells? 0 a n=some us):us.length=n ∧ ∀ i,i < n → W.cell? (a.add i)=us[i]?:=by
  simp only [World.cells?,Nat.zero_le,if_true] at h
  obtain ⟨h1,h2⟩:=vg h
  refine ⟨by simpa using h1,fun i hi=>?_⟩
  obtain ⟨y,hy,hf⟩:=h2 i i (by simp [hi])
  rw [hf,hy]
theorem zS {α:Type} [Enc α] {W:World} [LK W] {k:Nat}:∀ {l:List α} {o:Nat},(∀ (i:Nat) (a:α),l[i]? = some a → bG (tq W) k (o + i * Enc.sz α) (Enc.cells a)) → bG (tq W) k o (aj l)
  | [],o,_=>by simp [aj,bG]
  | a :: r, o, h => by
    refine bG.append (by simpa using h 0 a rfl) ?_
    rw [Enc.len]
    refine zS fun i b hb=>?_
    have:=h (i + 1) b (by simpa using hb)
    rwa [show o + (i + 1) * Enc.sz α=o + Enc.sz α + i * Enc.sz α by rw [Nat.add_mul];omega] at this
theorem qN {α:Type} [Enc α] (hu:P.underlying t=some (.slice e)) (hz:P.cellsOf e=Enc.sz α) (hsz:0 < Enc.sz α) (hby:0 < P.bytesOf e) {n:Nat} (he:∀ m,m < n → jl P e α m):jl P t (List α) n:=fun H enc W _ sp hd cs x h hw=>by
  cases n with
  | zero=>simp [DataW.trod] at h
  | succ n =>
    simp only [DataW.trod,hu] at h
    split at h
    all_goals (try (simp at *;done))
    · exact ⟨[],⟨_,[],rfl,.inl ⟨rfl,rfl,none,0,rfl⟩,rfl⟩,by simp [Enc.ok]⟩
    · rename_i e' a len cap heq
      simp only [Option.some.injEq,TypeDesc.slice.injEq] at heq
      subst heq
      split at h
      · rename_i hc
        obtain ⟨_,hlc,hcap⟩:=hc
        simp only [Option.bind_eq_some_iff] at h
        obtain ⟨elems,hel,hx⟩:=h
        obtain ⟨hl,hget⟩:=vg hel
        simp only [Option.map_eq_some_iff] at hx
        obtain ⟨rest,_,rfl⟩:=hx
        simp only [TH,DataW.weights,hu,List.all_cons,List.all_append,Bool.and_eq_true,decide_eq_true_eq,List.length_map] at hw
        obtain ⟨hw1,hw2,_⟩:=hw
        have hw3:=KT hw2
        rw [List.length_range] at hl
        by_cases hz0:len=0
        · subst hz0
          exact ⟨[],⟨_,[],rfl,.inl ⟨rfl,rfl,some a,cap,rfl⟩,rfl⟩,by simp [Enc.ok]⟩
        have hone:∀ i,i < len → ∃ (b:α) (us:List Value),us.length=Enc.sz α ∧ (∀ j,j < us.length → W.cell? ((a.add (i * Enc.sz α)).add j)=us[j]?) ∧ aB (tq W) (Enc.cells b) us ∧ Enc.ok b:=fun i hi=>by
          obtain ⟨y,hy,hf⟩:=hget i i (by simp [hi])
          rw [hz] at hf
          simp only [Option.bind_eq_some_iff] at hf
          obtain ⟨us,hus,hf⟩:=hf
          obtain ⟨g1,g2⟩:=Lm hus
          obtain ⟨b,r1,r2⟩:=he n (Nat.lt_succ_self n) H enc W sp hd us y hf (hw3 y.1 (List.mem_map.2 ⟨y,List.mem_of_getElem? hy,rfl⟩))
          exact ⟨b,us,g1,by rw [g1];exact g2,r1,r2⟩
        -- the address has no spot
        have hpos:0 < Enc.sz α ∨ Enc.sz α=0:=by omega
        rcases hpos with hpos | hpos
        · have hspot : a.spot = none := by
            obtain ⟨b,us,g1,g2,_,_⟩:=hone 0 (by omega)
            have:=g2 0 (by omega)
            rw [Nat.zero_mul] at this
            have hu0:us[0]? = some us[0]:=by simp [g1,hpos]
            rw [hu0] at this
            cases hsp:a.spot with
            | none=>rfl
            | some x =>
              simp [Addr.add,World.cell?,hsp] at this
              split at this <;> simp at this
          obtain ⟨k,o,spp⟩:=a
          simp only at hspot
          subst hspot
          have hadd:∀ i j,((⟨k,o,none⟩:Addr).add i).add j=⟨k,o + i + j,none⟩:=fun i j=>by
            simp only [Addr.add]
            by_cases h1:i=0 <;> by_cases h2:j=0 <;> simp [h1,h2]
          -- choose
          have hch:∀ n',n' ≤ len → ∃ l:List α,l.length=n' ∧ ∀ i b,l[i]? = some b → bG (tq W) k (o + i * Enc.sz α) (Enc.cells b) ∧ Enc.ok b:=fun n'=>by
            induction n' with
            | zero=>intro _;exact ⟨[],rfl,by simp⟩
            | succ n' ih =>
              intro hle
              obtain ⟨l,hl1,hl2⟩:=ih (by omega)
              obtain ⟨b,us,g1,g2,g3,g4⟩:=hone n' (by omega)
              refine ⟨l ++ [b],by simp [hl1],fun i b' hb'=>?_⟩
              by_cases hi:i < n'
              · rw [List.getElem?_append_left (by omega)] at hb';exact hl2 i b' hb'
              · have hi':i=n':=by
                  rcases Nat.lt_or_ge i (n' + 1) with h | h
                  · omega
                  · rw [List.getElem?_eq_none (by simp [hl1];omega)] at hb';simp at hb'
                subst hi'
                rw [List.getElem?_append_right (by omega)] at hb'
                simp [hl1] at hb'
                subst hb'
                exact ⟨yU (Enc.one b) g3 (fun j hj=>by have:=g2 j hj;rwa [hadd] at this),g4⟩
          obtain ⟨l,hl1,hl2⟩:=hch len (Nat.le_refl _)
          refine ⟨l,⟨_,[],rfl,.inr ⟨k,o,cap,by rw [hl1],by omega,zS fun i b hb=>(hl2 i b hb).1⟩,rfl⟩,?_⟩
          have hle:len ≤ (elems.length + rest.length) * P.bytesOf e:=by
            exact Nat.le_trans (show len ≤ elems.length + rest.length by omega) (Nat.le_mul_of_pos_right _ hby)
          unfold reachBytes at hw1
          refine ⟨by omega,fun b hb=>?_⟩
          obtain ⟨i,hi⟩:=List.mem_iff_getElem?.1 hb
          exact (hl2 i b hi).2
        · exact absurd hpos (by have:=hsz;omega)
      · simp at h
def qQ (P:Program) (f:Field):Nat × Nat × TypeId:=(f.offset,P.cellsOf f.type,f.type)
theorem trod_struct {H:Type} {enc:TypeId × Value → H} {W:World} {sp:Nat → Bool} {hd:Bool} {cs:List Value} {x:DataW H × List MemPlace} {n:Nat} {fs:Array Field} (hu:P.underlying t=some (.struct fs))
    {rows:List (Nat × Nat × TypeId)} (hf:fs.toList.map (qQ P)=rows) (h:DataW.trod enc P W 0 sp hd (n + 1) t cs=some x) (hw:TH P t x.1) :
    cs.length=P.cellsOf t ∧ ∀ r ∈ rows,∃ y,DataW.trod enc P W 0 sp hd n r.2.2 ((cs.drop r.1).take r.2.1)=some y ∧ TH P r.2.2 y.1:=by
  simp only [DataW.trod,hu] at h
  split at h
  · rename_i hc
    refine ⟨hc,fun r hr=>?_⟩
    rw [← hf,List.mem_map] at hr
    obtain ⟨f,hf1,rfl⟩:=hr
    simp only [Option.map_eq_some_iff] at h
    obtain ⟨ys,hys,rfl⟩:=h
    obtain ⟨i,hi⟩:=List.mem_iff_getElem?.1 hf1
    obtain ⟨y,hyi,hy⟩:=(vg hys).2 i f hi
    simp only [TH,DataW.weights,hu] at hw
    exact ⟨y,hy,lu hw i f.type y.1 (by simp [hi]) (by simp [hyi])⟩
  · simp at h
theorem jS {c:Ctx} {A B:List AV} {us:List Value} {o z:Nat} (h1:aB c A ((us.drop o).take z)) (h2:aB c B (us.drop (o + z))):aB c (A ++ B) (us.drop o):=by
  have:=h1.append h2
  rwa [← List.drop_drop,List.take_append_drop] at this
theorem Gt {c:Ctx} {us:List Value} {o:Nat} (h:us.length=o):aB c [] (us.drop o):=by
  simp only [aB];exact List.drop_of_length_le (by omega)
theorem UQ {α:Type} [Enc α] {c:Ctx} {a:α} {v:Value} (h:aB c (Enc.cells a) v.cells.toList) (hv:(∃ cs,v=.agg cs) ↔ Enc.av a=.agg (Enc.cells a)) (ht:∀ vs,v ≠ .tuple vs):aD c (Enc.av a) v:=by
  by_cases hag:Enc.av a=.agg (Enc.cells a)
  · obtain ⟨cs,rfl⟩:=hv.2 hag
    rw [hag]
    simp only [aD]
    exact ⟨cs.toList,by simp,by simpa [Value.cells] using h⟩
  · rcases Enc.avc a with h1 | ⟨h1,h2⟩
    · exact absurd h1 hag
    · rw [h1] at h
      have:v.cells = #[v]:=by
        cases v <;> first | rfl | skip
        · rename_i cs;exact absurd (hv.1 ⟨cs,rfl⟩) hag
      rw [this] at h
      simp only [aB] at h
      obtain ⟨u,us,he,r,rfl⟩:=h
      simp at he
      subst he
      exact r
end
end Go.AX
/- The types: by tygen.py. -/
namespace Go.AX
open Go
namespace Ty
@[ext] structure Attr where
  name:Str
  value:Str
  deriving DecidableEq
instance:Enc Attr:=⟨2,fun x=>[.str x.name,.str x.value],fun x=>.agg [.str x.name,.str x.value],fun x=>Enc.ok x.name ∧ Enc.ok x.value,fun _=>rfl,fun _=>rfl,fun _=>.inl rfl,fun _=>by simp only [aI,Go.AX.flat,fT,Bool.and_self]⟩
theorem Attr.oN (x:Attr):Enc.ok x ↔ (Enc.ok x.name ∧ Enc.ok x.value):=Iff.rfl
theorem Attr.bY (x:Attr):Enc.cells x=[.str x.name,.str x.value]:=rfl
theorem Attr.KA (x:Attr):Enc.av x=.agg [.str x.name,.str x.value]:=rfl
theorem Attr.elem (l:List Attr) (k:Nat):bW k 2 (.ps (List.length l) (aj l))=(l[k]?).map fun x=>.vp (Enc.cells x ++ aj (l.drop (k + 1))):=mY l k
theorem Attr.jm (l:List Attr):(aj l).length=List.length l * 2:=dh l
theorem EK {P:Program} {t t0 t1:TypeId} {fs:Array Field} {n:Nat} (hu:P.underlying t=some (.struct fs)) (hf:fs.toList.map (qQ P)=[(0,1,t0),(1,1,t1)]) (hc:P.cellsOf t=2) (h0:jl P t0 Str n) (h1:jl P t1 Str n):jl P t Attr (n + 1):=fun H enc W _ sp hd cs x hx hw=>by
  obtain ⟨g1,g2⟩:=trod_struct hu hf hx hw
  rw [hc] at g1
  obtain ⟨y0,e0,z0⟩:=g2 (0,1,t0) (by simp)
  obtain ⟨a0,r0,k0⟩:=h0 H enc W sp hd _ _ e0 z0
  obtain ⟨y1,e1,z1⟩:=g2 (1,1,t1) (by simp)
  obtain ⟨a1,r1,k1⟩:=h1 H enc W sp hd _ _ e1 z1
  refine ⟨.mk a0 a1,?_,(Attr.oN _).2 ⟨k0,k1⟩⟩
  have hh:=(jS (o:=0) (z:=1) r0 (jS (o:=1) (z:=1) r1 (Gt (o:=2) g1)))
  rw [List.drop_zero] at hh
  rw [Attr.bY];exact hh
theorem Kg {P:Program} {t t0 t1:TypeId} {fs:Array Field} (hu:P.underlying t=some (.struct fs)) (hf:fs.toList.map (qQ P)=[(0,1,t0),(1,1,t1)]) (hc:P.cellsOf t=2) (h0:Reads P t0 Str) (h1:Reads P t1 Str):Reads P t Attr:=fun n=>by
  cases n with
  | zero=>exact BH
  | succ n=>exact EK hu hf hc (h0 n) (h1 n)
@[ext] structure Node where
  name:Str
  attrs:List Attr
  text:Str
  up:Int
  kids:List Int
  deriving DecidableEq
instance:Enc Node:=⟨5,fun x=>[.str x.name,.ps (List.length x.attrs) (aj x.attrs),.str x.text,.int .i64 x.up,.ps (List.length x.kids) (aj x.kids)],fun x=>.agg [.str x.name,.ps (List.length x.attrs) (aj x.attrs),.str x.text,.int .i64 x.up,.ps (List.length x.kids) (aj x.kids)],fun x=>Enc.ok x.name ∧ Enc.ok x.attrs ∧ Enc.ok x.text ∧ Enc.ok x.up ∧ Enc.ok x.kids,fun _=>rfl,fun _=>rfl,fun _=>.inl rfl,fun _=>by simp only [aI,Go.AX.flat,fT,Bool.and_self]⟩
theorem Node.oN (x:Node):Enc.ok x ↔ (Enc.ok x.name ∧ Enc.ok x.attrs ∧ Enc.ok x.text ∧ Enc.ok x.up ∧ Enc.ok x.kids):=Iff.rfl
theorem Node.bY (x:Node):Enc.cells x=[.str x.name,.ps (List.length x.attrs) (aj x.attrs),.str x.text,.int .i64 x.up,.ps (List.length x.kids) (aj x.kids)]:=rfl
theorem Node.KA (x:Node):Enc.av x=.agg [.str x.name,.ps (List.length x.attrs) (aj x.attrs),.str x.text,.int .i64 x.up,.ps (List.length x.kids) (aj x.kids)]:=rfl
theorem Node.elem (l:List Node) (k:Nat):bW k 5 (.ps (List.length l) (aj l))=(l[k]?).map fun x=>.vp (Enc.cells x ++ aj (l.drop (k + 1))):=mY l k
theorem Node.jm (l:List Node):(aj l).length=List.length l * 5:=dh l
theorem Dy {P:Program} {t t0 t1 t2 t3 t4:TypeId} {fs:Array Field} {n:Nat} (hu:P.underlying t=some (.struct fs)) (hf:fs.toList.map (qQ P)=[(0,1,t0),(1,1,t1),(2,1,t2),(3,1,t3),(4,1,t4)]) (hc:P.cellsOf t=5) (h0:jl P t0 Str n) (h1:jl P t1 (List Attr) n) (h2:jl P t2 Str n) (h3:jl P t3 Int n) (h4:jl P t4 (List Int) n):jl P t Node (n + 1):=fun H enc W _ sp hd cs x hx hw=>by
  obtain ⟨g1,g2⟩:=trod_struct hu hf hx hw
  rw [hc] at g1
  obtain ⟨y0,e0,z0⟩:=g2 (0,1,t0) (by simp)
  obtain ⟨a0,r0,k0⟩:=h0 H enc W sp hd _ _ e0 z0
  obtain ⟨y1,e1,z1⟩:=g2 (1,1,t1) (by simp)
  obtain ⟨a1,r1,k1⟩:=h1 H enc W sp hd _ _ e1 z1
  obtain ⟨y2,e2,z2⟩:=g2 (2,1,t2) (by simp)
  obtain ⟨a2,r2,k2⟩:=h2 H enc W sp hd _ _ e2 z2
  obtain ⟨y3,e3,z3⟩:=g2 (3,1,t3) (by simp)
  obtain ⟨a3,r3,k3⟩:=h3 H enc W sp hd _ _ e3 z3
  obtain ⟨y4,e4,z4⟩:=g2 (4,1,t4) (by simp)
  obtain ⟨a4,r4,k4⟩:=h4 H enc W sp hd _ _ e4 z4
  refine ⟨.mk a0 a1 a2 a3 a4,?_,(Node.oN _).2 ⟨k0,k1,k2,k3,k4⟩⟩
  have hh:=(jS (o:=0) (z:=1) r0 (jS (o:=1) (z:=1) r1 (jS (o:=2) (z:=1) r2 (jS (o:=3) (z:=1) r3 (jS (o:=4) (z:=1) r4 (Gt (o:=5) g1))))))
  rw [List.drop_zero] at hh
  rw [Node.bY];exact hh
theorem Jg {P:Program} {t t0 t1 t2 t3 t4:TypeId} {fs:Array Field} (hu:P.underlying t=some (.struct fs)) (hf:fs.toList.map (qQ P)=[(0,1,t0),(1,1,t1),(2,1,t2),(3,1,t3),(4,1,t4)]) (hc:P.cellsOf t=5) (h0:Reads P t0 Str) (h1:Reads P t1 (List Attr)) (h2:Reads P t2 Str) (h3:Reads P t3 Int) (h4:Reads P t4 (List Int)):Reads P t Node:=fun n=>by
  cases n with
  | zero=>exact BH
  | succ n=>exact Dy hu hf hc (h0 n) (h1 n) (h2 n) (h3 n) (h4 n)
@[ext] structure Tag where
  kind:Int
  name:Str
  attrs:List Attr
  text:Str
  deriving DecidableEq
instance:Enc Tag:=⟨4,fun x=>[.int .i64 x.kind,.str x.name,.ps (List.length x.attrs) (aj x.attrs),.str x.text],fun x=>.agg [.int .i64 x.kind,.str x.name,.ps (List.length x.attrs) (aj x.attrs),.str x.text],fun x=>Enc.ok x.kind ∧ Enc.ok x.name ∧ Enc.ok x.attrs ∧ Enc.ok x.text,fun _=>rfl,fun _=>rfl,fun _=>.inl rfl,fun _=>by simp only [aI,Go.AX.flat,fT,Bool.and_self]⟩
theorem Tag.oN (x:Tag):Enc.ok x ↔ (Enc.ok x.kind ∧ Enc.ok x.name ∧ Enc.ok x.attrs ∧ Enc.ok x.text):=Iff.rfl
theorem Tag.bY (x:Tag):Enc.cells x=[.int .i64 x.kind,.str x.name,.ps (List.length x.attrs) (aj x.attrs),.str x.text]:=rfl
theorem Tag.KA (x:Tag):Enc.av x=.agg [.int .i64 x.kind,.str x.name,.ps (List.length x.attrs) (aj x.attrs),.str x.text]:=rfl
theorem Tag.elem (l:List Tag) (k:Nat):bW k 4 (.ps (List.length l) (aj l))=(l[k]?).map fun x=>.vp (Enc.cells x ++ aj (l.drop (k + 1))):=mY l k
theorem Tag.jm (l:List Tag):(aj l).length=List.length l * 4:=dh l
end Ty
attribute [go_sem] Ty.Attr.elem Ty.Node.elem Ty.Tag.elem
attribute [go_sem] Ty.Attr.bY Ty.Node.bY Ty.Tag.bY
attribute [go_sem] Ty.Attr.KA Ty.Node.KA Ty.Tag.KA
end Go.AX
/- The arguments of a row, one by one. -/
namespace Go.AX
open Go Go.RowKit Go.ChangeShapes
section
variable {P:Program} {t:TypeId} {W:World} [LK W] {v:Value} {base:Nat} {H:Type} {enc:TypeId × Value → H} {d:DataW H} {ps:List MemPlace}
theorem ow {α:Type} [Enc α] (h:Reads P t α) {td:TypeDesc} (hu:P.underlying t=some td) (htd:(∃ k,td=.int k) ∨ td=.bool ∨ td=.string ∨ ∃ e,td=.slice e) (hav:∀ a:α,(Enc.av a).one=true)
    (hval:Value.okWide P W .any base t v) (ht:DataW.Trod enc P W 0 (fun _=>true) true t v d ps) (hw:TH P t d):∃ a:α,aD (tq W) (Enc.av a) v ∧ Enc.ok a:=by
  obtain ⟨n,hn⟩:=ht
  obtain ⟨a,h1,h2⟩:=h n H enc W _ _ _ _ hn hw
  have hne:Enc.av a ≠ .agg (Enc.cells a):=fun he=>by have:=hav a;rw [he] at this;simp [AV.one] at this
  have hv:(∀ cs,v ≠ .agg cs) ∧ ∀ cs,v ≠ .tuple cs:=by
    unfold Value.okWide at hval
    rw [hu] at hval
    rcases htd with ⟨k,rfl⟩ | rfl | rfl | ⟨e,rfl⟩ <;> simp only [Cell.okWide,hu,Cell.ok] at hval <;>
      refine ⟨fun cs hc=>?_,fun cs hc=>?_⟩ <;> subst hc <;> simp at hval
  exact ⟨a,UQ h1 ⟨fun ⟨cs,hc⟩=>absurd hc (hv.1 cs),fun he=>absurd he hne⟩ (fun vs=>hv.2 vs),h2⟩
theorem KR {c:Ctx} {x:AV} {v:Value} (h:aD c x v):aB c [x] (#[v]:Array Value).toList:=⟨v,[],rfl,h,rfl⟩
theorem YV {c:Ctx} {x y:AV} {v u:Value} (h:aD c x v) (h2:aD c y u):aB c [x,y] (#[v,u]:Array Value).toList:=⟨v,[u],rfl,h,u,[],rfl,h2,rfl⟩
end
end Go.AX
/- Loops. -/
namespace Go.AX
open Go
section
variable {P:Program} {C:Known}
def uY (ρ:Env):List (Nat × AV) → Env
  | []=>ρ
  | p :: r=>upd (uY ρ r) p.1 p.2
def agree (ρ:Env):List (Nat × AV) → Prop
  | []=>True
  | p :: r=>ρ p.1=p.2 ∧ agree ρ r
theorem QU {ρ:Env} {i:Nat} {v:AV} (h:ρ i=v):upd ρ i v=ρ:=by
  funext j
  by_cases hj:j=i
  · subst hj;simp [upd,h]
  · simp [upd,hj]
theorem iI {ρ:Env}:∀ {l:List (Nat × AV)},agree ρ l → uY ρ l=ρ
  | [],_=>rfl
  | p :: r,h=>by simp only [uY];rw [iI h.2];exact QU h.1
theorem N9 (ρ:Env):uY ρ []=ρ:=rfl
theorem Lp (ρ:Env) (i:Nat) (v:AV) (r:List (Nat × AV)):uY ρ ((i,v) :: r)=upd (uY ρ r) i v:=rfl
theorem LC (ρ:Env):agree ρ []=True:=rfl
theorem Ka (ρ:Env) (i:Nat) (v:AV) (r:List (Nat × AV)):agree ρ ((i,v) :: r)=(ρ i=v ∧ agree ρ r):=rfl
theorem QY {σ:Type} {a:bL} {Q:bV} {ρ:Env} {s:St} (μ:σ → Nat) (I:σ → Env → St → Prop) (x0:σ) (h0:I x0 ρ s)
    (h:∀ x ρ s,I x ρ s → W P C a (kF (fun ρ' s'=>∃ y,μ y < μ x ∧ I y ρ' s') Q) ρ s):@Ky P C a ρ s ⟨Q⟩:=
  Qh (I:=fun n ρ s=>∃ x,μ x=n ∧ I x ρ s) (fun n ρ s ⟨x,hx,hi⟩=>by
    subst hx
    refine qF a (fun e ρ' s' hq=>?_) _ _ (h x ρ s hi)
    cases e with
    | normal=>obtain ⟨y,hy,hi'⟩:=hq;exact ⟨μ y,hy,y,rfl,hi'⟩
    | _=>exact hq) ⟨x0,rfl,h0⟩
theorem bA {σ:Type} {a:bL} {Q:bV} {ρ:Env} {s:St} (μ:σ → Nat) (L:σ → List (Nat × AV)) (J:σ → St → Prop) (x0:σ) (h0:agree ρ (L x0) ∧ J x0 s)
    (h:∀ x ρ s,J x s → W P C a (kF (fun ρ' s'=>∃ y,μ y < μ x ∧ agree ρ' (L y) ∧ J y s') Q) (uY ρ (L x)) s):@Ky P C a ρ s ⟨Q⟩:=
  QY μ (fun x ρ s=>agree ρ (L x) ∧ J x s) x0 h0 fun x ρ s hi=>by
    have:=h x ρ s hi.2
    rwa [iI hi.1] at this
end
end Go.AX
/- The rules as one set. -/
namespace Go.AX
open Go
theorem Tz (c:Prop) (X Y:Prop):@vT (¬ c) ⟨X⟩ ⟨Y⟩ = @vT c ⟨Y⟩ ⟨X⟩:=by
  simp only [vT,LV,Classical.not_not];exact propext ⟨fun ⟨a,b⟩=>⟨b,a⟩,fun ⟨a,b⟩=>⟨b,a⟩⟩
theorem Xk (b:Bool) (X Y:Prop):@vT (b=false) ⟨X⟩ ⟨Y⟩ = @vT (b=true) ⟨Y⟩ ⟨X⟩:=by
  cases b <;> simp [vT,LV]
theorem fJ {c:Prop} {X Y:Prop} (h1:c → c=True → X) (h2:¬ c → c=False → Y):@vT c ⟨X⟩ ⟨Y⟩:=⟨fun h=>h1 h (eq_true h),fun h=>h2 h (eq_false h)⟩
attribute [go_sem] Mi Qb II IB ED vz
attribute [go_sem ↓] UD Tf Va Og QE NT
attribute [go_sem ↓] SE SV NJ TT QC UY TJ SK Ou MZ QD IZ PW Ol Qu J2 Du Li Ud M4 Jf Jl Rz VA U8 Ru Qg QH Nv O5 JW Ox Jm Mc Ll Oc NW MV O8 Vu Mx Mk JI IK QZ GQ Si R5 QO DF  Xa Sj Vz Od Yo WQ Tj XD XJ YM Eo NI JU xS DI BZ Co Hg Pn Qd LX IU Nh JJ Io Ii Kv FY Xz Vw NZ Nq SS Xl Xn P9 MX Uw M7 UR Pp Mf Ml VB Sn TF NG Kj Ui TK QV Ot U6 UK PY
attribute [go_sem] PD LM RF OJ LA NV mP lit HV Pe asNat N9 Lp LC Ka WK Pj Nj Qx Ap IE jX fH fF Cj unseen List.filter_cons List.filter_nil tH Yc YX UF L9 LU NA Ho J9 JA Jj GL Jv LZ WZ FJ GN Ap Q0 Mg MW wrap64 xO WM vN nN oU oneOf List.map views view St.puts St.apply List.foldl Bool.false_eq_true decide_eq_true_eq decide_eq_false_iff_not List.nil_append List.append_nil List.cons_append kE bn AO.ev Yl Wp Kn Jq shift rd NK Kh OP ML PV partOf kH eqv eqvs YO Me Lv decide_true List.zip_cons_cons List.zip_nil_left List.drop_zero List.drop_succ_cons List.drop_nil List.take_zero List.take_succ_cons List.take_nil List.length_cons List.length_nil List.getElem?_cons_zero List.getElem?_cons_succ AV.cells List.all_cons List.all_nil AV.one St.get Go.AX.look St.put putAt St.push Kq GD Int.cast_ofNat_Int bne_iff_ne beq_iff_eq Nat.zero_add Nat.add_zero true_and and_true and_self Bool.and_true Bool.true_and Bool.and_self bne_self_eq_false beq_self_eq_true Bool.not_false Bool.not_true Bool.not_eq_true' Bool.not_eq_false' eq_self ne_eq not_true_eq_false not_false_eq_true Nat.le_refl Nat.lt_irrefl Nat.zero_le Int.le_refl false_and and_false Nat.zero_mul Nat.one_mul Nat.mul_one Nat.max_def Nat.not_lt_zero Nat.zero_lt_succ Nat.lt_add_one Tz Xk
end Go.AX
/- Functions of typed values. -/
namespace Go.AX
open Go
def C0:Known:=fun _ _=>none
theorem UM (f:Nat) (xs:List AV):C0 f xs=none:=rfl
theorem dx (P:Program):rQ P C0:=fun f xs v h=>by simp [C0] at h
def eT (s:St) (v' v:AV):Prop:=(view s.get v').map (·.1)=some v
section
variable {P:Program}
theorem JM {s:St} {v' v:AV} (h:eT s v' v):∃ s2,BS v' s v s2:=by
  unfold eT at h
  cases hv:view s.get v' with
  | none=>rw [hv] at h;simp at h
  | some p =>
    obtain ⟨x,ps⟩:=p
    rw [hv] at h
    simp at h
    subst h
    exact ⟨_,BS.view hv⟩
theorem ak {f:FuncId} {args:List AV} {s:St} {xs:List AV} {s':St} {K:AV → St → Prop} {v:AV} (h:bB P f xs v) (hk:@vC s' ⟨K v⟩):@yH P f args s xs s' ⟨K⟩:=.inr ⟨v,h,hk⟩
theorem aH {f:FuncId} {args:List AV} {s:St} {xs:List AV} {s':St} {K:AV → St → Prop} (h:aF P f args s K):@yH P f args s xs s' ⟨K⟩:=.inl h
theorem iR {f:FuncId} {args xs:List AV} {D W:List Nat} {s s':St} {K:AV → St → Entry → Prop} {v:AV} (h:bB P f xs v) (hk:@jZ ((D.all fun id=>decide (id < s.next))=true) ⟨@vC s' ⟨fun s'=>K v s' ⟨D,W,s.next,s.next⟩⟩⟩):@sZ P f args xs D W s s' ⟨K⟩:=
  .inl ⟨v,h,by simpa using hk.1,hk.2⟩
theorem tL {f:FuncId} {args xs:List AV} {D W:List Nat} {s s0 s':St} {K:AV → St → Entry → Prop} {v:AV} (h:aF P f args s (fun v' t=>v'=v ∧ t=s')) (hw:Wf s) (hn:s.next ≤ s'.next) (hw':Wf s')
    (hk:@vC s' ⟨fun s'=>K v s' ⟨List.range s.next,List.range s.next,s.next,s'.next⟩⟩):@sZ P f args xs D W s s0 ⟨K⟩:=
  .inr ⟨v,s',List.range s.next,h,hw,hn,hw',⟨fun id hid=>by simpa using hid,fun id hid hno=>(hno (by simpa using hid)).elim⟩,hk⟩
theorem bQ {h:List (Nat × Obj)} {n:Nat} {o:Obj} (hw:Wf ⟨h,n⟩):Wf ⟨(n,o) :: h,n + 1⟩:=fun id hid=>by
  have hid':n + 1 ≤ id:=hid
  show look id ((n,o) :: h)=none
  rw [look,if_neg (by omega)]
  exact hw id (by show n ≤ id;omega)
theorem gq {h:List (Nat × Obj)} {n b:Nat} {o:Obj} (hw:Wf ⟨h,n⟩):Wf ⟨putAt b o h,n⟩:=fun id hid=>by
  have:=hw id hid
  simp only [St.get] at this ⊢
  rw [jO]
  split
  · rename_i hb;subst hb;rw [this];rfl
  · exact this
theorem bf (hmix:P.follows .mixedOrders=true) {f:FuncId} {af:bI} (hf:bF P f=some af) (hin:(dU af.ntmps af.body && uo af.ntmps af.results)=true) {args:List AV} {v:AV}
    (hl:Nat.ble args.length af.ntmps=true) (hfa:aI args=true) (hfv:flat v=true) (h:W P C0 af.body (U4 af.results fun v' s'=>eT s' v' v) (vF args) ⟨[],0⟩):bB P f args v:=
  ⟨aF.upd ((bE hmix (dx P) hf hin (Nat.le_of_ble_eq_true hl) h).mono fun v' s' hv=>by obtain ⟨s2,hu⟩:=JM hv;exact ⟨v,s2,hu,rfl⟩),hfa,hfv⟩
theorem bB.at {f:FuncId} {args:List AV} {v v':AV} (h:bB P f args v) (e:v=v'):bB P f args v':=e ▸ h
end
theorem Vh (a b:AV) (r:List AV):kJ (some 2) (some (a :: b :: r))=some (.agg [a,b]):=by simp [kJ]
theorem TB (a b c:AV) (r:List AV):kJ (some 3) (some (a :: b :: c :: r))=some (.agg [a,b,c]):=by simp [kJ]
theorem TI (a b c d:AV) (r:List AV):kJ (some 4) (some (a :: b :: c :: d :: r))=some (.agg [a,b,c,d]):=by simp [kJ]
theorem Uu (a b c d e:AV) (r:List AV):kJ (some 5) (some (a :: b :: c :: d :: e :: r))=some (.agg [a,b,c,d,e]):=by simp [kJ]
theorem UZ (a b c d e f:AV) (r:List AV):kJ (some 6) (some (a :: b :: c :: d :: e :: f :: r))=some (.agg [a,b,c,d,e,f]):=by simp [kJ]
theorem T9 (a b c d e f g:AV) (r:List AV):kJ (some 7) (some (a :: b :: c :: d :: e :: f :: g :: r))=some (.agg [a,b,c,d,e,f,g]):=by simp [kJ]
theorem UU (a b c d e f g h:AV) (r:List AV):kJ (some 8) (some (a :: b :: c :: d :: e :: f :: g :: h :: r))=some (.agg [a,b,c,d,e,f,g,h]):=by simp [kJ]
theorem TV (n:Nat):(0 ≤ (n:Int))=True:=eq_true (by omega)
theorem TN (n:Nat):(n:Int).toNat=n:=rfl
theorem Nn (i z b e o n z':Nat):bW i z (.sl b e o n z')=if i < n then some (.ptr b e (o + i * z)) else none:=rfl
theorem LJ (off b e o:Nat):shift off (.ptr b e o)=some (.ptr b e (o + off)):=rfl
theorem Rb (off:Nat) (cs:List AV):shift off (.vp cs)=some (.vp (cs.drop off)):=rfl
theorem IG (b e o:Nat):AZ (.ptr b e o)=some (.ptr b e o):=rfl
theorem Ni (cs:List AV):AZ (.vp cs)=some (.vp cs):=rfl
theorem M0 (t:Nat) (v:AV) (m:String):AZ (.fn (.method m) [.ifc t v] [])=if G9.contains (m,t)=true then some (.fn (.method m) [.ifc t v] []) else none:=rfl
theorem Oe : G9.contains ("WriteString", 200) = true := by decide
theorem RB {α:Type} (c:Prop) [Decidable c] (o:Option α) (K:α → Prop):@jY α (if c then none else o) ⟨K⟩ = @vT c ⟨False⟩ ⟨@jY α o ⟨K⟩⟩:=by
  by_cases h:c <;> simp [h,jY,vT,LV]
theorem M8 {α:Type} (c:Prop) [Decidable c] (o:Option α) (K:α → Prop):@jY α (if c then o else none) ⟨K⟩ = @vT c ⟨@jY α o ⟨K⟩⟩ ⟨False⟩:=by
  by_cases h:c <;> simp [h,jY,vT,LV]
theorem Qm (c:Prop) [Decidable c] (e:Eff) (s:St) (K:AV → St → Prop):@lW (if c then e else none) s ⟨K⟩ = @vT c ⟨@lW e s ⟨K⟩⟩ ⟨False⟩:=by
  by_cases h:c <;> simp [h,lW,vT,LV]
theorem MJ (c:Prop) [Decidable c] (e:Eff) (D:List Nat) (s:St) (K:AV → St → Entry → Prop):@iW (if c then e else none) D s ⟨K⟩ = @vT c ⟨@iW e D s ⟨K⟩⟩ ⟨False⟩:=by
  by_cases h:c <;> simp [h,iW,vT,LV]
theorem Yh (g:Nat → Option Obj) (cs:List AV):rd g (.vp cs)=some cs:=rfl
theorem IV (s:St) (k:IntKind) (n:Int) (v:AV):eT s (.int k n) v=(AV.int k n=v):=by simp [eT,view]
theorem GR (s:St) (n:Bool) (v:AV):eT s (.bool n) v=(AV.bool n=v):=by simp [eT,view]
theorem JB (s:St) (n:List UInt8) (v:AV):eT s (.str n) v=(AV.str n=v):=by simp [eT,view]
theorem Nk (s:St) (n:Nat) (cs:List AV) (v:AV):eT s (.ps n cs) v=(AV.ps n cs=v):=by simp [eT,view]
theorem Fy (s:St) (v:AV):eT s .nils v=(AV.ps 0 []=v):=by simp [eT,view]
theorem Ko (s:St) (cs:List AV) (v:AV):eT s (.agg cs) v=((views s.get cs).map (fun p=>AV.agg p.1)=some v):=by
  simp only [eT,view]
  cases views s.get cs with
  | none=>rfl
  | some p=>rfl
theorem Iz (s:St) (cs:List AV) (v:AV):eT s (.tup cs) v=((views s.get cs).map (fun p=>AV.tup p.1)=some v):=by
  simp only [eT,view]
  cases views s.get cs with
  | none=>rfl
  | some p=>rfl
theorem aW {α:Type} {l:List α} {k:Nat} (h:k < l.length):∃ x,l[k]? = some x ∧ l.drop k=x :: l.drop (k + 1) ∧ x ∈ l:=
  ⟨l[k],by simp [h],List.drop_eq_getElem_cons h,List.getElem_mem h⟩
attribute [go_sem] TV TN Nn
attribute [go_sem] Oi Rj RQ QM P5 RZ UM Vh TB TI Uu UZ T9 UU LJ Rb Yh RB M8 Qm MJ beq_eq_false_iff_ne bne_eq_false_iff_eq IG Ni M0 Oe IV GR JB Nk Fy Ko Iz Option.some.injEq
attribute [go_sem] or_self or_true true_or or_false false_or vK Aa vO Ag rowOf Pf bound Bb XH
attribute [go_sem] Lu LQ IX PZ Jt Ib IJ RI Tc Pm Vs YD Option.map_some Option.map_none
attribute [go_sem] Ty.Attr.elem Ty.Node.elem Ty.Tag.elem
attribute [go_sem] Ty.Attr.bY Ty.Node.bY Ty.Tag.bY
attribute [go_sem] Ty.Attr.KA Ty.Node.KA Ty.Tag.KA
end Go.AX
/- Calls that change what they were handed: the new ids of a call are given back. -/
namespace Go.AX
open Go
theorem IQ {c c':Ctx} {w:World} {id n:Nat} {o:Obj} (h:gJ c w id o) (hid:id < n) (ho:NQ n o):gJ (c.cut n) w id o:=by
  refine h.RV (fun e=>by simp [Ctx.cut,hid]) (fun k i=>rfl) fun x u hx hr=>rF x u hr ?_
  cases o with
  | cells v cs sn =>
    simp only [NQ] at ho
    obtain ⟨i,hi⟩:=List.mem_iff_getElem?.1 hx
    exact ho.get i x hi
  | map es =>
    simp only [NQ] at ho
    obtain ⟨p,hp,rfl | rfl⟩:=hx
    · exact (ho p hp).1
    · exact (ho p hp).2
  | iter p q=>exact hx.elim
  | raw k o F us =>
    obtain ⟨i,hi⟩:=List.mem_iff_getElem?.1 hx
    simp only [NQ] at ho
    exact ho.get i x hi
theorem Sat.closed {c:Ctx} {s:St} {w:World} (h:Sat c s w) {id:Nat} {o:Obj} (hg:s.get id=some o):NQ s.next o ∧ id < s.next:=by
  have hlt:id < s.next:=by
    obtain ⟨k,z,hb⟩:=(h.obj id o hg).bound
    rcases Nat.lt_or_ge id s.next with h1 | h1
    · exact h1
    · rw [h.fresh id _ h1] at hb;simp at hb
  refine ⟨?_,hlt⟩
  have ho:=h.obj id o hg
  cases o with
  | cells v cs sn =>
    obtain ⟨k,z,arr,el,fr,h1,h2,h3,h4,h5,h6,h7⟩:=ho
    simp only [NQ]
    refine Cls.eU fun i x hx=>?_
    obtain ⟨u,_,_,r⟩:=h6 i x hx
    exact lV h.fresh x u r
  | map es =>
    obtain ⟨k,z,mes,clock,h1,h2,h3,h4⟩:=ho
    simp only [NQ]
    have key:∀ (es:List (AV × AV)) (us:List MapEntry),gQ c es us → ∀ p ∈ es,Cl s.next p.1 ∧ Cl s.next p.2:=by
      intro es
      induction es with
      | nil=>intro us _ p hp;simp at hp
      | cons q r ih =>
        intro us hr p hp
        obtain ⟨a,b⟩:=q
        simp only [gQ] at hr
        obtain ⟨e,es',_,r1,r2,r3⟩:=hr
        rcases List.mem_cons.1 hp with rfl | hp
        · exact ⟨lV h.fresh _ _ r1,lV h.fresh _ _ r2⟩
        · exact ih es' r3 p hp
    exact key es _ h3
  | iter p q=>trivial
  | raw k o F us =>
    obtain ⟨z,_,_,h3,_⟩:=ho
    exact Cls.eU fun i x hx=>by
      obtain ⟨u,_,r⟩:=h3.get i x hx
      exact lV h.fresh x u r
theorem aF.fin {P:Program} {f:FuncId} {args:List AV} {s:St} {R:AV → St → Prop}
    (h:aF P f args s fun v s'=>Cl s.next v ∧ ∃ s2,s2.next=s.next ∧ (∀ id o,s2.get id=some o → ∃ o',s.get id=some o') ∧ (∀ id o,id < s.next → s2.get id=some o → s'.get id=some o ∧ (s.get id=some o ∨ NQ s.next o)) ∧ R v s2):aF P f args s R:=by
  refine ⟨h.1,fun c w vs hs hr=>(h.2 c w vs hs hr).mono fun e w' ⟨v,u,c',s',e1,r,h1,h2,hcl,s2,hn,hex,hg0,hR⟩=>?_⟩
  have hg:∀ id o,s2.get id=some o → s'.get id=some o ∧ id < s.next ∧ (s.get id=some o ∨ NQ s.next o):=fun id o ho=>by
    obtain ⟨o',ho'⟩:=hex id o ho
    have hlt:=(hs.closed ho').2
    obtain ⟨a,b⟩:=hg0 id o hlt ho
    exact ⟨a,hlt,b⟩
  have hcl2:∀ id o,s2.get id=some o → NQ s.next o:=fun id o ho=>by
    obtain ⟨_,_,h3⟩:=hg id o ho
    rcases h3 with h3 | h3
    · exact (hs.closed h3).1
    · exact h3
  have hblk:∀ id o,id < s.next → blk (c'.cut s.next) id o=blk c' id o:=fun id o hid=>by simp [blk,Ctx.cut,hid]
  refine ⟨v,u,c'.cut s.next,s2,e1,rF v u r hcl,⟨?_,?_,?_,?_,?_,?_⟩,⟨?_,h2.size,?_,?_,?_,?_,?_,h2.os⟩,hR⟩
  · exact h1.mem
  · intro id o ho
    obtain ⟨g1,g2,_⟩:=hg id o ho
    exact IQ (c':=c') (h1.obj id o g1) g2 (hcl2 id o ho)
  · intro id id' o o' k ho ho' hk hk'
    obtain ⟨g1,g2,_⟩:=hg id o ho
    obtain ⟨g1',g2',_⟩:=hg id' o' ho'
    rw [hblk id o g2] at hk
    rw [hblk id' o' g2'] at hk'
    exact h1.inj id id' o o' k g1 g1' hk hk'
  · intro id e hid
    rw [hn] at hid
    simp [Ctx.cut];omega
  · intro id o ho e he
    obtain ⟨g1,g2,_⟩:=hg id o ho
    simp [Ctx.cut,g2,h1.top id o g1 e he]
  · intro b e k z hb
    simp only [Ctx.cut] at hb
    split at hb
    · exact h1.low b e k z hb
    · simp at hb
  · refine ⟨fun b e x hx=>?_,h2.le.2⟩
    have hb:b < s.next:=by
      rcases Nat.lt_or_ge b s.next with h | h
      · exact h
      · rw [hs.fresh b e h] at hx;simp at hx
    simp only [Ctx.cut,hb,if_true]
    exact h2.le.1 b e x hx
  · exact h2.same
  · rintro k ⟨id,o,ho,hk⟩
    obtain ⟨g1,g2,_⟩:=hg id o ho
    rw [hblk id o g2] at hk
    exact h2.foot k ⟨id,o,g1,hk⟩
  · rw [hn];exact Nat.le_refl _
  · intro id hid hno e
    simp only [Ctx.cut,hid,if_true]
    exact h2.sig id hid hno e
  · intro id o ho
    obtain ⟨g1,g2,_⟩:=hg id o ho
    rcases h2.dom id o g1 with h | h
    · exact .inl h
    · omega
section
variable {P:Program}
theorem eH {f:FuncId} {args:List AV} {s:St} {xs:List AV} {s' s2:St} {K:AV → St → Prop} {v:AV} (h:aF P f args s fun v' s''=>v'=v ∧ s''=s2) (hk:@vC s2 ⟨K v⟩):@yH P f args s xs s' ⟨K⟩:=
  .inl (h.mono fun v' s'' ⟨h1,h2⟩=>by subst h1;subst h2;exact hk)
end
theorem ay {id id':Nat} {o:Obj} {l:List (Nat × Obj)} (h:id ≠ id'):look id' (putAt id o l)=look id' l:=by rw [jO,if_neg h]
theorem aS {id:Nat} {o x:Obj} {l:List (Nat × Obj)} (h:look id l=some x):look id (putAt id o l)=some o:=by rw [jO,if_pos rfl,h];rfl
end Go.AX
namespace Go.AX
attribute [go_sem] jO
end Go.AX
/- A deep view: what is owned becomes plain, within what is plain, too. -/
namespace Go.AX
open Go
abbrev Seen:=AV × List (Nat × Obj)
def bg (f:AV → Option Seen):List AV → Option (List AV × List (Nat × Obj))
  | []=>some ([],[])
  | x :: xs => match f x, bg f xs with
    | some (y,p),some (ys,q)=>some (y :: ys,p ++ q)
    | _,_=>none
def kK (k:List AV → AV):Option (List AV × List (Nat × Obj)) → Option Seen
  | some (xs,q)=>some (k xs,q)
  | none=>none
def oO (k:List AV → List AV → AV):Option (List AV × List (Nat × Obj)) → Option (List AV × List (Nat × Obj)) → Option Seen
  | some (xs,p),some (ys,q)=>some (k xs ys,p ++ q)
  | _,_=>none
def qA (b e:Nat) (o:Option Obj) (f:List AV → Option Seen):Option Seen:=match o with
  | some (.cells e' cs _)=>if e=e' then (match f cs with | some (x,q)=>some (x,(b,.cells e cs true) :: q) | none=>none) else none
  | _=>none
def bM (g:Nat → Option Obj):Nat → AV → Option Seen
  | 0,v=>some (v,[])
  | d + 1, v => match v with
    | .nils=>some (.ps 0 [],[])
    | .sl b e o n z=>qA b e (g b) fun cs=>if o + n * z ≤ cs.length then kK (.ps n) (bg (bM g d) ((cs.drop o).take (n * z))) else none
    | .ptr b e o=>qA b e (g b) fun cs=>if o ≤ cs.length then kK .vp (bg (bM g d) (cs.drop o)) else none
    | .ps n cs=>if aI cs=true then some (.ps n cs,[]) else kK (.ps n) (bg (bM g d) cs)
    | .vp cs=>if aI cs=true then some (.vp cs,[]) else kK .vp (bg (bM g d) cs)
    | .agg cs=>kK .agg (bg (bM g d) cs)
    | .tup cs=>kK .tup (bg (bM g d) cs)
    | .fn f xs ys=>oO (.fn f) (bg (bM g d) xs) (bg (bM g d) ys)
    | .ifc t x => match bM g d x with
      | some (y,q)=>some (.ifc t y,q)
      | none=>none
    | v=>some (v,[])
section
variable {w:World} {g:Nat → Option Obj}
def VS (w : World) (g : Nat → Option Obj) (f : AV → Option Seen) : Prop := ∀ (x y : AV) (ps : List (Nat × Obj)), f x = some (y, ps) → ∀ (c : Ctx) (s : St) (u : Value), Sat c s w → Since g s → aD c x u →
    ∃ c',Sat c' (s.puts ps) w ∧ Ext c s w c' (s.puts ps) w ∧ Since g (s.puts ps) ∧ aD c' y u
theorem cu {f:AV → Option Seen} (hf:VS w g f):∀ (xs ys:List AV) (ps:List (Nat × Obj)),bg f xs=some (ys,ps) → ∀ (c:Ctx) (s:St) (us:List Value),Sat c s w → Since g s → aB c xs us →
    ∃ c',Sat c' (s.puts ps) w ∧ Ext c s w c' (s.puts ps) w ∧ Since g (s.puts ps) ∧ aB c' ys us
  | [], ys, ps, hv, c, s, us, h, hs, hr => by
    simp [bg] at hv;obtain ⟨rfl,rfl⟩:=hv
    exact ⟨c,h,Ext.refl _ _ _,hs,hr⟩
  | x :: xs, ys, ps, hv, c, s, us, h, hs, hr => by
    simp only [bg] at hv
    split at hv
    · rename_i y p ys' q h1 h2
      simp at hv;obtain ⟨rfl,rfl⟩:=hv
      simp only [aB] at hr
      obtain ⟨u,us',rfl,r1,r2⟩:=hr
      obtain ⟨c1,a1,a2,a3,a4⟩:=hf x y p h1 c s u h hs r1
      obtain ⟨c2,b1,b2,b3,b4⟩:=cu hf xs ys' q h2 c1 (s.puts p) us' a1 a3 (aB.mono a2.le xs us' r2)
      have e:s.puts (p ++ q)=(s.puts p).puts q:=by simp [St.puts]
      refine ⟨c2,by rw [e];exact b1,by rw [e];exact a2.trans b2,by rw [e];exact b3,?_⟩
      simp only [aB]
      exact ⟨u,us',rfl,a4.mono b2.le,b4⟩
    · simp at hv
theorem Gb {c:Ctx} {k:Nat}:∀ {o:Nat} {xs:List AV},bG c k o xs → ∃ us,aB c xs us ∧ ∀ i u,us[i]? = some u → c.m k (o + i)=some u
  | o,[],_=>⟨[],by simp [aB],by simp⟩
  | o, x :: xs, r => by
    simp only [bG] at r
    obtain ⟨⟨u,e,r1⟩,r2⟩:=r
    obtain ⟨us,h1,h2⟩:=Gb r2
    refine ⟨u :: us,by simp only [aB];exact ⟨u,us,rfl,r1,h1⟩,fun i v hv=>?_⟩
    cases i with
    | zero=>simp at hv;subst hv;exact e
    | succ i=>simp at hv;have:=h2 i v hv;rwa [show o + 1 + i=o + (i + 1) by omega] at this
theorem yQ {c:Ctx} {k:Nat}:∀ {o:Nat} {xs:List AV} {us:List Value},aB c xs us → (∀ i u,us[i]? = some u → c.m k (o + i)=some u) → bG c k o xs
  | o,[],us,_,_=>by simp [bG]
  | o, x :: xs, us, r, h => by
    simp only [aB] at r
    obtain ⟨u,us',rfl,r1,r2⟩:=r
    simp only [bG]
    refine ⟨⟨u,by simpa using h 0 u (by simp),r1⟩,yQ r2 fun i v hv=>?_⟩
    have:=h (i + 1) v (by simpa using hv)
    rwa [show o + (i + 1)=o + 1 + i by omega] at this
theorem fP {f:AV → Option Seen} (hf:VS w g f) {k o:Nat} {xs ys:List AV} {ps:List (Nat × Obj)} (hv:bg f xs=some (ys,ps)) {c:Ctx} {s:St} (h:Sat c s w) (hs:Since g s) (hr:bG c k o xs) :
    ∃ c',Sat c' (s.puts ps) w ∧ Ext c s w c' (s.puts ps) w ∧ Since g (s.puts ps) ∧ bG c' k o ys:=by
  obtain ⟨us,h1,h2⟩:=Gb hr
  obtain ⟨c',a1,a2,a3,a4⟩:=cu hf xs ys ps hv c s us h hs h1
  exact ⟨c',a1,a2,a3,yQ a4 fun i u hu=>a2.le.2 _ _ _ (h2 i u hu)⟩
theorem eX {k:List AV → AV} {o:Option (List AV × List (Nat × Obj))} {y:AV} {ps:List (Nat × Obj)} (h:kK k o=some (y,ps)):∃ xs,o=some (xs,ps) ∧ y=k xs:=by
  cases o with
  | none=>simp [kK] at h
  | some p=>obtain ⟨xs,q⟩:=p;simp [kK] at h;exact ⟨xs,by rw [h.2],h.1.symm⟩
theorem nJ:∀ d,VS w g (bM g d)
  | 0 => fun x y ps hv c s u h hs hr => by
    simp [bM] at hv;obtain ⟨rfl,rfl⟩:=hv
    exact ⟨c,h,Ext.refl _ _ _,hs,hr⟩
  | d + 1 => fun x y ps hv c s u h hs hr => by
    have ih:=nJ d
    have same:∀ {y:AV} {ps:List (Nat × Obj)},some (x,([]:List (Nat × Obj)))=some (y,ps) → ∃ c',Sat c' (s.puts ps) w ∧ Ext c s w c' (s.puts ps) w ∧ Since g (s.puts ps) ∧ aD c' y u:=fun e=>by
      simp at e;obtain ⟨rfl,rfl⟩:=e
      exact ⟨c,h,Ext.refl _ _ _,hs,hr⟩
    cases x with
    | nils =>
      simp [bM] at hv;obtain ⟨rfl,rfl⟩:=hv
      simp only [aD] at hr
      refine ⟨c,h,Ext.refl _ _ _,hs,?_⟩
      simp only [aD]
      exact .inl ⟨by first | rfl | trivial,by first | rfl | trivial,none,0,hr⟩
    | sl b e o n z =>
      simp only [bM,qA] at hv
      split at hv
      · rename_i e' cs sn hg
        split at hv
        · rename_i he
          subst he
          split at hv
          · rename_i x q hq
            split at hq
            · rename_i hc
              obtain ⟨xs,h1,rfl⟩:=eX hq
              simp at hv;obtain ⟨rfl,rfl⟩:=hv
              obtain ⟨c1,a1,a2,⟨k,zz,a3,a4⟩,a5⟩:=qD h hs hg
              simp only [aD] at hr
              obtain ⟨k',s',q',g1,g2,g3,g4⟩:=hr
              have:=a2.le.1 _ _ _ g1
              rw [a3] at this;simp only [Option.some.injEq,Prod.mk.injEq] at this;obtain ⟨rfl,rfl⟩:=this
              have hat:bG c1 k o ((cs.drop o).take (n * z)):=by simpa using (a4.drop o).take (n * z)
              obtain ⟨c2,b1,b2,b3,b4⟩:=fP ih h1 a1 a5 hat
              refine ⟨c2,b1,a2.trans b2,b3,?_⟩
              simp only [aD]
              exact .inr ⟨k,o,q',g2,g3,b4⟩
            · simp at hq
          · simp at hv
        · simp at hv
      · simp at hv
    | ptr b e o =>
      simp only [bM,qA] at hv
      split at hv
      · rename_i e' cs sn hg
        split at hv
        · rename_i he
          subst he
          split at hv
          · rename_i x q hq
            split at hq
            · rename_i hc
              obtain ⟨xs,h1,rfl⟩:=eX hq
              simp at hv;obtain ⟨rfl,rfl⟩:=hv
              obtain ⟨c1,a1,a2,⟨k,zz,a3,a4⟩,a5⟩:=qD h hs hg
              simp only [aD] at hr
              obtain ⟨k',s',g1,g2⟩:=hr
              have:=a2.le.1 _ _ _ g1
              rw [a3] at this;simp only [Option.some.injEq,Prod.mk.injEq] at this;obtain ⟨rfl,rfl⟩:=this
              have hat:bG c1 k o (cs.drop o):=by simpa using a4.drop o
              obtain ⟨c2,b1,b2,b3,b4⟩:=fP ih h1 a1 a5 hat
              refine ⟨c2,b1,a2.trans b2,b3,?_⟩
              simp only [aD]
              exact ⟨k,o,g2,b4⟩
            · simp at hq
          · simp at hv
        · simp at hv
      · simp at hv
    | ps n cs =>
      simp only [bM] at hv
      split at hv
      · exact same hv
      · obtain ⟨xs,h1,rfl⟩:=eX hv
        simp only [aD] at hr
        rcases hr with ⟨rfl,rfl,a,q,e⟩ | ⟨k,o,q,e,hq,r⟩
        · simp [bg] at h1
          obtain ⟨rfl,rfl⟩:=h1
          exact ⟨c,h,Ext.refl _ _ _,hs,by simp only [aD];exact .inl ⟨by first | rfl | trivial,by first | rfl | trivial,a,q,e⟩⟩
        · obtain ⟨c2,b1,b2,b3,b4⟩:=fP ih h1 h hs r
          exact ⟨c2,b1,b2,b3,by simp only [aD];exact .inr ⟨k,o,q,e,hq,b4⟩⟩
    | vp cs =>
      simp only [bM] at hv
      split at hv
      · exact same hv
      · obtain ⟨xs,h1,rfl⟩:=eX hv
        simp only [aD] at hr
        obtain ⟨k,o,e,r⟩:=hr
        obtain ⟨c2,b1,b2,b3,b4⟩:=fP ih h1 h hs r
        exact ⟨c2,b1,b2,b3,by simp only [aD];exact ⟨k,o,e,b4⟩⟩
    | agg xs =>
      simp only [bM] at hv
      obtain ⟨ys,h1,rfl⟩:=eX hv
      simp only [aD] at hr
      obtain ⟨us,rfl,hr⟩:=hr
      obtain ⟨c',a1,a2,a3,a4⟩:=cu ih xs ys _ h1 c s us h hs hr
      exact ⟨c',a1,a2,a3,by simp only [aD];exact ⟨us,rfl,a4⟩⟩
    | tup xs =>
      simp only [bM] at hv
      obtain ⟨ys,h1,rfl⟩:=eX hv
      simp only [aD] at hr
      obtain ⟨us,rfl,hr⟩:=hr
      obtain ⟨c',a1,a2,a3,a4⟩:=cu ih xs ys _ h1 c s us h hs hr
      exact ⟨c',a1,a2,a3,by simp only [aD];exact ⟨us,rfl,a4⟩⟩
    | fn f xs ys =>
      simp only [bM] at hv
      cases h1:bg (bM g d) xs with
      | none=>rw [h1] at hv;simp [oO] at hv
      | some p1 =>
        cases h2:bg (bM g d) ys with
        | none=>rw [h1,h2] at hv;simp [oO] at hv
        | some p2 =>
          obtain ⟨xs',p⟩:=p1
          obtain ⟨ys',q⟩:=p2
          rw [h1,h2] at hv
          simp [oO] at hv
          obtain ⟨rfl,rfl⟩:=hv
          simp only [aD] at hr
          obtain ⟨us,ws,rfl,r1,r2⟩:=hr
          obtain ⟨c1,a1,a2,a3,a4⟩:=cu ih xs xs' _ h1 c s us h hs r1
          obtain ⟨c2,b1,b2,b3,b4⟩:=cu ih ys ys' _ h2 c1 _ ws a1 a3 (aB.mono a2.le ys ws r2)
          have e:s.puts (p ++ q)=(s.puts p).puts q:=by simp [St.puts]
          exact ⟨c2,by rw [e];exact b1,by rw [e];exact a2.trans b2,by rw [e];exact b3,by simp only [aD];exact ⟨us,ws,rfl,aB.mono b2.le _ _ a4,b4⟩⟩
    | ifc t x =>
      simp only [bM] at hv
      split at hv
      · rename_i y' q h1
        simp at hv;obtain ⟨rfl,rfl⟩:=hv
        simp only [aD] at hr
        obtain ⟨u',rfl,hr⟩:=hr
        obtain ⟨c',a1,a2,a3,a4⟩:=ih x y' q h1 c s u' h hs hr
        exact ⟨c',a1,a2,a3,by simp only [aD];exact ⟨u',rfl,a4⟩⟩
      · simp at hv
    | _=>exact same (by simpa only [bM] using hv)
end
theorem BS.bM {d:Nat} {v v':AV} {s:St} {ps:List (Nat × Obj)} (h:Go.AX.bM s.get d v=some (v',ps)):BS v s v' (s.puts ps):=fun c w u hs hr=>by
  obtain ⟨c',h1,h2,_,h4⟩:=nJ d v v' ps h c s u hs (Since.refl s) hr
  exact ⟨c',h1,h2,h4⟩
section
variable {P:Program}
theorem aF.bM {d:Nat} {f:FuncId} {args xs:List AV} {s:St} {ps:List (Nat × Obj)} {R:AV → St → Prop} (hv:bg (Go.AX.bM s.get d) args=some (xs,ps)) (h:aF P f xs (s.puts ps) R):aF P f args s R:=
  ⟨h.1,fun c w vs hs hr=>by
    obtain ⟨c',h1,h2,_,h4⟩:=cu (nJ d) args xs ps hv c s vs hs (Since.refl s) hr
    exact (h.2 c' w vs h1 h4).mono fun e w' ⟨v,u,c2,s2,e1,e2,e3,e4,e5⟩=>⟨v,u,c2,s2,e1,e2,e3,h2.trans e4,e5⟩⟩
theorem IL {f:FuncId} {args:List AV} {s:St} {xs xs':List AV} {s':St} {K:AV → St → Prop} {v:AV} {ps:List (Nat × Obj)} (h:bB P f xs' v) (hv:bg (Go.AX.bM s.get 7) args=some (xs',ps)) (hk:@vC (s.puts ps) ⟨K v⟩):@yH P f args s xs s' ⟨K⟩:=
  .inl (aF.bM hv ((h.1.any h.2.1 h.2.2 (s.puts ps)).mono fun v' s'' ⟨h1,h2⟩=>by subst h1;subst h2;exact hk))
def Em (s:St) (v' v:AV):Prop:=(bM s.get 8 v').map (·.1)=some v
theorem xM {s:St} {v' v:AV} (h:Em s v' v):∃ s2,BS v' s v s2:=by
  unfold Em at h
  cases hv:bM s.get 8 v' with
  | none=>rw [hv] at h;simp at h
  | some p =>
    obtain ⟨x,ps⟩:=p
    rw [hv] at h
    simp at h
    subst h
    exact ⟨_,BS.bM hv⟩
def Xh:pX → Option AV
  | .val v s=>(bM s.get 8 v).map (·.1)
  | _=>none
theorem Ls (hmix:P.follows .mixedOrders=true) {d:Nat} {T:Nat → Option oC} (hT:∀ f tf,T f=some tf → bF P f=some tf.af) (hin:Zd d T) {n f:Nat} {args:List AV} {v:AV}
    (hfa:aI args=true) (hfv:flat v=true) (h:Xh (vR d T n (.call f args) .e ⟨[],0⟩)=some v):bB P f args v:=by
  unfold Xh at h
  split at h
  · rename_i v0 s0 he
    exact ⟨aF.upd ((Hy hmix hT hin he).mono fun v' s' ⟨h1,h2⟩=>by subst h1;subst h2;obtain ⟨s2,hu⟩:=xM h;exact ⟨v,s2,hu,rfl⟩),hfa,hfv⟩
  · simp at h
def R3 (o:Option (List AV × List (Nat × Obj))) (xs':List AV) (s:St) [K:Sc]:Prop:=match o with
  | some (xs,ps)=>xs=xs' ∧ vC (s.puts ps)
  | none=>False
theorem yM (xs xs':List AV) (ps:List (Nat × Obj)) (s:St) (K:St → Prop):@R3 (some (xs,ps)) xs' s ⟨K⟩ = @jZ (xs=xs') ⟨@vC (s.puts ps) ⟨K⟩⟩:=rfl
theorem D9 {f:FuncId} {args:List AV} {s:St} {xs xs':List AV} {s':St} {K:AV → St → Prop} {v:AV} (h:bB P f xs' v) (hk:@R3 (bg (Go.AX.bM s.get 7) args) xs' s ⟨K v⟩):@yH P f args s xs s' ⟨K⟩:=by
  unfold R3 at hk
  split at hk
  · rename_i ys ps hv
    obtain ⟨rfl,hk⟩:=hk
    exact IL h hv hk
  · exact hk.elim
def ZL (s:St):Bool:=s.heap.all fun p=>decide (p.1 < s.next)
theorem VK {s:St} (h:ZL s=true):Wf s:=fun id hid=>by
  have h':∀ p ∈ s.heap,p.1 < s.next:=by
    simpa [ZL] using h
  have key:∀ l:List (Nat × Obj),(∀ p ∈ l,p.1 < s.next) → look id l=none:=by
    intro l
    induction l with
    | nil=>intro _;rfl
    | cons p r ih =>
      intro hl
      obtain ⟨a,b⟩:=p
      have:=hl (a,b) (by simp)
      simp only [look]
      rw [if_neg (by simp only at this;omega)]
      exact ih fun q hq=>hl q (by simp [hq])
  exact key _ h'
class Yq where
  k:St → List Nat → Prop
def Sy (o:Option (List AV × List (Nat × Obj))) (xs':List AV) (s:St) [K:Yq]:Prop:=match o with
  | some (xs,ps)=>xs=xs' ∧ (ps.all fun p=>decide (p.1 < s.next))=true ∧ K.k (s.puts ps) (ps.map (·.1))
  | none=>False
theorem Ia (xs xs':List AV) (ps:List (Nat × Obj)) (s:St) (K:St → List Nat → Prop):@Sy (some (xs,ps)) xs' s ⟨K⟩ = @jZ (xs=xs' ∧ (ps.all fun p=>decide (p.1 < s.next))=true) ⟨@vC (s.puts ps) ⟨fun s'=>K s' (ps.map (·.1))⟩⟩:=by
  simp only [Sy,jZ,vC];exact propext ⟨fun ⟨a,b,c⟩=>⟨⟨a,b⟩,c⟩,fun ⟨⟨a,b⟩,c⟩=>⟨a,b,c⟩⟩
end
theorem Cg (g:Nat → Option Obj) (d n:Nat) (cs:List AV) (h:aI cs=true):bM g (d + 1) (.ps n cs)=some (.ps n cs,[]):=by simp [bM,h]
theorem vY {h:List (Nat × Obj)} {m b e n z:Nat} {cs:List AV} {sn:Bool} (v:AV) (hl:look b h=some (.cells e cs sn)) (hn:n * z ≤ cs.length):eT ⟨h,m⟩ (.sl b e 0 n z) v=(AV.ps n (cs.take (n * z))=v):=by
  simp [eT,view,St.get,hl,hn]
theorem QB {P:Program} {C:Known} (ρ:Env) (s:St) (K:AV → St → Prop) (f:Fn) (xs ys:List AO):fq P C ρ s K (.mkfn f xs ys)=K (.fn f (xs.map (bD ρ)) (ys.map (bD ρ))) s:=by
  simp only [fq,kE,bn,List.map_map];rfl
theorem Mv {P:Program} {C:Known} (ρ:Env) (s:St) (K:AV → St → Entry → Prop) (f:Fn) (xs ys:List AO):eD P C ρ s K (.mkfn f xs ys)=fq P C ρ s (fun v s'=>K v s' ⟨[],[],s.next,s.next⟩) (.mkfn f xs ys):=bU P C ρ s K _ rfl
attribute [go_sem ↓] QB Mv G5 Vr U1 XR TG
attribute [go_sem] bM bg kK oO qA yM Ia fT o8 Go.AX.aI Go.AX.flat List.range List.range.loop
end Go.AX
/- Calls that give a value without ids, and leave all as it is. -/
namespace Go.AX
open Go
mutual
theorem DZ (n:Nat):∀ x:AV,flat x=true → Cl n x
  | .ptr _ _ _,h=>by simp [flat] at h
  | .sl _ _ _ _ _,h=>by simp [flat] at h
  | .map _,h=>by simp [flat] at h
  | .agg xs,h=>by simp only [flat] at h;exact kW n xs h
  | .tup xs,h=>by simp only [flat] at h;exact kW n xs h
  | .vp xs,h=>by simp only [flat] at h;exact kW n xs h
  | .ps _ xs,h=>by simp only [flat] at h;exact kW n xs h
  | .fn _ xs ys, h => by
    simp only [flat,Bool.and_eq_true] at h
    exact ⟨kW n xs h.1,kW n ys h.2⟩
  | .ifc _ x,h=>by simp only [flat] at h;exact DZ n x h
  | .bool _,_ | .int _ _,_ | .str _,_ | .nilp,_ | .nils,_ | .nilf,_ | .nili,_ | .nilm,_ | .any,_=>trivial
theorem kW (n:Nat):∀ xs:List AV,aI xs=true → Cls n xs
  | [],_=>trivial
  | x :: r, h => by
    simp only [aI,Bool.and_eq_true] at h
    exact ⟨DZ n x h.1,kW n r h.2⟩
end
def PS (P:Program) (f:FuncId) (args:List AV) (u:AV):Prop:=∀ h m,aF P f args ⟨h,m⟩ fun v s'=>v=u ∧ s'=⟨h,m⟩
theorem BS.sub (v:AV) {s s2:St} (hg:∀ id o,s2.get id=some o → s.get id=some o) (hn:s.next ≤ s2.next):BS v s v s2:=fun c w u hs hr=>by
  obtain ⟨a,b⟩:=hs.forget hg hn
  exact ⟨c,a,b,hr⟩
end Go.AX
/- A pure call that gives plain values leaves no trace: what it has looked at can still be written. -/
namespace Go.AX
open Go
theorem Ql {c c':Ctx} {v:AV} (h:HV v=true) {u:Value} (r:aD c v u):aD c' v u:=by
  cases v <;> first | (simp [HV] at h;done) | simpa [aD] using r
section
variable {P:Program}
def Yg (o:Option (List AV × List (Nat × Obj))) (xs':List AV) (s:St) [K:Sc]:Prop:=match o with
  | some (xs,_)=>xs=xs' ∧ vC s
  | none=>False
theorem I4 (xs xs':List AV) (ps:List (Nat × Obj)) (s:St) (K:St → Prop):@Yg (some (xs,ps)) xs' s ⟨K⟩ = @jZ (xs=xs') ⟨@vC s ⟨K⟩⟩:=rfl
end
attribute [go_sem] I4
end Go.AX
/- Owned results: a call that sees plain values and gives a new list. -/
namespace Go.AX
open Go
def YI (P:Program) (f:FuncId) (args:List AV) (e n z:Nat) (cs:List AV):Prop:=
  aF P f args ⟨[],0⟩ (fun v s'=>∃ b,v=.sl b e 0 n z ∧ s'.get b=some (.cells e cs false)) ∧ aI args=true ∧ cs.all HV=true
theorem Hz {cs:List AV} (h:cs.all HV=true) {i:Nat} {x:AV} (hx:cs[i]? = some x):HV x=true:=
  List.all_eq_true.1 h x (List.mem_of_getElem? hx)
theorem YI.calls {P:Program} {f:FuncId} {args xs:List AV} {s:St} {ps:List (Nat × Obj)} {d e n z:Nat} {cs:List AV} (hv:bg (Go.AX.bM s.get d) args=some (xs,ps)) (h:YI P f xs e n z cs) :
    aF P f args s fun v' s'=>v'=.sl s.next e 0 n z ∧ s'=s.push (.cells e cs false):=by
  obtain ⟨h,ha,hlit⟩:=h
  refine ⟨h.1,fun c w vs hs hr=>?_⟩
  obtain ⟨c1,g1,g2,_,g4⟩:=cu (nJ d) args xs ps hv c s vs hs (Since.refl s) hr
  have h0:Sat ⟨fun _ _=>none,c1.m,c1.gl⟩ ⟨[],0⟩ w:=⟨g1.mem,fun id o ho=>by simp [St.get,look] at ho,fun id id' o o' k ho=>by simp [St.get,look] at ho,fun _ _ _=>rfl,fun id o ho=>by simp [St.get,look] at ho,fun b e k z hb=>by simp at hb⟩
  refine (h.2 _ w vs h0 (aB.flat (c:=c1) (c':=⟨fun _ _=>none,c1.m,c1.gl⟩) (fun _ _ _ h=>h) _ _ ha g4)).mono fun ev w' ⟨v',u,c',s',e1,r,h1,h2,h3⟩=>?_
  obtain ⟨b,rfl,hg⟩:=h3
  obtain ⟨k,sz,arr,el,fr,o1,o2,o3,o4,o5,o6,o7⟩:=h1.obj b _ hg
  have hkw:w.heap.size ≤ k:=by
    rcases h2.foot k ⟨b,_,hg,by simp [blk,Obj.ver,o1]⟩ with ⟨id,o,ho,_⟩ | h
    · simp [St.get,look] at ho
    · exact h
  have hkw':k < w'.heap.size:=by
    rcases Nat.lt_or_ge k w'.heap.size with h | h
    · exact h
    · rw [Array.getElem?_eq_none h] at o2;simp at o2
  have hsame:∀ k,k < w.heap.size → w'.heap[k]? = w.heap[k]?:=fun k hk=>(h2.same k hk fun ⟨id,o,ho,_⟩=>by simp [St.get,look] at ho).1
  have hin:∀ k o u,c.m k o=some u → k < w.heap.size:=fun k o u hu=>by
    have:=(hs.mem k o u hu).1
    rcases Nat.lt_or_ge k w.heap.size with h | h
    · exact h
    · exfalso
      simp [World.cell?,Array.getElem?_eq_none h] at this
  let m2:Nat → Nat → Option Value:=fun k o=>if k < w.heap.size then c.m k o else none
  let s2:Nat → Nat → Option (Nat × Nat):=fun b' e'=>if b'=s.next ∧ e'=e then some (k,sz) else c.σ b' e'
  have hm2:∀ k o,k < w.heap.size → m2 k o=c.m k o:=fun k o hk=>if_pos hk
  have hs2:∀ b' e',b' ≠ s.next → s2 b' e'=c.σ b' e':=fun b' e' hb=>if_neg fun h=>hb h.1
  have hse:s2 s.next e=some (k,sz):=if_pos ⟨rfl,rfl⟩
  have hg2:∃ n,m2 gM 0=some (.int .i64 n):=by
    obtain ⟨n,hn⟩:=c.gl
    exact ⟨n,by rw [hm2 _ _ (hin _ _ _ hn),hn]⟩
  have hle:c.le ⟨s2,m2,hg2⟩:=⟨fun b' e' x hx=>by
    show s2 b' e'=some x
    by_cases hb:b'=s.next
    · subst hb;rw [hs.fresh _ _ (Nat.le_refl _)] at hx;simp at hx
    · rw [hs2 _ _ hb];exact hx,fun k o u hu=>by rw [← hu];exact hm2 k o (hin k o u hu)⟩
  have hcell:∀ k o,k < w.heap.size → w'.cell? ⟨k,o,none⟩=w.cell? ⟨k,o,none⟩:=fun k o hk=>by
    simp only [World.cell?,hsame k hk]
  have hlow:∀ id o k',s.get id=some o → blk c id o=some k' → k' < w.heap.size:=fun id o k' _ hb=>by
    simp only [blk,Option.map_eq_some_iff] at hb
    obtain ⟨⟨k1,z1⟩,hs1,rfl⟩:=hb
    exact hs.low _ _ _ _ hs1
  have hne:∀ id o,s.get id=some o → id ≠ s.next:=fun id o ho heq=>by
    have:=(hs.closed ho).2;omega
  have hblk:∀ id o,id ≠ s.next → blk ⟨s2,m2,hg2⟩ id o=blk c id o:=fun id o hid=>by
    simp only [blk];rw [hs2 _ _ hid]
  have hblk0:blk ⟨s2,m2,hg2⟩ s.next (.cells e cs false)=some k:=by simp only [blk,Obj.ver];rw [hse];rfl
  have hrep:aD ⟨s2,m2,hg2⟩ (.sl s.next e 0 n z) u:=by
    simp only [aD] at r ⊢
    obtain ⟨k',s',q,r1,r2,r3,r4⟩:=r
    rw [o1] at r1;simp only [Option.some.injEq,Prod.mk.injEq] at r1;obtain ⟨rfl,rfl⟩:=r1
    exact ⟨k,sz,q,hse,r2,r3,r4⟩
  refine ⟨.sl s.next e 0 n z,u,⟨s2,m2,hg2⟩,s.push (.cells e cs false),e1,hrep,⟨fun k o u hu=>?_,fun id o ho=>?_,fun id id' o o' k' ho ho' hb hb'=>?_,fun id e' hid=>?_,fun id o ho e' he'=>?_,fun b e' k' z' hb=>?_⟩,
    ⟨hle,h2.size,fun k hk _=>⟨hsame k hk,fun o=>hm2 k o hk⟩,fun k' hf=>?_,Nat.le_succ _,fun id hid _ e'=>hs2 id e' (by omega),fun id o ho=>?_,h2.os⟩,rfl,rfl⟩
  · simp only [m2] at hu
    split at hu
    · rename_i hk
      rw [hcell k o hk]
      exact hs.mem k o u hu
    · simp at hu
  · rw [St.dL] at ho
    split at ho
    · rename_i hid;subst hid;cases ho
      refine ⟨k,sz,arr,el,fr,hse,o2,o3,o4,o5,fun i x hx=>?_,fun i=>?_⟩
      · obtain ⟨u',p1,p2,p3⟩:=o6 i x hx
        exact ⟨u',p1,p2,Ql (Hz hlit hx) p3⟩
      · show m2 k i=_
        simp only [m2]
        rw [if_neg (by omega)]
        simp
    · rename_i hid
      refine (hs.obj id o ho).move hle fun k hk=>?_
      have:=hlow _ _ _ ho hk
      exact ⟨hsame _ this,fun i=>hm2 _ i this⟩
  · rw [St.dL] at ho ho'
    split at ho
    · rename_i hid;subst hid;cases ho
      split at ho'
      · rename_i hid';exact hid'
      · rw [hblk id' o' (hne _ _ ho')] at hb'
        have:=hlow _ _ _ ho' hb'
        rw [hblk0] at hb
        simp at hb;omega
    · split at ho'
      · rename_i hid';subst hid';cases ho'
        rw [hblk id o (hne _ _ ho)] at hb
        have:=hlow _ _ _ ho hb
        rw [hblk0] at hb'
        simp at hb';omega
      · rw [hblk id o (hne _ _ ho)] at hb
        rw [hblk id' o' (hne _ _ ho')] at hb'
        exact hs.inj id id' o o' k' ho ho' hb hb'
  · have hid':s.next + 1 ≤ id:=hid
    show s2 id e'=none
    rw [hs2 _ _ (by omega)]
    exact hs.fresh _ _ (by omega)
  · rw [St.dL] at ho
    split at ho
    · rename_i hid;subst hid;cases ho
      show s2 s.next e'=none
      have:e < e':=he'
      simp only [s2]
      rw [if_neg (by omega)]
      exact hs.fresh _ _ (Nat.le_refl _)
    · show s2 id e'=none
      rw [hs2 _ _ (hne _ _ ho)]
      exact hs.top _ _ ho _ he'
  · have hb:s2 b e'=some (k',z'):=hb
    by_cases hbe:b=s.next ∧ e'=e
    · obtain ⟨rfl,rfl⟩:=hbe
      rw [hse] at hb;simp at hb;omega
    · simp only [s2] at hb
      rw [if_neg hbe] at hb
      exact Nat.lt_of_lt_of_le (hs.low _ _ _ _ hb) h2.size
  · obtain ⟨id,o,ho,hb⟩:=hf
    rw [St.dL] at ho
    split at ho
    · rename_i hid;subst hid;cases ho
      rw [hblk0] at hb
      simp at hb;right;omega
    · rw [hblk id o (hne _ _ ho)] at hb
      exact .inl ⟨id,o,ho,hb⟩
  · rw [St.dL] at ho
    split at ho
    · rename_i hid;subst hid;exact .inr (Nat.le_refl _)
    · exact .inl ⟨o,ho⟩
section
variable {P:Program}
end
end Go.AX
/- Ranges over functions: a round; the statement; a function that holds one. -/
namespace Go.AX
open Go
structure VO (P:Program) (rec:Loop) (us:List Value) (ps:List Nat) (ca cb:bL):Prop where
  tmps:us=rec.tmps.toList
  ready:rec.state=.ready
  pend:rec.pending=none
  params:rec.params.toList=ps
  assign:aP P rec.assign=some ca
  body:aP P rec.body=some cb
def U9 (rec:Loop):Loop:={ rec with state:=.done,pending:=some .ret }
def Marks (B:Nat) (c:Ctx) (s:St) (w:World) (ds:List Deferred):Prop:=ds=[] ∨ ∃ D,ds=[{ target:=.collected D,args:=#[] }] ∧ B ≤ D ∧ w.heap[D]? = some (.deferred (some [])) ∧ ¬ fp c s D
theorem Marks.mono {B B':Nat} {c:Ctx} {s:St} {w:World} {ds:List Deferred} (h:Marks B c s w ds) (hb:B' ≤ B):Marks B' c s w ds:=h.imp id fun ⟨D,h1,h2,h3⟩=>⟨D,h1,Nat.le_trans hb h2,h3⟩
def Yz (c:Ctx) (s:St) (w:World) (Q:Exit → List AV → St → Prop) (e:Exit) (a':Act) (w':World):Prop:=
  ∃ c' F' s',Marks w.heap.size c' s' w' a'.defers ∧ aB c' F' a'.tmps.toList ∧ Sat c' s' w' ∧ Ext c s w c' s' w' ∧ Q e F' s'
def XW (P:Program) (ac:bL) (Q:Exit → List AV → St → Prop) (F:List AV) (s:St):Prop:=
  ∀ code,aP P code=some ac → ∀ (c:Ctx) (w:World) (a:Act),Sat c s w → aB c F a.tmps.toList → a.defers=[] → code.wpIn (fw none) 0 P (Exit.noGoto (Yz c s w Q)) a w
end Go.AX
/- The statement that ranges over a function; a function that holds one; the walk. -/
namespace Go.AX
open Go
end Go.AX
/- The walk through a function that ranges over one; the walk through a round. -/
namespace Go.AX
open Go
def Ns:bL → Bool
  | .rangeF _ _ _ _=>true
  | .seq a b=>if Ns a=true then true else Ns b
  | .block _ a=>Ns a
  | _=>false
def P6 (P:Program) (N:Nat) (fo:AO) (ps:List Nat) (ca cb:bL) (Q:bV) (ρ:Env) (s:St):Prop:=
  ∃ gf caps, ∃ R : Nat → Loop → List Value → St → Prop, bD ρ fo = .fn (.func gf) [] caps ∧
    (∀ l rec us,VO P rec us ps ca cb → aF P gf (.fn (.yield l) [] [] :: caps) (s.push (.raw l (.loop rec) (lN N ρ) us)) fun _ s'=>R l rec us s') ∧
    ∀ l rec us s',VO P rec us ps ca cb → R l rec us s' → ∃ F2 us2,(s'.get s.next=some (.raw l (.loop rec) F2 us2) ∧ Q .normal ρ (s'.hide [s.next])) ∨ (s'.get s.next=some (.raw l (.loop (U9 rec)) F2 us2) ∧ Q .ret ρ (s'.hide [s.next]))
def WO (P:Program) (C:Known) (N:Nat):bL → bV → Env → St → Prop
  | .seq a b,Q,ρ,s=>if Ns a=true then WO P C N a (kF (W P C b Q) Q) ρ s else W P C a (kF (WO P C N b Q) Q) ρ s
  | .block id a,Q,ρ,s=>WO P C N a (gP id Q) ρ s
  | .rangeF fo ps ca cb,Q,ρ,s=>P6 P N fo ps ca cb Q ρ s
  | c,Q,ρ,s=>W P C c Q ρ s
section
variable {P:Program} {C:Known} {N:Nat}
theorem XW.mono {ac:bL} {Q Q':Exit → List AV → St → Prop} {F:List AV} {s:St} (h:XW P ac Q F s) (hq:∀ e F s,Q e F s → Q' e F s):XW P ac Q' F s:=
  fun code hc c w a hs hF hd=>wpIn_mono (h code hc c w a hs hF hd) fun e a' w' hp=>rH hp fun ⟨c',F',s',h0,h1,h2,h3,h4⟩=>⟨c',F',s',h0,h1,h2,h3,hq _ _ _ h4⟩
def XF (P:Program) (N:Nat) (fo:AO) (ps:List Nat) (ca cb:bL) (ρ:Env) (s:St) [Q:Yk]:Prop:=P6 P N fo ps ca cb Q.q ρ s
theorem XL (a b:bL) (Q:bV) (ρ:Env) (s:St):WO P C N (.seq a b) Q ρ s=if Ns a=true then WO P C N a (kF (W P C b Q) Q) ρ s else W P C a (kF (WO P C N b Q) Q) ρ s:=rfl
theorem NU (id:Nat) (a:bL) (Q:bV) (ρ:Env) (s:St):WO P C N (.block id a) Q ρ s=WO P C N a (gP id Q) ρ s:=rfl
theorem Rm (fo:AO) (ps:List Nat) (ca cb:bL) (Q:bV) (ρ:Env) (s:St):WO P C N (.rangeF fo ps ca cb) Q ρ s = @XF P N fo ps ca cb ρ s ⟨Q⟩:=rfl
end
attribute [go_sem ↓] XL NU Rm
attribute [go_sem] Ns
end Go.AX
/- What a call does in a small state it does in every state that holds it, under other ids. -/
namespace Go.AX
open Go
mutual
def AV.ren (π:Nat → Nat):AV → AV
  | .agg cs=>.agg (AV.jW π cs)
  | .tup cs=>.tup (AV.jW π cs)
  | .ptr b e o=>.ptr (π b) e o
  | .vp cs=>.vp (AV.jW π cs)
  | .sl b e o n z=>.sl (π b) e o n z
  | .ps n cs=>.ps n (AV.jW π cs)
  | .fn f xs ys=>.fn f (AV.jW π xs) (AV.jW π ys)
  | .ifc t x=>.ifc t (AV.ren π x)
  | .map r=>.map (π r)
  | .bool b=>.bool b
  | .int k n=>.int k n
  | .str s=>.str s
  | .nilp=>.nilp
  | .nils=>.nils
  | .nilf=>.nilf
  | .nili=>.nili
  | .nilm=>.nilm
  | .any=>.any
def AV.jW (π:Nat → Nat):List AV → List AV
  | []=>[]
  | x :: r=>AV.ren π x :: AV.jW π r
end
theorem Bw (π:Nat → Nat):∀ (l:List AV) (i:Nat),(AV.jW π l)[i]? = (l[i]?).map (AV.ren π)
  | [],i=>by simp [AV.jW]
  | x :: r,0=>by simp [AV.jW]
  | x :: r,i + 1=>by simp [AV.jW,Bw π r i]
theorem GX (π:Nat → Nat):∀ l:List AV,(AV.jW π l).length=l.length
  | []=>rfl
  | x :: r=>by simp [AV.jW,GX π r]
theorem PE (π:Nat → Nat) (l:List AV):AV.jW π l=[] ↔ l=[]:=by cases l <;> simp [AV.jW]
def Obj.ren (π:Nat → Nat):Obj → Obj
  | .cells v cs sn=>.cells v (AV.jW π cs) sn
  | .map es=>.map (es.map fun p=>(AV.ren π p.1,AV.ren π p.2))
  | .iter s p=>.iter s p
  | .raw k o F us=>.raw k o (AV.jW π F) us
def Ctx.pull (c:Ctx) (π:Nat → Nat):Ctx:=⟨fun b e=>c.σ (π b) e,c.m,c.gl⟩
section
variable {c:Ctx} {π:Nat → Nat}
mutual
theorem jg:∀ (x:AV) (u:Value),aD c (AV.ren π x) u ↔ aD (c.pull π) x u
  | .agg cs,u=>by simp only [AV.ren,aD];exact ⟨fun ⟨us,e,h⟩=>⟨us,e,(iF cs us).1 h⟩,fun ⟨us,e,h⟩=>⟨us,e,(iF cs us).2 h⟩⟩
  | .tup cs,u=>by simp only [AV.ren,aD];exact ⟨fun ⟨us,e,h⟩=>⟨us,e,(iF cs us).1 h⟩,fun ⟨us,e,h⟩=>⟨us,e,(iF cs us).2 h⟩⟩
  | .ptr b e o,u=>by simp only [AV.ren,aD,Ctx.pull]
  | .vp cs,u=>by simp only [AV.ren,aD];exact ⟨fun ⟨k,o,e,h⟩=>⟨k,o,e,(mH k o cs).1 h⟩,fun ⟨k,o,e,h⟩=>⟨k,o,e,(mH k o cs).2 h⟩⟩
  | .sl b e o n z,u=>by simp only [AV.ren,aD,Ctx.pull]
  | .ps n cs, u => by
    simp only [AV.ren,aD,PE]
    constructor
    · rintro (h | ⟨k,o,q,e,hq,h⟩)
      · exact .inl h
      · exact .inr ⟨k,o,q,e,hq,(mH k o cs).1 h⟩
    · rintro (h | ⟨k,o,q,e,hq,h⟩)
      · exact .inl h
      · exact .inr ⟨k,o,q,e,hq,(mH k o cs).2 h⟩
  | .fn f xs ys, u => by
    simp only [AV.ren,aD]
    exact ⟨fun ⟨us,ws,e,h1,h2⟩=>⟨us,ws,e,(iF xs us).1 h1,(iF ys ws).1 h2⟩,fun ⟨us,ws,e,h1,h2⟩=>⟨us,ws,e,(iF xs us).2 h1,(iF ys ws).2 h2⟩⟩
  | .ifc t x,u=>by simp only [AV.ren,aD];exact ⟨fun ⟨v,e,h⟩=>⟨v,e,(jg x v).1 h⟩,fun ⟨v,e,h⟩=>⟨v,e,(jg x v).2 h⟩⟩
  | .map r,u=>by simp only [AV.ren,aD,Ctx.pull]
  | .bool b,u=>by simp only [AV.ren,aD]
  | .int k n,u=>by simp only [AV.ren,aD]
  | .str s,u=>by simp only [AV.ren,aD]
  | .nilp,u=>by simp only [AV.ren,aD]
  | .nils,u=>by simp only [AV.ren,aD]
  | .nilf,u=>by simp only [AV.ren,aD]
  | .nili,u=>by simp only [AV.ren,aD]
  | .nilm,u=>by simp only [AV.ren,aD]
  | .any,u=>by simp only [AV.ren,aD]
theorem iF:∀ (xs:List AV) (us:List Value),aB c (AV.jW π xs) us ↔ aB (c.pull π) xs us
  | [],us=>by simp only [AV.jW,aB]
  | x :: r, us => by
    simp only [AV.jW,aB]
    exact ⟨fun ⟨u,us',e,h1,h2⟩=>⟨u,us',e,(jg x u).1 h1,(iF r us').1 h2⟩,fun ⟨u,us',e,h1,h2⟩=>⟨u,us',e,(jg x u).2 h1,(iF r us').2 h2⟩⟩
theorem mH (k:Nat):∀ (o:Nat) (xs:List AV),bG c k o (AV.jW π xs) ↔ bG (c.pull π) k o xs
  | _,[]=>by simp only [AV.jW,bG]
  | o, x :: r => by
    simp only [AV.jW,bG]
    exact ⟨fun ⟨⟨u,e,h1⟩,h2⟩=>⟨⟨u,e,(jg x u).1 h1⟩,(mH k (o + 1) r).1 h2⟩,fun ⟨⟨u,e,h1⟩,h2⟩=>⟨⟨u,e,(jg x u).2 h1⟩,(mH k (o + 1) r).2 h2⟩⟩
end
theorem AY:∀ (es:List (AV × AV)) (ms:List MapEntry),gQ c (es.map fun p=>(AV.ren π p.1,AV.ren π p.2)) ms ↔ gQ (c.pull π) es ms
  | [],ms=>by simp only [List.map_nil,gQ]
  | (k, v) :: r, ms => by
    simp only [List.map_cons,gQ]
    exact ⟨fun ⟨e,es',h0,h1,h2,h3⟩=>⟨e,es',h0,(jg k _).1 h1,(jg v _).1 h2,(AY r _).1 h3⟩,fun ⟨e,es',h0,h1,h2,h3⟩=>⟨e,es',h0,(jg k _).2 h1,(jg v _).2 h2,(AY r _).2 h3⟩⟩
theorem Bz {w:World} {id:Nat}:∀ {o:Obj},gJ c w (π id) (o.ren π) ↔ gJ (c.pull π) w id o
  | .cells v cs sn => by
    simp only [Obj.ren,gJ,GX]
    constructor
    · rintro ⟨k,z,arr,el,fr,h1,h2,h3,h4,h5,h6,h7⟩
      refine ⟨k,z,arr,el,fr,h1,h2,h3,h4,h5,fun i x hx=>?_,h7⟩
      obtain ⟨u,a,b,r⟩:=h6 i (AV.ren π x) (by rw [Bw,hx];rfl)
      exact ⟨u,a,b,(jg x u).1 r⟩
    · rintro ⟨k,z,arr,el,fr,h1,h2,h3,h4,h5,h6,h7⟩
      refine ⟨k,z,arr,el,fr,h1,h2,h3,h4,h5,fun i x hx=>?_,h7⟩
      rw [Bw,Option.map_eq_some_iff] at hx
      obtain ⟨y,hy,rfl⟩:=hx
      obtain ⟨u,a,b,r⟩:=h6 i y hy
      exact ⟨u,a,b,(jg y u).2 r⟩
  | .map es => by
    simp only [Obj.ren,gJ,AY];rfl
  | .iter s p=>by simp only [Obj.ren,gJ];rfl
  | .raw k o F us=>by simp only [Obj.ren,gJ,iF];rfl
theorem EM (o:Obj):(o.ren π).ver=o.ver:=by cases o <;> rfl
theorem El (o:Obj) (id:Nat):blk c (π id) (o.ren π)=blk (c.pull π) id o:=by simp only [blk,EM];rfl
end
def mK (m N n0:Nat) (id:Nat):Nat:=if id < n0 then m + id else N + (id - n0)
def iX (m N n0:Nat) (id:Nat):Nat:=if id < N then id - m else n0 + (id - N)
theorem uK {π:Nat → Nat} (hπ:∀ i j,π i=π j → i=j) (id:Nat):∀ l:List (Nat × Obj),look (π id) (l.map fun p=>(π p.1,p.2.ren π))=(look id l).map (Obj.ren π)
  | []=>rfl
  | (i, o) :: r => by
    simp only [List.map_cons,look]
    by_cases h:i=id
    · subst h;simp
    · rw [if_neg (fun e=>h (hπ _ _ e)),if_neg h];exact uK hπ id r
theorem sF {π:Nat → Nat} (id:Nat) (h:∀ j,π j ≠ id):∀ l:List (Nat × Obj),look id (l.map fun p=>(π p.1,p.2.ren π))=none
  | []=>rfl
  | (i, o) :: r => by
    simp only [List.map_cons,look]
    rw [if_neg (h i)];exact sF id h r
theorem aF.shift {P : Program} {f : FuncId} {args0 : List AV} {n0 : Nat} {h0 : List (Nat × Obj)} {R0 : AV → St → Prop} (h : aF P f args0 ⟨h0, n0⟩ R0) (hid : ∀ id o, look id h0 = some o → id < n0)
    {s:St} {m:Nat} (hm:m + n0 ≤ s.next) (hs0:∀ id o,look id h0=some o → s.get (m + id)=some (o.ren (mK m s.next n0))) :
    aF P f (AV.jW (mK m s.next n0) args0) s fun v s'=>∃ v0 s0,R0 v0 s0 ∧ v=AV.ren (mK m s.next n0) v0 ∧ n0 ≤ s0.next ∧ s'.next=s.next + (s0.next - n0) ∧
      (∀ id o,s0.get id=some o → s'.get (mK m s.next n0 id)=some (o.ren (mK m s.next n0))) ∧ (∀ id,id < s.next → ¬ (m ≤ id ∧ id < m + n0) → s'.get id=s.get id):=by
  refine ⟨h.1,fun c w vs hs hr=>?_⟩
  generalize hN:s.next=N at *
  generalize hπ:mK m N n0=π at *
  have π1:∀ id,id < n0 → π id=m + id:=fun id hi=>by rw [← hπ];exact if_pos hi
  have π2:∀ id,n0 ≤ id → π id=N + (id - n0):=fun id hi=>by rw [← hπ];exact if_neg (by omega)
  have κπ:∀ id,iX m N n0 (π id)=id:=fun id=>by
    rcases Nat.lt_or_ge id n0 with hi | hi
    · rw [π1 id hi];unfold iX;rw [if_pos (by omega)];omega
    · rw [π2 id hi];unfold iX;rw [if_neg (by omega)];omega
  have inj:∀ i j,π i=π j → i=j:=fun i j e=>by rw [← κπ i,← κπ j,e]
  let Im:Nat → Prop:=fun id=>(m ≤ id ∧ id < m + n0) ∨ N ≤ id
  have πκ:∀ id,Im id → π (iX m N n0 id)=id:=fun id hi=>by
    rcases hi with ⟨h1,h2⟩ | h1
    · unfold iX;rw [if_pos (by omega),π1 _ (by omega)];omega
    · unfold iX;rw [if_neg (by omega),π2 _ (by omega)];omega
  have imπ:∀ id,Im (π id):=fun id=>by
    rcases Nat.lt_or_ge id n0 with hi | hi
    · rw [π1 id hi];exact .inl ⟨by omega,by omega⟩
    · rw [π2 id hi];exact .inr (by omega)
  -- the small state is so in this world
  have hsg:∀ id o,look id h0=some o → s.get (π id)=some (o.ren π):=fun id o ho=>by rw [π1 id (hid id o ho)];exact hs0 id o ho
  have hS0:Sat (c.pull π) ⟨h0,n0⟩ w:=by
    refine ⟨hs.mem,fun id o ho=>Bz.1 (hs.obj _ _ (hsg id o ho)),fun id id' o o' k ho ho' hb hb'=>?_,fun id e hi=>?_,fun id o ho e he=>?_,fun b e k z hb=>hs.low _ _ _ _ hb⟩
    · rw [← El] at hb hb'
      exact inj _ _ (hs.inj _ _ _ _ k (hsg id o ho) (hsg id' o' ho') hb hb')
    · show c.σ (π id) e=none
      have hi':n0 ≤ id:=hi
      rw [π2 id hi'];exact hs.fresh _ _ (by rw [hN];omega)
    · show c.σ (π id) e=none
      exact hs.top _ _ (hsg id o ho) e (by rw [EM];exact he)
  refine (h.2 (c.pull π) w vs hS0 ((iF args0 vs).1 hr)).mono fun e w' ⟨v0,u,c1,s0,he,hv,h1,hx,hR⟩=>?_
  -- the context behind
  let c2:Ctx:=⟨fun id e=>if (m ≤ id ∧ id < m + n0) ∨ N ≤ id then c1.σ (iX m N n0 id) e else c.σ id e,c1.m,c1.gl⟩
  have cim:∀ id e,Im id → c2.σ id e=c1.σ (iX m N n0 id) e:=fun id e hi=>if_pos hi
  have cno:∀ id e,¬ Im id → c2.σ id e=c.σ id e:=fun id e hi=>if_neg hi
  have hpull:c2.pull π=c1:=by
    have:(fun b e=>c2.σ (π b) e)=c1.σ:=by
      funext b e;rw [cim _ _ (imπ b),κπ]
    simp only [Ctx.pull,this,c2]
  let s':St:=⟨(s0.heap.map fun p=>(π p.1,p.2.ren π)) ++ s.heap.filter (fun p=>!(decide (m ≤ p.1) && decide (p.1 < m + n0))),N + (s0.next - n0)⟩
  have nx0:n0 ≤ s0.next:=hx.next
  have snlt:∀ id o,s.get id=some o → id < N:=fun id o ho=>by have:=(hs.closed ho).2;omega
  have gim:∀ id,s'.get (π id)=(s0.get id).map (Obj.ren π):=fun id=>by
    show look (π id) (_ ++ _)=_
    rw [lS,uK inj,fU (fun i=>!(decide (m ≤ i) && decide (i < m + n0)))]
    cases hg:s0.get id with
    | some o=>have hg':look id s0.heap=some o:=hg;rw [hg'];rfl
    | none =>
      have hg':look id s0.heap=none:=hg
      rw [hg']
      simp only [Option.map_none,Option.none_or]
      split
      · rename_i hp
        cases hq:look (π id) s.heap with
        | none=>rfl
        | some o =>
          exfalso
          have:=snlt _ _ hq
          rcases imπ id with ⟨i1,i2⟩ | i1
          · simp [i1,i2] at hp
          · omega
      · rfl
  have gno:∀ id,¬ Im id → s'.get id=s.get id:=fun id hi=>by
    show look id (_ ++ _)=_
    rw [lS,sF id (fun j hj=>hi (hj ▸ imπ j)),fU (fun i=>!(decide (m ≤ i) && decide (i < m + n0)))]
    simp only [Option.none_or]
    rw [if_pos];rfl
    have:¬ (m ≤ id ∧ id < m + n0):=fun h=>hi (.inl h)
    simp only [Bool.not_eq_true',Bool.and_eq_false_iff,decide_eq_false_iff_not]
    omega
  have gcase:∀ id o,s'.get id=some o → (Im id ∧ ∃ o0,s0.get (iX m N n0 id)=some o0 ∧ o=o0.ren π) ∨ (¬ Im id ∧ s.get id=some o):=fun id o ho=>by
    by_cases hi:Im id
    · left
      refine ⟨hi,?_⟩
      have:=gim (iX m N n0 id)
      rw [πκ id hi,ho] at this
      cases hg:s0.get (iX m N n0 id) with
      | none=>rw [hg] at this;simp at this
      | some o0=>rw [hg] at this;simp at this;exact ⟨o0,rfl,this⟩
    · right;rw [gno id hi] at ho;exact ⟨hi,ho⟩
  have hlowk:∀ id o k,blk c id o=some k → k < w.heap.size:=fun id o k hb=>by
    simp only [blk,Option.map_eq_some_iff] at hb
    obtain ⟨⟨k1,z1⟩,hs1,rfl⟩:=hb
    exact hs.low _ _ _ _ hs1
  have fp0:∀ k,fp (c.pull π) ⟨h0,n0⟩ k → ∃ id o,Im id ∧ s.get id=some o ∧ blk c id o=some k:=fun k hf=>by
    obtain ⟨id,o,ho,hb⟩:=hf
    exact ⟨π id,o.ren π,imπ id,hsg id o ho,by rw [El];exact hb⟩
  have notfp:∀ id o k,¬ Im id → s.get id=some o → blk c id o=some k → ¬ fp (c.pull π) ⟨h0,n0⟩ k:=fun id o k hi ho hb hf=>by
    obtain ⟨id2,o2,i2,ho2,hb2⟩:=fp0 k hf
    have:=hs.inj _ _ _ _ k ho ho2 hb hb2
    subst this;exact hi i2
  have bim:∀ id (o0:Obj),Im id → blk c2 id (o0.ren π)=blk c1 (iX m N n0 id) o0:=fun id o0 hi=>by
    have:=El (c:=c2) (π:=π) o0 (iX m N n0 id)
    rw [πκ id hi,hpull] at this;exact this
  have bno:∀ id o,¬ Im id → blk c2 id o=blk c id o:=fun id o hi=>by simp only [blk,cno id _ hi]
  have cross:∀ id o k id2 (o2:Obj),¬ Im id → s.get id=some o → blk c id o=some k → s0.get id2=some o2 → blk c1 id2 o2=some k → False:=fun id o k id2 o2 hi ho hb ho2 hb2=>by
    rcases hx.foot k ⟨id2,o2,ho2,hb2⟩ with hf | hge
    · exact notfp id o k hi ho hb hf
    · have:=hlowk id o k hb;omega
  have hle:c.le c2:=⟨fun id e x hb=>by
    by_cases hi:Im id
    · rw [cim id e hi]
      exact hx.le.1 _ e x (by show c.σ (π (iX m N n0 id)) e=some x;rw [πκ id hi];exact hb)
    · rw [cno id e hi];exact hb,fun k o u hu=>hx.le.2 k o u hu⟩
  have hv2:aD c2 (AV.ren π v0) u:=by rw [jg,hpull];exact hv
  refine ⟨AV.ren π v0,u,c2,s',he,hv2,⟨h1.mem,fun id o ho=>?_,fun id id' o o' k ho ho' hb hb'=>?_,fun id e hi=>?_,fun id o ho e hlt=>?_,fun b e k z hb=>?_⟩,
    ⟨hle,hx.size,fun k hk hn=>hx.same k hk fun hf=>hn (by obtain ⟨id,o,_,ho,hb⟩:=fp0 k hf;exact ⟨id,o,ho,hb⟩),fun k hf=>?_,by rw [hN];exact Nat.le_add_right _ _,fun id hlt hn e=>?_,fun id o ho=>?_,hx.os⟩,
    v0,s0,hR,rfl,nx0,rfl,fun id o ho=>by rw [gim,ho];rfl,fun id hlt hn=>gno id fun hi=>hi.elim hn (fun hge=>by omega)⟩
  · rcases gcase id o ho with ⟨hi,o0,h2,rfl⟩ | ⟨hi,h2⟩
    · have:=(Bz (c:=c2) (π:=π) (w:=w') (id:=iX m N n0 id) (o:=o0)).2 (by rw [hpull];exact h1.obj _ _ h2)
      rw [πκ id hi] at this;exact this
    · exact (hs.obj id o h2).move hle fun k hk=>hx.same k (hlowk id o k hk) (notfp id o k hi h2 hk)
  · rcases gcase id o ho with ⟨hi,o0,h2,rfl⟩ | ⟨hi,h2⟩
    · rw [bim id o0 hi] at hb
      rcases gcase id' o' ho' with ⟨hi',o0',h2',rfl⟩ | ⟨hi',h2'⟩
      · rw [bim id' o0' hi'] at hb'
        have:=h1.inj _ _ _ _ k h2 h2' hb hb'
        rw [← πκ id hi,← πκ id' hi',this]
      · rw [bno id' o' hi'] at hb'
        exact (cross id' o' k _ o0 hi' h2' hb' h2 hb).elim
    · rw [bno id o hi] at hb
      rcases gcase id' o' ho' with ⟨hi',o0',h2',rfl⟩ | ⟨hi',h2'⟩
      · rw [bim id' o0' hi'] at hb'
        exact (cross id o k _ o0' hi h2 hb h2' hb').elim
      · rw [bno id' o' hi'] at hb'
        exact hs.inj _ _ _ _ k h2 h2' hb hb'
  · have hi':N + (s0.next - n0) ≤ id:=hi
    rw [cim id e (.inr (by omega))]
    refine h1.fresh _ _ ?_
    unfold iX;rw [if_neg (by omega)];omega
  · rcases gcase id o ho with ⟨hi,o0,h2,rfl⟩ | ⟨hi,h2⟩
    · rw [cim id e hi];exact h1.top _ _ h2 e (by rw [EM] at hlt;exact hlt)
    · rw [cno id e hi];exact hs.top _ _ h2 e hlt
  · by_cases hi:Im b
    · rw [cim b e hi] at hb;exact h1.low _ _ _ _ hb
    · rw [cno b e hi] at hb;exact Nat.lt_of_lt_of_le (hs.low _ _ _ _ hb) hx.size
  · obtain ⟨id,o,ho,hb⟩:=hf
    rcases gcase id o ho with ⟨hi,o0,h2,rfl⟩ | ⟨hi,h2⟩
    · rw [bim id o0 hi] at hb
      rcases hx.foot k ⟨_,o0,h2,hb⟩ with hf | hge
      · obtain ⟨id2,o2,_,ho2,hb2⟩:=fp0 k hf
        exact .inl ⟨id2,o2,ho2,hb2⟩
      · exact .inr hge
    · rw [bno id o hi] at hb
      exact .inl ⟨id,o,h2,hb⟩
  · rw [hN] at hlt
    by_cases hi:Im id
    · rw [cim id e hi]
      have hb:iX m N n0 id < n0:=by
        rcases hi with ⟨i1,i2⟩ | i1
        · unfold iX;rw [if_pos hlt];omega
        · omega
      have hnone:look (iX m N n0 id) h0=none:=by
        cases hg:look (iX m N n0 id) h0 with
        | none=>rfl
        | some o =>
          have:=hsg _ _ hg
          rw [πκ id hi,hn] at this;simp at this
      rw [hx.sig _ hb hnone e]
      show c.σ (π (iX m N n0 id)) e=c.σ id e
      rw [πκ id hi]
    · exact cno id e hi
  · rcases gcase id o ho with ⟨hi,o0,h2,rfl⟩ | ⟨hi,h2⟩
    · rcases hi with hr | hge
      · rcases hx.dom _ _ h2 with ⟨o',ho'⟩ | hge
        · have:=hsg _ _ ho'
          rw [πκ id (.inl hr)] at this
          exact .inl ⟨_,this⟩
        · exfalso
          have hge':n0 ≤ iX m N n0 id:=hge
          unfold iX at hge'
          rw [if_pos (by omega)] at hge';omega
      · exact .inr (by rw [hN];exact hge)
    · exact .inl ⟨o,h2⟩
end Go.AX
/- A deep view that keeps nil slices; a cell of a block told again by its deep view. -/
namespace Go.AX
open Go
def gL (g:Nat → Option Obj):Nat → AV → Option Seen
  | 0,v=>some (v,[])
  | d + 1, v => match v with
    | .nils=>some (.nils,[])
    | .sl b e o n z=>qA b e (g b) fun cs=>if o + n * z ≤ cs.length then kK (.ps n) (bg (gL g d) ((cs.drop o).take (n * z))) else none
    | .ptr b e o=>qA b e (g b) fun cs=>if o ≤ cs.length then kK .vp (bg (gL g d) (cs.drop o)) else none
    | .ps n cs=>if aI cs=true then some (.ps n cs,[]) else kK (.ps n) (bg (gL g d) cs)
    | .vp cs=>if aI cs=true then some (.vp cs,[]) else kK .vp (bg (gL g d) cs)
    | .agg cs=>kK .agg (bg (gL g d) cs)
    | .tup cs=>kK .tup (bg (gL g d) cs)
    | .fn f xs ys=>oO (.fn f) (bg (gL g d) xs) (bg (gL g d) ys)
    | .ifc t x => match gL g d x with
      | some (y,q)=>some (.ifc t y,q)
      | none=>none
    | v=>some (v,[])
section
variable {w:World} {g:Nat → Option Obj}
theorem xg:∀ d,VS w g (gL g d)
  | 0 => fun x y ps hv c s u h hs hr => by
    simp [gL] at hv;obtain ⟨rfl,rfl⟩:=hv
    exact ⟨c,h,Ext.refl _ _ _,hs,hr⟩
  | d + 1 => fun x y ps hv c s u h hs hr => by
    have ih:=xg d
    have same:∀ {y:AV} {ps:List (Nat × Obj)},some (x,([]:List (Nat × Obj)))=some (y,ps) → ∃ c',Sat c' (s.puts ps) w ∧ Ext c s w c' (s.puts ps) w ∧ Since g (s.puts ps) ∧ aD c' y u:=fun e=>by
      simp at e;obtain ⟨rfl,rfl⟩:=e
      exact ⟨c,h,Ext.refl _ _ _,hs,hr⟩
    cases x with
    | nils =>
      simp only [gL] at hv;exact same hv
    | sl b e o n z =>
      simp only [gL,qA] at hv
      split at hv
      · rename_i e' cs sn hg
        split at hv
        · rename_i he
          subst he
          split at hv
          · rename_i x q hq
            split at hq
            · rename_i hc
              obtain ⟨xs,h1,rfl⟩:=eX hq
              simp at hv;obtain ⟨rfl,rfl⟩:=hv
              obtain ⟨c1,a1,a2,⟨k,zz,a3,a4⟩,a5⟩:=qD h hs hg
              simp only [aD] at hr
              obtain ⟨k',s',q',g1,g2,g3,g4⟩:=hr
              have:=a2.le.1 _ _ _ g1
              rw [a3] at this;simp only [Option.some.injEq,Prod.mk.injEq] at this;obtain ⟨rfl,rfl⟩:=this
              have hat:bG c1 k o ((cs.drop o).take (n * z)):=by simpa using (a4.drop o).take (n * z)
              obtain ⟨c2,b1,b2,b3,b4⟩:=fP ih h1 a1 a5 hat
              refine ⟨c2,b1,a2.trans b2,b3,?_⟩
              simp only [aD]
              exact .inr ⟨k,o,q',g2,g3,b4⟩
            · simp at hq
          · simp at hv
        · simp at hv
      · simp at hv
    | ptr b e o =>
      simp only [gL,qA] at hv
      split at hv
      · rename_i e' cs sn hg
        split at hv
        · rename_i he
          subst he
          split at hv
          · rename_i x q hq
            split at hq
            · rename_i hc
              obtain ⟨xs,h1,rfl⟩:=eX hq
              simp at hv;obtain ⟨rfl,rfl⟩:=hv
              obtain ⟨c1,a1,a2,⟨k,zz,a3,a4⟩,a5⟩:=qD h hs hg
              simp only [aD] at hr
              obtain ⟨k',s',g1,g2⟩:=hr
              have:=a2.le.1 _ _ _ g1
              rw [a3] at this;simp only [Option.some.injEq,Prod.mk.injEq] at this;obtain ⟨rfl,rfl⟩:=this
              have hat:bG c1 k o (cs.drop o):=by simpa using a4.drop o
              obtain ⟨c2,b1,b2,b3,b4⟩:=fP ih h1 a1 a5 hat
              refine ⟨c2,b1,a2.trans b2,b3,?_⟩
              simp only [aD]
              exact ⟨k,o,g2,b4⟩
            · simp at hq
          · simp at hv
        · simp at hv
      · simp at hv
    | ps n cs =>
      simp only [gL] at hv
      split at hv
      · exact same hv
      · obtain ⟨xs,h1,rfl⟩:=eX hv
        simp only [aD] at hr
        rcases hr with ⟨rfl,rfl,a,q,e⟩ | ⟨k,o,q,e,hq,r⟩
        · simp [bg] at h1
          obtain ⟨rfl,rfl⟩:=h1
          exact ⟨c,h,Ext.refl _ _ _,hs,by simp only [aD];exact .inl ⟨by first | rfl | trivial,by first | rfl | trivial,a,q,e⟩⟩
        · obtain ⟨c2,b1,b2,b3,b4⟩:=fP ih h1 h hs r
          exact ⟨c2,b1,b2,b3,by simp only [aD];exact .inr ⟨k,o,q,e,hq,b4⟩⟩
    | vp cs =>
      simp only [gL] at hv
      split at hv
      · exact same hv
      · obtain ⟨xs,h1,rfl⟩:=eX hv
        simp only [aD] at hr
        obtain ⟨k,o,e,r⟩:=hr
        obtain ⟨c2,b1,b2,b3,b4⟩:=fP ih h1 h hs r
        exact ⟨c2,b1,b2,b3,by simp only [aD];exact ⟨k,o,e,b4⟩⟩
    | agg xs =>
      simp only [gL] at hv
      obtain ⟨ys,h1,rfl⟩:=eX hv
      simp only [aD] at hr
      obtain ⟨us,rfl,hr⟩:=hr
      obtain ⟨c',a1,a2,a3,a4⟩:=cu ih xs ys _ h1 c s us h hs hr
      exact ⟨c',a1,a2,a3,by simp only [aD];exact ⟨us,rfl,a4⟩⟩
    | tup xs =>
      simp only [gL] at hv
      obtain ⟨ys,h1,rfl⟩:=eX hv
      simp only [aD] at hr
      obtain ⟨us,rfl,hr⟩:=hr
      obtain ⟨c',a1,a2,a3,a4⟩:=cu ih xs ys _ h1 c s us h hs hr
      exact ⟨c',a1,a2,a3,by simp only [aD];exact ⟨us,rfl,a4⟩⟩
    | fn f xs ys =>
      simp only [gL] at hv
      cases h1:bg (gL g d) xs with
      | none=>rw [h1] at hv;simp [oO] at hv
      | some p1 =>
        cases h2:bg (gL g d) ys with
        | none=>rw [h1,h2] at hv;simp [oO] at hv
        | some p2 =>
          obtain ⟨xs',p⟩:=p1
          obtain ⟨ys',q⟩:=p2
          rw [h1,h2] at hv
          simp [oO] at hv
          obtain ⟨rfl,rfl⟩:=hv
          simp only [aD] at hr
          obtain ⟨us,ws,rfl,r1,r2⟩:=hr
          obtain ⟨c1,a1,a2,a3,a4⟩:=cu ih xs xs' _ h1 c s us h hs r1
          obtain ⟨c2,b1,b2,b3,b4⟩:=cu ih ys ys' _ h2 c1 _ ws a1 a3 (aB.mono a2.le ys ws r2)
          have e:s.puts (p ++ q)=(s.puts p).puts q:=by simp [St.puts]
          exact ⟨c2,by rw [e];exact b1,by rw [e];exact a2.trans b2,by rw [e];exact b3,by simp only [aD];exact ⟨us,ws,rfl,aB.mono b2.le _ _ a4,b4⟩⟩
    | ifc t x =>
      simp only [gL] at hv
      split at hv
      · rename_i y' q h1
        simp at hv;obtain ⟨rfl,rfl⟩:=hv
        simp only [aD] at hr
        obtain ⟨u',rfl,hr⟩:=hr
        obtain ⟨c',a1,a2,a3,a4⟩:=ih x y' q h1 c s u' h hs hr
        exact ⟨c',a1,a2,a3,by simp only [aD];exact ⟨u',rfl,a4⟩⟩
      · simp at hv
    | _=>exact same (by simpa only [gL] using hv)
end
theorem Af {id:Nat}:∀ (ps:List (Nat × Obj)) (s:St),(∀ p ∈ ps,p.1 ≠ id) → (s.puts ps).get id=s.get id
  | [],s,_=>rfl
  | p :: r, s, h => by
    rw [show s.puts (p :: r)=(s.put p.1 p.2).puts r from rfl,Af r _ fun q hq=>h q (by simp [hq]),qj,if_neg (h p (by simp))]
theorem Sat.JG {c:Ctx} {s:St} {w:World} (h:Sat c s w) {b e i d:Nat} {cs:List AV} {x y:AV} {ps:List (Nat × Obj)} (hg:s.get b=some (.cells e cs false)) (hi:cs[i]? = some x) (hv:gL s.get d x=some (y,ps)) (hps:∀ p ∈ ps,p.1 ≠ b) (hy:y.one=true) :
    ∃ c',Sat c' ((s.puts ps).put b (.cells e (cs.set i y) false)) w ∧ Ext c s w c' ((s.puts ps).put b (.cells e (cs.set i y) false)) w:=by
  obtain ⟨k,z,arr,el,fr,g1,g2,g3,g4,g5,g6,g7⟩:=h.block hg
  obtain ⟨u,a1,a2,a3⟩:=g6 i x hi
  obtain ⟨c1,q1,q2,q3,q4⟩:=xg d x y ps hv c s u h (Since.refl s) a3
  have hg1:(s.puts ps).get b=some (.cells e cs false):=by rw [Af ps s hps];exact hg
  obtain ⟨k',z',arr',el',fr',b1,b2,b3,b4,b5,b6,b7⟩:=q1.block hg1
  have:c1.σ b e=some (k,z):=q2.le.1 _ _ _ g1
  rw [this] at b1;simp only [Option.some.injEq,Prod.mk.injEq] at b1;obtain ⟨rfl,rfl⟩:=b1
  rw [g2] at b2;simp only [Option.some.injEq,Go.Obj.cells.injEq] at b2;obtain ⟨rfl,rfl,rfl⟩:=b2
  obtain ⟨c2,r1,r2,_⟩:=q1.inPlace (w':=w) hg1 this g2 (e':=e) (cs':=cs.set i y) (seen':=false) (arr':=arr) g3 (by simpa using g4) (fun j x' hx'=>by
    by_cases hij:i=j
    · subst hij
      rw [List.getElem?_set_self (by exact (List.getElem?_eq_some_iff.1 hi).1)] at hx'
      simp only [Option.some.injEq] at hx';subst hx'
      exact ⟨u,a1,a2,q4⟩
    · rw [List.getElem?_set_ne hij] at hx'
      exact b6 j x' hx') (fun j u hu=>by rw [b7] at hu;simp at hu) (.inl rfl) (lT e) (by
      apply Array.ext (by simp)
      intro i h1 h2
      rw [Array.getElem_setIfInBounds]
      split
      · rename_i heq;subst heq
        rw [Array.getElem?_eq_getElem h1] at g2
        simpa using g2
      · rfl) (eG.refl w)
  exact ⟨c2,r1,q2.trans r2⟩
theorem aF.JG {P:Program} {f:FuncId} {args:List AV} {s s1:St} {v:AV} (h:aF P f args s fun v' s'=>v'=v ∧ s'=s1) {b e i d:Nat} {cs:List AV} {x y:AV} {ps:List (Nat × Obj)} (hg:s1.get b=some (.cells e cs false)) (hi:cs[i]? = some x) (hv:gL s1.get d x=some (y,ps)) (hps:∀ p ∈ ps,p.1 ≠ b) (hy:y.one=true) :
    aF P f args s fun v' s'=>v'=v ∧ s'=(s1.puts ps).put b (.cells e (cs.set i y) false):=by
  refine ⟨h.1,fun c w vs hs hr=>(h.2 c w vs hs hr).mono fun en w' ⟨v',u,c',s',h1,h2,h3,h4,h5,h6⟩=>?_⟩
  subst h5;subst h6
  obtain ⟨c2,r1,r2⟩:=h3.JG hg hi hv hps hy
  exact ⟨v',u,c2,_,h1,h2.mono r2.le,r1,h4.trans r2,rfl,rfl⟩
end Go.AX
/- Values without ids are the same under other ids. -/
namespace Go.AX
open Go
mutual
theorem BA (π:Nat → Nat):∀ x:AV,flat x=true → AV.ren π x=x
  | .agg cs,h=>by simp only [flat] at h;simp only [AV.ren,jV π cs h]
  | .tup cs,h=>by simp only [flat] at h;simp only [AV.ren,jV π cs h]
  | .ptr b e o,h=>by simp [flat] at h
  | .vp cs,h=>by simp only [flat] at h;simp only [AV.ren,jV π cs h]
  | .sl b e o n z,h=>by simp [flat] at h
  | .ps n cs,h=>by simp only [flat] at h;simp only [AV.ren,jV π cs h]
  | .fn f xs ys,h=>by simp only [flat,Bool.and_eq_true] at h;simp only [AV.ren,jV π xs h.1,jV π ys h.2]
  | .ifc t x,h=>by simp only [flat] at h;simp only [AV.ren,BA π x h]
  | .map r,h=>by simp [flat] at h
  | .bool b,_=>rfl
  | .int k n,_=>rfl
  | .str s,_=>rfl
  | .nilp,_=>rfl
  | .nils,_=>rfl
  | .nilf,_=>rfl
  | .nili,_=>rfl
  | .nilm,_=>rfl
  | .any,_=>rfl
theorem jV (π:Nat → Nat):∀ l:List AV,aI l=true → AV.jW π l=l
  | [],_=>rfl
  | x :: r,h=>by simp only [aI,Bool.and_eq_true] at h;simp only [AV.jW,BA π x h.1,jV π r h.2]
end
end Go.AX
