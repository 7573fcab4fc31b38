/- slices.Grow of nil, off the shelf. -/
import Derived.Test.YtoilbphgflgbeaaGreatTxA
import Derived.Test.YtoilbphgflgbeaaGreatTxC
import Derived.Shelf.Spec.SlicesGrow
import Derived.Test.YtoilbphgflgbeaaGreatAxE
import Derived.Test.YtoilbphgflgbeaaGreatTxW
set_option linter.unusedSimpArgs false
set_option linter.unusedVariables false
namespace W15
open Go Go.AX Go.AX.Ty Go.Proofs Go.Shelf
def IU:Ren:=⟨fun | 4=>68 | n=>n,fun | 22=>68 | 25=>71 | n=>n,fun n=>n⟩
theorem ED:Lays8.n4 Tryz.prog IU:={
  mixed:=mix
  f4 := ⟨Tryz.f68.name, by kernel_rfl, Tryz.func68.trans (congrArg some (by kernel_rfl))⟩
  t0:=Tryz.underlying0
  a0:=Tryz.isAgg0
  z0:=Tryz.sizeOf0
  v0:=Tryz.zeroValue0
  t3:=Tryz.underlying3
  a3:=Tryz.isAgg3
  z3:=Tryz.sizeOf3
  v3:=Tryz.zeroValue3
  t4:=Tryz.underlying4
  a4:=Tryz.isAgg4
  z4:=Tryz.sizeOf4
  v4:=Tryz.zeroValue4
  t9:=Tryz.underlying9
  a9:=Tryz.isAgg9
  z9:=Tryz.sizeOf9
  v9:=Tryz.zeroValue9
  t20:=Tryz.underlying20
  a20:=Tryz.isAgg20
  z20:=Tryz.sizeOf20
  v20:=Tryz.zeroValue20
  t22:=Tryz.underlying68
  a22:=Tryz.isAgg68
  z22:=Tryz.sizeOf68
  v22:=Tryz.zeroValue68 }
theorem JA:qP Tryz.prog 68:=⟨_,Tryz.func68,by kernel_rfl,by kernel_rfl⟩
theorem Mh:∃ i0 z,Tryz.prog.info? 71=some i0 ∧ i0.zero=some z ∧ i0.size=8 ∧ i0.bytes=144 ∧ z.cells.size=8:=by
  have h:(Tryz.prog.info? 71).map (fun i=>(i.size,i.bytes,i.zero.map fun z=>z.cells.size))=some (8,144,some 8):=by kernel_rfl
  cases hi:Tryz.prog.info? 71 with
  | none=>rw [hi] at h;cases h
  | some i =>
    rw [hi] at h
    simp only [Option.map_some,Option.some.injEq,Prod.mk.injEq] at h
    obtain ⟨h1,h2,h3⟩:=h
    cases hz:i.zero with
    | none=>rw [hz] at h3;cases h3
    | some z=>rw [hz] at h3;simp at h3;exact ⟨i,z,rfl,hz,h1,h2,h3⟩
theorem yx (zs:Array Value) (n:Nat):(Builtin.zeroCells zs n).size=n * zs.size:=by
  simp [Builtin.zeroCells]
theorem Uc (n:Nat) (hn:n ≤ 100000) (s:St):aR Tryz.prog 68 [.nils,.int .i64 n] s fun v s'=>(n=0 ∧ v=.nils ∧ s'=s) ∨ (v=.sl s.next 0 0 0 8 ∧ s'=s.push (.cells 0 [] false)):=by
  refine ⟨JA,fun c w vs hs hr=>?_⟩
  simp only [aI,aN] at hr
  obtain ⟨u,us,rfl,rfl,u2,us2,rfl,rfl,rfl⟩:=hr
  rcases Nat.eq_zero_or_pos n with h0 | h0
  · subst h0
    refine (Any8.slices_Grow_room ED none 0 0 0 w (by omega) (by omega) (by omega) (by omega)).mono fun e w' ⟨h1,h2⟩=>?_
    subst h2
    exact ⟨.nils,_,c,s,h1,by simp [aN],hs,Ext.refl _ _ _,.inl ⟨rfl,rfl,rfl⟩⟩
  · obtain ⟨i0,z,hi,hz,hsz,hby,hzc⟩:=Mh
    have hG:=Any8.slices_Grow_grow ED i0 z hi hz (by omega) none 0 0 n [] w (by omega) (by omega) (by rw [hby];omega) (by omega) (by simp) (fun _=>rfl) (fun a ha=>by cases ha)
    refine hG.mono fun e w' ⟨h1,h2⟩=>?_
    subst h2
    have hge:=grownCap_ge w (0 + n) 0 71
    have hd:=hs.sameHeap (w':=w.drew) rfl ⟨rfl,rfl,rfl⟩
    have hk:IU.t 25=71:=rfl
    rw [hk] at *
    generalize hq:grownCap w (0 + n) 0 71=q at *
    obtain ⟨c',g1,g2,g3⟩:=hd.1.alloc (w':=w.drew.alloc (.cells (([]:List Value).toArray ++ Builtin.zeroCells z.cells (0 + n - 0) ++ Builtin.zeroCells z.cells (q - (0 + n))) 71)) (e':=0) (cs':=[]) (arr':=([]:List Value).toArray ++ Builtin.zeroCells z.cells (0 + n - 0) ++ Builtin.zeroCells z.cells (q - (0 + n))) (el:=71) (fr:=(0,0))
      (by simp) (fun i _=>by omega) (fun i x hx=>by simp at hx) rfl ⟨rfl,rfl,rfl⟩
    refine ⟨.sl s.next 0 0 0 8,_,c',_,h1,?_,g1,hd.2.trans g2,.inr ⟨rfl,rfl⟩⟩
    simp only [aN]
    refine ⟨_,_,q,g3,by rw [← hq];rfl,by omega,?_⟩
    simp only [Array.size_append,yx,hzc,List.size_toArray,List.length_nil]
    omega
end W15
/- Concat. -/
namespace W15
open Go Go.AX Go.AX.Ty Go.Proofs
theorem mI {P:Program} {f:FuncId} {args:List AV} {s:St} {xs:List AV} {s':St} {K R:AV → St → Prop} (h:aR P f args s R) (hk:∀ v s2,R v s2 → @rY s2 ⟨K v⟩):@pU P f args s xs s' ⟨K⟩:=.inl (h.mono fun v s'' hr=>hk v s'' hr)
theorem pV {α:Type} {l:List (List α)} {k:Nat} {x:List α} (h:l[k]? = some x):((l.take (k + 1)).flatten).length=((l.take k).flatten).length + x.length:=by
  rw [List.take_add_one,h];simp
theorem Ld {α:Type} {l:List (List α)} {k:Nat} {x:List α} (h:l[k]? = some x):(l.take (k + 1)).flatten=(l.take k).flatten ++ x:=by
  rw [List.take_add_one,h];simp
theorem rz {α:Type} (l:List (List α)) (k:Nat):((l.take k).flatten).length ≤ l.flatten.length:=by
  have:l.flatten.length=((l.take k).flatten).length + ((l.drop k).flatten).length:=by
    rw [← List.length_append,← List.flatten_append,List.take_append_drop]
  omega
theorem ES (l:List (List Ty.Item)) (hl:l.flatten.length ≤ 100000) (hl2:l.length ≤ 100000):aK Tryz.prog 38 [Enc.av l] (Enc.av l.flatten):=by
  refine aH mix c38 (by kernel_rfl) (by kernel_rfl) (by simp [ay,ak,Go.AX.flat]) (by first | exact ak _ | simp [flat,ay,ak]) ?_
  simp -implicitDefEqProofs only [F38,go_sem,seval]
  refine aF (fun k:Nat=>l.length - k) (fun k=>[(0,Enc.av l),(3,.int .i64 ((l.take k).flatten.length:Nat)),(9,Enc.av l),(10,.int .i64 l.length),(11,.int .i64 k)]) (fun k s=>k ≤ l.length ∧ s=⟨[],0⟩) 0 ?_ ?_
  · simp -implicitDefEqProofs only [List.take_zero,List.flatten_nil,go_sem,seval]
  rintro k ρ s ⟨h1,rfl⟩
  rcases Nat.lt_or_ge k l.length with hk | hk
  · obtain ⟨x,hx,hd,hm⟩:=aG hk
    have hlt:((k:Int) < (l.length:Int))=True:=eq_true (by omega)
    have w1:IntKind.i64.wrap ((k:Int) + 1)=((k + 1:Nat):Int):=by rw [wrap64 (by omega) (by omega)];omega
    have hle:=rz l (k + 1)
    have he:=pV hx
    have w2:IntKind.i64.wrap (((l.take k).flatten.length:Nat) + (x.length:Int))=(((l.take (k + 1)).flatten.length:Nat):Int):=by rw [wrap64 (by omega) (by omega)];omega
    have hn0:((((l.take (k + 1)).flatten.length:Nat):Int) < 0)=False:=eq_false (by omega)
    simp -implicitDefEqProofs only [hlt,hx,w1,w2,hn0,go_sem,seval]
    exact ⟨k + 1,by omega,⟨rfl,rfl⟩,by omega⟩
  have hkl:k=l.length:=by omega
  subst hkl
  have hlt:((l.length:Int) < (l.length:Int))=False:=eq_false (by omega)
  simp -implicitDefEqProofs only [hlt,List.take_length,go_sem,seval]
  refine mI (Uc l.flatten.length hl _) ?_
  rintro v s2 (⟨h0,rfl,rfl⟩ | ⟨rfl,rfl⟩)
  · have hall : ∀ x ∈ l, x = [] := fun x hx => by
      have:x.length ≤ l.flatten.length:=by
        exact (List.sublist_flatten_of_mem hx).length_le
      exact List.eq_nil_of_length_eq_zero (by omega)
    rw [List.eq_nil_of_length_eq_zero h0]
    simp -implicitDefEqProofs only [go_sem,seval]
    refine aF (fun k:Nat=>l.length - k) (fun k=>[(6,.nils),(25,Enc.av l),(26,.int .i64 l.length),(27,.int .i64 k)]) (fun k s=>k ≤ l.length ∧ s=⟨[],0⟩) 0 ?_ ?_
    · simp -implicitDefEqProofs only [go_sem,seval]
    rintro k ρ s ⟨h1,rfl⟩
    rcases Nat.lt_or_ge k l.length with hk | hk
    · obtain ⟨x,hx,hd,hm⟩:=aG hk
      have hlt:((k:Int) < (l.length:Int))=True:=eq_true (by omega)
      have w1:IntKind.i64.wrap ((k:Int) + 1)=((k + 1:Nat):Int):=by rw [wrap64 (by omega) (by omega)];omega
      have hxe:=hall x hm
      subst hxe
      simp -implicitDefEqProofs only [hlt,hx,w1,aj,go_sem,seval]
      exact ⟨k + 1,by omega,rfl,by omega⟩
    · have hlt:((k:Int) < (l.length:Int))=False:=eq_false (by omega)
      simp -implicitDefEqProofs only [hlt,go_sem,seval]
      try rfl
  · simp -implicitDefEqProofs only [go_sem,seval]
    refine aF (fun p:Nat × Nat=>l.length - p.1) (fun p=>[(6,.sl 0 p.2 0 ((l.take p.1).flatten.length) 8),(25,Enc.av l),(26,.int .i64 l.length),(27,.int .i64 p.1)])
      (fun p s=>p.1 ≤ l.length ∧ s=⟨[(0,.cells p.2 (aj (l.take p.1).flatten) false)],1⟩) (0,0) ?_ ?_
    · simp -implicitDefEqProofs only [List.take_zero,List.flatten_nil,go_sem,seval]
      try rfl
    rintro ⟨k,e⟩ ρ s ⟨h1,rfl⟩
    dsimp only at h1
    rcases Nat.lt_or_ge k l.length with hk | hk
    · obtain ⟨x,hx,hd,hm⟩:=aG hk
      have hlt:((k:Int) < (l.length:Int))=True:=eq_true (by omega)
      have w1:IntKind.i64.wrap ((k:Int) + 1)=((k + 1:Nat):Int):=by rw [wrap64 (by omega) (by omega)];omega
      have hle:=rz l (k + 1)
      have he:=pV hx
      simp -implicitDefEqProofs only [hlt,hx,w1,go_sem,seval]
      have hcx:(aj x).length=x.length * 8:=Item.je x
      have hcf:(aj (l.take k).flatten).length=(l.take k).flatten.length * 8:=Item.je _
      have ht:List.take ((l.take k).flatten.length * 8) (aj (l.take k).flatten)=aj (l.take k).flatten:=List.take_of_length_le (by omega)
      have hbd:(((l.take k).flatten.length + x.length) * 144 ≤ 140737488355328)=True:=eq_true (by omega)
      have hflat:=Ld hx
      have hcell:aj (l.take (k + 1)).flatten=aj (l.take k).flatten ++ aj x:=by rw [hflat,aW]
      by_cases hx0:x.length=0
      · have hxe:x=[]:=List.eq_nil_of_length_eq_zero hx0
        subst hxe
        have hsame:(l.take (k + 1)).flatten=(l.take k).flatten:=by rw [hflat,List.append_nil]
        simp -implicitDefEqProofs only [aj,w1,go_sem,seval]
        exact ⟨(k + 1,e),by simp only;omega,by simp only [hsame];exact ⟨trivial,trivial⟩,by simp only;omega,by simp only [hsame]⟩
      · have hx0':(x.length=0)=False:=eq_false hx0
        simp -implicitDefEqProofs only [hcx,hcf,ht,hbd,hx0',w1,go_sem,seval]
        refine ⟨(k + 1,if e + 1 ≤ (l.take k).flatten.length * 8 + x.length * 8 then (l.take k).flatten.length * 8 + x.length * 8 else e + 1),by simp only;omega,?_⟩
        simp only [he,hcell]
        exact ⟨⟨trivial,trivial⟩,by omega,trivial⟩
    · have hlt:((k:Int) < (l.length:Int))=False:=eq_false (by omega)
      have htl:l.take k=l:=List.take_of_length_le (by omega)
      have hcf:(aj l.flatten).length=l.flatten.length * 8:=Item.je _
      have ht:List.take (l.flatten.length * 8) (aj l.flatten)=aj l.flatten:=List.take_of_length_le (by omega)
      simp -implicitDefEqProofs only [hlt,htl,go_sem,seval]
      simp only [cB,view,St.get,AX.look,if_true,ht,hcf,Nat.le_refl,and_self,Option.map_some,Nat.zero_add,List.drop_zero]
end W15
/- Layers. -/
namespace W15
open Go Go.AX Go.AX.Ty Go.Proofs
theorem jI (l:List Str):(aj l).length=l.length:=by rw [aT];simp [Enc.sz]
theorem rE (f:AV → Option Seen) (hf:∀ v,mE v=true → f v=some (v,[])):∀ cs:List AV,cs.all mE=true → bf f cs=some (cs,[])
  | [],_=>rfl
  | x :: r, h => by
    simp only [List.all_cons,Bool.and_eq_true] at h
    simp only [bf,hf x h.1,rE f hf r h.2,List.append_nil]
theorem Lx (g:Nat → Option AX.Obj) (d:Nat) (v:AV) (h:mE v=true):bI g d v=some (v,[]):=by
  cases d with
  | zero=>rfl
  | succ d=>cases v <;> first | (simp [mE] at h;done) | rfl
theorem wo:∀ l:List Str,(aj l).all mE=true
  | []=>rfl
  | a :: r => by
    show ((Enc.cells a ++ aj r).all mE)=true
    rw [List.all_append,wo r,Bool.and_true];rfl
theorem D8 (g:Nat → Option AX.Obj) (d b e o n z:Nat):bI g (d + 1) (.sl b e o n z)=p8 b e (g b) (fun cs=>if o + n * z ≤ cs.length then iA (.ps n) (bf (bI g d) ((cs.drop o).take (n * z))) else none):=rfl
theorem K6 (g:Nat → Option AX.Obj) (d:Nat) {X:List AV} (h:X.all mE=true):bf (bI g d) X=some (X,[]):=rE _ (fun v hv=>Lx _ _ v hv) _ h
theorem vJ {s:St} {b v n z:Nat} {cs C:List AV} {sn:Bool} {d:Nat} (hb:s.get b=some (.cells v cs sn)) (hn:n * z ≤ cs.length) (ht:cs.take (n * z)=C) (hC:C.all mE=true):bI s.get (d + 2) (.sl b v 0 n z)=some (.ps n C,[(b,.cells v cs true)]):=by
  rw [D8,hb]
  simp only [p8,if_true,Nat.zero_add,hn,List.drop_zero,ht,K6 _ _ hC,iA]
theorem iU {f:AV → Option Seen} {x y x' y':AV} {p q:List (Nat × AX.Obj)} (h1:f x=some (x',p)) (h2:f y=some (y',q)):∃ ps,bf f [x,y]=some ([x',y'],ps):=⟨p ++ q,by simp only [bf,h1,h2,List.append_nil]⟩
theorem MR {xs args:List AV} {ps:List (Nat × AX.Obj)} {s:St} {s':St} {d:Nat} {K:St → Prop} (hv:bf (bI s.get d) args=some (xs,ps)) (hk:@rY s' ⟨K⟩):@Iz (bf (bI s.get d) args) xs s' ⟨K⟩:=by
  rw [hv];exact ⟨rfl,hk⟩
theorem iT {P:Program} {f:FuncId} {args:List AV} {s:St} {xs xs':List AV} {s':St} {K:AV → St → Prop} {v:AV} (h:aK P f xs' v) (hp:wZ v=true) (hv:∃ ps,bf (bI s.get 7) args=some (xs',ps)) (hk:@rY s ⟨K v⟩):@pU P f args s xs s' ⟨K⟩:=by
  obtain ⟨ps,hv⟩:=hv
  exact PX h hp (MR hv hk)
def Ct (names:List Str) (v:AV) (s:St):Prop:=(names=[] ∧ v=.nils) ∨ ∃ b e,v=.sl b e 0 names.length 1 ∧ b < s.next ∧ AX.look b s.heap=some (.cells e (aj names) false)
theorem Ct.see {names:List Str} {v:AV} {s:St} (h:Ct names v s) (d:Nat):∃ ps,bI s.get (d + 2) v=some (Enc.av names,ps):=by
  rcases h with ⟨rfl,rfl⟩ | ⟨b,e,rfl,h1,h2⟩
  · exact ⟨[],rfl⟩
  · exact ⟨_,vJ (s:=s) h2 (by rw [jI];omega) (List.take_of_length_le (by rw [jI];omega)) (wo _)⟩
theorem Ct.push {names:List Str} {v:AV} {h:List (Nat × AX.Obj)} {m:Nat} {o:AX.Obj} (hv:Ct names v ⟨h,m⟩):Ct names v ⟨(m,o) :: h,m + 1⟩:=by
  rcases hv with hv | ⟨b,e,rfl,h1,h2⟩
  · exact .inl hv
  · simp only at h1 h2
    exact .inr ⟨b,e,rfl,by simp only;omega,by simp only [AX.look];rw [if_neg (by omega)];exact h2⟩
theorem nW:∀ (ns out:List Str),(ns.foldl iL out).length ≤ out.length + ns.length
  | [],out=>by simp
  | n :: r, out => by
    have h1:=nW r (iL out n)
    have h2:(iL out n).length ≤ out.length + 1:=by unfold iL;split <;> simp
    simp only [List.foldl_cons,List.length_cons];omega
theorem jD:∀ (xs:List Ty.Item) (out:List Str),(∀ x ∈ xs,x.names.length ≤ 1000) → (xs.foldl bW out).length ≤ out.length + xs.length * 1000
  | [],out,_=>by simp
  | x :: r, out, h => by
    have h1:=jD r (bW out x) fun y hy=>h y (by simp [hy])
    have h2:(bW out x).length ≤ out.length + 1000:=by
      unfold bW;split
      · have:=nW x.names out;have:=h x (by simp);omega
      · omega
    simp only [List.foldl_cons,List.length_cons];omega
theorem vT (l:List Str) (v:Str) (hl:l.length ≤ 140737488355328):aK Tryz.prog 39 [Enc.av l,Enc.av v] (.bool (FX l v)):=by
  have:=kY l v hl
  have e:(l.any fun x=>v == x)=FX l v:=by unfold FX;congr 1;funext x;rw [Bool.eq_iff_iff,beq_iff_eq,beq_iff_eq];exact ⟨Eq.symm,Eq.symm⟩
  rw [e] at this;exact this
end W15
/- Layers: the program's. -/
namespace W15
open Go Go.AX Go.AX.Ty Go.Proofs
theorem oU {out:List Str} {n:Str} (h:FX out n=true):iL out n=out:=by unfold iL;rw [if_pos h]
theorem mF {out:List Str} {n:Str} (h:FX out n=false):iL out n=out ++ [n]:=by unfold iL;rw [if_neg (by rw [h];decide)]
theorem mD {α β:Type} {f:β → α → β} {b:β} {l:List α} {i:Nat} {x:α} (h:l[i]? = some x):(l.take (i + 1)).foldl f b=f ((l.take i).foldl f b) x:=by
  rw [List.take_add_one,h];simp
set_option maxHeartbeats 1600000 in
theorem rZ (l:List (List Ty.Item)) (hl:l.flatten.length ≤ 10000) (hl2:l.length ≤ 10000) (hn:∀ x ∈ l.flatten,x.names.length ≤ 1000):aK Tryz.prog 11 [Enc.av l] (Enc.av (bQ l)):=by
  refine aH mix c11 (by kernel_rfl) (by kernel_rfl) (by simp [ay,ak,Go.AX.flat]) (by first | exact ak _ | simp [flat,ay,ak]) ?_
  simp -implicitDefEqProofs only [F11,go_sem,seval]
  refine au (ES l (by omega) (by omega)) ?_
  unfold bQ
  have hlen:=fun (i:Nat)=>jD (l.flatten.take i) [] fun x hx=>hn x (List.mem_of_mem_take hx)
  generalize l.flatten=xs at hl hn hlen
  simp -implicitDefEqProofs only [go_sem,seval]
  refine aF (fun p:Nat × AV=>xs.length - p.1) (fun p=>[(3,p.2),(9,Enc.av xs),(10,.int .i64 xs.length),(11,.int .i64 p.1)])
    (fun p s=>p.1 ≤ xs.length ∧ Ct ((xs.take p.1).foldl bW []) p.2 s) (0,.nils) ?_ ?_
  · simp -implicitDefEqProofs only [List.take_zero,List.foldl_nil,go_sem,seval]
    exact .inl ⟨rfl,rfl⟩
  rintro ⟨i,v⟩ ρ ⟨g,m⟩ ⟨h1,h2⟩
  dsimp only at h1 h2
  rcases Nat.lt_or_ge i xs.length with hi | hi
  · obtain ⟨x,hx,hd,hm⟩:=aG hi
    have hlt:((i:Int) < (xs.length:Int))=True:=eq_true (by omega)
    have w1:IntKind.i64.wrap ((i:Int) + 1)=((i + 1:Nat):Int):=by rw [wrap64 (by omega) (by omega)];omega
    have hxn:=hn x hm
    have hfs:=mD (f:=bW) (b:=([]:List Str)) hx
    have hle:=hlen i
    have hti:(xs.take i).length ≤ 10000:=by rw [List.length_take];omega
    generalize (xs.take i).foldl bW []=out at h2 hfs hle
    simp only [List.length_nil] at hle
    have h2':=Ct.push (o:=.cells 0 [.int .i64 x.kind,.ps x.bB.length (aj x.bB),.ps x.decls.length (aj x.decls),.ps x.names.length (aj x.names),.int .i64 x.min,.int .i64 x.max,.ps x.vals.length (aj x.vals),.ps x.l.length (aj x.l)] false) h2
    have skip:lH x=false → bW out x=out:=fun h=>by unfold bW;rw [if_neg (by rw [h];decide)]
    simp -implicitDefEqProofs only [hlt,hx,go_sem,seval]
    by_cases k4:x.kind=4
    · have f4:=eq_true k4
      have hstep:bW out x=x.names.foldl iL out:=by unfold bW;rw [if_pos (by simp [lH,k4])]
      simp -implicitDefEqProofs only [f4,go_sem,seval]
      refine aF (fun p:Nat × AV=>x.names.length - p.1) (fun p=>[(3,p.2),(9,Enc.av xs),(10,.int .i64 xs.length),(11,.int .i64 i),(30,Enc.av x.names),(31,.int .i64 x.names.length),(32,.int .i64 p.1)])
        (fun p s=>p.1 ≤ x.names.length ∧ Ct ((x.names.take p.1).foldl iL out) p.2 s) (0,v) ?_ ?_
      · simp -implicitDefEqProofs only [List.take_zero,List.foldl_nil,go_sem,seval]
        exact h2'
      rintro ⟨j,u⟩ ρ ⟨g2,q⟩ ⟨j1,j2⟩
      dsimp only at j1 j2
      rcases Nat.lt_or_ge j x.names.length with hj | hj
      · obtain ⟨nm,hnm,hd2,hm2⟩:=aG hj
        have hlt2:((j:Int) < (x.names.length:Int))=True:=eq_true (by omega)
        have w2:IntKind.i64.wrap ((j:Int) + 1)=((j + 1:Nat):Int):=by rw [wrap64 (by omega) (by omega)];omega
        have hfs2:=mD (f:=iL) (b:=out) hnm
        have hal:=nW (x.names.take j) out
        have htj:(x.names.take j).length ≤ 1000:=by rw [List.length_take];omega
        generalize (x.names.take j).foldl iL out=o2 at j2 hfs2 hal
        have hcon:=vT o2 nm (by omega)
        obtain ⟨ps,hsee⟩:=j2.see 5
        rcases j2 with ⟨rfl,rfl⟩ | ⟨b,e,rfl,j3,j4⟩
        · simp -implicitDefEqProofs only [hlt2,hnm,go_sem,seval]
          refine iT hcon rfl (iU (y:=.str nm) hsee (y':=.str nm) (q:=[]) rfl) ?_
          cases hin:FX ([]:List Str) nm
          · rw [mF hin] at hfs2
            simp -implicitDefEqProofs only [w2,go_sem,seval]
            refine ⟨(j + 1,_),by simp only;omega,⟨rfl,rfl⟩,by simp only;omega,?_⟩
            simp only [hfs2]
            exact .inr ⟨_,_,rfl,by simp only;omega,by simp only [AX.look,if_true];rfl⟩
          · rw [oU hin] at hfs2
            simp -implicitDefEqProofs only [w2,go_sem,seval]
            exact ⟨(j + 1,.nils),by simp only;omega,⟨rfl,rfl⟩,by simp only;omega,by simp only [hfs2];exact .inl ⟨rfl,rfl⟩⟩
        · simp only at j3 j4
          have hc:=jI o2
          have ht:List.take o2.length (aj o2)=aj o2:=List.take_of_length_le (by omega)
          have hbd:((o2.length + 1) * 16 ≤ 140737488355328)=True:=eq_true (by omega)
          have q0:(q=b)=False:=eq_false (by omega)
          have q1:(b=q)=False:=eq_false (by omega)
          simp -implicitDefEqProofs only [hlt2,hnm,j4,hc,ht,Nat.mul_one,go_sem,seval]
          refine iT hcon rfl (iU (y:=.str nm) hsee (y':=.str nm) (q:=[]) rfl) ?_
          cases hin:FX o2 nm
          · rw [mF hin] at hfs2
            simp -implicitDefEqProofs only [w2,j4,hc,ht,hbd,q0,q1,Nat.mul_one,go_sem,seval]
            refine ⟨(j + 1,.sl b (if e ≤ o2.length then o2.length + 1 else e + 1) 0 (o2.length + 1) 1),by simp only;omega,⟨rfl,rfl⟩,by simp only;omega,?_⟩
            simp only [hfs2]
            refine .inr ⟨b,_,by rw [List.length_append];rfl,by simp only;omega,?_⟩
            simp only [AX.look,q0,if_false,aS,if_true,j4,Option.map_some,aW]
            rfl
          · rw [oU hin] at hfs2
            simp -implicitDefEqProofs only [w2,go_sem,seval]
            exact ⟨(j + 1,.sl b e 0 o2.length 1),by simp only;omega,⟨rfl,rfl⟩,by simp only;omega,by simp only [hfs2];exact .inr ⟨b,e,rfl,j3,j4⟩⟩
      · have hlt2:((j:Int) < (x.names.length:Int))=False:=eq_false (by omega)
        rw [List.take_of_length_le hj] at j2
        simp -implicitDefEqProofs only [hlt2,w1,go_sem,seval]
        exact ⟨(i + 1,u),by simp only;omega,⟨rfl,rfl⟩,by simp only;omega,by simp only [hfs,hstep];exact j2⟩
    have f4:=eq_false k4
    by_cases k3:x.kind=3
    · have f3:=eq_true k3
      by_cases kn:x.names.length=1
      · have fn:((x.names.length:Int)=1)=True:=eq_true (by omega)
        have hstep:bW out x=x.names.foldl iL out:=by unfold bW;rw [if_pos (by simp [lH,k3,kn])]
        simp -implicitDefEqProofs only [f4,f3,fn,go_sem,seval]
        refine aF (fun p:Nat × AV=>x.names.length - p.1) (fun p=>[(3,p.2),(9,Enc.av xs),(10,.int .i64 xs.length),(11,.int .i64 i),(30,Enc.av x.names),(31,.int .i64 x.names.length),(32,.int .i64 p.1)])
          (fun p s=>p.1 ≤ x.names.length ∧ Ct ((x.names.take p.1).foldl iL out) p.2 s) (0,v) ?_ ?_
        · simp -implicitDefEqProofs only [List.take_zero,List.foldl_nil,go_sem,seval]
          exact h2'
        rintro ⟨j,u⟩ ρ ⟨g2,q⟩ ⟨j1,j2⟩
        dsimp only at j1 j2
        rcases Nat.lt_or_ge j x.names.length with hj | hj
        · obtain ⟨nm,hnm,hd2,hm2⟩:=aG hj
          have hlt2:((j:Int) < (x.names.length:Int))=True:=eq_true (by omega)
          have w2:IntKind.i64.wrap ((j:Int) + 1)=((j + 1:Nat):Int):=by rw [wrap64 (by omega) (by omega)];omega
          have hfs2:=mD (f:=iL) (b:=out) hnm
          have hal:=nW (x.names.take j) out
          have htj:(x.names.take j).length ≤ 1000:=by rw [List.length_take];omega
          generalize (x.names.take j).foldl iL out=o2 at j2 hfs2 hal
          have hcon:=vT o2 nm (by omega)
          obtain ⟨ps,hsee⟩:=j2.see 5
          rcases j2 with ⟨rfl,rfl⟩ | ⟨b,e,rfl,j3,j4⟩
          · simp -implicitDefEqProofs only [hlt2,hnm,go_sem,seval]
            refine iT hcon rfl (iU (y:=.str nm) hsee (y':=.str nm) (q:=[]) rfl) ?_
            cases hin:FX ([]:List Str) nm
            · rw [mF hin] at hfs2
              simp -implicitDefEqProofs only [w2,go_sem,seval]
              refine ⟨(j + 1,_),by simp only;omega,⟨rfl,rfl⟩,by simp only;omega,?_⟩
              simp only [hfs2]
              exact .inr ⟨_,_,rfl,by simp only;omega,by simp only [AX.look,if_true];rfl⟩
            · rw [oU hin] at hfs2
              simp -implicitDefEqProofs only [w2,go_sem,seval]
              exact ⟨(j + 1,.nils),by simp only;omega,⟨rfl,rfl⟩,by simp only;omega,by simp only [hfs2];exact .inl ⟨rfl,rfl⟩⟩
          · simp only at j3 j4
            have hc:=jI o2
            have ht:List.take o2.length (aj o2)=aj o2:=List.take_of_length_le (by omega)
            have hbd:((o2.length + 1) * 16 ≤ 140737488355328)=True:=eq_true (by omega)
            have q0:(q=b)=False:=eq_false (by omega)
            have q1:(b=q)=False:=eq_false (by omega)
            simp -implicitDefEqProofs only [hlt2,hnm,j4,hc,ht,Nat.mul_one,go_sem,seval]
            refine iT hcon rfl (iU (y:=.str nm) hsee (y':=.str nm) (q:=[]) rfl) ?_
            cases hin:FX o2 nm
            · rw [mF hin] at hfs2
              simp -implicitDefEqProofs only [w2,j4,hc,ht,hbd,q0,q1,Nat.mul_one,go_sem,seval]
              refine ⟨(j + 1,.sl b (if e ≤ o2.length then o2.length + 1 else e + 1) 0 (o2.length + 1) 1),by simp only;omega,⟨rfl,rfl⟩,by simp only;omega,?_⟩
              simp only [hfs2]
              refine .inr ⟨b,_,by rw [List.length_append];rfl,by simp only;omega,?_⟩
              simp only [AX.look,q0,if_false,aS,if_true,j4,Option.map_some,aW]
              rfl
            · rw [oU hin] at hfs2
              simp -implicitDefEqProofs only [w2,go_sem,seval]
              exact ⟨(j + 1,.sl b e 0 o2.length 1),by simp only;omega,⟨rfl,rfl⟩,by simp only;omega,by simp only [hfs2];exact .inr ⟨b,e,rfl,j3,j4⟩⟩
        · have hlt2:((j:Int) < (x.names.length:Int))=False:=eq_false (by omega)
          rw [List.take_of_length_le hj] at j2
          simp -implicitDefEqProofs only [hlt2,w1,go_sem,seval]
          exact ⟨(i + 1,u),by simp only;omega,⟨rfl,rfl⟩,by simp only;omega,by simp only [hfs,hstep];exact j2⟩
      · have fn:((x.names.length:Int)=1)=False:=eq_false (by omega)
        have hstep:=skip (by simp [lH,k4,kn])
        simp -implicitDefEqProofs only [f4,f3,fn,w1,go_sem,seval]
        exact ⟨(i + 1,v),by simp only;omega,⟨rfl,rfl⟩,by simp only;omega,by simp only [hfs,hstep];exact h2'⟩
    · have f3:=eq_false k3
      have hstep:=skip (by simp [lH,k4,k3])
      simp -implicitDefEqProofs only [f4,f3,w1,go_sem,seval]
      exact ⟨(i + 1,v),by simp only;omega,⟨rfl,rfl⟩,by simp only;omega,by simp only [hfs,hstep];exact h2'⟩
  · have hlt:((i:Int) < (xs.length:Int))=False:=eq_false (by omega)
    rw [List.take_of_length_le hi] at h2
    simp -implicitDefEqProofs only [hlt,go_sem,seval]
    rcases h2 with ⟨e,rfl⟩ | ⟨b,e,rfl,h3,h4⟩
    · rw [e]
      simp -implicitDefEqProofs only [cB,go_sem,seval]
      rfl
    · simp only at h4
      have hc:=jI (xs.foldl bW [])
      simp only [cB,view,St.get,h4,if_true,Nat.mul_one,hc,Nat.le_refl,and_self,Option.map_some,Nat.zero_add,List.drop_zero]
      rw [List.take_of_length_le (by omega)]
      try rfl
end W15
/- The cascade: what it yields of items without kinds. -/
namespace W15
open Go Go.AX Go.AX.Ty Go.Proofs
def Al (w:Int) (names:List Str) (sheets:List (List Ty.Item)):AV:=.agg [.int .i64 w,.ps names.length (aj names),.ps sheets.length (aj sheets)]
theorem wV (w:Int) (names:List Str) (sheets:List (List Ty.Item)):Go.AX.flat (Al w names sheets)=true:=by simp [Al,flat,ay,aP]
theorem qK (w:Int) (l:List (List Ty.Item)) (hl:l.flatten.length ≤ 10000) (hl2:l.length ≤ 10000) (hn:∀ x ∈ l.flatten,x.names.length ≤ 1000):aK Tryz.prog 41 [.int .i64 w,Enc.av l] (Al w (bQ l) l):=by
  refine aH mix c41 (by kernel_rfl) (by kernel_rfl) (by simp [ay,ak,Go.AX.flat]) (wV _ _ _) ?_
  simp -implicitDefEqProofs only [F41,go_sem,seval]
  refine au (rZ l hl hl2 hn) ?_
  simp -implicitDefEqProofs only [cB,Al,go_sem,seval]
  try rfl
theorem Oz (w:Int) (names:List Str) (l:List (List Ty.Item)):aK Tryz.prog 42 [Al w names l] (.fn (.func 70) [] [.vp [.int .i64 w,.ps names.length (aj names),.ps l.length (aj l)]]):=by
  refine eH mix c42 (by kernel_rfl) (by kernel_rfl) (by simp [ay,wV]) (by simp [flat,ay,aP]) ?_
  simp -implicitDefEqProofs only [F42,Al,go_sem,seval]
  unfold dW
  simp [bI,bf,p8,iA,qw,St.get,AX.look,aP]
theorem Ni (w:Int) (names:List Str) (l:List (List Ty.Item)) (x:Ty.Item):aK Tryz.prog 99 [Al w names l,Enc.av x] (.bool (l6 w x)):=by
  refine aH mix c99 (by kernel_rfl) (by kernel_rfl) (by simp [ay,wV,ak]) (by simp [flat]) ?_
  unfold l6
  simp -implicitDefEqProofs only [F99,Al,go_sem,seval]
  by_cases h1:x.min ≤ w
  · have f1:=eq_true h1
    by_cases h2:x.max < 0
    · have f2:=eq_true h2
      simp -implicitDefEqProofs only [f1,f2,go_sem,seval]
      try simp
    · have f2:=eq_false h2
      simp -implicitDefEqProofs only [f1,f2,go_sem,seval]
      try simp
  · have f1:=eq_false h1
    simp -implicitDefEqProofs only [f1,go_sem,seval]
    try simp
theorem nU (l:List Int) (v:Int) (hl:l.length ≤ 140737488355328):aK Tryz.prog 98 [Enc.av l,Enc.av v] (.bool (l.any fun x=>v == x)):=by
  refine aH mix c98 (by kernel_rfl) (by kernel_rfl) (by simp [ay,ak,Go.AX.flat]) (by first | exact ak _ | simp [flat,ay,ak]) ?_
  simp -implicitDefEqProofs only [F98,go_sem,seval]
  refine au (ou v l hl) ?_
  simp -implicitDefEqProofs only [go_sem,seval]
  rw [oW]
structure Ak (lp:Nat) (T:List Placed) (I:List Placed → List Nat → St → Prop):Prop where
  lt:∀ {acc D s},I acc D s → ∀ id ∈ D,id < s.next
  move:∀ {acc D s s'},I acc D s → s.next ≤ s'.next → (∀ id ∈ D,s'.get id=s.get id) → I acc D s'
  step:∀ {acc D s} (x:Placed),acc ++ [x] <+: T → I acc D s → iD Tryz.prog lp [Enc.av x] s fun v s'=>v=.bool true ∧ ∃ D',I (acc ++ [x]) D' s' ∧ s.next ≤ s'.next ∧ (∀ id ∈ D',id ∈ D ∨ s.next ≤ id) ∧ ∀ id,id < s.next → id ∉ D → s'.get id=s.get id
def Out (I:List Placed → List Nat → St → Prop) (acc:List Placed) (D:List Nat) (s:St) (v:AV) (s':St):Prop:=
  v=.bool true ∧ ∃ D',I acc D' s' ∧ s.next ≤ s'.next ∧ (∀ id ∈ D',id ∈ D ∨ s.next ≤ id) ∧ ∀ id,id < s.next → id ∉ D → s'.get id=s.get id
theorem kV {P:Program} {l:Nat} {args:List AV} {s:St} {K R:AV → St → Prop} (h:iD P l args s R) (hk:∀ v s2,R v s2 → @rY s2 ⟨K v⟩):@MX P l args s ⟨K⟩:=h.mono fun v s'' hr=>hk v s'' hr
def bare (layer:Int) (l:List Ty.Item):List Placed:=(l.filter fI).map fun y=>⟨y,layer⟩
theorem tH {layer:Int} {l:List Ty.Item} {i:Nat} {x:Ty.Item} (h:l[i]? = some x):bare layer (l.take (i + 1))=bare layer (l.take i) ++ if fI x=true then [⟨x,layer⟩] else []:=by
  unfold bare
  rw [List.take_add_one,h]
  simp only [Option.toList_some,List.filter_append,List.map_append]
  congr 1
  by_cases hb:fI x=true
  · rw [if_pos hb];simp [hb]
  · rw [if_neg hb];simp [hb]
theorem xW (layer:Int) (l:List Ty.Item) (k:Nat):bare layer (l.take k) <+: bare layer l:=((List.take_prefix k l).filter _).map _
theorem iF {α β:Type} (f:α → List β) (l:List α) (k:Nat):(l.take k).flatMap f <+: l.flatMap f:=⟨(l.drop k).flatMap f,by rw [← List.flatMap_append,List.take_append_drop]⟩
set_option maxHeartbeats 1600000 in
theorem Jb {lp:Nat} {T:List Placed} {I:List Placed → List Nat → St → Prop} (Y:Ak lp T I) (w:Int) (names:List Str) (sheets:List (List Ty.Item)) (l:List Ty.Item) (hl:l.length ≤ 140737488355328) (layer:Int) {acc:List Placed} (hT:acc ++ bare layer l <+: T) {D:List Nat} {s:St} (hI:I acc D s) :
    aR Tryz.prog 71 [Al w names sheets,Enc.av l,.int .i64 layer,.fn (.yield lp) [] [],.nils] s (Out I (acc ++ bare layer l) D s):=by
  obtain ⟨h0,m0⟩:=s
  have hD:=Y.lt hI
  refine bT mix (fH _) c71 (by kernel_rfl) (Nat.le_of_ble_eq_true (by kernel_rfl)) ?_
  simp -implicitDefEqProofs only [F71,Al,go_sem,seval]
  refine aF (fun k:Nat=>l.length - k) (fun k=>[(2,.int .i64 layer),(3,.fn (.yield lp) [] []),(4,.nils),(5,.ptr m0 0 0),(14,Enc.av l),(15,.int .i64 l.length),(16,.int .i64 k)])
    (fun k st=>k ≤ l.length ∧ m0 + 1 ≤ st.next ∧ (∃ D',I (acc ++ bare layer (l.take k)) D' st ∧ (∀ id ∈ D',id ∈ D ∨ m0 + 1 ≤ id)) ∧ ∀ id,id < m0 → id ∉ D → AX.look id st.heap=AX.look id h0) 0 ?_ ?_
  · simp -implicitDefEqProofs only [List.take_zero,go_sem,seval]
    refine ⟨⟨D,?_,fun id hid=>.inl hid⟩,fun id hid _=>?_⟩
    · simp only [bare,List.filter_nil,List.map_nil,List.append_nil]
      exact Y.move hI (Nat.le_succ _) fun id hid=>by
        have:=hD id hid
        simp only [St.get,AX.look];rw [if_neg (by simp only at this;omega)]
    · rw [if_neg (by omega)]
  rintro k ρ ⟨g,m⟩ ⟨k1,k2,⟨D',k3,k4⟩,k5⟩
  dsimp only at k2 k5
  rcases Nat.lt_or_ge k l.length with hk | hk
  · obtain ⟨x,hx,hd,hm⟩:=aG hk
    have hlt:((k:Int) < (l.length:Int))=True:=eq_true (by omega)
    have w1:IntKind.i64.wrap ((k:Int) + 1)=((k + 1:Nat):Int):=by rw [wrap64 (by omega) (by omega)];omega
    have hD':=Y.lt k3
    dsimp only at hD'
    have hsn:=tH (layer:=layer) hx
    have hmv:∀ o,I (acc ++ bare layer (l.take k)) D' ⟨(m,o) :: g,m + 1⟩:=fun o=>Y.move k3 (Nat.le_succ _) fun id hid=>by
      have:=hD' id hid
      simp only [St.get,AX.look];rw [if_neg (by omega)]
    have hcn:=nU [] x.kind (by simp)
    simp -implicitDefEqProofs only [hlt,hx,go_sem,seval]
    refine iT hcn rfl (iU (x:=.nils) (x':=.ps 0 []) (p:=[]) rfl (y:=.int .i64 x.kind) (y':=.int .i64 x.kind) (q:=[]) rfl) ?_
    by_cases b2:x.kind=2
    · have f2:=eq_true b2
      have hb:fI x=false:=by simp [fI,b2]
      simp -implicitDefEqProofs only [List.any_nil,f2,w1,go_sem,seval]
      refine ⟨k + 1,by omega,rfl,by omega,by omega,⟨D',?_,k4⟩,fun id h1 h2=>?_⟩
      · rw [hsn,hb];simp only [Bool.false_eq_true,if_false,List.append_nil];exact hmv _
      · rw [if_neg (by omega)];exact k5 id h1 h2
    have f2:=eq_false b2
    by_cases b3:x.kind=3
    · have f3:=eq_true b3
      have hb:fI x=false:=by simp [fI,b3]
      simp -implicitDefEqProofs only [List.any_nil,f2,f3,w1,go_sem,seval]
      refine ⟨k + 1,by omega,rfl,by omega,by omega,⟨D',?_,k4⟩,fun id h1 h2=>?_⟩
      · rw [hsn,hb];simp only [Bool.false_eq_true,if_false,List.append_nil];exact hmv _
      · rw [if_neg (by omega)];exact k5 id h1 h2
    have f3:=eq_false b3
    have hb:fI x=true:=by simp [fI,b2,b3]
    have hTs:(acc ++ bare layer (l.take k)) ++ [⟨x,layer⟩] <+: T:=by
      have:=xW layer l (k + 1)
      rw [hsn,hb] at this;simp only [if_true] at this
      rw [List.append_assoc];exact ((List.prefix_append_right_inj _).2 this).trans hT
    have hy:=Y.step ⟨x,layer⟩ hTs (hmv (.cells 0 [.int .i64 x.kind,.ps x.bB.length (aj x.bB),.ps x.decls.length (aj x.decls),.ps x.names.length (aj x.names),.int .i64 x.min,.int .i64 x.max,.ps x.vals.length (aj x.vals),.ps x.l.length (aj x.l)] false))
    rw [Placed.fC] at hy
    simp -implicitDefEqProofs only [List.any_nil,f2,f3,go_sem,seval]
    refine kV hy ?_
    rintro v ⟨g2,m2⟩ ⟨rfl,D2,j1,j2,j3,j4⟩
    dsimp only at j2 j3 j4
    simp -implicitDefEqProofs only [w1,go_sem,seval]
    refine ⟨k + 1,by omega,rfl,by omega,by omega,⟨D2,?_,fun id hid=>?_⟩,fun id h1 h2=>?_⟩
    · rw [hsn,hb];simp only [if_true];rw [← List.append_assoc];exact j1
    · rcases j3 id hid with h | h
      · exact k4 id h
      · exact .inr (by omega)
    · have hn:id ∉ D':=fun h=>(k4 id h).elim h2 fun h=>by omega
      have:=j4 id (by omega) hn
      simp only [St.get,AX.look] at this
      rw [if_neg (by omega)] at this
      rw [this];exact k5 id h1 h2
  · have hlt:((k:Int) < (l.length:Int))=False:=eq_false (by omega)
    rw [List.take_of_length_le hk] at k3
    simp -implicitDefEqProofs only [hlt,go_sem,seval]
    exact ⟨rfl,D',k3,by simp only;omega,fun id hid=>(k4 id hid).elim .inl fun h=>.inr (by simp only;omega),fun id h1 h2=>k5 id h1 h2⟩
end W15
/- The cascade: what it yields of items, media among them. -/
namespace W15
open Go Go.AX Go.AX.Ty Go.Proofs
theorem gM {α β:Type} {f:α → List β} {l:List α} {i:Nat} {x:α} (h:l[i]? = some x):(l.take (i + 1)).flatMap f=(l.take i).flatMap f ++ f x:=by
  rw [List.take_add_one,h];simp
theorem IK (x:Ty.Item):Enc.av x=.agg [.int .i64 x.kind,.ps x.bB.length (aj x.bB),.ps x.decls.length (aj x.decls),.ps x.names.length (aj x.names),.int .i64 x.min,.int .i64 x.max,.ps x.vals.length (aj x.vals),.ps x.l.length (aj x.l)]:=Ty.Item.fC x
set_option maxHeartbeats 3200000 in
theorem PK {lp:Nat} {T:List Placed} {I:List Placed → List Nat → St → Prop} (Y:Ak lp T I) (w:Int) (names:List Str) (sheets:List (List Ty.Item)) (l:List Ty.Item) (hl:l.length ≤ 140737488355328) (hsub:∀ x ∈ l,x.l.length ≤ 140737488355328) (layer:Int) {acc:List Placed} (hT:acc ++ l.flatMap (bJ w layer) <+: T) {D:List Nat} {s:St} (hI:I acc D s)
    {kb ke:Nat} (hkb:s.get kb=some (.cells ke [.int .i64 2] false)) (hkD:kb ∉ D) (hkn:kb < s.next) :
    aR Tryz.prog 71 [Al w names sheets,Enc.av l,.int .i64 layer,.fn (.yield lp) [] [],.sl kb ke 0 1 1] s (Out I (acc ++ l.flatMap (bJ w layer)) D s):=by
  obtain ⟨h0,m0⟩:=s
  have hD:=Y.lt hI
  dsimp only at hkn hD
  have hkb':AX.look kb h0=some (.cells ke [.int .i64 2] false):=hkb
  refine bT mix (fH _) c71 (by kernel_rfl) (Nat.le_of_ble_eq_true (by kernel_rfl)) ?_
  simp -implicitDefEqProofs only [F71,Al,go_sem,seval]
  refine aF (fun k:Nat=>l.length - k) (fun k=>[(2,.int .i64 layer),(3,.fn (.yield lp) [] []),(4,.sl kb ke 0 1 1),(5,.ptr m0 0 0),(14,Enc.av l),(15,.int .i64 l.length),(16,.int .i64 k)])
    (fun k st=>k ≤ l.length ∧ m0 + 1 ≤ st.next ∧ (∃ D',I (acc ++ (l.take k).flatMap (bJ w layer)) D' st ∧ (∀ id ∈ D',id ∈ D ∨ m0 + 1 ≤ id)) ∧ (∀ id,id < m0 → id ∉ D → AX.look id st.heap=AX.look id h0) ∧
      AX.look m0 st.heap=some (.cells 0 [.int .i64 w,.ps names.length (aj names),.ps sheets.length (aj sheets)] false)) 0 ?_ ?_
  · simp -implicitDefEqProofs only [List.take_zero,go_sem,seval]
    refine ⟨⟨D,?_,fun id hid=>.inl hid⟩,fun id hid _=>?_⟩
    · simp only [List.flatMap_nil,List.append_nil]
      exact Y.move hI (Nat.le_succ _) fun id hid=>by
        have:=hD id hid
        simp only [St.get,AX.look];rw [if_neg (by omega)]
    · rw [if_neg (by omega)]
  rintro k ρ ⟨g,m⟩ ⟨k1,k2,⟨D',k3,k4⟩,k5,k6⟩
  dsimp only at k2 k5 k6
  rcases Nat.lt_or_ge k l.length with hk | hk
  · obtain ⟨x,hx,hd,hm⟩:=aG hk
    have hlt:((k:Int) < (l.length:Int))=True:=eq_true (by omega)
    have w1:IntKind.i64.wrap ((k:Int) + 1)=((k + 1:Nat):Int):=by rw [wrap64 (by omega) (by omega)];omega
    have hD':=Y.lt k3
    dsimp only at hD'
    have hsn:=gM (f:=bJ w layer) hx
    have hTk:∀ P:List Placed,bJ w layer x=P → (acc ++ (l.take k).flatMap (bJ w layer)) ++ P <+: T:=fun P hP=>by
      have:=iF (bJ w layer) l (k + 1)
      rw [hsn,hP] at this
      rw [List.append_assoc];exact ((List.prefix_append_right_inj _).2 this).trans hT
    have hmD:∀ {E:List Nat},(∀ id ∈ E,id ∈ D ∨ m0 + 1 ≤ id) → m0 ∉ E:=fun hE h=>(hE m0 h).elim (fun h=>by have:=hD m0 h;omega) fun h=>by omega
    have hkE:∀ {E:List Nat},(∀ id ∈ E,id ∈ D ∨ m0 + 1 ≤ id) → kb ∉ E:=fun hE h=>(hE kb h).elim hkD fun h=>by omega
    have hmv:∀ o,I (acc ++ (l.take k).flatMap (bJ w layer)) D' ⟨(m,o) :: g,m + 1⟩:=fun o=>Y.move k3 (Nat.le_succ _) fun id hid=>by
      have:=hD' id hid
      simp only [St.get,AX.look];rw [if_neg (by omega)]
    have hkg:AX.look kb g=some (.cells ke [.int .i64 2] false):=by rw [k5 kb hkn hkD];exact hkb'
    have q1:(m=kb)=False:=eq_false (by omega)
    have q2:(m=m0)=False:=eq_false (by omega)
    have hcn:=nU [2] x.kind (by simp)
    -- behind a call that yields
    have back : ∀ (P : List Placed) {g2 : List (Nat × AX.Obj)} {m2 : Nat} (o : AX.Obj) {D2 : List Nat}, bJ w layer x = P → I ((acc ++ (l.take k).flatMap (bJ w layer)) ++ P) D2 ⟨g2, m2⟩ → m + 1 ≤ m2 → (∀ id ∈ D2, id ∈ D' ∨ m + 1 ≤ id) →
        (∀ id,id < m + 1 → id ∉ D' → St.get ⟨g2,m2⟩ id=St.get ⟨(m,o) :: g,m + 1⟩ id) →
        (m0 + 1 ≤ m2 ∧ (∃ D',I (acc ++ (l.take (k + 1)).flatMap (bJ w layer)) D' ⟨g2,m2⟩ ∧ (∀ id ∈ D',id ∈ D ∨ m0 + 1 ≤ id)) ∧ (∀ id,id < m0 → id ∉ D → AX.look id g2=AX.look id h0) ∧
          AX.look m0 g2=some (.cells 0 [.int .i64 w,.ps names.length (aj names),.ps sheets.length (aj sheets)] false)):=by
      intro P g2 m2 o D2 hP j1 j2 j3 j4
      refine ⟨by omega,⟨D2,?_,fun id hid=>?_⟩,fun id h1 h2=>?_,?_⟩
      · rw [hsn,hP,← List.append_assoc];exact j1
      · rcases j3 id hid with h | h
        · exact k4 id h
        · exact .inr (by omega)
      · have hn:id ∉ D':=fun h=>(k4 id h).elim h2 fun h=>by omega
        have:=j4 id (by omega) hn
        simp only [St.get,AX.look] at this
        rw [if_neg (by omega)] at this
        rw [this];exact k5 id h1 h2
      · have:=j4 m0 (by omega) (hmD k4)
        simp only [St.get,AX.look] at this
        rw [if_neg (by omega)] at this
        rw [this];exact k6
    have back0 : ∀ (o : AX.Obj), bJ w layer x = [] →
        (m0 + 1 ≤ m + 1 ∧ (∃ D',I (acc ++ (l.take (k + 1)).flatMap (bJ w layer)) D' ⟨(m,o) :: g,m + 1⟩ ∧ (∀ id ∈ D',id ∈ D ∨ m0 + 1 ≤ id)) ∧ (∀ id,id < m0 → id ∉ D → AX.look id ((m,o) :: g)=AX.look id h0) ∧
          AX.look m0 ((m,o) :: g)=some (.cells 0 [.int .i64 w,.ps names.length (aj names),.ps sheets.length (aj sheets)] false)):=fun o hP=>
      back [] o hP (by rw [List.append_nil];exact hmv o) (Nat.le_refl _) (fun id hid=>.inl hid) fun id _ _=>rfl
    simp -implicitDefEqProofs only [hlt,hx,hkg,q1,q2,go_sem,seval]
    refine iT hcn rfl (iU (vJ (z:=1) (C:=[.int .i64 2]) (cs:=[.int .i64 2]) (sn:=false) (by simp only [St.get,AX.look,q1,if_false];exact hkg) (by decide) (by rfl) (by rfl)) (y:=.int .i64 x.kind) (y':=.int .i64 x.kind) (q:=[]) rfl) ?_
    by_cases b2:x.kind=2
    · have f2:=eq_true b2
      have e2:(x.kind == 2)=true:=by simp [b2]
      have hw:=Ni w names sheets x
      rw [Al,IK] at hw
      simp -implicitDefEqProofs only [hkg,k6,q1,q2,List.any_cons,List.any_nil,Bool.or_false,f2,e2,go_sem,seval]
      refine au hw ?_
      cases hwd:l6 w x
      · have hP:bJ w layer x=[]:=by unfold bJ jQ;rw [if_pos b2,if_neg (by rw [hwd];decide)]
        simp -implicitDefEqProofs only [w1,go_sem,seval]
        refine ⟨k + 1,by omega,rfl,by omega,?_⟩
        obtain ⟨r1,r2,r3,r4⟩:=back0 (.cells 0 [.int .i64 x.kind,.ps x.bB.length (aj x.bB),.ps x.decls.length (aj x.decls),.ps x.names.length (aj x.names),.int .i64 x.min,.int .i64 x.max,.ps x.vals.length (aj x.vals),.ps x.l.length (aj x.l)] false) hP
        first | exact ⟨by omega,r2,r3,r4⟩ | exact ⟨by omega,r2,r3⟩
      · have hP:bJ w layer x=bare layer x.l:=by unfold bJ jQ bare;rw [if_pos b2,if_pos hwd]
        have he:=Jb Y w names sheets x.l (hsub x hm) layer (hTk _ hP) (hmv (.cells 0 [.int .i64 x.kind,.ps x.bB.length (aj x.bB),.ps x.decls.length (aj x.decls),.ps x.names.length (aj x.names),.int .i64 x.min,.int .i64 x.max,.ps x.vals.length (aj x.vals),.ps x.l.length (aj x.l)] false))
        rw [Al] at he
        simp -implicitDefEqProofs only [hkg,k6,q1,q2,go_sem,seval]
        refine mI he ?_
        rintro v ⟨g2,m2⟩ ⟨rfl,D2,j1,j2,j3,j4⟩
        dsimp only at j2 j3 j4
        simp -implicitDefEqProofs only [w1,go_sem,seval]
        refine ⟨k + 1,by omega,rfl,by omega,?_⟩
        exact back _ (.cells 0 [.int .i64 x.kind,.ps x.bB.length (aj x.bB),.ps x.decls.length (aj x.decls),.ps x.names.length (aj x.names),.int .i64 x.min,.int .i64 x.max,.ps x.vals.length (aj x.vals),.ps x.l.length (aj x.l)] false) hP j1 j2 j3 j4
    have f2:=eq_false b2
    have e2:(x.kind == 2)=false:=by simp [b2]
    by_cases b3:x.kind=3
    · have f3:=eq_true b3
      have hP:bJ w layer x=[]:=by unfold bJ;rw [if_neg b2,if_pos b3]
      simp -implicitDefEqProofs only [hkg,k6,q1,q2,List.any_cons,List.any_nil,Bool.or_false,f2,e2,f3,w1,go_sem,seval]
      refine ⟨k + 1,by omega,rfl,by omega,?_⟩
      obtain ⟨r1,r2,r3,r4⟩:=back0 (.cells 0 [.int .i64 x.kind,.ps x.bB.length (aj x.bB),.ps x.decls.length (aj x.decls),.ps x.names.length (aj x.names),.int .i64 x.min,.int .i64 x.max,.ps x.vals.length (aj x.vals),.ps x.l.length (aj x.l)] false) hP
      first | exact ⟨by omega,r2,r3,r4⟩ | exact ⟨by omega,r2,r3⟩
    have f3:=eq_false b3
    have hP:bJ w layer x=[⟨x,layer⟩]:=by unfold bJ;rw [if_neg b2,if_neg b3]
    have hy:=Y.step ⟨x,layer⟩ (hTk _ hP) (hmv (.cells 0 [.int .i64 x.kind,.ps x.bB.length (aj x.bB),.ps x.decls.length (aj x.decls),.ps x.names.length (aj x.names),.int .i64 x.min,.int .i64 x.max,.ps x.vals.length (aj x.vals),.ps x.l.length (aj x.l)] false))
    rw [Placed.fC] at hy
    simp -implicitDefEqProofs only [hkg,k6,q1,q2,List.any_cons,List.any_nil,Bool.or_false,f2,e2,f3,go_sem,seval]
    refine kV hy ?_
    rintro v ⟨g2,m2⟩ ⟨rfl,D2,j1,j2,j3,j4⟩
    dsimp only at j2 j3 j4
    simp -implicitDefEqProofs only [w1,go_sem,seval]
    refine ⟨k + 1,by omega,rfl,by omega,?_⟩
    exact back _ (.cells 0 [.int .i64 x.kind,.ps x.bB.length (aj x.bB),.ps x.decls.length (aj x.decls),.ps x.names.length (aj x.names),.int .i64 x.min,.int .i64 x.max,.ps x.vals.length (aj x.vals),.ps x.l.length (aj x.l)] false) hP j1 j2 j3 j4
  · have hlt:((k:Int) < (l.length:Int))=False:=eq_false (by omega)
    rw [List.take_of_length_le hk] at k3
    simp -implicitDefEqProofs only [hlt,go_sem,seval]
    exact ⟨rfl,D',k3,by simp only;omega,fun id hid=>(k4 id hid).elim .inl fun h=>.inr (by simp only;omega),fun id h1 h2=>k5 id h1 h2⟩
end W15
/- The cascade: what it yields of the items of sheets. -/
namespace W15
open Go Go.AX Go.AX.Ty Go.Proofs
theorem Rb {names:List Str} {s:Str} (h:s ∈ names):idxOf (fun y=>s == y) names=((lW names s:Nat):Int):=by
  unfold idxOf lW
  have e:(fun y:Str=>s == y)=fun y=>y == s:=by funext y;rw [Bool.eq_iff_iff,beq_iff_eq,beq_iff_eq];exact ⟨Eq.symm,Eq.symm⟩
  rw [e]
  have hl:names.findIdx (fun y=>y == s) < names.length:=by rw [List.findIdx_lt_length];exact ⟨s,h,by simp⟩
  rw [List.findIdx?_eq_some_of_exists (p:=fun y=>y == s) ⟨s,h,by simp⟩]
set_option maxHeartbeats 3200000 in
theorem QS {lp:Nat} {T:List Placed} {I:List Placed → List Nat → St → Prop} (Y:Ak lp T I) (w:Int) (names:List Str) (sheets:List (List Ty.Item)) (l:List Ty.Item) (hl:l.length ≤ 140737488355328) (hsub:∀ x ∈ l,x.l.length ≤ 140737488355328) (hsub2:∀ x ∈ l,∀ y ∈ x.l,y.l.length ≤ 140737488355328) (hnl:names.length ≤ 140737488355328) (hnm:∀ x ∈ l,x.kind=3 → x.names.length=1 → nameOf x ∈ names) {acc:List Placed} (hT:acc ++ l.flatMap (fG w names) <+: T) {D:List Nat} {s:St} (hI:I acc D s)
    {kb ke:Nat} (hkb:s.get kb=some (.cells ke [.int .i64 2,.int .i64 3] false)) (hkD:kb ∉ D) (hkn:kb < s.next) :
    aR Tryz.prog 71 [Al w names sheets,Enc.av l,.int .i64 (names.length:Nat),.fn (.yield lp) [] [],.sl kb ke 0 2 1] s (Out I (acc ++ l.flatMap (fG w names)) D s):=by
  obtain ⟨h0,m0⟩:=s
  have hD:=Y.lt hI
  dsimp only at hkn hD
  have hkb':AX.look kb h0=some (.cells ke [.int .i64 2,.int .i64 3] false):=hkb
  refine bT mix (fH _) c71 (by kernel_rfl) (Nat.le_of_ble_eq_true (by kernel_rfl)) ?_
  simp -implicitDefEqProofs only [F71,Al,go_sem,seval]
  refine aF (fun k:Nat=>l.length - k) (fun k=>[(2,.int .i64 (names.length:Nat)),(3,.fn (.yield lp) [] []),(4,.sl kb ke 0 2 1),(5,.ptr m0 0 0),(14,Enc.av l),(15,.int .i64 l.length),(16,.int .i64 k)])
    (fun k st=>k ≤ l.length ∧ m0 + 1 ≤ st.next ∧ (∃ D',I (acc ++ (l.take k).flatMap (fG w names)) D' st ∧ (∀ id ∈ D',id ∈ D ∨ m0 + 1 ≤ id)) ∧ (∀ id,id < m0 → id ∉ D → AX.look id st.heap=AX.look id h0) ∧
      AX.look m0 st.heap=some (.cells 0 [.int .i64 w,.ps names.length (aj names),.ps sheets.length (aj sheets)] false)) 0 ?_ ?_
  · simp -implicitDefEqProofs only [List.take_zero,go_sem,seval]
    refine ⟨⟨D,?_,fun id hid=>.inl hid⟩,fun id hid _=>?_⟩
    · simp only [List.flatMap_nil,List.append_nil]
      exact Y.move hI (Nat.le_succ _) fun id hid=>by
        have:=hD id hid
        simp only [St.get,AX.look];rw [if_neg (by omega)]
    · rw [if_neg (by omega)]
  rintro k ρ ⟨g,m⟩ ⟨k1,k2,⟨D',k3,k4⟩,k5,k6⟩
  dsimp only at k2 k5 k6
  rcases Nat.lt_or_ge k l.length with hk | hk
  · obtain ⟨x,hx,hd,hm⟩:=aG hk
    have hlt:((k:Int) < (l.length:Int))=True:=eq_true (by omega)
    have w1:IntKind.i64.wrap ((k:Int) + 1)=((k + 1:Nat):Int):=by rw [wrap64 (by omega) (by omega)];omega
    have hD':=Y.lt k3
    dsimp only at hD'
    have hsn:=gM (f:=fG w names) hx
    have hTk:∀ P:List Placed,fG w names x=P → (acc ++ (l.take k).flatMap (fG w names)) ++ P <+: T:=fun P hP=>by
      have:=iF (fG w names) l (k + 1)
      rw [hsn,hP] at this
      rw [List.append_assoc];exact ((List.prefix_append_right_inj _).2 this).trans hT
    have hmD:∀ {E:List Nat},(∀ id ∈ E,id ∈ D ∨ m0 + 1 ≤ id) → m0 ∉ E:=fun hE h=>(hE m0 h).elim (fun h=>by have:=hD m0 h;omega) fun h=>by omega
    have hkE:∀ {E:List Nat},(∀ id ∈ E,id ∈ D ∨ m0 + 1 ≤ id) → kb ∉ E:=fun hE h=>(hE kb h).elim hkD fun h=>by omega
    have hmv:∀ o,I (acc ++ (l.take k).flatMap (fG w names)) D' ⟨(m,o) :: g,m + 1⟩:=fun o=>Y.move k3 (Nat.le_succ _) fun id hid=>by
      have:=hD' id hid
      simp only [St.get,AX.look];rw [if_neg (by omega)]
    have hkg:AX.look kb g=some (.cells ke [.int .i64 2,.int .i64 3] false):=by rw [k5 kb hkn hkD];exact hkb'
    have q1:(m=kb)=False:=eq_false (by omega)
    have q2:(m=m0)=False:=eq_false (by omega)
    have hcn:=nU [2,3] x.kind (by simp)
    have pm:(m0 < m + 1)=True:=eq_true (by omega)
    have pk:(kb < m + 1)=True:=eq_true (by omega)
    -- behind a call that yields
    have back : ∀ (P : List Placed) {g2 : List (Nat × AX.Obj)} {m2 : Nat} (o : AX.Obj) {D2 : List Nat}, fG w names x = P → I ((acc ++ (l.take k).flatMap (fG w names)) ++ P) D2 ⟨g2, m2⟩ → m + 1 ≤ m2 → (∀ id ∈ D2, id ∈ D' ∨ m + 1 ≤ id) →
        (∀ id,id < m + 1 → id ∉ D' → St.get ⟨g2,m2⟩ id=St.get ⟨(m,o) :: g,m + 1⟩ id) →
        (m0 + 1 ≤ m2 ∧ (∃ D',I (acc ++ (l.take (k + 1)).flatMap (fG w names)) D' ⟨g2,m2⟩ ∧ (∀ id ∈ D',id ∈ D ∨ m0 + 1 ≤ id)) ∧ (∀ id,id < m0 → id ∉ D → AX.look id g2=AX.look id h0) ∧
          AX.look m0 g2=some (.cells 0 [.int .i64 w,.ps names.length (aj names),.ps sheets.length (aj sheets)] false)):=by
      intro P g2 m2 o D2 hP j1 j2 j3 j4
      refine ⟨by omega,⟨D2,?_,fun id hid=>?_⟩,fun id h1 h2=>?_,?_⟩
      · rw [hsn,hP,← List.append_assoc];exact j1
      · rcases j3 id hid with h | h
        · exact k4 id h
        · exact .inr (by omega)
      · have hn:id ∉ D':=fun h=>(k4 id h).elim h2 fun h=>by omega
        have:=j4 id (by omega) hn
        simp only [St.get,AX.look] at this
        rw [if_neg (by omega)] at this
        rw [this];exact k5 id h1 h2
      · have:=j4 m0 (by omega) (hmD k4)
        simp only [St.get,AX.look] at this
        rw [if_neg (by omega)] at this
        rw [this];exact k6
    have back0 : ∀ (o : AX.Obj), fG w names x = [] →
        (m0 + 1 ≤ m + 1 ∧ (∃ D',I (acc ++ (l.take (k + 1)).flatMap (fG w names)) D' ⟨(m,o) :: g,m + 1⟩ ∧ (∀ id ∈ D',id ∈ D ∨ m0 + 1 ≤ id)) ∧ (∀ id,id < m0 → id ∉ D → AX.look id ((m,o) :: g)=AX.look id h0) ∧
          AX.look m0 ((m,o) :: g)=some (.cells 0 [.int .i64 w,.ps names.length (aj names),.ps sheets.length (aj sheets)] false)):=fun o hP=>
      back [] o hP (by rw [List.append_nil];exact hmv o) (Nat.le_refl _) (fun id hid=>.inl hid) fun id _ _=>rfl
    simp -implicitDefEqProofs only [hlt,hx,hkg,q1,q2,go_sem,seval]
    refine iT hcn rfl (iU (vJ (z:=1) (C:=[.int .i64 2,.int .i64 3]) (cs:=[.int .i64 2,.int .i64 3]) (sn:=false) (by simp only [St.get,AX.look,q1,if_false];exact hkg) (by decide) (by rfl) (by rfl)) (y:=.int .i64 x.kind) (y':=.int .i64 x.kind) (q:=[]) rfl) ?_
    by_cases b2:x.kind=2
    · have f2:=eq_true b2
      have e2:(x.kind == 2)=true:=by simp [b2]
      have e3:(x.kind == 3)=false:=by simp [b2]
      have hw:=Ni w names sheets x
      rw [Al,IK] at hw
      simp -implicitDefEqProofs only [hkg,k6,q1,q2,List.any_cons,List.any_nil,Bool.or_false,f2,e2,e3,go_sem,seval]
      refine au hw ?_
      cases hwd:l6 w x
      · have hP:fG w names x=[]:=by unfold fG bJ jQ;rw [if_neg (by omega),if_pos b2,if_neg (by rw [hwd];decide)]
        simp -implicitDefEqProofs only [w1,go_sem,seval]
        refine ⟨k + 1,by omega,rfl,by omega,?_⟩
        obtain ⟨r1,r2,r3,r4⟩:=back0 (.cells 0 [.int .i64 x.kind,.ps x.bB.length (aj x.bB),.ps x.decls.length (aj x.decls),.ps x.names.length (aj x.names),.int .i64 x.min,.int .i64 x.max,.ps x.vals.length (aj x.vals),.ps x.l.length (aj x.l)] false) hP
        first | exact ⟨by omega,r2,r3,r4⟩ | exact ⟨by omega,r2,r3⟩
      · have hP:fG w names x=bare (names.length:Nat) x.l:=by unfold fG bJ jQ bare;rw [if_neg (by omega),if_pos b2,if_pos hwd]
        have he:=Jb Y w names sheets x.l (hsub x hm) (names.length:Nat) (hTk _ hP) (hmv (.cells 0 [.int .i64 x.kind,.ps x.bB.length (aj x.bB),.ps x.decls.length (aj x.decls),.ps x.names.length (aj x.names),.int .i64 x.min,.int .i64 x.max,.ps x.vals.length (aj x.vals),.ps x.l.length (aj x.l)] false))
        rw [Al] at he
        simp -implicitDefEqProofs only [hkg,k6,q1,q2,go_sem,seval]
        refine mI he ?_
        rintro v ⟨g2,m2⟩ ⟨rfl,D2,j1,j2,j3,j4⟩
        dsimp only at j2 j3 j4
        simp -implicitDefEqProofs only [w1,go_sem,seval]
        refine ⟨k + 1,by omega,rfl,by omega,?_⟩
        exact back _ (.cells 0 [.int .i64 x.kind,.ps x.bB.length (aj x.bB),.ps x.decls.length (aj x.decls),.ps x.names.length (aj x.names),.int .i64 x.min,.int .i64 x.max,.ps x.vals.length (aj x.vals),.ps x.l.length (aj x.l)] false) hP j1 j2 j3 j4
    have f2:=eq_false b2
    have e2:(x.kind == 2)=false:=by simp [b2]
    by_cases b3:x.kind=3
    · have f3:=eq_true b3
      have e3:(x.kind == 3)=true:=by simp [b3]
      by_cases bn:x.names.length=1
      · have fn:((x.names.length:Int)=1)=True:=eq_true (by omega)
        have hP:fG w names x=x.l.flatMap (bJ w (lW names (nameOf x):Nat)):=by unfold fG;rw [if_pos b3,if_pos bn]
        have hnx:x.names[0]? = some (nameOf x):=by
          unfold nameOf
          cases hh:x.names with
          | nil=>rw [hh] at bn;simp at bn
          | cons a r=>rfl
        have hix:=uP (nameOf x) names hnl
        rw [Rb (hnm x hm b3 bn)] at hix
        simp -implicitDefEqProofs only [hkg,k6,q1,q2,List.any_cons,List.any_nil,Bool.or_false,Bool.false_or,f2,e2,f3,e3,fn,hnx,pm,pk,go_sem,seval]
        refine aJ hix ?_
        simp -implicitDefEqProofs only [hkg,k6,q1,q2,pm,pk,go_sem,seval]
        refine aA (by (first | omega | (simp [aB,aD,aC,Nat.testBit_eq_decide_div_mod_eq];done) | (simp [aB,aD,aC,Nat.testBit_eq_decide_div_mod_eq];omega) | kernel_rfl)) ?_
        simp -implicitDefEqProofs only [hkg,k6,q1,q2,pm,pk,go_sem,seval]
        have hI2:I (acc ++ (l.take k).flatMap (fG w names)) D' ⟨(m + 1,.cells 1 [.int .i64 2] false) :: (m,(.cells 0 [.int .i64 x.kind,.ps x.bB.length (aj x.bB),.ps x.decls.length (aj x.decls),.ps x.names.length (aj x.names),.int .i64 x.min,.int .i64 x.max,.ps x.vals.length (aj x.vals),.ps x.l.length (aj x.l)] false)) :: g,m + 1 + 1⟩:=Y.move (hmv (.cells 0 [.int .i64 x.kind,.ps x.bB.length (aj x.bB),.ps x.decls.length (aj x.decls),.ps x.names.length (aj x.names),.int .i64 x.min,.int .i64 x.max,.ps x.vals.length (aj x.vals),.ps x.l.length (aj x.l)] false)) (Nat.le_succ _) fun id hid=>by
          have:=hD' id hid
          simp only [St.get,AX.look];rw [if_neg (by omega)]
        have he:=PK Y w names sheets x.l (hsub x hm) (hsub2 x hm) (lW names (nameOf x):Nat) (hTk _ hP) hI2 (kb:=m + 1) (ke:=1) (by simp only [St.get,AX.look,if_true]) (fun h=>by have:=hD' _ h;omega) (Nat.lt_succ_self _)
        rw [Al] at he
        refine mI he ?_
        rintro v ⟨g2,m2⟩ ⟨rfl,D2,j1,j2,j3,j4⟩
        dsimp only at j2 j3 j4
        simp -implicitDefEqProofs only [w1,go_sem,seval]
        refine ⟨k + 1,by omega,rfl,by omega,?_⟩
        exact back _ (.cells 0 [.int .i64 x.kind,.ps x.bB.length (aj x.bB),.ps x.decls.length (aj x.decls),.ps x.names.length (aj x.names),.int .i64 x.min,.int .i64 x.max,.ps x.vals.length (aj x.vals),.ps x.l.length (aj x.l)] false) hP j1 (by omega) (fun id hid=>(j3 id hid).elim .inl fun h=>.inr (by omega)) fun id h1 h2=>by
          have:=j4 id (by omega) h2
          rw [this];simp only [St.get,AX.look];rw [if_neg (by omega)]
      have fn:((x.names.length:Int)=1)=False:=eq_false (by omega)
      have hP:fG w names x=[]:=by unfold fG;rw [if_pos b3,if_neg bn]
      simp -implicitDefEqProofs only [hkg,k6,q1,q2,List.any_cons,List.any_nil,Bool.or_false,Bool.false_or,f2,e2,f3,e3,fn,w1,go_sem,seval]
      refine ⟨k + 1,by omega,rfl,by omega,?_⟩
      obtain ⟨r1,r2,r3,r4⟩:=back0 (.cells 0 [.int .i64 x.kind,.ps x.bB.length (aj x.bB),.ps x.decls.length (aj x.decls),.ps x.names.length (aj x.names),.int .i64 x.min,.int .i64 x.max,.ps x.vals.length (aj x.vals),.ps x.l.length (aj x.l)] false) hP
      first | exact ⟨by omega,r2,r3,r4⟩ | exact ⟨by omega,r2,r3⟩
    have f3:=eq_false b3
    have e3:(x.kind == 3)=false:=by simp [b3]
    have hP:fG w names x=[⟨x,(names.length:Nat)⟩]:=by unfold fG bJ;rw [if_neg b3,if_neg b2,if_neg b3]
    have hy:=Y.step ⟨x,(names.length:Nat)⟩ (hTk _ hP) (hmv (.cells 0 [.int .i64 x.kind,.ps x.bB.length (aj x.bB),.ps x.decls.length (aj x.decls),.ps x.names.length (aj x.names),.int .i64 x.min,.int .i64 x.max,.ps x.vals.length (aj x.vals),.ps x.l.length (aj x.l)] false))
    rw [Placed.fC] at hy
    simp -implicitDefEqProofs only [hkg,k6,q1,q2,List.any_cons,List.any_nil,Bool.or_false,f2,e2,f3,e3,go_sem,seval]
    refine kV hy ?_
    rintro v ⟨g2,m2⟩ ⟨rfl,D2,j1,j2,j3,j4⟩
    dsimp only at j2 j3 j4
    simp -implicitDefEqProofs only [w1,go_sem,seval]
    refine ⟨k + 1,by omega,rfl,by omega,?_⟩
    exact back _ (.cells 0 [.int .i64 x.kind,.ps x.bB.length (aj x.bB),.ps x.decls.length (aj x.decls),.ps x.names.length (aj x.names),.int .i64 x.min,.int .i64 x.max,.ps x.vals.length (aj x.vals),.ps x.l.length (aj x.l)] false) hP j1 j2 j3 j4
  · have hlt:((k:Int) < (l.length:Int))=False:=eq_false (by omega)
    rw [List.take_of_length_le hk] at k3
    simp -implicitDefEqProofs only [hlt,go_sem,seval]
    exact ⟨rfl,D',k3,by simp only;omega,fun id hid=>(k4 id hid).elim .inl fun h=>.inr (by simp only;omega),fun id h1 h2=>k5 id h1 h2⟩
end W15
/- The cascade: what it yields of sheets. -/
namespace W15
open Go Go.AX Go.AX.Ty Go.Proofs
structure uU (l:List (List Ty.Item)):Prop where
  flat:l.flatten.length ≤ 10000
  len:l.length ≤ 10000
  names:∀ x ∈ l.flatten,x.names.length ≤ 1000
  sub:∀ x ∈ l.flatten,x.l.length ≤ 1000
  sub2:∀ x ∈ l.flatten,∀ y ∈ x.l,y.l.length ≤ 1000
def VJ (I:List Placed → List Nat → St → Prop) (acc:List Placed) (D:List Nat) (s:St) (s':St):Prop:=
  ∃ D',I acc D' s' ∧ s.next ≤ s'.next ∧ (∀ id ∈ D',id ∈ D ∨ s.next ≤ id) ∧ ∀ id,id < s.next → id ∉ D → s'.get id=s.get id
theorem MQ {lp:Nat} {T:List Placed} {I:List Placed → List Nat → St → Prop} (Y:Ak lp T I) (w:Int) {l:List (List Ty.Item)} (ok:uU l) {acc:List Placed} (hT:acc ++ dG w l <+: T) {D:List Nat} {s:St} (hI:I acc D s) :
    aR Tryz.prog 70 [.fn (.yield lp) [] [],.vp [.int .i64 w,.ps (bQ l).length (aj (bQ l)),.ps l.length (aj l)]] s fun v s'=>VJ I (acc ++ dG w l) D s s':=by
  obtain ⟨h0,m0⟩:=s
  have hD:=Y.lt hI
  dsimp only at hD
  have hnl:(bQ l).length ≤ 140737488355328:=by
    have:=jD l.flatten [] ok.names
    have:=ok.flat
    unfold bQ;simp only [List.length_nil] at *;omega
  refine bT mix (fH _) c70 (by kernel_rfl) (Nat.le_of_ble_eq_true (by kernel_rfl)) ?_
  simp -implicitDefEqProofs only [F70,go_sem,seval]
  refine aJ (ES l (by have:=ok.flat;omega) (by have:=ok.len;omega)) ?_
  simp -implicitDefEqProofs only [go_sem,seval]
  refine aA (by (first | omega | (simp [aB,aD,aC,Nat.testBit_eq_decide_div_mod_eq];done) | (simp [aB,aD,aC,Nat.testBit_eq_decide_div_mod_eq];omega) | kernel_rfl)) ?_
  simp -implicitDefEqProofs only [go_sem,seval]
  have hI2:I acc D ⟨(m0,.cells 2 [.int .i64 2,.int .i64 3] false) :: h0,m0 + 1⟩:=Y.move hI (Nat.le_succ _) fun id hid=>by
    have:=hD id hid
    simp only [St.get,AX.look];rw [if_neg (by omega)]
  have hsub:∀ x ∈ l.flatten,x.l.length ≤ 140737488355328:=fun x hx=>by have:=ok.sub x hx;omega
  have hsub2:∀ x ∈ l.flatten,∀ y ∈ x.l,y.l.length ≤ 140737488355328:=fun x hx y hy=>by have:=ok.sub2 x hx y hy;omega
  have he:=QS Y w (bQ l) l l.flatten (by have:=ok.flat;omega) hsub hsub2 hnl (fun x hx h3 h1=>Ac hx h3 h1) hT hI2 (kb:=m0) (ke:=2) (by simp only [St.get,AX.look,if_true]) (fun h=>by have:=hD _ h;omega) (Nat.lt_succ_self _)
  rw [Al] at he
  refine mI he ?_
  rintro v ⟨g2,m2⟩ ⟨rfl,D2,j1,j2,j3,j4⟩
  dsimp only at j2 j3 j4
  simp -implicitDefEqProofs only [go_sem,seval]
  refine ⟨D2,j1,by simp only;omega,fun id hid=>(j3 id hid).elim .inl fun h=>.inr (by simp only;omega),fun id h1 h2=>?_⟩
  simp only at h1
  have:=j4 id (by omega) h2
  rw [this];simp only [St.get,AX.look];rw [if_neg (by omega)]
end W15
/- order.Rules. -/
namespace W15
open Go Go.AX Go.AX.Ty Go.Proofs
def iE:AV → Bool
  | .int _ _ | .str _ | .bool _=>true
  | .ps _ cs | .vp cs=>ay cs
  | _=>false
theorem JX (g:Nat → Option AX.Obj) (d:Nat) (v:AV) (h:iE v=true):bI g d v=some (v,[]):=by
  cases d with
  | zero=>rfl
  | succ d=>cases v <;> simp_all [bI,iE]
theorem qL (g:Nat → Option AX.Obj) (d:Nat):∀ cs:List AV,cs.all iE=true → bf (bI g d) cs=some (cs,[])
  | [],_=>rfl
  | x :: r, h => by
    simp only [List.all_cons,Bool.and_eq_true] at h
    simp only [bf,JX g d x h.1,qL g d r h.2,List.append_nil]
theorem nX {α:Type} [Enc α] (h:∀ a:α,(Enc.cells a).all iE=true):∀ l:List α,(aj l).all iE=true
  | []=>rfl
  | a :: r=>by simp only [aj,List.all_append,h,nX h r,Bool.and_self]
theorem eX {α:Type} [Enc α] (s:St) (d:Nat) {z b e:Nat} (hz:z=Enc.sz α) (hs:∀ a:α,(Enc.cells a).all iE=true) (l:List α) (h:s.get b=some (.cells e (aj l) false)):(bI s.get (d + 1) (.sl b e 0 l.length z)).map (·.1)=some (Enc.av l):=by
  have hl:=aT l
  subst hz
  rw [D8,h]
  have ht:List.take (l.length * Enc.sz α) (aj l)=aj l:=List.take_of_length_le (by omega)
  simp only [p8,if_true,Nat.zero_add,List.drop_zero,ht,qL _ _ _ (nX hs l),iA]
  rw [if_pos (by omega)]
  rfl
theorem bX (s:St) (r id:Nat):(s.hide [r]).get id=if id=r then none else s.get id:=by
  simp only [St.hide,St.get]
  rw [fO (fun i=>!([r].contains i))]
  by_cases h:id=r
  · subst h;simp
  · have:[r].contains id=false:=by simp [h]
    rw [if_neg h,this];rfl
theorem get_join (s s1:St) (r id:Nat) {o:AX.Obj} (h:s.get r=some o):(s.join s1 [r]).get id=if id=r then some o else s1.get id:=by
  simp only [St.join,St.get] at *
  simp only [List.filterMap_cons,List.filterMap_nil,h,Option.map_some,List.cons_append,List.nil_append,AX.look]
  by_cases hr:id=r
  · subst hr;simp
  · rw [if_neg (Ne.symm hr),if_neg hr]
def rC {α:Type} [Enc α] (z:Nat) (l:List α) (D:List Nat) (s:St):Prop:=
  1 < s.next ∧ ((l=[] ∧ D=[0,1] ∧ s.get 0=some (.cells 0 [.nils] false)) ∨ ∃ b e,D=[0,1,b] ∧ 1 < b ∧ b < s.next ∧ s.get 0=some (.cells 0 [.sl b e 0 l.length z] false) ∧ s.get b=some (.cells e (aj l) false))
def Vo {α:Type} [Enc α] (z:Nat) (l:List α) (s:St):Prop:=
  (l=[] ∧ s.get 0=some (.cells 0 [.nils] false)) ∨ ∃ b e,1 < b ∧ b < s.next ∧ s.get 0=some (.cells 0 [.sl b e 0 l.length z] false) ∧ s.get b=some (.cells e (aj l) false)
theorem rC.hide {α:Type} [Enc α] {z:Nat} {l:List α} {D:List Nat} {s:St} (h:rC z l D s):Vo z l (s.hide [1]):=by
  obtain ⟨h0,⟨h1,_,h2⟩ | ⟨b,e,_,h2,h3,h4,h5⟩⟩:=h
  · exact .inl ⟨h1,by rw [bX,if_neg (by omega)];exact h2⟩
  · exact .inr ⟨b,e,h2,h3,by rw [bX,if_neg (by omega)];exact h4,by rw [bX,if_neg (by omega)];exact h5⟩
theorem rC.lt {α:Type} [Enc α] {z:Nat} {l:List α} {D:List Nat} {s:St} (h:rC z l D s):∀ id ∈ D,id < s.next:=by
  obtain ⟨h0,⟨h1,rfl,h2⟩ | ⟨b,e,rfl,h2,h3,h4,h5⟩⟩:=h
  · intro id hid;simp at hid;omega
  · intro id hid;simp at hid;omega
theorem rC.move {α:Type} [Enc α] {z:Nat} {l:List α} {D:List Nat} {s s':St} (h:rC z l D s) (h1:s.next ≤ s'.next) (h2:∀ id ∈ D,s'.get id=s.get id):rC z l D s':=by
  obtain ⟨h0,⟨e1,rfl,e2⟩ | ⟨b,e,rfl,e2,e3,e4,e5⟩⟩:=h
  · exact ⟨by omega,.inl ⟨e1,rfl,by rw [h2 0 (by simp)];exact e2⟩⟩
  · exact ⟨by omega,.inr ⟨b,e,rfl,e2,by omega,by rw [h2 0 (by simp)];exact e4,by rw [h2 b (by simp)];exact e5⟩⟩
theorem rC.one {α:Type} [Enc α] {z:Nat} {l:List α} {D:List Nat} {s:St} (h:rC z l D s):1 ∈ D:=by
  obtain ⟨h0,⟨e1,rfl,e2⟩ | ⟨b,e,rfl,e2,e3,e4,e5⟩⟩:=h <;> simp
theorem Gw {P:Program} {N:Nat} {fo:AO} {ps:List Nat} {ca cb:bM} {ρ:Env} {s:St} {Q:Qx} {a b:Nat} (h:∀ ρ':Env,ρ' a=ρ a → ρ' b=ρ b → @xG P N fo ps ca cb ρ' s Q):@xG P N fo ps ca cb ρ s Q:=h ρ rfl rfl
def EW (O:AX.Obj) (acc:List Placed) (D:List Nat) (s:St):Prop:=s.get 1=some O ∧ rC 3 (acc.filterMap cK) D s
theorem EW.lt {O:AX.Obj} {acc:List Placed} {D:List Nat} {s:St} (h:EW O acc D s):∀ id ∈ D,id < s.next:=h.2.lt
theorem EW.move {O:AX.Obj} {acc:List Placed} {D:List Nat} {s s':St} (h:EW O acc D s) (h1:s.next ≤ s'.next) (h2:∀ id ∈ D,s'.get id=s.get id):EW O acc D s':=⟨by rw [h2 1 h.2.one];exact h.1,h.2.move h1 h2⟩
theorem rC.join {α:Type} [Enc α] {z:Nat} {l:List α} {D:List Nat} {s s2:St} {O:AX.Obj} (hr:s.get 1=some O) (h:rC z l D s2):rC z l D (s.join s2 [1]):=by
  have hj:=fun id=>get_join s s2 1 id hr
  obtain ⟨h0,⟨e1,rfl,e2⟩ | ⟨b,e,rfl,e2,e3,e4,e5⟩⟩:=h
  · exact ⟨h0,.inl ⟨e1,rfl,by rw [hj,if_neg (by omega)];exact e2⟩⟩
  · exact ⟨h0,.inr ⟨b,e,rfl,e2,e3,by rw [hj,if_neg (by omega)];exact e4,by rw [hj,if_neg (by omega)];exact e5⟩⟩
theorem Jd {O:AX.Obj} {acc:List Placed} {x:Placed} {D D':List Nat} {s s2:St} (hr:s.get 1=some O) (h:rC 3 ((acc ++ [x]).filterMap cK) D' s2) (h1:s.next ≤ s2.next) (h2:∀ id ∈ D',id ∈ D ∨ s.next ≤ id) (h3:∀ id,id < s.next → id ∉ D → id ≠ 1 → s2.get id=s.get id) :
    AV.bool true=.bool true ∧ ∃ D',EW O (acc ++ [x]) D' (s.join s2 [1]) ∧ s.next ≤ (s.join s2 [1]).next ∧ (∀ id ∈ D',id ∈ D ∨ s.next ≤ id) ∧ ∀ id,id < s.next → id ∉ D → (s.join s2 [1]).get id=s.get id:=by
  have hj:=fun id=>get_join s s2 1 id hr
  refine ⟨rfl,D',⟨by rw [hj,if_pos rfl],h.join hr⟩,h1,h2,fun id q1 q2=>?_⟩
  rw [hj]
  by_cases q:id=1
  · subst q;rw [if_pos rfl,hr]
  · rw [if_neg q];exact h3 id q1 q2 q
set_option maxHeartbeats 1600000 in
theorem BI (w:Int) (l:List (List Ty.Item)) (ok:uU l) (hb:(dG w l).length ≤ 100000000):aK Tryz.prog 13 [.int .i64 w,Enc.av l] (Enc.av (fu w l)):=by
  refine wB mix c13 (by kernel_rfl) (by kernel_rfl) (by simp [ay,ak,Go.AX.flat]) (ak _) ?_
  simp -implicitDefEqProofs only [F13,go_sem,seval]
  refine au (qK w l ok.flat ok.len ok.names) ?_
  simp -implicitDefEqProofs only [go_sem,seval]
  refine au (Oz w (bQ l) l) ?_
  simp -implicitDefEqProofs only [go_sem,seval]
  refine Gw (a:=5) (b:=10) fun ρ h5 h10=>?_
  have h5':ρ 5=.ptr 0 0 0:=h5
  have h10':bF ρ (.t 10)=.fn (.func 70) [] [.vp [.int .i64 w,.ps (bQ l).length (aj (bQ l)),.ps l.length (aj l)]]:=h10
  clear h5 h10
  refine ⟨_,_,fun lp rec us s'=>∃ D,EW (.raw lp (.loop rec) (gW 29 ρ) us) (dG w l) D s',h10',fun lp rec us okr=>?_,fun lp rec us s' okr hR=>?_⟩
  · have Y : Ak lp (dG w l) (EW (.raw lp (.loop rec) (gW 29 ρ) us)) := by
      refine ⟨fun h=>h.lt,fun h h1 h2=>h.move h1 h2,?_⟩
      rintro acc D s x hT ⟨hr,h1⟩
      refine wJ mix hr okr rfl (by kernel_rfl) ?_
      have hTl:acc.length + 1 ≤ 100000000:=by have:=hT.length_le;simp only [List.length_append,List.length_singleton] at this;omega
      have hfl:(acc.filterMap cK).length ≤ acc.length:=List.length_filterMap_le _ _
      have hfm:(acc ++ [x]).filterMap cK=acc.filterMap cK ++ (cK x).toList:=by rw [List.filterMap_append];show _=_ ++ _;rw [List.append_cancel_left_eq];simp only [List.filterMap_cons,List.filterMap_nil];cases cK x <;> rfl
      have hg:=bX s 1
      have hn:(s.hide [1]).next=s.next:=rfl
      have ep:AA ρ [11] [Enc.av x]=upd ρ 11 (Enc.av x):=rfl
      rw [ep,Placed.fC]
      obtain ⟨hl0,⟨h3,rfl,h4⟩ | ⟨b,e,rfl,q1,q2,h4,h5⟩⟩:=h1
      · have h4':(s.hide [1]).get 0=some (.cells 0 [.nils] false):=by rw [bX,if_neg (by omega)];exact h4
        generalize s.hide [1]=s0 at hg hn h4'
        obtain ⟨g,m⟩:=s0
        simp only [St.get] at hn h4' hg
        have m0:(m=0)=False:=eq_false (by omega)
        by_cases hk:x.item.kind=1
        · have fk:=eq_true hk
          have hru:cK x=some ⟨x.item.bB,x.item.decls,x.layer⟩:=by unfold cK;rw [if_pos hk]
          simp -implicitDefEqProofs only [h4',h5',fk,m0,go_sem,seval]
          refine Jd (O:=.raw lp (.loop rec) (gW 29 ρ) us) (D':=[0,1,m + 1 + 1]) hr ⟨by simp only;omega,.inr ⟨m + 1 + 1,3,rfl,by omega,by simp only;omega,?_,?_⟩⟩ (by simp only;omega) (fun id h=>?_) fun id h1 h2 h3=>?_
          · have q1:(m + 1 + 1=0)=False:=eq_false (by omega)
            have q2:(m + 1=0)=False:=eq_false (by omega)
            rw [hfm,hru,h3];simp only [St.get,AX.look,aS,h4',q1,q2,m0,if_false,if_true,Option.map_some,Option.toList_some,List.nil_append,List.length_singleton]
          · rw [hfm,hru,h3];simp only [St.get,AX.look,if_true,Option.toList_some,List.nil_append,aj,Rule.aO,List.append_nil]
          · simp only [List.mem_cons,List.not_mem_nil,or_false] at h ⊢;omega
          · have q0:(0=id)=False:=eq_false (by simp only [List.mem_cons,List.not_mem_nil,or_false,not_or] at h2;omega)
            simp only [St.get,AX.look];rw [if_neg (by omega),if_neg (by omega),if_neg (by omega),aS,if_neg (by rw [q0];exact fun h=>h),hg,if_neg h3]
        · have fk:=eq_false hk
          have hru:cK x=none:=by unfold cK;rw [if_neg hk]
          simp -implicitDefEqProofs only [h5',fk,go_sem,seval]
          refine Jd (O:=.raw lp (.loop rec) (gW 29 ρ) us) (D':=[0,1]) hr ⟨by simp only;omega,.inl ⟨by rw [hfm,hru,h3];rfl,rfl,?_⟩⟩ (by simp only;omega) (fun id h=>.inl h) fun id h1 h2 h3=>?_
          · simp only [St.get,AX.look,m0,if_false,h4']
          · simp only [St.get,AX.look];rw [if_neg (by omega),hg,if_neg h3]
      · have h4':(s.hide [1]).get 0=some (.cells 0 [.sl b e 0 (acc.filterMap cK).length 3] false):=by rw [bX,if_neg (by omega)];exact h4
        have h6':(s.hide [1]).get b=some (.cells e (aj (acc.filterMap cK)) false):=by rw [bX,if_neg (by omega)];exact h5
        generalize s.hide [1]=s0 at hg hn h4' h6'
        generalize acc.filterMap cK=R at *
        obtain ⟨g,m⟩:=s0
        simp only [St.get] at hn h4' h6' hg
        have m0:(m=0)=False:=eq_false (by omega)
        have mb:(m=b)=False:=eq_false (by omega)
        have bm:(b=m)=False:=eq_false (by omega)
        have mb1:(m + 1=b)=False:=eq_false (by omega)
        have m1:(m + 1=0)=False:=eq_false (by omega)
        have zb:(0=b)=False:=eq_false (by omega)
        have bz:(b=0)=False:=eq_false (by omega)
        by_cases hk:x.item.kind=1
        · have fk:=eq_true hk
          have hru:cK x=some ⟨x.item.bB,x.item.decls,x.layer⟩:=by unfold cK;rw [if_pos hk]
          have hc:(aj R).length=R.length * 3:=aT R
          have ht:List.take (R.length * 3) (aj R)=aj R:=List.take_of_length_le (by omega)
          have hbd:((R.length + 1) * 56 ≤ 140737488355328)=True:=eq_true (by omega)
          simp -implicitDefEqProofs only [h4',h5',h6',fk,m0,mb,mb1,m1,bm,zb,bz,hc,ht,hbd,go_sem,seval]
          refine Jd (O:=.raw lp (.loop rec) (gW 29 ρ) us) (D':=[0,1,b]) hr ⟨by simp only;omega,.inr ⟨b,if e ≤ R.length * 3 + 2 then R.length * 3 + 3 else e + 1,rfl,by omega,by simp only;omega,?_,?_⟩⟩ (by simp only;omega) (fun id h=>.inl h) fun id h1 h2 h3=>?_
          · have q1:(m + 1=0)=False:=eq_false (by omega)
            rw [hfm,hru];simp only [St.get,AX.look,aS,h4',q1,m0,bz,if_false,if_true,Option.map_some,Option.toList_some,List.length_append,List.length_singleton]
          · rw [hfm,hru];simp only [St.get,AX.look,aS,h6',mb1,mb,zb,if_false,if_true,Option.map_some,Option.toList_some,aW,aj,Rule.aO,List.append_nil]
          · have q0:¬ 0=id:=by simp only [List.mem_cons,List.not_mem_nil,or_false,not_or] at h2;omega
            have q2:¬ b=id:=by simp only [List.mem_cons,List.not_mem_nil,or_false,not_or] at h2;omega
            simp only [St.get,AX.look];rw [if_neg (by omega),if_neg (by omega),aS,if_neg (by assumption),aS,if_neg (by assumption),hg,if_neg h3]
        · have fk:=eq_false hk
          have hru:cK x=none:=by unfold cK;rw [if_neg hk]
          simp -implicitDefEqProofs only [h5',fk,go_sem,seval]
          refine Jd (O:=.raw lp (.loop rec) (gW 29 ρ) us) (D':=[0,1,b]) hr ⟨by simp only;omega,.inr ⟨b,e,rfl,q1,by simp only;omega,?_,?_⟩⟩ (by simp only;omega) (fun id h=>.inl h) fun id h1 h2 h3=>?_
          · rw [hfm,hru];simp only [St.get,AX.look,m0,if_false,h4',Option.toList_none,List.append_nil]
          · rw [hfm,hru];simp only [St.get,AX.look,mb,if_false,h6',Option.toList_none,List.append_nil]
          · simp only [St.get,AX.look];rw [if_neg (by omega),hg,if_neg h3]
    have he:=MQ Y w ok (acc:=[]) (by simp) (D:=[0,1]) (s:=St.push ⟨[(0,.cells 0 [.nils] false)],1⟩ (.raw lp (.loop rec) (gW 29 ρ) us)) ⟨rfl,by simp [St.push],.inl ⟨rfl,rfl,rfl⟩⟩
    exact he.mono fun v s' ⟨D,h,_⟩=>⟨D,by simpa using h⟩
  · obtain ⟨D,hr,h1⟩:=hR
    refine ⟨_,_,.inl ⟨hr,?_⟩⟩
    have h2:=h1.hide
    generalize s'.hide [1]=s2 at h2
    obtain ⟨g,m⟩:=s2
    rcases h2 with ⟨h3,h4⟩ | ⟨b,e,q1,q2,h4,h5⟩
    · have h4':AX.look 0 g=some (.cells 0 [.nils] false):=h4
      simp -implicitDefEqProofs only [h4',h5',go_sem,seval]
      unfold dW fu
      rw [h3];rfl
    · have h4':AX.look 0 g=some (.cells 0 [.sl b e 0 (List.filterMap cK (dG w l)).length 3] false):=h4
      simp -implicitDefEqProofs only [h4',h5',go_sem,seval]
      exact eX (α:=Rule) ⟨g,m⟩ 7 rfl (fun a=>by simp [Rule.aO,iE,aP]) _ h5
end W15
/- Values, trimmed. -/
namespace W15
open Go Go.AX Go.AX.Ty Go.Proofs
def dx (v:Ty.Val):Bool:=decide (v.kind=1) && decide (v.tok.kind=8)
def fJ (l:List Ty.Val):List Ty.Val:=(l.reverse.dropWhile dx).reverse
def trimB (l:List Ty.Val):List Ty.Val:=fJ (l.dropWhile dx)
theorem mQ (l:List Ty.Val) (x:Ty.Val):fJ (l ++ [x])=if dx x=true then fJ l else l ++ [x]:=by
  unfold fJ
  rw [List.reverse_append,List.reverse_singleton,List.singleton_append,List.dropWhile_cons]
  split
  · rfl
  · simp
theorem Ba (v:Ty.Val):aK Tryz.prog 101 [Enc.av v] (.bool (dx v)):=by
  refine aH mix c101 (by kernel_rfl) (by kernel_rfl) (by simp [ay,ak,Go.AX.flat]) (by first | exact ak _ | simp [flat,ay,ak]) ?_
  unfold dx
  by_cases h:v.kind=1
  · have f:=eq_true h
    simp -implicitDefEqProofs only [F101,f,go_sem,seval]
    try (congr 1)
    try (rw [Bool.eq_iff_iff];simp)
  · have f:=eq_false h
    simp -implicitDefEqProofs only [F101,f,go_sem,seval]
    try simp
theorem xR (v:Ty.Val):aK Tryz.prog 103 [Enc.av v] (.bool (dx v)):=by
  refine aH mix c103 (by kernel_rfl) (by kernel_rfl) (by simp [ay,ak,Go.AX.flat]) (by first | exact ak _ | simp [flat,ay,ak]) ?_
  unfold dx
  by_cases h:v.kind=1
  · have f:=eq_true h
    simp -implicitDefEqProofs only [F103,f,go_sem,seval]
    try (congr 1)
    try (rw [Bool.eq_iff_iff];simp)
  · have f:=eq_false h
    simp -implicitDefEqProofs only [F103,f,go_sem,seval]
    try simp
theorem rQ (l:List Ty.Val) (hl:l.length ≤ 1000000):aK Tryz.prog 102 [Enc.av l] (Enc.av l):=by
  refine eH mix c102 (by kernel_rfl) (by kernel_rfl) (by simp [ay,ak]) (ak _) ?_
  have hc:=Val.je l
  have ht:List.take (l.length * 5) (aj l)=aj l:=List.take_of_length_le (by omega)
  have hb:(l.length * 64 ≤ 140737488355328)=True:=eq_true (by omega)
  have hs:(aj l).all iE=true:=nX (fun a=>by simp [Val.aO,iE,aP]) l
  by_cases h0:l=[]
  · subst h0
    simp -implicitDefEqProofs only [F102,aj,go_sem,seval]
    refine y8 ?_ ?_
    · simp -implicitDefEqProofs only [go_sem,seval]
      rfl
    · simp -implicitDefEqProofs only [aj,go_sem,seval]
      rfl
  · have hp:0 < l.length:=List.length_pos_iff.2 h0
    have hz:(l.length=0)=False:=eq_false (by omega)
    have hT:(0 < l.length)=True:=eq_true hp
    have hmx:(1 ≤ l.length * 5)=True:=eq_true (by omega)
    simp -implicitDefEqProofs only [F102,hz,hT,hc,ht,hb,hmx,go_sem,seval]
    exact eX _ 7 rfl (fun a=>by simp [Val.aO,iE,aP]) l rfl
theorem SS (l:List Ty.Val) (hl:l.length ≤ 1000000):aK Tryz.prog 76 [Enc.av l] (Enc.av (trimB l)):=by
  refine aH mix c76 (by kernel_rfl) (by kernel_rfl) (by simp [ay,ak,Go.AX.flat]) (by first | exact ak _ | simp [flat,ay,ak]) ?_
  simp -implicitDefEqProofs only [F76,go_sem,seval]
  refine aF (fun c:List Ty.Val=>c.length) (fun c=>[(0,Enc.av c)]) (fun c s=>c.length ≤ l.length ∧ c.dropWhile dx=l.dropWhile dx) l ?_ ?_
  · simp -implicitDefEqProofs only [go_sem,seval]
    try exact ⟨Nat.le_refl _,rfl⟩
  rintro c ρ ⟨g,m⟩ ⟨h1,h2⟩
  have hc5:=Val.je c
  rcases Nat.lt_or_ge 0 c.length with hk | hk
  · obtain ⟨x,hx,hd,hm⟩:=aG hk
    have hgt:((c.length:Int) > 0)=True:=eq_true (by omega)
    have hd1:List.drop 5 (aj c)=aj (c.drop 1):=fq c 1
    have e1:(1 ≤ c.length)=True:=eq_true (by omega)
    simp -implicitDefEqProofs only [hgt,hx,go_sem,seval]
    have hw:=Ba x
    rw [Val.fC] at hw
    refine au hw ?_
    cases hb:dx x
    · have hdw:c.dropWhile dx=c:=by
        cases c with
        | nil=>simp at hk
        | cons a r=>simp at hx;subst hx;rw [List.dropWhile_cons,hb];rfl
      rw [hdw] at h2
      simp -implicitDefEqProofs only [go_sem,seval]
      refine aF (fun c:List Ty.Val=>c.length) (fun c=>[(0,Enc.av c)]) (fun c s=>c.length ≤ l.length ∧ fJ c=trimB l) c ?_ ?_
      · simp -implicitDefEqProofs only [go_sem,seval]
        exact ⟨h1,by unfold trimB;rw [h2]⟩
      rintro d ρ ⟨g2,m2⟩ ⟨j1,j2⟩
      rcases Nat.lt_or_ge 0 d.length with hk2 | hk2
      · obtain ⟨y,hy,hd2,hm2⟩:=aG (l:=d) (k:=d.length - 1) (by omega)
        have hgt2:((d.length:Int) > 0)=True:=eq_true (by omega)
        have wd:IntKind.i64.wrap ((d.length:Int) - 1)=((d.length - 1:Nat):Int):=by rw [wrap64 (by omega) (by omega)];omega
        have ht2:List.take ((d.length - 1) * 5) (aj d)=aj (d.take (d.length - 1)):=iH d (d.length - 1)
        have e2:(d.length - 1 ≤ d.length)=True:=eq_true (by omega)
        have hd5:=Val.je d
        have hsp:d=d.take (d.length - 1) ++ [y]:=by
          have h:=List.take_append_drop (d.length - 1) d
          have h2:d.drop (d.length - 1)=[y]:=by
            rw [hd2,List.drop_of_length_le (by omega)]
          rw [h2] at h;exact h.symm
        have hrt:fJ d=if dx y=true then fJ (d.take (d.length - 1)) else d:=by
          have:=mQ (d.take (d.length - 1)) y
          rw [← hsp] at this;exact this
        simp -implicitDefEqProofs only [hgt2,wd,hy,go_sem,seval]
        have hw:=Ba y
        rw [Val.fC] at hw
        refine au hw ?_
        cases hb2:dx y
        · rw [hb2] at hrt
          simp only [Bool.false_eq_true,if_false] at hrt
          rw [hrt] at j2
          simp -implicitDefEqProofs only [go_sem,seval]
          have hcl:=rQ d (by omega)
          refine au hcl ?_
          simp -implicitDefEqProofs only [go_sem,seval]
          try rw [← j2]
        · rw [hb2] at hrt
          simp only [if_true] at hrt
          rw [hrt] at j2
          simp -implicitDefEqProofs only [wd,e2,ht2,hd5,go_sem,seval]
          refine ⟨d.take (d.length - 1),by rw [List.length_take];omega,by rw [List.length_take,Nat.min_eq_left (by omega),Nat.sub_zero],by rw [List.length_take];omega,j2⟩
      · have h0:d=[]:=List.length_eq_zero_iff.1 (by omega)
        subst h0
        simp -implicitDefEqProofs only [List.length_nil,aj,go_sem,seval]
        have hcl:=rQ [] (by simp)
        refine au hcl ?_
        simp -implicitDefEqProofs only [go_sem,seval]
        try rw [← j2]
        try rfl
    · have hdw:c.dropWhile dx=(c.drop 1).dropWhile dx:=by
        cases c with
        | nil=>simp at hk
        | cons a r=>simp at hx;subst hx;rw [List.dropWhile_cons,hb];rfl
      rw [hdw] at h2
      simp -implicitDefEqProofs only [e1,hd1,hc5,go_sem,seval]
      exact ⟨c.drop 1,by rw [List.length_drop];omega,by rw [List.length_drop],by rw [List.length_drop];omega,h2⟩
  · have h0:c=[]:=List.length_eq_zero_iff.1 (by omega)
    subst h0
    simp -implicitDefEqProofs only [List.length_nil,aj,go_sem,seval]
    refine aF (fun c:List Ty.Val=>c.length) (fun c=>[(0,Enc.av c)]) (fun c s=>c.length ≤ l.length ∧ fJ c=trimB l) [] ?_ ?_
    · simp -implicitDefEqProofs only [List.length_nil,aj,go_sem,seval]
      (unfold trimB;rw [← h2];rfl)
    rintro d ρ ⟨g2,m2⟩ ⟨j1,j2⟩
    rcases Nat.lt_or_ge 0 d.length with hk2 | hk2
    · obtain ⟨y,hy,hd2,hm2⟩:=aG (l:=d) (k:=d.length - 1) (by omega)
      have hgt2:((d.length:Int) > 0)=True:=eq_true (by omega)
      have wd:IntKind.i64.wrap ((d.length:Int) - 1)=((d.length - 1:Nat):Int):=by rw [wrap64 (by omega) (by omega)];omega
      have ht2:List.take ((d.length - 1) * 5) (aj d)=aj (d.take (d.length - 1)):=iH d (d.length - 1)
      have e2:(d.length - 1 ≤ d.length)=True:=eq_true (by omega)
      have hd5:=Val.je d
      have hsp:d=d.take (d.length - 1) ++ [y]:=by
        have h:=List.take_append_drop (d.length - 1) d
        have h2:d.drop (d.length - 1)=[y]:=by
          rw [hd2,List.drop_of_length_le (by omega)]
        rw [h2] at h;exact h.symm
      have hrt:fJ d=if dx y=true then fJ (d.take (d.length - 1)) else d:=by
        have:=mQ (d.take (d.length - 1)) y
        rw [← hsp] at this;exact this
      simp -implicitDefEqProofs only [hgt2,wd,hy,go_sem,seval]
      have hw:=Ba y
      rw [Val.fC] at hw
      refine au hw ?_
      cases hb2:dx y
      · rw [hb2] at hrt
        simp only [Bool.false_eq_true,if_false] at hrt
        rw [hrt] at j2
        simp -implicitDefEqProofs only [go_sem,seval]
        have hcl:=rQ d (by omega)
        refine au hcl ?_
        simp -implicitDefEqProofs only [go_sem,seval]
        try rw [← j2]
      · rw [hb2] at hrt
        simp only [if_true] at hrt
        rw [hrt] at j2
        simp -implicitDefEqProofs only [wd,e2,ht2,hd5,go_sem,seval]
        refine ⟨d.take (d.length - 1),by rw [List.length_take];omega,by rw [List.length_take,Nat.min_eq_left (by omega),Nat.sub_zero],by rw [List.length_take];omega,j2⟩
    · have h0:d=[]:=List.length_eq_zero_iff.1 (by omega)
      subst h0
      simp -implicitDefEqProofs only [List.length_nil,aj,go_sem,seval]
      have hcl:=rQ [] (by simp)
      refine au hcl ?_
      simp -implicitDefEqProofs only [go_sem,seval]
      try rw [← j2]
      try rfl
end W15
/- Values, trimmed: the reference's. -/
namespace W15
open Go Go.AX Go.AX.Ty Go.Proofs
theorem Df {l:List Ty.Val} {k j:Nat} {y:Ty.Val} (hk:k < j) (hy:l[j - 1]? = some y):(l.take j).drop k=(l.take (j - 1)).drop k ++ [y]:=by
  have e:l.take j=l.take (j - 1) ++ [y]:=by
    have h:=List.take_add_one (l:=l) (i:=j - 1)
    rw [show j - 1 + 1=j by omega,hy] at h
    exact h
  have hl:j - 1 < l.length:=by
    rw [List.getElem?_eq_some_iff] at hy;exact hy.1
  rw [e,List.drop_append_of_le_length (by rw [List.length_take];omega)]
theorem Qp (l:List Ty.Val) (hl:l.length ≤ 1000000):aK Tryz.prog 77 [Enc.av l] (Enc.av (trimB l)):=by
  refine eH mix c77 (by kernel_rfl) (by kernel_rfl) (by simp [ay,ak]) (ak _) ?_
  have hc5:=Val.je l
  simp -implicitDefEqProofs only [F77,go_sem,seval]
  refine aF (fun k:Nat=>l.length - k) (fun k=>[(0,Enc.av l),(3,.int .i64 k),(4,.int .i64 l.length)]) (fun k s=>k ≤ l.length ∧ (l.drop k).dropWhile dx=l.dropWhile dx) 0 ?_ ?_
  · simp -implicitDefEqProofs only [go_sem,seval]
    try exact ⟨Nat.zero_le _,rfl⟩
  rintro k ρ ⟨g,m⟩ ⟨h1,h2⟩
  have back:(l.drop k).dropWhile dx=l.drop k → fJ ((l.take l.length).drop k)=trimB l:=fun h=>by
    rw [List.take_length];unfold trimB;rw [← h2,h]
  have second:fJ ((l.take l.length).drop k)=trimB l → True:=fun _=>trivial
  rcases Nat.lt_or_ge k l.length with hk | hk
  · obtain ⟨x,hx,hd,hm⟩:=aG hk
    have hlt:((k:Int) < (l.length:Int))=True:=eq_true (by omega)
    have w1:IntKind.i64.wrap ((k:Int) + 1)=((k + 1:Nat):Int):=by rw [wrap64 (by omega) (by omega)];omega
    have hw:=xR x
    rw [Val.fC] at hw
    simp -implicitDefEqProofs only [hlt,hx,go_sem,seval]
    refine au hw ?_
    cases hb:dx x
    · have hdw:(l.drop k).dropWhile dx=l.drop k:=by rw [hd,List.dropWhile_cons,hb];rfl
      have st:=back hdw
      simp -implicitDefEqProofs only [go_sem,seval]
      refine aF (fun j:Nat=>j) (fun j=>[(0,Enc.av l),(3,.int .i64 k),(4,.int .i64 j)]) (fun j s=>k ≤ j ∧ j ≤ l.length ∧ fJ ((l.take j).drop k)=trimB l) l.length ?_ ?_
      · simp -implicitDefEqProofs only [go_sem,seval]
        exact ⟨h1,st⟩
      rintro j ρ ⟨g2,m2⟩ ⟨j1,j2,j3⟩
      have ht:List.take (j * 5) (aj l)=aj (l.take j):=iH l j
      have hdr:List.drop (k * 5) (aj (l.take j))=aj ((l.take j).drop k):=fq (l.take j) k
      have hcut:List.take (j * 5 - k * 5) (List.drop (k * 5) (aj l))=aj ((l.take j).drop k):=by rw [← hdr,← ht,List.drop_take]
      have fin:fJ ((l.take j).drop k)=(l.take j).drop k → (l.take j).drop k=trimB l:=fun h=>by rw [← h];exact j3
      have ej:(k ≤ j)=True:=eq_true j1
      have el:(j ≤ l.length)=True:=eq_true j2
      have hsl:((l.take j).drop k).length=j - k:=by rw [List.length_drop,List.length_take,Nat.min_eq_left j2]
      have hcs:=Val.je ((l.take j).drop k)
      rw [hsl] at hcs
      have hts:List.take ((j - k) * 5) (aj ((l.take j).drop k))=aj ((l.take j).drop k):=List.take_of_length_le (by omega)
      have hbd:((j - k) * 64 ≤ 140737488355328)=True:=eq_true (by omega)
      have closing:∀ (hne:(l.take j).drop k=trimB l),True:=fun _=>trivial
      rcases Nat.lt_or_ge k j with hk2 | hk2
      · obtain ⟨y,hy,hd2,hm2⟩:=aG (l:=l) (k:=j - 1) (by omega)
        have hgt2:((j:Int) > (k:Int))=True:=eq_true (by omega)
        have wd:IntKind.i64.wrap ((j:Int) - 1)=((j - 1:Nat):Int):=by rw [wrap64 (by omega) (by omega)];omega
        have hsp:=Df hk2 hy
        have hrt:fJ ((l.take j).drop k)=if dx y=true then fJ ((l.take (j - 1)).drop k) else (l.take j).drop k:=by rw [hsp];exact mQ _ y
        simp -implicitDefEqProofs only [hgt2,wd,hy,go_sem,seval]
        have hw:=xR y
        rw [Val.fC] at hw
        refine au hw ?_
        cases hb2:dx y
        · rw [hb2] at hrt
          simp only [Bool.false_eq_true,if_false] at hrt
          have f:=fin hrt
          have hz:(j - k=0)=False:=eq_false (by omega)
          have hT:(0 < j - k)=True:=eq_true (by omega)
          have hmx:(1 ≤ (j - k) * 5)=True:=eq_true (by omega)
          simp -implicitDefEqProofs only [ej,el,hc5,hcut,hcs,hts,hbd,hz,hT,hmx,go_sem,seval]
          have hv:=eX (α:=Ty.Val) ⟨(m2,.cells ((j - k) * 5) (aj ((l.take j).drop k)) false) :: g2,m2 + 1⟩ 7 rfl (fun a=>by simp [Val.aO,iE,aP]) ((l.take j).drop k) (b:=m2) (e:=(j - k) * 5) (by simp [St.get,AX.look])
          rw [hsl] at hv
          unfold dW
          rw [← f]
          exact hv
        · rw [hb2] at hrt
          simp only [if_true] at hrt
          rw [hrt] at j3
          simp -implicitDefEqProofs only [wd,go_sem,seval]
          exact ⟨j - 1,by omega,rfl,by omega,by omega,j3⟩
      · have hkj:k=j:=by omega
        have hgt2:((j:Int) > (k:Int))=False:=eq_false (by omega)
        have he:(l.take j).drop k=[]:=List.eq_nil_of_length_eq_zero (by omega)
        rw [he] at j3
        have hz:(j - k=0)=True:=eq_true (by omega)
        have hz2:j - k=0:=by omega
        simp -implicitDefEqProofs only [hgt2,ej,el,hc5,hcut,hz2,he,aj,List.length_nil,Nat.zero_mul,go_sem,seval]
        unfold dW
        rw [← j3]
        have hv:=eX (α:=Ty.Val) ⟨(m2,.cells 0 [] false) :: g2,m2 + 1⟩ 7 rfl (fun a=>by simp [Val.aO,iE,aP]) [] (b:=m2) (e:=0) (by simp [St.get,AX.look];rfl)
        exact hv
    · have hdw:(l.drop k).dropWhile dx=(l.drop (k + 1)).dropWhile dx:=by rw [hd,List.dropWhile_cons,hb];rfl
      rw [hdw] at h2
      simp -implicitDefEqProofs only [w1,go_sem,seval]
      exact ⟨k + 1,by omega,rfl,by omega,h2⟩
  · have hlt:((k:Int) < (l.length:Int))=False:=eq_false (by omega)
    have hdw:(l.drop k).dropWhile dx=l.drop k:=by rw [List.drop_of_length_le hk];rfl
    have st:=back hdw
    simp -implicitDefEqProofs only [hlt,go_sem,seval]
    refine aF (fun j:Nat=>j) (fun j=>[(0,Enc.av l),(3,.int .i64 k),(4,.int .i64 j)]) (fun j s=>k ≤ j ∧ j ≤ l.length ∧ fJ ((l.take j).drop k)=trimB l) l.length ?_ ?_
    · simp -implicitDefEqProofs only [go_sem,seval]
      exact ⟨h1,st⟩
    rintro j ρ ⟨g2,m2⟩ ⟨j1,j2,j3⟩
    have ht:List.take (j * 5) (aj l)=aj (l.take j):=iH l j
    have hdr:List.drop (k * 5) (aj (l.take j))=aj ((l.take j).drop k):=fq (l.take j) k
    have hcut:List.take (j * 5 - k * 5) (List.drop (k * 5) (aj l))=aj ((l.take j).drop k):=by rw [← hdr,← ht,List.drop_take]
    have fin:fJ ((l.take j).drop k)=(l.take j).drop k → (l.take j).drop k=trimB l:=fun h=>by rw [← h];exact j3
    have ej:(k ≤ j)=True:=eq_true j1
    have el:(j ≤ l.length)=True:=eq_true j2
    have hsl:((l.take j).drop k).length=j - k:=by rw [List.length_drop,List.length_take,Nat.min_eq_left j2]
    have hcs:=Val.je ((l.take j).drop k)
    rw [hsl] at hcs
    have hts:List.take ((j - k) * 5) (aj ((l.take j).drop k))=aj ((l.take j).drop k):=List.take_of_length_le (by omega)
    have hbd:((j - k) * 64 ≤ 140737488355328)=True:=eq_true (by omega)
    have closing:∀ (hne:(l.take j).drop k=trimB l),True:=fun _=>trivial
    rcases Nat.lt_or_ge k j with hk2 | hk2
    · obtain ⟨y,hy,hd2,hm2⟩:=aG (l:=l) (k:=j - 1) (by omega)
      have hgt2:((j:Int) > (k:Int))=True:=eq_true (by omega)
      have wd:IntKind.i64.wrap ((j:Int) - 1)=((j - 1:Nat):Int):=by rw [wrap64 (by omega) (by omega)];omega
      have hsp:=Df hk2 hy
      have hrt:fJ ((l.take j).drop k)=if dx y=true then fJ ((l.take (j - 1)).drop k) else (l.take j).drop k:=by rw [hsp];exact mQ _ y
      simp -implicitDefEqProofs only [hgt2,wd,hy,go_sem,seval]
      have hw:=xR y
      rw [Val.fC] at hw
      refine au hw ?_
      cases hb2:dx y
      · rw [hb2] at hrt
        simp only [Bool.false_eq_true,if_false] at hrt
        have f:=fin hrt
        have hz:(j - k=0)=False:=eq_false (by omega)
        have hT:(0 < j - k)=True:=eq_true (by omega)
        have hmx:(1 ≤ (j - k) * 5)=True:=eq_true (by omega)
        simp -implicitDefEqProofs only [ej,el,hc5,hcut,hcs,hts,hbd,hz,hT,hmx,go_sem,seval]
        have hv:=eX (α:=Ty.Val) ⟨(m2,.cells ((j - k) * 5) (aj ((l.take j).drop k)) false) :: g2,m2 + 1⟩ 7 rfl (fun a=>by simp [Val.aO,iE,aP]) ((l.take j).drop k) (b:=m2) (e:=(j - k) * 5) (by simp [St.get,AX.look])
        rw [hsl] at hv
        unfold dW
        rw [← f]
        exact hv
      · rw [hb2] at hrt
        simp only [if_true] at hrt
        rw [hrt] at j3
        simp -implicitDefEqProofs only [wd,go_sem,seval]
        exact ⟨j - 1,by omega,rfl,by omega,by omega,j3⟩
    · have hkj:k=j:=by omega
      have hgt2:((j:Int) > (k:Int))=False:=eq_false (by omega)
      have he:(l.take j).drop k=[]:=List.eq_nil_of_length_eq_zero (by omega)
      rw [he] at j3
      have hz:(j - k=0)=True:=eq_true (by omega)
      have hz2:j - k=0:=by omega
      simp -implicitDefEqProofs only [hgt2,ej,el,hc5,hcut,hz2,he,aj,List.length_nil,Nat.zero_mul,go_sem,seval]
      unfold dW
      rw [← j3]
      have hv:=eX (α:=Ty.Val) ⟨(m2,.cells 0 [] false) :: g2,m2 + 1⟩ 7 rfl (fun a=>by simp [Val.aO,iE,aP]) [] (b:=m2) (e:=0) (by simp [St.get,AX.look];rfl)
      exact hv
end W15
/- Families, names of frames. -/
namespace W15
open Go Go.AX Go.AX.Ty Go.Proofs
def LJ:Str:=[102,111,110,116,45,102,97,109,105,108,121]
def Cb (v:Ty.Val):Option Str:=if v.kind=1 ∧ (v.tok.kind=1 ∨ v.tok.kind=6) then some v.tok.text else none
def Bd (l:List Ty.Val):Option Str:=if (trimB l).length=1 then ((trimB l)[0]?).bind Cb else none
def tq (ds:List Ty.Decl):Option Str:=match ds.reverse.find? (fun d=>d.name == LJ) with | some d=>Bd d.l | none=>none
def bP (name:Str) (x:Ty.Item):Bool:=decide (x.kind=5) && (decide (x.names.length=1) && (nameOf x == name))
def eG (name:Str) (x:Ty.Item):Bool:=decide (x.kind=6) && (tq x.decls == some name)
theorem NC (l:List Ty.Val) (hl:l.length ≤ 1000000) (name:Str):aK Tryz.prog 49 [Enc.av l,Enc.av name] (.bool (Bd l == some name)):=by
  refine aH mix c49 (by kernel_rfl) (by kernel_rfl) (by simp [ay,ak,Go.AX.flat]) (by first | exact ak _ | simp [flat,ay,ak]) ?_
  simp -implicitDefEqProofs only [F49,go_sem,seval]
  refine au (SS l hl) ?_
  unfold Bd
  generalize trimB l=c
  by_cases h1:c.length=1
  · have f1:=eq_true (show ((c.length:Int)=1) by omega)
    obtain ⟨v,hv,hd,hm⟩:=aG (l:=c) (k:=0) (by omega)
    rw [if_pos h1,hv]
    by_cases k1:v.kind=1
    · have g1:=eq_true k1
      by_cases k2:v.tok.kind=1
      · have g2:=eq_true k2
        simp -implicitDefEqProofs only [f1,hv,g1,g2,go_sem,seval]
        congr 1;simp only [Option.bind_some,Cb,k1,k2,true_and,true_or,if_true];rw [Bool.eq_iff_iff];simp
      · have g2:=eq_false k2
        by_cases k3:v.tok.kind=6
        · have g3:=eq_true k3
          simp -implicitDefEqProofs only [f1,hv,g1,g2,g3,go_sem,seval]
          congr 1;simp only [Option.bind_some,Cb,k1,k3,true_and,or_true,if_true];rw [Bool.eq_iff_iff];simp
        · have g3:=eq_false k3
          simp -implicitDefEqProofs only [f1,hv,g1,g2,g3,go_sem,seval]
          congr 1;simp [Cb,k1,k2,k3]
    · have g1:=eq_false k1
      simp -implicitDefEqProofs only [f1,hv,g1,go_sem,seval]
      congr 1;simp [Cb,k1]
  · have f1:=eq_false (show ¬ ((c.length:Int)=1) by omega)
    simp -implicitDefEqProofs only [f1,go_sem,seval]
    rw [if_neg h1];rfl
theorem Ka (x:Ty.Item) (name:Str):aK Tryz.prog 46 [Enc.av x,.vp [.str name]] (.bool (bP name x)):=by
  refine aH mix c46 (by kernel_rfl) (by kernel_rfl) (by simp [ay,flat,ak]) (by simp [flat]) ?_
  unfold bP
  by_cases k1:x.kind=5
  · have g1:=eq_true k1
    by_cases k2:x.names.length=1
    · have g2:=eq_true (show ((x.names.length:Int)=1) by omega)
      obtain ⟨v,hv,hd,hm⟩:=aG (l:=x.names) (k:=0) (by omega)
      simp -implicitDefEqProofs only [F46,g1,g2,hv,go_sem,seval]
      refine aA (by (first | omega | (simp [aB,aD,aC,Nat.testBit_eq_decide_div_mod_eq];done) | (simp [aB,aD,aC,Nat.testBit_eq_decide_div_mod_eq];omega) | kernel_rfl)) ?_
      simp -implicitDefEqProofs only [g1,g2,hv,go_sem,seval]
      congr 1
      have e:nameOf x=v:=by unfold nameOf;cases hn:x.names with
        | nil=>rw [hn] at hv;simp at hv
        | cons a r=>rw [hn] at hv;simp at hv;subst hv;rfl
      simp [k1,k2,e]
    · have g2:=eq_false (show ¬ ((x.names.length:Int)=1) by omega)
      simp -implicitDefEqProofs only [F46,g1,g2,go_sem,seval]
      refine aA (by (first | omega | (simp [aB,aD,aC,Nat.testBit_eq_decide_div_mod_eq];done) | (simp [aB,aD,aC,Nat.testBit_eq_decide_div_mod_eq];omega) | kernel_rfl)) ?_
      simp -implicitDefEqProofs only [g1,g2,go_sem,seval]
      simp [k1,k2]
  · have g1:=eq_false k1
    simp -implicitDefEqProofs only [F46,g1,go_sem,seval]
    refine aA (by (first | omega | (simp [aB,aD,aC,Nat.testBit_eq_decide_div_mod_eq];done) | (simp [aB,aD,aC,Nat.testBit_eq_decide_div_mod_eq];omega) | kernel_rfl)) ?_
    simp -implicitDefEqProofs only [g1,go_sem,seval]
    simp [k1]
theorem K4 {ds:List Ty.Decl} {i:Nat} {d:Ty.Decl} (h:ds[i]? = some d):tq (ds.take (i + 1))=if (d.name == LJ)=true then Bd d.l else tq (ds.take i):=by
  unfold tq
  rw [List.take_add_one,h]
  simp only [Option.toList_some,List.reverse_append,List.reverse_singleton,List.singleton_append,List.find?_cons]
  cases d.name == LJ <;> rfl
def pI (o:Option Str):AV:=match o with | some s=>.tup [.str s,.bool true] | none=>.tup [.str [],.bool false]
theorem J9 (x:Ty.Item) (hl:x.decls.length ≤ 1000000) (hd:∀ d ∈ x.decls,d.l.length ≤ 1000000):aK Tryz.prog 50 [Enc.av x] (pI (tq x.decls)):=by
  refine aH mix c50 (by kernel_rfl) (by kernel_rfl) (by simp [ay,flat,ak]) (by cases tq x.decls <;> simp [pI,flat,ay]) ?_
  have w0:IntKind.i64.wrap ((x.decls.length:Int) - 1)=(x.decls.length:Int) - 1:=wrap64 (by omega) (by omega)
  simp -implicitDefEqProofs only [F50,w0,go_sem,seval]
  refine aF (fun i:Nat=>i) (fun i=>[(1,.ptr 0 0 0),(4,.int .i64 ((i:Int) - 1))]) (fun i s=>i ≤ x.decls.length ∧ tq x.decls=tq (x.decls.take i) ∧ s=⟨[(0,.cells 0 (Enc.cells x) false)],1⟩) x.decls.length ?_ ?_
  · simp -implicitDefEqProofs only [go_sem,seval]
    rw [List.take_length]
  rintro i ρ s ⟨h1,h2,rfl⟩
  rcases Nat.lt_or_ge 0 i with hk | hk
  · obtain ⟨d,hx,hdr,hm⟩:=aG (l:=x.decls) (k:=i - 1) (by omega)
    have hge:((i:Int) - 1 ≥ 0)=True:=eq_true (by omega)
    have w1:IntKind.i64.wrap ((i:Int) - 1 - 1)=(((i - 1:Nat):Int) - 1):=by rw [wrap64 (by omega) (by omega)];omega
    have hi:((i:Int) - 1)=((i - 1:Nat):Int):=by omega
    have hsn:=K4 hx
    rw [show i - 1 + 1=i by omega] at hsn
    have hT:=Qp d.l (hd d hm)
    have hti:((i:Int) - 1).toNat=i - 1:=by omega
    have hz0:((0:Int) ≤ (i:Int) - 1)=True:=eq_true (by omega)
    simp -implicitDefEqProofs only [hge,hti,hx,hz0,go_sem,seval]
    by_cases hn:d.name=LJ
    · have fn:(d.name=[102,111,110,116,45,102,97,109,105,108,121])=True:=eq_true hn
      have hfam:tq x.decls=Bd d.l:=by rw [h2,hsn,hn];simp
      simp -implicitDefEqProofs only [fn,hti,hx,hz0,go_sem,seval]
      refine au hT ?_
      rw [hfam]
      unfold Bd
      generalize trimB d.l=c
      by_cases l1:c.length=1
      · have f1:=eq_true (show ((c.length:Int)=1) by omega)
        obtain ⟨v,hv,hd,hm⟩:=aG (l:=c) (k:=0) (by omega)
        rw [if_pos l1,hv]
        by_cases k1:v.kind=1
        · have g1:=eq_true k1
          by_cases k2:v.tok.kind=1
          · have g2:=eq_true k2
            simp -implicitDefEqProofs only [f1,hv,g1,g2,go_sem,seval]
            simp [pI,Cb,k1,k2]
          · have g2:=eq_false k2
            by_cases k3:v.tok.kind=6
            · have g3:=eq_true k3
              simp -implicitDefEqProofs only [f1,hv,g1,g2,g3,go_sem,seval]
              simp [pI,Cb,k1,k3]
            · have g3:=eq_false k3
              simp -implicitDefEqProofs only [f1,hv,g1,g2,g3,go_sem,seval]
              simp [pI,Cb,k1,k2,k3]
        · have g1:=eq_false k1
          simp -implicitDefEqProofs only [f1,hv,g1,go_sem,seval]
          simp [pI,Cb,k1]
      · have f1:=eq_false (show ¬ ((c.length:Int)=1) by omega)
        simp -implicitDefEqProofs only [f1,go_sem,seval]
        rw [if_neg l1];rfl
    · have fn:(d.name=[102,111,110,116,45,102,97,109,105,108,121])=False:=eq_false hn
      have hnb:(d.name == LJ)=false:=by simp [hn]
      rw [hnb] at hsn
      simp -implicitDefEqProofs only [fn,w1,go_sem,seval]
      exact ⟨i - 1,by omega,rfl,by omega,by rw [h2,hsn];rfl⟩
  · have hge:((i:Int) - 1 ≥ 0)=False:=eq_false (by omega)
    have hi:i=0:=by omega
    subst hi
    simp -implicitDefEqProofs only [hge,go_sem,seval]
    rw [h2];rfl
end W15
