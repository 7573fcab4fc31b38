/- strings.Replacer: buildOnce in every state; Do; Replace. -/
import Derived.Test.YtdeclhljkmlpiaaGreatTxA
import Derived.Test.YtdeclhljkmlpiaaGreatAxE
import Derived.Test.YtdeclhljkmlpiaaGreatTxO
import Derived.Test.YtdeclhljkmlpiaaGreatTxB
set_option linter.unusedSimpArgs false
set_option linter.unusedVariables false
namespace W10
open Go Go.AX Go.Proofs
theorem ND {o:pX} {y:AV} (h:Jp o=some y):∃ s v ps,o=.val (.tup []) s ∧ s.get 1=some (.cells 1 (Cc v) false) ∧ gL s.get 12 v=some (y,ps) ∧ ∀ p ∈ ps,p.1 ≠ 1:=by
  unfold Jp at h
  split at h
  · rename_i s
    split at h
    · rename_i v hg
      split at h
      · rename_i y' ps hv
        split at h
        · rename_i hp
          simp only [Option.some.injEq] at h;subst h
          refine ⟨s,v,ps,rfl,hg,hv,fun p hp' he=>?_⟩
          have:=List.all_eq_true.1 hp p hp'
          simp [he] at this
        · simp at h
      · simp at h
    · simp at h
  · simp at h
theorem X0 {ss:List AV} {y:AV} (h:Jp (OD ss)=some y) (hy:y.one=true) :
    aF Tryz.prog 88 [.ptr 1 1 0] ⟨TS ss,2⟩ fun v s'=>v=.tup [] ∧ s'.get 1=some (.cells 1 (Cc y) false):=by
  obtain ⟨s1,v,ps,e1,e2,e3,e4⟩:=ND h
  have h0:=Hy mix Y7 Y4 e1
  refine (h0.JG (i:=3) e2 rfl e3 e4 hy).mono fun v' s' ⟨h1,h2⟩=>⟨h1,?_⟩
  subst h2
  have hg:(s1.puts ps).get 1=some (.cells 1 (Cc v) false):=by rw [Af ps s1 e4];exact e2
  rw [St.get_put hg,if_pos rfl]
  rfl
theorem Uf {ss:List AV} {y:AV} (h:Jp (OD ss)=some y) (hy:y.one=true) (hfl:flat y=true) (hss:aI ss=true) {s:St} {m:Nat} (hm:m + 2 ≤ s.next)
    (g0:s.get m=some (.cells 17 ss false)) (g1:s.get (m + 1)=some (.cells 1 (H8 m) false)) :
    aF Tryz.prog 88 [.ptr (m + 1) 1 0] s fun v s'=>v=.tup [] ∧ s.next ≤ s'.next ∧ s'.get (m + 1)=some (.cells 1 (Cc y) false) ∧ ∀ id,id < s.next → ¬ (m ≤ id ∧ id < m + 2) → s'.get id=s.get id:=by
  have hs:=(X0 h hy).shift (fun id o ho=>by
    simp only [TS,AX.look] at ho
    split at ho
    · omega
    · split at ho
      · omega
      · simp at ho) (s:=s) (m:=m) hm (fun id o ho=>by
    simp only [TS,AX.look] at ho
    split at ho
    · rename_i e;subst e
      simp only [Option.some.injEq] at ho;subst ho
      rw [g1]
      simp only [Obj.ren,H8,AV.jW,AV.ren,mK,if_pos (show 0 < 2 by omega),Nat.add_zero]
    · split at ho
      · rename_i e;subst e
        simp only [Option.some.injEq] at ho;subst ho
        rw [Nat.add_zero,g0]
        simp only [Obj.ren,jV _ _ hss]
      · simp at ho)
  have ea:AV.jW (mK m s.next 2) [.ptr 1 1 0]=[.ptr (m + 1) 1 0]:=by simp [AV.jW,AV.ren,mK]
  rw [ea] at hs
  refine hs.mono fun v s' ⟨v0,s0,⟨h1,h2⟩,h3,h4,h5,h6,h7⟩=>⟨by rw [h3,h1];rfl,by omega,?_,h7⟩
  have:=h6 1 _ h2
  have e1:mK m s.next 2 1=m + 1:=by simp [mK]
  rw [e1] at this
  rw [this]
  simp only [Obj.ren,Cc,AV.jW,AV.ren,BA _ _ hfl]
theorem Es {c:Ctx} {s:St} {w:World} (h:Sat c s w) {b e i k z:Nat} {cs:List AV} {x:AV} {u:Value} (hg:s.get b=some (.cells e cs false)) (hσ:c.σ b e=some (k,z)) (hi:i < cs.length) (hr:aD c x u) (hu:u.oneCell'=true) :
    ∃ c',Sat c' (s.put b (.cells e (cs.set i x) false)) (w.setCell ⟨k,i,none⟩ u) ∧ Ext c s w c' (s.put b (.cells e (cs.set i x) false)) (w.setCell ⟨k,i,none⟩ u):=by
  obtain ⟨k0,z0,arr,el,fr,g1,g2,g3,g4,g5,g6,g7⟩:=h.block hg
  rw [hσ] at g1;simp only [Option.some.injEq,Prod.mk.injEq] at g1;obtain ⟨rfl,rfl⟩:=g1
  obtain ⟨c2,r1,r2,_⟩:=h.inPlace (w':=w.setCell ⟨k,i,none⟩ u) hg hσ g2 (e':=e) (cs':=cs.set i x) (seen':=false) (arr':=arr.setIfInBounds i u) (by simpa using g3) (by simpa using g4) (fun j x' hx'=>by
    by_cases hij:i=j
    · subst hij
      rw [List.getElem?_set_self hi] at hx'
      simp only [Option.some.injEq] at hx';subst hx'
      exact ⟨u,by rw [Array.getElem?_setIfInBounds,if_pos rfl,if_pos (by omega)],hu,hr⟩
    · rw [List.getElem?_set_ne hij] at hx'
      obtain ⟨u',a1,a2,a3⟩:=g6 j x' hx'
      exact ⟨u',by rw [Array.getElem?_setIfInBounds,if_neg hij];exact a1,a2,a3⟩) (fun j u hu=>by rw [g7] at hu;simp at hu) (.inl rfl) (lT e) (W10.heap_setCell g2) ⟨rfl,rfl,rfl⟩
  exact ⟨c2,r1,r2⟩
theorem yj {c:Ctx} {s:St} {w:World} (h:Sat c s w) {b e k z:Nat} {cs:List AV} {seen:Bool} (hg:s.get b=some (.cells e cs seen)) (hσ:c.σ b e=some (k,z)) {i:Nat} {x:AV} (hx:cs[i]? = some x) :
    ∃ u,w.cell? ⟨k,i,none⟩=some u ∧ aD c x u ∧ w.frozen? ⟨k,i,none⟩=false:=by
  obtain ⟨k0,z0,arr,el,fr,g1,g2,g3,g4,g5,g6,g7⟩:=h.block hg
  rw [hσ] at g1;simp only [Option.some.injEq,Prod.mk.injEq] at g1;obtain ⟨rfl,rfl⟩:=g1
  obtain ⟨u,a1,a2,a3⟩:=g6 i x hx
  have hi:i < cs.length:=(List.getElem?_eq_some_iff.1 hx).1
  refine ⟨u,by rw [cell_of_block g2];exact a1,a3,?_⟩
  have:=g5 i (by omega)
  simp [World.frozen?,g2]
  intro h;omega
theorem Fz:jA Tryz.prog 87:=⟨_,Tryz.func87,by kernel_rfl,by kernel_rfl⟩
def pY (m:Nat):List AV:=[.int .u32 0,.int .i32 0,.int .u32 0,.nili,.sl m 17 0 8 1]
def DY (v:AV):List AV:=[.int .u32 1,.int .i32 0,.int .u32 0,v,.nils]
theorem YL {ss:List AV} {y:AV} (h:Jp (OD ss)=some y) (hy:y.one=true) (hfl:flat y=true) (hss:aI ss=true) {s:St} {m:Nat} (hm:m + 2 ≤ s.next)
    (g0:s.get m=some (.cells 17 ss false)) (g1:s.get (m + 1)=some (.cells 1 (pY m) false)) :
    aF Tryz.prog 87 [.ptr (m + 1) 1 0,.fn (.func 88) [.ptr (m + 1) 1 0] []] s fun v s'=>v=.tup [] ∧ s.next ≤ s'.next ∧ s'.get (m + 1)=some (.cells 1 (DY y) false) ∧ ∀ id,id < s.next → ¬ (m ≤ id ∧ id < m + 2) → s'.get id=s.get id:=by
  refine ⟨Fz,fun c w vs hs hr=>?_⟩
  simp only [aB,aD] at hr
  obtain ⟨u,us,rfl,⟨k,z,hσ,rfl⟩,u2,us2,rfl,⟨as0,bs0,rfl,⟨u3,us3,rfl,⟨k3,z3,hσ3,rfl⟩,rfl⟩,rfl⟩,rfl⟩:=hr
  rw [hσ] at hσ3;simp only [Option.some.injEq,Prod.mk.injEq] at hσ3;obtain ⟨rfl,rfl⟩:=hσ3
  obtain ⟨u0,a0,r0,f0⟩:=yj hs g1 hσ (i:=0) rfl
  obtain ⟨u1,a1,r1,f1⟩:=yj hs g1 hσ (i:=1) rfl
  simp only [aD] at r0 r1
  subst r0;subst r1
  obtain ⟨c1,q1,q2⟩:=Es hs (i:=1) (x:=.int .i32 1) (u:=.int .i32 1) g1 hσ (by simp [pY]) rfl rfl
  have e1:(pY m).set 1 (.int .i32 1)=H8 m:=rfl
  rw [e1] at q1 q2
  have p0:(s.put (m + 1) (.cells 1 (H8 m) false)).get m=some (.cells 17 ss false):=by rw [St.get_put g1,if_neg (by omega)];exact g0
  have p1:(s.put (m + 1) (.cells 1 (H8 m) false)).get (m + 1)=some (.cells 1 (H8 m) false):=by rw [St.get_put g1,if_pos rfl]
  have hb:=(Uf h hy hfl hss (s:=s.put (m + 1) (.cells 1 (H8 m) false)) hm p0 p1).2 c1 (w.setCell ⟨k,1,none⟩ (.int .i32 1)) [.pointer (some ⟨k,0,none⟩)] q1 ⟨_,[],rfl,⟨k,z,q2.le.1 _ _ _ hσ,rfl⟩,rfl⟩
  let S:World → Prop:=fun w'=>∃ c2 s2,Sat c2 s2 w' ∧ Ext c s w c2 s2 w' ∧ s.next ≤ s2.next ∧ s2.get (m + 1)=some (.cells 1 (Cc y) false) ∧ ∀ id,id < s.next → ¬ (m ≤ id ∧ id < m + 2) → s2.get id=s.get id
  have ho:=Jz k 0 (.pointer (some ⟨k,0,none⟩)) S w a0 a1 f0 f1 (hb.mono fun e w' ⟨v,u,c2,s2,h1,h2,h3,h4,h5,h6,h7,h8⟩=>by
    subst h5
    simp only [aD,aB] at h2
    obtain ⟨us,rfl,rfl⟩:=h2
    refine ⟨h1,c2,s2,h3,q2.trans h4,h6,h7,fun id i1 i2=>?_⟩
    rw [h8 id i1 i2,St.get_put g1,if_neg (by omega)]) (fun w' ⟨c2,s2,k1,k2,k3,k4,k5⟩=>by
    have hσ2:=k2.le.1 _ _ _ hσ
    obtain ⟨v0,b0,t0,d0⟩:=yj k1 k4 hσ2 (i:=0) rfl
    obtain ⟨v1,b1,t1,d1⟩:=yj k1 k4 hσ2 (i:=1) rfl
    simp only [aD] at t0 t1
    subst t0;subst t1
    exact ⟨b0,b1,d0,d1⟩)
  refine ho.mono fun e w' ⟨h1,w1,⟨c2,s2,k1,k2,k3,k4,k5⟩,h2⟩=>?_
  subst h2
  have hσ2:=k2.le.1 _ _ _ hσ
  obtain ⟨x1,x2⟩:=k1.sameHeap (w':=w1.drew) rfl ⟨rfl,rfl,rfl⟩
  obtain ⟨c3,y1,y2⟩:=Es x1 (i:=0) (x:=.int .u32 1) (u:=.int .u32 1) k4 hσ2 (by simp [Cc]) rfl rfl
  have k4':(s2.put (m + 1) (.cells 1 ((Cc y).set 0 (.int .u32 1)) false)).get (m + 1)=some (.cells 1 ((Cc y).set 0 (.int .u32 1)) false):=by rw [St.get_put k4,if_pos rfl]
  obtain ⟨c4,z1,z2⟩:=Es y1 (i:=1) (x:=.int .i32 0) (u:=.int .i32 0) k4' (y2.le.1 _ _ _ hσ2) (by simp [Cc]) rfl rfl
  refine ⟨.tup [],.tuple #[],c4,_,h1,by simp [aD,aB],z1,((k2.trans x2).trans y2).trans z2,rfl,k3,?_,fun id i1 i2=>?_⟩
  · rw [St.get_put k4',if_pos rfl];rfl
  · rw [St.get_put k4',if_neg (by omega),St.get_put k4,if_neg (by omega)]
    exact k5 id i1 i2
end W10
/- tags.plain, tags.signs; strings.Replacer's Replace. -/
namespace W10
open Go Go.AX Go.Proofs
theorem Rh {h:List (Nat × AX.Obj)} {n b:Nat} {ss:List AV} (hb:AX.look b h=some (.cells 17 ss false)) (hl:ss.length=8) :
    aF Tryz.prog 86 [.sl b 17 0 8 1] ⟨h,n⟩ fun v s'=>v=.ptr (n + 1) 1 0 ∧ s'=⟨(n + 1,.cells 1 (pY n) false) :: (n,.cells 17 ss false) :: h,n + 2⟩:=by
  refine bE mix (dx _) c86 (by kernel_rfl) (Nat.le_of_ble_eq_true (by kernel_rfl)) ?_
  have h1:(8 ≤ ss.length)=True:=eq_true (by omega)
  have h2:List.take 8 ss=ss:=List.take_of_length_le (by omega)
  simp -implicitDefEqProofs only [F86,hb,hl,h1,h2,Nat.mul_one,Nat.le_refl,go_sem,seval]
  rfl
theorem Sr (h:List (Nat × AX.Obj)) (n:Nat):aF Tryz.prog 83 [] ⟨h,n⟩ fun v s'=>v=.ptr (n + 2) 1 0 ∧ s'=⟨(n + 2,.cells 1 (pY (n + 1)) false) :: (n + 1,.cells 17 Wo false) :: (n,.cells 17 Wo false) :: h,n + 3⟩:=by
  refine bE mix (dx _) c83 (by kernel_rfl) (Nat.le_of_ble_eq_true (by kernel_rfl)) ?_
  simp -implicitDefEqProofs only [F83,go_sem,seval]
  refine eH (Rh (b:=n) (n:=n + 1) (ss:=Wo) (h:=(n,.cells 17 Wo false) :: h) (by simp [AX.look]) rfl) ?_
  simp -implicitDefEqProofs only [go_sem,seval]
theorem Ra (h:List (Nat × AX.Obj)) (n:Nat):aF Tryz.prog 66 [] ⟨h,n⟩ fun v s'=>v=.ptr (n + 2) 1 0 ∧ s'=⟨(n + 2,.cells 1 (pY (n + 1)) false) :: (n + 1,.cells 17 EB false) :: (n,.cells 17 EB false) :: h,n + 3⟩:=by
  refine bE mix (dx _) c66 (by kernel_rfl) (Nat.le_of_ble_eq_true (by kernel_rfl)) ?_
  simp -implicitDefEqProofs only [F66,go_sem,seval]
  refine eH (Rh (b:=n) (n:=n + 1) (ss:=EB) (h:=(n,.cells 17 EB false) :: h) (by simp [AX.look]) rfl) ?_
  simp -implicitDefEqProofs only [go_sem,seval]
def pR (s:St) (m:Nat) (y:AV):St:=(s.put (m + 1) (.cells 1 (DY y) false)).hide [m]
theorem Yv {f:FuncId} {args:List AV} {s:St} {m:Nat} {ss:List AV} {y res:AV} (hfl:aI (DY y)=true) (g0:s.get m=some (.cells 17 ss false)) (g1:s.get (m + 1)=some (.cells 1 (pY m) false))
    (h:aF Tryz.prog f args s fun v s'=>v=res ∧ s'.get (m + 1)=some (.cells 1 (DY y) false) ∧ ∀ id,id < s.next → ¬ (m ≤ id ∧ id < m + 2) → s'.get id=s.get id) (hres:flat res=true) :
    aF Tryz.prog f args s fun v s'=>v=res ∧ s'=pR s m y:=by
  refine aF.fin ?_
  refine h.mono fun v s' ⟨h1,h2,h3⟩=>⟨by rw [h1];exact DZ _ _ hres,pR s m y,rfl,fun id o ho=>?_,fun id o hid ho=>?_,h1,rfl⟩
  · simp only [pR] at ho
    rw [St.fD] at ho
    split at ho
    · simp at ho
    · rw [St.get_put g1] at ho
      split at ho
      · rename_i e;subst e;exact ⟨_,g1⟩
      · exact ⟨_,ho⟩
  · simp only [pR] at ho
    rw [St.fD] at ho
    split at ho
    · simp at ho
    · rename_i hn
      have hn':id ≠ m:=fun e=>hn (by simp [e])
      rw [St.get_put g1] at ho
      split at ho
      · rename_i e;subst e
        refine ⟨by rw [h2];exact ho,.inr ?_⟩
        simp only [Option.some.injEq] at ho;subst ho
        exact kW _ _ hfl
      · rename_i hne
        exact ⟨by rw [h3 id hid (by omega)];exact ho,.inl ho⟩
theorem SF {s:St} {m:Nat} (x:List UInt8) (hx:x.length ≤ 1000000000) (hm:m + 2 ≤ s.next) (g0:s.get m=some (.cells 17 Wo false)) (g1:s.get (m + 1)=some (.cells 1 (pY m) false)) :
    aF Tryz.prog 67 [.ptr (m + 1) 1 0,.str x] s fun v s'=>v=.str (bN x) ∧ s'=pR s m (.ifc 147 GP):=by
  refine Yv (by kernel_rfl) g0 g1 ?_ rfl
  have hD:=YL WW rfl (by kernel_rfl) (by kernel_rfl) hm g0 g1
  refine bE mix (dx _) c67 (by kernel_rfl) (Nat.le_of_ble_eq_true (by kernel_rfl)) ?_
  simp -implicitDefEqProofs only [F67,go_sem,seval]
  refine aH (hD.mono fun v s2 ⟨h1,h2,h3,h4⟩=>?_)
  subst h1
  obtain ⟨g2,n2⟩:=s2
  have h3':AX.look (m + 1) g2=some (.cells 1 (DY (.ifc 147 GP)) false):=h3
  have hv:view (St.get ⟨g2,n2⟩) GP=some (GP,[]):=by kernel_rfl
  simp -implicitDefEqProofs only [h3',DY,hv,go_sem,seval]
  refine ak (Ub x hx) ?_
  simp -implicitDefEqProofs only [go_sem,seval]
  exact ⟨h3',h4⟩
theorem Vg {s:St} {m:Nat} (x:List UInt8) (hx:x.length ≤ 1000000000) (hm:m + 2 ≤ s.next) (g0:s.get m=some (.cells 17 EB false)) (g1:s.get (m + 1)=some (.cells 1 (pY m) false)) :
    aF Tryz.prog 67 [.ptr (m + 1) 1 0,.str x] s fun v s'=>v=.str (aG x) ∧ s'=pR s m (.ifc 155 SG):=by
  refine Yv (by kernel_rfl) g0 g1 ?_ rfl
  have hD:=YL XI rfl (by kernel_rfl) (by kernel_rfl) hm g0 g1
  refine bE mix (dx _) c67 (by kernel_rfl) (Nat.le_of_ble_eq_true (by kernel_rfl)) ?_
  simp -implicitDefEqProofs only [F67,go_sem,seval]
  refine aH (hD.mono fun v s2 ⟨h1,h2,h3,h4⟩=>?_)
  subst h1
  obtain ⟨g2,n2⟩:=s2
  have h3':AX.look (m + 1) g2=some (.cells 1 (DY (.ifc 155 SG)) false):=h3
  have hv:view (St.get ⟨g2,n2⟩) SG=some (SG,[]):=by kernel_rfl
  simp -implicitDefEqProofs only [h3',DY,hv,go_sem,seval]
  refine ak (Ug x hx) ?_
  simp -implicitDefEqProofs only [go_sem,seval]
  exact ⟨h3',h4⟩
end W10
/- The scanner: small letters. -/
namespace W10
open Go Go.AX Go.AX.Ty Go.Proofs
def uO (c:UInt8):UInt8:=if 65 ≤ c.toNat ∧ c.toNat ≤ 90 then UInt8.ofNat (c.toNat + 32) else c
def aK (s:Str):Str:=s.map uO
def Cn (s:Str) (k:Nat):Str:=(s.take k).map uO ++ s.drop k
theorem QJ {n:Int} (h:0 ≤ n) (h2:n < 256):IntKind.u8.wrap n=n:=by
  show n % 256=n
  omega
theorem WE {α:Type} {l:List α} {k:Nat} {x:α} (h:k < l.length):l.set k x=l.take k ++ x :: l.drop (k + 1):=by
  rw [List.set_eq_take_append_cons_drop,if_pos h]
theorem Qk {α:Type} {l:List α} {k:Nat} {x:α} (h:l[k]? = some x):l.drop k=x :: l.drop (k + 1):=by
  have hk:=(List.getElem?_eq_some_iff.1 h).1
  rw [List.drop_eq_getElem_cons hk];congr 1;rw [List.getElem?_eq_getElem hk] at h;exact Option.some.inj h
theorem Zn (s:Str):Cn s 0=s:=by simp [Cn]
theorem EY (s:Str) (k:Nat):(Cn s k).length=s.length:=by simp [Cn];omega
theorem WC {s:Str} {k:Nat} {c:UInt8} (h:s[k]? = some c):(aQ (Cn s k))[k]? = some (.int .u8 c.toNat):=by
  have hk:k < s.length:=(List.getElem?_eq_some_iff.1 h).1
  have e:(Cn s k)[k]? = some c:=by
    unfold Cn
    rw [List.getElem?_append_right (by simp;omega)]
    simp [Nat.min_eq_left (Nat.le_of_lt hk),h]
  simp [aQ,e]
theorem O1 {s:Str} {k:Nat} {c:UInt8} (h:s[k]? = some c):(aQ (Cn s k)).set k (.int .u8 (uO c).toNat)=aQ (Cn s (k + 1)):=by
  have hk:k < s.length:=(List.getElem?_eq_some_iff.1 h).1
  have hc:s[k]=c:=by rw [List.getElem?_eq_getElem hk] at h;exact Option.some.inj h
  have e:Cn s (k + 1)=(Cn s k).set k (uO c):=by
    unfold Cn
    rw [List.set_append_right _ _ (by simp;omega),List.take_add_one,h]
    simp only [Option.toList_some,List.map_append,List.map_cons,List.map_nil,List.append_assoc,List.cons_append,List.nil_append,List.length_map,List.length_take,Nat.min_eq_left (Nat.le_of_lt hk),Nat.sub_self]
    rw [List.drop_eq_getElem_cons hk,List.set_cons_zero]
  rw [e];simp [aQ,List.map_set]
theorem FK {s:Str} {k:Nat} {c:UInt8} (h:s[k]? = some c) (he:uO c=c):Cn s k=Cn s (k + 1):=by
  have hk:k < s.length:=(List.getElem?_eq_some_iff.1 h).1
  have hc:s[k]=c:=by rw [List.getElem?_eq_getElem hk] at h;exact Option.some.inj h
  unfold Cn
  rw [List.take_add_one,h,List.drop_eq_getElem_cons hk,hc]
  simp [he]
theorem Vo (s:Str) {k:Nat} (h:s.length ≤ k):Cn s k=aK s:=by simp [Cn,aK,List.take_of_length_le h,List.drop_of_length_le h]
theorem x8 (s:Str) (hs:s.length ≤ 1000000000):bB Tryz.prog 59 [.str s] (.str (aK s)):=by
  refine bf mix c59 (by kernel_rfl) (by kernel_rfl) (by simp [aI,au,Go.AX.flat]) (by first | exact au _ | simp [flat,aI,au]) ?_
  have hle:(s.length ≤ 140737488355328)=True:=eq_true (by omega)
  simp -implicitDefEqProofs only [F59,hle,go_sem,seval]
  refine bA (fun k:Nat=>s.length - k) (fun k=>[(3,.sl 0 (2 * s.length + 1) 0 s.length 1),(8,.sl 0 (2 * s.length + 1) 0 s.length 1),(9,.int .i64 s.length),(10,.int .i64 k)])
    (fun k st=>st=⟨[(0,.cells (2 * s.length + 1) (aQ (Cn s k)) false)],1⟩ ∧ k ≤ s.length) 0 ?_ ?_
  · simp -implicitDefEqProofs only [Zn,go_sem,seval]
  rintro k ρ st ⟨rfl,n1⟩
  have w1:IntKind.i64.wrap ((k:Int) + 1)=((k + 1:Nat):Int):=by rw [wrap64 (by omega) (by omega)];omega
  rcases Nat.lt_or_ge k s.length with hn | hn
  · obtain ⟨c,hc⟩:∃ c,s[k]? = some c:=⟨s[k],by simp [hn]⟩
    have h2:((k:Int) < (s.length:Int))=True:=eq_true (by omega)
    have hx:=WC hc
    have hkn:=eq_true hn
    have hkl:(k ≤ (aQ (Cn s k)).length)=True:=eq_true (by rw [bO,EY];omega)
    have hkl':k < (aQ (Cn s k)).length:=by rw [bO,EY];exact hn
    have hdr:=Qk hx
    have hst:=O1 hc
    have hlt:(k + 1 ≤ (aQ (Cn s k)).length)=True:=eq_true (by rw [bO,EY];exact hn)
    by_cases hA:(65:Int) ≤ (c.toNat:Int)
    · by_cases hZ:(c.toNat:Int) ≤ 90
      · have e:uO c=UInt8.ofNat (c.toNat + 32):=by unfold uO;rw [if_pos (by omega)]
        have hA':=eq_true hA
        have hZ':=eq_true hZ
        have w2:IntKind.u8.wrap ((c.toNat:Int) + 97)=((c.toNat + 97:Nat):Int):=by rw [QJ (by omega) (by omega)];omega
        have w3:IntKind.u8.wrap (((c.toNat + 97:Nat):Int) - 65)=((uO c).toNat:Int):=by rw [e,UInt8.toNat_ofNat',QJ (by omega) (by omega)];omega
        simp -implicitDefEqProofs only [h2,hkn,hkl,hdr,hA',hZ',w2,w3,hlt,hst,w1,go_sem,seval]
        exact ⟨k + 1,by omega,rfl,by rw [List.append_assoc,List.cons_append,List.nil_append,← WE hkl',hst],by omega⟩
      · have hA':=eq_true hA
        have hZ':=eq_false hZ
        have e:uO c=c:=by unfold uO;rw [if_neg (by omega)]
        rw [e] at hst
        simp -implicitDefEqProofs only [h2,hkn,hkl,hdr,hA',hZ',hlt,hst,w1,go_sem,seval]
        exact ⟨k + 1,by omega,rfl,by rw [FK hc e],by omega⟩
    · have hA':=eq_false hA
      have e:uO c=c:=by unfold uO;rw [if_neg (by omega)]
      simp -implicitDefEqProofs only [h2,hkn,hkl,hdr,hA',hlt,hst,w1,go_sem,seval]
      exact ⟨k + 1,by omega,rfl,by rw [FK hc e],by omega⟩
  · have h2:((k:Int) < (s.length:Int))=False:=eq_false (by omega)
    have hsm:(aK s).length=s.length:=by simp [aK]
    have e1:(s.length ≤ (aQ (aK s)).length)=True:=eq_true (by rw [bO,hsm];exact Nat.le_refl _)
    have e2:List.take s.length (aQ (aK s))=aQ (aK s):=List.take_of_length_le (by rw [bO,hsm];exact Nat.le_refl _)
    have e3:=nI (aK s)
    simp -implicitDefEqProofs only [h2,Vo s hn,e1,e2,e3,go_sem,seval]
end W10
/- What the scanner computes, in plain words. -/
namespace W10
open Go Go.AX Go.AX.Ty
def bH:Str:=[115,116,121,108,101]
def iV:Str:=[60,47,115,116,121,108,101]
def l6 (x:Str):Tag:=⟨3,[],[],x⟩
def bJ (x:Str):Tag:=⟨2,x,[],[]⟩
def dY (x:Str) (al:List Ty.Attr):Tag:=⟨1,x,al,[]⟩
def nX (x:Str):List Tag:=if x=[] then [] else [l6 x]
def jT (t:Str):Str × Str:=
  if (hasB t [34] || hasB t [39])=true then (bN (dS (t.take 1) (t.drop 1)),bT (t.take 1) (t.drop 1)) else (bN (t.takeWhile jG),t.dropWhile jG)
def bK (t:Str):Ty.Attr × Str:=
  if hasB ((t.dropWhile aN).dropWhile aT) [61]=true then
    (⟨aK (t.takeWhile aN),(jT ((((t.dropWhile aN).dropWhile aT).drop 1).dropWhile aT)).1⟩,(jT ((((t.dropWhile aN).dropWhile aT).drop 1).dropWhile aT)).2)
  else (⟨aK (t.takeWhile aN),[]⟩,t.dropWhile aN)
def uE (al:List Ty.Attr) (a:Ty.Attr):List Ty.Attr:=if (al.any fun x=>decide (x.name=a.name))=false ∧ al.length < 16 then al ++ [a] else al
def qd:Nat → List Ty.Attr → Str → List Ty.Attr × Str
  | 0,al,s=>(al,s)
  | n + 1,al,[]=>(al,[])
  | n + 1,al,c :: r=>if c=62 then (al,r) else if aN c=false then qd n al r else qd n (uE al (bK (c :: r)).1) (bK (c :: r)).2
def dO (al:List Ty.Attr) (s:Str):List Ty.Attr × Str:=qd s.length al s
def cZ (t:Str):Tag × Str:=
  (dY (aK ((t.drop 1).take (aC (t.drop 1)))) (dO [] ((t.drop 1).drop (aC (t.drop 1)))).1,(dO [] ((t.drop 1).drop (aC (t.drop 1)))).2)
def zZ:Str → Bool
  | []=>true
  | c :: _=>aT c || c == 47 || c == 62
def gD:Str → Nat
  | []=>0
  | c :: r=>if (hasB (c :: r) iV && zZ ((c :: r).drop 7))=true then 0 else gD r + 1
def dJ (t:Str):Nat:=gD (aK t)
def fV:Str → Nat
  | []=>0
  | c :: r=>if pJ (c :: r)=true then 0 else fV r + 1
def cK (t:Str):List Tag × Str:=
  if hasB t [60,33,45,45]=true then ([],bT [45,45,62] (t.drop 4))
  else if hasB t [60,33]=true then ([],bT [62] t)
  else if hasB t [60,47]=true ∧ 0 < aC (t.drop 2) then ([bJ (aK ((t.drop 2).take (aC (t.drop 2))))],bT [62] ((t.drop 2).drop (aC (t.drop 2))))
  else if hasB t [60]=true ∧ 0 < aC (t.drop 1) then
    if (cZ t).1.name=bH then ((cZ t).1 :: nX ((cZ t).2.take (dJ (cZ t).2)),(cZ t).2.drop (dJ (cZ t).2)) else ([(cZ t).1],(cZ t).2)
  else (nX (bN (t.take (1 + fV (t.drop 1)))),t.drop (1 + fV (t.drop 1)))
def J6:Nat → Str → List Tag
  | 0,_=>[]
  | n + 1,[]=>[]
  | n + 1,c :: r=>(cK (c :: r)).1 ++ J6 n (cK (c :: r)).2
def dB (s:Str):List Tag:=J6 s.length s
theorem Gv {p:UInt8 → Bool} (t:Str):t.takeWhile p ++ t.dropWhile p=t:=List.takeWhile_append_dropWhile
theorem kM {p:UInt8 → Bool} (t:Str):(t.dropWhile p).length ≤ t.length:=by
  have:=congrArg List.length (Gv (p:=p) t);rw [List.length_append] at this;omega
theorem Qe {p:UInt8 → Bool} (t:Str):(t.takeWhile p).length ≤ t.length:=by
  have:=congrArg List.length (Gv (p:=p) t);rw [List.length_append] at this;omega
theorem UW {e:Str} (he:e ≠ []) (c:UInt8) (r:Str):(bT e (c :: r)).length < (c :: r).length:=by
  simp only [bT]
  split
  · cases e with
    | nil=>exact absurd rfl he
    | cons x y=>simp;omega
  · have:=lI (e:=e) r;simp;omega
theorem TA (t:Str):(jT t).2.length ≤ t.length:=by
  unfold jT
  split
  · have:=lI (e:=t.take 1) (t.drop 1)
    simp only [List.length_drop] at this;simp only;omega
  · exact kM t
theorem lJ {c:UInt8} {r:Str} (h:aN c=true):(bK (c :: r)).2.length < (c :: r).length:=by
  have h0:((c :: r).dropWhile aN).length ≤ r.length:=by rw [List.dropWhile_cons,if_pos h];exact kM r
  unfold bK
  split
  · have h1:=kM (p:=aT) ((c :: r).dropWhile aN)
    have h2:=kM (p:=aT) ((((c :: r).dropWhile aN).dropWhile aT).drop 1)
    have h3:=TA ((((c :: r).dropWhile aN).dropWhile aT).drop 1 |>.dropWhile aT)
    simp only [List.length_drop] at h2
    simp only [List.length_cons] at *
    omega
  · simp only [List.length_cons];omega
theorem vI:∀ (n m:Nat) (al:List Ty.Attr) (s:Str),s.length ≤ n → s.length ≤ m → qd n al s=qd m al s
  | 0,0,al,s,h,h2=>rfl
  | 0,m + 1,al,[],h,h2=>rfl
  | n + 1,0,al,[],h,h2=>rfl
  | n + 1,m + 1,al,[],h,h2=>rfl
  | n + 1, m + 1, al, c :: r, h, h2 => by
    simp only [List.length_cons] at h h2
    simp only [qd]
    by_cases h3:c=62
    · rw [if_pos h3,if_pos h3]
    rw [if_neg h3,if_neg h3]
    by_cases h4:aN c=false
    · rw [if_pos h4,if_pos h4,vI n m al r (by omega) (by omega)]
    rw [if_neg h4,if_neg h4]
    have hl:=lJ (r:=r) (by simpa using h4)
    simp only [List.length_cons] at hl
    exact vI n m _ _ (by omega) (by omega)
theorem iY (al:List Ty.Attr):dO al []=(al,[]):=rfl
theorem bR (al:List Ty.Attr) (c:UInt8) (r:Str):dO al (c :: r)=if c=62 then (al,r) else if aN c=false then dO al r else dO (uE al (bK (c :: r)).1) (bK (c :: r)).2:=by
  show qd (r.length + 1) al (c :: r)=_
  simp only [qd]
  by_cases h3:c=62
  · rw [if_pos h3,if_pos h3]
  rw [if_neg h3,if_neg h3]
  by_cases h4:aN c=false
  · rw [if_pos h4,if_pos h4];rfl
  rw [if_neg h4,if_neg h4]
  have hl:=lJ (r:=r) (by simpa using h4)
  simp only [List.length_cons] at hl
  exact vI _ _ _ _ (by omega) (Nat.le_refl _)
theorem wG:∀ (n:Nat) (al:List Ty.Attr) (s:Str),s.length ≤ n → (dO al s).2.length ≤ s.length
  | n,al,[],h=>by simp [iY]
  | n + 1, al, c :: r, h => by
    rw [bR]
    simp only [List.length_cons] at h
    by_cases h3:c=62
    · rw [if_pos h3];simp
    rw [if_neg h3]
    by_cases h4:aN c=false
    · rw [if_pos h4];have:=wG n al r (by omega);simp;omega
    rw [if_neg h4]
    have hl:=lJ (r:=r) (by simpa using h4)
    simp only [List.length_cons] at hl ⊢
    have:=wG n (uE al (bK (c :: r)).1) (bK (c :: r)).2 (by omega)
    omega
theorem Fv (t:Str):(cZ t).2.length ≤ t.length - 1:=by
  unfold cZ
  have:=wG _ [] ((t.drop 1).drop (aC (t.drop 1))) (Nat.le_refl _)
  simp only [List.length_drop] at this ⊢
  omega
theorem nk (c:UInt8) (r:Str):(cK (c :: r)).2.length < (c :: r).length:=by
  unfold cK
  split
  · have:=lI (e:=[45,45,62]) ((c :: r).drop 4)
    simp only [List.length_drop,List.length_cons] at this ⊢;omega
  split
  · exact UW (by simp) c r
  split
  · have:=lI (e:=[62]) (((c :: r).drop 2).drop (aC ((c :: r).drop 2)))
    simp only [List.length_drop,List.length_cons] at this ⊢;omega
  split
  · have h:=Fv (c :: r)
    simp only [List.length_cons] at h ⊢
    split
    · simp only [List.length_drop];omega
    · simp only;omega
  · simp only [List.length_drop,List.length_cons];omega
theorem KS:∀ (n m:Nat) (s:Str),s.length ≤ n → s.length ≤ m → J6 n s=J6 m s
  | 0,0,s,h,h2=>rfl
  | 0,m + 1,[],h,h2=>rfl
  | n + 1,0,[],h,h2=>rfl
  | n + 1,m + 1,[],h,h2=>rfl
  | n + 1, m + 1, c :: r, h, h2 => by
    simp only [List.length_cons] at h h2
    simp only [J6]
    have hl:=nk c r
    simp only [List.length_cons] at hl
    rw [KS n m _ (by omega) (by omega)]
theorem uX:dB []=[]:=rfl
theorem vX (c:UInt8) (r:Str):dB (c :: r)=(cK (c :: r)).1 ++ dB (cK (c :: r)).2:=by
  show J6 (r.length + 1) (c :: r)=_
  simp only [J6]
  have hl:=nk c r
  simp only [List.length_cons] at hl
  rw [KS _ _ _ (by omega) (Nat.le_refl _)];rfl
theorem je {s:Str} (h:s ≠ []):dB s=(cK s).1 ++ dB (cK s).2:=by
  cases s with
  | nil=>exact absurd rfl h
  | cons c r=>exact vX c r
end W10
/- The scanner: an attribute's value. -/
namespace W10
open Go Go.AX Go.AX.Ty Go.Proofs
theorem Oa {f:FuncId} {args:List AV} {s:St} {b v v':Nat} {cs cs':List AV} {res:AV} (g:s.get b=some (.cells v cs false)) (hc:Cls s.next cs') (hres:Cl s.next res)
    (h:aF Tryz.prog f args s fun x s'=>x=res ∧ s'.get b=some (.cells v' cs' false) ∧ ∀ id,id < s.next → id ≠ b → s'.get id=s.get id) :
    aF Tryz.prog f args s fun x s'=>x=res ∧ s'=s.put b (.cells v' cs' false):=by
  refine aF.fin ?_
  refine h.mono fun x s' ⟨h1,h2,h3⟩=>⟨by rw [h1];exact hres,s.put b (.cells v' cs' false),rfl,fun id o ho=>?_,fun id o hid ho=>?_,h1,rfl⟩
  · rw [St.get_put g] at ho
    split at ho
    · rename_i e;subst e;exact ⟨_,g⟩
    · exact ⟨_,ho⟩
  · rw [St.get_put g] at ho
    split at ho
    · rename_i e;subst e
      refine ⟨by rw [h2];exact ho,.inr ?_⟩
      simp only [Option.some.injEq] at ho;subst ho
      exact hc
    · rename_i hne
      exact ⟨by rw [h3 id hid (fun e=>hne e.symm)];exact ho,.inl ho⟩
theorem qV (s:St):aF Tryz.prog 83 [] s fun x s'=>∃ k,x=.ptr (k + 1) 1 0 ∧ s.next ≤ k ∧ k + 2 ≤ s'.next ∧ s'.get k=some (.cells 17 Wo false) ∧ s'.get (k + 1)=some (.cells 1 (pY k) false) ∧ ∀ id,id < s.next → s'.get id=s.get id:=by
  obtain ⟨h,n⟩:=s
  refine (Sr h n).mono fun x s' ⟨e1,e2⟩=>⟨n + 1,e1,Nat.le_succ n,?_,?_,?_,fun id hid=>?_⟩
  all_goals subst e2
  · exact Nat.le_refl _
  · show AX.look (n + 1) (_ :: _)=_
    simp [AX.look]
  · show AX.look (n + 2) (_ :: _)=_
    simp [AX.look]
  · show AX.look id (_ :: _)=AX.look id h
    have:id < n:=hid
    simp only [AX.look]
    rw [if_neg (by omega),if_neg (by omega),if_neg (by omega)]
theorem Qv {s:St} {m:Nat} {ss:List AV} {y:AV} (g1:s.get (m + 1)=some (.cells 1 ss false)) {id:Nat} (h:id < m):(pR s m y).get id=s.get id:=by
  unfold pR
  rw [St.fD,if_neg (by simp;omega),St.get_put g1,if_neg (by omega)]
theorem uW {s:St} {m:Nat} (x:Str) (hx:x.length ≤ 1000000000) (hm:m + 2 ≤ s.next) (g0:s.get m=some (.cells 17 Wo false)) (g1:s.get (m + 1)=some (.cells 1 (pY m) false)) :
    aF Tryz.prog 67 [.ptr (m + 1) 1 0,.str x] s fun v s'=>v=.str (bN x) ∧ s'.next=s.next ∧ ∀ id,id < m → s'.get id=s.get id:=by
  refine (SF x hx hm g0 g1).mono fun v s' ⟨e1,e2⟩=>⟨e1,?_,fun id hid=>?_⟩
  · subst e2;rfl
  subst e2
  exact Qv g1 hid
theorem rM {e:Str}:∀ s:Str,(dS e s).length ≤ s.length
  | []=>Nat.le_refl _
  | c :: r => by
    simp only [dS]
    split
    · simp
    · have:=rM (e:=e) r;simp;omega
theorem Tx {s:St} {b v:Nat} {t:Str} {V:AV} (g:s.get b=some (.cells v [.str t,V] false)) (hb:b < s.next) (hV:Cl s.next V) (ht:t.length ≤ 1000000000) :
    aF Tryz.prog 93 [.ptr b v 0] s fun x s'=>x=.str (jT t).1 ∧ s'=s.put b (.cells v [.str (jT t).2,V] false):=by
  refine Oa g ?_ (by simp [Cl]) ?_
  · simp only [Cls,Cl,true_and,and_true];exact hV
  obtain ⟨h,m⟩:=s
  refine bE mix (dx _) c93 (by kernel_rfl) (Nat.le_of_ble_eq_true (by kernel_rfl)) ?_
  have g':AX.look b h=some (.cells v [.str t,V] false):=g
  have hb':b < m:=hb
  have ht1:(t.drop 1).length ≤ 1000000000:=by simp;omega
  simp -implicitDefEqProofs only [F93,g',go_sem,seval]
  refine ak (oI t [34]) ?_
  by_cases hq:(hasB t [34] || hasB t [39])=true
  · have hne:t.take 1 ≠ []:=by
      rcases Bool.or_eq_true _ _ ▸ hq with h1 | h1
      · obtain ⟨r,rfl⟩:=bS.1 h1;simp
      · obtain ⟨r,rfl⟩:=bS.1 h1;simp
    have ev:jT t=(bN (dS (t.take 1) (t.drop 1)),bT (t.take 1) (t.drop 1)):=by unfold jT;rw [if_pos hq]
    cases h1:hasB t [34] with
    | true =>
      simp -implicitDefEqProofs only [go_sem,seval]
      refine aH ((qV ⟨h,m⟩).mono fun x s3 ⟨k,e1,k1,k2,k3,k4,k5⟩=>?_)
      have g3:s3.get b=some (.cells v [.str t,V] false):=by rw [k5 b hb'];exact g
      have k1':m ≤ k:=k1
      subst e1
      simp -implicitDefEqProofs only [go_sem,seval]
      refine aH ((jH g3 1 (by omega) ht).mono fun x s4 ⟨e2,e3⟩=>?_)
      subst e2
      have f4:=fun id (hid:id ≠ b)=>show s4.get id=s3.get id by rw [e3,St.get_put g3,if_neg (fun e=>hid e.symm)]
      have g4:s4.get b=some (.cells v [.str (t.drop 1),V] false):=by rw [e3,St.get_put g3,if_pos rfl]
      have n4:s4.next=s3.next:=by rw [e3];rfl
      simp -implicitDefEqProofs only [go_sem,seval]
      refine aH ((Aw g4 hne ht1).mono fun x s5 ⟨e4,e5⟩=>?_)
      subst e4
      have f5:=fun id (hid:id ≠ b)=>show s5.get id=s3.get id by rw [e5,St.get_put g4,if_neg (fun e=>hid e.symm),f4 id hid]
      have g5:s5.get b=some (.cells v [.str (bT (t.take 1) (t.drop 1)),V] false):=by rw [e5,St.get_put g4,if_pos rfl]
      have n5:s5.next=s3.next:=by rw [e5];exact n4
      simp -implicitDefEqProofs only [go_sem,seval]
      refine aH ((uW (dS (t.take 1) (t.drop 1)) (Nat.le_trans (rM _) ht1) (by rw [n5];exact k2) (by rw [f5 k (by omega)];exact k3) (by rw [f5 (k + 1) (by omega)];exact k4)).mono fun x s6 ⟨e6,_,f6⟩=>?_)
      subst e6
      simp -implicitDefEqProofs only [go_sem,seval]
      exact ⟨by rw [ev],by rw [ev];exact (f6 b (by omega)).trans g5,fun id i1 i2=>(f6 id (by omega)).trans ((f5 id i2).trans (k5 id i1))⟩
    | false =>
      rw [h1,Bool.false_or] at hq
      simp -implicitDefEqProofs only [g',go_sem,seval]
      refine ak (oI t [39]) ?_
      rw [hq]
      simp -implicitDefEqProofs only [go_sem,seval]
      refine aH ((qV ⟨h,m⟩).mono fun x s3 ⟨k,e1,k1,k2,k3,k4,k5⟩=>?_)
      have g3:s3.get b=some (.cells v [.str t,V] false):=by rw [k5 b hb'];exact g
      have k1':m ≤ k:=k1
      subst e1
      simp -implicitDefEqProofs only [go_sem,seval]
      refine aH ((jH g3 1 (by omega) ht).mono fun x s4 ⟨e2,e3⟩=>?_)
      subst e2
      have f4:=fun id (hid:id ≠ b)=>show s4.get id=s3.get id by rw [e3,St.get_put g3,if_neg (fun e=>hid e.symm)]
      have g4:s4.get b=some (.cells v [.str (t.drop 1),V] false):=by rw [e3,St.get_put g3,if_pos rfl]
      have n4:s4.next=s3.next:=by rw [e3];rfl
      simp -implicitDefEqProofs only [go_sem,seval]
      refine aH ((Aw g4 hne ht1).mono fun x s5 ⟨e4,e5⟩=>?_)
      subst e4
      have f5:=fun id (hid:id ≠ b)=>show s5.get id=s3.get id by rw [e5,St.get_put g4,if_neg (fun e=>hid e.symm),f4 id hid]
      have g5:s5.get b=some (.cells v [.str (bT (t.take 1) (t.drop 1)),V] false):=by rw [e5,St.get_put g4,if_pos rfl]
      have n5:s5.next=s3.next:=by rw [e5];exact n4
      simp -implicitDefEqProofs only [go_sem,seval]
      refine aH ((uW (dS (t.take 1) (t.drop 1)) (Nat.le_trans (rM _) ht1) (by rw [n5];exact k2) (by rw [f5 k (by omega)];exact k3) (by rw [f5 (k + 1) (by omega)];exact k4)).mono fun x s6 ⟨e6,_,f6⟩=>?_)
      subst e6
      simp -implicitDefEqProofs only [go_sem,seval]
      exact ⟨by rw [ev],by rw [ev];exact (f6 b (by omega)).trans g5,fun id i1 i2=>(f6 id (by omega)).trans ((f5 id i2).trans (k5 id i1))⟩
  · rw [Bool.not_eq_true,Bool.or_eq_false_iff] at hq
    have ev:jT t=(bN (t.takeWhile jG),t.dropWhile jG):=by unfold jT;rw [if_neg (by simp [hq.1,hq.2])]
    rw [hq.1]
    simp -implicitDefEqProofs only [g',go_sem,seval]
    refine ak (oI t [39]) ?_
    rw [hq.2]
    simp -implicitDefEqProofs only [go_sem,seval]
    refine aH ((qV ⟨h,m⟩).mono fun x s3 ⟨k,e1,k1,k2,k3,k4,k5⟩=>?_)
    have g3:s3.get b=some (.cells v [.str t,V] false):=by rw [k5 b hb'];exact g
    have k1':m ≤ k:=k1
    subst e1
    simp -implicitDefEqProofs only [go_sem,seval]
    refine aH ((yc Tk g3 ht).mono fun x s4 ⟨e2,e3⟩=>?_)
    subst e2
    have f4:=fun id (hid:id ≠ b)=>show s4.get id=s3.get id by rw [e3,St.get_put g3,if_neg (fun e=>hid e.symm)]
    have g4:s4.get b=some (.cells v [.str (t.dropWhile jG),V] false):=by rw [e3,St.get_put g3,if_pos rfl]
    have n4:s4.next=s3.next:=by rw [e3];rfl
    simp -implicitDefEqProofs only [go_sem,seval]
    refine aH ((uW (t.takeWhile jG) (Nat.le_trans (Qe t) ht) (by rw [n4];exact k2) (by rw [f4 k (by omega)];exact k3) (by rw [f4 (k + 1) (by omega)];exact k4)).mono fun x s5 ⟨e5,_,f5⟩=>?_)
    subst e5
    simp -implicitDefEqProofs only [go_sem,seval]
    exact ⟨by rw [ev],by rw [ev];exact (f5 b (by omega)).trans g4,fun id i1 i2=>(f5 id (by omega)).trans ((f4 id i2).trans (k5 id i1))⟩
end W10
/- The scanner: an attribute; raw; a text. -/
namespace W10
open Go Go.AX Go.AX.Ty Go.Proofs
mutual
theorem yD {n m:Nat}:∀ (x:AV),n ≤ m → Cl n x → Cl m x
  | .agg xs,h,hc=>by simp only [Cl] at *;exact mO xs h hc
  | .tup xs,h,hc=>by simp only [Cl] at *;exact mO xs h hc
  | .ptr b _ _,h,hc=>by simp only [Cl] at *;omega
  | .vp xs,h,hc=>by simp only [Cl] at *;exact mO xs h hc
  | .sl b _ _ _ _,h,hc=>by simp only [Cl] at *;omega
  | .ps _ xs,h,hc=>by simp only [Cl] at *;exact mO xs h hc
  | .fn _ xs ys,h,hc=>by simp only [Cl] at *;exact ⟨mO xs h hc.1,mO ys h hc.2⟩
  | .ifc _ x,h,hc=>by simp only [Cl] at *;exact yD x h hc
  | .map r,h,hc=>by simp only [Cl] at *;omega
  | .bool _,h,hc=>by simp only [Cl]
  | .int _ _,h,hc=>by simp only [Cl]
  | .str _,h,hc=>by simp only [Cl]
  | .nilp,h,hc=>by simp only [Cl]
  | .nils,h,hc=>by simp only [Cl]
  | .nilf,h,hc=>by simp only [Cl]
  | .nili,h,hc=>by simp only [Cl]
  | .nilm,h,hc=>by simp only [Cl]
  | .any,h,hc=>by simp only [Cl]
theorem mO {n m:Nat}:∀ (xs:List AV),n ≤ m → Cls n xs → Cls m xs
  | [],h,hc=>trivial
  | x :: r,h,hc=>by simp only [Cls] at *;exact ⟨yD x h hc.1,mO r h hc.2⟩
end
theorem dF {s s':St} {b:Nat} {o o0:AX.Obj} (g:s.get b=some o0) (e:s'=s.put b o):s'.get b=some o ∧ s'.next=s.next ∧ ∀ id,id ≠ b → s'.get id=s.get id:=by
  subst e
  exact ⟨by rw [St.get_put g,if_pos rfl],rfl,fun id h=>by rw [St.get_put g,if_neg (fun e=>h e.symm)]⟩
theorem XG {s:St} {b:Nat} {t:Str} {V:AV} (g:s.get b=some (.cells 1 [.str t,V] false)) (hb:b < s.next) (hV:Cl s.next V) (hV1:V.one=true) (ht:t.length ≤ 1000000000) :
    aF Tryz.prog 77 [.ptr b 1 0] s fun x s'=>x=Enc.av (bK t).1 ∧ s'=s.put b (.cells 1 [.str (bK t).2,V] false):=by
  refine Oa g ?_ (by simp [Cl,Cls,Attr.KA]) ?_
  · simp only [Cls,Cl,true_and,and_true];exact hV
  obtain ⟨h,m⟩:=s
  refine bE mix (dx _) c77 (by kernel_rfl) (Nat.le_of_ble_eq_true (by kernel_rfl)) ?_
  have g':AX.look b h=some (.cells 1 [.str t,V] false):=g
  have hb':b < m:=hb
  have q0:(m=b)=False:=eq_false (by omega)
  have G0:St.get ⟨(m,.cells 1 [.str [],.str []] false) :: h,m + 1⟩ b=some (.cells 1 [.str t,V] false):=by show AX.look b (_ :: _)=_;simp only [AX.look,q0,if_false];exact g'
  simp -implicitDefEqProofs only [F77,q0,go_sem,seval]
  refine aH ((yc FX (t:=t) (V:=V) (b:=b) (v:=1) G0 ht).mono fun x s1 ⟨e1,e2⟩=>?_)
  subst e1
  have gb1:s1.get b=some (.cells 1 [.str (t.dropWhile aN),V] false):=by rw [e2,St.get_put G0,if_pos rfl]
  have gm1:s1.get m=some (.cells 1 [.str [],.str []] false):=by rw [e2,St.get_put G0,if_neg (by omega)];show AX.look m (_ :: _)=_;simp [AX.look]
  have gi1:∀ id,id < m → id ≠ b → s1.get id=AX.look id h:=fun id i1 i2=>by
    rw [e2,St.get_put G0,if_neg (fun e=>i2 e.symm)];show AX.look id (_ :: _)=_;simp only [AX.look];rw [if_neg (by omega)]
  have n1:s1.next=m + 1:=by rw [e2];rfl
  clear e2
  obtain ⟨h1,m1⟩:=s1
  simp only at n1;subst n1
  have gb1':AX.look b h1=_:=gb1
  have gm1':AX.look m h1=_:=gm1
  have q1:(m + 1=b)=False:=eq_false (by omega)
  have q2:(m + 2=b)=False:=eq_false (by omega)
  have hsm:=x8 (t.takeWhile aN) (Nat.le_trans (Qe t) ht)
  have ht1:(t.dropWhile aN).length ≤ 1000000000:=Nat.le_trans (kM t) ht
  generalize hnm:t.takeWhile aN=nm at *
  generalize hr1:t.dropWhile aN=r1 at *
  simp -implicitDefEqProofs only [go_sem,seval]
  refine ak hsm ?_
  simp -implicitDefEqProofs only [gb1',q1,go_sem,seval]
  refine aA hV1 ?_
  simp -implicitDefEqProofs only [go_sem,seval]
  have ev:bK t=if hasB (r1.dropWhile aT) [61]=true then (⟨aK nm,(jT (((r1.dropWhile aT).drop 1).dropWhile aT)).1⟩,(jT (((r1.dropWhile aT).drop 1).dropWhile aT)).2) else (⟨aK nm,[]⟩,r1):=by
    rw [← hr1,← hnm];rfl
  have G1:St.get ⟨(m + 1 + 1,.cells 1 [.str r1,V] false) :: (m + 1,.cells 1 [.str (aK nm),.str []] false) :: h1,m + 1 + 1 + 1⟩ (m + 1 + 1)=some (.cells 1 [.str r1,V] false):=by show AX.look _ (_ :: _)=_;simp [AX.look]
  have b1:r1.dropWhile aT=r1.dropWhile aT:=rfl
  refine aH ((yc EG G1 ht1).mono fun x s2 ⟨e3,e4⟩=>?_)
  subst e3
  obtain ⟨p1,p2,p3⟩:=dF G1 e4
  clear e4 G1
  have ht2:(r1.dropWhile aT).length ≤ 1000000000:=Nat.le_trans (kM r1) ht1
  generalize hr2:r1.dropWhile aT=r2 at *
  have pa:s2.get (m + 1)=some (.cells 1 [.str (aK nm),.str []] false):=by rw [p3 _ (by omega)];show AX.look _ (_ :: _)=_;simp [AX.look]
  have pi:∀ id,id ≤ m → s2.get id=AX.look id h1:=fun id hid=>by rw [p3 _ (by omega)];show AX.look _ (_ :: _)=_;simp only [AX.look];rw [if_neg (by omega),if_neg (by omega)]
  clear p3
  obtain ⟨h2,m2⟩:=s2
  simp only at p2;subst p2
  have p1':AX.look (m + 1 + 1) h2=_:=p1
  have pa':AX.look (m + 1) h2=_:=pa
  have pb':AX.look b h2=_:=(pi b (by omega)).trans gb1'
  have pm':AX.look m h2=_:=(pi m (by omega)).trans gm1'
  simp -implicitDefEqProofs only [p1',go_sem,seval]
  refine ak (oI r2 [61]) ?_
  cases hq:hasB r2 [61] with
  | false =>
    rw [hq] at ev
    simp only [Bool.false_eq_true,if_false] at ev
    simp -implicitDefEqProofs only [pa',pm',q0,go_sem,seval]
    refine ⟨by rw [ev],by rw [ev];exact pb',fun id i1 i2=>?_⟩
    rw [if_neg (by omega)]
    exact (pi id (by omega)).trans (gi1 id i1 i2)
  | true =>
    rw [hq] at ev
    simp only [if_true] at ev
    simp -implicitDefEqProofs only [go_sem,seval]
    refine aH ((jH p1 1 (by omega) ht2).mono fun x s3 ⟨e3,e4⟩=>?_)
    subst e3
    obtain ⟨u1,u2,u3⟩:=dF p1 e4
    simp -implicitDefEqProofs only [go_sem,seval]
    refine aH ((yc EG u1 (by simp;omega)).mono fun x s4 ⟨e5,e6⟩=>?_)
    subst e5
    obtain ⟨v1,v2,v3⟩:=dF u1 e6
    simp -implicitDefEqProofs only [go_sem,seval]
    refine aH ((Tx v1 (by rw [v2,u2];exact Nat.lt_succ_self _) (yD V (by rw [v2,u2];show m ≤ m + 1 + 1 + 1;omega) hV) (Nat.le_trans (kM _) (by simp;omega))).mono fun x s5 ⟨e7,e8⟩=>?_)
    subst e7
    obtain ⟨w1,w2,w3⟩:=dF v1 e8
    have z1:∀ id,id ≠ m + 1 + 1 → s5.get id=AX.look id h2:=fun id hid=>by rw [w3 _ hid,v3 _ hid,u3 _ hid];rfl
    have z2:s5.next=m + 1 + 1 + 1:=by rw [w2,v2,u2]
    clear e4 e6 e8 u3 v3 w3 u1 v1 u2 v2 w2
    obtain ⟨h5,m5⟩:=s5
    simp only at z2;subst z2
    have za:AX.look (m + 1) h5=_:=(z1 (m + 1) (by omega)).trans pa'
    have zb:AX.look b h5=_:=(z1 b (by omega)).trans pb'
    have zm:AX.look m h5=_:=(z1 m (by omega)).trans pm'
    have zc:AX.look (m + 1 + 1) h5=_:=w1
    have q3:(m=m + 1)=False:=eq_false (by omega)
    have q4:(m + 1=m)=False:=eq_false (by omega)
    have q5:(b=m)=False:=eq_false (by omega)
    have q6:(b=m + 1)=False:=eq_false (by omega)
    simp -implicitDefEqProofs only [za,zb,zm,zc,q1,q3,q4,q5,q6,q0,go_sem,seval]
    refine ⟨by rw [ev],by rw [ev],fun id i1 i2=>?_⟩
    rw [if_neg (by omega),if_neg (fun e=>i2 e.symm),if_neg (by omega)]
    exact (z1 id (by omega)).trans ((pi id (by omega)).trans (gi1 id i1 i2))
end W10
/- The scanner: a style's text; a text. -/
namespace W10
open Go Go.AX Go.AX.Ty Go.Proofs
theorem fB {x y:UInt8} {l p:Str} (h:x ≠ y):hasB (x :: l) (y :: p)=false:=by
  cases hh:hasB (x :: l) (y :: p) with
  | false=>rfl
  | true=>obtain ⟨r,hr⟩:=bS.1 hh;simp at hr;exact absurd hr.1 h
theorem mE {x:UInt8} {l:Str} (h:x ≠ 60):gD (x :: l)=gD l + 1:=by
  simp only [gD,iV,fB h,Bool.false_and,Bool.false_eq_true,if_false]
theorem Lg:∀ s:Str,gD s ≤ s.length
  | []=>Nat.le_refl _
  | c :: r => by
    simp only [gD]
    split
    · simp
    · have:=Lg r;simp;omega
theorem Jc (t:Str):dJ t ≤ t.length:=by have:=Lg (aK t);simpa [dJ,aK] using this
theorem Gi:∀ s:Str,(match idxOf iV s with | none=>gD s=s.length | some i=>i + 7 ≤ s.length ∧ gD s=if zZ (s.drop (i + 7))=true then i else i + 7 + gD (s.drop (i + 7)))
  | []=>rfl
  | c :: r => by
    simp only [idxOf]
    have ih:=Gi r
    cases hh:hasB (c :: r) iV with
    | true =>
      obtain ⟨q,hq⟩:=bS.1 hh
      have hd:(c :: r).drop 7=q:=by rw [hq];rfl
      simp only [if_true,Nat.zero_add,hd]
      refine ⟨by rw [hq];simp [iV],?_⟩
      cases he:zZ q with
      | true=>simp only [gD,hh,hd,he,Bool.and_self,if_true]
      | false =>
        have hr:r=47 :: 115 :: 116 :: 121 :: 108 :: 101 :: q:=by simp only [iV,List.cons_append,List.nil_append,List.cons.injEq] at hq;exact hq.2
        simp only [gD,hh,hd,he,Bool.and_false,Bool.false_eq_true,if_false]
        rw [hr,mE (by decide),mE (by decide),mE (by decide),mE (by decide),mE (by decide),mE (by decide)]
        omega
    | false =>
      simp only [Bool.false_eq_true,if_false]
      have hr:gD (c :: r)=gD r + 1:=by simp only [gD,hh,Bool.false_and,Bool.false_eq_true,if_false]
      cases hi:idxOf iV r with
      | none=>rw [hi] at ih;simp only [Option.map_none,List.length_cons];rw [hr];simp only at ih;omega
      | some i =>
        rw [hi] at ih
        simp only [Option.map_some,List.length_cons]
        simp only at ih
        rw [show i + 1 + 7=(i + 7) + 1 by omega,List.drop_succ_cons,hr,ih.2]
        refine ⟨by omega,?_⟩
        split <;> omega
theorem ET {x:UInt8} {n:Nat} (hn:n < 256) (h:x ≠ UInt8.ofNat n):((x.toNat:Int)=(n:Int))=False:=eq_false fun e=>h (by
  have e1:x.toNat=n:=by omega
  rw [← UInt8.ofNat_toNat (x:=x),e1])
theorem Yw {s:St} {b v:Nat} {t:Str} {V:AV} (g:s.get b=some (.cells v [.str t,V] false)) (ht:t.length ≤ 1000000000) :
    aF Tryz.prog 62 [.ptr b v 0] s fun x s'=>x=.int .i64 (dJ t) ∧ s'=s:=by
  obtain ⟨h,m⟩:=s
  refine bE mix (dx _) c62 (by kernel_rfl) (Nat.le_of_ble_eq_true (by kernel_rfl)) ?_
  have g':AX.look b h=some (.cells v [.str t,V] false):=g
  have hsm:=x8 t ht
  have hsl:(aK t).length ≤ 1000000000:=by simp [aK];exact ht
  simp -implicitDefEqProofs only [F62,g',go_sem,seval]
  refine ak hsm ?_
  unfold dJ
  generalize aK t=low at *
  simp -implicitDefEqProofs only [go_sem,seval]
  refine bA (fun k:Nat=>low.length - k) (fun k=>[(3,.str low),(4,.int .i64 k)])
    (fun k st=>st=⟨h,m⟩ ∧ k ≤ low.length ∧ gD low=k + gD (low.drop k)) 0 ?_ ?_
  · simp -implicitDefEqProofs only [List.drop_zero,Nat.zero_add,go_sem,seval]
  rintro k ρ st ⟨rfl,n1,n2⟩
  have f1:(k ≤ low.length)=True:=eq_true n1
  have hix:=UC (low.drop k) (e:=iV) (by simp [iV]) (by simp;omega)
  have hri:=Gi (low.drop k)
  simp -implicitDefEqProofs only [f1,go_sem,seval]
  refine ak hix ?_
  cases hi:idxOf iV (low.drop k) with
  | none =>
    rw [hi] at hri;simp only at hri
    simp -implicitDefEqProofs only [go_sem,seval]
    rw [n2,hri];simp;omega
  | some i =>
    rw [hi] at hri;simp only [List.length_drop] at hri
    obtain ⟨r1,r2⟩:=hri
    have e1:((i:Int) < 0)=False:=eq_false (by omega)
    have w1:IntKind.i64.wrap ((k:Int) + (i:Int))=((k + i:Nat):Int):=by rw [wrap64 (by omega) (by omega)];omega
    have w2:IntKind.i64.wrap (((k + i:Nat):Int) + 7)=((k + i + 7:Nat):Int):=by rw [wrap64 (by omega) (by omega)];omega
    have w3:IntKind.i64.wrap ((i:Int) + 7)=((i + 7:Nat):Int):=by rw [wrap64 (by omega) (by omega)];omega
    have w4:IntKind.i64.wrap ((k:Int) + ((i + 7:Nat):Int))=((k + i + 7:Nat):Int):=by rw [wrap64 (by omega) (by omega)];omega
    have f2:(k + i + 7 ≤ low.length)=True:=eq_true (by omega)
    rw [List.drop_drop,show k + (i + 7)=k + i + 7 by omega] at r2
    simp -implicitDefEqProofs only [e1,w1,w2,f2,go_sem,seval]
    generalize hq:low.drop (k + i + 7)=q at *
    cases q with
    | nil =>
      simp -implicitDefEqProofs only [w1,go_sem,seval]
      rw [n2,r2];simp [zZ]
    | cons x q =>
      have hx:((x :: q)=[])=False:=by simp
      simp -implicitDefEqProofs only [hx,w1,go_sem,seval]
      refine ak (EG x) ?_
      have fin0:zZ (x :: q)=true → gD low=k + i:=fun he=>by rw [n2,r2,he];simp
      have fin1:zZ (x :: q)=false → gD low=k + i + 7 + gD (low.drop (k + i + 7)):=fun he=>by rw [hq,n2,r2,he];simp;omega
      simp only [zZ] at fin0 fin1
      cases hb:aT x with
      | true =>
        rw [hb] at fin0
        simp -implicitDefEqProofs only [w1,go_sem,seval]
        rw [fin0 rfl]
      | false =>
        rw [hb] at fin0 fin1
        by_cases h47:x=47
        · subst h47
          simp -implicitDefEqProofs only [w1,go_sem,seval]
          rw [fin0 rfl]
        by_cases h62:x=62
        · subst h62
          simp -implicitDefEqProofs only [w1,go_sem,seval]
          rw [fin0 rfl]
        have e47:((x.toNat:Int)=47)=False:=ET (n:=47) (by omega) h47
        have e62:((x.toNat:Int)=62)=False:=ET (n:=62) (by omega) h62
        simp -implicitDefEqProofs only [e47,e62,w3,w4,go_sem,seval]
        exact ⟨k + i + 7,by omega,rfl,by omega,fin1 (by simp [h47,h62])⟩
end W10
/- The scanner: what it holds; put; a text. -/
namespace W10
open Go Go.AX Go.AX.Ty Go.Proofs
def Um (b:Nat) (l:List Tag) (V:AV) (s:St):Prop:=
  (l=[] ∧ V=.nils) ∨ ∃ d e,V=.sl d e 0 l.length 4 ∧ d ≠ b ∧ d < s.next ∧ s.get d=some (.cells e (aj l) false)
def Fh (b:Nat) (t:Str) (l:List Tag) (s:St):Prop:=
  b < s.next ∧ ∃ V,s.get b=some (.cells 1 [.str t,V] false) ∧ Um b l V s
theorem Um.cl {b:Nat} {l:List Tag} {V:AV} {s:St} (h:Um b l V s):Cl s.next V ∧ V.one=true:=by
  rcases h with ⟨_,rfl⟩ | ⟨d,e,rfl,_,h,_⟩
  · exact ⟨by simp [Cl],rfl⟩
  · exact ⟨by simpa [Cl] using h,rfl⟩
theorem Um.same {b:Nat} {l:List Tag} {V:AV} {s s':St} (h:Um b l V s) (hn:s.next ≤ s'.next) (hg:∀ id,id < s.next → id ≠ b → s'.get id=s.get id):Um b l V s':=by
  rcases h with h | ⟨d,e,h1,h2,h3,h4⟩
  · exact .inl h
  · exact .inr ⟨d,e,h1,h2,by omega,by rw [hg d h3 h2];exact h4⟩
theorem Fh.text {b:Nat} {t t':Str} {l:List Tag} {s s':St} {V:AV} (hb:b < s.next) (g:s.get b=some (.cells 1 [.str t,V] false)) (hT:Um b l V s) (e:s'=s.put b (.cells 1 [.str t',V] false)):Fh b t' l s':=by
  obtain ⟨p1,p2,p3⟩:=dF g e
  exact ⟨by omega,V,p1,hT.same (by omega) fun id _ h=>p3 id h⟩
theorem P7 {s:St} {b:Nat} {t:Str} {l:List Tag} (hS:Fh b t l s) (x:Str) (hl:l.length ≤ 1000000000) :
    aF Tryz.prog 61 [.ptr b 1 0,.str x] s fun r s'=>r=.tup [] ∧ Fh b t (l ++ nX x) s':=by
  obtain ⟨h,m⟩:=s
  obtain ⟨hb,V,g,hT⟩:=hS
  refine bE mix (dx _) c61 (by kernel_rfl) (Nat.le_of_ble_eq_true (by kernel_rfl)) ?_
  have g':AX.look b h=some (.cells 1 [.str t,V] false):=g
  have hb':b < m:=hb
  have q0:(m=b)=False:=eq_false (by omega)
  have q1:(m + 1=b)=False:=eq_false (by omega)
  by_cases hx:x=[]
  · subst hx
    simp -implicitDefEqProofs only [F61,go_sem,seval]
    exact ⟨hb,V,g,by simpa [nX] using hT⟩
  have hx':(x=[])=False:=eq_false hx
  have e1:nX x=[l6 x]:=by simp [nX,hx]
  rw [e1]
  have hle:(l.length + 1 ≤ 140737488355328)=True:=eq_true (by omega)
  rcases hT with ⟨rfl,rfl⟩ | ⟨d,e,rfl,h2,h3,h4⟩
  · simp -implicitDefEqProofs only [F61,hx',g',q0,q1,go_sem,seval]
    refine ⟨Nat.lt_succ_of_lt (Nat.lt_succ_of_lt hb'),.sl (m + 1) 9 0 1 4,?_,.inr ⟨m + 1,9,rfl,by omega,Nat.lt_succ_self _,?_⟩⟩
    · show AX.look b (_ :: _)=_
      simp only [AX.look,q0,q1,if_false]
      exact aS g'
    · show AX.look (m + 1) (_ :: _)=_
      simp only [AX.look,if_true];rfl
  · have h4':AX.look d h=some (.cells e (aj l) false):=h4
    have hdb:(d=b)=False:=eq_false h2
    have hlc:=Tag.jm l
    have h3':d < m:=h3
    have md:(m=d)=False:=eq_false (by omega)
    have hle2:((l.length + 1) * 64 ≤ 140737488355328)=True:=eq_true (by omega)
    simp -implicitDefEqProofs only [F61,hx',g',h4',q0,q1,hdb,md,hle,hle2,hlc,Nat.le_refl,go_sem,seval]
    have ht:List.take (l.length * 4) (aj l)=aj l:=List.take_of_length_le (by rw [hlc];exact Nat.le_refl _)
    refine ⟨Nat.lt_succ_of_lt hb',.sl d (iC false e (l.length * 4 + 4)) 0 (l.length + 1) 4,?_,.inr ⟨d,iC false e (l.length * 4 + 4),by rw [List.length_append];rfl,h2,Nat.lt_succ_of_lt h3',?_⟩⟩
    · show AX.look b (_ :: _)=_
      simp only [AX.look,q0,if_false]
      exact aS (x:=.cells 1 [.str t,.sl d e 0 l.length 4] false) (by rw [ay h2];exact g')
    · show AX.look d (_ :: _)=_
      simp only [AX.look,md,if_false]
      rw [ay (Ne.symm h2),aS h4',ht,aU];rfl
end W10
/- The scanner: a text. -/
namespace W10
open Go Go.AX Go.AX.Ty Go.Proofs
theorem Cu (s:Str) (k:Nat) (h:∀ i,i < k → i < s.length ∧ pJ (s.drop i)=false) (hk:k=s.length ∨ k < s.length ∧ pJ (s.drop k)=true):fV s=k:=by
  induction s generalizing k with
  | nil => rcases hk with h1 | ⟨h1, _⟩
           · simp at h1;simp [fV,h1]
           · simp at h1
  | cons x r ih =>
    cases k with
    | zero =>
      rcases hk with h1 | ⟨h1,h2⟩
      · simp at h1
      · simp only [List.drop_zero] at h2;simp only [fV];rw [if_pos h2]
    | succ k =>
      have h2:=(h 0 (by omega)).2
      simp only [List.drop_zero] at h2
      have e:=ih k (fun i hi=>by
        have:=h (i + 1) (by omega)
        simp only [List.length_cons,List.drop_succ_cons] at this
        exact ⟨by omega,this.2⟩) (by
        rcases hk with h1 | ⟨h1,h3⟩
        · left;simpa using h1
        · right;simp only [List.length_cons,List.drop_succ_cons] at h1 h3;exact ⟨by omega,h3⟩)
      simp only [fV];rw [if_neg (by simp [h2]),e]
theorem wm (s:Str):(bN s).length ≤ s.length:=kQ 0 s
theorem qL {s:St} {b:Nat} {t:Str} {l:List Tag} (hS:Fh b t l s) (hl:l.length ≤ 1000000000) (ht:t.length ≤ 1000000000) (hne:t ≠ []) :
    aF Tryz.prog 63 [.ptr b 1 0] s fun r s'=>r=.tup [] ∧ Fh b (t.drop (1 + fV (t.drop 1))) (l ++ nX (bN (t.take (1 + fV (t.drop 1))))) s':=by
  obtain ⟨h,m⟩:=s
  obtain ⟨hb,V,g,hT⟩:=hS
  refine bE mix (dx _) c63 (by kernel_rfl) (Nat.le_of_ble_eq_true (by kernel_rfl)) ?_
  have g':AX.look b h=some (.cells 1 [.str t,V] false):=g
  have hb':b < m:=hb
  have ht0:0 < t.length:=List.length_pos_iff.2 hne
  simp -implicitDefEqProofs only [F63,go_sem,seval]
  refine bA (fun n:Nat=>t.length - n) (fun n=>[(0,.ptr b 1 0),(2,.int .i64 n)])
    (fun n st=>st=⟨h,m⟩ ∧ 1 ≤ n ∧ n ≤ t.length ∧ ∀ i,i < n - 1 → i < (t.drop 1).length ∧ pJ ((t.drop 1).drop i)=false) 1 ?_ ?_
  · simp -implicitDefEqProofs only [go_sem,seval]
    exact ⟨by omega,fun i hi=>hi.elim⟩
  rintro n ρ st ⟨rfl,n1,n2,n3⟩
  have w1:IntKind.i64.wrap ((n:Int) + 1)=((n + 1:Nat):Int):=by rw [wrap64 (by omega) (by omega)];omega
  rcases Nat.lt_or_ge n t.length with hn | hn
  · have h2:((n:Int) < (t.length:Int))=True:=eq_true (by omega)
    have h3:(n ≤ t.length)=True:=eq_true (by omega)
    simp -implicitDefEqProofs only [g',h2,h3,go_sem,seval]
    refine ak (YQ (t.drop n) (by simp;omega)) ?_
    cases hi:pJ (t.drop n) with
    | false =>
      simp -implicitDefEqProofs only [w1,go_sem,seval]
      refine ⟨n + 1,by omega,rfl,by omega,by omega,fun i hi'=>?_⟩
      rcases Nat.lt_or_ge i (n - 1) with hlt | hge
      · exact n3 i hlt
      · have:i=n - 1:=by omega
        subst this
        rw [List.drop_drop,show 1 + (n - 1)=n by omega]
        exact ⟨by simp;omega,hi⟩
    | true =>
      have e:=Cu (t.drop 1) (n - 1) n3 (.inr ⟨by simp;omega,by rw [List.drop_drop,show 1 + (n - 1)=n by omega];exact hi⟩)
      have e':1 + fV (t.drop 1)=n:=by omega
      rw [e']
      simp -implicitDefEqProofs only [go_sem,seval]
      refine aH ((qV ⟨h,m⟩).mono fun x s3 ⟨k,d1,k1,k2,k3,k4,k5⟩=>?_)
      have g3:s3.get b=some (.cells 1 [.str t,V] false):=by rw [k5 b hb'];exact g
      have k1':m ≤ k:=k1
      have hT3:Um b l V s3:=hT.same (by show m ≤ s3.next;omega) fun id i1 _=>k5 id i1
      subst d1
      simp -implicitDefEqProofs only [go_sem,seval]
      refine aH ((jH g3 n (by omega) ht).mono fun x s4 ⟨d2,d3⟩=>?_)
      subst d2
      have hS4:=Fh.text (by omega) g3 hT3 d3
      obtain ⟨p1,p2,p3⟩:=dF g3 d3
      simp -implicitDefEqProofs only [go_sem,seval]
      refine aH ((uW (t.take n) (by simp;omega) (by rw [p2];exact k2) (by rw [p3 k (by omega)];exact k3) (by rw [p3 (k + 1) (by omega)];exact k4)).mono fun x s5 ⟨d5,n5,f5⟩=>?_)
      subst d5
      simp -implicitDefEqProofs only [go_sem,seval]
      have hS5:Fh b (t.drop n) l s5:=⟨by omega,V,by rw [f5 b (by omega)];exact p1,hT.same (by show m ≤ s5.next;omega) fun id i1 i2=>by
        have i1':id < m:=i1
        rw [f5 id (by omega),p3 id i2,k5 id i1]⟩
      refine aH ((P7 hS5 (bN (t.take n)) hl).mono fun x s6 ⟨d6,d7⟩=>?_)
      subst d6
      simp -implicitDefEqProofs only [go_sem,seval]
      exact d7
  · have h2:((n:Int) < (t.length:Int))=False:=eq_false (by omega)
    have e:=Cu (t.drop 1) (n - 1) n3 (.inl (by simp;omega))
    have e':1 + fV (t.drop 1)=n:=by omega
    rw [e']
    simp -implicitDefEqProofs only [g',h2,go_sem,seval]
    refine aH ((qV ⟨h,m⟩).mono fun x s3 ⟨k,d1,k1,k2,k3,k4,k5⟩=>?_)
    have g3:s3.get b=some (.cells 1 [.str t,V] false):=by rw [k5 b hb'];exact g
    have k1':m ≤ k:=k1
    have hT3:Um b l V s3:=hT.same (by show m ≤ s3.next;omega) fun id i1 _=>k5 id i1
    subst d1
    simp -implicitDefEqProofs only [go_sem,seval]
    refine aH ((jH g3 n (by omega) ht).mono fun x s4 ⟨d2,d3⟩=>?_)
    subst d2
    have hS4:=Fh.text (by omega) g3 hT3 d3
    obtain ⟨p1,p2,p3⟩:=dF g3 d3
    simp -implicitDefEqProofs only [go_sem,seval]
    refine aH ((uW (t.take n) (by simp;omega) (by rw [p2];exact k2) (by rw [p3 k (by omega)];exact k3) (by rw [p3 (k + 1) (by omega)];exact k4)).mono fun x s5 ⟨d5,n5,f5⟩=>?_)
    subst d5
    simp -implicitDefEqProofs only [go_sem,seval]
    have hS5:Fh b (t.drop n) l s5:=⟨by omega,V,by rw [f5 b (by omega)];exact p1,hT.same (by show m ≤ s5.next;omega) fun id i1 i2=>by
      have i1':id < m:=i1
      rw [f5 id (by omega),p3 id i2,k5 id i1]⟩
    refine aH ((P7 hS5 (bN (t.take n)) hl).mono fun x s6 ⟨d6,d7⟩=>?_)
    subst d6
    simp -implicitDefEqProofs only [go_sem,seval]
    exact d7
end W10
/- The scanner: is there an attribute of that name? -/
namespace W10
open Go Go.AX Go.AX.Ty Go.Proofs
theorem Tt {f:FuncId} {args:List AV} {s:St} {R:AV → Prop} (hR:∀ v,R v → Cl s.next v)
    (h:aF Tryz.prog f args s fun x s'=>R x ∧ ∀ id,id < s.next → s'.get id=s.get id) :
    aF Tryz.prog f args s fun x s'=>R x ∧ s'=s:=by
  refine aF.fin ?_
  exact h.mono fun x s' ⟨h1,h2⟩=>⟨hR x h1,s,rfl,fun id o ho=>⟨o,ho⟩,fun id o hid ho=>⟨by rw [h2 id hid];exact ho,.inl ho⟩,h1,rfl⟩
theorem Oq {s:St} {a:Nat} {an av n v:Str} (g:s.get a=some (.cells 1 [.str an,.str av] false)) (ha:a < s.next) :
    aF Tryz.prog 79 [.agg [.str n,.str v],.ptr a 1 0] s fun x s'=>x=.bool (decide (n=an)) ∧ s'=s:=by
  refine Tt (R:=fun x=>x=.bool (decide (n=an))) (by rintro v rfl;simp [Cl]) ?_
  obtain ⟨h,m⟩:=s
  refine bE mix (dx _) c79 (by kernel_rfl) (Nat.le_of_ble_eq_true (by kernel_rfl)) ?_
  have g':AX.look a h=some (.cells 1 [.str an,.str av] false):=g
  have ha':a < m:=ha
  have q0:(m=a)=False:=eq_false (by omega)
  simp -implicitDefEqProofs only [F79,g',q0,go_sem,seval]
  refine ⟨by congr 1;rw [Bool.eq_iff_iff];simp,fun id hid=>by rw [if_neg (by omega)]⟩
theorem uS:∀ (al:List Ty.Attr) (n:Nat),List.drop (n * 2) (aj al)=aj (al.drop n)
  | al,0=>by simp
  | [],n + 1=>by simp [aj]
  | x :: r, n + 1 => by
    rw [List.drop_succ_cons,← uS r n,show (n + 1) * 2=n * 2 + 1 + 1 by omega]
    show List.drop (n * 2 + 1 + 1) (.str x.name :: .str x.value :: aj r)=_
    rw [List.drop_succ_cons,List.drop_succ_cons]
def I7 (an:Str) (al:List Ty.Attr):Bool:=al.any fun x=>decide (x.name=an)
theorem Xe {s:St} {a d e:Nat} {an av:Str} {al:List Ty.Attr} (g:s.get a=some (.cells 1 [.str an,.str av] false)) (ha:a < s.next) (gd:s.get d=some (.cells e (aj al) false)) (hd:d < s.next) (hl:al.length ≤ 100000) :
    aF Tryz.prog 38 [.sl d e 0 al.length 2,.fn (.func 79) [] [.ptr a 1 0]] s fun x s'=>(∃ j:Int,x=.int .i64 j ∧ decide (0 ≤ j)=I7 an al) ∧ s'=s:=by
  obtain ⟨h,m⟩:=s
  refine bE mix (dx _) c38 (by kernel_rfl) (Nat.le_of_ble_eq_true (by kernel_rfl)) ?_
  have gd':AX.look d h=some (.cells e (aj al) false):=gd
  simp -implicitDefEqProofs only [F38,go_sem,seval]
  refine bA (fun n:Nat=>al.length - n) (fun n=>[(0,.sl d e 0 al.length 2),(1,.fn (.func 79) [] [.ptr a 1 0]),(6,.sl d e 0 al.length 2),(7,.int .i64 al.length),(8,.int .i64 n)])
    (fun n st=>st=⟨h,m⟩ ∧ n ≤ al.length ∧ I7 an al=I7 an (al.drop n)) 0 ?_ ?_
  · simp -implicitDefEqProofs only [List.drop_zero,go_sem,seval]
  rintro n ρ st ⟨rfl,n1,n2⟩
  have w1:IntKind.i64.wrap ((n:Int) + 1)=((n + 1:Nat):Int):=by rw [wrap64 (by omega) (by omega)];omega
  rcases Nat.lt_or_ge n al.length with hn | hn
  · obtain ⟨x,hx,hdr,hm⟩:=aW hn
    have h2:((n:Int) < (al.length:Int))=True:=eq_true (by omega)
    have h3:(n < al.length)=True:=eq_true hn
    have hcl:=Attr.jm al
    have h4:(n * 2 ≤ (aj al).length)=True:=eq_true (by rw [hcl];omega)
    have h5:List.drop (n * 2) (aj al)=.str x.name :: .str x.value :: aj (al.drop (n + 1)):=by
      rw [uS,hdr];rfl
    rw [hdr] at n2
    simp -implicitDefEqProofs only [gd',h2,h3,h4,h5,go_sem,seval]
    refine aH ((Oq (n:=x.name) (v:=x.value) g ha).mono fun y s2 ⟨d1,d2⟩=>?_)
    subst d1;subst d2
    by_cases hq:x.name=an
    · have hq':=eq_true hq
      simp -implicitDefEqProofs only [hq',decide_true,go_sem,seval]
      exact ⟨n,rfl,by rw [n2];simp [I7,hq]⟩
    · have hq':=eq_false hq
      simp -implicitDefEqProofs only [hq',decide_false,w1,go_sem,seval]
      exact ⟨n + 1,by omega,rfl,by omega,by rw [n2];simp [I7,hq]⟩
  · have h2:((n:Int) < (al.length:Int))=False:=eq_false (by omega)
    simp -implicitDefEqProofs only [h2,go_sem,seval]
    rw [List.drop_of_length_le hn] at n2
    exact ⟨-1,rfl,by rw [n2];rfl⟩
theorem MI {s:St} {a d e:Nat} {an av:Str} {al:List Ty.Attr} (g:s.get a=some (.cells 1 [.str an,.str av] false)) (ha:a < s.next) (gd:s.get d=some (.cells e (aj al) false)) (hd:d < s.next) (hl:al.length ≤ 100000) :
    aF Tryz.prog 78 [.sl d e 0 al.length 2,.fn (.func 79) [] [.ptr a 1 0]] s fun x s'=>x=.bool (I7 an al) ∧ s'=s:=by
  obtain ⟨h,m⟩:=s
  refine bE mix (dx _) c78 (by kernel_rfl) (Nat.le_of_ble_eq_true (by kernel_rfl)) ?_
  have gd':AX.look d h=some (.cells e (aj al) false):=gd
  have hcl:=Attr.jm al
  have f1:(al.length * 2 ≤ (aj al).length)=True:=eq_true (by rw [hcl];exact Nat.le_refl _)
  simp -implicitDefEqProofs only [F78,gd',f1,go_sem,seval]
  refine aH ((Xe g ha gd hd hl).mono fun y s2 ⟨⟨j,d1,d3⟩,d2⟩=>?_)
  subst d1;subst d2
  simp -implicitDefEqProofs only [go_sem,seval]
  rw [← d3]
theorem Kk {s:St} {a:Nat} :
    aF Tryz.prog 78 [.nils,.fn (.func 79) [] [.ptr a 1 0]] s fun x s'=>x=.bool false ∧ s'=s:=by
  obtain ⟨h,m⟩:=s
  have hi:aF Tryz.prog 38 [.nils,.fn (.func 79) [] [.ptr a 1 0]] ⟨h,m⟩ fun x s'=>x=.int .i64 (-1) ∧ s'=⟨h,m⟩:=by
    refine bE mix (dx _) c38 (by kernel_rfl) (Nat.le_of_ble_eq_true (by kernel_rfl)) ?_
    simp -implicitDefEqProofs only [F38,go_sem,seval]
    rw [iG]
    refine ⟨1,?_⟩
    simp -implicitDefEqProofs only [go_sem,seval]
  refine bE mix (dx _) c78 (by kernel_rfl) (Nat.le_of_ble_eq_true (by kernel_rfl)) ?_
  simp -implicitDefEqProofs only [F78,go_sem,seval]
  refine eH hi ?_
  simp -implicitDefEqProofs only [go_sem,seval]
  rfl
end W10
