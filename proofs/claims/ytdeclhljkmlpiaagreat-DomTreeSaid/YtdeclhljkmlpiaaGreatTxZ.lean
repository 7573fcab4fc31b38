/- The laws: what is fixed. -/
import Derived.Test.YtdeclhljkmlpiaaGreatTxY
set_option linter.unusedSimpArgs false
set_option linter.unusedVariables false
namespace W10
open Go Go.AX Go.AX.Ty Go.Proofs
open W10K (uD iD eP qK om CV gT wI)
def Zh:Str:=[60,112,32,99,108,97,115,115,61,39,32,97,32,32,98,39,62,120,60,112,62,121,60,98,114,62,60,98,62,122,60,47,112,62,119,60,47,98,62]
def iq:Str:=[99,108,97,115,115]
def lq:List Ty.Node:=[⟨[],[],[],-1,[1,3,8]⟩,⟨[112],[⟨iq,[32,97,32,32,98]⟩],[],0,[2]⟩,⟨[],[],[120],1,[]⟩,⟨[112],[],[],0,[4,5,6]⟩,⟨[],[],[121],3,[]⟩,⟨[98,114],[],[],3,[]⟩,⟨[98],[],[],3,[7]⟩,⟨[],[],[122],6,[]⟩,⟨[],[],[119],0,[]⟩]
def ZG:Str:=[60,112,32,99,108,97,115,115,61,34,32,97,32,32,98,34,62,120,60,47,112,62,60,112,62,121,60,98,114,62,60,98,62,122,60,47,98,62,60,47,112,62,119]
theorem Za:dH Zh=(lq,0):=by decide +kernel
theorem ZU:p9 (gG lq)=ZG:=by decide +kernel
theorem Y8:PI lq ∧ UL lq:=by
  rcases kX (s:=Zh) (by decide) with ⟨e,h,_⟩ | ⟨p,h,h1,h2,_⟩
  · rw [Za] at h;simp [lq] at h
  · rw [Za] at h
    have e:lq=p:=(Prod.mk.inj h).1
    rw [e];exact ⟨h1,h2⟩
theorem ZT:iy lq=ZG:=by rw [Y8.1.Wj,ZU]
theorem KO:UL []:=⟨⟨⟨by decide,by simp⟩,by decide,by simp,by simp⟩,Ca.of (by simp),by simp,by decide⟩
theorem PI.kin {p:List Ty.Node} (I:PI p) (n:Int):∀ x y,W10K.nodeAt p n=some x → W10K.nodeAt p x.up=some y → y.kids ≠ []:=fun x y hx hy=>by
  rcases W10K.mI p n with ⟨h,_⟩ | ⟨k,x',rfl,h1,h2,h3⟩
  · rw [h] at hx;simp at hx
  · rw [h3] at hx
    have e:=Option.some.inj hx
    subst e
    rcases Nat.lt_or_ge k 1 with h0 | h0
    · have e:k=0:=by omega
      subst e
      rw [← fM h2,I.root.2.2.2] at hy
      rw [W10K.y8 (by decide)] at hy;simp at hy
    · obtain ⟨g1,g2⟩:=I.up k h0 h1
      rw [fM h2] at g1 g2
      obtain ⟨u,hu⟩:∃ u:Nat,x'.up=u:=⟨x'.up.toNat,by omega⟩
      rw [hu,W10K.gy] at hy
      have hul:=fC hy
      intro e
      have hm:(k:Int) ∈ (nd p u).kids:=by rw [I.kids u hul];exact mq.2 ⟨k,rfl,h1,h0,by rw [fM h2];exact hu⟩
      rw [fM hy,e] at hm;simp at hm
theorem jC:bB Tryz.prog 8 [] (.bool true):=by
  refine bf mix c8 (by kernel_rfl) (by kernel_rfl) (by simp [aI,au,Go.AX.flat]) (by first | exact au _ | simp [flat,aI,au]) ?_
  simp -implicitDefEqProofs only [F8,go_sem,seval]
  refine ak (iP Zh (by decide)) ?_
  rw [Za]
  have h9:((lq.length:Int)=9)=True:=eq_true (by decide)
  have el3:bW 3 5 (.ps lq.length (aj lq))=some (.vp (Enc.cells (⟨[112],[],[],0,[4,5,6]⟩:Ty.Node) ++ aj (lq.drop 4))):=Node.elem lq 3
  have el5:bW 5 5 (.ps lq.length (aj lq))=some (.vp (Enc.cells (⟨[98,114],[],[],3,[]⟩:Ty.Node) ++ aj (lq.drop 6))):=Node.elem lq 5
  have el6:bW 6 5 (.ps lq.length (aj lq))=some (.vp (Enc.cells (⟨[98],[],[],3,[7]⟩:Ty.Node) ++ aj (lq.drop 7))):=Node.elem lq 6
  have el8:bW 8 5 (.ps lq.length (aj lq))=some (.vp (Enc.cells (⟨[],[],[119],0,[]⟩:Ty.Node) ++ aj (lq.drop 9))):=Node.elem lq 8
  have hF:=Y8.2
  simp -implicitDefEqProofs only [h9,go_sem,seval]
  refine ak (qK lq hF.ok.ok 1 iq) ?_
  rw [show W10K.bK lq 1 iq=([32,97,32,32,98],true) by decide +kernel]
  simp -implicitDefEqProofs only [go_sem,seval]
  refine ak (qK lq hF.ok.ok 2 iq) ?_
  rw [show W10K.bK lq 2 iq=([],false) by decide +kernel]
  simp -implicitDefEqProofs only [el3,el5,el6,el8,Node.bY,List.cons_append,List.nil_append,go_sem,seval]
  refine ak (o9 hF) ?_
  rw [ZT]
  simp -implicitDefEqProofs only [ZG,go_sem,seval]
  refine ak (om lq hF.ok 1) ?_
  rw [show uD lq 1=[[97],[98]] by decide +kernel]
  simp -implicitDefEqProofs only [go_sem,seval]
  refine ak (Dz [[97],[98]] [[97],[98]] (by decide)) ?_
  simp -implicitDefEqProofs only [go_sem,seval]
  refine ak (CV lq hF.ok 3 (Y8.1.kin 3)) ?_
  rw [show iD lq 3=[1,3] by decide +kernel]
  simp -implicitDefEqProofs only [go_sem,seval]
  refine ak (wI [1,3] [1,3] (by decide)) ?_
  simp -implicitDefEqProofs only [go_sem,seval]
  refine ak (CV lq hF.ok 6 (Y8.1.kin 6)) ?_
  rw [show iD lq 6=[5,6] by decide +kernel]
  simp -implicitDefEqProofs only [go_sem,seval]
  refine ak (wI [5,6] [5,6] (by decide)) ?_
  simp -implicitDefEqProofs only [go_sem,seval]
  refine ak (zB hF) ?_
  rw [(yR Za (by decide)).1]
  simp -implicitDefEqProofs only [go_sem,seval]
  refine ak (zB KO) ?_
  rw [show BR []=false by unfold BR;rw [Dk];decide +kernel]
  simp -implicitDefEqProofs only [go_sem,seval]
  refine ak (gT lq 1) ?_
  rw [show eP lq 1=true by decide +kernel]
  simp -implicitDefEqProofs only [go_sem,seval]
  refine ak (gT lq 2) ?_
  rw [show eP lq 2=false by decide +kernel]
  simp -implicitDefEqProofs only [go_sem,seval]
  refine ak (gT lq 9) ?_
  rw [show eP lq 9=false by decide +kernel]
  simp -implicitDefEqProofs only [go_sem,seval]
  refine ak (o9 KO) ?_
  rw [Dk]
  simp -implicitDefEqProofs only [go_sem,seval]
  refine ak (qO lq lq hF.few (by decide)) ?_
  have h8:(8 ≤ lq.length ∧ (aj lq).length=lq.length * 5)=True:=eq_true ⟨by decide,dh lq⟩
  simp -implicitDefEqProofs only [h8,go_sem,seval]
  rw [show List.take 40 (aj lq)=aj (lq.take 8) from wZ lq 8]
  refine ak (qO lq (lq.take 8) hF.few (by decide)) ?_
  rw [show decide (lq=lq.take 8)=false by decide +kernel]
  simp -implicitDefEqProofs only [go_sem,seval]
end W10
/- The laws: Back. -/
namespace W10
open Go Go.AX Go.AX.Ty Go.Proofs
open W10K (nH yZ Ct tu)
theorem UE {al:List Ty.Attr} (h:∀ a ∈ al,a.name.length ≤ 100 ∧ a.value.length ≤ 100):sM al ≤ al.length * 201:=by
  induction al with
  | nil=>simp [sM]
  | cons a l ih =>
    have h1:=h a (by simp)
    have h2:=ih fun x hx=>h x (by simp [hx])
    rw [show sM (a :: l)=NC a + sM l by simp [sM],List.length_cons,Nat.succ_mul]
    unfold NC
    omega
theorem LP {p:List Ty.Node} (hok:Enc.ok p) (h:nH 60 p=true):UL p:=by
  have hpg:=yZ (by decide) hok h
  simp only [nH,Bool.and_eq_true,decide_eq_true_eq,Bool.not_eq_true',List.any_eq_false] at h
  have hb:∀ x ∈ p,x.name.length ≤ 100 ∧ x.text.length ≤ 300 ∧ x.attrs.length ≤ 20 ∧ x.kids.length ≤ 60 ∧ ∀ a ∈ x.attrs,a.name.length ≤ 100 ∧ a.value.length ≤ 100:=fun x hx=>by
    have:=h.2 x hx
    simp only [tu,Bool.or_eq_true,decide_eq_true_eq,not_or,List.any_eq_true,not_exists,not_and] at this
    refine ⟨by omega,by omega,by omega,by omega,fun a ha=>?_⟩
    have:=this.2.2.2.2 a ha
    omega
  refine ⟨hpg,Ca.of fun x hx=>?_,fun x hx=>?_,by omega⟩
  · obtain ⟨h1,h2,h3,h4,h5⟩:=hb x hx
    have:=UE h5
    omega
  · obtain ⟨h1,h2,h3,h4,h5⟩:=hb x hx
    omega
theorem Rn (s:Str) (p:List Ty.Node) (hok:Enc.ok p):bB Tryz.prog 3 [.str s,Enc.av p] (.bool true):=by
  refine bf mix c3 (by kernel_rfl) (by kernel_rfl) (by simp [aI,au,Go.AX.flat]) (by first | exact au _ | simp [flat,aI,au]) ?_
  simp -implicitDefEqProofs only [F3,go_sem,seval]
  refine ak jC ?_
  rcases Nat.lt_or_ge 1500 s.length with hs | hs
  · have h1:((s.length:Int) > 1500)=True:=eq_true (by omega)
    simp -implicitDefEqProofs only [h1,go_sem,seval]
    refine ak jC ?_
    simp -implicitDefEqProofs only [go_sem,seval]
  have h1:((s.length:Int) > 1500)=False:=eq_false (by omega)
  simp -implicitDefEqProofs only [h1,go_sem,seval]
  refine ak (Ct 60 p hok) ?_
  cases hsm:nH 60 p with
  | false =>
    simp -implicitDefEqProofs only [go_sem,seval]
    refine ak jC ?_
    simp -implicitDefEqProofs only [go_sem,seval]
  | true =>
    have hF:=LP hok hsm
    simp -implicitDefEqProofs only [go_sem,seval]
    refine ak (iP s (by omega)) ?_
    rcases kX (s:=s) (by omega) with ⟨e,he,hee⟩ | ⟨q,he,I,hq,hne⟩
    · rw [he]
      have e0:(e=0)=False:=eq_false (by omega)
      simp -implicitDefEqProofs only [e0,go_sem,seval]
      refine ak (zB hF) ?_
      cases hm:BR p with
      | false =>
        simp -implicitDefEqProofs only [go_sem,seval]
      | true =>
        simp -implicitDefEqProofs only [go_sem,seval]
        refine ak (o9 hF) ?_
        simp -implicitDefEqProofs only [go_sem,seval]
        refine ak (iP _ hF.SH) ?_
        rw [KG hm]
        simp -implicitDefEqProofs only [go_sem,seval]
        refine ak (qO p p hF.few (by have:=hF.len;omega)) ?_
        simp -implicitDefEqProofs only [go_sem,seval]
    · rw [he]
      obtain ⟨m1,m2⟩:=yR he hne
      simp -implicitDefEqProofs only [go_sem,seval]
      refine ak (o9 hq) ?_
      simp -implicitDefEqProofs only [go_sem,seval]
      refine ak (iP _ hq.SH) ?_
      rw [m2]
      simp -implicitDefEqProofs only [go_sem,seval]
      refine ak (qO q q hq.few (by have:=hq.len;omega)) ?_
      simp -implicitDefEqProofs only [go_sem,seval]
      refine ak (zB hq) ?_
      rw [m1]
      simp -implicitDefEqProofs only [go_sem,seval]
      refine ak (o9 hq) ?_
      simp -implicitDefEqProofs only [go_sem,seval]
      refine ak (zB hF) ?_
      cases hm:BR p with
      | false =>
        simp -implicitDefEqProofs only [go_sem,seval]
      | true =>
        simp -implicitDefEqProofs only [go_sem,seval]
        refine ak (o9 hF) ?_
        simp -implicitDefEqProofs only [go_sem,seval]
        refine ak (iP _ hF.SH) ?_
        rw [KG hm]
        simp -implicitDefEqProofs only [go_sem,seval]
        refine ak (qO p p hF.few (by have:=hF.len;omega)) ?_
        simp -implicitDefEqProofs only [go_sem,seval]
end W10
/- The laws: Tree. -/
namespace W10
open Go Go.AX Go.AX.Ty Go.Proofs
open W10K (jK KY)
theorem RH (s:Str):bB Tryz.prog 4 [.str s] (.bool true):=by
  refine bf mix c4 (by kernel_rfl) (by kernel_rfl) (by simp [aI,au,Go.AX.flat]) (by first | exact au _ | simp [flat,aI,au]) ?_
  simp -implicitDefEqProofs only [F4,go_sem,seval]
  refine ak jC ?_
  rcases Nat.lt_or_ge 1500 s.length with hs | hs
  · have h1:((s.length:Int) > 1500)=True:=eq_true (by omega)
    simp -implicitDefEqProofs only [h1,go_sem,seval]
    refine ak jC ?_
    simp -implicitDefEqProofs only [go_sem,seval]
  have h1:((s.length:Int) > 1500)=False:=eq_false (by omega)
  simp -implicitDefEqProofs only [h1,go_sem,seval]
  refine ak (iP s (by omega)) ?_
  rcases kX (s:=s) (by omega) with ⟨e,he,hee⟩ | ⟨p,he,I,hq,hne⟩
  · rw [he]
    have e0:(e=0)=False:=eq_false (by omega)
    simp -implicitDefEqProofs only [e0,go_sem,seval]
  rw [he]
  simp -implicitDefEqProofs only [go_sem,seval]
  refine ak (KY p hq.ok) ?_
  rw [jK I.tree]
  have hl:=hq.len
  obtain ⟨x0,hx0,_,_⟩:=aW I.pos
  have hr:=I.root
  rw [fM hx0] at hr
  have hn0:x0.name=[]:=hr.1
  have h4:((p.length:Int) > 400)=False:=eq_false (by omega)
  have z0:(0 < p.length)=True:=eq_true I.pos
  have hx0':p[(0:Int).toNat]? = some x0:=hx0
  simp -implicitDefEqProofs only [hx0,hx0',Node.bY,Node.elem,hn0,h4,z0,go_sem,seval]
  refine bA (fun k:Nat=>p.length - k) (fun k=>[(3,Enc.av p),(5,.int .i64 k)]) (fun k s=>1 ≤ k ∧ k ≤ p.length) 1 ?_ ?_
  · simp -implicitDefEqProofs only [go_sem,seval]
    exact I.pos
  rintro k ρ ⟨g,m⟩ ⟨k1,k2⟩
  have w1:IntKind.i64.wrap ((k:Int) + 1)=((k + 1:Nat):Int):=by rw [wrap64 (by omega) (by omega)];omega
  rcases Nat.lt_or_ge k p.length with hk | hk
  rotate_left
  · have hlt:((k:Int) < (p.length:Int))=False:=eq_false (by omega)
    simp -implicitDefEqProofs only [hlt,go_sem,seval]
  have hlt:((k:Int) < (p.length:Int))=True:=eq_true (by omega)
  obtain ⟨x,hx,_,_⟩:=aW hk
  have hno:=I.node k k1 hk
  have hup:=I.up k k1 hk
  rw [fM hx] at hno hup
  obtain ⟨u,hu⟩:∃ u:Nat,x.up=u:=⟨x.up.toNat,by omega⟩
  have hul:u < p.length:=by omega
  obtain ⟨y,hy,_,hym⟩:=aW hul
  have hyk:=I.L8 hym
  have hx3:(Enc.cells y)[4]? = some (.ps y.kids.length (aj y.kids)):=rfl
  have hkids:∀ (i:Nat) (a:Int),y.kids[i]? = some a → ∃ (j:Nat) (z:Ty.Node),a=j ∧ p[j]? = some z:=fun i a ha=>by
    obtain ⟨j,e,g1,_⟩:=I.kid (n:=u) hul (a:=a) (by rw [fM hy];exact List.mem_of_getElem? ha)
    obtain ⟨z,hz,_,_⟩:=aW g1
    exact ⟨j,z,e,hz⟩
  rcases hno with ⟨n1,n2,n3,n4⟩ | ⟨n1,n2,n3,n4⟩
  case' inl=>
    have q1:=eq_true n1
    have q2:=eq_false n2
    have q4:x.kids.length=0:=by rw [n4];rfl
    simp -implicitDefEqProofs only [hlt,hx,hu,hy,Node.bY,Node.elem,q1,q2,q4,go_sem,seval]
  case' inr=>
    have q1:=eq_false n1.1
    have q2:=eq_true n3
    simp -implicitDefEqProofs only [hlt,hx,hu,hy,Node.bY,Node.elem,q1,q2,go_sem,seval]
  all_goals
    refine bA (fun j:Nat=>y.kids.length - j) (fun j=>[(3,Enc.av p),(5,.int .i64 k),(7,Enc.av y.kids),(8,.int .i64 j)]) (fun j s=>1 ≤ j) 1 ?_ ?_
    · simp -implicitDefEqProofs only [go_sem,seval]
    rintro j ρ ⟨g,m⟩ j1
    rcases Nat.lt_or_ge j y.kids.length with hj | hj
    rotate_left
    · have hlt2:((j:Int) < (y.kids.length:Int))=False:=eq_false (by omega)
      simp -implicitDefEqProofs only [hlt2,w1,go_sem,seval]
      exact ⟨k + 1,by omega,rfl,by omega⟩
    have hlt2:((j:Int) < (y.kids.length:Int))=True:=eq_true (by omega)
    have w2:IntKind.i64.wrap ((j:Int) + 1)=((j + 1:Nat):Int):=by rw [wrap64 (by omega) (by omega)];omega
    have w3:IntKind.i64.wrap ((j:Int) - 1)=((j - 1:Nat):Int):=by rw [wrap64 (by omega) (by omega)];omega
    obtain ⟨a,ha,_,_⟩:=aW hj
    obtain ⟨b,hb,_,_⟩:=aW (show j - 1 < y.kids.length by omega)
    obtain ⟨i1,z1,rfl,hz1⟩:=hkids j a ha
    obtain ⟨i2,z2,rfl,hz2⟩:=hkids (j - 1) b hb
    have hap:=I.apart u hul (j - 1) i2 i1 (by rw [fM hy];exact hb) (by rw [fM hy,Nat.sub_add_cancel j1];exact ha)
    rw [Int.toNat_natCast,Int.toNat_natCast,fM hz1,fM hz2] at hap
    by_cases e1:z1.name=[]
    · have e2:=eq_false (hap.resolve_right fun h=>h e1)
      have e1':=eq_true e1
      simp -implicitDefEqProofs only [hlt2,ha,hz1,hb,hz2,w2,w3,e1',e2,Node.bY,Node.elem,go_sem,seval]
      exact ⟨j + 1,by omega,rfl,by omega⟩
    · have e1':=eq_false e1
      simp -implicitDefEqProofs only [hlt2,ha,hz1,w2,w3,e1',Node.bY,Node.elem,go_sem,seval]
      exact ⟨j + 1,by omega,rfl,by omega⟩
end W10
/- The laws: Nest. -/
namespace W10
open Go Go.AX Go.AX.Ty Go.Proofs
def ni (n:Nat) (x:Str):Str:=(List.replicate n x).flatten
theorem ou (n:Nat) (x:Str):ni (n + 1) x=ni n x ++ x:=by simp [ni,List.replicate_succ',List.flatten_append]
theorem Cq (n:Nat) (x:Str):ni (n + 1) x=x ++ ni n x:=by simp [ni,List.replicate_succ]
theorem Ie (n:Nat) (x:Str):(ni n x).length=n * x.length:=by
  induction n with
  | zero=>simp [ni]
  | succ n ih=>rw [ou,List.length_append,ih,Nat.succ_mul]
def sA:Str:=[60,97,62]
def SB:Str:=[60,98,114,62,120]
def tA:Tag:=dY [97] []
def tB:Tag:=dY [98,114] []
def tX:Tag:=l6 [120]
def wR:Nat → List Tag
  | 0=>[]
  | n + 1=>tA :: wR n
def xG:Nat → List Tag
  | 0=>[]
  | n + 1=>tB :: tX :: xG n
theorem OM:∀ (n:Nat) (p:Tag),bP p (wR n)=ni n sA
  | 0,p=>rfl
  | n + 1, p => by
    rw [wR,bP,OM n,Cq]
    congr 1
theorem Oh:∀ (n:Nat) (p:Tag),bP p (xG n)=ni n SB
  | 0,p=>rfl
  | n + 1, p => by
    rw [xG,bP,bP,Oh n,Cq,← List.append_assoc]
    congr 1
theorem Zx:su [97]:=⟨by decide,by decide,by decide⟩
theorem Zu:su [98,114]:=⟨by decide,by decide,by decide⟩
theorem YF:zO []:=⟨by simp,by simp,by simp⟩
theorem X9:∀ (n:Nat) (p:Tag),¬ fG p → WF p (wR n)
  | 0,p,hp=>trivial
  | n + 1,p,hp=>⟨.inl ⟨rfl,Zx,YF,rfl⟩,fun h=>absurd h hp,X9 n _ fun h=>absurd h.2 (by decide)⟩
theorem YC:∀ (n:Nat) (p:Tag),¬ fG p → WF p (xG n)
  | 0,p,hp=>trivial
  | n + 1,p,hp=>⟨.inl ⟨rfl,Zu,YF,rfl⟩,fun h=>absurd h hp,.inr (.inr ⟨rfl,rfl,rfl,by decide⟩),fun h=>absurd h.2 (by decide),YC n _ fun h=>absurd h.1 (by decide)⟩
theorem Ye (n:Nat):dB (ni n sA)=wR n:=by rw [← OM n gZ];exact round _ _ gZ (Nat.le_refl _) kC (X9 n _ kC)
theorem Y0 (n:Nat):dB (ni n SB)=xG n:=by rw [← Oh n gZ];exact round _ _ gZ (Nat.le_refl _) kC (YC n _ kC)
theorem Sk {p:List Ty.Node} {os:List Nat} {n:Str} (h:xP n=false):sj p os n=os:=if_neg fun e=>by rw [h] at e;exact absurd e.2 (by simp)
theorem WB (st:PS):eO st tA=if 60 < st.os.length then .error 101 else if 400 ≤ st.pg.length then .error 100 else .ok ⟨dX st.pg (xU st.os) ⟨[97],[],[],0,[]⟩,st.pg.length :: st.os⟩:=by
  rw [eO,if_pos (show tA.kind=1 from rfl),jP,Sk (by decide)]
  rfl
theorem V5:∀ (n:Nat) (st:PS),st.pg.length=st.os.length → st.os.length ≤ 61 → (n + st.os.length ≤ 61 → ∃ st',fE (wR n) st=.ok st' ∧ st'.pg.length=st.pg.length + n) ∧ (61 < n + st.os.length → fE (wR n) st=.error 101)
  | 0,st,h1,h2=>⟨fun _=>⟨st,rfl,rfl⟩,fun h=>by omega⟩
  | n + 1, st, h1, h2 => by
    rw [wR,fE,WB]
    by_cases h3:60 < st.os.length
    · rw [if_pos h3]
      exact ⟨fun h=>by omega,fun _=>rfl⟩
    · rw [if_neg h3,if_neg (by omega)]
      obtain ⟨g1,g2⟩:=V5 n ⟨dX st.pg (xU st.os) ⟨[97],[],[],0,[]⟩,st.pg.length :: st.os⟩ (by simp only [jf,List.length_cons];omega) (by simp only [List.length_cons];omega)
      simp only [jf,List.length_cons] at g1 g2
      refine ⟨fun h=>?_,fun h=>g2 (by omega)⟩
      obtain ⟨st',e1,e2⟩:=g1 (by omega)
      exact ⟨st',e1,by omega⟩
theorem VW:∀ (n:Nat) (p:List Ty.Node),0 < p.length → p.length ≤ 400 → (2 * n + p.length ≤ 400 → ∃ q,fE (xG n) ⟨p,[0]⟩=.ok ⟨q,[0]⟩ ∧ q.length=p.length + 2 * n) ∧ (400 < 2 * n + p.length → fE (xG n) ⟨p,[0]⟩=.error 100)
  | 0,p,h0,h1=>⟨fun _=>⟨p,rfl,rfl⟩,fun h=>by omega⟩
  | n + 1, p, h0, h1 => by
    rw [xG,fE]
    have e1:eO ⟨p,[0]⟩ tB=if 400 ≤ p.length then .error 100 else .ok ⟨dX p 0 ⟨[98,114],[],[],0,[]⟩,[0]⟩:=by
      rw [eO,if_pos (show tB.kind=1 from rfl),jP,Sk (by decide)]
      rfl
    rw [e1]
    by_cases h3:400 ≤ p.length
    · rw [if_pos h3]
      exact ⟨fun h=>by omega,fun _=>rfl⟩
    rw [if_neg h3]
    simp only [fE]
    have e2:lastT (dX p 0 ⟨[98,114],[],[],0,[]⟩) 0=none:=by
      unfold lastT
      rw [gV h0 0,if_pos rfl]
      simp only [List.getLast?_concat]
      rw [Int.toNat_natCast,gV h0,if_neg (show ¬ p.length=0 by omega),if_pos rfl,if_neg (by simp)]
    have e3:eO ⟨dX p 0 ⟨[98,114],[],[],0,[]⟩,[0]⟩ tX=if 400 ≤ p.length + 1 then .error 100 else .ok ⟨dX (dX p 0 ⟨[98,114],[],[],0,[]⟩) 0 ⟨[],[],[120],0,[]⟩,[0]⟩:=by
      rw [eO,if_neg (by decide),if_neg (by decide),if_pos (show tX.kind=3 from rfl),jv]
      simp only [jc,e2,xV,jf]
      rfl
    rw [e3]
    by_cases h4:400 ≤ p.length + 1
    · rw [if_pos h4]
      exact ⟨fun h=>by omega,fun _=>rfl⟩
    rw [if_neg h4]
    obtain ⟨g1,g2⟩:=VW n (dX (dX p 0 ⟨[98,114],[],[],0,[]⟩) 0 ⟨[],[],[120],0,[]⟩) (by simp only [jf];omega) (by simp only [jf];omega)
    simp only [jf] at g1 g2
    refine ⟨fun h=>?_,fun h=>g2 (by omega)⟩
    obtain ⟨q,e1,e2⟩:=g1 (by omega)
    exact ⟨q,e1,by omega⟩
theorem Vn (n:Nat):(n ≤ 60 → ∃ p,dH (ni n sA)=(p,0) ∧ p.length=n + 1) ∧ (60 < n → dH (ni n sA)=([],101)):=by
  obtain ⟨g1,g2⟩:=V5 n tV rfl (by decide)
  have e1:tV.os.length=1:=rfl
  have e2:tV.pg.length=1:=rfl
  unfold dH
  rw [Ye]
  refine ⟨fun h=>?_,fun h=>by rw [g2 (by omega)];rfl⟩
  obtain ⟨st',h1,h2⟩:=g1 (by omega)
  exact ⟨st'.pg,by rw [h1];rfl,by omega⟩
theorem Ta (n:Nat):(2 * n + 1 ≤ 400 → ∃ p,dH (ni n SB)=(p,0) ∧ p.length=2 * n + 1) ∧ (400 < 2 * n + 1 → dH (ni n SB)=([],100)):=by
  obtain ⟨g1,g2⟩:=VW n tV.pg (by decide) (by decide)
  have e2:tV.pg.length=1:=rfl
  have e3:(⟨tV.pg,[0]⟩:PS)=tV:=rfl
  rw [e3,e2] at g1 g2
  unfold dH
  rw [Y0]
  refine ⟨fun h=>?_,fun h=>by rw [g2 (by omega)];rfl⟩
  obtain ⟨q,h1,h2⟩:=g1 (by omega)
  exact ⟨q,by rw [h1];rfl,by omega⟩
theorem Zr (n:Nat):ni (3 * n) SB ++ [60,98,114,62,120,60,98,114,62,120,60,98,114,62,120]=ni (3 * (n + 1)) SB:=by
  rw [show 3 * (n + 1)=3 * n + 1 + 1 + 1 by omega,ou,ou,ou,List.append_assoc,List.append_assoc];rfl
theorem Q8 (n:Int):bB Tryz.prog 5 [.int .i64 n] (.bool true):=by
  refine bf mix c5 (by kernel_rfl) (by kernel_rfl) (by simp [aI,au,Go.AX.flat]) (by first | exact au _ | simp [flat,aI,au]) ?_
  simp -implicitDefEqProofs only [F5,go_sem,seval]
  refine ak jC ?_
  by_cases h0:n < 0
  · simp -implicitDefEqProofs only [eq_true h0,go_sem,seval]
    refine ak jC ?_
    simp -implicitDefEqProofs only [go_sem,seval]
  have q0:=eq_false h0
  by_cases h1:n > 70
  · simp -implicitDefEqProofs only [q0,eq_true h1,go_sem,seval]
    refine ak jC ?_
    simp -implicitDefEqProofs only [go_sem,seval]
  have q1:=eq_false h1
  obtain ⟨k,rfl⟩:∃ k:Nat,n=k:=⟨n.toNat,by omega⟩
  simp -implicitDefEqProofs only [q0,q1,go_sem,seval]
  refine bA (fun i:Nat=>k - i) (fun i=>[(0,.int .i64 k),(3,.str (ni i sA)),(4,.str (ni (3 * i) SB)),(5,.int .i64 i)]) (fun i s=>i ≤ k) 0 ?_ ?_
  · simp -implicitDefEqProofs only [ni,List.replicate_zero,List.flatten_nil,go_sem,seval]
  rintro i ρ ⟨g,m⟩ hi
  have l1:=Ie i sA
  have l2:=Ie (3 * i) SB
  have l3:sA.length=3:=rfl
  have l4:SB.length=5:=rfl
  rw [l3] at l1
  rw [l4] at l2
  rcases Nat.lt_or_ge i k with hik | hik
  · have hlt:((i:Int) < (k:Int))=True:=eq_true (by omega)
    have w1:IntKind.i64.wrap ((i:Int) + 1)=((i + 1:Nat):Int):=by rw [wrap64 (by omega) (by omega)];omega
    have b1:((ni i sA).length + 3 ≤ 9223372036854775807)=True:=eq_true (by omega)
    have b2:((ni (3 * i) SB).length + 15 ≤ 9223372036854775807)=True:=eq_true (by omega)
    simp -implicitDefEqProofs only [hlt,w1,b1,b2,Zr,go_sem,seval]
    refine ⟨i + 1,by omega,⟨by rw [ou];rfl,rfl,rfl⟩,by omega⟩
  have e:i=k:=by omega
  subst e
  have hlt:((i:Int) < (i:Int))=False:=eq_false (by omega)
  simp -implicitDefEqProofs only [hlt,go_sem,seval]
  have w1:IntKind.i64.wrap ((i:Int) + 1)=((i + 1:Nat):Int):=by rw [wrap64 (by omega) (by omega)];omega
  have w2:IntKind.i64.wrap (6 * (i:Int))=((6 * i:Nat):Int):=by rw [wrap64 (by omega) (by omega)];omega
  have w3:IntKind.i64.wrap (1 + ((6 * i:Nat):Int))=((6 * i + 1:Nat):Int):=by rw [wrap64 (by omega) (by omega)];omega
  have w4:IntKind.i64.wrap (((6 * i:Nat):Int) + 1)=((6 * i + 1:Nat):Int):=by rw [wrap64 (by omega) (by omega)];omega
  obtain ⟨a1,a2⟩:=Vn i
  obtain ⟨b1,b2⟩:=Ta (3 * i)
  refine ak (iP _ (by omega)) ?_
  rcases Nat.lt_or_ge 60 i with hd | hd
  · have c1:((i:Int) > 60)=True:=eq_true (by omega)
    rw [a2 hd]
    rcases Nat.lt_or_ge 66 i with hm | hm
    · have c2:(((6 * i + 1:Nat):Int) > 400)=True:=eq_true (by omega)
      simp -implicitDefEqProofs only [go_sem,seval]
      refine ak (iP _ (by omega)) ?_
      rw [b2 (by omega)]
      simp -implicitDefEqProofs only [c1,c2,w1,w2,w3,w4,decide_true,decide_false,beq_self_eq_true,go_sem,seval]
    · have c2:(((6 * i + 1:Nat):Int) > 400)=False:=eq_false (by omega)
      obtain ⟨q,e1,e2⟩:=b1 (by omega)
      have e3:q.length=6 * i + 1:=by omega
      simp -implicitDefEqProofs only [go_sem,seval]
      refine ak (iP _ (by omega)) ?_
      rw [e1]
      simp -implicitDefEqProofs only [c1,c2,w1,w2,w3,w4,e3,decide_true,decide_false,beq_self_eq_true,go_sem,seval]
  · have c1:((i:Int) > 60)=False:=eq_false (by omega)
    have c2:(((6 * i + 1:Nat):Int) > 400)=False:=eq_false (by omega)
    obtain ⟨p,d1,d2⟩:=a1 hd
    obtain ⟨q,e1,e2⟩:=b1 (by omega)
    have e3:q.length=6 * i + 1:=by omega
    rw [d1]
    simp -implicitDefEqProofs only [go_sem,seval]
    refine ak (iP _ (by omega)) ?_
    rw [e1]
    simp -implicitDefEqProofs only [c1,c2,w1,w2,w3,w4,e3,d2,decide_true,decide_false,beq_self_eq_true,go_sem,seval]
end W10
/- The laws: Kin. -/
namespace W10
open Go Go.AX Go.AX.Ty Go.Proofs
open W10K (eP iD nodeAt gy qK om CV gT wI D7 jQ uD mh)
theorem BL {p:List Ty.Node} {k:Nat} {x:Ty.Node} (h:p[k]? = some x):eP p (k:Int)=decide (x.name ≠ []):=by simp only [eP,gy,h]
theorem count_one:∀ {l:List Int} {a:Int},l.Pairwise (· < ·) → a ∈ l → l.count a=1
  | b :: r, a, hd, h => by
    rw [List.pairwise_cons] at hd
    rw [List.count_cons]
    rcases List.mem_cons.1 h with rfl | h
    · rw [List.count_eq_zero.2 (fun h=>by have:=hd.1 a h;omega)];simp
    · have:=hd.1 a h
      rw [count_one hd.2 h]
      simp;omega
structure Y3 (p:List Ty.Node) (k:Nat) (x:Ty.Node):Prop where
  len:(iD p k).length ≤ 400
  each:∀ a ∈ iD p k,∃ (i:Nat) (z:Ty.Node),a=i ∧ p[i]? = some z ∧ z.up=x.up ∧ eP p (i:Int)=true ∧ iD p i=iD p k
  cnt:(iD p k).count (k:Int)=if x.name ≠ [] then 1 else 0
theorem PI.Y5 {p:List Ty.Node} (I:PI p) {k:Nat} {x:Ty.Node} (hx:p[k]? = some x):Y3 p k x:=by
  by_cases hn:x.name=[]
  · have e:iD p k=[]:=by simp only [iD,gy,hx,if_pos hn]
    refine ⟨by rw [e];decide,fun a ha=>by rw [e] at ha;simp at ha,by rw [e];simp [hn]⟩
  have hk:=fC hx
  have h1:1 ≤ k:=by
    rcases Nat.lt_or_ge k 1 with h0 | h0
    · exfalso
      have e:k=0:=by omega
      subst e
      rw [← fM hx] at hn
      exact hn I.root.1
    · exact h0
  have hup:=I.up k h1 hk
  rw [fM hx] at hup
  obtain ⟨u,hu⟩:∃ u:Nat,x.up=u:=⟨x.up.toNat,by omega⟩
  have hul:u < p.length:=by omega
  obtain ⟨y,hy,_,hym⟩:=aW hul
  have e:∀ (i:Nat) (z:Ty.Node),p[i]? = some z → z.name ≠ [] → z.up=u → iD p i=y.kids.filter (eP p):=fun i z hz hzn hzu=>by
    simp only [iD,gy,hz,if_neg hzn,hzu,hy]
  rw [← fM hy] at e
  have ek:=e k x hx hn hu
  have hs:(nd p u).kids.Pairwise (· < ·):=by rw [I.kids u hul];exact j6 _ _ _
  refine ⟨?_,fun a ha=>?_,?_⟩
  · rw [ek]
    exact Nat.le_trans (List.length_filter_le _ _) (by rw [fM hy];exact I.L8 hym)
  · rw [ek,List.mem_filter] at ha
    obtain ⟨i,rfl,g1,g2,g3,g4⟩:=I.kid hul ha.1
    obtain ⟨z,hz,_,_⟩:=aW g1
    have hzn:z.name ≠ []:=by have:=ha.2;rw [BL hz] at this;simpa using this
    rw [fM hz] at g3
    exact ⟨i,z,rfl,hz,by rw [g3,hu],ha.2,by rw [ek];exact e i z hz hzn g3⟩
  · rw [if_pos hn,ek]
    refine count_one (hs.filter _) ?_
    rw [List.mem_filter]
    refine ⟨?_,by rw [BL hx];simpa using hn⟩
    rw [I.kids u hul]
    exact mq.2 ⟨k,rfl,hk,h1,by rw [fM hx];exact hu⟩
theorem WG {p:List Ty.Node} (hp:Enc.ok p) {k:Nat} {x:Ty.Node} (hx:p[k]? = some x) (hn:x.name ≠ []) {a:Ty.Attr} {r:List Ty.Attr} (ha:x.attrs=a :: r):bB Tryz.prog 22 [Enc.av p,.int .i64 k] (.bool true):=by
  refine bf mix c22 (by kernel_rfl) (by kernel_rfl) (by simp [aI,au,Go.AX.flat]) (by first | exact au _ | simp [flat,aI,au]) ?_
  have h0:x.attrs[0]? = some a:=by rw [ha];rfl
  simp -implicitDefEqProofs only [F22,hx,h0,Node.bY,Node.elem,Attr.bY,Attr.elem,go_sem,seval]
  refine ak (qK p hp k a.name) ?_
  have e:W10K.bK p k a.name=(a.value,true):=by
    simp only [W10K.bK,gy,hx,if_neg hn,ha,List.find?_cons,beq_self_eq_true]
  rw [e]
  simp -implicitDefEqProofs only [go_sem,seval]
theorem rX:∀ (s acc:Str),(W10K.eF s acc).length ≤ s.length + 1
  | [],acc=>by unfold W10K.eF;split <;> simp
  | c :: s, acc => by
    unfold W10K.eF
    have h1:=rX s []
    have h2:=rX s (acc ++ [c])
    split
    · split
      · simp only [List.length_cons];omega
      · simp only [List.length_cons];omega
    · simp only [List.length_cons];omega
theorem Us (s:Str):bB Tryz.prog 6 [.str s] (.bool true):=by
  refine bf mix c6 (by kernel_rfl) (by kernel_rfl) (by simp [aI,au,Go.AX.flat]) (by first | exact au _ | simp [flat,aI,au]) ?_
  simp -implicitDefEqProofs only [F6,go_sem,seval]
  refine ak jC ?_
  rcases Nat.lt_or_ge 1500 s.length with hs | hs
  · have h1:((s.length:Int) > 1500)=True:=eq_true (by omega)
    simp -implicitDefEqProofs only [h1,go_sem,seval]
    refine ak jC ?_
    simp -implicitDefEqProofs only [go_sem,seval]
  have h1:((s.length:Int) > 1500)=False:=eq_false (by omega)
  simp -implicitDefEqProofs only [h1,go_sem,seval]
  refine ak (iP s (by omega)) ?_
  rcases kX (s:=s) (by omega) with ⟨e,he,hee⟩ | ⟨p,he,I,hq,hne⟩
  · rw [he]
    have e0:(e=0)=False:=eq_false (by omega)
    simp -implicitDefEqProofs only [e0,go_sem,seval]
  rw [he]
  have hl:=hq.len
  simp -implicitDefEqProofs only [go_sem,seval]
  refine bA (fun k:Nat=>p.length - k) (fun k=>[(3,Enc.av p),(5,.int .i64 k)]) (fun k s=>k ≤ p.length) 0 ?_ ?_
  · simp -implicitDefEqProofs only [go_sem,seval]
  rintro k ρ ⟨g,m⟩ k2
  have w1:IntKind.i64.wrap ((k:Int) + 1)=((k + 1:Nat):Int):=by rw [wrap64 (by omega) (by omega)];omega
  rcases Nat.lt_or_ge k p.length with hk | hk
  rotate_left
  · have hlt:((k:Int) < (p.length:Int))=False:=eq_false (by omega)
    simp -implicitDefEqProofs only [hlt,go_sem,seval]
  have hlt:((k:Int) < (p.length:Int))=True:=eq_true (by omega)
  obtain ⟨x,hx,_,hxm⟩:=aW hk
  have K:=I.Y5 hx
  simp -implicitDefEqProofs only [hlt,go_sem,seval]
  refine ak (CV p hq.ok k (I.kin k)) ?_
  simp -implicitDefEqProofs only [go_sem,seval]
  refine bA (fun j:Nat=>(iD p k).length - j) (fun j=>[(3,Enc.av p),(5,.int .i64 k),(6,Enc.av (iD p k)),(7,.int .i64 (((iD p k).take j).count (k:Int):Nat)),(8,.int .i64 j)]) (fun j s=>j ≤ (iD p k).length) 0 ?_ ?_
  · simp -implicitDefEqProofs only [List.take_zero,List.count_nil,go_sem,seval]
  rintro j ρ ⟨g,m⟩ j2
  have hLl:=K.len
  rcases Nat.lt_or_ge j (iD p k).length with hj | hj
  · have hlt2:((j:Int) < ((iD p k).length:Int))=True:=eq_true (by omega)
    have w2:IntKind.i64.wrap ((j:Int) + 1)=((j + 1:Nat):Int):=by rw [wrap64 (by omega) (by omega)];omega
    obtain ⟨a,ha,_,ham⟩:=aW hj
    obtain ⟨i,z,rfl,hz,hzu,hze,hzk⟩:=K.each a ham
    have hc0:((iD p k).take j).count (k:Int) ≤ 400:=Nat.le_trans List.count_le_length (by rw [List.length_take];omega)
    have hc:((iD p k).take (j + 1)).count (k:Int)=((iD p k).take j).count (k:Int) + (if (i:Int)=k then 1 else 0):=by
      rw [List.take_add_one,ha,List.count_append]
      simp [List.count_singleton]
    have w3:IntKind.i64.wrap (((((iD p k).take j).count (k:Int):Nat):Int) + 1)=(((((iD p k).take j).count (k:Int) + 1:Nat)):Int):=by rw [wrap64 (by omega) (by omega)];omega
    by_cases hik:(i:Int)=k
    case' pos=>
      rw [if_pos hik] at hc
      have q1:=eq_true hik
      simp -implicitDefEqProofs only [hlt2,ha,hx,hz,hzu,q1,w3,Node.bY,Node.elem,go_sem,seval]
    case' neg=>
      rw [if_neg hik] at hc
      have q1:=eq_false hik
      simp -implicitDefEqProofs only [hlt2,ha,hx,hz,hzu,q1,Node.bY,Node.elem,go_sem,seval]
    all_goals
      refine iR (gT p i) ?_
      rw [hze]
      rcases Nat.lt_or_ge j 3 with j3 | j3
      · have q3:((j:Int) < 3)=True:=eq_true (by omega)
        simp -implicitDefEqProofs only [hlt2,ha,hx,hz,hzu,q1,q3,Node.bY,Node.elem,go_sem,seval]
        refine iR (CV p hq.ok i (I.kin i)) ?_
        rw [hzk]
        simp -implicitDefEqProofs only [hlt2,ha,hx,hz,hzu,q1,q3,Node.bY,Node.elem,go_sem,seval]
        refine aA (by kernel_rfl) ?_
        simp -implicitDefEqProofs only [q3,go_sem,seval]
        refine ak (wI (iD p k) (iD p k) (by omega)) ?_
        simp -implicitDefEqProofs only [w2,decide_true,go_sem,seval]
        exact ⟨j + 1,by omega,by rw [hc];exact ⟨rfl,rfl⟩,by omega⟩
      · have q3:((j:Int) < 3)=False:=eq_false (by omega)
        simp -implicitDefEqProofs only [hlt2,ha,hx,hz,hzu,q1,q3,Node.bY,Node.elem,go_sem,seval]
        refine aA (by kernel_rfl) ?_
        simp -implicitDefEqProofs only [q3,w2,go_sem,seval]
        exact ⟨j + 1,by omega,by rw [hc];exact ⟨rfl,rfl⟩,by omega⟩
  · have hlt2:((j:Int) < ((iD p k).length:Int))=False:=eq_false (by omega)
    have hcnt:=K.cnt
    rw [List.take_of_length_le hj]
    have hel:=BL hx
    by_cases hn:x.name=[]
    · rw [if_neg (by simp [hn])] at hcnt
      have hel':eP p k=false:=by rw [hel];simp [hn]
      rw [hcnt]
      simp -implicitDefEqProofs only [hlt2,go_sem,seval]
      refine ak (gT p k) ?_
      rw [hel']
      simp -implicitDefEqProofs only [go_sem,seval]
      refine ak (qK p hq.ok.ok k iq) ?_
      simp -implicitDefEqProofs only [go_sem,seval]
      refine ak (om p hq.ok k) ?_
      simp -implicitDefEqProofs only [go_sem,seval]
      refine ak (D7 _ (mh hq.ok k iq)) ?_
      simp -implicitDefEqProofs only [go_sem,seval]
      refine ak (Dz (jQ (W10K.bK p k iq).1) (jQ (W10K.bK p k iq).1) ?_) ?_
      · exact Nat.le_trans (rX _ _) (by have:=mh hq.ok k iq;omega)
      have hat:x.attrs.length=0:=by
        rcases Nat.lt_or_ge k 1 with h0 | h0
        · have e:k=0:=by omega
          subst e
          have:=I.root.2.2.1
          rw [fM hx] at this
          rw [this];rfl
        · have:=I.node k h0 hk
          rw [fM hx] at this
          rcases this with g | g
          · rw [g.2.2.1];rfl
          · exact absurd hn g.1.1
      simp -implicitDefEqProofs only [decide_true,hx,hat,w1,Node.bY,Node.elem,go_sem,seval]
      exact ⟨k + 1,by omega,rfl,by omega⟩
    · rw [if_pos hn] at hcnt
      have hel':eP p k=true:=by rw [hel];simp [hn]
      rw [hcnt]
      simp -implicitDefEqProofs only [hlt2,go_sem,seval]
      refine ak (gT p k) ?_
      rw [hel']
      simp -implicitDefEqProofs only [go_sem,seval]
      refine ak (qK p hq.ok.ok k iq) ?_
      simp -implicitDefEqProofs only [go_sem,seval]
      refine ak (om p hq.ok k) ?_
      simp -implicitDefEqProofs only [go_sem,seval]
      refine ak (D7 _ (mh hq.ok k iq)) ?_
      simp -implicitDefEqProofs only [go_sem,seval]
      refine ak (Dz (jQ (W10K.bK p k iq).1) (jQ (W10K.bK p k iq).1) ?_) ?_
      · exact Nat.le_trans (rX _ _) (by have:=mh hq.ok k iq;omega)
      cases hat:x.attrs with
      | nil =>
        have hat':x.attrs.length=0:=by rw [hat];rfl
        simp -implicitDefEqProofs only [decide_true,hx,hat',w1,Node.bY,Node.elem,go_sem,seval]
        exact ⟨k + 1,by omega,rfl,by omega⟩
      | cons a r =>
        have hat':((x.attrs.length:Int) > 0)=True:=eq_true (by rw [hat];simp only [List.length_cons];omega)
        simp -implicitDefEqProofs only [decide_true,hx,hat',w1,Node.bY,Node.elem,go_sem,seval]
        refine ak (WG hq.ok.ok hx hn hat) ?_
        simp -implicitDefEqProofs only [decide_true,hx,hat',w1,Node.bY,Node.elem,go_sem,seval]
        exact ⟨k + 1,by omega,rfl,by omega⟩
end W10
/- The laws: Ends. -/
namespace W10
open Go Go.AX Go.AX.Ty Go.Proofs
def preS:Str:=[60,47,97,62,60,47,110,111,110,101,62,60,47,115,116,121,108,101,62]
def J8:Str:=[60,47,110,111,110,101,62,60,47,98,62,60,47,97,62,60,47,100,105,118,62,60,47,104,116,109,108,62]
def YB:List Tag:=[bJ [97],bJ [110,111,110,101],bJ bH]
def YJ:List Tag:=[bJ [110,111,110,101],bJ [98],bJ [97],bJ [100,105,118],bJ [104,116,109,108]]
theorem O9 {n:Str} (h:decide (n ≠ [] ∧ aC n=n.length ∧ aK n=n)=true):su n:=of_decide_eq_true (p:=n ≠ [] ∧ aC n=n.length ∧ aK n=n) h
theorem zK {n:Str} (h:su n) (w:Str):dB ([60,47] ++ n ++ [62] ++ w)=bJ n :: dB w:=by
  rw [je (by simp),rW h];rfl
theorem Te (w:Str):dB (preS ++ w)=YB ++ dB w:=by
  have e:preS ++ w=[60,47] ++ [97] ++ [62] ++ ([60,47] ++ [110,111,110,101] ++ [62] ++ ([60,47] ++ bH ++ [62] ++ w)):=rfl
  rw [e,zK (O9 (by decide)),zK (O9 (by decide)),zK (O9 (by decide))];rfl
theorem Tg:dB J8=YJ:=by decide +kernel
theorem HY:∀ (l:List Tag),(∀ t ∈ l,t.kind=2) → ∀ st:PS,∃ os,fE l st=.ok ⟨st.pg,os⟩
  | [],_,st=>⟨st.os,rfl⟩
  | t :: l, h, st => by
    have hk:=h t (by simp)
    rw [fE,eO,if_neg (by omega),if_pos hk]
    obtain ⟨os,e⟩:=HY l (fun x hx=>h x (by simp [hx])) (vo st t.name)
    exact ⟨os,e⟩
theorem Tw:fE YB tV=.ok tV:=by rfl
theorem LB (s:Str):dH (preS ++ s ++ (eE ++ J8))=dH (s ++ eE):=by
  unfold dH
  have e:preS ++ s ++ (eE ++ J8)=preS ++ (s ++ eE ++ J8):=by simp
  rw [e,Te,uz Tw,both J8 _ s (Nat.le_refl _),Tg,qx]
  cases fE (dB (s ++ eE)) tV with
  | error e=>rfl
  | ok st =>
    obtain ⟨os,e⟩:=HY YJ (by decide) st
    simp only [e];rfl
theorem RD (s:Str):bB Tryz.prog 7 [.str s] (.bool true):=by
  refine bf mix c7 (by kernel_rfl) (by kernel_rfl) (by simp [aI,au,Go.AX.flat]) (by first | exact au _ | simp [flat,aI,au]) ?_
  simp -implicitDefEqProofs only [F7,go_sem,seval]
  refine ak jC ?_
  rcases Nat.lt_or_ge 700 s.length with hs | hs
  · have h1:((s.length:Int) > 700)=True:=eq_true (by omega)
    simp -implicitDefEqProofs only [h1,go_sem,seval]
    refine ak jC ?_
    simp -implicitDefEqProofs only [go_sem,seval]
  have h1:((s.length:Int) > 700)=False:=eq_false (by omega)
  have b1:(s.length + 20 ≤ 9223372036854775807)=True:=eq_true (by omega)
  have b2:(19 + s.length ≤ 9223372036854775807)=True:=eq_true (by omega)
  have b3:(19 + s.length + 48 ≤ 9223372036854775807)=True:=eq_true (by omega)
  have b4:(s.length ≤ 9223372036854775740)=True:=eq_true (by omega)
  have p1:=iP (s ++ eE) (by simp [eE];omega)
  have p2:=iP (preS ++ s ++ (eE ++ J8)) (by simp [eE,preS,J8];omega)
  rw [LB] at p2
  simp -implicitDefEqProofs only [h1,b1,go_sem,seval]
  refine ak p1 ?_
  rcases kX (s:=s ++ eE) (by simp [eE];omega) with ⟨e,he,hee⟩ | ⟨p,he,I,hq,hne⟩
  · rw [he] at p2 ⊢
    simp -implicitDefEqProofs only [b1,b2,b3,b4,go_sem,seval]
    refine ak p2 ?_
    simp -implicitDefEqProofs only [go_sem,seval]
    refine ak (qO [] [] (by simp) (by simp)) ?_
    simp -implicitDefEqProofs only [go_sem,seval]
  · rw [he] at p2 ⊢
    simp -implicitDefEqProofs only [b1,b2,b3,b4,go_sem,seval]
    refine ak p2 ?_
    simp -implicitDefEqProofs only [go_sem,seval]
    refine ak (qO p p hq.few (by have:=hq.len;omega)) ?_
    simp -implicitDefEqProofs only [go_sem,seval]
end W10
