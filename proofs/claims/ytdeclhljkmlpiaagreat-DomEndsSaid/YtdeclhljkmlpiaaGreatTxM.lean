/- dom.Same; lists of texts; small functions of the builder. -/
import Derived.Test.YtdeclhljkmlpiaaGreatTxK
import Derived.Test.YtdeclhljkmlpiaaGreatTxL
set_option linter.unusedSimpArgs false
set_option linter.unusedVariables false
namespace W10
open Go Go.AX Go.AX.Ty Go.Proofs
theorem TR (x y:Ty.Node) (ha:x.attrs.length ≤ 100000) (hk:x.kids.length ≤ 100000):bB Tryz.prog 32 [Enc.av x,Enc.av y] (.bool (decide (x=y))):=by
  refine bf mix c32 (by kernel_rfl) (by kernel_rfl) (by simp [aI,au,Go.AX.flat]) (by first | exact au _ | simp [flat,aI,au]) ?_
  simp -implicitDefEqProofs only [F32,Node.KA,go_sem,seval]
  have ex:∀ (p q:Prop) [Decidable p] [Decidable q],(p ↔ q) → decide p=decide q:=fun p q _ _ h=>by simp [h]
  by_cases e1:x.name=y.name
  · by_cases e2:x.text=y.text
    · by_cases e3:x.up=y.up
      · simp -implicitDefEqProofs only [eq_true e1,eq_true e2,eq_true e3,go_sem,seval]
        refine ak (Rq x.attrs y.attrs ha) ?_
        by_cases e4:x.attrs=y.attrs
        · simp -implicitDefEqProofs only [eq_true e1,eq_true e2,eq_true e3,decide_eq_true e4,go_sem,seval]
          refine ak (W10K.DL x.kids y.kids (by omega)) ?_
          simp -implicitDefEqProofs only [eq_true e1,eq_true e2,eq_true e3,decide_eq_true e4,go_sem,seval]
          congr 1
          exact ex _ _ ⟨fun h=>Node.ext e1 e4 e2 e3 h,fun h=>by rw [h]⟩
        · simp -implicitDefEqProofs only [eq_true e1,eq_true e2,eq_true e3,decide_eq_false e4,go_sem,seval]
          simp;intro h;exact e4 (by rw [h])
      · simp -implicitDefEqProofs only [eq_true e1,eq_true e2,eq_false e3,go_sem,seval]
        simp;intro h;exact e3 (by rw [h])
    · simp -implicitDefEqProofs only [eq_true e1,eq_false e2,go_sem,seval]
      simp;intro h;exact e2 (by rw [h])
  · simp -implicitDefEqProofs only [eq_false e1,go_sem,seval]
    simp;intro h;exact e1 (by rw [h])
theorem O6 (a b:List Ty.Node) (ha:∀ x ∈ a,x.attrs.length ≤ 100000 ∧ x.kids.length ≤ 100000) (hl0:a.length ≤ 1000000):bB Tryz.prog 31 [Enc.av a,Enc.av b,.fn (.func 32) [] []] (.bool (decide (a=b))):=by
  refine bf mix c31 (by kernel_rfl) (by kernel_rfl) (by simp [aI,au,Go.AX.flat]) (by first | exact au _ | simp [flat,aI,au]) ?_
  by_cases hl:a.length=b.length
  · have hl':((a.length:Int)=(b.length:Int))=True:=eq_true (by omega)
    simp -implicitDefEqProofs only [F31,hl',go_sem,seval]
    refine bA (fun k:Nat=>a.length - k) (fun k=>[(0,Enc.av a),(1,Enc.av b),(2,.fn (.func 32) [] []),(15,Enc.av a),(16,.int .i64 a.length),(17,.int .i64 k)])
      (fun k st=>k ≤ a.length ∧ decide (a=b)=decide (a.drop k=b.drop k)) 0 ?_ ?_
    · simp -implicitDefEqProofs only [List.drop_zero,go_sem,seval]
    rintro k ρ ⟨hh,mm⟩ ⟨n1,n2⟩
    rw [n2]
    have w1:IntKind.i64.wrap ((k:Int) + 1)=((k + 1:Nat):Int):=by rw [wrap64 (by omega) (by omega)];omega
    rcases Nat.lt_or_ge k a.length with hn | hn
    · obtain ⟨x,hx,hdx,hm⟩:=aW hn
      obtain ⟨y,hy,hdy,_⟩:=aW (hl ▸ hn)
      have h2:((k:Int) < (a.length:Int))=True:=eq_true (by omega)
      have m1:(mm + 1=mm)=False:=eq_false (by omega)
      simp -implicitDefEqProofs only [h2,hx,hy,Node.bY,Node.elem,m1,go_sem,seval]
      refine ak (TR x y (ha x hm).1 (ha x hm).2) ?_
      rw [hdx,hdy]
      by_cases e:x=y
      · simp -implicitDefEqProofs only [eq_true e,decide_true,w1,go_sem,seval]
        exact ⟨k + 1,by omega,rfl,by omega,by simp [e]⟩
      · simp -implicitDefEqProofs only [eq_false e,decide_false,go_sem,seval]
        simp [e]
    · have h2:((k:Int) < (a.length:Int))=False:=eq_false (by omega)
      simp -implicitDefEqProofs only [h2,go_sem,seval]
      rw [List.drop_of_length_le hn,List.drop_of_length_le (by omega)];simp
  · have hl':((a.length:Int)=(b.length:Int))=False:=eq_false (by omega)
    simp -implicitDefEqProofs only [F31,hl',go_sem,seval]
    simp;intro h;exact hl (by rw [h])
theorem qO (a b:List Ty.Node) (ha:∀ x ∈ a,x.attrs.length ≤ 100000 ∧ x.kids.length ≤ 100000) (hl0:a.length ≤ 1000000):bB Tryz.prog 12 [Enc.av a,Enc.av b] (.bool (decide (a=b))):=by
  refine bf mix c12 (by kernel_rfl) (by kernel_rfl) (by simp [aI,au,Go.AX.flat]) (by first | exact au _ | simp [flat,aI,au]) ?_
  simp -implicitDefEqProofs only [F12,go_sem,seval]
  refine ak (O6 a b ha hl0) ?_
  simp -implicitDefEqProofs only [go_sem,seval]
theorem Dz (a b:List Str) (hl:a.length ≤ 100000000):bB Tryz.prog 20 [Enc.av a,Enc.av b] (.bool (decide (a=b))):=by
  refine bf mix c20 (by kernel_rfl) (by kernel_rfl) (by simp [aI,au,Go.AX.flat]) (by first | exact au _ | simp [flat,aI,au]) ?_
  by_cases hlen:a.length=b.length
  case neg=>
    have hne:((a.length:Int)=(b.length:Int))=False:=eq_false (by omega)
    rw [decide_eq_false (fun e=>hlen (by rw [e]))]
    simp -implicitDefEqProofs only [F20,hne,go_sem,seval]
  have hne:((a.length:Int)=(b.length:Int))=True:=eq_true (by omega)
  simp -implicitDefEqProofs only [F20,hne,go_sem,seval]
  refine bA (fun k:Nat=>a.length - k) (fun k=>[(0,Enc.av a),(1,Enc.av b),(5,.int .i64 k)]) (fun k s=>k ≤ a.length ∧ a.take k=b.take k) 0 ?_ ?_
  · simp -implicitDefEqProofs only [List.take_zero,go_sem,seval]
  rintro k ρ ⟨g,m⟩ ⟨h1,h2⟩
  rcases Nat.lt_or_ge k a.length with hk | hk
  · obtain ⟨x,hx,hd,hm⟩:=aW hk
    obtain ⟨y,hy,hd2,hm2⟩:=aW (show k < b.length by omega)
    have hlt:((k:Int) < (a.length:Int))=True:=eq_true (by omega)
    have w1:IntKind.i64.wrap ((k:Int) + 1)=((k + 1:Nat):Int):=by rw [wrap64 (by omega) (by omega)];omega
    simp -implicitDefEqProofs only [hlt,hx,hy,w1,go_sem,seval]
    refine aA (by kernel_rfl) ?_
    by_cases hxy:x=y
    · simp -implicitDefEqProofs only [hxy,w1,go_sem,seval]
      refine ⟨k + 1,by omega,rfl,by omega,?_⟩
      rw [List.take_add_one,List.take_add_one,h2,hx,hy,hxy]
    · simp -implicitDefEqProofs only [hxy,go_sem,seval]
      rw [decide_eq_false (fun e=>hxy (by rw [e,hy] at hx;simpa using hx.symm))]
  · have hlt:((k:Int) < (a.length:Int))=False:=eq_false (by omega)
    simp -implicitDefEqProofs only [hlt,go_sem,seval]
    rw [decide_eq_true (W10K.sS h2 (by omega) hlen)]
theorem Mt (n:Str):bB Tryz.prog 46 [.str n] (.bool (xP n)):=by
  refine bf mix c46 (by kernel_rfl) (by kernel_rfl) (by simp [aI,au,Go.AX.flat]) (by first | exact au _ | simp [flat,aI,au]) ?_
  simp -implicitDefEqProofs only [F46,go_sem,seval]
  refine ak (Bq [[112],[108,105],[111,112,116,105,111,110],[116,100],[116,114]] n (by decide)) ?_
  simp -implicitDefEqProofs only [xP,go_sem,seval]
theorem FM (l:List Ty.Attr) (hl:l.length ≤ 1000000000):bB Tryz.prog 48 [Enc.av l] (Enc.av l):=by
  refine bf mix c48 (by kernel_rfl) (by kernel_rfl) (by simp [aI,au,Go.AX.flat]) (by first | exact au _ | simp [flat,aI,au]) ?_
  simp -implicitDefEqProofs only [F48,go_sem,seval]
  have hc:(aj l).length=l.length * 2:=dh l
  have hb:(l.length * 32 ≤ 140737488355328)=True:=eq_true (by omega)
  by_cases h0:l=[]
  · subst h0
    simp -implicitDefEqProofs only [List.length_nil,Nat.lt_irrefl,decide_true,go_sem,seval]
    refine Ci ?_ ?_
    · simp -implicitDefEqProofs only [aj,go_sem,seval]
    · simp -implicitDefEqProofs only [aj,go_sem,seval]
      simp [eT,view,St.get,AX.look]
  · have h1:=List.length_pos_iff.2 h0
    have hT:(0 < l.length)=True:=eq_true h1
    have hz:(l.length=0)=False:=eq_false (by omega)
    have ht:List.take (l.length * 2) (aj l)=aj l:=List.take_of_length_le (by omega)
    simp -implicitDefEqProofs only [hT,hz,hc,hb,ht,go_sem,seval]
    simp [eT,view,St.get,AX.look,hc,ht]
end W10
/- The builder: what it holds; innermost. -/
namespace W10
open Go Go.AX Go.AX.Ty Go.Proofs
def l8 (K:List Int) (i:Nat):AV:=if K=[] then .nils else .sl i (2 * K.length + 1) 0 K.length 1
def mU (x:Ty.Node × Nat):List AV:=[.str x.1.name,.ps x.1.attrs.length (aj x.1.attrs),.str x.1.text,.int .i64 x.1.up,l8 x.1.kids x.2]
def gY:List (Ty.Node × Nat) → List AV
  | []=>[]
  | x :: r=>mU x ++ gY r
def uq (os:List Nat):List Int:=os.reverse.map fun k:Nat=>(k:Int)
structure Bd (b pid oid e1 e2:Nat) (L:List (Ty.Node × Nat)) (oc:List AV) (os:List Nat) (s:St):Prop where
  wf:Wf s
  gb:s.get b=some (.cells 1 [.sl pid e1 0 L.length 5,.sl oid e2 0 os.length 1] false)
  gp:s.get pid=some (.cells e1 (gY L) false)
  go:s.get oid=some (.cells e2 (aj (uq os) ++ oc) false)
  gk:∀ x ∈ L,x.1.kids ≠ [] → s.get x.2=some (.cells (2 * x.1.kids.length + 1) (aj x.1.kids) false)
  bp:b ≠ pid
  bo:b ≠ oid
  po:pid ≠ oid
  kd:∀ x ∈ L,x.1.kids ≠ [] → x.2 ≠ b ∧ x.2 ≠ pid ∧ x.2 ≠ oid
  inj:∀ (i j:Nat) (x y:Ty.Node × Nat),L[i]? = some x → L[j]? = some y → x.1.kids ≠ [] → y.1.kids ≠ [] → x.2=y.2 → i=j
theorem iB:∀ L:List (Ty.Node × Nat),(gY L).length=L.length * 5
  | []=>rfl
  | x :: r=>by rw [gY,List.length_append,iB r,List.length_cons];simp [mU];omega
theorem yw:∀ A B:List (Ty.Node × Nat),gY (A ++ B)=gY A ++ gY B
  | [],B=>rfl
  | x :: r,B=>by rw [List.cons_append,gY,gY,yw r B,List.append_assoc]
theorem fK:∀ (L:List (Ty.Node × Nat)) (u:Nat) (x:Ty.Node × Nat),L[u]? = some x → (gY L).drop (u * 5)=mU x ++ gY (L.drop (u + 1))
  | [],u,x,h=>by simp at h
  | y :: r,0,x,h=>by simp at h;subst h;simp [gY]
  | y :: r, u + 1, x, h => by
    rw [List.getElem?_cons_succ] at h
    rw [gY,show (u + 1) * 5=(mU y).length + u * 5 by simp [mU];omega,List.drop_append,List.drop_of_length_le (by omega),Nat.add_sub_cancel_left,List.nil_append,fK r u x h,List.drop_succ_cons]
theorem zF:∀ (L:List (Ty.Node × Nat)) (u:Nat),u ≤ L.length → (gY L).take (u * 5)=gY (L.take u)
  | L,0,h=>by simp [gY]
  | [],u + 1,h=>by simp at h
  | y :: r, u + 1, h => by
    rw [gY,show (u + 1) * 5=(mU y).length + u * 5 by simp [mU];omega,List.take_append,List.take_of_length_le (by omega),Nat.add_sub_cancel_left,zF r u (by simpa using h),List.take_succ_cons,gY]
theorem vk (os:List Nat):(uq os).length=os.length:=by simp [uq]
theorem zN (a:Nat) (r:List Nat):uq (a :: r)=uq r ++ [(a:Int)]:=by simp [uq]
theorem Bd.lt {b pid oid e1 e2:Nat} {L:List (Ty.Node × Nat)} {oc:List AV} {os:List Nat} {s:St} (B:Bd b pid oid e1 e2 L oc os s) {id:Nat} {o:AX.Obj} (h:s.get id=some o):id < s.next:=by
  rcases Nat.lt_or_ge id s.next with h1 | h1
  · exact h1
  · rw [B.wf id h1] at h;simp at h
theorem lH {b pid oid e1 e2:Nat} {L:List (Ty.Node × Nat)} {oc:List AV} {u:Nat} {r:List Nat} {s:St} (B:Bd b pid oid e1 e2 L oc (u :: r) s) (hr:r.length ≤ 1000) :
    aF Tryz.prog 45 [.ptr b 1 0] s fun v s'=>v=.int .i64 u ∧ s'=s:=by
  obtain ⟨h,m⟩:=s
  refine bE mix (dx _) c45 (by kernel_rfl) (Nat.le_of_ble_eq_true (by kernel_rfl)) ?_
  have gb:AX.look b h=_:=B.gb
  have go:AX.look oid h=_:=B.go
  have b1:(b < m)=True:=eq_true (B.lt B.gb)
  have b2:(oid < m)=True:=eq_true (B.lt B.go)
  have w1:IntKind.i64.wrap (((r.length + 1:Nat):Int) - 1)=(r.length:Int):=by rw [wrap64 (by omega) (by omega)];omega
  have h1:(r.length < r.length + 1)=True:=eq_true (by omega)
  have hd:List.drop r.length (aj (uq (u :: r)) ++ oc)=.int .i64 u :: oc:=by
    rw [zN,aU,List.append_assoc,List.drop_left' (by rw [W10K.eY,vk])];rfl
  have h2:(r.length ≤ (aj (uq (u :: r)) ++ oc).length)=True:=eq_true (by rw [List.length_append,W10K.eY,vk,List.length_cons];omega)
  simp -implicitDefEqProofs only [F45,gb,go,b1,b2,w1,h1,h2,hd,go_sem,seval]
  refine aA (by (first | omega | (simp [aM,aX,aY,Nat.testBit_eq_decide_div_mod_eq];done) | (simp [aM,aX,aY,Nat.testBit_eq_decide_div_mod_eq];omega) | kernel_rfl)) ?_
  simp -implicitDefEqProofs only [go_sem,seval]
end W10
