/- The builder: add. -/
import Derived.Test.YtdeclhljkmlpiaaGreatTxM
import Derived.Test.YtdeclhljkmlpiaaGreatAxF
set_option linter.unusedSimpArgs false
set_option linter.unusedVariables false
namespace W10
open Go Go.AX Go.AX.Ty Go.Proofs
def sQ (b pid oid:Nat) (L:List (Ty.Node × Nat)) (s s':St):Prop:=s.next ≤ s'.next ∧ ∀ id,id < s.next → id ≠ b → id ≠ pid → id ≠ oid → (∀ x ∈ L,x.1.kids ≠ [] → x.2 ≠ id) → s'.get id=s.get id
def xR (L:List (Ty.Node × Nat)) (u:Nat) (y:Ty.Node × Nat) (x:Ty.Node) (j:Nat):List (Ty.Node × Nat):=
  (L ++ [((⟨x.name,x.attrs,x.text,u,[]⟩:Ty.Node),0)]).set u ((⟨y.1.name,y.1.attrs,y.1.text,y.1.up,y.1.kids ++ [(L.length:Int)]⟩:Ty.Node),if y.1.kids=[] then j else y.2)
theorem Bd.same {b pid oid e1 e2:Nat} {L:List (Ty.Node × Nat)} {oc:List AV} {os:List Nat} {s s':St} (B:Bd b pid oid e1 e2 L oc os s) (hw:Wf s') (hg:∀ id,id < s.next → s'.get id=s.get id):Bd b pid oid e1 e2 L oc os s':=by
  have key:∀ (id:Nat) (o:AX.Obj),s.get id=some o → s'.get id=some o:=fun id o h=>by rw [hg id (B.lt h)];exact h
  exact ⟨hw,key _ _ B.gb,key _ _ B.gp,key _ _ B.go,fun x hx hk=>key _ _ (B.gk x hx hk),B.bp,B.bo,B.po,B.kd,B.inj⟩
theorem Bd.push {b pid oid e1 e2:Nat} {L:List (Ty.Node × Nat)} {oc:List AV} {os:List Nat} {h:List (Nat × AX.Obj)} {m:Nat} (B:Bd b pid oid e1 e2 L oc os ⟨h,m⟩) (o:AX.Obj):Bd b pid oid e1 e2 L oc os ⟨(m,o) :: h,m + 1⟩:=
  B.same (bQ B.wf) fun id hid=>by
    have hid':id < m:=hid
    show AX.look id (_ :: _)=AX.look id _
    simp only [AX.look]
    rw [if_neg (by omega)]
theorem K6 {L1:List (Ty.Node × Nat)} {u:Nat} {y:Ty.Node × Nat} (hy:L1[u]? = some y) (K:List Int) (j:Nat) :
    List.take (u * 5 + 4) (gY L1) ++ [l8 K j] ++ gY (List.drop (u + 1) L1)=gY (L1.set u ((⟨y.1.name,y.1.attrs,y.1.text,y.1.up,K⟩:Ty.Node),j)):=by
  have hl:u < L1.length:=by
    rcases Nat.lt_or_ge u L1.length with h' | h'
    · exact h'
    · rw [List.getElem?_eq_none h'] at hy;simp at hy
  have e1:List.take (u * 5 + 4) (gY L1)=gY (L1.take u) ++ [.str y.1.name,.ps y.1.attrs.length (aj y.1.attrs),.str y.1.text,.int .i64 y.1.up]:=by
    rw [List.take_add,zF L1 u (by omega),fK L1 u y hy];rfl
  rw [e1,List.set_eq_take_append_cons_drop,if_pos hl,yw,gY]
  simp [mU]
theorem fC {α:Type} {l:List α} {k:Nat} {x:α} (h:l[k]? = some x):k < l.length:=by
  rcases Nat.lt_or_ge k l.length with h' | h'
  · exact h'
  · rw [List.getElem?_eq_none h'] at h;simp at h
theorem Bd.upd {b pid oid e1 e1' e2:Nat} {L:List (Ty.Node × Nat)} {oc:List AV} {os:List Nat} {s s':St} (B:Bd b pid oid e1 e2 L oc os s) {u:Nat} {y:Ty.Node × Nat} (hy:L[u]? = some y) (x:Ty.Node) (j:Nat) (hj:y.1.kids=[] → s.next ≤ j)
    (hw:Wf s') (hn:s.next ≤ s'.next) (gb:s'.get b=some (.cells 1 [.sl pid e1' 0 (L.length + 1) 5,.sl oid e2 0 os.length 1] false)) (gp:s'.get pid=some (.cells e1' (gY (xR L u y x j)) false))
    (gk:s'.get (if y.1.kids=[] then j else y.2)=some (.cells (2 * (y.1.kids.length + 1) + 1) (aj (y.1.kids ++ [(L.length:Int)])) false))
    (hg:∀ id,id < s.next → id ≠ b → id ≠ pid → (y.1.kids ≠ [] → id ≠ y.2) → s'.get id=s.get id):Bd b pid oid e1' e2 (xR L u y x j) oc os s' ∧ sQ b pid oid L s s':=by
  have hu:=fC hy
  have hlen:(xR L u y x j).length=L.length + 1:=by simp [xR]
  have hym:=List.mem_of_getElem? hy
  have hB:∀ z ∈ L,z.1.kids ≠ [] → z.2 < s.next:=fun z hz hk=>B.lt (B.gk z hz hk)
  have at':∀ (i:Nat) (z:Ty.Node × Nat),(xR L u y x j)[i]? = some z → z.1.kids ≠ [] → (i=u ∧ z.1.kids=y.1.kids ++ [(L.length:Int)] ∧ z.2=if y.1.kids=[] then j else y.2) ∨ (i ≠ u ∧ L[i]? = some z):=fun i z hz hk=>by
    unfold xR at hz
    rw [List.getElem?_set] at hz
    by_cases e:u=i
    · rw [if_pos e,if_pos (by simp;omega)] at hz
      have:=Option.some.inj hz
      exact .inl ⟨e.symm,by rw [← this],by rw [← this]⟩
    · rw [if_neg e] at hz
      refine .inr ⟨Ne.symm e,?_⟩
      rcases Nat.lt_or_ge i L.length with h' | h'
      · rwa [List.getElem?_append_left h'] at hz
      · rw [List.getElem?_append_right h'] at hz
        have hi:i - L.length=0:=by
          have:=fC hz;simp at this;omega
        rw [hi] at hz
        simp only [List.getElem?_cons_zero,Option.some.injEq] at hz
        rw [← hz] at hk
        exact absurd rfl hk
  have hid:∀ z ∈ L,z.1.kids ≠ [] → (y.1.kids ≠ [] → z.2 ≠ y.2) → s'.get z.2=s.get z.2:=fun z hz hk hne=>by
    obtain ⟨a,b',c⟩:=B.kd z hz hk
    exact hg z.2 (hB z hz hk) a b' (fun h=>hne h)
  have hkj:∀ z ∈ L,z.1.kids ≠ [] → z.2=(if y.1.kids=[] then j else y.2) → y.1.kids ≠ [] ∧ z.2=y.2:=fun z hz hk e=>by
    by_cases h:y.1.kids=[]
    · rw [if_pos h] at e
      have:=hj h;have:=hB z hz hk;omega
    · rw [if_neg h] at e;exact ⟨h,e⟩
  have hnew:(if y.1.kids=[] then j else y.2) ≠ b ∧ (if y.1.kids=[] then j else y.2) ≠ pid ∧ (if y.1.kids=[] then j else y.2) ≠ oid:=by
    by_cases h:y.1.kids=[]
    · rw [if_pos h]
      have:=hj h;have:=B.lt B.gb;have:=B.lt B.gp;have:=B.lt B.go
      omega
    · rw [if_neg h];exact B.kd y hym h
  refine ⟨⟨hw,by rw [hlen];exact gb,gp,?_,fun z hz hk=>?_,B.bp,B.bo,B.po,fun z hz hk=>?_,fun i k z z' hi hk h1 h2 he=>?_⟩,hn,fun id h1 h2 h3 h4 h5=>?_⟩
  · rw [hg oid (B.lt B.go) (Ne.symm B.bo) (Ne.symm B.po) fun h=>Ne.symm (B.kd y hym h).2.2];exact B.go
  · obtain ⟨i,hi⟩:=List.mem_iff_getElem?.1 hz
    rcases at' i z hi hk with ⟨e,e1,e2⟩ | ⟨e,hi'⟩
    · rw [e2,gk,e1];simp
    · have hm:=List.mem_of_getElem? hi'
      rw [hid z hm hk fun h he=>e (B.inj i u z y hi' hy hk h he)]
      exact B.gk z hm hk
  · obtain ⟨i,hi⟩:=List.mem_iff_getElem?.1 hz
    rcases at' i z hi hk with ⟨e,e1,e2⟩ | ⟨e,hi'⟩
    · rw [e2];exact hnew
    · exact B.kd z (List.mem_of_getElem? hi') hk
  · rcases at' i z hi h1 with ⟨a1,a2,a3⟩ | ⟨a1,a2⟩
    · rcases at' k z' hk h2 with ⟨c1,c2,c3⟩ | ⟨c1,c2⟩
      · omega
      · obtain ⟨d1,d2⟩:=hkj z' (List.mem_of_getElem? c2) h2 (by rw [← he,a3])
        have:=B.inj k u z' y c2 hy h2 d1 d2
        omega
    · rcases at' k z' hk h2 with ⟨c1,c2,c3⟩ | ⟨c1,c2⟩
      · obtain ⟨d1,d2⟩:=hkj z (List.mem_of_getElem? a2) h1 (by rw [he,c3])
        have:=B.inj i u z y a2 hy h1 d1 d2
        omega
      · exact B.inj i k z z' a2 c2 h1 h2 he
  · exact hg id h1 h2 h3 fun h=>Ne.symm (h5 y hym h)
theorem VP {b pid oid e1 e2 : Nat} {L : List (Ty.Node × Nat)} {oc : List AV} {u : Nat} {r : List Nat} {s : St} (B : Bd b pid oid e1 e2 L oc (u :: r) s) (hr : r.length ≤ 1000) (hl : L.length < 400) {y : Ty.Node × Nat} (hy : L[u]? = some y) (x : Ty.Node) (hkl : y.1.kids.length ≤ 1000) :
    aF Tryz.prog 47 [.ptr b 1 0,.agg [.str x.name,.ps x.attrs.length (aj x.attrs),.str x.text,.int .i64 0,.nils]] s fun v s'=>v=.int .i64 L.length ∧
      ∃ e1' j,Bd b pid oid e1' e2 (xR L u y x j) oc (u :: r) s' ∧ sQ b pid oid L s s':=by
  obtain ⟨h,m⟩:=s
  refine bE mix (dx _) c47 (by kernel_rfl) (Nat.le_of_ble_eq_true (by kernel_rfl)) ?_
  have gb:AX.look b h=_:=B.gb
  have gp:AX.look pid h=_:=B.gp
  have b1:b < m:=B.lt B.gb
  have b2:pid < m:=B.lt B.gp
  have mb:(m=b)=False:=eq_false (by omega)
  have mp:(m=pid)=False:=eq_false (by omega)
  have c1:((L.length:Int) ≥ 400)=False:=eq_false (by omega)
  simp -implicitDefEqProofs only [F47,gb,gp,mb,mp,c1,go_sem,seval]
  refine eH (lH (B.push _) hr) ?_
  have bm:(b < m + 1)=True:=eq_true (by omega)
  have pm:(pid < m + 1)=True:=eq_true (by omega)
  have m0:(m < m + 1)=True:=eq_true (by omega)
  have bq:(b=m)=False:=eq_false (by omega)
  have pq:(pid=m)=False:=eq_false (by omega)
  have hbd:((L.length + 1) * 88 ≤ 140737488355328)=True:=eq_true (by omega)
  have ht:List.take (L.length * 5) (gY L)=gY L:=List.take_of_length_le (by rw [iB];omega)
  have m1b:(m + 1=b)=False:=eq_false (by omega)
  have m1p:(m + 1=pid)=False:=eq_false (by omega)
  have m1m:(m + 1=m)=False:=eq_false (by omega)
  have bm2:(b < m + 1 + 1)=True:=eq_true (by omega)
  have pm2:(pid < m + 1 + 1)=True:=eq_true (by omega)
  have mm2:(m < m + 1 + 1)=True:=eq_true (by omega)
  have pb:(pid=b)=False:=eq_false (Ne.symm B.bp)
  have bp:(b=pid)=False:=eq_false B.bp
  generalize hV:iC false e1 (L.length * 5 + 5)=e1'
  simp -implicitDefEqProofs only [gb,gp,mb,mp,bm,pm,m0,bq,pq,hbd,iB,ht,m1b,m1p,m1m,bm2,pm2,mm2,pb,bp,hV,go_sem,seval]
  have hbp:=B.bp
  refine aA (by (first | omega | (simp [aM,aX,aY,Nat.testBit_eq_decide_div_mod_eq];done) | (simp [aM,aX,aY,Nat.testBit_eq_decide_div_mod_eq];omega) | kernel_rfl)) ?_
  generalize hL1:L ++ [((⟨x.name,x.attrs,x.text,u,[]⟩:Ty.Node),0)]=L1
  have hpg:gY L ++ [.str x.name,.ps x.attrs.length (aj x.attrs),.str x.text,.int .i64 u,.nils]=gY L1:=by rw [← hL1,yw];rfl
  have huL:u < L.length:=by
    rcases Nat.lt_or_ge u L.length with h' | h'
    · exact h'
    · rw [List.getElem?_eq_none h'] at hy;simp at hy
  have hy1:L1[u]? = some y:=by rw [← hL1,List.getElem?_append_left huL];exact hy
  have hL1l:L1.length=L.length + 1:=by rw [← hL1];simp
  have hu:(u < L.length + 1)=True:=eq_true (by omega)
  have hpl:(gY L1).length=(L.length + 1) * 5:=by rw [iB,hL1l]
  have hle4:(u * 5 + 4 ≤ (L.length + 1) * 5)=True:=eq_true (by omega)
  have hd0:=fK L1 u y hy1
  have hd4:List.drop (u * 5 + 4) (gY L1)=l8 y.1.kids y.2 :: gY (L1.drop (u + 1)):=by
    rw [← List.drop_drop,hd0];rfl
  have hd5:List.drop (u * 5 + 4 + 1) (gY L1)=gY (L1.drop (u + 1)):=by rw [← List.drop_drop,hd4];rfl
  have hle5:(u * 5 + 4 + 1 ≤ (L.length + 1) * 5)=True:=eq_true (by omega)
  have m2p:(m + 1 + 1=pid)=False:=eq_false (by omega)
  have m2b:(m + 1 + 1=b)=False:=eq_false (by omega)
  have m3p:(m + 1 + 1 + 1=pid)=False:=eq_false (by omega)
  have m3b:(m + 1 + 1 + 1=b)=False:=eq_false (by omega)
  have pm3:(pid < m + 1 + 1 + 1)=True:=eq_true (by omega)
  have pm4:(pid < m + 1 + 1 + 1 + 1)=True:=eq_true (by omega)
  by_cases hk:y.1.kids=[]
  · have hkv:l8 y.1.kids y.2=.nils:=by rw [l8,if_pos hk]
    rw [hkv] at hd4
    simp -implicitDefEqProofs only [gb,gp,mb,mp,bm,pm,m0,bq,pq,hbd,ht,m1b,m1p,m1m,bm2,pm2,mm2,pb,bp,hV,hpg,hu,hpl,hle4,hd4,hd5,hle5,m2p,m2b,m3p,m3b,pm3,pm4,go_sem,seval]
    refine aA (by (first | omega | (simp [aM,aX,aY,Nat.testBit_eq_decide_div_mod_eq];done) | (simp [aM,aX,aY,Nat.testBit_eq_decide_div_mod_eq];omega) | kernel_rfl)) ?_
    simp -implicitDefEqProofs only [hle4,hd4,hd5,hle5,hpl,go_sem,seval]
    have hs:=K6 hy1 [(L.length:Int)] (m + 1 + 1 + 1)
    have hkn:l8 [(L.length:Int)] (m + 1 + 1 + 1)=.sl (m + 1 + 1 + 1) 3 0 1 1:=by rw [l8,if_neg (by simp)];rfl
    rw [hkn] at hs
    rw [hs]
    refine ⟨e1',m + 1 + 1 + 1,B.upd hy x _ (fun _=>by show m ≤ _;omega) (bQ (bQ (bQ (bQ (gq (gq (gq B.wf))))))) (by show m ≤ m + 1 + 1 + 1 + 1;omega) ?_ ?_ ?_ fun id h1 h2 h3 h4=>?_⟩
    · show AX.look b _=_
      simp only [AX.look,mb,m1b,m2b,m3b,if_false]
      rw [ay (Ne.symm hbp)]
      exact aS (x:=.cells 1 [.sl pid e1 0 L.length 5,.sl oid e2 0 (u :: r).length 1] false) (by rw [ay (Ne.symm hbp)];exact gb)
    · show AX.look pid _=_
      simp only [AX.look,mp,m1p,m2p,m3p,if_false]
      rw [aS (x:=.cells e1' (gY L1) false) (by rw [ay hbp];exact aS gp)]
      unfold xR
      rw [hL1,hk,if_pos rfl,List.nil_append]
    · rw [hk];show AX.look (m + 1 + 1 + 1) _=_
      simp only [AX.look,if_true];rfl
    · have h1':id < m:=h1
      show AX.look id _=AX.look id h
      simp only [AX.look]
      rw [if_neg (by omega),if_neg (by omega),if_neg (by omega),if_neg (by omega),ay (Ne.symm h3),ay (Ne.symm h2),ay (Ne.symm h3)]
  · have hkv:l8 y.1.kids y.2=.sl y.2 (2 * y.1.kids.length + 1) 0 y.1.kids.length 1:=by rw [l8,if_neg hk]
    rw [hkv] at hd4
    have gk:AX.look y.2 h=_:=B.gk y (List.mem_of_getElem? hy) hk
    obtain ⟨k1,k2,k3⟩:=B.kd y (List.mem_of_getElem? hy) hk
    have ym:y.2 < m:=B.lt (B.gk y (List.mem_of_getElem? hy) hk)
    have y0:(m + 1 + 1=y.2)=False:=eq_false (by omega)
    have y1:(m + 1=y.2)=False:=eq_false (by omega)
    have y2:(m=y.2)=False:=eq_false (by omega)
    have y3:(b=y.2)=False:=eq_false (Ne.symm k1)
    have y4:(pid=y.2)=False:=eq_false (Ne.symm k2)
    have y5:(y.2=b)=False:=eq_false k1
    have y6:(y.2=pid)=False:=eq_false k2
    have y7:(y.2 < m + 1 + 1 + 1)=True:=eq_true (by omega)
    have hkb:((y.1.kids.length + 1) * 8 ≤ 140737488355328)=True:=eq_true (by omega)
    have hkc:(aj y.1.kids).length=y.1.kids.length:=W10K.eY _
    have hkt:List.take y.1.kids.length (aj y.1.kids)=aj y.1.kids:=List.take_of_length_le (by omega)
    simp -implicitDefEqProofs only [gb,gp,mb,mp,bm,pm,m0,bq,pq,hbd,ht,m1b,m1p,m1m,bm2,pm2,mm2,pb,bp,hV,hpg,hu,hpl,hle4,hd4,hd5,hle5,gk,m2p,m2b,m3p,m3b,pm3,pm4,y0,y1,y2,y3,y4,y5,y6,y7,hkb,hkc,hkt,go_sem,seval]
    refine aA (by (first | omega | (simp [aM,aX,aY,Nat.testBit_eq_decide_div_mod_eq];done) | (simp [aM,aX,aY,Nat.testBit_eq_decide_div_mod_eq];omega) | kernel_rfl)) ?_
    simp -implicitDefEqProofs only [hle4,hd4,hd5,hle5,hpl,go_sem,seval]
    have hs:=K6 hy1 (y.1.kids ++ [(L.length:Int)]) y.2
    have hkn:l8 (y.1.kids ++ [(L.length:Int)]) y.2=.sl y.2 (2 * (y.1.kids.length + 1) + 1) 0 (y.1.kids.length + 1) 1:=by rw [l8,if_neg (by simp)];simp
    rw [hkn] at hs
    rw [hs]
    refine ⟨e1',0,B.upd hy x 0 (fun e=>absurd e hk) (bQ (bQ (bQ (gq (gq (gq (gq B.wf))))))) (by show m ≤ m + 1 + 1 + 1;omega) ?_ ?_ ?_ fun id h1 h2 h3 h4=>?_⟩
    · show AX.look b _=_
      simp only [AX.look,mb,m1b,m2b,if_false]
      rw [ay (Ne.symm hbp),ay k1]
      exact aS (x:=.cells 1 [.sl pid e1 0 L.length 5,.sl oid e2 0 (u :: r).length 1] false) (by rw [ay (Ne.symm hbp)];exact gb)
    · show AX.look pid _=_
      simp only [AX.look,mp,m1p,m2p,if_false]
      rw [aS (x:=.cells e1' (gY L1) false) (by rw [ay k2,ay hbp];exact aS gp)]
      unfold xR
      rw [hL1,if_neg hk]
    · rw [if_neg hk];show AX.look y.2 _=_
      simp only [AX.look,y0,y1,y2,if_false]
      rw [ay (Ne.symm k2),aS (x:=.cells (2 * y.1.kids.length + 1) (aj y.1.kids) false) (by rw [ay (Ne.symm k1),ay (Ne.symm k2)];exact gk),aU];rfl
    · have h1':id < m:=h1
      have h4':=h4 hk
      show AX.look id _=AX.look id h
      simp only [AX.look]
      rw [if_neg (by omega),if_neg (by omega),if_neg (by omega),ay (Ne.symm h3),ay (Ne.symm h4'),ay (Ne.symm h2),ay (Ne.symm h3)]
end W10
/- The builder: end. -/
namespace W10
open Go Go.AX Go.AX.Ty Go.Proofs
def jN (L:List (Ty.Node × Nat)):List Ty.Node:=L.map (·.1)
theorem jE (L:List (Ty.Node × Nat)):(jN L).length=L.length:=by simp [jN]
theorem tK {L:List (Ty.Node × Nat)} {u:Nat} {y:Ty.Node × Nat} (h:L[u]? = some y):nd (jN L) u=y.1:=by
  refine fM ?_
  simp [jN,h]
theorem sQ.refl (b pid oid:Nat) (L:List (Ty.Node × Nat)) (s:St):sQ b pid oid L s s:=⟨Nat.le_refl _,fun _ _ _ _ _ _=>rfl⟩
theorem sQ.Lf {b pid oid:Nat} {L:List (Ty.Node × Nat)} {s:St} {h:List (Nat × AX.Obj)} {m:Nat} {o:AX.Obj} (hf:sQ b pid oid L s ⟨h,m⟩):sQ b pid oid L s ⟨(m,o) :: h,m + 1⟩:=
  ⟨Nat.le_succ_of_le hf.1,fun id h1 h2 h3 h4 h5=>by
    have h0:s.next ≤ m:=hf.1
    rw [← hf.2 id h1 h2 h3 h4 h5]
    show AX.look id (_ :: _)=AX.look id h
    simp only [AX.look]
    rw [if_neg (by omega)]⟩
theorem sQ.trans {b pid oid:Nat} {L:List (Ty.Node × Nat)} {s s1 s2:St} (h:sQ b pid oid L s s1) (h':sQ b pid oid L s1 s2):sQ b pid oid L s s2:=
  ⟨Nat.le_trans h.1 h'.1,fun id h1 h2 h3 h4 h5=>(h'.2 id (Nat.lt_of_lt_of_le h1 h.1) h2 h3 h4 h5).trans (h.2 id h1 h2 h3 h4 h5)⟩
theorem Bd.shut {b pid oid e1 e2:Nat} {L:List (Ty.Node × Nat)} {oc:List AV} {os pre o:List Nat} {h:List (Nat × AX.Obj)} {m:Nat} (B:Bd b pid oid e1 e2 L oc os ⟨h,m⟩) (he:os=pre ++ o) :
    Bd b pid oid e1 e2 L (aj (uq pre) ++ oc) o ⟨putAt b (.cells 1 [.sl pid e1 0 L.length 5,.sl oid e2 0 o.length 1] false) h,m⟩ ∧ sQ b pid oid L ⟨h,m⟩ ⟨putAt b (.cells 1 [.sl pid e1 0 L.length 5,.sl oid e2 0 o.length 1] false) h,m⟩:=by
  have hoi:uq os=uq o ++ uq pre:=by rw [he];simp [uq]
  refine ⟨⟨gq B.wf,?_,?_,?_,fun x hx hk=>?_,B.bp,B.bo,B.po,B.kd,B.inj⟩,Nat.le_refl _,fun id h1 h2 h3 h4 h5=>?_⟩
  · show AX.look b _=_;exact aS B.gb
  · show AX.look pid _=_;rw [ay B.bp];exact B.gp
  · show AX.look oid _=_;rw [ay B.bo,← List.append_assoc,← aU,← hoi];exact B.go
  · show AX.look x.2 _=_;rw [ay (Ne.symm (B.kd x hx hk).1)];exact B.gk x hx hk
  · show AX.look id _=AX.look id _;exact ay (Ne.symm h2)
theorem YK {b pid oid e1 e2:Nat} {L:List (Ty.Node × Nat)} {oc:List AV} {os:List Nat} {s:St} (B:Bd b pid oid e1 e2 L oc os s) (hr:os.length ≤ 1000) (hne:os ≠ []) (hos:∀ a ∈ os,a < L.length) (hl:L.length ≤ 1000) (n:Str) :
    aF Tryz.prog 26 [.ptr b 1 0,.str n] s fun v s'=>v=.tup [] ∧ ∃ oc',Bd b pid oid e1 e2 L oc' ((kI (jN L) n os).getD os) s' ∧ sQ b pid oid L s s':=by
  obtain ⟨h,m⟩:=s
  refine bE mix (dx _) c26 (by kernel_rfl) (Nat.le_of_ble_eq_true (by kernel_rfl)) ?_
  have gb:AX.look b h=_:=B.gb
  have gp:AX.look pid h=_:=B.gp
  have go:AX.look oid h=_:=B.go
  have b1:(b < m)=True:=eq_true (B.lt B.gb)
  have b2:(pid < m)=True:=eq_true (B.lt B.gp)
  have b3:(oid < m)=True:=eq_true (B.lt B.go)
  have hol:1 ≤ os.length:=List.length_pos_iff.2 hne
  have w0:IntKind.i64.wrap ((os.length:Int) - 1)=((os.length - 1:Nat):Int):=by rw [wrap64 (by omega) (by omega)];omega
  simp -implicitDefEqProofs only [F26,gb,w0,go_sem,seval]
  refine bA (fun c:List Nat=>c.length) (fun c=>[(0,.ptr b 1 0),(1,.str n),(4,.int .i64 ((c.length - 1:Nat):Int))])
    (fun c st=>st=⟨h,m⟩ ∧ c ≠ [] ∧ ∃ pre,os=pre ++ c ∧ kI (jN L) n os=kI (jN L) n c) os ?_ ?_
  · simp -implicitDefEqProofs only [go_sem,seval]
    exact ⟨hne,[],rfl⟩
  rintro c ρ s ⟨rfl,hc,pre,e1',e2'⟩
  cases c with
  | nil=>exact absurd rfl hc
  | cons a r=>
  cases r with
  | nil =>
    simp -implicitDefEqProofs only [go_sem,seval]
    rw [e2']
    exact ⟨oc,B,sQ.refl _ _ _ _ _⟩
  | cons c r =>
    have ha:a < L.length:=hos a (by rw [e1'];simp)
    obtain ⟨y,hy,_,_⟩:=aW ha
    have hgt:(((r.length + 1:Nat):Int) > 0)=True:=eq_true (by omega)
    have hll:(r.length + 1 < os.length)=True:=eq_true (by rw [e1'];simp only [List.length_append,List.length_cons];omega)
    have hoi:uq os=uq (c :: r) ++ ((a:Int) :: uq pre):=by rw [e1'];simp [uq]
    have hocl:(aj (uq (c :: r))).length=r.length + 1:=by rw [W10K.eY,vk,List.length_cons]
    have hod:List.drop (r.length + 1) (aj (uq os) ++ oc)=.int .i64 a :: (aj (uq pre) ++ oc):=by
      rw [hoi,aU,List.append_assoc,List.drop_left' hocl];rfl
    have hole:(r.length + 1 ≤ (aj (uq os) ++ oc).length)=True:=eq_true (by rw [List.length_append,W10K.eY,vk,e1'];simp only [List.length_append,List.length_cons];omega)
    have haT:(a < L.length)=True:=eq_true ha
    have hd0:=fK L a y hy
    have hpl:(a * 5 ≤ (gY L).length)=True:=eq_true (by rw [iB];omega)
    have hd1:List.drop (a * 5) (gY L)=.str y.1.name :: (mU y ++ gY (L.drop (a + 1))).tail:=by rw [hd0];rfl
    simp -implicitDefEqProofs only [gb,gp,go,b1,b2,b3,hgt,hll,hod,hole,haT,hpl,hd1,go_sem,seval]
    refine aA (by (first | omega | (simp [aM,aX,aY,Nat.testBit_eq_decide_div_mod_eq];done) | (simp [aM,aX,aY,Nat.testBit_eq_decide_div_mod_eq];omega) | kernel_rfl)) ?_
    have hnd:=tK hy
    have hrl:r.length ≤ 1000:=by rw [e1'] at hr;simp only [List.length_append,List.length_cons] at hr;omega
    have w1:IntKind.i64.wrap (((r.length + 1:Nat):Int) - 1)=(r.length:Int):=by rw [wrap64 (by omega) (by omega)];omega
    by_cases hn:y.1.name=n
    · have hlo:(r.length + 1 ≤ os.length)=True:=eq_true (by rw [e1'];simp only [List.length_append,List.length_cons];omega)
      simp -implicitDefEqProofs only [eq_true hn,gb,gp,go,b1,b2,b3,hlo,go_sem,seval]
      rw [e2',W10.kI,if_pos (by rw [hnd];exact hn),Option.getD_some]
      exact ⟨_,B.shut (pre:=pre ++ [a]) (o:=c :: r) (by rw [e1'];simp)⟩
    · simp -implicitDefEqProofs only [eq_false hn,w1,go_sem,seval]
      refine ⟨c :: r,by simp,by simp,by simp,pre ++ [a],by rw [e1'];simp,?_⟩
      rw [e2',W10.kI,if_neg (by rw [hnd];exact hn)]
end W10
/- The builder: text. -/
namespace W10
open Go Go.AX Go.AX.Ty Go.Proofs
def pV (L:List (Ty.Node × Nat)) (k:Nat) (z:Ty.Node × Nat) (x:Str):List (Ty.Node × Nat):=L.set k ((⟨z.1.name,z.1.attrs,z.1.text ++ x,z.1.up,z.1.kids⟩:Ty.Node),z.2)
theorem Qi {L:List (Ty.Node × Nat)} {k:Nat} {z:Ty.Node × Nat} (hz:L[k]? = some z) (x:Str) :
    List.take (k * 5 + 2) (gY L) ++ [.str (z.1.text ++ x)] ++ List.drop (k * 5 + 2 + 1) (gY L)=gY (pV L k z x):=by
  have hl:=fC hz
  have e1:List.take (k * 5 + 2) (gY L)=gY (L.take k) ++ [.str z.1.name,.ps z.1.attrs.length (aj z.1.attrs)]:=by
    rw [List.take_add,zF L k (by omega),fK L k z hz];rfl
  have e2:List.drop (k * 5 + 2 + 1) (gY L)=.int .i64 z.1.up :: l8 z.1.kids z.2 :: gY (L.drop (k + 1)):=by
    rw [Nat.add_assoc,← List.drop_drop,fK L k z hz];rfl
  unfold pV
  rw [e1,e2,List.set_eq_take_append_cons_drop,if_pos hl,yw,gY]
  simp [mU]
theorem Bd.more {b pid oid e1 e2:Nat} {L:List (Ty.Node × Nat)} {oc:List AV} {os:List Nat} {h:List (Nat × AX.Obj)} {m:Nat} (B:Bd b pid oid e1 e2 L oc os ⟨h,m⟩) {k:Nat} {z:Ty.Node × Nat} (hz:L[k]? = some z) (x:Str) :
    Bd b pid oid e1 e2 (pV L k z x) oc os ⟨putAt pid (.cells e1 (gY (pV L k z x)) false) h,m⟩ ∧ sQ b pid oid L ⟨h,m⟩ ⟨putAt pid (.cells e1 (gY (pV L k z x)) false) h,m⟩:=by
  have hlen:(pV L k z x).length=L.length:=by simp [pV]
  have at':∀ (i:Nat) (y:Ty.Node × Nat),(pV L k z x)[i]? = some y → ∃ y',L[i]? = some y' ∧ y'.1.kids=y.1.kids ∧ y'.2=y.2:=fun i y hi=>by
    unfold pV at hi
    rw [List.getElem?_set] at hi
    by_cases e:k=i
    · rw [if_pos e,if_pos (fC hz)] at hi
      have:=Option.some.inj hi
      subst this
      exact ⟨z,e ▸ hz,rfl,rfl⟩
    · rw [if_neg e] at hi;exact ⟨y,hi,rfl,rfl⟩
  refine ⟨⟨gq B.wf,?_,?_,?_,fun y hy hk=>?_,B.bp,B.bo,B.po,fun y hy hk=>?_,fun i j y y' hi hj h1 h2 he=>?_⟩,Nat.le_refl _,fun id h1 h2 h3 h4 h5=>?_⟩
  · show AX.look b _=_;rw [ay (Ne.symm B.bp),hlen];exact B.gb
  · show AX.look pid _=_;exact aS B.gp
  · show AX.look oid _=_;rw [ay B.po];exact B.go
  · obtain ⟨i,hi⟩:=List.mem_iff_getElem?.1 hy
    obtain ⟨y',g1,g2,g3⟩:=at' i y hi
    have hm:=List.mem_of_getElem? g1
    rw [← g2] at hk ⊢
    rw [← g3]
    show AX.look y'.2 _=_
    rw [ay (Ne.symm (B.kd y' hm hk).2.1)];exact B.gk y' hm hk
  · obtain ⟨i,hi⟩:=List.mem_iff_getElem?.1 hy
    obtain ⟨y',g1,g2,g3⟩:=at' i y hi
    rw [← g3];exact B.kd y' (List.mem_of_getElem? g1) (by rw [g2];exact hk)
  · obtain ⟨p1,a1,a2,a3⟩:=at' i y hi
    obtain ⟨p2,c1,c2,c3⟩:=at' j y' hj
    exact B.inj i j p1 p2 a1 c1 (by rw [a2];exact h1) (by rw [c2];exact h2) (by rw [a3,c3];exact he)
  · show AX.look id _=AX.look id _;exact ay (Ne.symm h3)
theorem Hl {b pid oid e1 e2:Nat} {L:List (Ty.Node × Nat)} {oc:List AV} {u:Nat} {r:List Nat} {s:St} (B:Bd b pid oid e1 e2 L oc (u :: r) s) (hr:r.length ≤ 1000) (hl:L.length ≤ 1000) {y:Ty.Node × Nat} (hy:L[u]? = some y)
    {k:Nat} {z:Ty.Node × Nat} (hkl:y.1.kids.length ≤ 1000) (hk:y.1.kids.getLast? = some (k:Int)) (hz:L[k]? = some z) (hzn:z.1.name=[]) (x:Str) (hx:z.1.text.length + x.length ≤ 9223372036854775807) :
    aF Tryz.prog 27 [.ptr b 1 0,.str x] s fun v s'=>v=.tup [] ∧ Bd b pid oid e1 e2 (pV L k z x) oc (u :: r) s' ∧ sQ b pid oid L s s':=by
  obtain ⟨h,m⟩:=s
  refine bE mix (dx _) c27 (by kernel_rfl) (Nat.le_of_ble_eq_true (by kernel_rfl)) ?_
  have gb:AX.look b h=_:=B.gb
  have gp:AX.look pid h=_:=B.gp
  have b1:(b < m)=True:=eq_true (B.lt B.gb)
  have b2:(pid < m)=True:=eq_true (B.lt B.gp)
  simp -implicitDefEqProofs only [F27,gb,gp,b1,b2,go_sem,seval]
  refine lK [] (lH B hr) B.wf (Nat.le_refl _) B.wf ⟨by simp,fun id _ _=>rfl⟩ ?_
  have hu:=fC hy
  have huT:(u < L.length)=True:=eq_true hu
  have hd0:=fK L u y hy
  have hd4:List.drop (u * 5 + 4) (gY L)=l8 y.1.kids y.2 :: gY (L.drop (u + 1)):=by
    rw [← List.drop_drop,hd0];rfl
  have hle4:(u * 5 + 4 ≤ (gY L).length)=True:=eq_true (by rw [iB];omega)
  have hkne:y.1.kids ≠ []:=fun e=>by rw [e] at hk;simp at hk
  have hkv:l8 y.1.kids y.2=.sl y.2 (2 * y.1.kids.length + 1) 0 y.1.kids.length 1:=by rw [l8,if_neg hkne]
  rw [hkv] at hd4
  simp -implicitDefEqProofs only [gb,gp,b1,b2,huT,hle4,hd4,go_sem,seval]
  refine aA (by (simp [aM,aX,aY,Nat.testBit_eq_decide_div_mod_eq];repeat' (first | omega | (intro x hx;omega) | refine And.intro ?_ ?_))) ?_
  have hk0:0 < y.1.kids.length:=List.length_pos_iff.2 hkne
  have hkg:((y.1.kids.length:Int) > 0)=True:=eq_true (by omega)
  have w1:IntKind.i64.wrap ((y.1.kids.length:Int) - 1)=((y.1.kids.length - 1:Nat):Int):=by rw [wrap64 (by omega) (by omega)];omega
  have hkT:(y.1.kids.length - 1 < y.1.kids.length)=True:=eq_true (by omega)
  have gk:AX.look y.2 h=_:=B.gk y (List.mem_of_getElem? hy) hkne
  have b4:(y.2 < m)=True:=eq_true (B.lt (B.gk y (List.mem_of_getElem? hy) hkne))
  have hkc:(aj y.1.kids).length=y.1.kids.length:=W10K.eY _
  have hkle:(y.1.kids.length - 1 ≤ (aj y.1.kids).length)=True:=eq_true (by omega)
  have hkd:List.drop (y.1.kids.length - 1) (aj y.1.kids)=[.int .i64 k]:=by
    obtain ⟨l',e⟩:=List.getLast?_eq_some_iff.1 hk
    rw [e,aU,List.length_append,List.length_singleton,Nat.add_sub_cancel,List.drop_left' (W10K.eY _)];rfl
  have hzl:=fC hz
  have hzT:(k < L.length)=True:=eq_true hzl
  have hz0:List.drop (k * 5) (gY L)=.str [] :: (mU z ++ gY (L.drop (k + 1))).tail:=by rw [fK L k z hz,← hzn];rfl
  have hz2:List.drop (k * 5 + 2) (gY L)=.str z.1.text :: (.int .i64 z.1.up :: l8 z.1.kids z.2 :: gY (L.drop (k + 1))):=by rw [← List.drop_drop,fK L k z hz];rfl
  have hzc:(k * 5 ≤ (gY L).length)=True:=eq_true (by rw [iB];omega)
  have hzc2:(k * 5 + 2 ≤ (gY L).length)=True:=eq_true (by rw [iB];omega)
  have hzc3:(k * 5 + 2 + 1 ≤ (gY L).length)=True:=eq_true (by rw [iB];omega)
  have hxT:(List.length z.1.text + List.length x ≤ 9223372036854775807)=True:=eq_true hx
  simp -implicitDefEqProofs only [gb,gp,b1,b2,b4,gk,hkg,w1,hkT,hkle,hkd,hzT,hz0,hz2,hzc,hzc2,hzc3,hxT,go_sem,seval]
  refine aA (by (first | omega | (simp [aM,aX,aY,Nat.testBit_eq_decide_div_mod_eq];done) | (simp [aM,aX,aY,Nat.testBit_eq_decide_div_mod_eq];omega) | kernel_rfl)) ?_
  simp -implicitDefEqProofs only [gb,gp,b1,b2,b4,gk,hkg,w1,hkT,hkle,hkd,hzT,hz0,hz2,hzc,hzc2,hzc3,hxT,go_sem,seval]
  rw [Qi hz x]
  exact B.more hz x
end W10
/- The builder: text, where a node is added. -/
namespace W10
open Go Go.AX Go.AX.Ty Go.Proofs
theorem aF.args {P:Program} {f:FuncId} {args args':List AV} {s:St} {R:AV → St → Prop} (h:aF P f args' s R) (ha:∀ (c:Ctx) (vs:List Value),aB c args vs → aB c args' vs):aF P f args s R:=
  ⟨h.1,fun c w vs hs hv=>h.2 c w vs hs (ha c vs hv)⟩
theorem Jd {b pid oid e1 e2:Nat} {L:List (Ty.Node × Nat)} {oc:List AV} {u:Nat} {r:List Nat} {s:St} (B:Bd b pid oid e1 e2 L oc (u :: r) s) (hr:r.length ≤ 1000) (hl:L.length < 400) {y:Ty.Node × Nat} (hy:L[u]? = some y)
    (hkl:y.1.kids.length ≤ 1000) (hk:∀ a,y.1.kids.getLast? = some a → ∃ (k:Nat) (z:Ty.Node × Nat),a=k ∧ L[k]? = some z ∧ z.1.name ≠ []) (x:Str) :
    aF Tryz.prog 27 [.ptr b 1 0,.str x] s fun v s'=>v=.tup [] ∧ ∃ e1' j,Bd b pid oid e1' e2 (xR L u y ⟨[],[],x,0,[]⟩ j) oc (u :: r) s' ∧ sQ b pid oid L s s':=by
  obtain ⟨h,m⟩:=s
  refine bE mix (dx _) c27 (by kernel_rfl) (Nat.le_of_ble_eq_true (by kernel_rfl)) ?_
  have gb:AX.look b h=_:=B.gb
  have gp:AX.look pid h=_:=B.gp
  have b1:(b < m)=True:=eq_true (B.lt B.gb)
  have b2:(pid < m)=True:=eq_true (B.lt B.gp)
  simp -implicitDefEqProofs only [F27,gb,gp,b1,b2,go_sem,seval]
  refine lK [] (lH B hr) B.wf (Nat.le_refl _) B.wf ⟨by simp,fun id _ _=>rfl⟩ ?_
  have hu:=fC hy
  have huT:(u < L.length)=True:=eq_true hu
  have hd0:=fK L u y hy
  have hd4:List.drop (u * 5 + 4) (gY L)=l8 y.1.kids y.2 :: gY (L.drop (u + 1)):=by
    rw [← List.drop_drop,hd0];rfl
  have hle4:(u * 5 + 4 ≤ (gY L).length)=True:=eq_true (by rw [iB];omega)
  have hadd:aF Tryz.prog 47 [.ptr b 1 0,.agg [.str [],.nils,.str x,.int .i64 0,.nils]] ⟨h,m⟩ _:=aF.args (VP B hr hl hy ⟨[],[],x,0,[]⟩ hkl) fun c vs hv=>by
    simp only [aB,aD] at hv ⊢
    obtain ⟨v1,vs1,e1,h1,v2,vs2,e2,⟨us,e3,w1,ws1,f1,g1,w2,ws2,f2,g2,hrest⟩,h3⟩:=hv
    exact ⟨v1,vs1,e1,h1,v2,vs2,e2,⟨us,e3,w1,ws1,f1,g1,w2,ws2,f2,.inl ⟨rfl,rfl,none,0,g2⟩,hrest⟩,h3⟩
  cases hkc0:y.1.kids.getLast? with
  | none =>
    have hk0:y.1.kids=[]:=List.getLast?_eq_none_iff.1 hkc0
    rw [l8,if_pos hk0] at hd4
    simp -implicitDefEqProofs only [gb,gp,b1,b2,huT,hle4,hd4,go_sem,seval]
    refine aA (by (simp [aM,aX,aY,Nat.testBit_eq_decide_div_mod_eq];repeat' (first | omega | (intro x hx;omega) | refine And.intro ?_ ?_))) ?_
    simp -implicitDefEqProofs only [go_sem,seval]
    refine aH (hadd.mono fun v s' hv=>?_)
    simp -implicitDefEqProofs only [go_sem,seval]
    exact hv.2
  | some a =>
    obtain ⟨k,z,rfl,hz,hzn⟩:=hk a hkc0
    have hkne:y.1.kids ≠ []:=fun e=>by rw [e] at hkc0;simp at hkc0
    rw [l8,if_neg hkne] at hd4
    have hk0:0 < y.1.kids.length:=List.length_pos_iff.2 hkne
    have hkg:((y.1.kids.length:Int) > 0)=True:=eq_true (by omega)
    have w1:IntKind.i64.wrap ((y.1.kids.length:Int) - 1)=((y.1.kids.length - 1:Nat):Int):=by rw [wrap64 (by omega) (by omega)];omega
    have hkT:(y.1.kids.length - 1 < y.1.kids.length)=True:=eq_true (by omega)
    have gk:AX.look y.2 h=_:=B.gk y (List.mem_of_getElem? hy) hkne
    have b4:(y.2 < m)=True:=eq_true (B.lt (B.gk y (List.mem_of_getElem? hy) hkne))
    have hkc:(aj y.1.kids).length=y.1.kids.length:=W10K.eY _
    have hkle:(y.1.kids.length - 1 ≤ (aj y.1.kids).length)=True:=eq_true (by omega)
    have hkd:List.drop (y.1.kids.length - 1) (aj y.1.kids)=[.int .i64 k]:=by
      obtain ⟨l',e⟩:=List.getLast?_eq_some_iff.1 hkc0
      rw [e,aU,List.length_append,List.length_singleton,Nat.add_sub_cancel,List.drop_left' (W10K.eY _)];rfl
    have hzl:=fC hz
    have hzT:(k < L.length)=True:=eq_true hzl
    have hz0:List.drop (k * 5) (gY L)=.str z.1.name :: (mU z ++ gY (L.drop (k + 1))).tail:=by rw [fK L k z hz];rfl
    have hzc:(k * 5 ≤ (gY L).length)=True:=eq_true (by rw [iB];omega)
    have hzf:(z.1.name=[])=False:=eq_false hzn
    simp -implicitDefEqProofs only [gb,gp,b1,b2,huT,hle4,hd4,go_sem,seval]
    refine aA (by (simp [aM,aX,aY,Nat.testBit_eq_decide_div_mod_eq];repeat' (first | omega | (intro x hx;omega) | refine And.intro ?_ ?_))) ?_
    simp -implicitDefEqProofs only [gb,gp,b1,b2,b4,gk,hkg,w1,hkT,hkle,hkd,hzT,hz0,hzc,hzf,go_sem,seval]
    refine aA (by (first | omega | (simp [aM,aX,aY,Nat.testBit_eq_decide_div_mod_eq];done) | (simp [aM,aX,aY,Nat.testBit_eq_decide_div_mod_eq];omega) | kernel_rfl)) ?_
    simp -implicitDefEqProofs only [gb,gp,b1,b2,b4,gk,hkg,w1,hkT,hkle,hkd,hzT,hz0,hzc,hzf,go_sem,seval]
    refine aH (hadd.mono fun v s' hv=>?_)
    simp -implicitDefEqProofs only [go_sem,seval]
    exact hv.2
end W10
/- The builder: where there is no room. -/
namespace W10
open Go Go.AX Go.AX.Ty Go.Proofs
def Gx (n:Int):List PanicEntry:=[{ v:=.iface 50 (.agg #[.int .i64 n]),recovered:=false }]
theorem DJ {n:Int} {c:Ctx} {u:Value} (h:aD c (.agg [.int .i64 n]) u):u=.agg #[.int .i64 n]:=by
  simp only [aD,aB] at h
  obtain ⟨us,e,v,vs,e2,h3,h4⟩:=h
  subst h4 h3 e2 e;rfl
theorem Dr {b pid oid e1 e2:Nat} {L:List (Ty.Node × Nat)} {oc:List AV} {os:List Nat} {s:St} (B:Bd b pid oid e1 e2 L oc os s) (hl:400 ≤ L.length) (x:Ty.Node) (R:AV → St → Prop) :
    dI Tryz.prog 47 [.ptr b 1 0,.agg [.str x.name,.ps x.attrs.length (aj x.attrs),.str x.text,.int .i64 0,.nils]] s R fun ch s'=>ch=Gx 100 ∧ sQ b pid oid L s s':=by
  obtain ⟨h,m⟩:=s
  refine wH c47 (by kernel_rfl) (Nat.le_of_ble_eq_true (by kernel_rfl)) ?_
  have gb:AX.look b h=_:=B.gb
  have b1:b < m:=B.lt B.gb
  have mb:(m=b)=False:=eq_false (by omega)
  have c1:((L.length:Int) ≥ 400)=True:=eq_true (by omega)
  simp only [F47]
  refine dG (gU mix (by kernel_rfl) ?_)
  simp -implicitDefEqProofs only [go_sem,seval]
  refine dG (gU mix (by kernel_rfl) ?_)
  simp -implicitDefEqProofs only [gb,mb,go_sem,seval]
  refine dG (dG (gU mix (by kernel_rfl) ?_))
  simp -implicitDefEqProofs only [c1,go_sem,seval]
  refine iA (by kernel_rfl) true rfl ?_
  refine Iu none (.t 14) rfl (by kernel_rfl) ?_
  simp -implicitDefEqProofs only [go_sem,seval]
  exact ⟨_,_,rfl,fun c u hr=>⟨by rw [DJ hr];rfl,(sQ.refl _ _ _ _ _).Lf⟩⟩
theorem dI.args {P:Program} {f:FuncId} {args args':List AV} {s:St} {R:AV → St → Prop} {D:List PanicEntry → St → Prop} (h:dI P f args' s R D) (ha:∀ (c:Ctx) (vs:List Value),aB c args vs → aB c args' vs):dI P f args s R D:=
  ⟨h.1,fun c w vs hs hv=>h.2 c w vs hs (ha c vs hv)⟩
theorem J3 {b pid oid e1 e2:Nat} {L:List (Ty.Node × Nat)} {oc:List AV} {u:Nat} {r:List Nat} {s:St} (B:Bd b pid oid e1 e2 L oc (u :: r) s) (hr:r.length ≤ 1000) (hl:400 ≤ L.length) (hl2:L.length ≤ 1000) {y:Ty.Node × Nat} (hy:L[u]? = some y)
    (hkl:y.1.kids.length ≤ 1000) (hk:∀ a,y.1.kids.getLast? = some a → ∃ (k:Nat) (z:Ty.Node × Nat),a=k ∧ L[k]? = some z ∧ z.1.name ≠ []) (x:Str) (R:AV → St → Prop) :
    dI Tryz.prog 27 [.ptr b 1 0,.str x] s R fun ch s'=>ch=Gx 100 ∧ sQ b pid oid L s s':=by
  obtain ⟨h,m⟩:=s
  refine wH c27 (by kernel_rfl) (Nat.le_of_ble_eq_true (by kernel_rfl)) ?_
  have gb:AX.look b h=_:=B.gb
  have gp:AX.look pid h=_:=B.gp
  have b1:(b < m)=True:=eq_true (B.lt B.gb)
  have b2:(pid < m)=True:=eq_true (B.lt B.gp)
  simp only [F27]
  refine dG (gU mix (by kernel_rfl) ?_)
  simp -implicitDefEqProofs only [gb,gp,b1,b2,go_sem,seval]
  refine lK [] (lH B hr) B.wf (Nat.le_refl _) B.wf ⟨by simp,fun id _ _=>rfl⟩ ?_
  have hu:=fC hy
  have huT:(u < L.length)=True:=eq_true hu
  have hd0:=fK L u y hy
  have hd4:List.drop (u * 5 + 4) (gY L)=l8 y.1.kids y.2 :: gY (L.drop (u + 1)):=by
    rw [← List.drop_drop,hd0];rfl
  have hle4:(u * 5 + 4 ≤ (gY L).length)=True:=eq_true (by rw [iB];omega)
  have hadd:dI Tryz.prog 47 [.ptr b 1 0,.agg [.str [],.nils,.str x,.int .i64 0,.nils]] ⟨h,m⟩ (fun _ _=>False) _:=dI.args (Dr B hl ⟨[],[],x,0,[]⟩ _) fun c vs hv=>by
    simp only [aB,aD] at hv ⊢
    obtain ⟨v1,vs1,e1,h1,v2,vs2,e2,⟨us,e3,w1,ws1,f1,g1,w2,ws2,f2,g2,hrest⟩,h3⟩:=hv
    exact ⟨v1,vs1,e1,h1,v2,vs2,e2,⟨us,e3,w1,ws1,f1,g1,w2,ws2,f2,.inl ⟨rfl,rfl,none,0,g2⟩,hrest⟩,h3⟩
  cases hkc0:y.1.kids.getLast? with
  | none =>
    have hk0:y.1.kids=[]:=List.getLast?_eq_none_iff.1 hkc0
    rw [l8,if_pos hk0] at hd4
    simp -implicitDefEqProofs only [gb,gp,b1,b2,huT,hle4,hd4,go_sem,seval]
    refine aA (by (simp [aM,aX,aY,Nat.testBit_eq_decide_div_mod_eq];repeat' (first | omega | (intro x hx;omega) | refine And.intro ?_ ?_))) ?_
    simp -implicitDefEqProofs only [go_sem,seval]
    refine dG (gU mix (by kernel_rfl) ?_)
    simp -implicitDefEqProofs only [go_sem,seval]
    refine uJ (some 45) 47 [.t 42,.t 44] rfl (by kernel_rfl) ?_
    simp -implicitDefEqProofs only [go_sem,seval]
    exact hadd.mono (fun _ _ h=>h.elim) (fun _ _ h=>h)
  | some a =>
    obtain ⟨k,z,rfl,hz,hzn⟩:=hk a hkc0
    have hkne:y.1.kids ≠ []:=fun e=>by rw [e] at hkc0;simp at hkc0
    rw [l8,if_neg hkne] at hd4
    have hk0:0 < y.1.kids.length:=List.length_pos_iff.2 hkne
    have hkg:((y.1.kids.length:Int) > 0)=True:=eq_true (by omega)
    have w1:IntKind.i64.wrap ((y.1.kids.length:Int) - 1)=((y.1.kids.length - 1:Nat):Int):=by rw [wrap64 (by omega) (by omega)];omega
    have hkT:(y.1.kids.length - 1 < y.1.kids.length)=True:=eq_true (by omega)
    have gk:AX.look y.2 h=_:=B.gk y (List.mem_of_getElem? hy) hkne
    have b4:(y.2 < m)=True:=eq_true (B.lt (B.gk y (List.mem_of_getElem? hy) hkne))
    have hkc:(aj y.1.kids).length=y.1.kids.length:=W10K.eY _
    have hkle:(y.1.kids.length - 1 ≤ (aj y.1.kids).length)=True:=eq_true (by omega)
    have hkd:List.drop (y.1.kids.length - 1) (aj y.1.kids)=[.int .i64 k]:=by
      obtain ⟨l',e⟩:=List.getLast?_eq_some_iff.1 hkc0
      rw [e,aU,List.length_append,List.length_singleton,Nat.add_sub_cancel,List.drop_left' (W10K.eY _)];rfl
    have hzl:=fC hz
    have hzT:(k < L.length)=True:=eq_true hzl
    have hz0:List.drop (k * 5) (gY L)=.str z.1.name :: (mU z ++ gY (L.drop (k + 1))).tail:=by rw [fK L k z hz];rfl
    have hzc:(k * 5 ≤ (gY L).length)=True:=eq_true (by rw [iB];omega)
    have hzf:(z.1.name=[])=False:=eq_false hzn
    simp -implicitDefEqProofs only [gb,gp,b1,b2,huT,hle4,hd4,go_sem,seval]
    refine aA (by (simp [aM,aX,aY,Nat.testBit_eq_decide_div_mod_eq];repeat' (first | omega | (intro x hx;omega) | refine And.intro ?_ ?_))) ?_
    refine dG (gU mix (by kernel_rfl) ?_)
    simp -implicitDefEqProofs only [gb,gp,b1,b2,b4,gk,hkg,w1,hkT,hkle,hkd,hzT,hz0,hzc,hzf,go_sem,seval]
    refine aA (by (first | omega | (simp [aM,aX,aY,Nat.testBit_eq_decide_div_mod_eq];done) | (simp [aM,aX,aY,Nat.testBit_eq_decide_div_mod_eq];omega) | kernel_rfl)) ?_
    simp -implicitDefEqProofs only [gb,gp,b1,b2,b4,gk,hkg,w1,hkT,hkle,hkd,hzT,hz0,hzc,hzf,go_sem,seval]
    refine uJ (some 45) 47 [.t 42,.t 44] rfl (by kernel_rfl) ?_
    simp -implicitDefEqProofs only [go_sem,seval]
    exact hadd.mono (fun _ _ h=>h.elim) (fun _ _ h=>h)
end W10
/- The builder: begin. -/
namespace W10
open Go Go.AX Go.AX.Ty Go.Proofs
theorem Rl {P:Program} {N:Nat} {a:bL} {Q:bV} {ρ:Env} {s:St} (K:Env → St → Prop) (h:WX P N a (kF K Q) ρ s) (hk:∀ ρ s,K ρ s → Q .normal ρ s):WX P N a Q ρ s:=
  h.mono fun e ρ s hq=>by cases e <;> first | exact hk _ _ hq | exact hq
theorem Et {L:List (Ty.Node × Nat)} {u:Nat} {y:Ty.Node × Nat} (hy:L[u]? = some y) (x:Ty.Node) (hx:x.kids=[]) (j:Nat):jN (xR L u y x j)=dX (jN L) u x:=by
  unfold xR dX
  rw [tK hy,jE]
  simp only [jN,List.map_set,List.map_append,List.map_cons,List.map_nil,hx]
theorem Q5 {L:List (Ty.Node × Nat)} {k:Nat} {z:Ty.Node × Nat} (hz:L[k]? = some z) (x:Str):jN (pV L k z x)=dK (jN L) k x:=by
  unfold pV dK
  rw [tK hz]
  simp only [jN,List.map_set]
theorem Bd.Yp {b pid oid e1 e2:Nat} {L:List (Ty.Node × Nat)} {oc:List AV} {os:List Nat} {h:List (Nat × AX.Obj)} {m:Nat} (B:Bd b pid oid e1 e2 L oc os ⟨h,m⟩) (k e2':Nat) :
    Bd b pid oid e1 e2' L [] (k :: os) ⟨putAt b (.cells 1 [.sl pid e1 0 L.length 5,.sl oid e2' 0 (os.length + 1) 1] false) (putAt oid (.cells e2' (aj (uq os) ++ [.int .i64 k]) false) h),m⟩ ∧
    ∀ L',sQ b pid oid L' ⟨h,m⟩ ⟨putAt b (.cells 1 [.sl pid e1 0 L.length 5,.sl oid e2' 0 (os.length + 1) 1] false) (putAt oid (.cells e2' (aj (uq os) ++ [.int .i64 k]) false) h),m⟩:=by
  refine ⟨⟨gq (gq B.wf),?_,?_,?_,fun x hx hk=>?_,B.bp,B.bo,B.po,B.kd,B.inj⟩,fun L'=>⟨Nat.le_refl _,fun id h1 h2 h3 h4 h5=>?_⟩⟩
  · show AX.look b _=_;exact aS (by rw [ay (Ne.symm B.bo)];exact B.gb)
  · show AX.look pid _=_;rw [ay B.bp,ay (Ne.symm B.po)];exact B.gp
  · show AX.look oid _=_;rw [ay B.bo,List.append_nil,zN,aU];exact aS B.go
  · obtain ⟨k1,k2,k3⟩:=B.kd x hx hk
    show AX.look x.2 _=_;rw [ay (Ne.symm k1),ay (Ne.symm k3)];exact B.gk x hx hk
  · show AX.look id _=AX.look id _;rw [ay (Ne.symm h2),ay (Ne.symm h4)]
theorem TL {b pid oid e1 e2:Nat} {L:List (Ty.Node × Nat)} {oc:List AV} {u:Nat} {r:List Nat} {s:St} (B:Bd b pid oid e1 e2 L oc (u :: r) s) (hr:r.length ≤ 1000) (hl:L.length ≤ 1000) (hos:∀ a ∈ u :: r,a < L.length)
    (hkl:∀ y ∈ L,y.1.kids.length ≤ 1000) (t:Tag) (hz:r=[] → xP t.name=true → (nd (jN L) u).name ≠ t.name) (hal:t.attrs.length ≤ 1000000000) :
    dI Tryz.prog 25 [.ptr b 1 0,Enc.av t] s (fun v s'=>v=.tup [] ∧ ∃ st' e1' e2' oc' L',jP ⟨jN L,u :: r⟩ t=.ok st' ∧ Bd b pid oid e1' e2' L' oc' st'.os s' ∧ jN L'=st'.pg ∧ sQ b pid oid L s s') fun ch s'=>∃ e,jP ⟨jN L,u :: r⟩ t=.error e ∧ ch=Gx e ∧ sQ b pid oid L s s':=by
  obtain ⟨h,m⟩:=s
  refine wH c25 (by kernel_rfl) (Nat.le_of_ble_eq_true (by kernel_rfl)) ?_
  have gb:AX.look b h=_:=B.gb
  have gp:AX.look pid h=_:=B.gp
  have b1:b < m:=B.lt B.gb
  have b2:pid < m:=B.lt B.gp
  have bm:(b < m + 1)=True:=eq_true (by omega)
  have pm:(pid < m + 1)=True:=eq_true (by omega)
  have mm:(m < m + 1)=True:=eq_true (by omega)
  have mb:(m=b)=False:=eq_false (by omega)
  have mp:(m=pid)=False:=eq_false (by omega)
  simp only [F25]
  refine dG (gU mix (by kernel_rfl) ?_)
  simp -implicitDefEqProofs only [Tag.KA,go_sem,seval]
  have hu:u < L.length:=hos u (by simp)
  have huT:(u < L.length)=True:=eq_true hu
  obtain ⟨y,hy,_,_⟩:=aW hu
  have hnd:=tK hy
  have hd0:=fK L u y hy
  have hpl:(u * 5 ≤ (gY L).length)=True:=eq_true (by rw [iB];omega)
  have hd1:List.drop (u * 5) (gY L)=.str y.1.name :: (mU y ++ gY (L.drop (u + 1))).tail:=by rw [hd0];rfl
  refine dG (dG (Rl (fun ρ s=>agree ρ [(0,.ptr b 1 0),(3,.ptr m 1 0),(21,.bool (decide (y.1.name=t.name ∧ xP t.name=true)))] ∧ s=⟨(m,.cells 1 [.int .i64 t.kind,.str t.name,.ps t.attrs.length (aj t.attrs),.str t.text] false) :: h,m + 1⟩) (gU mix (by kernel_rfl) ?_) fun ρ s hk=>?_))
  · simp -implicitDefEqProofs only [gb,gp,mb,mp,bm,pm,mm,go_sem,seval]
    refine lK [] (lH (B.push _) hr) (bQ B.wf) (Nat.le_refl _) (bQ B.wf) ⟨by simp,fun id _ _=>rfl⟩ ?_
    simp -implicitDefEqProofs only [gb,gp,mb,mp,bm,pm,mm,huT,hpl,hd1,go_sem,seval]
    by_cases hn:y.1.name=t.name
    · have hT:=eq_true hn
      simp -implicitDefEqProofs only [hT,gb,gp,mb,mp,bm,pm,mm,huT,hpl,hd1,go_sem,seval]
      refine aA (by (simp [aM,aX,aY,Nat.testBit_eq_decide_div_mod_eq];repeat' (first | omega | (intro x hx;omega) | refine And.intro ?_ ?_))) ?_
      simp -implicitDefEqProofs only [hT,gb,gp,mb,mp,bm,pm,mm,huT,hpl,hd1,go_sem,seval]
      refine ak (Mt t.name) ?_
      simp -implicitDefEqProofs only [hT,gb,gp,mb,mp,bm,pm,mm,huT,hpl,hd1,go_sem,seval]
      simp [hn]
    · have hF:=eq_false hn
      simp -implicitDefEqProofs only [hF,gb,gp,mb,mp,bm,pm,mm,huT,hpl,hd1,go_sem,seval]
      refine aA (by (simp [aM,aX,aY,Nat.testBit_eq_decide_div_mod_eq];repeat' (first | omega | (intro x hx;omega) | refine And.intro ?_ ?_))) ?_
      simp -implicitDefEqProofs only [hF,gb,gp,mb,mp,bm,pm,mm,huT,hpl,hd1,go_sem,seval]
      simp [hn]
  obtain ⟨ha,rfl⟩:=hk
  rw [← iI ha]
  have hoi:∀ (a:Nat) (rr:List Nat),uq (a :: rr)=uq rr ++ [(a:Int)]:=zN
  have gm:AX.look m ((m,AX.Obj.cells 1 [.int .i64 t.kind,.str t.name,.ps t.attrs.length (aj t.attrs),.str t.text] false) :: h)=some (.cells 1 [.int .i64 t.kind,.str t.name,.ps t.attrs.length (aj t.attrs),.str t.text] false):=by simp [AX.look]
  have hB:=B.push (.cells 1 [.int .i64 t.kind,.str t.name,.ps t.attrs.length (aj t.attrs),.str t.text] false)
  show WX _ _ _ _ _ _
  generalize hos':sj (jN L) (u :: r) t.name=os'
  refine Rl (fun ρ s=>agree ρ [(0,.ptr b 1 0),(3,.ptr m 1 0)] ∧ ∃ oc',Bd b pid oid e1 e2 L oc' os' s ∧ s.get m=some (.cells 1 [.int .i64 t.kind,.str t.name,.ps t.attrs.length (aj t.attrs),.str t.text] false) ∧ sQ b pid oid L ⟨h,m⟩ s) ?_ fun ρ s hk=>?_
  · by_cases hp:y.1.name=t.name ∧ xP t.name=true
    · refine iA (by kernel_rfl) true (by simp only [uY,upd,bD,if_true,Nat.reduceEqDiff,if_false,decide_eq_true hp]) ?_
      refine gU mix (by kernel_rfl) ?_
      have hrn:r ≠ []:=fun e=>hz e hp.2 (by rw [hnd];exact hp.1)
      have w1:IntKind.i64.wrap (((r.length + 1:Nat):Int) - 1)=(r.length:Int):=by rw [wrap64 (by omega) (by omega)];omega
      have hle:(r.length ≤ r.length + 1)=True:=eq_true (by omega)
      simp -implicitDefEqProofs only [gb,gp,mb,mp,bm,pm,mm,w1,hle,go_sem,seval]
      refine aA (by (simp [aM,aX,aY,Nat.testBit_eq_decide_div_mod_eq];repeat' (first | omega | (intro x hx;omega) | refine And.intro ?_ ?_))) ?_
      simp -implicitDefEqProofs only [go_sem,seval]
      have hpo:sj (jN L) (u :: r) t.name=r:=by rw [sj,if_pos ⟨by rw [jc,hnd];exact hp.1,hp.2⟩];rfl
      rw [← hos',hpo]
      obtain ⟨B1,F1⟩:=B.shut (pre:=[u]) (o:=r) rfl
      exact ⟨_,B1.push _,F1.Lf⟩
    · refine iA (by kernel_rfl) false (by simp only [uY,upd,bD,if_true,Nat.reduceEqDiff,if_false,decide_eq_false hp]) ?_
      refine yA ?_
      simp -implicitDefEqProofs only [go_sem,seval]
      have hpo:sj (jN L) (u :: r) t.name=u :: r:=by rw [sj,if_neg fun e=>hp ⟨by rw [← hnd];exact e.1,e.2⟩]
      rw [← hos',hpo]
      exact ⟨_,hB,(sQ.refl _ _ _ _ _).Lf⟩
  obtain ⟨ha,oc1,B1,gm1,F1⟩:=hk
  rw [← iI ha]
  clear ha
  clear gm hB
  have hne:∃ u' r',os'=u' :: r' ∧ r'.length ≤ r.length ∧ ∀ a ∈ u' :: r',a < L.length:=by
    rw [← hos',sj]
    split
    · rename_i hp
      cases r with
      | nil=>exact absurd hp.1 (hz rfl hp.2)
      | cons u' r'=>exact ⟨u',r',rfl,by simp,fun a ha=>hos a (by simp only [List.mem_cons] at ha ⊢;exact .inr ha)⟩
    · exact ⟨u,r,rfl,by omega,hos⟩
  obtain ⟨u',r',rfl,hr',hos1⟩:=hne
  have hbeg:jP ⟨jN L,u :: r⟩ t=if 60 < (u' :: r').length then .error 101 else if 400 ≤ (jN L).length then .error 100 else .ok ⟨dX (jN L) u' ⟨t.name,t.attrs,[],0,[]⟩,if jq t.name=true then u' :: r' else (jN L).length :: u' :: r'⟩:=by
    simp only [jP,hos'];rfl
  rw [hbeg]
  clear hbeg hos'
  obtain ⟨h1,m1⟩:=s
  have gb1:AX.look b h1=_:=B1.gb
  have gm2:AX.look m h1=_:=gm1
  have mm1:m < m1:=B1.lt gm1
  have bm1:b < m1:=B1.lt B1.gb
  show WX _ _ _ _ _ _
  by_cases hnest:60 < (u' :: r').length
  · refine dG (dG (gU mix (by kernel_rfl) ?_))
    have c1:(((r'.length + 1:Nat):Int) > 60)=True:=eq_true (by simp only [List.length_cons] at hnest;omega)
    simp -implicitDefEqProofs only [gb1,c1,go_sem,seval]
    refine iA (by kernel_rfl) true rfl ?_
    refine Iu none (.t 43) rfl (by kernel_rfl) ?_
    simp -implicitDefEqProofs only [go_sem,seval]
    refine ⟨_,_,rfl,fun c u hr=>⟨101,if_pos (show 60 < (u' :: r').length from hnest),by rw [DJ hr];rfl,F1⟩⟩
  rw [if_neg hnest]
  refine dG (dG (gU mix (by kernel_rfl) ?_))
  have c1:(((r'.length + 1:Nat):Int) > 60)=False:=eq_false (by simp only [List.length_cons] at hnest;omega)
  simp -implicitDefEqProofs only [gb1,c1,go_sem,seval]
  refine iA (by kernel_rfl) false rfl (yA ?_)
  show WX _ _ _ _ _ _
  have hrl:r'.length ≤ 1000:=by omega
  obtain ⟨y',hy',_,hym'⟩:=aW (hos1 u' (by simp))
  have T1:(m < m1)=True:=eq_true mm1
  by_cases hroom:400 ≤ L.length
  · refine dG (FQ mix (by kernel_rfl) ?_)
    simp -implicitDefEqProofs only [gm2,T1,go_sem,seval]
    refine iR (FM t.attrs hal) ?_
    simp -implicitDefEqProofs only [gm2,T1,go_sem,seval]
    refine aA (by (simp [aM,aX,aY,Nat.testBit_eq_decide_div_mod_eq];repeat' (first | omega | (intro x hx;omega) | refine And.intro ?_ ?_))) ?_
    simp -implicitDefEqProofs only [go_sem,seval]
    exact (Dr B1 hroom ⟨t.name,t.attrs,[],0,[]⟩ (fun _ _=>False)).mono (fun _ _ h=>h.elim) fun _ _ h=>⟨100,by rw [if_pos (by rw [jE];exact hroom)],h.1,F1.trans h.2⟩
  refine dG (FQ mix (by kernel_rfl) ?_)
  simp -implicitDefEqProofs only [gm2,T1,go_sem,seval]
  refine iR (FM t.attrs hal) ?_
  simp -implicitDefEqProofs only [gm2,T1,go_sem,seval]
  refine aA (by (simp [aM,aX,aY,Nat.testBit_eq_decide_div_mod_eq];repeat' (first | omega | (intro x hx;omega) | refine And.intro ?_ ?_))) ?_
  simp -implicitDefEqProofs only [go_sem,seval]
  refine dI.mono (D:=fun _ _=>False) (VP B1 hrl (by omega) hy' ⟨t.name,t.attrs,[],0,[]⟩ (hkl y' hym')).toP (fun v s2 hv=>?_) fun _ _ h=>h.elim
  obtain ⟨rfl,e1',j,B2,F2⟩:=hv
  obtain ⟨h2,m2⟩:=s2
  have hkm:∀ x ∈ L,x.1.kids ≠ [] → x.2 ≠ m:=fun x hx hk=>by have h0:x.2 < m:=B.lt (B.gk x hx hk);omega
  have gm3:AX.look m h2=_:=(F2.2 m mm1 (by omega) (by omega) (by have h0:oid < m:=B.lt B.go;omega) hkm).trans gm1
  have mm2:m < m2:=Nat.lt_of_lt_of_le mm1 F2.1
  have T2:(m < m2)=True:=eq_true mm2
  have gb2:AX.look b h2=_:=B2.gb
  have go2:AX.look oid h2=_:=B2.go
  have bm2:(b < m2)=True:=eq_true (B2.lt B2.gb)
  have om2:(oid < m2)=True:=eq_true (B2.lt B2.go)
  rw [if_neg (by rw [jE];exact hroom)]
  simp -implicitDefEqProofs only [oD,go_sem,seval]
  refine dG (gU mix (by kernel_rfl) ?_)
  simp -implicitDefEqProofs only [gm3,T2,go_sem,seval]
  refine ak (yX t.name) ?_
  simp -implicitDefEqProofs only [go_sem,seval]
  cases hv:jq t.name
  · refine iA (by kernel_rfl) true rfl ?_
    refine gU mix (by kernel_rfl) ?_
    have mo:(m2=oid)=False:=eq_false (by have h0:oid < m2:=B2.lt B2.go;omega)
    have mb2:(m2=b)=False:=eq_false (by have h0:b < m2:=B2.lt B2.gb;omega)
    have om3:(oid < m2 + 1)=True:=eq_true (by have h0:oid < m2:=B2.lt B2.go;omega)
    have bm3:(b < m2 + 1)=True:=eq_true (by have h0:b < m2:=B2.lt B2.gb;omega)
    have ob:(oid=b)=False:=eq_false (Ne.symm B2.bo)
    have bo:(b=oid)=False:=eq_false B2.bo
    have hcl:(aj (uq (u' :: r'))).length=r'.length + 1:=by rw [W10K.eY,vk,List.length_cons]
    have hc1:(r'.length + 1 ≤ (aj (uq (u' :: r')) ++ oc1).length)=True:=eq_true (by rw [List.length_append,hcl];omega)
    have hc2:((r'.length + 1 + 1) * 8 ≤ 140737488355328)=True:=eq_true (by omega)
    have hc3:List.take (r'.length + 1) (aj (uq (u' :: r')) ++ oc1)=aj (uq (u' :: r')):=List.take_left' hcl
    generalize hV:iC false e2 (r'.length + 1 + 1)=e2'
    simp -implicitDefEqProofs only [gb2,bm2,mo,mb2,om3,bm3,ob,bo,go2,hc1,hc2,hc3,hV,go_sem,seval]
    obtain ⟨B3,F3⟩:=B2.Yp L.length e2'
    exact ⟨_,e1',e2',[],_,rfl,by rw [jE];exact B3.push _,Et hy' _ rfl j,(F1.trans (F2.trans (F3 L))).Lf⟩
  · refine iA (by kernel_rfl) false rfl (yA ?_)
    simp -implicitDefEqProofs only [go_sem,seval]
    exact ⟨_,e1',e2,oc1,_,rfl,B2,Et hy' _ rfl j,F1.trans F2⟩
end W10
/- The builder's three calls, as the plain step says. -/
namespace W10
open Go Go.AX Go.AX.Ty Go.Proofs
theorem CY (p:List Ty.Node) (m n:Nat):(lG p m n).length ≤ m:=by
  unfold lG
  rw [List.length_map]
  exact Nat.le_trans (List.length_filter_le _ _) (by simp)
theorem PI.L8 {p:List Ty.Node} (I:PI p) {y:Ty.Node} (h:y ∈ p):y.kids.length ≤ 400:=by
  obtain ⟨n,hn⟩:=List.mem_iff_getElem?.1 h
  have hl:=fC hn
  rw [← fM hn,I.kids n hl]
  exact Nat.le_trans (CY _ _ _) I.le
def zV (b pid oid:Nat) (L:List (Ty.Node × Nat)) (s:St) (x:Except Int PS) (v:AV) (s':St):Prop:=
  v=.tup [] ∧ ∃ st' e1' e2' oc' L',x=.ok st' ∧ Bd b pid oid e1' e2' L' oc' st'.os s' ∧ jN L'=st'.pg ∧ sQ b pid oid L s s'
theorem SI.facts {L:List (Ty.Node × Nat)} {os:List Nat} (S:SI ⟨jN L,os⟩):∃ u r,os=u :: r ∧ r.length ≤ 1000 ∧ L.length ≤ 400 ∧ (∀ a ∈ os,a < L.length) ∧ (∀ y ∈ L,y.1.kids.length ≤ 1000) ∧ (r=[] → u=0):=by
  obtain ⟨u,r,e⟩:=S.ch.ne
  simp only at e
  subst e
  have I:PI (jN L):=S.pi
  have hn:(u :: r).length ≤ 61:=S.nest
  refine ⟨u,r,rfl,by simp only [List.length_cons] at hn;omega,by have:=I.le;rwa [jE] at this,fun a ha=>?_,fun y hy=>?_,fun e=>?_⟩
  · have:=S.ch.lt I a ha;rwa [jE] at this
  · have:=I.L8 (y:=y.1) (List.mem_map.2 ⟨y,hy,rfl⟩);omega
  · subst e;exact S.ch
theorem Om {b pid oid e1 e2:Nat} {L:List (Ty.Node × Nat)} {oc:List AV} {os:List Nat} {s:St} (B:Bd b pid oid e1 e2 L oc os s) (S:SI ⟨jN L,os⟩) (t:Tag) (hn:t.name ≠ []) (hal:t.attrs.length ≤ 1000000000) :
    dI Tryz.prog 25 [.ptr b 1 0,Enc.av t] s (zV b pid oid L s (jP ⟨jN L,os⟩ t)) fun ch s'=>∃ e,jP ⟨jN L,os⟩ t=.error e ∧ ch=Gx e ∧ sQ b pid oid L s s':=by
  obtain ⟨u,r,rfl,h1,h2,h3,h4,h5⟩:=S.facts
  exact TL B h1 (by omega) h3 h4 t (fun e _ he=>by rw [h5 e,S.pi.root.1] at he;exact hn he.symm) hal
theorem Xi {b pid oid e1 e2:Nat} {L:List (Ty.Node × Nat)} {oc:List AV} {os:List Nat} {s:St} (B:Bd b pid oid e1 e2 L oc os s) (S:SI ⟨jN L,os⟩) (n:Str) :
    aF Tryz.prog 26 [.ptr b 1 0,.str n] s (zV b pid oid L s (.ok (vo ⟨jN L,os⟩ n))):=by
  obtain ⟨u,r,rfl,h1,h2,h3,h4,h5⟩:=S.facts
  have hn:(u :: r).length ≤ 61:=S.nest
  exact (YK B (by omega) (by simp) h3 (by omega) n).mono fun v s' ⟨h1,oc',h2,h3⟩=>⟨h1,_,e1,e2,oc',L,rfl,h2,rfl,h3⟩
theorem Tv {b pid oid e1 e2:Nat} {L:List (Ty.Node × Nat)} {oc:List AV} {os:List Nat} {s:St} (B:Bd b pid oid e1 e2 L oc os s) (S:SI ⟨jN L,os⟩) (x:Str) (hx:∀ z ∈ L,z.1.text.length + x.length ≤ 9223372036854775807) :
    dI Tryz.prog 27 [.ptr b 1 0,.str x] s (zV b pid oid L s (jv ⟨jN L,os⟩ x)) fun ch s'=>∃ e,jv ⟨jN L,os⟩ x=.error e ∧ ch=Gx e ∧ sQ b pid oid L s s':=by
  obtain ⟨u,r,rfl,h1,h2,h3,h4,h5⟩:=S.facts
  obtain ⟨y,hy,_,hym⟩:=aW (h3 u (by simp))
  have hnd:=tK hy
  unfold jv
  simp only [jc]
  cases hl:lastT (jN L) u with
  | some k =>
    obtain ⟨g1,g2,g3,g4,g5⟩:=Ac S.pi (by rw [jE];exact h3 u (by simp)) hl
    rw [jE] at g4
    obtain ⟨z,hz,_,hzm⟩:=aW g4
    rw [hnd] at g1
    rw [tK hz] at g2
    refine dI.mono (D:=fun _ _=>False) (Hl B h1 (by omega) hy (h4 y hym) g1 hz g2 x (hx z hzm)).toP (fun v s' hv=>?_) fun _ _ h=>h.elim
    obtain ⟨rfl,q1,q2⟩:=hv
    exact ⟨rfl,_,e1,e2,oc,_,rfl,q1,Q5 hz x,q2⟩
  | none =>
    have hk:∀ a,y.1.kids.getLast? = some a → ∃ (k:Nat) (z:Ty.Node × Nat),a=k ∧ L[k]? = some z ∧ z.1.name ≠ []:=fun a ha=>by
      have hl':=Ai hl a (by rw [hnd];exact ha)
      obtain ⟨k,rfl,g2,_⟩:=S.pi.kid (n:=u) (by rw [jE];exact h3 u (by simp)) (a:=a) (by show a ∈ (nd (jN L) u).kids;rw [hnd];exact List.mem_of_getLast? ha)
      rw [jE] at g2
      obtain ⟨z,hz,_,_⟩:=aW g2
      rw [Int.toNat_natCast,tK hz] at hl'
      exact ⟨k,z,rfl,hz,hl'⟩
    show dI _ _ _ _ (zV b pid oid L s (xV ⟨jN L,u :: r⟩ ⟨[],[],x,0,[]⟩)) fun ch s'=>∃ e,xV ⟨jN L,u :: r⟩ ⟨[],[],x,0,[]⟩=.error e ∧ ch=Gx e ∧ sQ b pid oid L s s'
    unfold xV
    simp only [jE]
    by_cases hroom:400 ≤ L.length
    · rw [if_pos hroom]
      exact (J3 B h1 hroom (by omega) hy (h4 y hym) hk x (fun _ _=>False)).mono (fun _ _ h=>h.elim) fun _ _ h=>⟨100,rfl,h⟩
    · rw [if_neg hroom]
      refine dI.mono (D:=fun _ _=>False) (Jd B h1 (by omega) hy (h4 y hym) hk x).toP (fun v s' hv=>?_) fun _ _ h=>h.elim
      obtain ⟨rfl,e1',j,q1,q2⟩:=hv
      exact ⟨rfl,_,e1',e2,oc,_,rfl,q1,Et hy _ rfl j,q2⟩
end W10
