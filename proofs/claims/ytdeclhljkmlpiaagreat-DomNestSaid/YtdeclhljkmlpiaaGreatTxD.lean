/- The scanner: a tag that opens. -/
import Derived.Test.YtdeclhljkmlpiaaGreatTxC
import Derived.Test.YtdeclhljkmlpiaaGreatTxB
set_option linter.unusedSimpArgs false
set_option linter.unusedVariables false
namespace W10
open Go Go.AX Go.AX.Ty Go.Proofs
theorem u6 {b m:Nat} {u:Str} {X x:AX.Obj} {H:List (Nat × AX.Obj)} (T:Tag) (hb:b < m) (hx:AX.look b H=some x) :
    Fh b u [T] ⟨(m + 1,.cells 9 (aj [T]) false) :: (m,X) :: putAt b (.cells 1 [.str u,.sl (m + 1) 9 0 1 4] false) H,m + 1 + 1⟩:=by
  refine ⟨by show b < m + 1 + 1;omega,.sl (m + 1) 9 0 1 4,?_,.inr ⟨m + 1,9,rfl,by omega,Nat.lt_succ_self _,?_⟩⟩
  · show AX.look b (_ :: _)=_
    simp only [AX.look]
    rw [if_neg (by omega),if_neg (by omega)]
    exact aS hx
  · show AX.look (m + 1) (_ :: _)=_
    simp only [AX.look,if_true]
theorem um {b m d e:Nat} {u:Str} {X x y:AX.Obj} {l:List Tag} {H:List (Nat × AX.Obj)} (T:Tag) (hb:b < m) (hd:d < m) (hdb:d ≠ b) (hx:AX.look b H=some x) (hy:AX.look d H=some y) :
    Fh b u (l ++ [T]) ⟨(m,X) :: putAt b (.cells 1 [.str u,.sl d e 0 (l.length + 1) 4] false) (putAt d (.cells e (List.take (l.length * 4) (aj l) ++ aj [T]) false) H),m + 1⟩:=by
  refine ⟨by show b < m + 1;omega,.sl d e 0 (l.length + 1) 4,?_,.inr ⟨d,e,by rw [List.length_append];rfl,hdb,by show d < m + 1;omega,?_⟩⟩
  · show AX.look b (_ :: _)=_
    simp only [AX.look]
    rw [if_neg (by omega)]
    exact aS (x:=x) (by rw [ay hdb];exact hx)
  · show AX.look d (_ :: _)=_
    simp only [AX.look]
    rw [if_neg (by omega),ay (Ne.symm hdb),aS hy,aU]
    rw [List.take_of_length_le (by rw [Tag.jm];exact Nat.le_refl _)]
def Yu (m:Nat) (al:List Ty.Attr) (A:AV) (s:St):Prop:=
  (al=[] ∧ A=.nils) ∨ ∃ a e,A=.sl a e 0 al.length 2 ∧ m < a ∧ a < s.next ∧ s.get a=some (.cells e (aj al) false)
theorem Yu.same {m:Nat} {al:List Ty.Attr} {A:AV} {s s':St} (h:Yu m al A s) (hn:s.next ≤ s'.next) (hg:∀ id,m < id → id < s.next → s'.get id=s.get id):Yu m al A s':=by
  rcases h with h | ⟨a,e,h1,h2,h3,h4⟩
  · exact .inl h
  · exact .inr ⟨a,e,h1,h2,by omega,by rw [hg a h2 h3];exact h4⟩
theorem oW (t:Str):aC t ≤ t.length:=by
  cases t with
  | nil=>exact Nat.le_refl _
  | cons c r =>
    simp only [aC]
    split
    · have:=Qe (p:=cB) r;simp;exact this
    · simp
theorem Xr {s:St} {b:Nat} {t:Str} {l:List Tag} (hS:Fh b t l s) (hl:l.length ≤ 1000000000) (ht:t.length ≤ 1000000000) :
    aF Tryz.prog 60 [.ptr b 1 0] s fun r s'=>r=.tup [] ∧ Fh b (cZ t).2 (l ++ [(cZ t).1]) s':=by
  obtain ⟨h,m⟩:=s
  obtain ⟨hb,V,g,hT⟩:=hS
  refine bE mix (dx _) c60 (by kernel_rfl) (Nat.le_of_ble_eq_true (by kernel_rfl)) ?_
  have g':AX.look b h=some (.cells 1 [.str t,V] false):=g
  have hb':b < m:=hb
  have ht1:(t.drop 1).length ≤ 1000000000:=by simp;omega
  simp -implicitDefEqProofs only [F60,go_sem,seval]
  refine aH ((jH g 1 (by omega) ht).mono fun x s1 ⟨e1,e2⟩=>?_)
  subst e1
  obtain ⟨p1,p2,p3⟩:=dF g e2
  clear e2
  obtain ⟨h1,m1⟩:=s1
  simp only at p2;subst p2
  have p1':AX.look b h1=_:=p1
  simp -implicitDefEqProofs only [p1',go_sem,seval]
  refine ak (qW (t.drop 1) 0 ht1 (by omega)) ?_
  simp -implicitDefEqProofs only [List.drop_zero,go_sem,seval]
  have hnl:aC (t.drop 1) ≤ 1000000000:=Nat.le_trans (oW _) ht1
  refine aH ((jH p1 (aC (t.drop 1)) hnl ht1).mono fun x s2 ⟨e3,e4⟩=>?_)
  subst e3
  obtain ⟨q1,q2,q3⟩:=dF p1 e4
  clear e4
  obtain ⟨h2,m2⟩:=s2
  simp only at q2;subst q2
  have q1':AX.look b h2=_:=q1
  have qo:∀ id,id ≠ b → AX.look id h2=AX.look id h:=fun id hid=>(q3 id hid).trans (p3 id hid)
  clear q3 p3
  simp -implicitDefEqProofs only [go_sem,seval]
  refine ak (x8 _ (by simp;omega)) ?_
  have hop:cZ t=(dY (aK ((t.drop 1).take (aC (t.drop 1)))) (dO [] ((t.drop 1).drop (aC (t.drop 1)))).1,(dO [] ((t.drop 1).drop (aC (t.drop 1)))).2):=rfl
  have hr0:((t.drop 1).drop (aC (t.drop 1))).length ≤ 1000000000:=by simp;omega
  generalize aK ((t.drop 1).take (aC (t.drop 1)))=nm at *
  generalize (t.drop 1).drop (aC (t.drop 1))=r0 at *
  have q0:(m2=b)=False:=eq_false (by omega)
  rw [hop]
  clear hop
  simp -implicitDefEqProofs only [go_sem,seval]
  refine bA (fun x:Str × List Ty.Attr=>x.1.length) (fun x=>[(0,.ptr b 1 0),(2,.ptr m2 1 0)])
    (fun x st=>st.get b=some (.cells 1 [.str x.1,V] false) ∧ (∀ id,id < m2 → id ≠ b → st.get id=AX.look id h) ∧ m2 < st.next ∧ (∃ A,st.get m2=some (.cells 1 [.int .i64 1,.str nm,A,.str []] false) ∧ Yu m2 x.2 A st) ∧ x.1.length ≤ 1000000000 ∧ x.2.length ≤ 16 ∧ dO [] r0=dO x.2 x.1) (r0,[]) ?_ ?_
  · simp -implicitDefEqProofs only [go_sem,seval]
    refine ⟨by rw [if_neg (by omega)];exact q1',fun id j1 j2=>by rw [if_neg (by omega)];exact qo id j2,⟨_,rfl,.inl ⟨rfl,rfl⟩⟩,hr0⟩
  rintro ⟨u,al⟩ ρ ⟨h3,m3⟩ ⟨i1,i2,i3,⟨A,i4,i5⟩,i6,i7,i8⟩
  have i1':AX.look b h3=_:=i1
  have i4':AX.look m2 h3=_:=i4
  simp only at i6 i7
  rw [i8]
  have i3':m2 < m3:=i3
  have b3:(b < m3)=True:=eq_true (by omega)
  have b4:(m2 < m3)=True:=eq_true i3'
  have hlc:=Tag.jm l
  have hle2:((l.length + 1) * 64 ≤ 140737488355328)=True:=eq_true (by omega)
  have q2:(m3=b)=False:=eq_false (by omega)
  have q3:(m3 + 1=b)=False:=eq_false (by omega)
  cases u with
  | nil =>
    rw [iY]
    rcases i5 with ⟨rfl,rfl⟩ | ⟨a,e,rfl,a1,a2,a3⟩
    · have hz:(0:Nat)=0:=rfl
      rcases hT with ⟨rfl,rfl⟩ | ⟨d,ed,rfl,d1,d2,d3⟩
      · simp -implicitDefEqProofs only [i1',i4',b3,b4,q2,q3,go_sem,seval]
        refine aA (by (first | omega | (simp [aM,aX,aY,Nat.testBit_eq_decide_div_mod_eq];done) | (simp [aM,aX,aY,Nat.testBit_eq_decide_div_mod_eq];omega) | kernel_rfl)) ?_
        simp -implicitDefEqProofs only [i1',i4',b3,b4,q2,q3,go_sem,seval]
        exact u6 (dY nm []) (by omega) (x:=.cells 1 [.str [],.nils] false) (by exact i1')
      · have d2':d < m2:=d2
        have d3':AX.look d h3=_:=(i2 d d2' d1).trans d3
        have md:(m3=d)=False:=eq_false (by omega)
        have db:(d=b)=False:=eq_false d1
        have dl:(d < m3 + 1)=True:=eq_true (by omega)
        simp -implicitDefEqProofs only [i1',i4',b3,b4,q2,q3,d3',md,db,dl,hlc,hle2,Nat.le_refl,go_sem,seval]
        refine aA (by (first | omega | (simp [aM,aX,aY,Nat.testBit_eq_decide_div_mod_eq];done) | (simp [aM,aX,aY,Nat.testBit_eq_decide_div_mod_eq];omega) | kernel_rfl)) ?_
        simp -implicitDefEqProofs only [i1',i4',b3,b4,q2,q3,d3',md,db,dl,hlc,hle2,Nat.le_refl,go_sem,seval]
        exact um (dY nm []) (by omega) (by omega) d1 (by exact i1') d3'
    · have a3':AX.look a h3=_:=a3
      have hal:=Attr.jm al
      have ab:(a=b)=False:=eq_false (by omega)
      have am:(a=m2)=False:=eq_false (by omega)
      have a2':a < m3:=a2
      have ma:(m3=a)=False:=eq_false (by omega)
      have ha1:(al.length * 2 ≤ (aj al).length)=True:=eq_true (by rw [hal];exact Nat.le_refl _)
      have al3:(a < m3)=True:=eq_true a2'
      have al4:(a < m3 + 1)=True:=eq_true (by omega)
      have ha2:List.take (al.length * 2) (aj al)=aj al:=List.take_of_length_le (by rw [hal];exact Nat.le_refl _)
      rcases hT with ⟨rfl,rfl⟩ | ⟨d,ed,rfl,d1,d2,d3⟩
      · simp -implicitDefEqProofs only [i1',i4',b3,b4,q2,q3,a3',ab,am,ma,ha1,ha2,al3,al4,go_sem,seval]
        refine aA (by (first | omega | (simp [aM,aX,aY,Nat.testBit_eq_decide_div_mod_eq];done) | (simp [aM,aX,aY,Nat.testBit_eq_decide_div_mod_eq];omega) | kernel_rfl)) ?_
        simp -implicitDefEqProofs only [i1',i4',b3,b4,q2,q3,a3',ab,am,ma,ha1,ha2,al3,al4,go_sem,seval]
        exact u6 (dY nm al) (by omega) (x:=.cells 1 [.str [],.nils] false) (by rw [ay (by omega)];exact i1')
      · have d2':d < m2:=d2
        have d3':AX.look d h3=_:=(i2 d d2' d1).trans d3
        have md:(m3=d)=False:=eq_false (by omega)
        have db:(d=b)=False:=eq_false d1
        have dl:(d < m3 + 1)=True:=eq_true (by omega)
        have ad:(a=d)=False:=eq_false (by omega)
        simp -implicitDefEqProofs only [i1',i4',b3,b4,q2,q3,a3',ab,am,ma,ha1,ha2,al3,al4,d3',md,db,dl,hlc,hle2,Nat.le_refl,ad,go_sem,seval]
        refine aA (by (first | omega | (simp [aM,aX,aY,Nat.testBit_eq_decide_div_mod_eq];done) | (simp [aM,aX,aY,Nat.testBit_eq_decide_div_mod_eq];omega) | kernel_rfl)) ?_
        simp -implicitDefEqProofs only [i1',i4',b3,b4,q2,q3,a3',ab,am,ma,ha1,ha2,al3,al4,d3',md,db,dl,hlc,hle2,Nat.le_refl,ad,go_sem,seval]
        exact um (dY nm al) (by omega) (by omega) d1 (by rw [ay (by omega)];exact i1') (by rw [ay (by omega)];exact d3')
  | cons c u =>
    have hgt:(((u.length + 1:Nat):Int) > 0)=True:=eq_true (by omega)
    have hul:u.length + 1 ≤ 1000000000:=i6
    rw [bR]
    simp -implicitDefEqProofs only [i1',i4',b3,b4,hgt,go_sem,seval]
    by_cases h62:c=62
    · subst h62
      rw [if_pos rfl]
      simp -implicitDefEqProofs only [go_sem,seval]
      refine aH ((jH i1 1 (by omega) (by simp;omega)).mono fun x s4 ⟨e5,e6⟩=>?_)
      subst e5
      obtain ⟨r1,r2,r3⟩:=dF i1 e6
      clear e6
      obtain ⟨h4,m4⟩:=s4
      simp only at r2;have r2:=r2.symm;subst r2
      have r1':AX.look b h4=some (.cells 1 [.str u,V] false):=r1
      have i4'':AX.look m2 h4=_:=(r3 m2 (by omega)).trans i4'
      have i2':∀ id,id < m2 → id ≠ b → AX.look id h4=AX.look id h:=fun id j1 j2=>(r3 id j2).trans (i2 id j1 j2)
      clear i1 i1' i4 i4' i2
      rcases i5 with ⟨rfl,rfl⟩ | ⟨a,e,rfl,a1,a2,a3⟩
      · have hz:(0:Nat)=0:=rfl
        rcases hT with ⟨rfl,rfl⟩ | ⟨d,ed,rfl,d1,d2,d3⟩
        · simp -implicitDefEqProofs only [r1',i4'',b3,b4,q2,q3,go_sem,seval]
          refine aA (by (first | omega | (simp [aM,aX,aY,Nat.testBit_eq_decide_div_mod_eq];done) | (simp [aM,aX,aY,Nat.testBit_eq_decide_div_mod_eq];omega) | kernel_rfl)) ?_
          simp -implicitDefEqProofs only [r1',i4'',b3,b4,q2,q3,go_sem,seval]
          exact u6 (dY nm []) (by omega) (x:=.cells 1 [.str u,.nils] false) (by exact r1')
        · have d2':d < m2:=d2
          have d3':AX.look d h4=_:=(i2' d d2' d1).trans d3
          have md:(m3=d)=False:=eq_false (by omega)
          have db:(d=b)=False:=eq_false d1
          have dl:(d < m3 + 1)=True:=eq_true (by omega)
          simp -implicitDefEqProofs only [r1',i4'',b3,b4,q2,q3,d3',md,db,dl,hlc,hle2,Nat.le_refl,go_sem,seval]
          refine aA (by (first | omega | (simp [aM,aX,aY,Nat.testBit_eq_decide_div_mod_eq];done) | (simp [aM,aX,aY,Nat.testBit_eq_decide_div_mod_eq];omega) | kernel_rfl)) ?_
          simp -implicitDefEqProofs only [r1',i4'',b3,b4,q2,q3,d3',md,db,dl,hlc,hle2,Nat.le_refl,go_sem,seval]
          exact um (dY nm []) (by omega) (by omega) d1 (by exact r1') d3'
      · have a3':AX.look a h4=_:=(r3 a (by omega)).trans a3
        have hal:=Attr.jm al
        have ab:(a=b)=False:=eq_false (by omega)
        have am:(a=m2)=False:=eq_false (by omega)
        have a2':a < m3:=a2
        have ma:(m3=a)=False:=eq_false (by omega)
        have ha1:(al.length * 2 ≤ (aj al).length)=True:=eq_true (by rw [hal];exact Nat.le_refl _)
        have al3:(a < m3)=True:=eq_true a2'
        have al4:(a < m3 + 1)=True:=eq_true (by omega)
        have ha2:List.take (al.length * 2) (aj al)=aj al:=List.take_of_length_le (by rw [hal];exact Nat.le_refl _)
        rcases hT with ⟨rfl,rfl⟩ | ⟨d,ed,rfl,d1,d2,d3⟩
        · simp -implicitDefEqProofs only [r1',i4'',b3,b4,q2,q3,a3',ab,am,ma,ha1,ha2,al3,al4,go_sem,seval]
          refine aA (by (first | omega | (simp [aM,aX,aY,Nat.testBit_eq_decide_div_mod_eq];done) | (simp [aM,aX,aY,Nat.testBit_eq_decide_div_mod_eq];omega) | kernel_rfl)) ?_
          simp -implicitDefEqProofs only [r1',i4'',b3,b4,q2,q3,a3',ab,am,ma,ha1,ha2,al3,al4,go_sem,seval]
          exact u6 (dY nm al) (by omega) (x:=.cells 1 [.str u,.nils] false) (by rw [ay (by omega)];exact r1')
        · have d2':d < m2:=d2
          have d3':AX.look d h4=_:=(i2' d d2' d1).trans d3
          have md:(m3=d)=False:=eq_false (by omega)
          have db:(d=b)=False:=eq_false d1
          have dl:(d < m3 + 1)=True:=eq_true (by omega)
          have ad:(a=d)=False:=eq_false (by omega)
          simp -implicitDefEqProofs only [r1',i4'',b3,b4,q2,q3,a3',ab,am,ma,ha1,ha2,al3,al4,d3',md,db,dl,hlc,hle2,Nat.le_refl,ad,go_sem,seval]
          refine aA (by (first | omega | (simp [aM,aX,aY,Nat.testBit_eq_decide_div_mod_eq];done) | (simp [aM,aX,aY,Nat.testBit_eq_decide_div_mod_eq];omega) | kernel_rfl)) ?_
          simp -implicitDefEqProofs only [r1',i4'',b3,b4,q2,q3,a3',ab,am,ma,ha1,ha2,al3,al4,d3',md,db,dl,hlc,hle2,Nat.le_refl,ad,go_sem,seval]
          exact um (dY nm al) (by omega) (by omega) d1 (by rw [ay (by omega)];exact r1') (by rw [ay (by omega)];exact d3')
    · rw [if_neg h62]
      have e62:((c.toNat:Int)=62)=False:=ET (n:=62) (by omega) h62
      simp -implicitDefEqProofs only [e62,go_sem,seval]
      refine ak (FX c) ?_
      have i8':dO [] r0=dO al (c :: u):=i8
      rw [bR,if_neg h62] at i8'
      cases hin:aN c with
      | false =>
        rw [if_pos hin] at i8'
        simp -implicitDefEqProofs only [go_sem,seval]
        refine aH ((jH i1 1 (by omega) (by simp;omega)).mono fun x s4 ⟨e5,e6⟩=>?_)
        subst e5
        obtain ⟨r1,r2,r3⟩:=dF i1 e6
        clear e6
        simp -implicitDefEqProofs only [go_sem,seval]
        exact ⟨(u,al),Nat.lt_succ_self _,r1,fun id j1 j2=>(r3 id j2).trans (i2 id j1 j2),by rw [r2];exact i3,⟨A,(r3 m2 (by omega)).trans i4,i5.same (by rw [r2];exact Nat.le_refl _) fun id j1 j2=>r3 id (by omega)⟩,by show u.length ≤ _;omega,i7,rfl⟩
      | true =>
        rw [if_neg (by simp [hin])] at i8'
        rw [if_neg (by simp)]
        obtain ⟨hcl,hone⟩:=hT.cl
        simp -implicitDefEqProofs only [go_sem,seval]
        refine aH ((XG i1 (by show b < m3;omega) (yD V (Nat.le_of_lt i3) hcl) hone (by simp;omega)).mono fun x s4 ⟨e5,e6⟩=>?_)
        subst e5
        obtain ⟨r1,r2,r3⟩:=dF i1 e6
        clear e6
        have hal:=lJ (r:=u) hin
        generalize bK (c :: u)=W at *
        obtain ⟨⟨an,av⟩,w⟩:=W
        simp only at i8' r1 hal
        obtain ⟨h4,m4⟩:=s4
        simp only at r2;have r2:=r2.symm;subst r2
        have r1':AX.look b h4=some (.cells 1 [.str w,V] false):=r1
        have i4'':AX.look m2 h4=_:=(r3 m2 (by omega)).trans i4'
        have i2':∀ id,id < m2 → id ≠ b → AX.look id h4=AX.look id h:=fun id j1 j2=>(r3 id j2).trans (i2 id j1 j2)
        have j5:Yu m2 al A ⟨h4,m3⟩:=i5.same (Nat.le_refl _) fun id j1 j2=>r3 id (by omega)
        clear i1 i1' i4 i4' i2 i5
        have mm:(m3=m2)=False:=eq_false (by omega)
        have mm1:(m3 + 1=m2)=False:=eq_false (by omega)
        have mm2:(m3 + 1 + 1=m2)=False:=eq_false (by omega)
        have G3:St.get ⟨(m3,.cells 1 [.str an,.str av] false) :: h4,m3 + 1⟩ m3=some (.cells 1 [.str an,.str av] false):=by show AX.look m3 (_ :: _)=_;simp only [AX.look,if_true]
        rcases j5 with ⟨rfl,rfl⟩ | ⟨a,e,rfl,a1,a2,a3⟩
        · simp -implicitDefEqProofs only [Attr.KA,i4'',mm,go_sem,seval]
          refine eH Kk ?_
          simp -implicitDefEqProofs only [i4'',mm,mm1,mm2,if_true,go_sem,seval]
          refine ⟨(w,[⟨an,av⟩]),by show w.length < _;simp only [List.length_cons] at hal;exact hal,?_,fun id j1 j2=>?_,by omega,⟨_,rfl,.inr ⟨m3 + 1 + 1,5,rfl,by omega,Nat.lt_succ_self _,?_⟩⟩,by show w.length ≤ _;simp only [List.length_cons] at hal;omega,by show 1 ≤ 16;omega,rfl⟩
          · rw [if_neg (by omega),if_neg (by omega),if_neg (by omega),if_neg (by omega)];exact r1'
          · rw [if_neg (by omega),if_neg (by omega),if_neg (by omega),if_neg (by omega)];exact i2' id j1 j2
          · show AX.look _ (_ :: _)=_
            simp only [AX.look,if_true];rfl
        · have a3':AX.look a h4=_:=a3
          have a2':a < m3:=a2
          have ma:(m3=a)=False:=eq_false (by omega)
          have ma1:(m3 + 1=a)=False:=eq_false (by omega)
          have am:(a=m2)=False:=eq_false (by omega)
          have hal2:=Attr.jm al
          have i7':al.length ≤ 16:=i7
          have ha1:((al.length + 1) * 32 ≤ 140737488355328)=True:=eq_true (by omega)
          have ha0:(al.length * 2 ≤ (aj al).length)=True:=eq_true (by rw [hal2];exact Nat.le_refl _)
          simp -implicitDefEqProofs only [Attr.KA,i4'',mm,a3',ma,ha0,go_sem,seval]
          refine eH (MI (an:=an) (av:=av) (a:=m3) (d:=a) (e:=e) (al:=al) G3 (Nat.lt_succ_self _) (by show AX.look a (_ :: _)=_;simp only [AX.look,ma,if_false];exact a3') (Nat.lt_succ_of_lt a2') (by omega)) ?_
          cases hany:I7 an al with
          | true =>
            simp -implicitDefEqProofs only [i4'',mm,go_sem,seval]
            refine ⟨(w,al),by show w.length < _;simp only [List.length_cons] at hal;exact hal,by rw [if_neg (by omega)];exact r1',fun id j1 j2=>by rw [if_neg (by omega)];exact i2' id j1 j2,by omega,⟨_,rfl,.inr ⟨a,e,rfl,a1,Nat.lt_succ_of_lt a2',?_⟩⟩,by show w.length ≤ _;simp only [List.length_cons] at hal;omega,i7,?_⟩
            · show AX.look a (_ :: _)=_
              rw [AX.look,if_neg (by omega)];exact a3'
            · unfold uE;rw [if_neg (by intro hh;have:=hany.symm.trans hh.1;simp at this)]
          | false =>
            rcases Nat.lt_or_ge al.length 16 with h16 | h16
            · have h16':((al.length:Int) < 16)=True:=eq_true (by omega)
              simp -implicitDefEqProofs only [i4'',mm,mm1,h16',a3',ma,ma1,am,hal2,ha1,Nat.le_refl,go_sem,seval]
              refine ⟨(w,al ++ [⟨an,av⟩]),by show w.length < _;simp only [List.length_cons] at hal;exact hal,?_,fun id j1 j2=>?_,by omega,⟨_,rfl,.inr ⟨a,iC false e (al.length * 2 + 2),by rw [List.length_append];rfl,a1,by show a < m3 + 1 + 1;omega,?_⟩⟩,by show w.length ≤ _;simp only [List.length_cons] at hal;omega,by rw [List.length_append];show al.length + 1 ≤ 16;omega,?_⟩
              · rw [if_neg (by omega),if_neg (by omega),if_neg (by omega),if_neg (by omega)];exact r1'
              · rw [if_neg (by omega),if_neg (by omega),if_neg (by omega),if_neg (by omega)];exact i2' id j1 j2
              · show AX.look a (_ :: _)=_
                simp only [AX.look]
                rw [if_neg (by omega),if_neg (by omega),ay (by omega),aS a3',aU,List.take_of_length_le (by rw [hal2];exact Nat.le_refl _)];rfl
              · unfold uE;rw [if_pos ⟨hany,h16⟩]
            · have h16':((al.length:Int) < 16)=False:=eq_false (by omega)
              simp -implicitDefEqProofs only [i4'',mm,h16',go_sem,seval]
              refine ⟨(w,al),by show w.length < _;simp only [List.length_cons] at hal;exact hal,by rw [if_neg (by omega)];exact r1',fun id j1 j2=>by rw [if_neg (by omega)];exact i2' id j1 j2,by omega,⟨_,rfl,.inr ⟨a,e,rfl,a1,Nat.lt_succ_of_lt a2',?_⟩⟩,by show w.length ≤ _;simp only [List.length_cons] at hal;omega,i7,?_⟩
              · show AX.look a (_ :: _)=_
                rw [AX.look,if_neg (by omega)];exact a3'
              · unfold uE;rw [if_neg (by intro hh;have:=hh.2;omega)]
end W10
/- The scanner: what stands in front; all. -/
namespace W10
open Go Go.AX Go.AX.Ty Go.Proofs
theorem List.nE {α:Type} {l m:List α} {n k:Nat} (h:l.length=n):List.drop (n + k) (l ++ m)=List.drop k m:=by
  subst h;rw [List.drop_append,List.drop_of_length_le (by omega),List.nil_append,Nat.add_sub_cancel_left]
theorem Xv {s:St} {b:Nat} {t:Str} {l:List Tag} (hS:Fh b t l s) (hl:l.length ≤ 900000000) (ht:t.length ≤ 1000000000) (hne:t ≠ []) :
    aF Tryz.prog 44 [.ptr b 1 0] s fun r s'=>r=.tup [] ∧ Fh b (cK t).2 (l ++ (cK t).1) s':=by
  obtain ⟨h,m⟩:=s
  have hS0:=hS
  obtain ⟨hb,V,g,hT⟩:=hS
  refine bE mix (dx _) c44 (by kernel_rfl) (Nat.le_of_ble_eq_true (by kernel_rfl)) ?_
  have g':AX.look b h=some (.cells 1 [.str t,V] false):=g
  have hb':b < m:=hb
  unfold cK
  simp -implicitDefEqProofs only [F44,g',go_sem,seval]
  refine ak (oI t [60,33,45,45]) ?_
  cases k1:hasB t [60,33,45,45] with
  | true =>
    rw [if_pos rfl]
    simp -implicitDefEqProofs only [go_sem,seval]
    refine aH ((jH g 4 (by omega) ht).mono fun x s1 ⟨e1,e2⟩=>?_)
    subst e1
    obtain ⟨p1,p2,p3⟩:=dF g e2
    simp -implicitDefEqProofs only [go_sem,seval]
    refine aH ((Aw p1 (e:=[45,45,62]) (by simp) (by simp;omega)).mono fun x s2 ⟨e3,e4⟩=>?_)
    subst e3
    obtain ⟨q1,q2,q3⟩:=dF p1 e4
    simp -implicitDefEqProofs only [List.append_nil,go_sem,seval]
    exact ⟨by omega,V,q1,hT.same (Nat.le_of_eq (q2.trans p2).symm) fun id j1 j2=>by rw [q3 id j2,p3 id j2]⟩
  | false=>
  rw [if_neg (by simp)]
  simp -implicitDefEqProofs only [g',go_sem,seval]
  refine ak (oI t [60,33]) ?_
  cases k2:hasB t [60,33] with
  | true =>
    rw [if_pos rfl]
    simp -implicitDefEqProofs only [go_sem,seval]
    refine aH ((Aw g (e:=[62]) (by simp) ht).mono fun x s1 ⟨e1,e2⟩=>?_)
    subst e1
    obtain ⟨p1,p2,p3⟩:=dF g e2
    simp -implicitDefEqProofs only [List.append_nil,go_sem,seval]
    exact ⟨by omega,V,p1,hT.same (Nat.le_of_eq p2.symm) fun id j1 j2=>p3 id j2⟩
  | false=>
  rw [if_neg (by simp)]
  simp -implicitDefEqProofs only [g',go_sem,seval]
  refine ak (oI t [60,47]) ?_
  cases k3:hasB t [60,47] with
  | true =>
    obtain ⟨r,hr⟩:=bS.1 k3
    have k4:hasB t [60]=true:=bS.2 ⟨47 :: r,by rw [hr];rfl⟩
    have k5:aC (t.drop 1)=0:=by rw [hr];rfl
    simp -implicitDefEqProofs only [g',go_sem,seval]
    refine ak (qW t 2 ht (by omega)) ?_
    by_cases h3:0 < aC (t.drop 2)
    · have h3':((aC (t.drop 2):Int) > 0)=True:=eq_true (by omega)
      rw [if_pos ⟨rfl,h3⟩]
      simp -implicitDefEqProofs only [h3',go_sem,seval]
      refine aH ((jH g 2 (by omega) ht).mono fun x s1 ⟨e1,e2⟩=>?_)
      subst e1
      obtain ⟨p1,p2,p3⟩:=dF g e2
      clear e2
      obtain ⟨h1,m1⟩:=s1
      simp only at p2;have p2:=p2.symm;subst p2
      have p1':AX.look b h1=_:=p1
      have ht2:(t.drop 2).length ≤ 1000000000:=by simp;omega
      simp -implicitDefEqProofs only [p1',go_sem,seval]
      refine ak (qW (t.drop 2) 0 ht2 (by omega)) ?_
      simp -implicitDefEqProofs only [List.drop_zero,go_sem,seval]
      have hnl:aC (t.drop 2) ≤ 1000000000:=Nat.le_trans (oW _) ht2
      refine aH ((jH p1 (aC (t.drop 2)) hnl ht2).mono fun x s2 ⟨e3,e4⟩=>?_)
      subst e3
      obtain ⟨q1,q2,q3⟩:=dF p1 e4
      clear e4
      simp -implicitDefEqProofs only [go_sem,seval]
      refine aH ((Aw q1 (e:=[62]) (by simp) (by simp;omega)).mono fun x s3 ⟨e5,e6⟩=>?_)
      subst e5
      obtain ⟨r1,r2,r3⟩:=dF q1 e6
      clear e6
      obtain ⟨h3,m3⟩:=s3
      have r2:m3=m:=r2.trans q2
      have r2:=r2.symm;subst r2
      have r1':AX.look b h3=_:=r1
      have hsm:=x8 ((t.drop 2).take (aC (t.drop 2))) (by simp;omega)
      have ro:∀ id,id ≠ b → AX.look id h3=AX.look id h:=fun id j=>(r3 id j).trans ((q3 id j).trans (p3 id j))
      clear r3 q3 p3
      generalize aK ((t.drop 2).take (aC (t.drop 2)))=nm at *
      generalize (t.drop 2).take (aC (t.drop 2))=nm0 at *
      have b3:(b < m)=True:=eq_true (by omega)
      have c2:(m=b)=False:=eq_false (by omega)
      have c3:(m + 1=b)=False:=eq_false (by omega)
      have hlc:=Tag.jm l
      have hle2:((l.length + 1) * 64 ≤ 140737488355328)=True:=eq_true (by omega)
      rcases hT with ⟨rfl,rfl⟩ | ⟨d,ed,rfl,d1,d2,d3⟩
      · simp -implicitDefEqProofs only [r1',b3,c2,c3,go_sem,seval]
        refine iR hsm ?_
        simp -implicitDefEqProofs only [r1',b3,c2,c3,go_sem,seval]
        refine aA (by (first | omega | (simp [aM,aX,aY,Nat.testBit_eq_decide_div_mod_eq];done) | (simp [aM,aX,aY,Nat.testBit_eq_decide_div_mod_eq];omega) | kernel_rfl)) ?_
        simp -implicitDefEqProofs only [go_sem,seval]
        exact u6 (bJ nm) (by omega) (x:=.cells 1 [.str (bT [62] ((t.drop 2).drop (aC (t.drop 2)))),.nils] false) r1'
      · have d2':d < m:=d2
        have d3':AX.look d h3=_:=(ro d d1).trans d3
        have md:(m=d)=False:=eq_false (by omega)
        have db:(d=b)=False:=eq_false d1
        have dl:(d < m + 1)=True:=eq_true (by omega)
        simp -implicitDefEqProofs only [r1',b3,c2,c3,d3',md,db,dl,hlc,hle2,Nat.le_refl,go_sem,seval]
        refine iR hsm ?_
        simp -implicitDefEqProofs only [r1',b3,c2,c3,d3',md,db,dl,hlc,hle2,Nat.le_refl,go_sem,seval]
        refine aA (by (first | omega | (simp [aM,aX,aY,Nat.testBit_eq_decide_div_mod_eq];done) | (simp [aM,aX,aY,Nat.testBit_eq_decide_div_mod_eq];omega) | kernel_rfl)) ?_
        simp -implicitDefEqProofs only [go_sem,seval]
        exact um (bJ nm) (by omega) (by omega) d1 r1' d3'
    · have h3':((aC (t.drop 2):Int) > 0)=False:=eq_false (by omega)
      rw [if_neg (fun hh=>h3 hh.2),if_neg (by rw [k5];simp)]
      simp -implicitDefEqProofs only [h3',g',go_sem,seval]
      refine ak (oI t [60]) ?_
      rw [k4]
      simp -implicitDefEqProofs only [g',go_sem,seval]
      refine ak (qW t 1 ht (by omega)) ?_
      rw [k5]
      simp -implicitDefEqProofs only [go_sem,seval]
      refine aH ((qL hS0 (by omega) ht hne).mono fun x s1 ⟨e1,e2⟩=>?_)
      subst e1
      simp -implicitDefEqProofs only [go_sem,seval]
      exact e2
  | false =>
    rw [if_neg (by simp)]
    simp -implicitDefEqProofs only [g',go_sem,seval]
    refine ak (oI t [60]) ?_
    cases k4:hasB t [60] with
    | false =>
      rw [if_neg (by simp)]
      simp -implicitDefEqProofs only [go_sem,seval]
      refine aH ((qL hS0 (by omega) ht hne).mono fun x s1 ⟨e1,e2⟩=>?_)
      subst e1
      simp -implicitDefEqProofs only [go_sem,seval]
      exact e2
    | true =>
      simp -implicitDefEqProofs only [g',go_sem,seval]
      refine ak (qW t 1 ht (by omega)) ?_
      by_cases h3:0 < aC (t.drop 1)
      · have h3':((aC (t.drop 1):Int) > 0)=True:=eq_true (by omega)
        rw [if_pos ⟨rfl,h3⟩]
        simp -implicitDefEqProofs only [h3',go_sem,seval]
        refine aH ((Xr hS0 (by omega) ht).mono fun x s1 ⟨e1,e2⟩=>?_)
        subst e1
        have hol:=Fv t
        generalize hO:cZ t=O at *
        obtain ⟨tg,u⟩:=O
        have htx:tg.text=[] ∧ tg.kind=1:=by have:=congrArg (·.1) hO;simp only [cZ] at this;rw [← this];exact ⟨rfl,rfl⟩
        simp only at e2 hol ⊢
        have e2':=e2
        obtain ⟨h1,m1⟩:=s1
        obtain ⟨ob,V1,og,⟨hn,_⟩ | ⟨d,e,rfl,d1,d2,d3⟩⟩:=e2
        · simp at hn
        have og':AX.look b h1=_:=og
        have d3':AX.look d h1=_:=d3
        have ob':(b < m1)=True:=eq_true ob
        have d2':(d < m1)=True:=eq_true d2
        have w1:IntKind.i64.wrap (((l.length + 1:Nat):Int) - 1)=((l.length:Nat):Int):=by rw [wrap64 (by omega) (by omega)];omega
        have hlen:(l ++ [tg]).length=l.length + 1:=by simp
        have hdr:List.drop (l.length * 4 + 1) (aj (l ++ [tg]))=[.str tg.name,.ps tg.attrs.length (aj tg.attrs),.str tg.text]:=by
          rw [aU,List.nE (Tag.jm l)];rfl
        have hcl:(l.length * 4 + 1 ≤ (aj (l ++ [tg])).length)=True:=eq_true (by rw [Tag.jm,hlen];omega)
        simp -implicitDefEqProofs only [og',d3',ob',d2',hlen,w1,hdr,hcl,go_sem,seval]
        refine aA (by (first | omega | (simp [aM,aX,aY,Nat.testBit_eq_decide_div_mod_eq];done) | (simp [aM,aX,aY,Nat.testBit_eq_decide_div_mod_eq];omega) | kernel_rfl)) ?_
        by_cases hst:tg.name=bH
        · rw [if_pos hst]
          have hst':(tg.name=[115,116,121,108,101])=True:=eq_true hst
          simp -implicitDefEqProofs only [hst',go_sem,seval]
          refine aH ((Yw og (by omega)).mono fun x s2 ⟨e3,e4⟩=>?_)
          subst e3;subst e4
          have hru:=Jc u
          simp -implicitDefEqProofs only [go_sem,seval]
          refine aH ((jH og (dJ u) (by omega) (by omega)).mono fun x s2 ⟨e3,e4⟩=>?_)
          subst e3
          have hS2:=Fh.text ob og (.inr ⟨d,e,rfl,d1,d2,d3⟩) e4
          simp -implicitDefEqProofs only [go_sem,seval]
          refine aH ((P7 hS2 (u.take (dJ u)) (by rw [hlen];omega)).mono fun x s3 ⟨e5,e6⟩=>?_)
          subst e5
          simp -implicitDefEqProofs only [go_sem,seval]
          simpa using e6
        · rw [if_neg hst]
          have hst':(tg.name=[115,116,121,108,101])=False:=eq_false hst
          simp -implicitDefEqProofs only [hst',go_sem,seval]
          exact e2'
      · have h3':((aC (t.drop 1):Int) > 0)=False:=eq_false (by omega)
        rw [if_neg (fun hh=>h3 hh.2)]
        simp -implicitDefEqProofs only [h3',go_sem,seval]
        refine aH ((qL hS0 (by omega) ht hne).mono fun x s1 ⟨e1,e2⟩=>?_)
        subst e1
        simp -implicitDefEqProofs only [go_sem,seval]
        exact e2
theorem Ki {s:St} {d e:Nat} {l:List Tag} (h:s.get d=some (.cells e (aj l) false)):eT s (.sl d e 0 l.length 4) (.ps l.length (aj l)):=by
  have h1:l.length * 4 ≤ (aj l).length:=by rw [Tag.jm];exact Nat.le_refl _
  have h2:List.take (l.length * 4) (aj l)=aj l:=List.take_of_length_le (by rw [Tag.jm];exact Nat.le_refl _)
  simp [eT,view,h,h1,h2]
theorem Wx (t:Str):(cK t).1.length ≤ 2:=by
  have hp:∀ x,(nX x).length ≤ 1:=fun x=>by unfold nX;split <;> simp
  unfold cK
  repeat' split
  all_goals first | (simp;done) | (have:=hp (bN (t.take (1 + fV (t.drop 1))));simp only;omega) | (have:=hp ((cZ t).2.take (dJ (cZ t).2));simp;omega)
theorem YH (s:Str) (hs:s.length ≤ 400000000):bB Tryz.prog 24 [.str s] (Enc.av (dB s)):=by
  refine bf mix c24 (by kernel_rfl) (by kernel_rfl) (by simp [aI,au,Go.AX.flat]) (by first | exact au _ | simp [flat,aI,au]) ?_
  simp -implicitDefEqProofs only [F24,go_sem,seval]
  refine bA (fun x:Str × List Tag=>x.1.length) (fun x=>[(0,.str s),(3,.ptr 0 1 0)])
    (fun x st=>Fh 0 x.1 x.2 st ∧ x.2.length + 2 * x.1.length ≤ 800000000 ∧ x.1.length ≤ 400000000 ∧ dB s=x.2 ++ dB x.1) (s,[]) ?_ ?_
  · simp -implicitDefEqProofs only [go_sem,seval]
    exact ⟨⟨Nat.lt_succ_self _,.nils,by show AX.look 0 (_ :: _)=_;simp only [AX.look,if_true],.inl ⟨rfl,rfl⟩⟩,by omega,hs⟩
  rintro ⟨t,l⟩ ρ st ⟨i1,i2,i3,i4⟩
  simp only at i1 i2 i3 i4
  have hS:=i1
  obtain ⟨h,m⟩:=st
  obtain ⟨hb,V,g,hT⟩:=i1
  have g':AX.look 0 h=_:=g
  cases t with
  | nil =>
    rcases hT with ⟨rfl,rfl⟩ | ⟨d,e,rfl,d1,d2,d3⟩
    · simp -implicitDefEqProofs only [g',uX,List.append_nil,i4,go_sem,seval]
      rfl
    · have d3':AX.look d h=_:=d3
      simp -implicitDefEqProofs only [g',d3',uX,List.append_nil,i4,go_sem,seval]
      exact Ki d3
  | cons c r =>
    have hgt:(((r.length + 1:Nat):Int) > 0)=True:=eq_true (by omega)
    simp -implicitDefEqProofs only [g',hgt,go_sem,seval]
    refine aH ((Xv hS (by omega) (by omega) (by simp)).mono fun x s1 ⟨e1,e2⟩=>?_)
    subst e1
    have hnx:=nk c r
    have hnn:=Wx (c :: r)
    rw [vX,← List.append_assoc] at i4
    generalize cK (c :: r)=X at *
    obtain ⟨tl,u⟩:=X
    simp only [List.length_cons] at hnx hnn e2 i2 i3 i4
    simp -implicitDefEqProofs only [go_sem,seval]
    exact ⟨(u,l ++ tl),hnx,e2,by simp only [List.length_append];omega,by show u.length ≤ _;omega,i4⟩
end W10
/- tags.One. -/
namespace W10
open Go Go.AX Go.AX.Ty Go.Proofs
theorem Xx {c:Ctx} {s:St} {w:Go.World} (hs:Sat c s w):Wf s:=fun id hid=>by
  cases hg:s.get id with
  | none=>rfl
  | some o =>
    obtain ⟨k,z,hb⟩:=(hs.obj id o hg).bound
    rw [hs.fresh id _ hid] at hb;simp at hb
theorem Zv {P:Program} {f:FuncId} {args:List AV} {s:St} {R:AV → St → Prop} (h:aF P f args s R):aF P f args s fun v s'=>R v s' ∧ Wf s':=
  ⟨h.1,fun c w vs hs hv=>(h.2 c w vs hs hv).mono fun e w' ⟨v,u,c',s',h1,h2,h3,h4,h5⟩=>⟨v,u,c',s',h1,h2,h3,h4,h5,Xx h3⟩⟩
theorem lK {P:Program} {f:FuncId} {args xs:List AV} {D W:List Nat} {s s0 s':St} {K:AV → St → Entry → Prop} {v:AV} (Wr:List Nat) (h:aF P f args s (fun v' t=>v'=v ∧ t=s')) (hw:Wf s) (hn:s.next ≤ s'.next) (hw':Wf s')
    (hW:(∀ id ∈ Wr,id < s.next) ∧ ∀ id,id < s.next → id ∉ Wr → s'.get id=s.get id) (hk:@vC s' ⟨fun s'=>K v s' ⟨List.range s.next,Wr,s.next,s'.next⟩⟩):@sZ P f args xs D W s s0 ⟨K⟩:=
  .inr ⟨v,s',Wr,h,hw,hn,hw',hW,hk⟩
def xL (a:Ty.Attr):Str:=[32] ++ a.name ++ [61,34] ++ aG a.value ++ [34]
def dw (al:List Ty.Attr):Str:=(al.map xL).flatten
def fI (t:Tag):Str:=
  if t.kind=1 then [60] ++ t.name ++ dw t.attrs ++ [62] else if t.kind=2 then [60,47] ++ t.name ++ [62] else if t.kind=3 then aG t.text else []
def Y2 (t:Tag):Prop:=t.name.length ≤ 100000 ∧ t.text.length ≤ 100000 ∧ t.attrs.length ≤ 10000 ∧ ∀ a ∈ t.attrs,a.name.length ≤ 100000 ∧ a.value.length ≤ 100000
theorem pK:∀ al:List Ty.Attr,(∀ a ∈ al,a.name.length ≤ 100000 ∧ a.value.length ≤ 100000) → (dw al).length ≤ al.length * 800000
  | [],_=>by simp [dw]
  | a :: r, h => by
    have ih:=pK r fun x hx=>h x (by simp [hx])
    have h1:=h a (by simp)
    have h2:=ji a.value
    simp only [dw,List.map_cons,List.flatten_cons,List.length_append,xL,List.length_cons,List.length_nil] at ih ⊢
    omega
theorem FB {t:Tag} (h:Y2 t):(fI t).length ≤ 9000000000:=by
  obtain ⟨h1,h2,h3,h4⟩:=h
  have h5:=pK t.attrs h4
  have h6:=ji t.text
  unfold fI
  split
  · simp only [List.length_append,List.length_cons,List.length_nil];omega
  split
  · simp only [List.length_append,List.length_cons,List.length_nil];omega
  split
  · omega
  · simp
theorem Ri {h:List (Nat × AX.Obj)} {n:Nat} {xs:List AV} {D W:List Nat} {s0:St} {K:AV → St → Entry → Prop} (hw:Wf ⟨h,n⟩)
    (hk:@vC ⟨(n + 2,.cells 1 (pY (n + 1)) false) :: (n + 1,.cells 17 EB false) :: (n,.cells 17 EB false) :: h,n + 3⟩ ⟨fun s'=>K (.ptr (n + 2) 1 0) s' ⟨List.range n,[],n,n + 3⟩⟩) :
    @sZ Tryz.prog 66 [] xs D W ⟨h,n⟩ s0 ⟨K⟩:=
  lK [] (Ra h n) hw (by show n ≤ n + 3;omega) (bQ (bQ (bQ hw))) ⟨by simp,fun id hid _=>by
    have hid':id < n:=hid
    show AX.look id (_ :: _)=AX.look id _
    simp only [AX.look]
    rw [if_neg (by omega),if_neg (by omega),if_neg (by omega)]⟩ hk
theorem VZ {h:List (Nat × AX.Obj)} {n:Nat} {x:Str} {xs:List AV} {D W:List Nat} {s0:St} {K:AV → St → Entry → Prop} (hw:Wf ⟨h,n⟩) (hx:x.length ≤ 1000000)
    (hk:∀ h',(∀ id,id < n → AX.look id h'=AX.look id h) → Wf ⟨h',n + 3⟩ → @vC ⟨h',n + 3⟩ ⟨fun s'=>K (.str (aG x)) s' ⟨List.range (n + 3),[n + 1,n + 2],n + 3,n + 3⟩⟩) :
    @sZ Tryz.prog 67 [.ptr (n + 2) 1 0,.str x] xs D W ⟨(n + 2,.cells 1 (pY (n + 1)) false) :: (n + 1,.cells 17 EB false) :: (n,.cells 17 EB false) :: h,n + 3⟩ s0 ⟨K⟩:=by
  have hw3:Wf ⟨(n + 2,.cells 1 (pY (n + 1)) false) :: (n + 1,.cells 17 EB false) :: (n,.cells 17 EB false) :: h,n + 3⟩:=bQ (bQ (bQ hw))
  have g1:St.get ⟨(n + 2,.cells 1 (pY (n + 1)) false) :: (n + 1,.cells 17 EB false) :: (n,.cells 17 EB false) :: h,n + 3⟩ (n + 1)=some (.cells 17 EB false):=by
    show AX.look _ (_ :: _)=_;simp [AX.look]
  have g2:St.get ⟨(n + 2,.cells 1 (pY (n + 1)) false) :: (n + 1,.cells 17 EB false) :: (n,.cells 17 EB false) :: h,n + 3⟩ (n + 1 + 1)=some (.cells 1 (pY (n + 1)) false):=by
    show AX.look _ (_ :: _)=_;simp [AX.look]
  have hR:=Vg (m:=n + 1) x (Nat.le_trans hx (by decide)) (Nat.le_refl (n + 3)) g1 g2
  generalize hs:St.mk ((n + 2,AX.Obj.cells 1 (pY (n + 1)) false) :: (n + 1,.cells 17 EB false) :: (n,.cells 17 EB false) :: h) (n + 3)=s at *
  have hnx:s.next=n + 3:=by rw [← hs]
  have hpg:∀ id,(pR s (n + 1) (.ifc 155 SG)).get id=if id=n + 1 then none else if id=n + 2 then some (.cells 1 (DY (.ifc 155 SG)) false) else s.get id:=fun id=>by
    unfold pR
    rw [St.fD,St.get_put g2]
    by_cases h1:id=n + 1
    · simp [h1]
    · by_cases h2:id=n + 2
      · subst h2;simp
      · rw [if_neg (by simp [h1]),if_neg (by omega),if_neg h1,if_neg h2]
  have hpn:(pR s (n + 1) (.ifc 155 SG)).next=n + 3:=by rw [← hnx];rfl
  generalize pR s (n + 1) (.ifc 155 SG)=s2 at *
  obtain ⟨h2,n2⟩:=s2
  simp only at hpn;subst hpn
  have hw2:Wf ⟨h2,n + 3⟩:=fun id hid=>by
    have hid':n + 3 ≤ id:=hid
    rw [hpg id,if_neg (by omega),if_neg (by omega)]
    exact hw3 id (by omega)
  have hlo:∀ id,id < n → AX.look id h2=AX.look id h:=fun id hid=>by
    have:=hpg id
    rw [if_neg (by omega),if_neg (by omega),← hs] at this
    refine this.trans ?_
    show AX.look id (_ :: _)=_
    simp only [AX.look];rw [if_neg (by omega),if_neg (by omega),if_neg (by omega)]
  have hk2:=hk h2 hlo hw2
  rw [← hnx] at hk2 hw2 hR
  refine lK [n + 1,n + 2] hR hw3 (Nat.le_refl _) hw2 ⟨fun id hid=>by simp at hid;omega,fun id hid hn=>?_⟩ hk2
  simp only [List.mem_cons,List.not_mem_nil,or_false,not_or] at hn
  have:=hpg id
  rw [if_neg hn.1,if_neg hn.2] at this
  exact this
theorem qE {s:St} {b:Nat} {l:Str} {D:List Nat} (h:BO b l D s) (hl:l.length ≤ 9223372036854775807) :
    aF Tryz.prog 52 [.ptr b 0 0] s fun v s'=>v=.str l:=by
  obtain ⟨x,hx,hb,⟨rfl,rfl,hg⟩ | ⟨d,E,rfl,hdb,hdn,hl0,hg,hE,hd⟩⟩:=h
  · exact (Eb hg).mono fun v s' h=>h.1
  · exact (BQ hg hd (by omega) (by omega) hl0 hl).mono fun v s' h=>h.1
theorem iH {b n e k n':Nat} {l:Str} {D:List Nat} {H:List (Nat × AX.Obj)} (ws:List Str) (hk:k=ws.length) (hn:n ≠ b) (hb:BO b l D ⟨(n,.cells e (aj ws) false) :: H,n'⟩) (hD:n ∉ D) (hl:l.length + ws.flatten.length ≤ 140737488355328) (hw:ws.length ≤ 1000000) :
    aF Tryz.prog 50 [.ptr b 0 0,.sl n e 0 k 1] ⟨(n,.cells e (aj ws) false) :: H,n'⟩ fun v s'=>(v=.tup [] ∧ zM b (l ++ ws.flatten) D ⟨(n,.cells e (aj ws) true) :: H,n'⟩ s') ∧ Wf s':=by
  subst hk
  have hc:(aj ws).length=ws.length * 1:=dh ws
  have hv:views (St.get ⟨(n,.cells e (aj ws) false) :: H,n'⟩) [.ptr b 0 0,.sl n e 0 ws.length 1]=some ([.ptr b 0 0,.ps ws.length (aj ws)],[(n,.cells e (aj ws) true)]):=by
    have ht:List.take ws.length (aj ws)=aj ws:=List.take_of_length_le (by rw [hc];omega)
    have hle:ws.length ≤ (aj ws).length:=by omega
    simp [views,view,St.get,AX.look,ht,hle]
  refine aF.views hv ?_
  have e1:St.puts ⟨(n,.cells e (aj ws) false) :: H,n'⟩ [(n,.cells e (aj ws) true)]=⟨(n,.cells e (aj ws) true) :: H,n'⟩:=by
    simp [St.puts,St.put,putAt]
  rw [e1]
  have hb':BO b l D ⟨(n,.cells e (aj ws) true) :: H,n'⟩:=hb.move (Nat.le_refl _) fun id hid=>by
    show AX.look id (_ :: _)=AX.look id (_ :: _)
    have:n ≠ id:=fun e=>hD (by rw [e];exact hid)
    simp only [AX.look,if_neg this]
  exact Zv (U5 ws hb' hl hw)
theorem jh {b n:Nat} {l:Str} {D:List Nat} {s:St} {o:AX.Obj} (h:BO b l D s) (hn:n=s.next):BO b l D ⟨(n,o) :: s.heap,n + 1⟩:=by
  subst hn
  refine h.move (Nat.le_succ _) fun id hid=>?_
  have:=h.lt id hid
  show AX.look id (_ :: _)=_
  simp only [AX.look];rw [if_neg (by omega)];rfl
theorem KQ (t:Tag) (ht:Y2 t):bB Tryz.prog 51 [Enc.av t] (.str (fI t)):=by
  obtain ⟨ht1,ht2,ht3,ht4⟩:=ht
  have hlen:=FB ⟨ht1,ht2,ht3,ht4⟩
  refine bf mix c51 (by kernel_rfl) (by kernel_rfl) (by simp [aI,au,Go.AX.flat]) (by first | exact au _ | simp [flat,aI,au]) ?_
  simp -implicitDefEqProofs only [F51,Tag.KA,go_sem,seval]
  by_cases k1:t.kind=1
  · have k1':=eq_true k1
    simp -implicitDefEqProofs only [k1',go_sem,seval]
    refine aH ((iH (b:=1) (l:=[]) (D:=[1]) [[60],t.name] rfl (by decide) ⟨.nilp,.inl rfl,by show 1 < 3;omega,.inl ⟨rfl,rfl,rfl⟩⟩ (by decide) (by simp;omega) (by show 2 ≤ 1000000;omega)).mono fun v s1 ⟨⟨hv,hR⟩,hw⟩=>?_)
    subst hv
    obtain ⟨D1,b1,b2,b3,b4⟩:=hR
    have g0:s1.get 0=some (.cells 1 [.int .i64 t.kind,.str t.name,.ps t.attrs.length (aj t.attrs),.str t.text] false):=(b3 0 (by show 0 < 3;omega) (by decide)).trans rfl
    have hD1:0 ∉ D1:=fun h0=>by rcases b4 0 h0 with h | h <;> simp at h
    obtain ⟨h1,n1⟩:=s1
    have g0':AX.look 0 h1=_:=g0
    simp -implicitDefEqProofs only [g0',go_sem,seval]
    refine bA (fun k:Nat=>t.attrs.length - k) (fun k=>[(3,.ptr 1 0 0),(15,.ps t.attrs.length (aj t.attrs)),(16,.int .i64 t.attrs.length),(17,.int .i64 k)])
      (fun k st=>k ≤ t.attrs.length ∧ Wf st ∧ ∃ D,BO 1 ([60] ++ t.name ++ dw (t.attrs.take k)) D st) 0 ?_ ?_
    · simp -implicitDefEqProofs only [go_sem,seval]
      refine ⟨hw,D1,by simpa [dw] using b1⟩
    rintro k ρ ⟨h2,n2⟩ ⟨i1,i2,D,i3⟩
    rcases Nat.lt_or_ge k t.attrs.length with hk | hk
    · obtain ⟨x,hx,hd,hm⟩:=aW hk
      have hlt:((k:Int) < (t.attrs.length:Int))=True:=eq_true (by omega)
      have w1:IntKind.i64.wrap ((k:Int) + 1)=((k + 1:Nat):Int):=by rw [wrap64 (by omega) (by omega)];omega
      simp -implicitDefEqProofs only [hlt,hx,Attr.bY,Attr.elem,go_sem,seval]
      have f1:(n2 + 1 + 2=n2)=False:=eq_false (by omega)
      have f2:(n2 + 1 + 1=n2)=False:=eq_false (by omega)
      have f3:(n2 + 1=n2)=False:=eq_false (by omega)
      have f4:(n2 < n2 + 1 + 3)=True:=eq_true (by omega)
      refine Ri (bQ i2) ?_
      simp -implicitDefEqProofs only [f1,f2,f3,f4,go_sem,seval]
      refine VZ (n:=n2 + 1) (bQ i2) (by have:=(ht4 x hm).2;omega) fun h3 hl3 hw3=>?_
      simp -implicitDefEqProofs only [go_sem,seval]
      refine aA (by (simp [aM,aX,aY,Nat.testBit_eq_decide_div_mod_eq];repeat' (first | omega | (intro x hx;omega) | refine And.intro ?_ ?_))) ?_
      simp -implicitDefEqProofs only [go_sem,seval]
      have hlo:∀ id,id < n2 → AX.look id h3=AX.look id h2:=fun id hid=>by
        rw [hl3 id (by omega)]
        simp only [AX.look];rw [if_neg (by omega)]
      have hB:BO 1 ([60] ++ t.name ++ dw (t.attrs.take k)) D ⟨h3,n2 + 1 + 3⟩:=i3.move (by show n2 ≤ n2 + 1 + 3;omega) fun id hid=>hlo id (i3.lt id hid)
      have hlt1:=i3.self
      have hle:([60] ++ t.name ++ dw (t.attrs.take k)).length ≤ 9000000000:=by
        have:=pK (t.attrs.take k) fun a ha=>ht4 a (List.mem_of_mem_take ha)
        simp only [List.length_append,List.length_cons,List.length_nil,List.length_take] at this ⊢;omega
      have hs5:=ji x.value
      have hxm:=ht4 x hm
      refine aH ((iH (n:=n2 + 1 + 3) (n':=n2 + 1 + 3 + 1) (H:=h3) [[32],x.name,[61,34],aG x.value,[34]] rfl (by have:1 < n2:=hlt1;omega) (jh hB rfl) (fun hid=>by have:=i3.lt _ hid;have:n2 + 1 + 3 < n2:=this;omega) (by simp only [List.flatten_cons,List.flatten_nil,List.length_append,List.length_cons,List.length_nil] at hle ⊢;omega) (by show 5 ≤ 1000000;omega)).mono fun v s4 ⟨⟨hv,hR⟩,hw4⟩=>?_)
      subst hv
      obtain ⟨D4,b1,b2,b3,b4⟩:=hR
      simp -implicitDefEqProofs only [w1,go_sem,seval]
      refine ⟨k + 1,by omega,rfl,hk,hw4,D4,?_⟩
      have e1:dw (t.attrs.take (k + 1))=dw (t.attrs.take k) ++ xL x:=by
        unfold dw;rw [List.take_add_one,hx];simp
      rw [e1]
      simpa [xL] using b1
    · have hlt:((k:Int) < (t.attrs.length:Int))=False:=eq_false (by omega)
      rw [List.take_of_length_le hk] at i3
      have hlt1:=i3.self
      have hle:=pK t.attrs ht4
      simp -implicitDefEqProofs only [hlt,go_sem,seval]
      refine aH ((iH (n:=n2) (n':=n2 + 1) (H:=h2) [[62]] rfl (by have:1 < n2:=hlt1;omega) (jh i3 rfl) (fun hid=>by have:=i3.lt _ hid;have:n2 < n2:=this;omega) (by simp only [List.flatten_cons,List.flatten_nil,List.length_append,List.length_cons,List.length_nil] at hle ⊢;omega) (by show 1 ≤ 1000000;omega)).mono fun v s4 ⟨⟨hv,hR⟩,hw4⟩=>?_)
      subst hv
      obtain ⟨D4,b1,b2,b3,b4⟩:=hR
      simp -implicitDefEqProofs only [go_sem,seval]
      have e:fI t=[60] ++ t.name ++ dw t.attrs ++ [62]:=by simp [fI,k1]
      simp only [List.flatten_cons,List.flatten_nil,List.append_nil] at b1
      rw [← e] at b1
      refine aH ((qE b1 (by omega)).mono fun v s5 hv=>?_)
      subst hv
      simp -implicitDefEqProofs only [go_sem,seval]
  have k1':=eq_false k1
  by_cases k2:t.kind=2
  · have k2':=eq_true k2
    simp -implicitDefEqProofs only [k1',k2',go_sem,seval]
    refine aH ((iH (b:=1) (l:=[]) (D:=[1]) [[60,47],t.name,[62]] rfl (by decide) ⟨.nilp,.inl rfl,by show 1 < 3;omega,.inl ⟨rfl,rfl,rfl⟩⟩ (by decide) (by simp;omega) (by show 3 ≤ 1000000;omega)).mono fun v s1 ⟨⟨hv,hR⟩,hw⟩=>?_)
    subst hv
    obtain ⟨D1,b1,b2,b3,b4⟩:=hR
    simp -implicitDefEqProofs only [go_sem,seval]
    refine aH ((qE b1 (by simp;omega)).mono fun v s2 hv=>?_)
    subst hv
    simp -implicitDefEqProofs only [go_sem,seval]
    simp [fI,k2]
  have k2':=eq_false k2
  by_cases k3:t.kind=3
  · have k3':=eq_true k3
    simp -implicitDefEqProofs only [k1',k2',k3',go_sem,seval]
    have hwf:Wf ⟨[(1,.cells 0 [.nilp,.nils] false),(0,.cells 1 [.int .i64 t.kind,.str t.name,.ps t.attrs.length (aj t.attrs),.str t.text] false)],2⟩:=fun id hid=>by
      have hid':2 ≤ id:=hid
      show AX.look id _=none
      simp only [AX.look]
      rw [if_neg (by omega),if_neg (by omega)]
    refine Ri hwf ?_
    simp -implicitDefEqProofs only [go_sem,seval]
    refine VZ (n:=2) hwf (by omega) fun h3 hl3 hw3=>?_
    simp -implicitDefEqProofs only [go_sem,seval]
    refine aA (by (first | omega | (simp [aM,aX,aY,Nat.testBit_eq_decide_div_mod_eq];done) | (simp [aM,aX,aY,Nat.testBit_eq_decide_div_mod_eq];omega) | kernel_rfl)) ?_
    simp -implicitDefEqProofs only [go_sem,seval]
    have hs5:=ji t.text
    have hB:BO 1 [] [1] ⟨h3,5⟩:=⟨.nilp,.inl rfl,by show 1 < 5;omega,.inl ⟨rfl,rfl,(hl3 1 (by omega)).trans rfl⟩⟩
    refine aH ((iH (n:=5) (n':=6) (H:=h3) [aG t.text] rfl (by omega) (jh hB rfl) (by decide) (by simp only [List.flatten_cons,List.flatten_nil,List.length_append,List.length_cons,List.length_nil];omega) (by show 1 ≤ 1000000;omega)).mono fun v s4 ⟨⟨hv,hR⟩,hw4⟩=>?_)
    subst hv
    obtain ⟨D4,b1,b2,b3,b4⟩:=hR
    simp -implicitDefEqProofs only [go_sem,seval]
    have e:fI t=aG t.text:=by simp [fI,k3]
    simp only [List.flatten_cons,List.flatten_nil,List.append_nil,List.nil_append] at b1
    rw [← e] at b1
    refine aH ((qE b1 (by omega)).mono fun v s5 hv=>?_)
    subst hv
    simp -implicitDefEqProofs only [go_sem,seval]
  have k3':=eq_false k3
  simp -implicitDefEqProofs only [k1',k2',k3',go_sem,seval]
  refine aH ((qE (l:=[]) (D:=[1]) ⟨.nilp,.inl rfl,by show 1 < 2;omega,.inl ⟨rfl,rfl,rfl⟩⟩ (by simp)).mono fun v s2 hv=>?_)
  subst hv
  simp -implicitDefEqProofs only [go_sem,seval]
  simp [fI,k1,k2,k3]
end W10
/- tags.Text. -/
namespace W10
open Go Go.AX Go.AX.Ty Go.Proofs
def lU:Str:=[60,33,45,45,45,45,62]
def iQ (last t:Tag):Str:=
  if t.kind ≠ 3 ∨ (last.kind ≠ 3 ∧ (last.kind ≠ 1 ∨ last.name ≠ bH)) then fI t else if last.kind=3 then lU ++ fI t else t.text
def bP:Tag → List Tag → Str
  | _,[]=>[]
  | last,t :: r=>iQ last t ++ bP t r
def gZ:Tag:=⟨0,[],[],[]⟩
def p9 (l:List Tag):Str:=bP gZ l
theorem Rc {last t:Tag} (h:Y2 t):(iQ last t).length ≤ 9000000007:=by
  have h1:=FB h
  unfold iQ
  split
  · omega
  split
  · simp only [List.length_append,lU,List.length_cons,List.length_nil];omega
  · have:=h.2.1;omega
theorem X5 (l:List Tag) (hl:l.length ≤ 10000) (hz:∀ t ∈ l,Y2 t):bB Tryz.prog 29 [Enc.av l] (.str (p9 l)):=by
  refine bf mix c29 (by kernel_rfl) (by kernel_rfl) (by simp [aI,au,Go.AX.flat]) (by first | exact au _ | simp [flat,aI,au]) ?_
  simp -implicitDefEqProofs only [F29,go_sem,seval]
  refine bA (fun x:Nat × Str × Tag=>l.length - x.1) (fun x=>[(3,.ptr 0 0 0),(4,.ptr 1 1 0),(8,Enc.av l),(9,.int .i64 l.length),(10,.int .i64 x.1)])
    (fun x st=>x.1 ≤ l.length ∧ Wf st ∧ x.2.1.length ≤ x.1 * 9000000007 ∧ x.2.1 ++ bP x.2.2 (l.drop x.1)=p9 l ∧ (∃ A,A.one=true ∧ st.get 1=some (.cells 1 [.int .i64 x.2.2.kind,.str x.2.2.name,A,.str x.2.2.text] false)) ∧ ∃ D,BO 0 x.2.1 D st ∧ 1 ∉ D) (0,[],gZ) ?_ ?_
  · simp -implicitDefEqProofs only [go_sem,seval]
    refine ⟨fun id hid=>?_,rfl,⟨.nils,rfl,rfl⟩,[0],⟨.nilp,.inl rfl,by show 0 < 2;omega,.inl ⟨rfl,rfl,rfl⟩⟩,by decide⟩
    have hid':2 ≤ id:=hid
    show AX.look id _=none
    simp only [AX.look]
    rw [if_neg (by omega),if_neg (by omega)]
  rintro ⟨k,acc,last⟩ ρ ⟨h,m⟩ ⟨i1,i2,i3,i4,⟨A,hA,i5⟩,D,i6,i7⟩
  simp only at i1 i3 i4 i5 i6
  have i5':AX.look 1 h=_:=i5
  rcases Nat.lt_or_ge k l.length with hk | hk
  · obtain ⟨t,hx,hd,hm⟩:=aW hk
    have hlt:((k:Int) < (l.length:Int))=True:=eq_true (by omega)
    have w1:IntKind.i64.wrap ((k:Int) + 1)=((k + 1:Nat):Int):=by rw [wrap64 (by omega) (by omega)];omega
    have m0:1 < m:=by
      rcases Nat.lt_or_ge 1 m with h1 | h1
      · exact h1
      · have:=i2 1 h1;rw [i5] at this;simp at this
    have m1:(m=1)=False:=eq_false (by omega)
    have mD:∀ id ∈ D,id < m:=i6.lt
    have ht:=hz t hm
    have hsl:=Rc (last:=last) ht
    rw [hd,bP,← List.append_assoc] at i4
    simp -implicitDefEqProofs only [hlt,hx,Tag.bY,i5',m1,go_sem,seval]
    by_cases k3:t.kind=3
    · have k3':=eq_true k3
      by_cases l3:last.kind=3
      · have l3':=eq_true l3
        simp -implicitDefEqProofs only [k3',i5',m1,l3',go_sem,seval]
        refine ak (KQ t ht) ?_
        simp -implicitDefEqProofs only [k3',i5',m1,go_sem,seval]
        have hsp:iQ last t=([lU,fI t]:List Str).flatten:=by simp [iQ,k3,l3]
        rw [hsp] at i4 hsl
        refine aH ((iH (n:=m + 1) (n':=m + 1 + 1) [lU,fI t] rfl (by omega) (jh (jh i6 rfl) rfl) (fun hid=>by have:=mD _ hid;omega) (by omega) (by show _ ≤ _;simp)).mono fun v s4 ⟨⟨hv,hR⟩,hw4⟩=>?_)
        subst hv
        obtain ⟨D4,b1,b2,b3,b4⟩:=hR
        have gm:=(b3 m (by show m < m + 1 + 1;omega) (fun hid=>by have:=mD _ hid;omega)).trans (show AX.look m (_ :: _)=_ by simp only [AX.look];rw [if_neg (by omega),if_pos trivial])
        have g1:=(b3 1 (by show 1 < m + 1 + 1;omega) i7).trans (show AX.look 1 (_ :: _)=some (.cells 1 [.int .i64 last.kind,.str last.name,A,.str last.text] false) by simp only [AX.look];rw [if_neg (by omega),if_neg (by omega)];exact i5)
        have hD4:1 ∉ D4:=fun h1=>by rcases b4 1 h1 with h | h;exact i7 h;have:m + 1 + 1 ≤ 1:=h;omega
        obtain ⟨h4,m4⟩:=s4
        have gm':AX.look m h4=_:=gm
        have g1':AX.look 1 h4=_:=g1
        simp -implicitDefEqProofs only [gm',g1',m1,w1,go_sem,seval]
        refine ⟨(k + 1,acc ++ ([lU,fI t]:List Str).flatten,t),by show l.length - (k + 1) < _;omega,rfl,by show k + 1 ≤ _;omega,gq hw4,by simp only [List.length_append];omega,i4,⟨_,rfl,rfl⟩,D4,b1.move (Nat.le_refl _) fun id hid=>ay fun e=>hD4 (by rw [e];exact hid),hD4⟩
      have l3':=eq_false l3
      by_cases l1:last.kind=1
      · have l1':=eq_true l1
        by_cases ls:last.name=bH
        · have ls':(last.name=[115,116,121,108,101])=True:=eq_true ls
          simp -implicitDefEqProofs only [k3',i5',m1,l3',l1',ls',go_sem,seval]
          have hsp:iQ last t=([t.text]:List Str).flatten:=by simp [iQ,k3,l1,ls]
          rw [hsp] at i4 hsl
          refine aH ((iH (n:=m + 1) (n':=m + 1 + 1) [t.text] rfl (by omega) (jh (jh i6 rfl) rfl) (fun hid=>by have:=mD _ hid;omega) (by omega) (by show _ ≤ _;simp)).mono fun v s4 ⟨⟨hv,hR⟩,hw4⟩=>?_)
          subst hv
          obtain ⟨D4,b1,b2,b3,b4⟩:=hR
          have gm:=(b3 m (by show m < m + 1 + 1;omega) (fun hid=>by have:=mD _ hid;omega)).trans (show AX.look m (_ :: _)=_ by simp only [AX.look];rw [if_neg (by omega),if_pos trivial])
          have g1:=(b3 1 (by show 1 < m + 1 + 1;omega) i7).trans (show AX.look 1 (_ :: _)=some (.cells 1 [.int .i64 last.kind,.str last.name,A,.str last.text] false) by simp only [AX.look];rw [if_neg (by omega),if_neg (by omega)];exact i5)
          have hD4:1 ∉ D4:=fun h1=>by rcases b4 1 h1 with h | h;exact i7 h;have:m + 1 + 1 ≤ 1:=h;omega
          obtain ⟨h4,m4⟩:=s4
          have gm':AX.look m h4=_:=gm
          have g1':AX.look 1 h4=_:=g1
          simp -implicitDefEqProofs only [gm',g1',m1,w1,go_sem,seval]
          refine ⟨(k + 1,acc ++ ([t.text]:List Str).flatten,t),by show l.length - (k + 1) < _;omega,rfl,by show k + 1 ≤ _;omega,gq hw4,by simp only [List.length_append];omega,i4,⟨_,rfl,rfl⟩,D4,b1.move (Nat.le_refl _) fun id hid=>ay fun e=>hD4 (by rw [e];exact hid),hD4⟩
        · have ls':(last.name=[115,116,121,108,101])=False:=eq_false ls
          simp -implicitDefEqProofs only [k3',i5',m1,l3',l1',ls',go_sem,seval]
          refine ak (KQ t ht) ?_
          simp -implicitDefEqProofs only [k3',i5',m1,go_sem,seval]
          have hsp:iQ last t=([fI t]:List Str).flatten:=by simp [iQ,k3,l3,l1,ls]
          rw [hsp] at i4 hsl
          refine aH ((iH (n:=m + 1) (n':=m + 1 + 1) [fI t] rfl (by omega) (jh (jh i6 rfl) rfl) (fun hid=>by have:=mD _ hid;omega) (by omega) (by show _ ≤ _;simp)).mono fun v s4 ⟨⟨hv,hR⟩,hw4⟩=>?_)
          subst hv
          obtain ⟨D4,b1,b2,b3,b4⟩:=hR
          have gm:=(b3 m (by show m < m + 1 + 1;omega) (fun hid=>by have:=mD _ hid;omega)).trans (show AX.look m (_ :: _)=_ by simp only [AX.look];rw [if_neg (by omega),if_pos trivial])
          have g1:=(b3 1 (by show 1 < m + 1 + 1;omega) i7).trans (show AX.look 1 (_ :: _)=some (.cells 1 [.int .i64 last.kind,.str last.name,A,.str last.text] false) by simp only [AX.look];rw [if_neg (by omega),if_neg (by omega)];exact i5)
          have hD4:1 ∉ D4:=fun h1=>by rcases b4 1 h1 with h | h;exact i7 h;have:m + 1 + 1 ≤ 1:=h;omega
          obtain ⟨h4,m4⟩:=s4
          have gm':AX.look m h4=_:=gm
          have g1':AX.look 1 h4=_:=g1
          simp -implicitDefEqProofs only [gm',g1',m1,w1,go_sem,seval]
          refine ⟨(k + 1,acc ++ ([fI t]:List Str).flatten,t),by show l.length - (k + 1) < _;omega,rfl,by show k + 1 ≤ _;omega,gq hw4,by simp only [List.length_append];omega,i4,⟨_,rfl,rfl⟩,D4,b1.move (Nat.le_refl _) fun id hid=>ay fun e=>hD4 (by rw [e];exact hid),hD4⟩
      have l1':=eq_false l1
      simp -implicitDefEqProofs only [k3',i5',m1,l3',l1',go_sem,seval]
      refine ak (KQ t ht) ?_
      simp -implicitDefEqProofs only [k3',i5',m1,go_sem,seval]
      have hsp:iQ last t=([fI t]:List Str).flatten:=by simp [iQ,k3,l3,l1]
      rw [hsp] at i4 hsl
      refine aH ((iH (n:=m + 1) (n':=m + 1 + 1) [fI t] rfl (by omega) (jh (jh i6 rfl) rfl) (fun hid=>by have:=mD _ hid;omega) (by omega) (by show _ ≤ _;simp)).mono fun v s4 ⟨⟨hv,hR⟩,hw4⟩=>?_)
      subst hv
      obtain ⟨D4,b1,b2,b3,b4⟩:=hR
      have gm:=(b3 m (by show m < m + 1 + 1;omega) (fun hid=>by have:=mD _ hid;omega)).trans (show AX.look m (_ :: _)=_ by simp only [AX.look];rw [if_neg (by omega),if_pos trivial])
      have g1:=(b3 1 (by show 1 < m + 1 + 1;omega) i7).trans (show AX.look 1 (_ :: _)=some (.cells 1 [.int .i64 last.kind,.str last.name,A,.str last.text] false) by simp only [AX.look];rw [if_neg (by omega),if_neg (by omega)];exact i5)
      have hD4:1 ∉ D4:=fun h1=>by rcases b4 1 h1 with h | h;exact i7 h;have:m + 1 + 1 ≤ 1:=h;omega
      obtain ⟨h4,m4⟩:=s4
      have gm':AX.look m h4=_:=gm
      have g1':AX.look 1 h4=_:=g1
      simp -implicitDefEqProofs only [gm',g1',m1,w1,go_sem,seval]
      refine ⟨(k + 1,acc ++ ([fI t]:List Str).flatten,t),by show l.length - (k + 1) < _;omega,rfl,by show k + 1 ≤ _;omega,gq hw4,by simp only [List.length_append];omega,i4,⟨_,rfl,rfl⟩,D4,b1.move (Nat.le_refl _) fun id hid=>ay fun e=>hD4 (by rw [e];exact hid),hD4⟩
    have k3':=eq_false k3
    simp -implicitDefEqProofs only [k3',i5',m1,go_sem,seval]
    refine ak (KQ t ht) ?_
    simp -implicitDefEqProofs only [k3',i5',m1,go_sem,seval]
    have hsp:iQ last t=([fI t]:List Str).flatten:=by simp [iQ,k3]
    rw [hsp] at i4 hsl
    refine aH ((iH (n:=m + 1) (n':=m + 1 + 1) [fI t] rfl (by omega) (jh (jh i6 rfl) rfl) (fun hid=>by have:=mD _ hid;omega) (by omega) (by show _ ≤ _;simp)).mono fun v s4 ⟨⟨hv,hR⟩,hw4⟩=>?_)
    subst hv
    obtain ⟨D4,b1,b2,b3,b4⟩:=hR
    have gm:=(b3 m (by show m < m + 1 + 1;omega) (fun hid=>by have:=mD _ hid;omega)).trans (show AX.look m (_ :: _)=_ by simp only [AX.look];rw [if_neg (by omega),if_pos trivial])
    have g1:=(b3 1 (by show 1 < m + 1 + 1;omega) i7).trans (show AX.look 1 (_ :: _)=some (.cells 1 [.int .i64 last.kind,.str last.name,A,.str last.text] false) by simp only [AX.look];rw [if_neg (by omega),if_neg (by omega)];exact i5)
    have hD4:1 ∉ D4:=fun h1=>by rcases b4 1 h1 with h | h;exact i7 h;have:m + 1 + 1 ≤ 1:=h;omega
    obtain ⟨h4,m4⟩:=s4
    have gm':AX.look m h4=_:=gm
    have g1':AX.look 1 h4=_:=g1
    simp -implicitDefEqProofs only [gm',g1',m1,w1,go_sem,seval]
    refine ⟨(k + 1,acc ++ ([fI t]:List Str).flatten,t),by show l.length - (k + 1) < _;omega,rfl,by show k + 1 ≤ _;omega,gq hw4,by simp only [List.length_append];omega,i4,⟨_,rfl,rfl⟩,D4,b1.move (Nat.le_refl _) fun id hid=>ay fun e=>hD4 (by rw [e];exact hid),hD4⟩
  · have hlt:((k:Int) < (l.length:Int))=False:=eq_false (by omega)
    rw [List.drop_of_length_le hk] at i4
    simp only [bP,List.append_nil] at i4
    simp -implicitDefEqProofs only [hlt,go_sem,seval]
    rw [i4] at i6
    have hk2:k=l.length:=by omega
    have hacc:(p9 l).length ≤ l.length * 9000000007:=by rw [← i4,← hk2];exact i3
    refine aH ((qE i6 (by omega)).mono fun v s5 hv=>?_)
    subst hv
    simp -implicitDefEqProofs only [go_sem,seval]
end W10
/- slices.Equal, slices.EqualFunc, tags.same, slices.Contains, tags.Void. -/
namespace W10
open Go Go.AX Go.AX.Ty Go.Proofs
theorem Rq (a b:List Ty.Attr) (ha:a.length ≤ 100000):bB Tryz.prog 33 [Enc.av a,Enc.av b] (.bool (decide (a=b))):=by
  refine bf mix c33 (by kernel_rfl) (by kernel_rfl) (by simp [aI,au,Go.AX.flat]) (by first | exact au _ | simp [flat,aI,au]) ?_
  by_cases hl:a.length=b.length
  · have hl':((a.length:Int)=(b.length:Int))=True:=eq_true (by omega)
    simp -implicitDefEqProofs only [F33,hl',go_sem,seval]
    refine bA (fun k:Nat=>a.length - k) (fun k=>[(0,Enc.av a),(1,Enc.av b),(11,Enc.av a),(12,.int .i64 a.length),(13,.int .i64 k)])
      (fun k st=>k ≤ a.length ∧ decide (a=b)=decide (a.drop k=b.drop k)) 0 ?_ ?_
    · simp -implicitDefEqProofs only [List.drop_zero,go_sem,seval]
    rintro k ρ ⟨hh,mm⟩ ⟨n1,n2⟩
    rw [n2]
    have w1:IntKind.i64.wrap ((k:Int) + 1)=((k + 1:Nat):Int):=by rw [wrap64 (by omega) (by omega)];omega
    rcases Nat.lt_or_ge k a.length with hn | hn
    · obtain ⟨x,hx,hdx,_⟩:=aW hn
      obtain ⟨y,hy,hdy,_⟩:=aW (hl ▸ hn)
      have h2:((k:Int) < (a.length:Int))=True:=eq_true (by omega)
      simp -implicitDefEqProofs only [h2,hx,hy,Attr.bY,Attr.elem,go_sem,seval]
      refine aA (by (first | omega | (simp [aM,aX,aY,Nat.testBit_eq_decide_div_mod_eq];done) | (simp [aM,aX,aY,Nat.testBit_eq_decide_div_mod_eq];omega) | kernel_rfl)) ?_
      rw [hdx,hdy]
      simp -implicitDefEqProofs only [go_sem,seval]
      refine fJ (fun h hT=>?_) (fun h hT=>?_)
      · simp -implicitDefEqProofs only [w1,go_sem,seval]
        exact ⟨k + 1,by omega,rfl,by omega,by simp only [Bool.and_eq_true,beq_iff_eq] at h;simp [Attr.ext h.1 h.2]⟩
      · simp -implicitDefEqProofs only [go_sem,seval]
        have e:x ≠ y:=fun e=>h (by simp [e])
        simp [e]
    · have h2:((k:Int) < (a.length:Int))=False:=eq_false (by omega)
      simp -implicitDefEqProofs only [h2,go_sem,seval]
      rw [List.drop_of_length_le hn,List.drop_of_length_le (by omega)];simp
  · have hl':((a.length:Int)=(b.length:Int))=False:=eq_false (by omega)
    simp -implicitDefEqProofs only [F33,hl',go_sem,seval]
    simp;intro h;exact hl (by rw [h])
theorem Qc (a:List Str) (x:Str) (hl:a.length ≤ 1000000000):∃ j:Int,bB Tryz.prog 84 [Enc.av a,.str x] (.int .i64 j) ∧ decide (0 ≤ j)=decide (x ∈ a):=by
  refine ⟨match a.findIdx? (fun y=>x=y) with | some j=>(j:Int) | none=>-1,?_,?_⟩
  · refine bf mix c84 (by kernel_rfl) (by kernel_rfl) (by simp [aI,au,Go.AX.flat]) (by first | exact au _ | simp [flat,aI,au]) ?_
    simp -implicitDefEqProofs only [F84,go_sem,seval]
    refine bA (fun k:Nat=>a.length - k) (fun k=>[(0,Enc.av a),(1,.str x),(6,Enc.av a),(7,.int .i64 a.length),(8,.int .i64 k)])
      (fun k st=>k ≤ a.length ∧ (match a.findIdx? (fun y=>x=y) with | some j=>(j:Int) | none=>-1)=(match (a.drop k).findIdx? (fun y=>x=y) with | some j=>((k + j:Nat):Int) | none=>-1)) 0 ?_ ?_
    · simp -implicitDefEqProofs only [List.drop_zero,Nat.zero_add,go_sem,seval]
    rintro k ρ ⟨hh,mm⟩ ⟨n1,n2⟩
    rw [n2]
    have w1:IntKind.i64.wrap ((k:Int) + 1)=((k + 1:Nat):Int):=by rw [wrap64 (by omega) (by omega)];omega
    rcases Nat.lt_or_ge k a.length with hn | hn
    · obtain ⟨y,hx,hdx,_⟩:=aW hn
      have h2:((k:Int) < (a.length:Int))=True:=eq_true (by omega)
      rw [hdx]
      by_cases e:x=y
      · simp -implicitDefEqProofs only [h2,hx,eq_true e,go_sem,seval]
        rw [List.findIdx?_cons]
        simp [e]
      · simp -implicitDefEqProofs only [h2,hx,eq_false e,w1,go_sem,seval]
        refine ⟨k + 1,by omega,rfl,by omega,?_⟩
        rw [List.findIdx?_cons]
        simp only [e,decide_false,Bool.false_eq_true,if_false]
        cases (a.drop (k + 1)).findIdx? (fun y=>x=y) with
        | none=>rfl
        | some j=>simp only [Option.map_some];rw [show k + 1 + j=k + (j + 1) by omega]
    · have h2:((k:Int) < (a.length:Int))=False:=eq_false (by omega)
      simp -implicitDefEqProofs only [h2,go_sem,seval]
      rw [List.drop_of_length_le hn];rfl
  · have h1:(a.findIdx? fun y=>x=y).isSome=decide (x ∈ a):=by
      rw [List.findIdx?_isSome,Bool.eq_iff_iff];simp
    rw [← h1]
    cases a.findIdx? (fun y=>x=y) with
    | none=>simp
    | some j=>simp
def jq (n:Str):Bool:=decide (n ∈ [[98,114],[104,114],[105,109,103],[105,110,112,117,116],[108,105,110,107],[109,101,116,97]])
theorem Bq (a:List Str) (x:Str) (hl:a.length ≤ 1000000000):bB Tryz.prog 64 [Enc.av a,.str x] (.bool (decide (x ∈ a))):=by
  obtain ⟨j,h1,h2⟩:=Qc a x hl
  refine bf mix c64 (by kernel_rfl) (by kernel_rfl) (by simp [aI,au,Go.AX.flat]) (by first | exact au _ | simp [flat,aI,au]) ?_
  simp -implicitDefEqProofs only [F64,go_sem,seval]
  refine ak h1 ?_
  simp -implicitDefEqProofs only [go_sem,seval]
  rw [← h2]
theorem yX (n:Str):bB Tryz.prog 49 [.str n] (.bool (jq n)):=by
  refine bf mix c49 (by kernel_rfl) (by kernel_rfl) (by simp [aI,au,Go.AX.flat]) (by first | exact au _ | simp [flat,aI,au]) ?_
  simp -implicitDefEqProofs only [F49,go_sem,seval]
  refine ak (Bq [[98,114],[104,114],[105,109,103],[105,110,112,117,116],[108,105,110,107],[109,101,116,97]] n (by decide)) ?_
  simp -implicitDefEqProofs only [jq,go_sem,seval]
end W10
