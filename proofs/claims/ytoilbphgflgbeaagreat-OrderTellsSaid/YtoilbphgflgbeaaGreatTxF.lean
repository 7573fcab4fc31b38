/- What is found. -/
import Derived.Test.YtoilbphgflgbeaaGreatTxE
set_option linter.unusedSimpArgs false
set_option linter.unusedVariables false
namespace W15
open Go Go.AX Go.AX.Ty Go.Proofs
def tJ (r:Rule) (w:W3) (d:Ty.Decl):Ty.Found:=⟨d,r.layer,w,0⟩
noncomputable def ng (s:bO) (n:Int) (pseudo:Str) (r:Rule):List Ty.Found:=if 0 < (ji s n pseudo r.bB).length then r.decls.map (tJ r (oJ (ji s n pseudo r.bB))) else []
noncomputable def wE (s:bO) (n:Int) (pseudo:Str) (rs:List Rule):List Ty.Found:=iK 0 (rs.flatMap (ng s n pseudo))
noncomputable def gI (s:bO) (n:Int) (pseudo:Str):List Ty.Found:=wE s n pseudo (fu s.width s.sheets)
def UR (l:List Ty.Found) (no:List Nat) (v:AV) (s:St):Prop:=(l=[] ∧ v=.nils) ∨ ∃ b e,v=.sl b e 0 l.length 8 ∧ b ∉ no ∧ b < s.next ∧ AX.look b s.heap=some (.cells e (aj l) false)
theorem Am (k:Nat) (l:List Ty.Found) (x:Ty.Found):iK k (l ++ [x])=iK k l ++ [⟨x.decl,x.layer,x.weight,((k + l.length:Nat):Int)⟩]:=by
  rw [Ep];rfl
set_option maxHeartbeats 3200000 in
theorem BQ (s:bO) (n:Int) (pseudo:Str) (hp:gV s.p) (hs:s.states.length ≤ 100000) (ok:uU s.sheets) (ha:(dG s.width s.sheets).length ≤ 1000000)
    (hr:∀ r ∈ fu s.width s.sheets,r.decls.length ≤ 1000000 ∧ r.bB.length ≤ 100000 ∧ ∀ c ∈ r.bB,Enc.ok c ∧ mV c.parts ≤ 100000) (hb:(gI s n pseudo).length ≤ 1000000) :
    aK Tryz.prog 24 [Enc.av s,.int .i64 n,.str pseudo] (Enc.av (gI s n pseudo)):=by
  refine eH mix c24 (by kernel_rfl) (by kernel_rfl) (by simp [ay,flat,ak]) (ak _) ?_
  have hrl:(fu s.width s.sheets).length ≤ 1000000:=Nat.le_trans (List.length_filterMap_le _ _) ha
  unfold gI wE at *
  rw [kH] at hb
  simp -implicitDefEqProofs only [F24,go_sem,seval]
  refine au (BI s.width s.sheets ok (by omega)) ?_
  generalize fu s.width s.sheets=rs at *
  have hpre:=fun k=>(iF (ng s n pseudo) rs k).length_le
  simp -implicitDefEqProofs only [go_sem,seval]
  refine aF (fun p:Nat × AV=>rs.length - p.1) (fun p=>[(1,.int .i64 n),(2,.str pseudo),(3,.ptr 0 0 0),(7,p.2),(18,Enc.av rs),(19,.int .i64 rs.length),(20,.int .i64 p.1)])
    (fun p t=>p.1 ≤ rs.length ∧ 0 < t.next ∧ AX.look 0 t.heap=some (.cells 0 (Enc.cells s) false) ∧ UR (iK 0 ((rs.take p.1).flatMap (ng s n pseudo))) [0] p.2 t) (0,.nils) ?_ ?_
  · simp -implicitDefEqProofs only [List.take_zero,List.flatMap_nil,iK,go_sem,seval]
    exact .inl ⟨rfl,rfl⟩
  rintro ⟨k,v⟩ ρ ⟨g,m⟩ ⟨h1,h2,h3,h5⟩
  dsimp only at h1 h2 h3 h5
  simp only [bO.aO] at h3
  have m0:(m=0)=False:=eq_false (by omega)
  rcases Nat.lt_or_ge k rs.length with hk | hk
  · obtain ⟨r,hx,hd,hm⟩:=aG hk
    have hlt:((k:Int) < (rs.length:Int))=True:=eq_true (by omega)
    have w1:IntKind.i64.wrap ((k:Int) + 1)=((k + 1:Nat):Int):=by rw [wrap64 (by omega) (by omega)];omega
    have hsn:=gM (f:=ng s n pseudo) hx
    have hpk:=hpre (k + 1)
    rw [hsn] at hpk
    obtain ⟨r1,r2,r3⟩:=hr r hm
    have hv:=H8 s n pseudo r.bB hp hs r2 r3
    rw [bO.fC] at hv
    have hraw:ng s n pseudo r=if 0 < (ji s n pseudo r.bB).length then r.decls.map (tJ r (oJ (ji s n pseudo r.bB))) else []:=rfl
    generalize ji s n pseudo r.bB=F at *
    generalize (rs.take k).flatMap (ng s n pseudo)=A at *
    have e1:(m + 1=m)=False:=eq_false (by omega)
    have e2:(m=m + 1)=False:=eq_false (by omega)
    have e3:(m + 1=0)=False:=eq_false (by omega)
    simp -implicitDefEqProofs only [hlt,hx,h3,m0,go_sem,seval]
    refine au hv ?_
    by_cases hF:0 < F.length
    · rw [if_pos hF] at hraw
      rw [hraw] at hsn hpk
      have fF:=eq_true hF
      generalize oJ F=w at *
      simp -implicitDefEqProofs only [fF,decide_true,e1,e2,e3,m0,go_sem,seval]
      simp only [List.length_append,List.length_map] at hpk
      refine aF (fun p:Nat × AV=>r.decls.length - p.1) (fun p=>[(1,.int .i64 n),(2,.str pseudo),(3,.ptr 0 0 0),(7,p.2),(9,.ptr m 0 0),(10,.ptr (m + 1) 0 0),(18,Enc.av rs),(19,.int .i64 rs.length),(20,.int .i64 k),(36,Enc.av r.decls),(37,.int .i64 r.decls.length),(38,.int .i64 p.1)])
        (fun p t=>p.1 ≤ r.decls.length ∧ m + 1 < t.next ∧ AX.look 0 t.heap=some (.cells 0 [.ps s.sheets.length (aj s.sheets),.ps s.p.length (aj s.p),.int .i64 s.width,.ps s.states.length (aj s.states)] false) ∧
          AX.look m t.heap=some (.cells 0 [.ps r.bB.length (aj r.bB),.ps r.decls.length (aj r.decls),.int .i64 r.layer] false) ∧ AX.look (m + 1) t.heap=some (.cells 0 [.int .i64 w.a,.int .i64 w.b,.int .i64 w.c] false) ∧
          UR (iK 0 (A ++ (r.decls.take p.1).map (tJ r w))) [0,m,m + 1] p.2 t) (0,v) ?_ ?_
      · simp -implicitDefEqProofs only [List.take_zero,List.map_nil,List.append_nil,e1,e2,e3,m0,go_sem,seval]
        refine ⟨h3,?_⟩
        rcases h5 with ⟨q1,rfl⟩ | ⟨b,e,rfl,c0,c1,c2⟩
        · exact .inl ⟨q1,rfl⟩
        · simp only at c1 c2
          exact .inr ⟨b,e,rfl,by simp only [List.mem_cons,List.not_mem_nil,or_false] at c0 ⊢;omega,by simp only;omega,by simp only [AX.look];rw [if_neg (by omega),if_neg (by omega)];exact c2⟩
      rintro ⟨j,u⟩ ρ ⟨g2,q⟩ ⟨j1,j2,j3,j4,j5,j6⟩
      dsimp only at j1 j2 j3 j4 j5 j6
      rcases Nat.lt_or_ge j r.decls.length with hj | hj
      · obtain ⟨dd,hy,hdj,hmj⟩:=aG hj
        have hltj:((j:Int) < (r.decls.length:Int))=True:=eq_true (by omega)
        have wj:IntKind.i64.wrap ((j:Int) + 1)=((j + 1:Nat):Int):=by rw [wrap64 (by omega) (by omega)];omega
        have hmap:A ++ (r.decls.take (j + 1)).map (tJ r w)=(A ++ (r.decls.take j).map (tJ r w)) ++ [tJ r w dd]:=by
          rw [List.take_add_one,hy];simp
        have hAl:(A ++ (r.decls.take j).map (tJ r w)).length ≤ A.length + r.decls.length:=by simp only [List.length_append,List.length_map,List.length_take];omega
        have hnu:=Am 0 (A ++ (r.decls.take j).map (tJ r w)) (tJ r w dd)
        have hnl:=kH 0 (A ++ (r.decls.take j).map (tJ r w))
        rw [← hmap,Nat.zero_add,← hnl] at hnu
        rw [← hnl] at hAl
        generalize iK 0 (A ++ (r.decls.take j).map (tJ r w))=R at *
        have p0:(q=m)=False:=eq_false (by omega)
        have p1:(q=m + 1)=False:=eq_false (by omega)
        have p2:(q=0)=False:=eq_false (by omega)
        have p3:(m=q)=False:=eq_false (by omega)
        have p4:(m + 1=q)=False:=eq_false (by omega)
        have P0:(q + 1=m)=False:=eq_false (by omega)
        have P1:(q + 1=m + 1)=False:=eq_false (by omega)
        have P2:(q + 1=0)=False:=eq_false (by omega)
        have P3:(q + 1 + 1=m)=False:=eq_false (by omega)
        have P4:(q + 1 + 1=m + 1)=False:=eq_false (by omega)
        have P5:(q + 1 + 1=0)=False:=eq_false (by omega)
        rcases j6 with ⟨rfl,rfl⟩ | ⟨b,e,rfl,c0,c1,c2⟩
        · simp -implicitDefEqProofs only [hltj,hy,j3,j4,j5,p0,p1,p2,p3,p4,P0,P1,P2,P3,P4,P5,wj,go_sem,seval]
          refine ⟨(j + 1,_),by simp only;omega,⟨rfl,rfl⟩,by simp only;omega,by omega,.inr ⟨q + 1 + 1,8,by simp only [hnu,List.nil_append,List.length_singleton],by simp only [List.mem_cons,List.not_mem_nil,or_false];omega,by simp only;omega,?_⟩⟩
          simp only [hnu,List.nil_append,AX.look,if_true,aj,Found.aO,List.append_nil,tJ,List.length_nil]
          try rfl
        · simp only [List.mem_cons,List.not_mem_nil,or_false,not_or] at c0
          simp only at c1 c2
          have hcl:(aj R).length=R.length * 8:=aT R
          have ht:List.take (R.length * 8) (aj R)=aj R:=List.take_of_length_le (by omega)
          have hbd:((R.length + 1) * 88 ≤ 140737488355328)=True:=eq_true (by omega)
          have q0:(q=b)=False:=eq_false (by omega)
          have q1:(b=q)=False:=eq_false (by omega)
          have q2:(q + 1=b)=False:=eq_false (by omega)
          have q3:(b=q + 1)=False:=eq_false (by omega)
          have b0:(b=0)=False:=eq_false c0.1
          have b1:(b=m)=False:=eq_false c0.2.1
          have b2:(b=m + 1)=False:=eq_false c0.2.2
          simp -implicitDefEqProofs only [hltj,hy,j3,j4,j5,p0,p1,p2,p3,p4,P0,P1,P2,P3,P4,P5,wj,c2,hcl,ht,hbd,q0,q1,q2,q3,b0,b1,b2,go_sem,seval]
          refine ⟨(j + 1,_),by simp only;omega,⟨rfl,rfl⟩,by simp only;omega,by omega,.inr ⟨b,(if e ≤ R.length * 8 + 7 then R.length * 8 + 8 else e + 1),by simp only [hnu,List.length_append,List.length_singleton],by simp only [List.mem_cons,List.not_mem_nil,or_false];omega,by simp only;omega,?_⟩⟩
          simp only [hnu,AX.look,aS,q0,q2,if_false,if_true,c2,Option.map_some,aW,aj,Found.aO,List.append_nil,tJ]
      · have hltj:((j:Int) < (r.decls.length:Int))=False:=eq_false (by omega)
        rw [List.take_of_length_le hj] at j6
        simp -implicitDefEqProofs only [hltj,w1,go_sem,seval]
        refine ⟨(k + 1,u),by simp only;omega,⟨rfl,rfl⟩,by simp only;omega,by omega,j3,?_⟩
        simp only [hsn]
        rcases j6 with ⟨q1,rfl⟩ | ⟨b,e,rfl,c0,c1,c2⟩
        · exact .inl ⟨q1,rfl⟩
        · exact .inr ⟨b,e,rfl,by simp only [List.mem_cons,List.not_mem_nil,or_false,not_or] at c0 ⊢;exact c0.1,c1,c2⟩
    · rw [if_neg hF] at hraw
      rw [hraw,List.append_nil] at hsn
      have fF:=eq_false hF
      simp -implicitDefEqProofs only [fF,decide_false,w1,e1,e2,e3,m0,go_sem,seval]
      refine ⟨(k + 1,v),by simp only;omega,⟨rfl,rfl⟩,by simp only;omega,h3,?_⟩
      simp only [hsn]
      rcases h5 with ⟨q1,rfl⟩ | ⟨b,e,rfl,c0,c1,c2⟩
      · exact .inl ⟨q1,rfl⟩
      · simp only at c1 c2
        exact .inr ⟨b,e,rfl,c0,by simp only;omega,by simp only [AX.look];rw [if_neg (by omega),if_neg (by omega)];exact c2⟩
  · have hlt:((k:Int) < (rs.length:Int))=False:=eq_false (by omega)
    rw [List.take_of_length_le hk] at h5
    simp -implicitDefEqProofs only [hlt,go_sem,seval]
    rcases h5 with ⟨q1,rfl⟩ | ⟨b,e,rfl,c0,c1,c2⟩
    · rw [q1];rfl
    · exact eX (α:=Ty.Found) ⟨g,m⟩ 7 rfl (fun a=>by simp [Found.aO,iE,aP]) _ c2
end W15
/- What is found, by the reference. -/
namespace W15
open Go Go.AX Go.AX.Ty Go.Proofs
theorem rU (x:W3):∀ (l:List W3) (t:W3),jW t (l ++ [x])=if Gy (jW t l) x then x else jW t l
  | [],t=>rfl
  | y :: r,t=>by simp only [List.cons_append,jW];exact rU x r _
theorem Lp {l:List W3} (x:W3) (h:l ≠ []):oJ (l ++ [x])=if Gy (oJ l) x then x else oJ l:=by
  cases l with
  | nil=>exact absurd rfl h
  | cons y r=>simp only [List.cons_append,oJ];exact rU x r y
set_option maxHeartbeats 3200000 in
theorem EP (s:bO) (n:Int) (pseudo:Str) (hp:gV s.p) (hs:s.states.length ≤ 100000) (ok:uU s.sheets) (ha:(dG s.width s.sheets).length ≤ 1000000) (hii:∀ x ∈ s.sheets.flatten,∀ y ∈ x.l,y.l.length ≤ 1000)
    (hr:∀ r ∈ fu s.width s.sheets,r.decls.length ≤ 1000000 ∧ r.bB.length ≤ 100000 ∧ ∀ c ∈ r.bB,Enc.ok c ∧ mV c.parts ≤ 100000) (hb:(gI s n pseudo).length ≤ 1000000) :
    aK Tryz.prog 25 [Enc.av s,.int .i64 n,.str pseudo] (Enc.av (gI s n pseudo)):=by
  refine eH mix c25 (by kernel_rfl) (by kernel_rfl) (by simp [ay,flat,ak]) (ak _) ?_
  have hrl:(fu s.width s.sheets).length ≤ 1000000:=Nat.le_trans (List.length_filterMap_le _ _) ha
  unfold gI wE at *
  rw [kH] at hb
  simp -implicitDefEqProofs only [F25,go_sem,seval]
  refine au (Dx s.width s.sheets ok ha hii) ?_
  generalize fu s.width s.sheets=rs at *
  have hpre:=fun k=>(iF (ng s n pseudo) rs k).length_le
  simp -implicitDefEqProofs only [go_sem,seval]
  refine aF (fun p:Nat × AV=>rs.length - p.1) (fun p=>[(1,.int .i64 n),(2,.str pseudo),(3,.ptr 0 0 0),(7,p.2),(8,Enc.av rs),(9,.int .i64 p.1)])
    (fun p t=>p.1 ≤ rs.length ∧ 0 < t.next ∧ AX.look 0 t.heap=some (.cells 0 (Enc.cells s) false) ∧ ∃ b e,p.2=.sl b e 0 (iK 0 ((rs.take p.1).flatMap (ng s n pseudo))).length 8 ∧ 0 < b ∧ b < t.next ∧ AX.look b t.heap=some (.cells e (aj (iK 0 ((rs.take p.1).flatMap (ng s n pseudo)))) false)) (0,.sl 1 0 0 0 8) ?_ ?_
  · simp -implicitDefEqProofs only [List.take_zero,List.flatMap_nil,iK,go_sem,seval]
    exact ⟨1,0,rfl,Nat.zero_lt_one,by omega,rfl⟩
  rintro ⟨k,v⟩ ρ ⟨g,m⟩ ⟨h1,h2,h3,b,e,h4,h5,h6,h7⟩
  dsimp only at h1 h2 h3 h4 h6 h7
  subst h4
  simp only [bO.aO] at h3
  have m0:(m=0)=False:=eq_false (by omega)
  rcases Nat.lt_or_ge k rs.length with hk | hk
  · obtain ⟨r,hx,hd,hm⟩:=aG hk
    have hlt:((k:Int) < (rs.length:Int))=True:=eq_true (by omega)
    have w1:IntKind.i64.wrap ((k:Int) + 1)=((k + 1:Nat):Int):=by rw [wrap64 (by omega) (by omega)];omega
    have hsn:=gM (f:=ng s n pseudo) hx
    have hpk:=hpre (k + 1)
    rw [hsn] at hpk
    obtain ⟨r1,r2,r3⟩:=hr r hm
    have hraw:ng s n pseudo r=if 0 < (ji s n pseudo r.bB).length then r.decls.map (tJ r (oJ (ji s n pseudo r.bB))) else []:=rfl
    have hA:=kH 0 ((rs.take k).flatMap (ng s n pseudo))
    generalize (rs.take k).flatMap (ng s n pseudo)=A at *
    have bm:(b=m)=False:=eq_false (by omega)
    have mb:(m=b)=False:=eq_false (by omega)
    simp -implicitDefEqProofs only [hlt,m0,go_sem,seval]
    refine aF (fun j:Nat=>r.bB.length - j) (fun j=>[(1,.int .i64 n),(2,.str pseudo),(3,.ptr 0 0 0),(7,.sl b e 0 (iK 0 A).length 8),(8,Enc.av rs),(9,.int .i64 k),(10,.ptr m 0 0),(11,.bool (decide (0 < (ji s n pseudo (r.bB.take j)).length))),(12,.int .i64 j)])
      (fun j t=>j ≤ r.bB.length ∧ m < t.next ∧ AX.look 0 t.heap=some (.cells 0 [.ps s.sheets.length (aj s.sheets),.ps s.p.length (aj s.p),.int .i64 s.width,.ps s.states.length (aj s.states)] false) ∧
        AX.look b t.heap=some (.cells e (aj (iK 0 A)) false) ∧ AX.look m t.heap=some (.cells 0 (Enc.cells (oJ (ji s n pseudo (r.bB.take j)))) false)) 0 ?_ ?_
    · simp -implicitDefEqProofs only [List.take_zero,m0,mb,go_sem,seval]
      exact ⟨rfl,h3,h7,rfl⟩
    rintro j ρ ⟨g2,q⟩ ⟨j1,j2,j3,j4,j5⟩
    dsimp only at j2 j3 j4 j5
    have q0:(q=0)=False:=eq_false (by omega)
    have qm:(q=m)=False:=eq_false (by omega)
    have qb:(q=b)=False:=eq_false (by omega)
    rcases Nat.lt_or_ge j r.bB.length with hj | hj
    · obtain ⟨c,hy,hdj,hmj⟩:=aG hj
      have hltj:((j:Int) < (r.bB.length:Int))=True:=eq_true (by omega)
      have wj:IntKind.i64.wrap ((j:Int) + 1)=((j + 1:Nat):Int):=by rw [wrap64 (by omega) (by omega)];omega
      have hfs:=Ap (s:=s) (n:=n) (pseudo:=pseudo) hy
      have hi:=UA s.p s.states hp hs n c (r3 c hmj).1
      have ho:=VB c (r3 c hmj).2
      rw [Complex.fC] at hi ho
      generalize ji s n pseudo (r.bB.take j)=F at *
      simp only [W3.aO] at j5
      by_cases he:c.pseudo=pseudo
      · have ge:=eq_true he
        cases hbb:xF s.p s.states n c.parts
        · have hsel:oF s n pseudo c=false:=by simp [oF,hbb]
          rw [hsel] at hfs
          simp only [Bool.false_eq_true,if_false,List.append_nil] at hfs
          rw [hbb] at hi
          simp -implicitDefEqProofs only [hltj,hlt,hx,hy,ge,j3,q0,qm,qb,go_sem,seval]
          refine au hi ?_
          simp -implicitDefEqProofs only [wj,ge,j3,j4,j5,q0,qm,qb,go_sem,seval]
          exact ⟨j + 1,by omega,⟨by rw [hfs],rfl⟩,by omega,by omega,by rw [hfs]⟩
        · have hsel:oF s n pseudo c=true:=by simp [oF,hbb,he]
          rw [hsel] at hfs
          simp only [if_true] at hfs
          rw [hbb] at hi
          simp -implicitDefEqProofs only [hltj,hlt,hx,hy,ge,j3,q0,qm,qb,go_sem,seval]
          refine au hi ?_
          simp -implicitDefEqProofs only [wj,ge,j3,j4,j5,q0,qm,qb,go_sem,seval]
          refine au ho ?_
          have Q0:(q + 1=0)=False:=eq_false (by omega)
          have Qm:(q + 1=m)=False:=eq_false (by omega)
          have Qb:(q + 1=b)=False:=eq_false (by omega)
          have mb2:(m=b)=False:=eq_false (by omega)
          have m02:(m=0)=False:=eq_false (by omega)
          have hl1:0 < (F ++ [O9 c]).length:=by simp
          by_cases hF:F=[]
          · subst hF
            simp -implicitDefEqProofs only [List.length_nil,Nat.lt_irrefl,decide_false,wj,ge,j3,j4,j5,q0,qm,qb,Q0,Qm,Qb,mb2,m02,go_sem,seval]
            exact ⟨j + 1,by omega,⟨by rw [hfs];rfl,rfl⟩,by omega,by omega,by rw [hfs];rfl⟩
          · have fF:(0 < F.length)=True:=eq_true (List.length_pos_iff.2 hF)
            have hms:=Lp (O9 c) hF
            have hlw:=VH (oJ F) (O9 c)
            rw [W3.fC,W3.fC] at hlw
            simp -implicitDefEqProofs only [fF,decide_true,wj,ge,j3,j4,j5,q0,qm,qb,Q0,Qm,Qb,mb2,m02,go_sem,seval]
            refine au hlw ?_
            cases hlt2:Gy (oJ F) (O9 c)
            · rw [hlt2] at hms
              simp -implicitDefEqProofs only [fF,decide_true,wj,ge,j3,j4,j5,q0,qm,qb,Q0,Qm,Qb,mb2,m02,go_sem,seval]
              exact ⟨j + 1,by omega,⟨by rw [hfs,decide_eq_true hl1],rfl⟩,by omega,by omega,by rw [hfs,hms];rfl⟩
            · rw [hlt2] at hms
              simp -implicitDefEqProofs only [fF,decide_true,wj,ge,j3,j4,j5,q0,qm,qb,Q0,Qm,Qb,mb2,m02,go_sem,seval]
              exact ⟨j + 1,by omega,⟨by rw [hfs,decide_eq_true hl1],rfl⟩,by omega,by omega,by rw [hfs,hms];rfl⟩
      · have ge:=eq_false he
        have hsel:oF s n pseudo c=false:=by simp [oF,he]
        rw [hsel] at hfs
        simp only [Bool.false_eq_true,if_false,List.append_nil] at hfs
        simp -implicitDefEqProofs only [hltj,hlt,hx,hy,ge,wj,j3,j4,j5,q0,qm,qb,go_sem,seval]
        exact ⟨j + 1,by omega,⟨by rw [hfs],rfl⟩,by omega,by omega,by rw [hfs]⟩
    · have hltj:((j:Int) < (r.bB.length:Int))=False:=eq_false (by omega)
      rw [List.take_of_length_le hj] at j5
      have j5':=j5
      simp only [W3.aO] at j5'
      simp only [List.take_of_length_le hj]
      generalize ji s n pseudo r.bB=F at *
      by_cases hF:0 < F.length
      · have fF:=eq_true hF
        rw [if_pos hF] at hraw
        rw [hraw] at hsn hpk
        simp only [List.length_append,List.length_map] at hpk
        generalize oJ F=w at *
        simp -implicitDefEqProofs only [hltj,hlt,hx,fF,decide_true,go_sem,seval]
        refine aF (fun p:Nat × AV=>r.decls.length - p.1) (fun p=>[(1,.int .i64 n),(2,.str pseudo),(3,.ptr 0 0 0),(7,p.2),(8,Enc.av rs),(9,.int .i64 k),(10,.ptr m 0 0),(11,.bool true),(15,.int .i64 p.1)])
          (fun p t=>p.1 ≤ r.decls.length ∧ m < t.next ∧ AX.look 0 t.heap=some (.cells 0 [.ps s.sheets.length (aj s.sheets),.ps s.p.length (aj s.p),.int .i64 s.width,.ps s.states.length (aj s.states)] false) ∧
            AX.look m t.heap=some (.cells 0 [.int .i64 w.a,.int .i64 w.b,.int .i64 w.c] false) ∧ ∃ b e,p.2=.sl b e 0 (iK 0 (A ++ (r.decls.take p.1).map (tJ r w))).length 8 ∧ b ≠ 0 ∧ b ≠ m ∧ b < t.next ∧ AX.look b t.heap=some (.cells e (aj (iK 0 (A ++ (r.decls.take p.1).map (tJ r w)))) false)) (0,.sl b e 0 (iK 0 A).length 8) ?_ ?_
        · simp -implicitDefEqProofs only [List.take_zero,List.map_nil,List.append_nil,go_sem,seval]
          exact ⟨j2,j3,j5',b,e,rfl,by omega,by omega,by omega,j4⟩
        rintro ⟨i,u⟩ ρ ⟨g3,z⟩ ⟨i1,i2,i3,i4,b2,e2,i0,i5,i6,i7,i8⟩
        dsimp only at i0 i1 i2 i3 i4 i7 i8
        subst i0
        rcases Nat.lt_or_ge i r.decls.length with hi | hi
        · obtain ⟨dd,hdd,hdi,hmi⟩:=aG hi
          have hlti:((i:Int) < (r.decls.length:Int))=True:=eq_true (by omega)
          have wi:IntKind.i64.wrap ((i:Int) + 1)=((i + 1:Nat):Int):=by rw [wrap64 (by omega) (by omega)];omega
          have hmap:A ++ (r.decls.take (i + 1)).map (tJ r w)=(A ++ (r.decls.take i).map (tJ r w)) ++ [tJ r w dd]:=by
            rw [List.take_add_one,hdd];simp
          have hAl:(A ++ (r.decls.take i).map (tJ r w)).length ≤ A.length + r.decls.length:=by simp only [List.length_append,List.length_map,List.length_take];omega
          have hnu:=Am 0 (A ++ (r.decls.take i).map (tJ r w)) (tJ r w dd)
          have hnl:=kH 0 (A ++ (r.decls.take i).map (tJ r w))
          rw [← hmap,Nat.zero_add,← hnl] at hnu
          rw [← hnl] at hAl
          generalize iK 0 (A ++ (r.decls.take i).map (tJ r w))=R at *
          have hcl:(aj R).length=R.length * 8:=aT R
          have ht:List.take (R.length * 8) (aj R)=aj R:=List.take_of_length_le (by omega)
          have hbd:((R.length + 1) * 88 ≤ 140737488355328)=True:=eq_true (by omega)
          have z0:(z=b2)=False:=eq_false (by omega)
          have z1:(b2=z)=False:=eq_false (by omega)
          have z2:(z=m)=False:=eq_false (by omega)
          have z3:(z=0)=False:=eq_false (by omega)
          have z4:(b2=m)=False:=eq_false i6
          have z5:(b2=0)=False:=eq_false i5
          have z6:(m=b2)=False:=eq_false (Ne.symm i6)
          simp -implicitDefEqProofs only [hlti,hlt,hx,hdd,i3,i4,i8,hcl,ht,hbd,z0,z1,z2,z3,z4,z5,z6,wi,go_sem,seval]
          repeat (refine aA (by (first | omega | (simp [aB,aD,aC,Nat.testBit_eq_decide_div_mod_eq];done) | (simp [aB,aD,aC,Nat.testBit_eq_decide_div_mod_eq];omega) | kernel_rfl)) ?_;simp -implicitDefEqProofs only [hlti,hlt,hx,hdd,i3,i4,i8,hcl,ht,hbd,z0,z1,z2,z3,z4,z5,z6,wi,go_sem,seval])
          refine ⟨(i + 1,_),by simp only;omega,⟨rfl,rfl⟩,by simp only;omega,by omega,b2,(if e2 ≤ R.length * 8 + 7 then R.length * 8 + 8 else e2 + 1),by simp only [hnu,List.length_append,List.length_singleton],i5,i6,by omega,?_⟩
          simp only [hnu,z0,if_false,if_true,aW,aj,Found.aO,List.append_nil,tJ]
        · have hlti:((i:Int) < (r.decls.length:Int))=False:=eq_false (by omega)
          rw [List.take_of_length_le hi] at i8
          simp only [List.take_of_length_le hi]
          simp -implicitDefEqProofs only [hlti,hlt,hx,w1,go_sem,seval]
          exact ⟨(k + 1,_),by simp only;omega,⟨rfl,rfl⟩,by simp only;omega,by omega,i3,b2,e2,by simp only [hsn],by omega,i7,by simp only [hsn];exact i8⟩
      · have fF:=eq_false hF
        rw [if_neg hF] at hraw
        rw [hraw,List.append_nil] at hsn
        simp -implicitDefEqProofs only [hltj,hlt,hx,fF,decide_false,go_sem,seval]
        refine aF (fun _:Unit=>0) (fun _=>[(1,.int .i64 n),(2,.str pseudo),(3,.ptr 0 0 0),(7,.sl b e 0 (iK 0 A).length 8),(8,Enc.av rs),(9,.int .i64 k),(11,.bool false),(15,.int .i64 0)])
          (fun _ t=>b < t.next ∧ AX.look 0 t.heap=some (.cells 0 [.ps s.sheets.length (aj s.sheets),.ps s.p.length (aj s.p),.int .i64 s.width,.ps s.states.length (aj s.states)] false) ∧
            AX.look b t.heap=some (.cells e (aj (iK 0 A)) false)) () ?_ ?_
        · simp -implicitDefEqProofs only [go_sem,seval]
          exact ⟨by omega,j3,j4⟩
        rintro _ ρ ⟨g3,z⟩ ⟨i2,i3,i4⟩
        dsimp only at i2 i3 i4
        by_cases hz:0 < r.decls.length
        · have hlti:((0:Int) < (r.decls.length:Int))=True:=eq_true (by omega)
          simp -implicitDefEqProofs only [hlti,hlt,hx,w1,go_sem,seval]
          exact ⟨(k + 1,_),by simp only;omega,⟨rfl,rfl⟩,by simp only;omega,by omega,i3,b,e,by simp only [hsn],by omega,i2,by simp only [hsn];exact i4⟩
        · have hlti:((0:Int) < (r.decls.length:Int))=False:=eq_false (by omega)
          simp -implicitDefEqProofs only [hlti,hlt,hx,w1,go_sem,seval]
          exact ⟨(k + 1,_),by simp only;omega,⟨rfl,rfl⟩,by simp only;omega,by omega,i3,b,e,by simp only [hsn],by omega,i2,by simp only [hsn];exact i4⟩
  · have hlt:((k:Int) < (rs.length:Int))=False:=eq_false (by omega)
    rw [List.take_of_length_le hk] at h7
    simp -implicitDefEqProofs only [hlt,List.take_of_length_le hk,go_sem,seval]
    exact eX (α:=Ty.Found) ⟨g,m⟩ 7 rfl (fun a=>by simp [Found.aO,iE,aP]) _ h7
end W15
/- Guards: values, declarations. -/
namespace W15
open Go Go.AX Go.AX.Ty Go.Proofs
def oM (f:List Ty.Val → Int → Int):List Ty.Val → Int → Int
  | [],n=>n
  | x :: r,n=>if n < 0 then n else if x.tok.text.length > 100 then -1 else oM f r (if n - 1 ≥ 0 ∧ 0 < x.l.length then f x.l (n - 1) else n - 1)
def q9:Nat → List Ty.Val → Int → Int
  | 0=>fun _ _=>-1
  | d + 1=>oM (q9 d)
theorem yc {f:List Ty.Val → Int → Int} (hf:∀ l n,-1 ≤ n → -1 ≤ f l n ∧ f l n ≤ n ∨ f l n = -1) (hf2:∀ l n,0 ≤ n → 0 ≤ f l n → (iZ l:Int) + f l n ≤ n) :
    ∀ (l:List Ty.Val) (n:Int),-1 ≤ n → (-1 ≤ oM f l n ∧ (oM f l n ≤ n)) ∧ (0 ≤ oM f l n → (iZ l:Int) + oM f l n ≤ n)
  | [],n,h=>by simp only [oM,iZ];omega
  | x :: r, n, h => by
    simp only [oM,iZ]
    by_cases h0:n < 0
    · rw [if_pos h0];omega
    rw [if_neg h0]
    by_cases h1:x.tok.text.length > 100
    · rw [if_pos h1];omega
    rw [if_neg h1]
    have hs:=Gq x
    by_cases h2:n - 1 ≥ 0 ∧ 0 < x.l.length
    · rw [if_pos h2]
      have a:=hf x.l (n - 1) (by omega)
      have b:=hf2 x.l (n - 1) h2.1
      have hm:-1 ≤ f x.l (n - 1):=by omega
      obtain ⟨c1,c2⟩:=yc hf hf2 r (f x.l (n - 1)) hm
      refine ⟨by omega,fun h=>?_⟩
      have:=c2 h
      have:=b (by omega)
      omega
    · rw [if_neg h2]
      obtain ⟨c1,c2⟩:=yc hf hf2 r (n - 1) (by omega)
      refine ⟨by omega,fun h=>?_⟩
      have:=c2 h
      have hx:iZ x.l=0:=by
        have:x.l=[]:=List.eq_nil_of_length_eq_zero (by omega)
        rw [this];rfl
      omega
theorem vC:∀ (d:Nat) (l:List Ty.Val) (n:Int),-1 ≤ n → (-1 ≤ q9 d l n ∧ (q9 d l n ≤ n)) ∧ (0 ≤ q9 d l n → (iZ l:Int) + q9 d l n ≤ n)
  | 0,l,n,h=>by simp only [q9];omega
  | d + 1, l, n, h => by
    simp only [q9]
    exact yc (fun l n h=>.inl (vC d l n h).1) (fun l n h=>(vC d l n (by omega)).2) l n h
theorem OT:∀ (d:Nat) (l:List Ty.Val) (n:Int),d ≤ 1000 → Enc.ok l → -1 ≤ n → n ≤ 1000000 → aK Tryz.prog 109 [Enc.av l,.int .i64 n,.int .i64 (d:Nat)] (.int .i64 (q9 d l n))
  | 0, l, n, hd, hok, h1, h2 => by
    refine aH mix c109 (by kernel_rfl) (by kernel_rfl) (by simp [ay,ak,Go.AX.flat]) (by first | exact ak _ | simp [flat,ay,ak]) ?_
    have f0:(((0:Nat):Int) < 1)=True:=eq_true (by omega)
    simp -implicitDefEqProofs only [F109,f0,q9,go_sem,seval]
  | d + 1, l, n, hd, hok, h1, h2 => by
    refine aH mix c109 (by kernel_rfl) (by kernel_rfl) (by simp [ay,ak,Go.AX.flat]) (by first | exact ak _ | simp [flat,ay,ak]) ?_
    have ih:=OT d
    have f0:(((d + 1:Nat):Int) < 1)=False:=eq_false (by omega)
    have hlen:l.length ≤ 140737488355328:=hok.1
    have hall:=hok.2
    have wd:IntKind.i64.wrap (((d + 1:Nat):Int) - 1)=(d:Int):=by rw [wrap64 (by omega) (by omega)];omega
    simp -implicitDefEqProofs only [F109,f0,q9,go_sem,seval]
    refine aF (fun p:Nat × Int=>l.length - p.1) (fun p=>[(0,Enc.av l),(1,.int .i64 p.2),(2,.int .i64 (d + 1:Nat)),(7,.int .i64 p.1)])
      (fun p s=>p.1 ≤ l.length ∧ -1 ≤ p.2 ∧ p.2 ≤ 1000000 ∧ oM (q9 d) (l.drop p.1) p.2=oM (q9 d) l n) (0,n) ?_ ?_
    · simp -implicitDefEqProofs only [List.drop_zero,go_sem,seval]
      exact ⟨h1,h2⟩
    rintro ⟨k,a⟩ ρ ⟨g,m⟩ ⟨k1,k2,k3,k4⟩
    dsimp only at k1 k2 k3 k4
    rcases Nat.lt_or_ge k l.length with hk | hk
    · obtain ⟨x,hx,hdr,hm⟩:=aG hk
      have hlt:((k:Int) < (l.length:Int))=True:=eq_true (by omega)
      have w1:IntKind.i64.wrap ((k:Int) + 1)=((k + 1:Nat):Int):=by rw [wrap64 (by omega) (by omega)];omega
      rw [hdr] at k4
      simp only [oM] at k4
      by_cases ha:a < 0
      · rw [if_pos ha] at k4
        have fa:(a ≥ 0)=False:=eq_false (by omega)
        simp -implicitDefEqProofs only [hlt,fa,go_sem,seval]
        rw [← k4]
      rw [if_neg ha] at k4
      have fa:(a ≥ 0)=True:=eq_true (by omega)
      have wa:IntKind.i64.wrap (a - 1)=a - 1:=wrap64 (by omega) (by omega)
      by_cases ht:x.tok.text.length > 100
      · rw [if_pos ht] at k4
        have ft:((x.tok.text.length:Int) > 100)=True:=eq_true (by omega)
        simp -implicitDefEqProofs only [hlt,fa,wa,hx,ft,go_sem,seval]
        rw [← k4]
      rw [if_neg ht] at k4
      have ft:((x.tok.text.length:Int) > 100)=False:=eq_false (by omega)
      have hxl:Enc.ok x.l:=((Ty.Val.bH x).1 (hall x hm)).2.2
      by_cases hb:a - 1 ≥ 0 ∧ 0 < x.l.length
      · rw [if_pos hb] at k4
        have fb:=eq_true hb.1
        have fc:((x.l.length:Int) > 0)=True:=eq_true (by omega)
        have hc:=ih x.l (a - 1) (by omega) hxl (by omega) (by omega)
        have hfo:=(vC d x.l (a - 1) (by omega)).1
        simp -implicitDefEqProofs only [hlt,fa,wa,hx,ft,fb,fc,wd,go_sem,seval]
        refine au hc ?_
        simp -implicitDefEqProofs only [w1,go_sem,seval]
        exact ⟨(k + 1,q9 d x.l (a - 1)),by simp only;omega,⟨rfl,rfl⟩,by simp only;omega,by simp only;omega,by simp only;omega,k4⟩
      · rw [if_neg hb] at k4
        by_cases hb1:a - 1 ≥ 0
        · have fb:=eq_true hb1
          have fc:((x.l.length:Int) > 0)=False:=eq_false (by omega)
          simp -implicitDefEqProofs only [hlt,fa,wa,hx,ft,fb,fc,w1,go_sem,seval]
          exact ⟨(k + 1,a - 1),by simp only;omega,⟨rfl,rfl⟩,by simp only;omega,by omega,by omega,k4⟩
        · have fb:=eq_false hb1
          simp -implicitDefEqProofs only [hlt,fa,wa,hx,ft,fb,w1,go_sem,seval]
          exact ⟨(k + 1,a - 1),by simp only;omega,⟨rfl,rfl⟩,by simp only;omega,by omega,by omega,k4⟩
    · have hlt:((k:Int) < (l.length:Int))=False:=eq_false (by omega)
      rw [List.drop_of_length_le hk] at k4
      simp -implicitDefEqProofs only [hlt,go_sem,seval]
      rw [← k4];rfl
def mP (n:Int) (l:List Ty.Val):Bool:=decide (q9 100 l n ≥ 0)
theorem Ed (l:List Ty.Val) (n:Int) (hok:Enc.ok l) (h1:-1 ≤ n) (h2:n ≤ 1000000):aK Tryz.prog 83 [Enc.av l,.int .i64 n] (.bool (mP n l)):=by
  refine aH mix c83 (by kernel_rfl) (by kernel_rfl) (by simp [ay,ak,Go.AX.flat]) (by first | exact ak _ | simp [flat,ay,ak]) ?_
  have hc:=OT 100 l n (by omega) hok h1 h2
  rw [show (((100:Nat):Int))=100 from rfl] at hc
  simp -implicitDefEqProofs only [F83,go_sem,seval]
  refine au hc ?_
  simp -implicitDefEqProofs only [go_sem,seval]
  try rfl
theorem zM {n:Int} {l:List Ty.Val} (h1:-1 ≤ n) (h:mP n l=true):(iZ l:Int) ≤ n:=by
  unfold mP at h
  rw [decide_eq_true_eq] at h
  have:=(vC 100 l n h1).2 h
  omega
def goodD (m:Int) (d:Ty.Decl):Bool:=mP m d.l && decide (d.name.length ≤ 100)
def iW (m:Int) (l:List Ty.Decl):Bool:=decide (l.length ≤ 20) && l.all (goodD m)
theorem MK (m:Int) (h1:-1 ≤ m) (h2:m ≤ 1000000) (l:List Ty.Decl) (hok:Enc.ok l):aK Tryz.prog 55 [Enc.av l,.int .i64 m] (.bool (iW m l)):=by
  refine aH mix c55 (by kernel_rfl) (by kernel_rfl) (by simp [ay,ak,Go.AX.flat]) (by first | exact ak _ | simp [flat,ay,ak]) ?_
  have hlen:l.length ≤ 140737488355328:=hok.1
  simp -implicitDefEqProofs only [F55,go_sem,seval]
  refine aF (fun k:Nat=>l.length - k) (fun k=>[(0,Enc.av l),(1,.int .i64 m),(5,.int .i64 k)]) (fun k s=>k ≤ l.length ∧ ∀ y ∈ l.take k,goodD m y=true) 0 ?_ ?_
  · simp -implicitDefEqProofs only [go_sem,seval]
    simp
  rintro k ρ ⟨g,q⟩ ⟨k1,k2⟩
  by_cases hl:l.length ≤ 20
  · have fl:((l.length:Int) ≤ 20)=True:=eq_true (by omega)
    rcases Nat.lt_or_ge k l.length with hk | hk
    · obtain ⟨x,hx,hdr,hm⟩:=aG hk
      have hlt:((k:Int) < (l.length:Int))=True:=eq_true (by omega)
      have w1:IntKind.i64.wrap ((k:Int) + 1)=((k + 1:Nat):Int):=by rw [wrap64 (by omega) (by omega)];omega
      have hc:=Ed x.l m ((Ty.Decl.bH x).1 (hok.2 x hm)).2.1 h1 h2
      have no:goodD m x=false → iW m l=false:=fun h=>by
        unfold iW
        have:l.all (goodD m)=false:=List.all_eq_false.2 ⟨x,hm,by rw [h];decide⟩
        rw [this,Bool.and_false]
      simp -implicitDefEqProofs only [hlt,fl,hx,go_sem,seval]
      refine au hc ?_
      cases hb:mP m x.l
      · simp -implicitDefEqProofs only [go_sem,seval]
        rw [no (by simp [goodD,hb])]
      · by_cases hn:x.name.length ≤ 100
        · have fn:((x.name.length:Int) > 100)=False:=eq_false (by omega)
          simp -implicitDefEqProofs only [hx,fn,w1,go_sem,seval]
          refine ⟨k + 1,by omega,rfl,by omega,fun y hy=>?_⟩
          rw [List.take_add_one,hx] at hy
          simp only [Option.toList_some,List.mem_append,List.mem_singleton] at hy
          rcases hy with hy | rfl
          · exact k2 y hy
          · simp [goodD,hb,hn]
        · have fn:((x.name.length:Int) > 100)=True:=eq_true (by omega)
          simp -implicitDefEqProofs only [hx,fn,go_sem,seval]
          rw [no (by simp [goodD,hn])]
    · have hlt:((k:Int) < (l.length:Int))=False:=eq_false (by omega)
      rw [List.take_of_length_le hk] at k2
      have e:iW m l=true:=by unfold iW;rw [Bool.and_eq_true];exact ⟨decide_eq_true hl,List.all_eq_true.2 k2⟩
      simp -implicitDefEqProofs only [hlt,fl,go_sem,seval]
      rw [e]
      try rfl
  · have fl:((l.length:Int) ≤ 20)=False:=eq_false (by omega)
    have e:iW m l=false:=by unfold iW;rw [decide_eq_false hl];rfl
    rcases Nat.lt_or_ge k l.length with hk | hk
    · have hlt:((k:Int) < (l.length:Int))=True:=eq_true (by omega)
      simp -implicitDefEqProofs only [hlt,fl,go_sem,seval]
      rw [e]
      try rfl
    · have hlt:((k:Int) < (l.length:Int))=False:=eq_false (by omega)
      simp -implicitDefEqProofs only [hlt,fl,go_sem,seval]
      rw [e]
      try rfl
theorem Ki {m:Int} {l:List Ty.Decl} (h1:-1 ≤ m) (h:iW m l=true):l.length ≤ 20 ∧ ∀ d ∈ l,(iZ d.l:Int) ≤ m ∧ d.name.length ≤ 100:=by
  unfold iW at h
  rw [Bool.and_eq_true,decide_eq_true_eq,List.all_eq_true] at h
  refine ⟨h.1,fun d hd=>?_⟩
  have:=h.2 d hd
  unfold goodD at this
  rw [Bool.and_eq_true,decide_eq_true_eq] at this
  exact ⟨zM h1 this.1,this.2⟩
end W15
/- Guards: items. -/
namespace W15
open Go Go.AX Go.AX.Ty Go.Proofs
mutual
def Sm:Ty.Item → Nat
  | .mk _ _ _ _ _ _ _ l=>1 + iX l
def iX:List Ty.Item → Nat
  | []=>0
  | x :: r=>Sm x + iX r
end
theorem sV (x:Ty.Item):Sm x=1 + iX x.l:=by cases x;simp only [Sm,Ty.Item.l]
theorem oo:∀ l:List Ty.Item,l.length ≤ iX l
  | []=>by simp [iX]
  | x :: r=>by have:=oo r;have:=sV x;simp only [List.length_cons,iX];omega
def Gu (l:List Str):Bool:=l.all fun s=>decide (s.length ≤ 100)
def kL (x:Ty.Item):Bool:=decide (x.names.length ≤ 20) && (jN 60 x.bB x.bB.length && (iW 40 x.decls && (mP 100 x.vals && Gu x.names)))
mutual
def UQ:Ty.Item → Prop
  | .mk a b c d e f g l=>kL (.mk a b c d e f g l)=true ∧ uR l
def uR:List Ty.Item → Prop
  | []=>True
  | x :: r=>UQ x ∧ uR r
end
theorem vF (x:Ty.Item):UQ x ↔ kL x=true ∧ uR x.l:=by cases x;simp only [UQ,Ty.Item.l]
theorem xM:∀ {l:List Ty.Item},uR l ↔ ∀ x ∈ l,UQ x
  | []=>by simp [uR]
  | y :: r=>by simp only [uR,xM,List.mem_cons,forall_eq_or_imp]
def nM (f:List Ty.Item → Int → Int):List Ty.Item → Int → Int
  | [],n=>n
  | x :: r,n=>if n < 0 then n else if kL x=false then -1 else nM f r (if n - 1 ≥ 0 ∧ 0 < x.l.length then f x.l (n - 1) else n - 1)
def kI:Nat → List Ty.Item → Int → Int
  | 0=>fun _ _=>-1
  | d + 1=>nM (kI d)
theorem wH {f:List Ty.Item → Int → Int} (hf:∀ l n,-1 ≤ n → -1 ≤ f l n ∧ f l n ≤ n) (hf2:∀ l n,0 ≤ n → 0 ≤ f l n → (iX l:Int) + f l n ≤ n ∧ uR l) :
    ∀ (l:List Ty.Item) (n:Int),-1 ≤ n → (-1 ≤ nM f l n ∧ (nM f l n ≤ n)) ∧ (0 ≤ nM f l n → (iX l:Int) + nM f l n ≤ n ∧ uR l)
  | [],n,h=>by simp only [nM,iX,uR];exact ⟨by omega,fun _=>⟨by omega,trivial⟩⟩
  | x :: r, n, h => by
    simp only [nM,iX,uR]
    by_cases h0:n < 0
    · rw [if_pos h0];exact ⟨by omega,fun h=>absurd h (by omega)⟩
    rw [if_neg h0]
    by_cases h1:kL x=false
    · rw [if_pos h1];exact ⟨by omega,fun h=>absurd h (by omega)⟩
    rw [if_neg h1]
    have hg:kL x=true:=by cases hh:kL x <;> simp_all
    have hs:=sV x
    by_cases h2:n - 1 ≥ 0 ∧ 0 < x.l.length
    · rw [if_pos h2]
      have a:=hf x.l (n - 1) (by omega)
      have b:=hf2 x.l (n - 1) h2.1
      obtain ⟨c1,c2⟩:=wH hf hf2 r (f x.l (n - 1)) (by omega)
      refine ⟨by omega,fun h=>?_⟩
      have c3:=c2 h
      have b2:=b (by omega)
      exact ⟨by omega,(vF x).2 ⟨hg,b2.2⟩,c3.2⟩
    · rw [if_neg h2]
      obtain ⟨c1,c2⟩:=wH hf hf2 r (n - 1) (by omega)
      refine ⟨by omega,fun h=>?_⟩
      have c3:=c2 h
      have hx:x.l=[]:=List.eq_nil_of_length_eq_zero (by omega)
      have hz:iX x.l=0:=by rw [hx];rfl
      exact ⟨by omega,(vF x).2 ⟨hg,by rw [hx];trivial⟩,c3.2⟩
theorem qH:∀ (d:Nat) (l:List Ty.Item) (n:Int),-1 ≤ n → (-1 ≤ kI d l n ∧ (kI d l n ≤ n)) ∧ (0 ≤ kI d l n → (iX l:Int) + kI d l n ≤ n ∧ uR l)
  | 0,l,n,h=>by simp only [kI];exact ⟨by omega,fun h=>absurd h (by omega)⟩
  | d + 1, l, n, h => by
    simp only [kI]
    exact wH (fun l n h=>(qH d l n h).1) (fun l n h=>(qH d l n (by omega)).2) l n h
set_option maxHeartbeats 3200000 in
theorem Mq:∀ (d:Nat) (l:List Ty.Item) (n:Int),d ≤ 1000 → Enc.ok l → -1 ≤ n → n ≤ 1000000 → aK Tryz.prog 86 [Enc.av l,.int .i64 n,.int .i64 (d:Nat)] (.int .i64 (kI d l n))
  | 0, l, n, hd, hok, h1, h2 => by
    refine aH mix c86 (by kernel_rfl) (by kernel_rfl) (by simp [ay,ak,Go.AX.flat]) (by first | exact ak _ | simp [flat,ay,ak]) ?_
    have f0:(((0:Nat):Int) < 1)=True:=eq_true (by omega)
    simp -implicitDefEqProofs only [F86,f0,kI,go_sem,seval]
  | d + 1, l, n, hd, hok, h1, h2 => by
    refine aH mix c86 (by kernel_rfl) (by kernel_rfl) (by simp [ay,ak,Go.AX.flat]) (by first | exact ak _ | simp [flat,ay,ak]) ?_
    have ih:=Mq d
    have f0:(((d + 1:Nat):Int) < 1)=False:=eq_false (by omega)
    have hlen:l.length ≤ 140737488355328:=hok.1
    have hall:=hok.2
    have wd:IntKind.i64.wrap (((d + 1:Nat):Int) - 1)=(d:Int):=by rw [wrap64 (by omega) (by omega)];omega
    simp -implicitDefEqProofs only [F86,f0,kI,go_sem,seval]
    refine aF (fun p:Nat × Int=>l.length - p.1) (fun p=>[(0,Enc.av l),(1,.int .i64 p.2),(2,.int .i64 (d + 1:Nat)),(7,.int .i64 p.1)])
      (fun p s=>p.1 ≤ l.length ∧ -1 ≤ p.2 ∧ p.2 ≤ 1000000 ∧ nM (kI d) (l.drop p.1) p.2=nM (kI d) l n) (0,n) ?_ ?_
    · simp -implicitDefEqProofs only [List.drop_zero,go_sem,seval]
      exact ⟨h1,h2⟩
    rintro ⟨k,a⟩ ρ ⟨g,m⟩ ⟨k1,k2,k3,k4⟩
    dsimp only at k1 k2 k3 k4
    rcases Nat.lt_or_ge k l.length with hk | hk
    · obtain ⟨x,hx,hdr,hm⟩:=aG hk
      have hlt:((k:Int) < (l.length:Int))=True:=eq_true (by omega)
      have w1:IntKind.i64.wrap ((k:Int) + 1)=((k + 1:Nat):Int):=by rw [wrap64 (by omega) (by omega)];omega
      rw [hdr] at k4
      simp only [nM] at k4
      by_cases ha:a < 0
      · rw [if_pos ha] at k4
        have fa:(a ≥ 0)=False:=eq_false (by omega)
        simp -implicitDefEqProofs only [hlt,fa,go_sem,seval]
        rw [← k4]
      rw [if_neg ha] at k4
      have fa:(a ≥ 0)=True:=eq_true (by omega)
      have wa:IntKind.i64.wrap (a - 1)=a - 1:=wrap64 (by omega) (by omega)
      have bad:kL x=false → nM (kI d) l n = -1:=fun h=>by rw [if_pos h] at k4;exact k4.symm
      have hix:=(Ty.Item.bH x).1 (hall x hm)
      by_cases hn:x.names.length ≤ 20
      · have fn:((x.names.length:Int) > 20)=False:=eq_false (by omega)
        have c4:=ND 60 (by omega) x.bB hix.2.1
        have c7:=MK 40 (by omega) (by omega) x.decls hix.2.2.1
        have c2:=Ed x.vals 100 hix.2.2.2.2.2.2.1 (by omega) (by omega)
        simp -implicitDefEqProofs only [hlt,fa,wa,hx,fn,go_sem,seval]
        refine au c4 ?_
        cases b4:jN 60 x.bB x.bB.length
        · simp -implicitDefEqProofs only [go_sem,seval]
          rw [bad (by simp [kL,b4])]
        simp -implicitDefEqProofs only [go_sem,seval]
        refine au c7 ?_
        cases b7:iW 40 x.decls
        · simp -implicitDefEqProofs only [go_sem,seval]
          rw [bad (by simp [kL,b7])]
        simp -implicitDefEqProofs only [go_sem,seval]
        refine au c2 ?_
        cases b2:mP 100 x.vals
        · simp -implicitDefEqProofs only [go_sem,seval]
          rw [bad (by simp [kL,b2])]
        simp -implicitDefEqProofs only [go_sem,seval]
        refine aF (fun j:Nat=>x.names.length - j) (fun j=>[(0,Enc.av l),(1,.int .i64 (a - 1)),(2,.int .i64 (d + 1:Nat)),(7,.int .i64 k),(8,.ptr m 0 0),(9,.int .i64 j)])
          (fun j s=>j ≤ x.names.length ∧ m < s.next ∧ AX.look m s.heap=some (.cells 0 [.int .i64 x.kind,.ps x.bB.length (aj x.bB),.ps x.decls.length (aj x.decls),.ps x.names.length (aj x.names),.int .i64 x.min,.int .i64 x.max,.ps x.vals.length (aj x.vals),.ps x.l.length (aj x.l)] false) ∧ ∀ y ∈ x.names.take j,y.length ≤ 100) 0 ?_ ?_
        · simp -implicitDefEqProofs only [go_sem,seval]
          simp
        rintro j ρ ⟨g2,q⟩ ⟨j1,j2,j3,j4⟩
        dsimp only at j2 j3
        rcases Nat.lt_or_ge j x.names.length with hj | hj
        · obtain ⟨nm,hnm,hdj,hmj⟩:=aG hj
          have hltj:((j:Int) < (x.names.length:Int))=True:=eq_true (by omega)
          have wj:IntKind.i64.wrap ((j:Int) + 1)=((j + 1:Nat):Int):=by rw [wrap64 (by omega) (by omega)];omega
          by_cases hnl:nm.length ≤ 100
          · have fl:((nm.length:Int) > 100)=False:=eq_false (by omega)
            simp -implicitDefEqProofs only [hltj,j3,hnm,fl,wj,go_sem,seval]
            refine ⟨j + 1,by omega,rfl,by omega,j2,fun y hy=>?_⟩
            rw [List.take_add_one,hnm] at hy
            simp only [Option.toList_some,List.mem_append,List.mem_singleton] at hy
            rcases hy with hy | rfl
            · exact j4 y hy
            · exact hnl
          · have fl:((nm.length:Int) > 100)=True:=eq_true (by omega)
            simp -implicitDefEqProofs only [hltj,j3,hnm,fl,go_sem,seval]
            have hsh:Gu x.names=false:=List.all_eq_false.2 ⟨nm,hmj,by simp [hnl]⟩
            rw [bad (by simp [kL,hsh])]
        · have hltj:((j:Int) < (x.names.length:Int))=False:=eq_false (by omega)
          rw [List.take_of_length_le hj] at j4
          have hsh:Gu x.names=true:=List.all_eq_true.2 fun y hy=>decide_eq_true (j4 y hy)
          have hg:kL x=true:=by simp [kL,hn,b4,b7,b2,hsh]
          rw [hg] at k4
          simp only [Bool.true_eq_false,if_false] at k4
          by_cases hb:a - 1 ≥ 0 ∧ 0 < x.l.length
          · rw [if_pos hb] at k4
            have fb:=eq_true hb.1
            have fc:((x.l.length:Int) > 0)=True:=eq_true (by omega)
            have hc:=ih x.l (a - 1) (by omega) hix.2.2.2.2.2.2.2 (by omega) (by omega)
            have hfo:=(qH d x.l (a - 1) (by omega)).1
            simp -implicitDefEqProofs only [hltj,j3,fb,fc,wd,go_sem,seval]
            refine au hc ?_
            simp -implicitDefEqProofs only [w1,go_sem,seval]
            exact ⟨(k + 1,kI d x.l (a - 1)),by simp only;omega,⟨rfl,rfl⟩,by simp only;omega,by simp only;omega,by simp only;omega,k4⟩
          · rw [if_neg hb] at k4
            by_cases hb1:a - 1 ≥ 0
            · have fb:=eq_true hb1
              have fc:((x.l.length:Int) > 0)=False:=eq_false (by omega)
              simp -implicitDefEqProofs only [hltj,j3,fb,fc,w1,go_sem,seval]
              exact ⟨(k + 1,a - 1),by simp only;omega,⟨rfl,rfl⟩,by simp only;omega,by omega,by omega,k4⟩
            · have fb:=eq_false hb1
              simp -implicitDefEqProofs only [hltj,j3,fb,w1,go_sem,seval]
              exact ⟨(k + 1,a - 1),by simp only;omega,⟨rfl,rfl⟩,by simp only;omega,by omega,by omega,k4⟩
      · have fn:((x.names.length:Int) > 20)=True:=eq_true (by omega)
        simp -implicitDefEqProofs only [hlt,fa,wa,hx,fn,go_sem,seval]
        rw [bad (by simp [kL,hn])]
    · have hlt:((k:Int) < (l.length:Int))=False:=eq_false (by omega)
      rw [List.drop_of_length_le hk] at k4
      simp -implicitDefEqProofs only [hlt,go_sem,seval]
      rw [← k4];rfl
def ni (n:Int) (l:List Ty.Item):Bool:=decide (kI 8 l n ≥ 0)
theorem OE (l:List Ty.Item) (n:Int) (hok:Enc.ok l) (h1:-1 ≤ n) (h2:n ≤ 1000000):aK Tryz.prog 59 [Enc.av l,.int .i64 n] (.bool (ni n l)):=by
  refine aH mix c59 (by kernel_rfl) (by kernel_rfl) (by simp [ay,ak,Go.AX.flat]) (by first | exact ak _ | simp [flat,ay,ak]) ?_
  have hc:=Mq 8 l n (by omega) hok h1 h2
  rw [show (((8:Nat):Int))=8 from rfl] at hc
  simp -implicitDefEqProofs only [F59,go_sem,seval]
  refine au hc ?_
  simp -implicitDefEqProofs only [go_sem,seval]
  try rfl
theorem zZ {n:Int} {l:List Ty.Item} (h1:-1 ≤ n) (h:ni n l=true):(iX l:Int) ≤ n ∧ uR l:=by
  unfold ni at h
  rw [decide_eq_true_eq] at h
  have:=(qH 8 l n h1).2 h
  exact ⟨by omega,this.2⟩
def gy (sh:List (List Ty.Item)):Bool:=decide (sh.length ≤ 4) && sh.all (ni 15)
theorem QW (sh:List (List Ty.Item)) (hok:Enc.ok sh):aK Tryz.prog 32 [Enc.av sh] (.bool (gy sh)):=by
  refine aH mix c32 (by kernel_rfl) (by kernel_rfl) (by simp [ay,ak,Go.AX.flat]) (by first | exact ak _ | simp [flat,ay,ak]) ?_
  have hlen:sh.length ≤ 140737488355328:=hok.1
  simp -implicitDefEqProofs only [F32,go_sem,seval]
  refine aF (fun k:Nat=>sh.length - k) (fun k=>[(0,Enc.av sh),(3,.int .i64 k)]) (fun k s=>k ≤ sh.length ∧ ∀ y ∈ sh.take k,ni 15 y=true) 0 ?_ ?_
  · simp -implicitDefEqProofs only [go_sem,seval]
    simp
  rintro k ρ ⟨g,q⟩ ⟨k1,k2⟩
  by_cases hl:sh.length ≤ 4
  · have fl:((sh.length:Int) ≤ 4)=True:=eq_true (by omega)
    rcases Nat.lt_or_ge k sh.length with hk | hk
    · obtain ⟨x,hx,hdr,hm⟩:=aG hk
      have hlt:((k:Int) < (sh.length:Int))=True:=eq_true (by omega)
      have w1:IntKind.i64.wrap ((k:Int) + 1)=((k + 1:Nat):Int):=by rw [wrap64 (by omega) (by omega)];omega
      have hc:=OE x 15 (hok.2 x hm) (by omega) (by omega)
      simp -implicitDefEqProofs only [hlt,fl,hx,go_sem,seval]
      refine au hc ?_
      cases hb:ni 15 x
      · simp -implicitDefEqProofs only [go_sem,seval]
        have:sh.all (ni 15)=false:=List.all_eq_false.2 ⟨x,hm,by rw [hb];decide⟩
        unfold gy
        rw [this,Bool.and_false]
      · simp -implicitDefEqProofs only [w1,go_sem,seval]
        refine ⟨k + 1,by omega,rfl,by omega,fun y hy=>?_⟩
        rw [List.take_add_one,hx] at hy
        simp only [Option.toList_some,List.mem_append,List.mem_singleton] at hy
        rcases hy with hy | rfl
        · exact k2 y hy
        · exact hb
    · have hlt:((k:Int) < (sh.length:Int))=False:=eq_false (by omega)
      rw [List.take_of_length_le hk] at k2
      have e:gy sh=true:=by unfold gy;rw [Bool.and_eq_true];exact ⟨decide_eq_true hl,List.all_eq_true.2 k2⟩
      simp -implicitDefEqProofs only [hlt,fl,go_sem,seval]
      rw [e]
      try rfl
  · have fl:((sh.length:Int) ≤ 4)=False:=eq_false (by omega)
    have e:gy sh=false:=by unfold gy;rw [decide_eq_false hl];rfl
    rcases Nat.lt_or_ge k sh.length with hk | hk
    · have hlt:((k:Int) < (sh.length:Int))=True:=eq_true (by omega)
      simp -implicitDefEqProofs only [hlt,fl,go_sem,seval]
      rw [e]
      try rfl
    · have hlt:((k:Int) < (sh.length:Int))=False:=eq_false (by omega)
      simp -implicitDefEqProofs only [hlt,fl,go_sem,seval]
      rw [e]
      try rfl
end W15
/- Guards: what they tell. -/
namespace W15
open Go Go.AX Go.AX.Ty Go.Proofs
theorem xq:∀ {l:List Ty.Item} {x:Ty.Item},x ∈ l → Sm x ≤ iX l
  | [],_,h=>by simp at h
  | y :: r, x, h => by
    simp only [iX]
    rcases List.mem_cons.1 h with rfl | h
    · omega
    · have:=xq h;omega
theorem Ir:∀ l:List Part,mV l=l.length + xJ l
  | []=>rfl
  | p :: r=>by simp only [mV,xJ,List.length_cons,Ir r];omega
theorem D7:∀ {l:List Part} {p:Part},p ∈ l → gB p.l ≤ xJ l
  | [],_,h=>by simp at h
  | y :: r, x, h => by
    simp only [xJ]
    rcases List.mem_cons.1 h with rfl | h
    · omega
    · have:=D7 h;omega
def Te (x:Ty.Item):Prop:=UQ x ∧ Enc.ok x ∧ Sm x ≤ 15
theorem Te.sub {x:Ty.Item} (h:Te x):∀ y ∈ x.l,Te y:=fun y hy=>by
  obtain ⟨h1,h2,h3⟩:=h
  rw [sV] at h3
  have:=xq hy
  exact ⟨xM.1 ((vF x).1 h1).2 y hy,((Ty.Item.bH x).1 h2).2.2.2.2.2.2.2.2 y hy,by omega⟩
theorem Te.good {x:Ty.Item} (h:Te x):x.names.length ≤ 20 ∧ (∀ c ∈ x.bB,c.parts.length + xJ c.parts ≤ 60 ∧ Enc.ok c) ∧ x.bB.length ≤ 60 ∧ (x.decls.length ≤ 20 ∧ ∀ d ∈ x.decls,(iZ d.l:Int) ≤ 40 ∧ d.name.length ≤ 100) ∧ (iZ x.vals:Int) ≤ 100 ∧ x.l.length ≤ 15:=by
  obtain ⟨h1,h2,h3⟩:=h
  have hg:=((vF x).1 h1).1
  unfold kL at hg
  simp only [Bool.and_eq_true,decide_eq_true_eq] at hg
  obtain ⟨g1,g2,g3,g4,g5⟩:=hg
  have hx:=(Ty.Item.bH x).1 h2
  have hs:=zO 60 x.bB x.bB.length g2
  rw [sV] at h3
  have:=oo x.l
  refine ⟨g1,fun c hc=>⟨?_,hx.2.1.2 c hc⟩,by omega,Ki (by omega) g3,zM (by omega) g4,by omega⟩
  have:=(hs.2 c hc).1;omega
theorem yw {sh:List (List Ty.Item)} (hok:Enc.ok sh) (h:gy sh=true):sh.length ≤ 4 ∧ (∀ x ∈ sh.flatten,Te x) ∧ ∀ s ∈ sh,iX s ≤ 15:=by
  unfold gy at h
  rw [Bool.and_eq_true,decide_eq_true_eq,List.all_eq_true] at h
  refine ⟨h.1,fun x hx=>?_,fun s hs=>?_⟩
  · obtain ⟨s,hs,hx⟩:=List.mem_flatten.1 hx
    obtain ⟨h1,h2⟩:=zZ (by omega) (h.2 s hs)
    have:=xq hx
    exact ⟨xM.1 h2 x hx,(hok.2 s hs).2 x hx,by omega⟩
  · have:=(zZ (by omega) (h.2 s hs)).1;omega
theorem xQ {α:Type} (f:List α → Nat) (g:List α → Nat) (hg:∀ a b,g (a ++ b)=g a + g b) (h0:g []=0) (n:Nat):∀ l:List (List α),(∀ s ∈ l,g s ≤ n) → g l.flatten ≤ l.length * n
  | [],_=>by simp [h0]
  | s :: r, h => by
    rw [List.flatten_cons,hg,List.length_cons,Nat.add_mul]
    have:=xQ f g hg h0 n r fun x hx=>h x (by simp [hx])
    have:=h s (by simp)
    omega
theorem vP:∀ a b:List Ty.Item,iX (a ++ b)=iX a + iX b
  | [],b=>by simp [iX]
  | x :: r,b=>by simp only [List.cons_append,iX,vP r b];omega
theorem DU (w k:Int) (x:Ty.Item):(bJ w k x).length ≤ Sm x:=by
  have hs:=sV x
  have hl:=oo x.l
  unfold bJ jQ
  split
  · split
    · have:=List.length_filter_le fI x.l
      simp only [List.length_map];omega
    · simp
  · split <;> simp <;> omega
theorem zN (w k:Int):∀ l:List Ty.Item,(l.flatMap (bJ w k)).length ≤ iX l
  | []=>by simp
  | x :: r => by
    rw [List.flatMap_cons,List.length_append,iX]
    have:=DU w k x
    have:=zN w k r
    omega
theorem TN (w:Int) (n:List Str) (x:Ty.Item):(fG w n x).length ≤ Sm x:=by
  have hs:=sV x
  unfold fG
  split
  · split
    · have:=zN w (lW n (nameOf x):Nat) x.l;omega
    · simp
  · exact DU _ _ _
theorem IE (w:Int) (n:List Str):∀ l:List Ty.Item,(l.flatMap (fG w n)).length ≤ iX l
  | []=>by simp
  | x :: r => by
    rw [List.flatMap_cons,List.length_append,iX]
    have:=TN w n x
    have:=IE w n r
    omega
theorem Sw {P:Ty.Item → Prop} (hs:∀ x,P x → ∀ y ∈ x.l,P y) {w:Int} {sh:List (List Ty.Item)} (h:∀ x ∈ sh.flatten,P x):∀ p ∈ dG w sh,P p.item:=by
  have hi:∀ (k:Int) (x:Ty.Item),P x → ∀ p ∈ bJ w k x,P p.item:=fun k x hx p hp=>by
    unfold bJ jQ at hp
    split at hp
    · split at hp
      · obtain ⟨y,hy,rfl⟩:=List.mem_map.1 hp
        exact hs x hx y ((List.mem_filter.1 hy).1)
      · simp at hp
    · split at hp
      · simp at hp
      · simp at hp;rw [hp];exact hx
  intro p hp
  unfold dG at hp
  obtain ⟨x,hx,hp⟩:=List.mem_flatMap.1 hp
  unfold fG at hp
  split at hp
  · split at hp
    · obtain ⟨y,hy,hp⟩:=List.mem_flatMap.1 hp
      exact hi _ y (hs x (h x hx) y hy) p hp
    · simp at hp
  · exact hi _ x (h x hx) p hp
structure nO (w:Int) (sh:List (List Ty.Item)):Prop where
  ok:uU sh
  app:(dG w sh).length ≤ 60
  ii:∀ x ∈ sh.flatten,∀ y ∈ x.l,y.l.length ≤ 1000
  it:∀ p ∈ dG w sh,Te p.item
theorem Gm {sh:List (List Ty.Item)} (hok:Enc.ok sh) (h:gy sh=true) (w:Int):nO w sh:=by
  obtain ⟨h1,h2,h3⟩:=yw hok h
  have hfl:iX sh.flatten ≤ 60:=by
    have:=xQ (fun _=>0) iX vP rfl 15 sh h3
    omega
  have hlen:=oo sh.flatten
  refine ⟨⟨by omega,by omega,fun x hx=>?_,fun x hx=>?_,fun x hx y hy=>?_⟩,?_,fun x hx y hy=>?_,Sw (fun x hx=>hx.sub) h2⟩
  · have:=(h2 x hx).good.1;omega
  · have:=(h2 x hx).good.2.2.2.2.2;omega
  · have:=((h2 x hx).sub y hy).good.2.2.2.2.2;omega
  · have:=IE w (bQ sh) sh.flatten
    unfold dG;omega
  · have:=((h2 x hx).sub y hy).good.2.2.2.2.2;omega
theorem vw {w:Int} {sh:List (List Ty.Item)} (h:nO w sh):∀ r ∈ fu w sh,(r.decls.length ≤ 20 ∧ ∀ d ∈ r.decls,(iZ d.l:Int) ≤ 40) ∧ r.bB.length ≤ 60 ∧ ∀ c ∈ r.bB,Enc.ok c ∧ c.parts.length + xJ c.parts ≤ 60:=by
  intro r hr
  obtain ⟨p,hp,hr⟩:=List.mem_filterMap.1 hr
  unfold cK at hr
  split at hr
  · simp only [Option.some.injEq] at hr
    subst hr
    obtain ⟨g1,g2,g3,g4,g5,g6⟩:=(h.it p hp).good
    exact ⟨⟨g4.1,fun d hd=>(g4.2 d hd).1⟩,g3,fun c hc=>⟨(g2 c hc).2,(g2 c hc).1⟩⟩
  · simp at hr
theorem rT {w:Int} {sh:List (List Ty.Item)} (h:nO w sh):∀ r ∈ fu w sh,r.decls.length ≤ 1000000 ∧ r.bB.length ≤ 100000 ∧ ∀ c ∈ r.bB,Enc.ok c ∧ mV c.parts ≤ 100000:=fun r hr=>by
  obtain ⟨g1,g2,g3⟩:=vw h r hr
  refine ⟨by omega,by omega,fun c hc=>⟨(g3 c hc).1,?_⟩⟩
  rw [Ir];have:=(g3 c hc).2;omega
theorem zS {w:Int} {sh:List (List Ty.Item)} (h:nO w sh):(fu w sh).length ≤ 60:=Nat.le_trans (List.length_filterMap_le _ _) h.app
theorem O6 {s:bO} {n:Int} {pseudo:Str}:∀ rs:List Rule,(∀ r ∈ rs,r.decls.length ≤ 20) → (rs.flatMap (ng s n pseudo)).length ≤ rs.length * 20
  | [],_=>by simp
  | r :: q, h => by
    rw [List.flatMap_cons,List.length_append,List.length_cons,Nat.add_mul]
    have:=O6 (s:=s) (n:=n) (pseudo:=pseudo) q fun x hx=>h x (by simp [hx])
    have h1:=h r (by simp)
    have:(ng s n pseudo r).length ≤ r.decls.length:=by unfold ng;split <;> simp
    omega
theorem jo {s:bO} (n:Int) (pseudo:Str) (h:nO s.width s.sheets):(gI s n pseudo).length ≤ 1200:=by
  unfold gI wE
  rw [kH]
  have:=O6 (s:=s) (n:=n) (pseudo:=pseudo) (fu s.width s.sheets) fun r hr=>(vw h r hr).1.1
  have:=zS h
  omega
theorem EY:∀ {k:Nat} {l:List Ty.Found} {x:Ty.Found},x ∈ iK k l → ∃ y ∈ l,x.decl=y.decl
  | _,[],_,h=>by simp [iK] at h
  | k, y :: r, x, h => by
    simp only [iK,List.mem_cons] at h
    rcases h with rfl | h
    · exact ⟨y,by simp,rfl⟩
    · obtain ⟨z,hz,e⟩:=EY h;exact ⟨z,by simp [hz],e⟩
theorem yA {s:bO} (n:Int) (pseudo:Str) (h:nO s.width s.sheets):∀ x ∈ gI s n pseudo,iZ x.decl.l ≤ 1000000:=fun x hx=>by
  obtain ⟨y,hy,e⟩:=EY hx
  obtain ⟨r,hr,hy⟩:=List.mem_flatMap.1 hy
  unfold ng at hy
  split at hy
  · obtain ⟨d,hd,rfl⟩:=List.mem_map.1 hy
    rw [e]
    have:=(vw h r hr).1.2 d hd
    simp only [tJ];omega
  · simp at hy
end W15
/- Guards: the rest. -/
namespace W15
open Go Go.AX Go.AX.Ty Go.Proofs
def Ev (s:bO):Bool:=gy s.sheets && (nG 30 s.p && OC s.states)
theorem SF (s:bO) (hok:Enc.ok s):aK Tryz.prog 9 [Enc.av s] (.bool (Ev s)):=by
  refine aH mix c9 (by kernel_rfl) (by kernel_rfl) (by simp [ay,ak,Go.AX.flat]) (by first | exact ak _ | simp [flat,ay,ak]) ?_
  have hs:=(bO.bH s).1 hok
  have c1:=QW s.sheets hs.1
  have c2:=J3 30 s.p hs.2.1
  have c3:=Uy s.states hs.2.2.2
  simp -implicitDefEqProofs only [F9,go_sem,seval]
  refine au c1 ?_
  unfold Ev
  cases gy s.sheets
  · simp -implicitDefEqProofs only [go_sem,seval]
    try rfl
  simp -implicitDefEqProofs only [go_sem,seval]
  refine au c2 ?_
  cases nG 30 s.p
  · simp -implicitDefEqProofs only [go_sem,seval]
    try rfl
  simp -implicitDefEqProofs only [go_sem,seval]
  refine au c3 ?_
  cases OC s.states
  · simp -implicitDefEqProofs only [go_sem,seval]
    try rfl
  · simp -implicitDefEqProofs only [go_sem,seval]
    try rfl
end W15
