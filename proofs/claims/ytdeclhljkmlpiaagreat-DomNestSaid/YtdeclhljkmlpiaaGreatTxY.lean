/- lay: one node. -/
import Derived.Test.YtdeclhljkmlpiaaGreatTxP
import Derived.Test.YtdeclhljkmlpiaaGreatTxK
set_option linter.unusedSimpArgs false
set_option linter.unusedVariables false
namespace W10
open Go Go.AX Go.AX.Ty Go.Proofs
def Uj (s:St) (v:AV) (l:List Tag):Prop:=(v=.nils ∧ l=[]) ∨ ∃ d e,v=.sl d e 0 l.length 4 ∧ s.get d=some (.cells e (aj l) false)
def own (v:AV) (id:Nat):Prop:=∀ d e n z,v=.sl d e 0 n z → id ≠ d
theorem wD (i:Nat) (o:AX.Obj) (h:List (Nat × AX.Obj)):AX.look i ((i,o) :: h)=some o:=by simp [AX.look]
def Bc:bL:=match F30.body with
  | .seq _ (.seq (.seq _ (.block _ (.loop a))) _)=>a
  | c=>c
theorem OG {p : List Ty.Node} {K : List Int} {k a : Nat} {y : Ty.Node} (ha : K[k]? = some (a : Int)) (hy : p[a]? = some y) (hn : y.name = []) {s : St} {v : AV} {l : List Tag} (hw : Wf s) (hv : Uj s v l) (hl : l.length ≤ 100000) (hkl : K.length ≤ 100000) :
    ∃ v1 s1, (∀ (Q : bV) (ρ : Env), (∀ ρ', agree ρ' [(0, Enc.av p), (1, v1), (10, Enc.av K), (11, .int .i64 K.length), (12, .int .i64 (k + 1 : Nat))] → Q .normal ρ' s1) →
      W Tryz.prog C0 Bc Q (uY ρ [(0,Enc.av p),(1,v),(10,Enc.av K),(11,.int .i64 K.length),(12,.int .i64 k)]) s) ∧
      Uj s1 v1 (l ++ [l6 y.text]) ∧ Wf s1 ∧ s.next ≤ s1.next ∧ ∀ id,id < s.next → own v id → own v1 id ∧ s1.get id=s.get id:=by
  obtain ⟨h,m⟩:=s
  have hk:=fC ha
  have hal:=fC hy
  have h2:((k:Int) < (K.length:Int))=True:=eq_true (by omega)
  have w1:IntKind.i64.wrap ((k:Int) + 1)=((k + 1:Nat):Int):=by rw [wrap64 (by omega) (by omega)];omega
  have hnT:=eq_true hn
  rcases hv with ⟨rfl,rfl⟩ | ⟨d,e,rfl,hd⟩
  · apply Exists.intro
    apply Exists.intro
    apply And.intro
    · intro Q ρ hQ
      simp only [Bc,F30]
      simp -implicitDefEqProofs only [h2,ha,hy,Node.bY,Node.elem,hnT,go_sem,seval]
      exact hQ _ (by simp [agree,upd,w1];exact ⟨rfl,rfl,rfl⟩)
    · refine ⟨.inr ⟨m + 1 + 1,9,rfl,wD _ _ _⟩,bQ (bQ (bQ hw)),(by show m ≤ m + 1 + 1 + 1;omega),fun id hid ho=>?_⟩
      have hid':id < m:=hid
      refine ⟨fun d' e' n' z' he=>by cases he;omega,?_⟩
      show AX.look id _=AX.look id h
      simp only [AX.look]
      rw [if_neg (by omega),if_neg (by omega),if_neg (by omega)]
  · have hd':AX.look d h=_:=hd
    have lt:d < m:=by
      rcases Nat.lt_or_ge d m with h' | h'
      · exact h'
      · rw [hw d h'] at hd;simp at hd
    have lt1:(d < m + 1 + 1)=True:=eq_true (by omega)
    have n1:(m=d)=False:=eq_false (by omega)
    have n2:(m + 1=d)=False:=eq_false (by omega)
    have b1:((l.length + 1) * 64 ≤ 140737488355328)=True:=eq_true (by omega)
    have ht:List.take (l.length * 4) (aj l)=aj l:=List.take_of_length_le (by rw [Tag.jm];omega)
    generalize hV:iC false e (l.length * 4 + 4)=e'
    apply Exists.intro
    apply Exists.intro
    apply And.intro
    · intro Q ρ hQ
      simp only [Bc,F30]
      simp -implicitDefEqProofs only [h2,ha,hy,Node.bY,Node.elem,hnT,hd',n1,n2,lt1,b1,ht,Tag.jm,hV,go_sem,seval]
      exact hQ _ (by simp [agree,upd,w1];exact ⟨rfl,rfl,rfl⟩)
    · refine ⟨.inr ⟨d,e',by rw [List.length_append];rfl,?_⟩,bQ (bQ (gq hw)),(by show m ≤ m + 1 + 1;omega),fun id hid ho=>?_⟩
      · show AX.look d _=_
        simp only [AX.look,n1,n2,if_false]
        rw [aS hd',aU];rfl
      · have hid':id < m:=hid
        have hne:id ≠ d:=ho d e l.length 4 rfl
        refine ⟨fun d' e' n' z' he=>by cases he;exact hne,?_⟩
        show AX.look id _=AX.look id h
        simp only [AX.look]
        rw [if_neg (by omega),if_neg (by omega),ay (Ne.symm hne)]
end W10
/- lay: an element. -/
namespace W10
open Go Go.AX Go.AX.Ty Go.Proofs
def Pd (p:List Ty.Node) (K:List Int) (x:List Tag) (M:Nat):Prop:=∀ (s:St) (v:AV) (l:List Tag),Wf s → Uj s v l → l.length + x.length ≤ M → ∃ v' s',aF Tryz.prog 30 [Enc.av p,v,Enc.av K] s (fun v2 t=>v2=v' ∧ t=s') ∧ Uj s' v' (l ++ x) ∧ Wf s' ∧ s.next ≤ s'.next ∧ ∀ id,id < s.next → own v id → own v' id ∧ s'.get id=s.get id
theorem Pg {p : List Ty.Node} {K : List Int} {k a : Nat} {y : Ty.Node} (ha : K[k]? = some (a : Int)) (hy : p[a]? = some y) (hn : y.name ≠ []) {x : List Tag} (hc : jq y.name = false → Pd p y.kids x 100000) {s : St} {v : AV} {l : List Tag} (hw : Wf s) (hv : Uj s v l) (hl : l.length + x.length + 2 ≤ 100001) (hkl : K.length ≤ 100000) :
    ∃ v1 s1, (∀ (Q : bV) (ρ : Env), (∀ ρ', agree ρ' [(0, Enc.av p), (1, v1), (10, Enc.av K), (11, .int .i64 K.length), (12, .int .i64 (k + 1 : Nat))] → Q .normal ρ' s1) →
      W Tryz.prog C0 Bc Q (uY ρ [(0,Enc.av p),(1,v),(10,Enc.av K),(11,.int .i64 K.length),(12,.int .i64 k)]) s) ∧
      Uj s1 v1 (l ++ if jq y.name=true then [dY y.name y.attrs] else dY y.name y.attrs :: (x ++ [bJ y.name])) ∧ Wf s1 ∧ s.next ≤ s1.next ∧ ∀ id,id < s.next → own v id → own v1 id ∧ s1.get id=s.get id:=by
  obtain ⟨h,m⟩:=s
  have hk:=fC ha
  have hal:=fC hy
  have h2:((k:Int) < (K.length:Int))=True:=eq_true (by omega)
  have w1:IntKind.i64.wrap ((k:Int) + 1)=((k + 1:Nat):Int):=by rw [wrap64 (by omega) (by omega)];omega
  have hnT:=eq_false hn
  have p1:(m + 1 + 1=m)=False:=eq_false (by omega)
  have p2:(m + 1=m)=False:=eq_false (by omega)
  have p3:(m < m + 1 + 1)=True:=eq_true (by omega)
  have p4:(m < m + 1 + 1 + 1)=True:=eq_true (by omega)
  cases hvo:jq y.name with
  | true =>
    rw [if_pos rfl]
    rcases hv with ⟨rfl,rfl⟩ | ⟨d,e,rfl,hd⟩
    · apply Exists.intro
      apply Exists.intro
      apply And.intro
      · intro Q ρ hQ
        simp only [Bc,F30]
        simp -implicitDefEqProofs only [h2,ha,hy,Node.bY,Node.elem,hnT,p1,p2,go_sem,seval]
        refine ak (yX y.name) ?_
        simp -implicitDefEqProofs only [hvo,go_sem,seval]
        exact hQ _ (by simp [agree,upd,w1];exact ⟨rfl,rfl,rfl⟩)
      · refine ⟨.inr ⟨m + 1 + 1,9,rfl,wD _ _ _⟩,bQ (bQ (bQ hw)),(by show m ≤ m + 1 + 1 + 1;omega),fun id hid ho=>?_⟩
        have hid':id < m:=hid
        refine ⟨fun d' e' n' z' he=>by cases he;omega,?_⟩
        show AX.look id _=AX.look id h
        simp only [AX.look]
        rw [if_neg (by omega),if_neg (by omega),if_neg (by omega)]
    · have hd':AX.look d h=_:=hd
      have lt:d < m:=by
        rcases Nat.lt_or_ge d m with h' | h'
        · exact h'
        · rw [hw d h'] at hd;simp at hd
      have lt1:(d < m + 1 + 1)=True:=eq_true (by omega)
      have n1:(m=d)=False:=eq_false (by omega)
      have n2:(m + 1=d)=False:=eq_false (by omega)
      have n3:(d=m)=False:=eq_false (by omega)
      have b1:((l.length + 1) * 64 ≤ 140737488355328)=True:=eq_true (by omega)
      have ht:List.take (l.length * 4) (aj l)=aj l:=List.take_of_length_le (by rw [Tag.jm];omega)
      generalize hV:iC false e (l.length * 4 + 4)=e'
      apply Exists.intro
      apply Exists.intro
      apply And.intro
      · intro Q ρ hQ
        simp only [Bc,F30]
        simp -implicitDefEqProofs only [h2,ha,hy,Node.bY,Node.elem,hnT,p1,p2,p3,hd',n1,n2,n3,lt1,b1,ht,Tag.jm,hV,go_sem,seval]
        refine ak (yX y.name) ?_
        simp -implicitDefEqProofs only [hvo,go_sem,seval]
        exact hQ _ (by simp [agree,upd,w1];exact ⟨rfl,rfl,rfl⟩)
      · refine ⟨.inr ⟨d,e',by rw [List.length_append];rfl,?_⟩,bQ (bQ (gq hw)),(by show m ≤ m + 1 + 1;omega),fun id hid ho=>?_⟩
        · show AX.look d _=_
          simp only [AX.look,n1,n2,if_false]
          rw [aS hd',aU];rfl
        · have hid':id < m:=hid
          have hne:id ≠ d:=ho d e l.length 4 rfl
          refine ⟨fun d' e' n' z' he=>by cases he;exact hne,?_⟩
          show AX.look id _=AX.look id h
          simp only [AX.look]
          rw [if_neg (by omega),if_neg (by omega),ay (Ne.symm hne)]
  | false =>
    rw [if_neg (by simp)]
    rcases hv with ⟨rfl,rfl⟩ | ⟨d,e,rfl,hd⟩
    · have hS:Wf ⟨(m + 1 + 1,AX.Obj.cells 9 [.int .i64 1,.str y.name,.ps y.attrs.length (aj y.attrs),.str []] false) :: (m + 1,AX.Obj.cells 9 [.int .i64 1,.str y.name,.ps y.attrs.length (aj y.attrs),.str []] false) :: (m,AX.Obj.cells 1 [.str y.name,.ps y.attrs.length (aj y.attrs),.str y.text,.int .i64 y.up,.ps y.kids.length (aj y.kids)] false) :: h,m + 1 + 1 + 1⟩:=bQ (bQ (bQ hw))
      obtain ⟨v2,s2,hcall,hok,hw2,hn2,hf2⟩:=hc hvo _ (.sl (m + 1 + 1) 9 0 1 4) [dY y.name y.attrs] hS (.inr ⟨m + 1 + 1,9,rfl,wD _ _ _⟩) (by simp only [List.length_singleton];omega)
      rcases hok with ⟨_,hok⟩ | ⟨d2,e2,rfl,hok⟩
      · simp at hok
      have g9:s2.get m=some (.cells 1 [.str y.name,.ps y.attrs.length (aj y.attrs),.str y.text,.int .i64 y.up,.ps y.kids.length (aj y.kids)] false):=by
        rw [(hf2 m (by show m < m + 1 + 1 + 1;omega) fun d' e' n' z' he=>by cases he;omega).2]
        show AX.look m _=_
        simp [AX.look,p1,p2]
      obtain ⟨h2',m2⟩:=s2
      have lt2:d2 < m2:=by
        rcases Nat.lt_or_ge d2 m2 with h' | h'
        · exact h'
        · rw [hw2 d2 h'] at hok;simp at hok
      have hm2:m + 1 + 1 + 1 ≤ m2:=hn2
      have T1:(m < m2)=True:=eq_true (by omega)
      have T2:(d2 < m2 + 1)=True:=eq_true (by omega)
      have n1:(m2=m)=False:=eq_false (by omega)
      have n2:(m2=d2)=False:=eq_false (by omega)
      have hok':AX.look d2 h2'=_:=hok
      have g9':AX.look m h2'=_:=g9
      generalize hLL:[dY y.name y.attrs] ++ x=LL at *
      have hLn:LL.length=x.length + 1:=by rw [← hLL];simp
      have b1:((LL.length + 1) * 64 ≤ 140737488355328)=True:=eq_true (by omega)
      have ht:List.take (LL.length * 4) (aj LL)=aj LL:=List.take_of_length_le (by rw [Tag.jm];omega)
      generalize hV:iC false e2 (LL.length * 4 + 4)=e'
      apply Exists.intro
      apply Exists.intro
      apply And.intro
      · intro Q ρ hQ
        simp only [Bc,F30]
        simp -implicitDefEqProofs only [h2,ha,hy,Node.bY,Node.elem,hnT,p1,p2,go_sem,seval]
        refine ak (yX y.name) ?_
        simp -implicitDefEqProofs only [hvo,p1,p2,go_sem,seval]
        refine lK [m + 1 + 1] hcall hS hn2 hw2 ⟨by simp,fun id hid ho=>(hf2 id hid fun d' e' n' z' he=>by cases he;simpa using ho).2⟩ ?_
        simp -implicitDefEqProofs only [g9',hok',T1,T2,n1,n2,b1,ht,Tag.jm,hV,go_sem,seval]
        refine aA (by
          simp [aM,aX,aY,Nat.testBit_eq_decide_div_mod_eq]
          repeat' (first | omega | (intro x hx;first | omega | (have h9:x ∈ List.range (m + 1 + 1 + 1):=hx;rw [List.mem_range] at h9;omega)) | refine And.intro ?_ ?_)) ?_
        simp -implicitDefEqProofs only [g9',hok',T1,T2,n1,n2,b1,ht,Tag.jm,hV,go_sem,seval]
        exact hQ _ (by simp [agree,upd,w1];exact ⟨rfl,rfl,rfl⟩)
      · refine ⟨.inr ⟨d2,e',?_,?_⟩,bQ (gq hw2),(by show m ≤ m2 + 1;omega),fun id hid ho=>?_⟩
        · rw [show [] ++ dY y.name y.attrs :: (x ++ [bJ y.name])=LL ++ [bJ y.name] by rw [← hLL];simp,List.length_append];rfl
        · rw [show [] ++ dY y.name y.attrs :: (x ++ [bJ y.name])=LL ++ [bJ y.name] by rw [← hLL];simp]
          show AX.look d2 _=_
          simp only [AX.look,n2,if_false]
          rw [aS hok',aU];rfl
        · have hid':id < m:=hid
          obtain ⟨q1,q2⟩:=hf2 id (by show id < m + 1 + 1 + 1;omega) fun d' e' n' z' he=>by cases he;omega
          have hne:id ≠ d2:=q1 d2 e2 _ 4 rfl
          refine ⟨fun d' e' n' z' he=>by cases he;exact hne,?_⟩
          show AX.look id _=AX.look id h
          simp only [AX.look]
          rw [if_neg (by omega),ay (Ne.symm hne),show AX.look id h2'=_ from q2]
          show AX.look id _=AX.look id h
          simp only [AX.look]
          rw [if_neg (by omega),if_neg (by omega),if_neg (by omega)]
    · have hd':AX.look d h=_:=hd
      have lt:d < m:=by
        rcases Nat.lt_or_ge d m with h' | h'
        · exact h'
        · rw [hw d h'] at hd;simp at hd
      have lt1:(d < m + 1 + 1)=True:=eq_true (by omega)
      have n1:(m=d)=False:=eq_false (by omega)
      have n2:(m + 1=d)=False:=eq_false (by omega)
      have n3:(d=m)=False:=eq_false (by omega)
      have b1:((l.length + 1) * 64 ≤ 140737488355328)=True:=eq_true (by omega)
      have ht:List.take (l.length * 4) (aj l)=aj l:=List.take_of_length_le (by rw [Tag.jm];omega)
      have b3:((l.length + 1) * 4 ≤ (aj l ++ [AV.int IntKind.i64 1,AV.str y.name,AV.ps y.attrs.length (aj y.attrs),AV.str []]).length)=True:=eq_true (by rw [List.length_append,Tag.jm];simp only [List.length_cons,List.length_nil];omega)
      generalize hV:iC false e (l.length * 4 + 4)=e1
      have hS:Wf ⟨(m + 1,AX.Obj.cells 9 [.int .i64 1,.str y.name,.ps y.attrs.length (aj y.attrs),.str []] false) :: (m,AX.Obj.cells 1 [.str y.name,.ps y.attrs.length (aj y.attrs),.str y.text,.int .i64 y.up,.ps y.kids.length (aj y.kids)] false) :: putAt d (.cells e1 (aj l ++ [.int .i64 1,.str y.name,.ps y.attrs.length (aj y.attrs),.str []]) false) h,m + 1 + 1⟩:=bQ (bQ (gq hw))
      obtain ⟨v2,s2,hcall,hok,hw2,hn2,hf2⟩:=hc hvo _ (.sl d e1 0 (l.length + 1) 4) (l ++ [dY y.name y.attrs]) hS (.inr ⟨d,e1,by rw [List.length_append];rfl,by
        show AX.look d _=_
        simp only [AX.look,n1,n2,if_false]
        rw [aS hd',aU];rfl⟩) (by simp only [List.length_append,List.length_singleton];omega)
      rcases hok with ⟨_,hok⟩ | ⟨d2,e2,rfl,hok⟩
      · simp at hok
      have g9:s2.get m=some (.cells 1 [.str y.name,.ps y.attrs.length (aj y.attrs),.str y.text,.int .i64 y.up,.ps y.kids.length (aj y.kids)] false):=by
        rw [(hf2 m (by show m < m + 1 + 1;omega) fun d' e' n' z' he=>by cases he;omega).2]
        show AX.look m _=_
        simp [AX.look,p2]
      obtain ⟨h2',m2⟩:=s2
      have lt2:d2 < m2:=by
        rcases Nat.lt_or_ge d2 m2 with h' | h'
        · exact h'
        · rw [hw2 d2 h'] at hok;simp at hok
      have hm2:m + 1 + 1 ≤ m2:=hn2
      have T1:(m < m2)=True:=eq_true (by omega)
      have T2:(d2 < m2 + 1)=True:=eq_true (by omega)
      have q1:(m2=m)=False:=eq_false (by omega)
      have q2:(m2=d2)=False:=eq_false (by omega)
      have hok':AX.look d2 h2'=_:=hok
      have g9':AX.look m h2'=_:=g9
      generalize hLL:l ++ [dY y.name y.attrs] ++ x=LL at *
      have hLn:LL.length=l.length + 1 + x.length:=by rw [← hLL];simp;omega
      have hLe:l ++ dY y.name y.attrs :: (x ++ [bJ y.name])=LL ++ [bJ y.name]:=by rw [← hLL];simp
      have b2:((LL.length + 1) * 64 ≤ 140737488355328)=True:=eq_true (by omega)
      have ht2:List.take (LL.length * 4) (aj LL)=aj LL:=List.take_of_length_le (by rw [Tag.jm];omega)
      generalize hV2:iC false e2 (LL.length * 4 + 4)=e'
      apply Exists.intro
      apply Exists.intro
      apply And.intro
      · intro Q ρ hQ
        simp only [Bc,F30]
        simp -implicitDefEqProofs only [h2,ha,hy,Node.bY,Node.elem,hnT,p1,p2,p3,hd',n1,n2,n3,lt1,b1,ht,Tag.jm,hV,go_sem,seval]
        refine ak (yX y.name) ?_
        simp -implicitDefEqProofs only [hvo,p1,p2,p3,n1,n2,n3,lt1,hd',b3,go_sem,seval]
        refine lK [d] hcall hS hn2 hw2 ⟨by simp;omega,fun id hid ho=>(hf2 id hid fun d' e' n' z' he=>by cases he;simpa using ho).2⟩ ?_
        simp -implicitDefEqProofs only [g9',hok',T1,T2,q1,q2,b2,ht2,Tag.jm,hV2,go_sem,seval]
        refine aA (by
          simp [aM,aX,aY,Nat.testBit_eq_decide_div_mod_eq]
          repeat' (first | omega | (intro x hx;first | omega | (have h9:x ∈ List.range (m + 1 + 1):=hx;rw [List.mem_range] at h9;omega)) | refine And.intro ?_ ?_)) ?_
        simp -implicitDefEqProofs only [g9',hok',T1,T2,q1,q2,b2,ht2,Tag.jm,hV2,go_sem,seval]
        exact hQ _ (by simp [agree,upd,w1];exact ⟨rfl,rfl,rfl⟩)
      · refine ⟨.inr ⟨d2,e',by rw [hLe,List.length_append];rfl,?_⟩,bQ (gq hw2),(by show m ≤ m2 + 1;omega),fun id hid ho=>?_⟩
        · rw [hLe]
          show AX.look d2 _=_
          simp only [AX.look,q2,if_false]
          rw [aS hok',aU];rfl
        · have hid':id < m:=hid
          have hnd:id ≠ d:=ho d e l.length 4 rfl
          obtain ⟨r1,r2⟩:=hf2 id (by show id < m + 1 + 1;omega) fun d' e' n' z' he=>by cases he;exact hnd
          have hne:id ≠ d2:=r1 d2 e2 _ 4 rfl
          refine ⟨fun d' e' n' z' he=>by cases he;exact hne,?_⟩
          show AX.look id _=AX.look id h
          simp only [AX.look]
          rw [if_neg (by omega),ay (Ne.symm hne),show AX.look id h2'=_ from r2]
          show AX.look id _=AX.look id h
          simp only [AX.look]
          rw [if_neg (by omega),if_neg (by omega),ay (Ne.symm hnd)]
end W10
/- lay. -/
namespace W10
open Go Go.AX Go.AX.Ty Go.Proofs
def Ea (p:List Ty.Node):Prop:=∀ (j:Nat) (y:Ty.Node),p[j]? = some y → y.kids.length ≤ 100000 ∧ ∀ a ∈ y.kids,∃ i:Nat,a=(i:Int) ∧ j < i ∧ i < p.length
theorem Ih {p : List Ty.Node} (hp : Ea p) {K : List Int} {f : Nat} (hkl : K.length ≤ 100000) (hK : ∀ a ∈ K, ∃ j : Nat, a = (j : Int) ∧ j < p.length) (ih : ∀ (j : Nat) (y : Ty.Node), (j : Int) ∈ K → p[j]? = some y → Pd p y.kids (iU p f y.kids) 100000) :
    ∀ (R : List Int) (k : Nat), K.drop k = R → ∀ (s : St) (v : AV) (l : List Tag), Wf s → Uj s v l → l.length + (iU p (f + 1) R).length ≤ 100000 → ∃ v' s', (∀ (Q : bV) (ρ : Env), agree ρ [(0, Enc.av p), (1, v), (10, Enc.av K), (11, .int .i64 K.length), (12, .int .i64 k)] → (∀ ρ', ρ' 1 = v' → Q (.exit 0) ρ' s') →
      vB (W Tryz.prog C0 Bc) Q (R.length + 1) ρ s) ∧ Uj s' v' (l ++ iU p (f + 1) R) ∧ Wf s' ∧ s.next ≤ s'.next ∧ ∀ id,id < s.next → own v id → own v' id ∧ s'.get id=s.get id
  | [], k, hk, s, v, l, hw, hv, hM => by
    refine ⟨v,s,fun Q ρ ha hQ=>?_,by rw [show iU p (f + 1) []=[] from rfl,List.append_nil];exact hv,hw,Nat.le_refl _,fun id _ ho=>⟨ho,rfl⟩⟩
    rw [tH,← iI ha]
    have hkl2:K.length ≤ k:=List.drop_eq_nil_iff.1 hk
    have h2:((k:Int) < (K.length:Int))=False:=eq_false (by omega)
    obtain ⟨h,m⟩:=s
    simp only [Bc,F30]
    simp -implicitDefEqProofs only [h2,go_sem,seval]
    exact hQ _ (by simp [upd])
  | a :: R, k, hk, s, v, l, hw, hv, hM => by
    have hklt:k < K.length:=by
      rcases Nat.lt_or_ge k K.length with h' | h'
      · exact h'
      · rw [List.drop_of_length_le h'] at hk;simp at hk
    have hka:K[k]? = some a:=by rw [List.getElem?_eq_getElem hklt];rw [List.drop_eq_getElem_cons hklt] at hk;rw [(List.cons.inj hk).1]
    have hkd:K.drop (k + 1)=R:=by rw [List.drop_eq_getElem_cons hklt] at hk;exact (List.cons.inj hk).2
    have hjK:=List.mem_of_getElem? hka
    obtain ⟨j,rfl,hj⟩:=hK a hjK
    obtain ⟨y,hy,_,_⟩:=aW hj
    have hnd:=fM hy
    have hcons:iU p (f + 1) ((j:Int) :: R)=gN p (f + 1) j ++ iU p (f + 1) R:=by simp [iU]
    rw [hcons,List.length_append] at hM
    have step:∃ v1 s1,(∀ Q:bV,∀ ρ,(∀ ρ',agree ρ' [(0,Enc.av p),(1,v1),(10,Enc.av K),(11,.int .i64 K.length),(12,.int .i64 (k + 1:Nat))] → Q .normal ρ' s1) →
      W Tryz.prog C0 Bc Q (uY ρ [(0,Enc.av p),(1,v),(10,Enc.av K),(11,.int .i64 K.length),(12,.int .i64 k)]) s) ∧
      Uj s1 v1 (l ++ gN p (f + 1) j) ∧ Wf s1 ∧ s.next ≤ s1.next ∧ ∀ id,id < s.next → own v id → own v1 id ∧ s1.get id=s.get id:=by
      by_cases hn:y.name=[]
      · rw [gN,hnd,if_pos hn]
        exact OG hka hy hn hw hv (by omega) hkl
      · have hx:jq y.name=false → (gN p (f + 1) j).length=(iU p f y.kids).length + 2:=fun e=>by
          rw [gN,hnd,if_neg hn,if_neg (by simp [e])]
          simp only [List.length_cons,List.length_append,List.length_nil,iU]
        cases hvo:jq y.name with
        | true =>
          obtain ⟨v1,s1,q1,q2,q3⟩:=Pg (x:=[]) hka hy hn (fun e=>by rw [hvo] at e;simp at e) hw hv (by simp only [List.length_nil];rw [gN,hnd,if_neg hn,if_pos hvo,List.length_singleton] at hM;omega) hkl
          rw [if_pos hvo] at q2
          rw [gN,hnd,if_neg hn,if_pos hvo]
          exact ⟨v1,s1,q1,q2,q3⟩
        | false =>
          have hx':=hx hvo
          obtain ⟨v1,s1,q1,q2,q3⟩:=Pg hka hy hn (fun e=>ih j y hjK hy) hw hv (by omega) hkl
          rw [if_neg (by simp [hvo])] at q2
          rw [gN,hnd,if_neg hn,if_neg (by simp [hvo])]
          exact ⟨v1,s1,q1,q2,q3⟩
    obtain ⟨v1,s1,q1,q2,q3,q4,q5⟩:=step
    obtain ⟨v',s',r1,r2,r3,r4,r5⟩:=Ih hp hkl hK ih R (k + 1) hkd s1 v1 (l ++ gN p (f + 1) j) q3 q2 (by rw [List.length_append];omega)
    refine ⟨v',s',fun Q ρ ha hQ=>?_,by rw [hcons,← List.append_assoc];exact r2,r3,Nat.le_trans q4 r4,fun id hid ho=>?_⟩
    · rw [List.length_cons,tH,← iI ha]
      exact q1 _ _ fun ρ' ha'=>r1 Q ρ' ha' hQ
    · obtain ⟨o1,e1⟩:=q5 id hid ho
      obtain ⟨o2,e2⟩:=r5 id (Nat.lt_of_lt_of_le hid q4) o1
      exact ⟨o2,e2.trans e1⟩
theorem Gj {p:List Ty.Node} (hp:Ea p) {K:List Int} {f:Nat} (hkl:K.length ≤ 100000) (hK:∀ a ∈ K,∃ j:Nat,a=(j:Int) ∧ j < p.length) (ih:∀ (j:Nat) (y:Ty.Node),(j:Int) ∈ K → p[j]? = some y → Pd p y.kids (iU p f y.kids) 100000):Pd p K (iU p (f + 1) K) 100000:=by
  intro s v l hw hv hM
  obtain ⟨v',s',q1,q2,q3,q4,q5⟩:=Ih hp hkl hK ih K 0 rfl s v l hw hv hM
  refine ⟨v',s',?_,q2,q3,q4,q5⟩
  obtain ⟨h,m⟩:=s
  refine bE mix (dx _) c30 (by kernel_rfl) (Nat.le_of_ble_eq_true (by kernel_rfl)) ?_
  simp -implicitDefEqProofs only [F30,go_sem,seval]
  rw [iG]
  refine ⟨K.length + 1,q1 _ _ (by simp [agree,upd,vF];exact ⟨rfl,rfl⟩) fun ρ' hρ=>?_⟩
  simp -implicitDefEqProofs only [hρ,go_sem,seval]
theorem V6 {p:List Ty.Node} (hp:Ea p):∀ (f:Nat) (K:List Int),K.length ≤ 100000 → (∀ a ∈ K,∃ j:Nat,a=(j:Int) ∧ j < p.length ∧ p.length ≤ f + j) → Pd p K (iU p f K) 100000
  | 0, K, hkl, hK => by
    have hK0:K=[]:=by
      cases K with
      | nil=>rfl
      | cons a R=>obtain ⟨j,_,h1,h2⟩:=hK a (by simp);omega
    subst hK0
    exact Gj (f:=0) hp hkl (by simp) (by simp)
  | f + 1, K, hkl, hK => Gj hp hkl (fun a ha => by obtain ⟨j, h1, h2, _⟩ := hK a ha; exact ⟨j, h1, h2⟩) fun j y hj hy => by
    obtain ⟨h1,h2⟩:=hp j y hy
    refine V6 hp f y.kids h1 fun a ha=>?_
    obtain ⟨i,e,h3,h4⟩:=h2 a ha
    obtain ⟨j',e',h5,h6⟩:=hK j hj
    exact ⟨i,e,h4,by omega⟩
end W10
/- A tree's nodes are told once each; how much its tags weigh. -/
namespace W10
open Go Go.AX Go.AX.Ty Go.Proofs
open W10K (iE bC GJ Au uF yI)
theorem VJ {p:List Ty.Node} {k:Nat} (h:k < p.length):GJ p k=(nd p k).up:=uF (tC h)
theorem CG (p:List Ty.Node) (m n:Nat) (h:m ≤ p.length):bC p m n=lG p m n:=by
  unfold bC lG
  congr 1
  apply List.filter_congr
  intro k hk
  rw [List.mem_range] at hk
  rw [VJ (by omega)]
  by_cases e:(nd p k).up=(n:Int) <;> simp [e]
theorem PI.tree {p:List Ty.Node} (I:PI p):iE p:=by
  refine ⟨fun e=>by have:=I.pos;rw [e] at this;simp at this,fun x hx=>?_,fun k x h1 hx=>?_,fun n x hx=>?_⟩
  · rw [← fM hx];exact ⟨I.root.2.2.2,I.root.1,I.root.2.1,I.root.2.2.1⟩
  · rw [← fM hx];exact I.up k h1 (fC hx)
  · rw [← fM hx,I.kids n (fC hx),CG _ _ _ (Nat.le_refl _)]
theorem TP.kids {p:List Ty.Node} (T:iE p) {n:Nat} (h:n < p.length):(nd p n).kids=lG p p.length n:=by
  rw [T.kids n _ (tC h),CG _ _ _ (Nat.le_refl _)]
theorem TP.up {p:List Ty.Node} (T:iE p) {k:Nat} (h1:1 ≤ k) (h:k < p.length):0 ≤ (nd p k).up ∧ (nd p k).up < k:=T.up k _ h1 (tC h)
theorem TP.kid {p:List Ty.Node} (T:iE p) {n:Nat} (h:n < p.length) {a:Int} (ha:a ∈ (nd p n).kids):∃ k:Nat,a=k ∧ k < p.length ∧ 1 ≤ k ∧ (nd p k).up=n ∧ n < k:=by
  rw [TP.kids T h] at ha
  obtain ⟨k,e,h1,h2,h3⟩:=mq.1 ha
  have:=(TP.up T h2 h1).2
  exact ⟨k,e,h1,h2,h3,by omega⟩
theorem TP.ok {p:List Ty.Node} (T:iE p) (hl:p.length ≤ 100000):Ea p:=fun j y hy=>by
  have hj:=fC hy
  rw [← fM hy]
  refine ⟨by rw [TP.kids T hj];exact Nat.le_trans (CY _ _ _) hl,fun a ha=>?_⟩
  obtain ⟨k,e,h1,_,_,h4⟩:=TP.kid T hj ha
  exact ⟨k,e,h4,h1⟩
def pre (p:List Ty.Node):Nat → Nat → List Nat
  | 0,_=>[]
  | f + 1,k=>k :: (nd p k).kids.flatMap fun j=>pre p f j.toNat
def Nt (p:List Ty.Node):Nat → Nat → Nat
  | 0,i=>i
  | n + 1,i=>Nt p n (nd p i).up.toNat
theorem E9 (p:List Ty.Node):∀ (n m i:Nat),Nt p (n + m) i=Nt p m (Nt p n i)
  | 0,m,i=>by rw [Nat.zero_add];rfl
  | n + 1,m,i=>by rw [Nat.add_right_comm];exact E9 p n m _
theorem Ew {p:List Ty.Node} (T:iE p):∀ (n i:Nat),i < p.length → Nt p n i ≤ i ∧ Nt p n i < p.length
  | 0,i,h=>⟨Nat.le_refl _,h⟩
  | n + 1, i, h => by
    have hu:(nd p i).up.toNat ≤ i:=by
      rcases Nat.lt_or_ge i 1 with h1 | h1
      · have e:i=0:=by omega
        subst e
        rw [(T.root _ (tC h)).1];decide
      · have:=TP.up T h1 h;omega
    have:=Ew T n (nd p i).up.toNat (by omega)
    exact ⟨Nat.le_trans this.1 hu,this.2⟩
theorem BG {p:List Ty.Node} (T:iE p):∀ (f k:Nat),k < p.length → ∀ i ∈ pre p f k,i < p.length ∧ ∃ n,Nt p n i=k
  | 0,_,_,i,hi=>by simp [pre] at hi
  | f + 1, k, hk, i, hi => by
    rw [pre,List.mem_cons,List.mem_flatMap] at hi
    rcases hi with rfl | ⟨a,ha,hi⟩
    · exact ⟨hk,0,rfl⟩
    · obtain ⟨j,rfl,h1,h2,h3,h4⟩:=TP.kid T hk ha
      rw [Int.toNat_natCast] at hi
      obtain ⟨g1,n,g2⟩:=BG T f j h1 i hi
      refine ⟨g1,n + 1,?_⟩
      rw [E9,g2]
      show (nd p j).up.toNat=k
      omega
theorem I9 {p:List Ty.Node} (T:iE p) {k a b i n m:Nat} (ha:k < a) (hb:k < b) (hbl:b < p.length) (hal:a < p.length) (ua:(nd p a).up=k) (ub:(nd p b).up=k) (e1:Nt p n i=a) (e2:Nt p m i=b):a=b:=by
  have key:∀ (a b n d:Nat),k < b → a < p.length → (nd p a).up=k → Nt p n i=a → Nt p (n + d) i=b → a=b:=fun a b n d hb hal ua e1 e2=>by
    cases d with
    | zero=>rw [Nat.add_zero,e1] at e2;exact e2
    | succ d =>
      exfalso
      rw [E9,e1] at e2
      have hk:(nd p a).up.toNat=k:=by omega
      have e3:Nt p d k=b:=by rw [← e2,← hk];rfl
      have:=Ew T d k (by have:=Ew T 1 a hal;have e4:Nt p 1 a=k:=hk;omega)
      omega
  rcases Nat.le_total n m with h | h
  · exact key a b n (m - n) hb hal ua e1 (by rw [Nat.add_sub_cancel' h];exact e2)
  · exact (key b a m (n - m) ha hbl ub e2 (by rw [Nat.add_sub_cancel' h];exact e1)).symm
theorem Bl {p:List Ty.Node} (T:iE p) {f k:Nat} (hk:k < p.length) (ih:∀ j,j < p.length → (pre p f j).Pairwise (· ≠ ·)):((nd p k).kids.flatMap fun j=>pre p f j.toNat).Pairwise (· ≠ ·):=by
  rw [List.pairwise_flatMap]
  refine ⟨fun a ha=>?_,?_⟩
  · obtain ⟨j,rfl,h1,_⟩:=TP.kid T hk ha
    exact ih _ (by simpa using h1)
  · have hs:(nd p k).kids.Pairwise (· < ·):=by rw [TP.kids T hk];exact j6 _ _ _
    refine hs.imp_of_mem fun {a b} ha hb hab x hx y hy e=>?_
    subst e
    obtain ⟨j,rfl,h1,h2,h3,h4⟩:=TP.kid T hk ha
    obtain ⟨i,rfl,g1,g2,g3,g4⟩:=TP.kid T hk hb
    rw [Int.toNat_natCast] at hx hy
    obtain ⟨_,n,e1⟩:=BG T f j h1 x hx
    obtain ⟨_,m,e2⟩:=BG T f i g1 x hy
    have:=I9 T h4 g4 g1 h1 h3 g3 e1 e2
    omega
theorem CZ {p:List Ty.Node} (T:iE p):∀ (f k:Nat),k < p.length → (pre p f k).Pairwise (· ≠ ·)
  | 0,_,_=>List.Pairwise.nil
  | f + 1, k, hk => by
    rw [pre,List.pairwise_cons]
    refine ⟨fun i hi e=>?_,Bl T hk fun j hj=>CZ T f j hj⟩
    subst e
    rw [List.mem_flatMap] at hi
    obtain ⟨a,ha,hi⟩:=hi
    obtain ⟨j,rfl,h1,h2,h3,h4⟩:=TP.kid T hk ha
    rw [Int.toNat_natCast] at hi
    obtain ⟨g1,n,g2⟩:=BG T f j h1 k hi
    have:=Ew T n k hk
    omega
theorem Dn:∀ (N:Nat) (l:List Nat),l.Pairwise (· ≠ ·) → (∀ x ∈ l,x < N) → l.length ≤ N
  | 0, l, _, h => by
    cases l with
    | nil=>simp
    | cons a r=>exact absurd (h a (by simp)) (by omega)
  | N + 1, l, hd, h => by
    have h1:=Dn N (l.filter (· ≠ N)) (hd.filter _) fun x hx=>by
      rw [List.mem_filter] at hx
      have:=h x hx.1
      have:x ≠ N:=by simpa using hx.2
      omega
    have h2:∀ l:List Nat,l.Pairwise (· ≠ ·) → l.length ≤ (l.filter (· ≠ N)).length + 1:=by
      intro l
      induction l with
      | nil=>simp
      | cons a r ih =>
        intro hd
        rw [List.pairwise_cons] at hd
        by_cases e:a=N
        · have:r.filter (· ≠ N)=r:=by
            rw [List.filter_eq_self]
            intro x hx
            have:=hd.1 x hx
            simpa using fun e'=>this (by rw [e,e'])
          rw [List.filter_cons_of_neg (by simp [e]),this];simp
        · rw [List.filter_cons_of_pos (by simp [e])]
          have:=ih hd.2
          simp only [List.length_cons];omega
    have:=h2 l hd
    omega
end W10
/- The text of a page: how long; its contract. -/
namespace W10
open Go Go.AX Go.AX.Ty Go.Proofs
open W10K (iE yI mM jK iZ rU)
def Ca (p:List Ty.Node):Prop:=∀ i,tO (dY (nd p i).name (nd p i).attrs) ≤ 10000 ∧ tO (bJ (nd p i).name) ≤ 10000 ∧ tO (l6 (nd p i).text) ≤ 10000
theorem Ca.of {p:List Ty.Node} (h:∀ x ∈ p,x.name.length + sM x.attrs + 1 ≤ 10000 ∧ x.text.length + 1 ≤ 10000):Ca p:=fun i=>by
  rcases Nat.lt_or_ge i p.length with hi | hi
  · have:=h _ (List.mem_of_getElem? (tC hi))
    simp only [dY,bJ,l6,tO,List.length_nil]
    have e:sM []=0:=rfl
    rw [e]
    omega
  · have e:nd p i=dN:=by simp [nd,List.getD_eq_getElem?_getD,List.getElem?_eq_none hi]
    rw [e];decide
theorem Ph {p:List Ty.Node} (h:Ca p):∀ (f k:Nat),∀ t ∈ gN p f k,tO t ≤ 10000
  | 0,_,t,ht=>by simp [gN] at ht
  | f + 1, k, t, ht => by
    obtain ⟨h1,h2,h3⟩:=h k
    rw [gN] at ht
    split at ht
    · rw [List.mem_singleton] at ht;rw [ht];exact h3
    · split at ht
      · rw [List.mem_singleton] at ht;rw [ht];exact h1
      · rw [List.mem_cons,List.mem_append,List.mem_singleton,List.mem_flatMap] at ht
        rcases ht with rfl | ⟨j,_,hj⟩ | rfl
        · exact h1
        · exact Ph h f _ t hj
        · exact h2
theorem Av {α β γ:Type} {f:α → List β} {g:α → List γ}:∀ {l:List α},(∀ a ∈ l,(f a).length ≤ 2 * (g a).length) → (l.flatMap f).length ≤ 2 * (l.flatMap g).length
  | [],_=>by simp
  | a :: l, h => by
    rw [List.flatMap_cons,List.flatMap_cons,List.length_append,List.length_append]
    have:=h a (by simp)
    have:=Av (f:=f) (g:=g) (l:=l) fun b hb=>h b (by simp [hb])
    omega
theorem Lb (p:List Ty.Node):∀ f k,(gN p f k).length ≤ 2 * (pre p f k).length
  | 0,_=>by simp [gN]
  | f + 1, k => by
    rw [gN,pre]
    have:=Av (f:=fun j:Int=>gN p f j.toNat) (g:=fun j:Int=>pre p f j.toNat) (l:=(nd p k).kids) fun a _=>Lb p f _
    split
    · simp;omega
    · split
      · simp;omega
      · simp only [List.length_cons,List.length_append,List.length_nil];omega
theorem Gs {p:List Ty.Node} (T:iE p):(gG p).length ≤ 2 * p.length:=by
  have h0:0 < p.length:=List.length_pos_iff.2 T.ne
  refine Nat.le_trans (Av (g:=fun j:Int=>pre p 1000 j.toNat) fun a _=>Lb p 1000 _) ?_
  refine Nat.mul_le_mul_left 2 (Dn _ _ (Bl T h0 fun j hj=>CZ T _ j hj) fun x hx=>?_)
  rw [List.mem_flatMap] at hx
  obtain ⟨a,ha,hx⟩:=hx
  obtain ⟨j,rfl,h1,_⟩:=TP.kid T h0 ha
  exact (BG T 1000 _ (by simpa using h1) x hx).1
theorem K9 {p:List Ty.Node} (h:Ca p) {t:Tag} (ht:t ∈ gG p):tO t ≤ 10000:=by
  unfold gG iU at ht
  rw [List.mem_flatMap] at ht
  obtain ⟨j,_,hj⟩:=ht
  exact Ph h _ _ t hj
theorem FC {c:Nat}:∀ {l:List Tag},(∀ t ∈ l,tO t ≤ c) → kr l ≤ l.length * c
  | [],_=>by simp [kr]
  | t :: l, h => by
    rw [jo,List.length_cons,Nat.succ_mul]
    have:=h t (by simp)
    have:=FC (l:=l) fun x hx=>h x (by simp [hx])
    omega
theorem R6 {p:List Ty.Node} (T:iE p) (h:Ca p) (hl:p.length ≤ 400):(p9 (gG p)).length ≤ 400000000:=by
  have h1:=Sv (gG p)
  have h2:=FC (l:=gG p) fun t ht=>K9 h ht
  have h3:=Gs T
  have h4:(gG p).length * 10000 ≤ 800 * 10000:=Nat.mul_le_mul_right _ (by omega)
  omega
noncomputable def iy (p:List Ty.Node):Str:=if mM p=true then p9 (gG p) else []
theorem Cv (g:Nat → Option AX.Obj) (d:Nat):∀ l:List Tag,bg (bM g (d + 1)) (aj l)=some (aj l,[])
  | []=>rfl
  | t :: l => by
    have e:=Cv g d l
    have e1:=Cg g d t.attrs.length (aj t.attrs) (fT _)
    show bg (bM g (d + 1)) (.int .i64 t.kind :: .str t.name :: .ps t.attrs.length (aj t.attrs) :: .str t.text :: aj l)=_
    simp only [bg,e,e1]
    rfl
theorem Na (p:List Ty.Node) (hp:yI p) (hw:Ca p) (hl:p.length ≤ 1000):bB Tryz.prog 11 [Enc.av p] (.str (iy p)):=by
  refine bf mix c11 (by kernel_rfl) (by kernel_rfl) (by simp [aI,au,Go.AX.flat]) (by first | exact au _ | simp [flat,aI,au]) ?_
  simp -implicitDefEqProofs only [F11,go_sem,seval]
  refine ak (W10K.XK p hp) ?_
  unfold iy
  cases ht:mM p with
  | false =>
    simp -implicitDefEqProofs only [go_sem,seval]
  | true =>
    have T:=rU.1 ht
    have h0:0 < p.length:=List.length_pos_iff.2 T.ne
    obtain ⟨x,hx,_,_⟩:=aW h0
    have hnd:=fM hx
    have hxm:=List.mem_of_getElem? hx
    have htl:=Gs T
    obtain ⟨v',s',hcall,hok,hw',_,_⟩:=V6 (TP.ok T (by omega)) 1000 x.kids (by have:=hp.kids x hxm;omega) (fun a ha=>by
      rw [← hnd] at ha
      obtain ⟨k,e,h1,_⟩:=TP.kid T h0 ha
      exact ⟨k,e,h1,by omega⟩) ⟨[],0⟩ .nils [] (fun id _=>rfl) (.inl ⟨rfl,rfl⟩) (by
        have e:iU p 1000 x.kids=gG p:=by rw [gG,hnd]
        rw [e,List.length_nil];omega)
    rw [show iU p 1000 x.kids=gG p by rw [gG,hnd],List.nil_append] at hok
    simp -implicitDefEqProofs only [hx,Node.bY,Node.elem,go_sem,seval]
    obtain ⟨h',m'⟩:=s'
    refine eH hcall ?_
    have hT:=X5 (gG p) (by omega) fun t ht=>YZ (K9 hw ht)
    rcases hok with ⟨rfl,he⟩ | ⟨d,e,rfl,hd⟩
    · rw [he] at hT ⊢
      simp -implicitDefEqProofs only [go_sem,seval]
      refine D9 hT ?_
      simp -implicitDefEqProofs only [go_sem,seval]
      refine aA rfl ?_
      simp -implicitDefEqProofs only [go_sem,seval]
    · have hd':AX.look d h'=_:=hd
      have hle:((gG p).length * 4 ≤ (aj (gG p)).length)=True:=eq_true (by rw [Tag.jm];exact Nat.le_refl _)
      simp -implicitDefEqProofs only [hd',hle,go_sem,seval]
      refine D9 hT ?_
      have hv:=Cv (St.get ⟨h',m'⟩) 5 (gG p)
      have hv2:=Bg (d:=6) (n:=(gG p).length) (z:=4) hd (by rw [Tag.jm]) hv
      have hv3:bg (bM (St.get ⟨h',m'⟩) 7) [.sl d e 0 (gG p).length 4]=some ([Enc.av (gG p)],[(d,.cells e (aj (gG p)) true)]):=by
        show (match bM (St.get ⟨h',m'⟩) 7 (.sl d e 0 (gG p).length 4),bg (bM (St.get ⟨h',m'⟩) 7) [] with | some (y,p),some (ys,q)=>some (y :: ys,p ++ q) | _,_=>none)=_
        rw [hv2];rfl
      rw [hv3,yM]
      refine aA rfl ?_
      simp -implicitDefEqProofs only [go_sem,seval]
end W10
/- What was parsed; May. -/
namespace W10
open Go Go.AX Go.AX.Ty Go.Proofs
open W10K (iE yI mM jK iZ rU)
theorem Ry {st:PS} {t:Tag} {e:Int} (h:eO st t=.error e):e=100 ∨ e=101:=by
  have hadd:∀ x,xV st x=.error e → e=100 ∨ e=101:=fun x hx=>by
    unfold xV at hx
    split at hx
    · exact .inl (Except.error.inj hx).symm
    · simp at hx
  unfold eO at h
  split at h
  · unfold jP at h
    split at h
    · exact .inr (Except.error.inj h).symm
    · split at h
      · exact .inl (Except.error.inj h).symm
      · simp at h
  · split at h
    · simp at h
    · split at h
      · unfold jv at h
        split at h
        · simp at h
        · exact hadd _ h
      · simp at h
theorem Kz:∀ {l:List Tag} {st:PS} {e:Int},fE l st=.error e → e=100 ∨ e=101
  | [],st,e,h=>by simp [fE] at h
  | t :: l, st, e, h => by
    rw [fE] at h
    split at h
    · exact Kz h
    · rename_i e' h1
      rw [← Except.error.inj h]
      exact Ry h1
structure UL (p:List Ty.Node):Prop where
  ok:yI p
  wt:Ca p
  few:∀ x ∈ p,x.attrs.length ≤ 100000 ∧ x.kids.length ≤ 100000
  len:p.length ≤ 400
theorem PI.few {p:List Ty.Node} (I:PI p) (h:∀ z ∈ p,nW z ≤ 8000):UL p:=by
  have hl:=I.le
  refine ⟨⟨⟨by show p.length ≤ _;omega,fun x hx=>?_⟩,by omega,fun x hx=>by have:=I.L8 hx;omega,fun x hx a ha=>?_⟩,Ca.of fun x hx=>?_,fun x hx=>?_,hl⟩
  · have h1:=h x hx
    have h2:=I.L8 hx
    have h3:=yu x.attrs
    unfold nW at h1
    obtain ⟨n,hn⟩:=List.mem_iff_getElem?.1 hx
    have hnl:=fC hn
    have hup:-1 ≤ x.up ∧ x.up < 400:=by
      rw [← fM hn]
      rcases Nat.lt_or_ge n 1 with h0 | h0
      · have e:n=0:=by omega
        subst e
        rw [I.root.2.2.2];decide
      · have:=I.up n h0 hnl;omega
    refine (Node.oN x).2 ⟨by show x.name.length ≤ _;omega,⟨by show x.attrs.length ≤ _;omega,fun a ha=>?_⟩,by show x.text.length ≤ _;omega,⟨by show _ ≤ x.up;omega,by show x.up ≤ _;omega⟩,⟨by show x.kids.length ≤ _;omega,fun a ha=>?_⟩⟩
    · have:=EC ha
      unfold NC at this
      exact (Attr.oN a).2 ⟨by show a.name.length ≤ _;omega,by show a.value.length ≤ _;omega⟩
    · rw [← fM hn] at ha
      obtain ⟨k,rfl,g1,_⟩:=I.kid hnl ha
      exact ⟨by show _ ≤ (k:Int);omega,by show (k:Int) ≤ _;omega⟩
  · have h1:=h x hx
    have:=EC ha
    unfold nW at h1
    unfold NC at this
    omega
  · have h1:=h x hx
    unfold nW at h1
    omega
  · have h1:=h x hx
    have h2:=I.L8 hx
    have h3:=yu x.attrs
    unfold nW at h1
    omega
theorem kX {s:Str} (hs:s.length ≤ 4000):(∃ e,dH s=([],e) ∧ (e=100 ∨ e=101)) ∨ ∃ p,dH s=(p,0) ∧ PI p ∧ UL p ∧ p ≠ []:=by
  unfold dH
  cases hr:fE (dB s) tV with
  | error e=>exact .inl ⟨e,rfl,Kz hr⟩
  | ok st =>
    have S:=Fu hr
    refine .inr ⟨st.pg,rfl,S.pi,S.pi.few fun z hz=>by have:=RL hr z hz;omega,fun e=>by have:=S.pi.pos;rw [e] at this;simp at this⟩
noncomputable def BR (p:List Ty.Node):Bool:=decide ((dH (iy p)).2=0) && decide (p=(dH (iy p)).1)
theorem UL.SH {p:List Ty.Node} (h:UL p):(iy p).length ≤ 400000000:=by
  unfold iy
  split
  · rename_i ht;exact R6 (rU.1 ht) h.wt h.len
  · simp
theorem o9 {p:List Ty.Node} (h:UL p):bB Tryz.prog 11 [Enc.av p] (.str (iy p)):=Na p h.ok h.wt (by have:=h.len;omega)
theorem zB {p:List Ty.Node} (h:UL p):bB Tryz.prog 13 [Enc.av p] (.bool (BR p)):=by
  refine bf mix c13 (by kernel_rfl) (by kernel_rfl) (by simp [aI,au,Go.AX.flat]) (by first | exact au _ | simp [flat,aI,au]) ?_
  simp -implicitDefEqProofs only [F13,go_sem,seval]
  refine ak (o9 h) ?_
  simp -implicitDefEqProofs only [go_sem,seval]
  refine ak (iP _ h.SH) ?_
  unfold BR
  generalize dH (iy p)=X
  obtain ⟨q,e⟩:=X
  by_cases he:e=0
  · subst he
    simp -implicitDefEqProofs only [go_sem,seval]
    refine ak (qO p q h.few (by have:=h.len;omega)) ?_
    simp -implicitDefEqProofs only [go_sem,seval]
  · simp -implicitDefEqProofs only [eq_false he,go_sem,seval]
    simp
theorem PI.Wj {p:List Ty.Node} (I:PI p):iy p=p9 (gG p):=by unfold iy;rw [jK I.tree];rfl
theorem Dk:iy []=[]:=by unfold iy;rw [iZ fun t=>t.ne rfl];rfl
theorem yR {s:Str} {p:List Ty.Node} (h:dH s=(p,0)) (hp:p ≠ []):BR p=true ∧ dH (iy p)=(p,0):=by
  obtain ⟨I,hb⟩:=Jr h hp
  rw [← I.Wj] at hb
  refine ⟨?_,hb⟩
  unfold BR
  rw [hb];simp
theorem KG {p:List Ty.Node} (h:BR p=true):dH (iy p)=(p,0):=by
  unfold BR at h
  rw [Bool.and_eq_true,decide_eq_true_eq,decide_eq_true_eq] at h
  exact Prod.ext h.2.symm h.1
end W10
