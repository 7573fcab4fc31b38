/- An evaluator of closed calls, and that what it gives is so. -/
import Derived.Test.YtdeclhljkmlpiaaGreatAxC
set_option linter.unusedSimpArgs false
set_option linter.unusedVariables false
namespace Go.AX
open Go
mutual
def same:AV → AV → Bool
  | .bool a,.bool b=>a == b
  | .int k m,.int j n=>decide (k=j) && m == n
  | .str a,.str b=>a == b
  | .agg a,.agg b=>qX a b
  | .tup a,.tup b=>qX a b
  | .nilp,.nilp=>true
  | .ptr a b c,.ptr x y z=>a == x && b == y && c == z
  | .vp a,.vp b=>qX a b
  | .nils,.nils=>true
  | .sl a b c d e,.sl v w x y z=>a == v && b == w && c == x && d == y && e == z
  | .ps n a,.ps m b=>n == m && qX a b
  | .nilf,.nilf=>true
  | .fn f a b,.fn g c d=>decide (f=g) && qX a c && qX b d
  | .nili,.nili=>true
  | .ifc t a,.ifc u b=>t == u && same a b
  | .nilm,.nilm=>true
  | .map a,.map b=>a == b
  | .any,.any=>true
  | _,_=>false
def qX:List AV → List AV → Bool
  | [],[]=>true
  | a :: r,b :: s=>same a b && qX r s
  | _,_=>false
end
mutual
theorem same_eq:∀ (a b:AV),same a b=true → a=b
  | .bool a,b,h=>by cases b <;> simp [same] at h;simp [h]
  | .int k m,b,h=>by cases b <;> simp [same] at h;simp [h]
  | .str a,b,h=>by cases b <;> simp [same] at h;simp [h]
  | .agg a, b, h => by
    cases b <;> simp [same] at h
    rw [lM _ _ h]
  | .tup a, b, h => by
    cases b <;> simp [same] at h
    rw [lM _ _ h]
  | .nilp,b,h=>by cases b <;> simp [same] at h;rfl
  | .ptr _ _ _,b,h=>by cases b <;> simp [same] at h;simp [h]
  | .vp a, b, h => by
    cases b <;> simp [same] at h
    rw [lM _ _ h]
  | .nils,b,h=>by cases b <;> simp [same] at h;rfl
  | .sl _ _ _ _ _,b,h=>by cases b <;> simp [same] at h;simp [h]
  | .ps n a, b, h => by
    cases b <;> simp [same] at h
    rw [h.1,lM _ _ h.2]
  | .nilf,b,h=>by cases b <;> simp [same] at h;rfl
  | .fn f x y, b, h => by
    cases b <;> simp [same] at h
    rw [h.1.1,lM _ _ h.1.2,lM _ _ h.2]
  | .nili,b,h=>by cases b <;> simp [same] at h;rfl
  | .ifc t a, b, h => by
    cases b <;> simp [same] at h
    rw [h.1,same_eq _ _ h.2]
  | .nilm,b,h=>by cases b <;> simp [same] at h;rfl
  | .map _,b,h=>by cases b <;> simp [same] at h;simp [h]
  | .any,b,h=>by cases b <;> simp [same] at h;rfl
theorem lM:∀ (a b:List AV),qX a b=true → a=b
  | [],b,h=>by cases b <;> simp [qX] at h;rfl
  | x :: r, b, h => by
    cases b <;> simp [qX] at h
    rw [same_eq _ _ h.1,lM _ _ h.2]
end
def Df:Option Obj → Option Obj → Bool
  | none,none=>true
  | some (.cells v cs sn),some (.cells v' cs' sn')=>v == v' && qX cs cs' && sn == sn'
  | _,_=>false
theorem OL {a b:Option Obj} (h:Df a b=true):a=b:=by
  unfold Df at h
  split at h
  · rfl
  · simp at h
    obtain ⟨⟨rfl,h2⟩,rfl⟩:=h
    rw [lM _ _ h2]
  · simp at h
inductive Ex where
  | nrm
  | ext (id:Nat)
  | ret
def Ex.to:Ex → Exit
  | .nrm=>.normal
  | .ext id=>.exit id
  | .ret=>.ret
inductive Task where
  | code (c:bL)
  | ops (l:List aJ)
  | draw (l:List aJ)
  | call (f:Nat) (args:List AV)
structure oC where
  af:bI
  see:Bool
  forget:Bool
mutual
def QI:AV → List Nat
  | .ptr b _ _=>[b]
  | .sl b _ _ _ _=>[b]
  | .agg xs=>d9 xs
  | .tup xs=>d9 xs
  | .ps _ xs=>d9 xs
  | .vp xs=>d9 xs
  | .fn _ xs ys=>d9 xs ++ d9 ys
  | .ifc _ x=>QI x
  | .map r=>[r]
  | _=>[]
def d9:List AV → List Nat
  | []=>[]
  | x :: r=>QI x ++ d9 r
end
def reach (s:St):Nat → List Nat → List Nat → List Nat
  | 0,acc,_=>acc
  | _ + 1,acc,[]=>acc
  | n + 1, acc, b :: r => if acc.contains b then reach s n acc r else
    match s.get b with
    | some (.cells _ cs _)=>reach s n (b :: acc) (d9 cs ++ r)
    | some (.map es)=>reach s n (b :: acc) (d9 (es.map (·.2)) ++ r)
    | _=>reach s n (b :: acc) r
def aY (a b:Entry):Bool:=
  b.D.all (fun id=>!(a.W.contains id || (decide (a.n ≤ id) && decide (id < a.n')))) && a.D.all (fun id=>!(b.W.contains id || (decide (b.n ≤ id) && decide (id < b.n'))))
def aX (m:Nat) (e:Entry):Nat → List Entry → Bool
  | _,[]=>true
  | i,x :: r=>(m.testBit i || aY x e) && aX m e (i + 1) r
def aM (M:List Nat) (all:List Entry):Nat → List Entry → Bool
  | _,[]=>true
  | j,e :: r=>aX (M.getD j 0) e 0 (all.take j) && aM M all (j + 1) r
abbrev Out:=Option (Ex × List AV × St × List Entry)
def ev (T:Nat → Option oC):Nat → Task → List AV → St → Out
  | 0,_,_,_=>none
  | n + 1, .code c, F, s =>
    match c with
    | .skip=>some (.nrm,F,s,[])
    | .region l=>ev T n (.ops l) F s
    | .draw m l =>
      match ev T n (.draw l) F s with
      | some (_,F',s',es)=>if aM m es 0 es then some (.nrm,F',s',[]) else none
      | none=>none
    | .seq a b =>
      match ev T n (.code a) F s with
      | some (.nrm,F1,s1,_)=>ev T n (.code b) F1 s1
      | r=>r
    | .cond c a b =>
      match c.ev F with
      | .bool t=>ev T n (.code (if t then a else b)) F s
      | _=>none
    | .block id a =>
      match ev T n (.code a) F s with
      | some (.ext i,F1,s1,_)=>if i=id then some (.nrm,F1,s1,[]) else some (.ext i,F1,s1,[])
      | r=>r
    | .loop a =>
      match ev T n (.code a) F s with
      | some (.nrm,F1,s1,_)=>ev T n (.code (.loop a)) F1 s1
      | r=>r
    | .exit id=>some (.ext id,F,s,[])
    | .ret=>some (.ret,F,s,[])
    | .drawT m l r =>
      match ev T n (.draw l) F s with
      | some (_,F',s',es)=>if aM m es 0 es=true then ev T n (.ops r) F' s' else none
      | none=>none
    | .rangeF _ _ _ _=>none
  | _ + 1,.ops [],F,s=>some (.nrm,F,s,[])
  | n + 1, .ops (o :: r), F, s =>
    match gd F o.guard with
    | none=>none
    | some false=>ev T n (.ops r) (fQ F o.dst (.tup [])) s
    | some true =>
      if dW o.op then
        match dP F o.op with
        | some (f, args) =>
          match ev T n (.call f args) [] s with
          | some (_,[v],s',_)=>ev T n (.ops r) (fQ F o.dst v) s'
          | _=>none
        | none=>none
      else
        match bn o.op F s.get s.next with
        | some (v,ps,qs)=>ev T n (.ops r) (fQ F o.dst v) (s.apply ps qs)
        | none=>none
  | _ + 1,.draw [],F,s=>some (.nrm,F,s,[])
  | n + 1, .draw (o :: r), F, s =>
    match gd F o.guard with
    | none=>none
    | some false =>
      match ev T n (.draw r) (fQ F o.dst (.tup [])) s with
      | some (_,F',s',es)=>some (.nrm,F',s',⟨[],[],s.next,s.next⟩ :: es)
      | none=>none
    | some true =>
      if dW o.op then
        match dP F o.op with
        | some (f, args) =>
          match ev T n (.call f args) [] (s.keep (reach s 1000 [] (d9 args))) with
          | some (_, [v], t, _) =>
            if (reach s 1000 [] (d9 args)).all (fun id=>decide (id < s.next)) && decide (s.next ≤ t.next) then
              match ev T n (.draw r) (fQ F o.dst v) (s.merge (reach s 1000 [] (d9 args)) t) with
              | some (_,F',s',es)=>some (.nrm,F',s',⟨reach s 1000 [] (d9 args),(reach s 1000 [] (d9 args)).filter (fun id=>!Df (t.get id) (s.get id)),s.next,t.next⟩ :: es)
              | none=>none
            else none
          | _=>none
        | none=>none
      else
        match bn o.op F s.get s.next with
        | some (v, ps, qs) =>
          if (jX o.op F).all (fun id=>decide (id < s.next)) then
            match ev T n (.draw r) (fQ F o.dst v) (s.apply ps qs) with
            | some (_,F',s',es)=>some (.nrm,F',s',⟨jX o.op F,ps.map (·.1),s.next,(s.apply ps qs).next⟩ :: es)
            | none=>none
          else none
        | none=>none
  | n + 1, .call f args, _, s =>
    match T f with
    | none=>none
    | some tf =>
      match (if tf.see then views s.get args else some (args,[])) with
      | none=>none
      | some (xs, ps) =>
        match ev T n (.code tf.af.body) (iN xs tf.af.ntmps) (s.puts ps) with
        | some (.ext _,_,_,_)=>none
        | some (_, F', s', _) =>
          match lZ tf.af.results F' s'.get with
          | some v =>
            if tf.forget then
              match view s'.get v with
              | some (v',qs)=>some (.ret,[v'],(s'.puts qs).old s.next,[])
              | none=>none
            else some (.ret,[v],s',[])
          | none=>none
        | none=>none
end Go.AX
/- The evaluator is right. -/
namespace Go.AX
open Go
def Pw (e:Ex) (F':List AV) (s':St):Exit → List AV → St → Prop:=fun e2 F2 s2=>e2=e.to ∧ F2=F' ∧ s2=s'
theorem xF {m:Nat} {e:Entry}:∀ {l:List Entry} {i:Nat},aX m e i l=true → ∀ (k:Nat) (x:Entry),l[k]? = some x → m.testBit (i + k)=true ∨ aY x e=true
  | [],i,h,k,x,hx=>by simp at hx
  | y :: r, i, h, k, x, hx => by
    simp only [aX,Bool.and_eq_true,Bool.or_eq_true] at h
    cases k with
    | zero=>simp at hx;subst hx;exact h.1
    | succ k =>
      have:=xF h.2 k x (by simpa using hx)
      simpa [Nat.add_assoc,Nat.add_comm 1 k] using this
theorem wY {M:List Nat} {all:List Entry}:∀ {l:List Entry} {j:Nat},aM M all j l=true → ∀ (k:Nat) (e:Entry),l[k]? = some e → ∀ (i:Nat) (x:Entry),i < j + k → all[i]? = some x → Bit M (j + k) i ∨ aY x e=true
  | [],j,h,k,e,he=>by simp at he
  | y :: r, j, h, k, e, he => by
    simp only [aM,Bool.and_eq_true] at h
    cases k with
    | zero =>
      simp at he;subst he
      intro i x hi hx
      have:=xF h.1 i x (by rw [List.getElem?_take_of_lt (by simpa using hi)];exact hx)
      simpa [Bit] using this
    | succ k =>
      have:=wY h.2 k e (by simpa using he)
      simpa [Nat.add_assoc,Nat.add_comm 1 k] using this
theorem oZ {M:List Nat} {es:List Entry} (h:aM M es 0 es=true):Iw M (fun i=>es.getD i default) es.length:=by
  intro i j hij hj hb
  have hi:i < es.length:=by omega
  have:=wY h j es[j] (by simp [hj]) i es[i] (by omega) (by simp [hi])
  simp only [Nat.zero_add] at this
  have ha:=this.resolve_left hb
  simp only [aY,Bool.and_eq_true,List.all_eq_true,Bool.not_eq_true',Bool.or_eq_false_iff,Bool.and_eq_false_iff,decide_eq_false_iff_not] at ha
  obtain ⟨h1,h2⟩:=ha
  simp only [List.getD_eq_getElem?_getD,List.getElem?_eq_getElem hi,List.getElem?_eq_getElem hj,Option.getD_some]
  refine ⟨fun id hw hd=>?_,fun id hw hd=>?_⟩
  · have:=h1 id hd
    rcases hw with hw | hw
    · have h3:=this.1;simp [hw] at h3
    · rcases this.2 with h3 | h3 <;> omega
  · have:=h2 id hd
    rcases hw with hw | hw
    · have h3:=this.1;simp [hw] at h3
    · rcases this.2 with h3 | h3 <;> omega
def Aj (P:Program):List aJ → List AV → St → List AV → St → List Entry → Prop
  | [],F,s,F',s',es=>F'=F ∧ s'=s ∧ es=[]
  | o :: r,F,s,F',s',es=>∃ F1 s1 e es',es=e :: es' ∧ uP P o F s e F1 s1 ∧ Aj P r F1 s1 F' s' es'
theorem Aj.SX {P:Program}:∀ {l:List aJ} {F:List AV} {s:St} {F':List AV} {s':St} {es:List Entry},Aj P l F s F' s' es →
    es.length=l.length ∧ ∃ (Fs:Nat → List AV) (ss:Nat → St),Fs 0=F ∧ ss 0=s ∧ Fs l.length=F' ∧ ss l.length=s' ∧ Uq P l Fs ss (fun i=>es.getD i default)
  | [], F, s, F', s', es, h => by
    obtain ⟨rfl,rfl,rfl⟩:=h
    exact ⟨rfl,fun _=>F',fun _=>s',rfl,rfl,rfl,rfl,⟨fun i o ho=>by simp at ho⟩⟩
  | o :: r, F, s, F', s', es, h => by
    obtain ⟨F1,s1,e,es',rfl,h1,h2⟩:=h
    obtain ⟨hl,Fs,ss,a,b,c,d,hr⟩:=Aj.SX h2
    refine ⟨by simp [hl],fun i=>match i with | 0=>F | i + 1=>Fs i,fun i=>match i with | 0=>s | i + 1=>ss i,rfl,rfl,by simpa using c,by simpa using d,⟨fun i x hx=>?_⟩⟩
    cases i with
    | zero=>simp at hx;subst hx;simp only [a,b];simpa using h1
    | succ i =>
      have:=hr.step i x (by simpa using hx)
      simpa using this
theorem C8 {P:Program} (hmix:P.follows .mixedOrders=true) {M:List Nat} {al ar:List aJ} {Q:Exit → List AV → St → Prop} {F F':List AV} {s s':St} {es:List Entry}
    (h:Aj P al F s F' s' es) (hind:aM M es 0 es=true) (hq:gH P (Q .normal) ar F' s'):q8 P (.drawT M al ar) Q F s:=by
  obtain ⟨hl,Fs,ss,a,b,c,d,hr⟩:=h.SX
  refine Ma hmix a b hr ?_ (by rw [c,d];exact hq)
  rw [← hl]
  exact oZ hind
theorem Fw {P:Program} (hmix:P.follows .mixedOrders=true) {M:List Nat} {al:List aJ} {Q:Exit → List AV → St → Prop} {F F':List AV} {s s':St} {es:List Entry}
    (h:Aj P al F s F' s' es) (hind:aM M es 0 es=true) (hq:Q .normal F' s'):q8 P (.draw M al) Q F s:=by
  obtain ⟨hl,Fs,ss,a,b,c,d,hr⟩:=h.SX
  refine Ob hmix a b hr ?_ (by rw [c,d];exact hq)
  rw [← hl]
  exact oZ hind
theorem FV {P:Program} {o:aJ} {F:List AV} {s:St} {v:AV} {ps:List (Nat × Obj)} {qs:List Obj} (hg:gd F o.guard=some true) (hc:dW o.op=false) (hv:bn o.op F s.get s.next=some (v,ps,qs)) (hD:∀ id ∈ jX o.op F,id < s.next) :
    uP P o F s ⟨jX o.op F,ps.map (·.1),s.next,(s.apply ps qs).next⟩ (fQ F o.dst v) (s.apply ps qs):=by
  have hids:=Tn hv
  obtain ⟨h1,h2,h3,h4⟩:=zT s (jX o.op F) ps qs (fun p hp=>by simpa using hids p hp)
  refine ⟨rfl,rfl,h2,hD,fun id hid=>?_,.inr ⟨hg,v,(s.keep (jX o.op F)).apply ps qs,rfl,?_,h1.symm,h3,fun id hid hne=>?_⟩⟩
  · obtain ⟨p,hp,rfl⟩:=List.mem_map.1 hid
    exact hids p hp
  · unfold OO
    rw [hc]
    refine ⟨ps,qs,?_,rfl⟩
    rw [← hv]
    exact ME _ fun id hid=>by rw [St.nu,if_pos (by simpa using hid)]
  · exact h4 id (by simpa using hid) (hD id hid) fun p hp he=>hne (List.mem_map.2 ⟨p,hp,he⟩)
theorem Je {P:Program} {o:aJ} {F:List AV} {s:St} {v:AV} {f:Nat} {args:List AV} {D:List Nat} {t:St} (W:List Nat) (hg:gd F o.guard=some true) (hc:dW o.op=true) (hco:dP F o.op=some (f,args))
    (hcall:aF P f args (s.keep D) fun v2 s2=>v2=v ∧ s2=t) (hD:∀ id ∈ D,id < s.next) (hn:s.next ≤ t.next) (hW:∀ id ∈ W,id ∈ D) (hk:∀ id ∈ D,id ∉ W → t.get id=s.get id) :
    uP P o F s ⟨D,W,s.next,t.next⟩ (fQ F o.dst v) (s.merge D t):=by
  refine ⟨rfl,rfl,hn,hD,hW,.inr ⟨hg,v,t,rfl,?_,rfl,fun id=>?_,hk⟩⟩
  · unfold OO
    rw [hc]
    exact ⟨f,args,hco,hcall⟩
  · exact St.get_merge s D t id
theorem IY {T:Nat → Option oC}:∀ (n:Nat) (l:List aJ) F s e F' s' es,ev T n (.ops l) F s=some (e,F',s',es) → e=.nrm:=by
  intro n
  induction n with
  | zero=>intro l F s e F' s' es h;simp [ev] at h
  | succ n ih2 =>
    intro l F s e F' s' es h
    cases l with
    | nil=>simp [ev] at h;exact h.1.symm
    | cons o r =>
      simp only [ev] at h
      split at h
      · simp at h
      · exact ih2 _ _ _ _ _ _ _ h
      · split at h
        · split at h
          · split at h
            · exact ih2 _ _ _ _ _ _ _ h
            · simp at h
          · simp at h
        · split at h
          · exact ih2 _ _ _ _ _ _ _ h
          · simp at h
theorem J7 {P:Program}:∀ (l:List aJ) (F:List AV) (s:St) (Q Q':List AV → St → Prop),(∀ F s,Q F s → Q' F s) → gH P Q l F s → gH P Q' l F s:=by
  intro l
  induction l with
  | nil=>intro F s Q Q' hq h;exact hq _ _ h
  | cons o r ih3 =>
    intro F s Q Q' hq h
    simp only [gH] at h ⊢
    split at h
    · exact h.elim
    · rename_i hg;(try simp only [hg]);exact ih3 _ _ _ _ hq h
    · rename_i hg
      (try simp only [hg])
      by_cases hc:dW o.op=true
      · rw [if_pos hc] at h ⊢
        cases hco:dP F o.op with
        | none =>
          rw [hco] at h
          simp only at h ⊢
          split at h
          · exact pI.mono h fun v s2 h2=>ih3 _ _ _ _ hq h2
          · exact h.elim
        | some p =>
          obtain ⟨f,args⟩:=p
          rw [hco] at h
          exact aF.mono h fun v s2 h2=>ih3 _ _ _ _ hq h2
      · rw [if_neg hc] at h ⊢
        cases hv:bn o.op F s.get s.next with
        | none=>rw [hv] at h;exact ⟨h.1,fun b=>ih3 _ _ _ _ hq (h.2 b)⟩
        | some p =>
          obtain ⟨v,ps,qs⟩:=p
          rw [hv] at h
          exact ih3 _ _ _ _ hq h
theorem Pq {P:Program} (hmix:P.follows .mixedOrders=true) {T:Nat → Option oC} (hT:∀ f tf,T f=some tf → bF P f=some tf.af):∀ (n:Nat) (t:Task) (F:List AV) (s:St) (e:Ex) (F':List AV) (s':St) (es:List Entry),
    ev T n t F s=some (e,F',s',es) →
    match t with
    | .code c=>q8 P c (Pw e F' s') F s ∧ (∀ a,c=.loop a → ∃ m,LoopN P a (Pw e F' s') m F s)
    | .ops l=>gH P (fun F2 s2=>F2=F' ∧ s2=s') l F s
    | .draw l=>Aj P l F s F' s' es
    | .call f args=>∃ v,F'=[v] ∧ aF P f args s fun v2 s2=>v2=v ∧ s2=s':=by
  intro n
  induction n with
  | zero=>intro t F s e F' s' es h;simp [ev] at h
  | succ n ih =>
    intro t F s e F' s' es h
    cases t with
    | code c =>
      cases c with
      | skip =>
        simp only [ev,Option.some.injEq,Prod.mk.injEq] at h
        obtain ⟨rfl,rfl,rfl,_⟩:=h
        exact ⟨zC ⟨rfl,rfl,rfl⟩,fun a ha=>by cases ha⟩
      | exit id =>
        simp only [ev,Option.some.injEq,Prod.mk.injEq] at h
        obtain ⟨rfl,rfl,rfl,_⟩:=h
        exact ⟨zQ ⟨rfl,rfl,rfl⟩,fun a ha=>by cases ha⟩
      | ret =>
        simp only [ev,Option.some.injEq,Prod.mk.injEq] at h
        obtain ⟨rfl,rfl,rfl,_⟩:=h
        exact ⟨Fa ⟨rfl,rfl,rfl⟩,fun a ha=>by cases ha⟩
      | drawT m l r =>
        simp only [ev] at h
        split at h
        · rename_i e1 F1 s1 es1 hd
          split at h
          · rename_i hi
            have h1:=ih (.draw l) F s _ F1 s1 es1 hd
            have h2:=ih (.ops r) F1 s1 e F' s' es h
            have he:e=.nrm:=IY n r F1 s1 e F' s' es h
            subst he
            refine ⟨C8 hmix h1 hi (J7 _ _ _ _ _ ?_ h2),fun a ha=>by cases ha⟩
            rintro F s ⟨rfl,rfl⟩;exact ⟨rfl,rfl,rfl⟩
          · simp at h
        · simp at h
      | rangeF f ps a b=>simp [ev] at h
      | region l =>
        simp only [ev] at h
        have:=ih (.ops l) F s e F' s' es h
        have he:e=.nrm:=by
          have:∀ (n:Nat) (l:List aJ) F s e F' s' es,ev T n (.ops l) F s=some (e,F',s',es) → e=.nrm:=by
            intro n
            induction n with
            | zero=>intro l F s e F' s' es h;simp [ev] at h
            | succ n ih2 =>
              intro l F s e F' s' es h
              cases l with
              | nil=>simp [ev] at h;exact h.1.symm
              | cons o r =>
                simp only [ev] at h
                split at h
                · simp at h
                · exact ih2 _ _ _ _ _ _ _ h
                · split at h
                  · split at h
                    · split at h
                      · exact ih2 _ _ _ _ _ _ _ h
                      · simp at h
                    · simp at h
                  · split at h
                    · exact ih2 _ _ _ _ _ _ _ h
                    · simp at h
          exact this n l F s e F' s' es h
        subst he
        refine ⟨yV ?_,fun a ha=>by cases ha⟩
        have conv:∀ (l:List aJ) (F:List AV) (s:St) (Q Q':List AV → St → Prop),(∀ F s,Q F s → Q' F s) → gH P Q l F s → gH P Q' l F s:=by
          intro l
          induction l with
          | nil=>intro F s Q Q' hq h;exact hq _ _ h
          | cons o r ih3 =>
            intro F s Q Q' hq h
            simp only [gH] at h ⊢
            split at h
            · exact h.elim
            · rename_i hg;(try simp only [hg]);exact ih3 _ _ _ _ hq h
            · rename_i hg
              (try simp only [hg])
              by_cases hc:dW o.op=true
              · rw [if_pos hc] at h ⊢
                cases hco:dP F o.op with
                | none =>
                  rw [hco] at h
                  simp only at h ⊢
                  split at h
                  · exact pI.mono h fun v s2 h2=>ih3 _ _ _ _ hq h2
                  · exact h.elim
                | some p =>
                  obtain ⟨f,args⟩:=p
                  rw [hco] at h
                  exact aF.mono h fun v s2 h2=>ih3 _ _ _ _ hq h2
              · rw [if_neg hc] at h ⊢
                cases hv:bn o.op F s.get s.next with
                | none=>rw [hv] at h;exact ⟨h.1,fun b=>ih3 _ _ _ _ hq (h.2 b)⟩
                | some p =>
                  obtain ⟨v,ps,qs⟩:=p
                  rw [hv] at h
                  exact ih3 _ _ _ _ hq h
        exact conv l F s _ _ (fun F2 s2 h2=>⟨rfl,h2⟩) this
      | draw m l =>
        simp only [ev] at h
        split at h
        · rename_i e1 F1 s1 es1 h1
          split at h
          · rename_i hind
            simp only [Option.some.injEq,Prod.mk.injEq] at h
            obtain ⟨rfl,rfl,rfl,_⟩:=h
            exact ⟨Fw hmix (ih (.draw l) F s e1 F1 s1 es1 h1) hind ⟨rfl,rfl,rfl⟩,fun a ha=>by cases ha⟩
          · simp at h
        · simp at h
      | seq a b =>
        simp only [ev] at h
        refine ⟨DW ?_,fun a ha=>by cases ha⟩
        split at h
        · rename_i F1 s1 es1 h1
          refine (ih (.code a) F s _ F1 s1 _ h1).1.mono fun e2 F2 s2 h2=>?_
          obtain ⟨rfl,rfl,rfl⟩:=h2
          exact (ih (.code b) F2 s2 e F' s' es h).1
        · rename_i r hne
          refine (ih (.code a) F s e F' s' es h).1.mono fun e2 F2 s2 h2=>?_
          obtain ⟨rfl,rfl,rfl⟩:=h2
          cases e with
          | nrm=>exact (hne F2 s2 es (by rw [h])).elim
          | ext id=>exact ⟨rfl,rfl,rfl⟩
          | ret=>exact ⟨rfl,rfl,rfl⟩
      | cond cnd a b =>
        simp only [ev] at h
        split at h
        · rename_i t ht
          exact ⟨A9 ht (ih (.code (if t then a else b)) F s e F' s' es h).1,fun a ha=>by cases ha⟩
        · simp at h
      | block id a =>
        simp only [ev] at h
        refine ⟨vH ?_,fun a ha=>by cases ha⟩
        split at h
        · rename_i i F1 s1 es1 h1
          refine (ih (.code a) F s _ F1 s1 _ h1).1.mono fun e2 F2 s2 h2=>?_
          obtain ⟨rfl,rfl,rfl⟩:=h2
          split at h
          · rename_i hi
            simp only [Option.some.injEq,Prod.mk.injEq] at h
            obtain ⟨rfl,rfl,rfl,_⟩:=h
            simp only [Ex.to,wh,hi,if_true]
            exact ⟨rfl,rfl,rfl⟩
          · rename_i hi
            simp only [Option.some.injEq,Prod.mk.injEq] at h
            obtain ⟨rfl,rfl,rfl,_⟩:=h
            simp only [Ex.to,wh,hi,if_false]
            exact ⟨rfl,rfl,rfl⟩
        · rename_i r hne
          refine (ih (.code a) F s e F' s' es h).1.mono fun e2 F2 s2 h2=>?_
          obtain ⟨rfl,rfl,rfl⟩:=h2
          cases e with
          | nrm=>exact ⟨rfl,rfl,rfl⟩
          | ext id=>exact (hne id F2 s2 es (by rw [h])).elim
          | ret=>exact ⟨rfl,rfl,rfl⟩
      | loop a =>
        simp only [ev] at h
        have key:∃ m,LoopN P a (Pw e F' s') m F s:=by
          split at h
          · rename_i F1 s1 es1 h1
            obtain ⟨m,hm⟩:=(ih (.code (.loop a)) F1 s1 e F' s' es h).2 a rfl
            refine ⟨m + 1,(ih (.code a) F s _ F1 s1 _ h1).1.mono fun e2 F2 s2 h2=>?_⟩
            obtain ⟨rfl,rfl,rfl⟩:=h2
            exact hm
          · rename_i r hne
            refine ⟨1,(ih (.code a) F s e F' s' es h).1.mono fun e2 F2 s2 h2=>?_⟩
            obtain ⟨rfl,rfl,rfl⟩:=h2
            cases e with
            | nrm=>exact (hne F2 s2 es (by rw [h])).elim
            | ext id=>exact ⟨rfl,rfl,rfl⟩
            | ret=>exact ⟨rfl,rfl,rfl⟩
        obtain ⟨m,hm⟩:=key
        exact ⟨yS m hm,fun b hb=>by cases hb;exact ⟨m,hm⟩⟩
    | ops l =>
      cases l with
      | nil =>
        simp only [ev,Option.some.injEq,Prod.mk.injEq] at h
        obtain ⟨_,rfl,rfl,_⟩:=h
        exact ⟨rfl,rfl⟩
      | cons o r =>
        simp only [ev] at h
        simp only [gH]
        split at h
        · simp at h
        · rename_i hg;simp only [hg];exact ih (.ops r) _ _ e F' s' es h
        · rename_i hg
          simp only [hg]
          split at h
          · rename_i hc
            simp only [hc,if_true]
            split at h
            · rename_i f args hco
              simp only [hco]
              split at h
              · rename_i e1 v s1 es1 h1
                obtain ⟨v',hv',hcall⟩:=ih (.call f args) [] s e1 [v] s1 es1 h1
                simp at hv';subst hv'
                refine hcall.mono fun v2 s2 h2=>?_
                obtain ⟨rfl,rfl⟩:=h2
                exact ih (.ops r) _ _ e F' s' es h
              · simp at h
            · simp at h
          · rename_i hc
            simp only [hc,Bool.false_eq_true,if_false]
            split at h
            · rename_i v ps qs hv;simp only [hv];exact ih (.ops r) _ _ e F' s' es h
            · simp at h
    | draw l =>
      cases l with
      | nil =>
        simp only [ev,Option.some.injEq,Prod.mk.injEq] at h
        obtain ⟨_,rfl,rfl,rfl⟩:=h
        exact ⟨rfl,rfl,rfl⟩
      | cons o r =>
        simp only [ev] at h
        split at h
        · simp at h
        · rename_i hg
          split at h
          · rename_i e1 F1 s1 es1 h1
            simp only [Option.some.injEq,Prod.mk.injEq] at h
            obtain ⟨rfl,rfl,rfl,rfl⟩:=h
            exact ⟨_,_,_,_,rfl,⟨rfl,rfl,Nat.le_refl _,by simp,by simp,.inl ⟨hg,rfl,rfl,rfl⟩⟩,ih (.draw r) _ _ e1 F1 s1 es1 h1⟩
          · simp at h
        · rename_i hg
          split at h
          · rename_i hc
            split at h
            · rename_i f args hco
              split at h
              · rename_i e1 v t es1 h1
                obtain ⟨v',hv',hcall⟩:=ih (.call f args) [] _ e1 [v] t es1 h1
                simp at hv';subst hv'
                split at h
                · rename_i hb
                  simp only [Bool.and_eq_true,List.all_eq_true,decide_eq_true_eq] at hb
                  split at h
                  · rename_i e2 F2 s2 es2 h2
                    simp only [Option.some.injEq,Prod.mk.injEq] at h
                    obtain ⟨rfl,rfl,rfl,rfl⟩:=h
                    refine ⟨_,_,_,_,rfl,Je _ hg hc hco hcall hb.1 hb.2 (fun id hid=>(List.mem_filter.1 hid).1) (fun id hid hne=>?_),ih (.draw r) _ _ e2 F2 s2 es2 h2⟩
                    have:Df (t.get id) (s.get id)=true:=by
                      cases hs:Df (t.get id) (s.get id) with
                      | true=>rfl
                      | false=>exact (hne (List.mem_filter.2 ⟨hid,by simp [hs]⟩)).elim
                    exact OL this
                  · simp at h
                · simp at h
              · simp at h
            · simp at h
          · rename_i hc
            split at h
            · rename_i v ps qs hv
              split at h
              · rename_i hb
                simp only [List.all_eq_true,decide_eq_true_eq] at hb
                split at h
                · rename_i e2 F2 s2 es2 h2
                  simp only [Option.some.injEq,Prod.mk.injEq] at h
                  obtain ⟨rfl,rfl,rfl,rfl⟩:=h
                  exact ⟨_,_,_,_,rfl,FV hg (by simpa using hc) hv hb,ih (.draw r) _ _ e2 F2 s2 es2 h2⟩
                · simp at h
              · simp at h
            · simp at h
    | call f args =>
      simp only [ev] at h
      split at h
      · simp at h
      · rename_i tf htf
        split at h
        · simp at h
        · rename_i xs ps hxs
          have body:∀ (R:AV → St → Prop),aF P f xs (s.puts ps) R → aF P f args s R:=fun R hR=>by
            split at hxs
            · exact aF.views hxs hR
            · simp at hxs;obtain ⟨rfl,rfl⟩:=hxs;exact hR
          split at h
          · simp at h
          · rename_i e1 F1 s1 es1 hne h1
            have hb:=(ih (.code tf.af.body) (iN xs tf.af.ntmps) (s.puts ps) e1 F1 s1 es1 h1).1
            have he:e1.to=.normal ∨ e1.to=.ret:=by
              cases e1 with
              | nrm=>exact .inl rfl
              | ext id=>exact (hne id rfl).elim
              | ret=>exact .inr rfl
            split at h
            · rename_i v hv
              have hcall:∀ R:AV → St → Prop,R v s1 → aF P f args s R:=fun R hR=>body R (xK (hT f tf htf) (hb.mono fun e2 F2 s2 h2=>by
                obtain ⟨rfl,rfl,rfl⟩:=h2
                exact ⟨he,v,hv,hR⟩))
              split at h
              · split at h
                · rename_i v' qs hvw
                  simp only [Option.some.injEq,Prod.mk.injEq] at h
                  obtain ⟨_,rfl,rfl,_⟩:=h
                  exact ⟨v',rfl,aF.upd (hcall _ ⟨v',_,(BS.view hvw).trans (BS.old v' _ s.next),rfl,rfl⟩)⟩
                · simp at h
              · simp only [Option.some.injEq,Prod.mk.injEq] at h
                obtain ⟨_,rfl,rfl,_⟩:=h
                exact ⟨v,rfl,hcall _ ⟨rfl,rfl⟩⟩
            · simp at h
          · simp at h
theorem Tp {P:Program} (hmix:P.follows .mixedOrders=true) {T:Nat → Option oC} (hT:∀ f tf,T f=some tf → bF P f=some tf.af) {n f:Nat} {args:List AV} {s s':St} {e:Ex} {v:AV} {es:List Entry}
    (h:ev T n (.call f args) [] s=some (e,[v],s',es)):aF P f args s fun v2 s2=>v2=v ∧ s2=s':=by
  obtain ⟨v',hv',hc⟩:=Pq hmix hT n (.call f args) [] s e [v] s' es h
  simp at hv';subst hv'
  exact hc
end Go.AX
/- A table of functions, as a list. -/
namespace Go.AX
open Go
def CP (P:Program):Nat → List (Option oC) → Prop
  | _,[]=>True
  | i,none :: r=>CP P (i + 1) r
  | i,some tf :: r=>bF P i=some tf.af ∧ CP P (i + 1) r
theorem wB {P:Program}:∀ {l:List (Option oC)} {i:Nat},CP P i l → ∀ (k:Nat) (tf:oC),l[k]? = some (some tf) → bF P (i + k)=some tf.af
  | [],i,h,k,tf,hk=>by simp at hk
  | none :: r, i, h, k, tf, hk => by
    cases k with
    | zero=>simp at hk
    | succ k =>
      have:=wB (show CP P (i + 1) r from h) k tf (by simpa using hk)
      rwa [show i + 1 + k=i + (k + 1) by omega] at this
  | some t :: r, i, h, k, tf, hk => by
    cases k with
    | zero=>simp at hk;subst hk;exact h.1
    | succ k =>
      have:=wB h.2 k tf (by simpa using hk)
      rwa [show i + 1 + k=i + (k + 1) by omega] at this
theorem JX {P:Program} {l:List (Option oC)} (h:CP P 0 l):∀ f tf,l.getD f none=some tf → bF P f=some tf.af:=fun f tf hf=>by
  have:l[f]? = some (some tf):=by
    simp only [List.getD_eq_getElem?_getD] at hf
    cases hl:l[f]? with
    | none=>rw [hl] at hf;simp at hf
    | some x=>rw [hl] at hf;simp at hf;rw [hf]
  have h2:=wB h f tf this
  rwa [Nat.zero_add] at h2
end Go.AX
/- The evaluator once more, made for the kernel: frames as trees, arithmetic by cases. -/
namespace Go.AX
open Go
theorem JV {a b:Nat} (h:a=b):Nat.beq a b=true:=by subst h;exact Nat.beq_refl a
theorem Er {a b:Nat} (h:a ≠ b):Nat.beq a b=false:=by
  cases hb:Nat.beq a b with
  | false=>rfl
  | true=>exact (h (Nat.eq_of_beq_eq_true hb)).elim
theorem Br {a b:Nat}:Nat.beq a b=true ↔ a=b:=⟨Nat.eq_of_beq_eq_true,JV⟩
inductive Tr (α:Type) where
  | e
  | n (v:α) (l r:Tr α)
namespace Tr
variable {α:Type}
noncomputable def get (d:α) (t:Tr α):Nat → α:=
  Tr.rec (motive:=fun _=>Nat → α) (fun _=>d) (fun v _ _ gl gr i=>cond (Nat.beq i 0) v (cond (Nat.beq (Nat.mod i 2) 1) (gl (Nat.div i 2)) (gr (Nat.sub (Nat.div i 2) 1)))) t
noncomputable def set (t:Tr α):Nat → α → Tr α:=
  Tr.rec (motive:=fun _=>Nat → α → Tr α) (fun _ _=>.e) (fun v l r sl sr i x=>cond (Nat.beq i 0) (.n x l r) (cond (Nat.beq (Nat.mod i 2) 1) (.n v (sl (Nat.div i 2) x) r) (.n v l (sr (Nat.sub (Nat.div i 2) 1) x)))) t
def full (v:α) (d:Nat):Tr α:=Nat.rec (motive:=fun _=>Tr α) .e (fun _ t=>.n v t t) d
theorem Aq (d v:α) (l r:Tr α) (i:Nat):(Tr.n v l r).get d i=if i=0 then v else if i % 2=1 then l.get d (i / 2) else r.get d (i / 2 - 1):=by
  show cond (Nat.beq i 0) v (cond (Nat.beq (i % 2) 1) (l.get d (i / 2)) (r.get d (i / 2 - 1)))=_
  by_cases h:i=0
  · subst h;rfl
  · have h1:Nat.beq i 0=false:=Er h
    rw [h1,if_neg h]
    by_cases h2:i % 2=1
    · have h3:Nat.beq (i % 2) 1=true:=JV h2
      rw [h3,if_pos h2];rfl
    · have h3:Nat.beq (i % 2) 1=false:=Er h2
      rw [h3,if_neg h2];rfl
theorem VT (v:α) (l r:Tr α) (i:Nat) (x:α):(Tr.n v l r).set i x=if i=0 then Tr.n x l r else if i % 2=1 then Tr.n v (l.set (i / 2) x) r else Tr.n v l (r.set (i / 2 - 1) x):=by
  show cond (Nat.beq i 0) (Tr.n x l r) (cond (Nat.beq (i % 2) 1) (Tr.n v (l.set (i / 2) x) r) (Tr.n v l (r.set (i / 2 - 1) x)))=_
  by_cases h:i=0
  · subst h;rfl
  · have h1:Nat.beq i 0=false:=Er h
    rw [h1,if_neg h]
    by_cases h2:i % 2=1
    · have h3:Nat.beq (i % 2) 1=true:=JV h2
      rw [h3,if_pos h2];rfl
    · have h3:Nat.beq (i % 2) 1=false:=Er h2
      rw [h3,if_neg h2];rfl
def Full:Nat → Tr α → Prop
  | 0,_=>True
  | d + 1,.n _ l r=>Full d l ∧ Full d r
  | _ + 1,.e=>False
theorem vP (v:α):∀ d,Full d (full v d)
  | 0=>trivial
  | d + 1=>⟨vP v d,vP v d⟩
theorem Gl (v:α):∀ d i,(full v d).get v i=v
  | 0,i=>rfl
  | d + 1, i => by
    show (Tr.n v (full v d) (full v d)).get v i=v
    rw [Aq];split
    · rfl
    · split <;> exact Gl v d _
theorem Az:∀ (d:Nat) (t:Tr α) (i:Nat) (x:α),Full d t → Full d (t.set i x)
  | 0,_,_,_,_=>trivial
  | d + 1,.e,i,x,h=>h.elim
  | d + 1, .n v l r, i, x, h => by
    rw [VT]
    split
    · exact h
    · split
      · exact ⟨Az d l _ x h.1,h.2⟩
      · exact ⟨h.1,Az d r _ x h.2⟩
theorem Fb (dv:α):∀ (d:Nat) (t:Tr α) (i j:Nat) (x:α),Full d t → i + 1 < 2 ^ d → (t.set i x).get dv j=if j=i then x else t.get dv j
  | 0,t,i,j,x,_,hi=>by simp at hi
  | d + 1,.e,i,j,x,h,hi=>h.elim
  | d + 1, .n v l r, i, j, x, h, hi => by
    have hp:2 ^ (d + 1)=2 * 2 ^ d:=by rw [Nat.pow_succ];omega
    rw [VT]
    by_cases h0:i=0
    · rw [if_pos h0,Aq,Aq]
      by_cases hj:j=0
      · rw [if_pos hj,if_pos (by omega)]
      · rw [if_neg hj,if_neg hj]
        simp only [if_neg (show ¬ j=i by omega)]
    · rw [if_neg h0]
      by_cases h1:i % 2=1
      · rw [if_pos h1,Aq,Aq]
        by_cases hj:j=0
        · rw [if_pos hj,if_pos hj,if_neg (by omega)]
        · rw [if_neg hj,if_neg hj]
          by_cases hj1:j % 2=1
          · rw [if_pos hj1,if_pos hj1,Fb dv d l _ _ x h.1 (by omega)]
            by_cases he:j=i
            · subst he;simp
            · rw [if_neg he,if_neg (by omega)]
          · rw [if_neg hj1,if_neg hj1,if_neg (by omega)]
      · rw [if_neg h1,Aq,Aq]
        by_cases hj:j=0
        · rw [if_pos hj,if_pos hj,if_neg (by omega)]
        · rw [if_neg hj,if_neg hj]
          by_cases hj1:j % 2=1
          · rw [if_pos hj1,if_pos hj1,if_neg (by omega)]
          · rw [if_neg hj1,if_neg hj1,Fb dv d r _ _ x h.2 (by omega)]
            by_cases he:j=i
            · subst he;simp
            · rw [if_neg he,if_neg (by omega)]
end Tr
abbrev Fr:=Tr AV
structure Fits (d:Nat) (t:Fr) (F:List AV):Prop where
  full:Tr.Full d t
  room:F.length < 2 ^ d
  get:∀ i v,F[i]? = some v → t.get (.tup []) i=v
noncomputable def fZ (t:Fr):AO → AV
  | .t n=>t.get (.tup []) n
  | .k v=>v
def kP (n:Nat):AO → Bool
  | .t k=>decide (k < n)
  | .k _=>true
def kT (n:Nat) (o:aJ):Bool:=
  o.op.yE.all (kP n) && (match o.dst with | some d=>decide (d < n) | none=>true) && (match o.guard with | some (some t,_)=>decide (t < n) | _=>true)
def dU (n:Nat):bL → Bool
  | .skip | .exit _ | .ret=>true
  | .region l | .draw _ l=>l.all (kT n)
  | .drawT _ l r=>l.all (kT n) && r.all (kT n)
  | .rangeF f ps a b=>kP n f && (ps.all (fun p=>decide (p < n)) && (dU n a && dU n b))
  | .seq a b=>dU n a && dU n b
  | .cond c a b=>kP n c && (dU n a && dU n b)
  | .block _ a | .loop a=>dU n a
def uo (n:Nat) (l:List (Nat × Option (Option Nat))):Bool:=l.all fun r=>decide (r.1 < n)
def RN (d:Nat) (af:bI):Bool:=dU af.ntmps af.body && (uo af.ntmps af.results && decide (af.ntmps < 2 ^ d))
theorem aZ {d:Nat} {t:Fr} {F:List AV} (h:Fits d t F) {x:AO} (hx:kP F.length x=true):fZ t x=x.ev F:=by
  cases x with
  | k v=>rfl
  | t n =>
    simp only [kP,decide_eq_true_eq] at hx
    simp only [fZ,AO.ev]
    rw [h.get n F[n] (by simp [hx])]
    simp [List.getD_eq_getElem?_getD,hx]
theorem xZ {d:Nat} {t:Fr} {F:List AV} (h:Fits d t F):∀ {l:List AO},l.all (kP F.length)=true → l.map (fZ t)=l.map (AO.ev F)
  | [],_=>rfl
  | x :: r, hl => by
    simp only [List.all_cons,Bool.and_eq_true] at hl
    simp only [List.map_cons]
    rw [aZ h hl.1,xZ h hl.2]
noncomputable def uw (t:Fr) (d:Option Nat) (v:AV):Fr:=
  match d with
  | some d=>t.set d v
  | none=>t
theorem yP {d:Nat} {t:Fr} {F:List AV} (h:Fits d t F) {o:Option Nat} (ho:(match o with | some k=>decide (k < F.length) | none=>true)=true) (v:AV):Fits d (uw t o v) (fQ F o v):=by
  cases o with
  | none=>exact h
  | some k =>
    simp only [decide_eq_true_eq] at ho
    have hr:=h.room
    refine ⟨Tr.Az d t k v h.full,by simpa [fQ] using hr,fun i x hx=>?_⟩
    simp only [uw,fQ] at hx ⊢
    rw [Tr.Fb _ d t k i v h.full (by omega)]
    by_cases he:i=k
    · subst he
      rw [List.getElem?_set_self ho] at hx
      simp at hx;simp [hx]
    · rw [if_neg he]
      rw [List.getElem?_set_ne (Ne.symm he)] at hx
      exact h.get i x hx
noncomputable def Ze (t:Fr):Option (Option Nat × Bool) → Option Bool
  | none=>some true
  | some (none,_)=>some false
  | some (some k, want) => match t.get (.tup []) k with
    | .bool b=>some (b == want)
    | .any=>none
    | _=>some false
theorem RG {d:Nat} {t:Fr} {F:List AV} (h:Fits d t F) {g:Option (Option Nat × Bool)} (hg:(match g with | some (some t,_)=>decide (t < F.length) | _=>true)=true):Ze t g=gd F g:=by
  cases g with
  | none=>rfl
  | some p =>
    obtain ⟨q,want⟩:=p
    cases q with
    | none=>rfl
    | some k =>
      simp only [decide_eq_true_eq] at hg
      have hk:F[k]? = some F[k]:=by simp [hg]
      have:=h.get k F[k] hk
      simp only [Ze,gd,this,hk]
      cases F[k] <;> rfl
noncomputable def Cz (t:Fr):jy → Option (Nat × List AV)
  | .call f args=>some (f,args.map (fZ t))
  | .callv f args => match fZ t f with
    | .fn (.func g) first cap=>some (g,first ++ args.map (fZ t) ++ cap)
    | _=>none
  | .inv kg r args => match invK kg (fZ t r) with
    | some (g,v)=>some (g,v :: args.map (fZ t))
    | none=>none
  | _=>none
theorem Gy {d:Nat} {t:Fr} {F:List AV} (h:Fits d t F) {o:jy} (ho:o.yE.all (kP F.length)=true):Cz t o=dP F o:=by
  cases o <;> (try rfl) <;> simp only [jy.yE] at ho
  case call f xs=>simp only [Cz,dP];rw [xZ h ho]
  case callv f xs=>
    simp only [List.all_cons,Bool.and_eq_true] at ho
    simp only [Cz,dP];rw [aZ h ho.1,xZ h ho.2]
    cases AO.ev F f <;> rfl
  case inv kg f xs=>
    simp only [List.all_cons,Bool.and_eq_true] at ho
    simp only [Cz,dP];rw [aZ h ho.1,xZ h ho.2]
    cases invK kg (AO.ev F f) <;> rfl
def KP (k:IntKind) (n:Int):Int:=
  match k with
  | .i64 => match n with
    | .ofNat m=>cond (Nat.ble m 9223372036854775807) (.ofNat m) (IntKind.i64.wrap (.ofNat m))
    | .negSucc m=>cond (Nat.ble m 9223372036854775807) (.negSucc m) (IntKind.i64.wrap (.negSucc m))
  | k=>k.wrap n
theorem Nz (n:Int):KP .i64 n=IntKind.i64.wrap n:=by
  have h63:∀ n:Int,-9223372036854775808 ≤ n → n ≤ 9223372036854775807 → IntKind.i64.wrap n=n:=fun n h1 h2=>by
    simp [IntKind.wrap,IntKind.bits,IntKind.signed];omega
  cases n with
  | ofNat m =>
    show cond (Nat.ble m 9223372036854775807) (Int.ofNat m) (IntKind.i64.wrap (Int.ofNat m))=_
    cases hb:Nat.ble m 9223372036854775807 with
    | false=>exact cond_false _ _
    | true =>
      have:=Nat.le_of_ble_eq_true hb
      rw [cond_true]
      exact (h63 (Int.ofNat m) (by show (-9223372036854775808:Int) ≤ (m:Int);omega) (by show (m:Int) ≤ 9223372036854775807;omega)).symm
  | negSucc m =>
    show cond (Nat.ble m 9223372036854775807) (Int.negSucc m) (IntKind.i64.wrap (Int.negSucc m))=_
    cases hb:Nat.ble m 9223372036854775807 with
    | false=>exact cond_false _ _
    | true =>
      have:=Nat.le_of_ble_eq_true hb
      rw [cond_true]
      exact (h63 (Int.negSucc m) (by omega) (by omega)).symm
theorem OI (k:IntKind) (n:Int):KP k n=k.wrap n:=by
  cases k
  case i64=>exact Nz n
  all_goals rfl
def Y9:Int → Int → Bool
  | .ofNat a,.ofNat b=>Nat.beq a b
  | .negSucc a,.negSucc b=>Nat.beq a b
  | _,_=>false
theorem Xg (a b:Int):Y9 a b=(a == b):=by
  cases a <;> cases b <;> simp only [Y9]
  · rename_i m n
    rw [Bool.eq_iff_iff,Br,beq_iff_eq];constructor <;> intro h <;> first | omega | (simp at h;omega) | simp [h]
  · symm;simp
  · symm;simp
  · rename_i m n
    rw [Bool.eq_iff_iff,Br,beq_iff_eq];constructor <;> intro h <;> first | omega | (simp at h;omega) | simp [h]
def leI:Int → Int → Bool
  | .ofNat a,.ofNat b=>Nat.ble a b
  | .negSucc a,.negSucc b=>Nat.ble b a
  | .negSucc _,.ofNat _=>true
  | .ofNat _,.negSucc _=>false
theorem XA (a b:Int):leI a b=decide (a ≤ b):=by
  cases a <;> cases b <;> simp only [leI]
  · rename_i m n
    rw [Bool.eq_iff_iff,Nat.ble_eq,decide_eq_true_eq];simp
  · rename_i m n
    symm;rw [decide_eq_false_iff_not];simp;omega
  · rename_i m n
    symm;rw [decide_eq_true_eq];simp;omega
  · rename_i m n
    rw [Bool.eq_iff_iff,Nat.ble_eq,decide_eq_true_eq];omega
def ZM:IntKind → IntKind → Bool
  | .i64,.i64=>true
  | .u8,.u8=>true
  | a,b=>decide (a=b)
theorem Xo (a b:IntKind):ZM a b=decide (a=b):=by cases a <;> cases b <;> rfl
def Yr:List UInt8 → List UInt8 → Bool
  | [],[]=>true
  | a :: r,b :: s=>cond (Nat.beq a.toNat b.toNat) (Yr r s) false
  | _,_=>false
theorem Pz:∀ (a b:List UInt8),Yr a b=(a == b)
  | [],[]=>rfl
  | [],_ :: _=>rfl
  | _ :: _,[]=>rfl
  | a :: r, b :: s => by
    simp only [Yr]
    rw [Pz r s]
    have:Nat.beq a.toNat b.toNat=(a == b):=by
      rw [Bool.eq_iff_iff,Br,beq_iff_eq]
      exact ⟨fun h=>UInt8.toNat_inj.1 h,fun h=>by rw [h]⟩
    rw [this,List.cons_beq_cons]
    cases a == b <;> simp
def SY (op:BinOp):AV → AV → Option AV
  | .int k a, .int k' b =>
    cond (ZM k k')
      (match op with
      | .add=>some (.int k (KP k (Int.add a b)))
      | .sub=>some (.int k (KP k (Int.sub a b)))
      | .eql=>some (.bool (Y9 a b))
      | .neq=>some (.bool (!(Y9 a b)))
      | .lss=>some (.bool (!(leI b a)))
      | .leq=>some (.bool (leI a b))
      | .gtr=>some (.bool (!(leI a b)))
      | .geq=>some (.bool (leI b a))
      | op=>xO op (.int k a) (.int k' b))
      none
  | .str a, .str b =>
    match op with
    | .eql=>some (.bool (Yr a b))
    | .neq=>some (.bool (!(Yr a b)))
    | op=>xO op (.str a) (.str b)
  | _,_=>none
theorem TW (op:BinOp) (a b:AV):SY op a b=xO op a b:=by
  cases a <;> cases b <;> (try rfl)
  · rename_i k a k' b
    simp only [SY,Xo]
    by_cases hk:k=k'
    · subst hk
      simp only [decide_true,cond_true]
      cases op <;> (try rfl) <;> simp only [xO,if_true,OI,Xg,XA,Option.some.injEq,AV.bool.injEq]
      · rfl
      · rfl
      · rfl
      · rw [Bool.eq_iff_iff];simp
      · rw [Bool.eq_iff_iff];simp
    · have:decide (k=k')=false:=by simpa using hk
      simp only [this,cond_false,xO,if_neg hk]
  · rename_i a b
    cases op <;> (try rfl) <;> simp only [SY,xO,Pz]
def Ws (n:Option Nat) (a:AV) (g:Nat → Option Obj):Eff:=
  match rd g a with
  | some cs => match n with
    | none => match cs with
      | x :: _=>some (x,[],[])
      | []=>none
    | some n=>if n ≤ cs.length then some (.agg (cs.take n),[],[]) else none
  | none=>none
def Yf (op:BinOp) (x y:AV):Eff:=
  match SY op x y with
  | some v=>some (v,[],[])
  | none=>none
def Qp (x:AV):Eff:=
  match RJ x with
  | some v=>some (v,[],[])
  | none=>none
def VX (c a b:AV):Eff:=
  match c with
  | .bool t=>some (if t then a else b,[],[])
  | _=>none
def QL (off:Nat) (x:AV):Eff:=
  match shift off x with
  | some v=>some (v,[],[])
  | none=>none
def Ow (arr:Option Nat) (z:Nat) (x i:AV):Eff:=
  match asNat i with
  | some i => match arr with
    | some n => if i < n then match shift (i * z) x with
        | some v=>some (v,[],[])
        | none=>none
      else none
    | none => match bW i z x with
      | some v=>some (v,[],[])
      | none=>none
  | none=>none
def V3 (x i:AV):Eff:=
  match x,asNat i with
  | .str s, some i => match s[i]? with
    | some b=>some (.int .u8 b.toNat,[],[])
    | none=>none
  | _,_=>none
def Yn (x:AV):Eff:=
  match x with
  | .nils=>some (.int .i64 0,[],[])
  | .ps n _=>some (.int .i64 n,[],[])
  | .sl _ _ _ n _=>some (.int .i64 n,[],[])
  | _=>none
def Wu (x:AV):Eff:=
  match x with
  | .str s=>some (.int .i64 s.length,[],[])
  | _=>none
def ZJ (op:UnOp) (x:AV):Eff:=
  match WM op x with
  | some v=>some (v,[],[])
  | none=>none
def Yd (i:Nat) (x:AV):Eff:=
  match x with
  | .tup vs => match vs[i]? with
    | some v=>some (v,[],[])
    | none=>none
  | _=>none
noncomputable def dR (t:Fr):jy → jy
    | .box x=>.box (.k (fZ t x))
    | .build z ps=>.build z (ps.map fun p=>(p.1,p.2.1,.k (fZ t p.2.2)))
    | .bslice z n e ps=>.bslice z n e (ps.map fun p=>(p.1,p.2.1,.k (fZ t p.2.2)))
    | .store n a x=>.store n (.k (fZ t a)) (.k (fZ t x))
    | .eq neg q x y=>.eq neg q (.k (fZ t x)) (.k (fZ t y))
    | .i2i k x=>.i2i k (.k (fZ t x))
    | .s2s x=>.s2s (.k (fZ t x))
    | .s2b x=>.s2b (.k (fZ t x))
    | .b2s x=>.b2s (.k (fZ t x))
    | .ifc q x=>.ifc q (.k (fZ t x))
    | .mkfn f xs ys=>.mkfn f (xs.map fun x=>.k (fZ t x)) (ys.map fun x=>.k (fZ t x))
    | .slcS x lo hi=>.slcS (.k (fZ t x)) (lo.map fun x=>.k (fZ t x)) (hi.map fun x=>.k (fZ t x))
    | .slc z x lo hi=>.slc z (.k (fZ t x)) (lo.map fun x=>.k (fZ t x)) (hi.map fun x=>.k (fZ t x))
    | .fld off q x=>.fld off q (.k (fZ t x))
    | .aidx l z q x i=>.aidx l z q (.k (fZ t x)) (.k (fZ t i))
    | .app z b s x y=>.app z b s (.k (fZ t x)) (.k (fZ t y))
    | .mkslice z b x y=>.mkslice z b (.k (fZ t x)) (.k (fZ t y))
    | .mm mx xs=>.mm mx (xs.map fun x=>.k (fZ t x))
    | .rng x=>.rng (.k (fZ t x))
    | .nxt x=>.nxt (.k (fZ t x))
    | .i2s x=>.i2s (.k (fZ t x))
    | .clr z x=>.clr z (.k (fZ t x))
    | .idxB x y=>.idxB (.k (fZ t x)) (.k (fZ t y))
    | .lkp tr z ok m k=>.lkp tr z ok (.k (fZ t m)) (.k (fZ t k))
    | .mup tr m k v=>.mup tr (.k (fZ t m)) (.k (fZ t k)) (.k (fZ t v))
    | .tas kg x=>.tas kg (.k (fZ t x))
    | .cpy z d s=>.cpy z (.k (fZ t d)) (.k (fZ t s))
    | o=>o
noncomputable def nY (o:jy) (t:Fr) (g:Nat → Option Obj) (nx:Nat):Eff:=
  match o with
  | .mv x=>some (fZ t x,[],[])
  | .load n a=>Ws n (fZ t a) g
  | .bin op x y=>Yf op (fZ t x) (fZ t y)
  | .nilck x=>Qp (fZ t x)
  | .pick c a b=>VX (fZ t c) (fZ t a) (fZ t b)
  | .faddr off x=>QL off (fZ t x)
  | .iaddr arr z x i=>Ow arr z (fZ t x) (fZ t i)
  | .sidx x i=>V3 (fZ t x) (fZ t i)
  | .len x=>Yn (fZ t x)
  | .lenS x=>Wu (fZ t x)
  | .un op x=>ZJ op (fZ t x)
  | .ext i x=>Yd i (fZ t x)
  | .alloc z=>some (.ptr nx (vz z) 0,[],[.cells (vz z) z false])
  | o=>bn (dR t o) [] g nx
end Go.AX
/- The evaluator made for the kernel: what it gives the first one gives. -/
namespace Go.AX
open Go
theorem dD (v:AV) (F:List AV):(AO.k v).ev F=v:=rfl
theorem l7 {d:Nat} {t:Fr} {F:List AV} (h:Fits d t F):∀ {l:List (Nat × Nat × AO)},(l.map (·.2.2)).all (kP F.length)=true →
    (l.map fun p=>(p.1,p.2.1,AO.k (fZ t p.2.2))).map (fun p=>(p.1,p.2.1,p.2.2.ev []))=l.map (fun p=>(p.1,p.2.1,p.2.2.ev F)) ∧
    (l.map fun p=>(p.1,p.2.1,AO.k (fZ t p.2.2))).map (fun p=>p.2.2.ev [])=l.map (fun p=>p.2.2.ev F) ∧
    ∀ xs:List AV,(((l.map fun p=>(p.1,p.2.1,AO.k (fZ t p.2.2))).zip xs).map fun p=>(p.1.1,p.1.2.1,p.2))=((l.zip xs).map fun p=>(p.1.1,p.1.2.1,p.2))
  | [],_=>⟨rfl,rfl,fun _=>rfl⟩
  | x :: r, hl => by
    simp only [List.map_cons,List.all_cons,Bool.and_eq_true] at hl
    obtain ⟨a,b,c⟩:=l7 h (l:=r) hl.2
    refine ⟨?_,?_,fun xs=>?_⟩
    · rw [List.map_cons,List.map_cons,a,List.map_cons]
      show (x.1,x.2.1,fZ t x.2.2) :: _=_
      rw [aZ h hl.1]
    · rw [List.map_cons,List.map_cons,b,List.map_cons]
      show fZ t x.2.2 :: _=_
      rw [aZ h hl.1]
    · cases xs with
      | nil=>rfl
      | cons y ys =>
        simp only [List.map_cons,List.zip_cons_cons]
        rw [c ys]
theorem nQ {d:Nat} {t:Fr} {F:List AV} (h:Fits d t F):∀ {l:List AO},l.all (kP F.length)=true → (l.map fun x=>AO.k (fZ t x)).map (AO.ev [])=l.map (AO.ev F)
  | [],_=>rfl
  | x :: r, hl => by
    simp only [List.all_cons,Bool.and_eq_true] at hl
    rw [List.map_cons,List.map_cons,nQ h hl.2,List.map_cons]
    show fZ t x :: _=_
    rw [aZ h hl.1]
theorem nT {d:Nat} {t:Fr} {F:List AV} (h:Fits d t F) {x:Option AO} (hx:x.toList.all (kP F.length)=true) (n:Nat):bound (x.map fun y=>AO.k (fZ t y)) [] n=bound x F n:=by
  cases x with
  | none=>rfl
  | some y =>
    simp only [Option.toList_some,List.all_cons,List.all_nil,Bool.and_true] at hx
    simp only [Option.map_some,bound,dD]
    rw [aZ h hx]
theorem vw {α:Type} (lo hi:Option AO) (f:AO → AO) (a b:Nat) (l:List α):Bb (lo.map f) (hi.map f) a b l=Bb lo hi a b l:=by
  cases lo <;> cases hi <;> rfl
theorem RO {d:Nat} {t:Fr} {F:List AV} (h:Fits d t F) {o:jy} (ho:o.yE.all (kP F.length)=true) (g:Nat → Option Obj) (n:Nat):nY o t g n=bn o F g n:=by
  cases o <;> simp only [jy.yE,List.all_cons,List.all_nil,Bool.and_eq_true,Bool.and_true] at ho
  case mv x=>simp only [nY,bn];rw [aZ h ho];try rfl
  case pick c a b=>simp only [nY,VX,bn];rw [aZ h ho.1,aZ h ho.2.1,aZ h ho.2.2];try rfl
  case alloc=>rfl
  case bad=>rfl
  case Fj x=>rfl
  case mkmap=>rfl
  case rng x=>simp only [nY,dR,bn,dD];rw [aZ h ho];try rfl
  case nxt x=>simp only [nY,dR,bn,dD];rw [aZ h ho];try rfl
  case i2s x=>simp only [nY,dR,bn,dD];rw [aZ h ho];try rfl
  case clr z x=>simp only [nY,dR,bn,dD];rw [aZ h ho];try rfl
  case idxB x y=>simp only [nY,dR,bn,dD];rw [aZ h ho.1,aZ h ho.2];try rfl
  case lkp tr z ok m k=>simp only [nY,dR,bn,dD];rw [aZ h ho.1,aZ h ho.2];try rfl
  case mup tr m k v=>simp only [nY,dR,bn,dD];rw [aZ h ho.1,aZ h ho.2.1,aZ h ho.2.2];try rfl
  case box x=>simp only [nY,dR,bn,dD];rw [aZ h ho];try rfl
  case build z ps=>simp only [nY,dR,bn];rw [(l7 h ho).1];try rfl
  case bslice z m e ps=>
    obtain ⟨a,b,c⟩:=l7 h ho
    simp only [nY,dR,bn]
    rw [b]
    simp only [c]
  case load q a=>simp only [nY,Ws,bn];rw [aZ h ho];try rfl
  case store q a x=>simp only [nY,dR,bn,dD];rw [aZ h ho.1,aZ h ho.2];try rfl
  case nilck x=>simp only [nY,Qp,bn];rw [aZ h ho];try rfl
  case bin op x y=>simp only [nY,Yf,bn];rw [aZ h ho.1,aZ h ho.2,TW];try rfl
  case eq neg q x y=>simp only [nY,dR,bn,dD];rw [aZ h ho.1,aZ h ho.2];try rfl
  case un op x=>simp only [nY,ZJ,bn];rw [aZ h ho];try rfl
  case i2i k x=>simp only [nY,dR,bn,dD];rw [aZ h ho];try rfl
  case s2s x=>simp only [nY,dR,bn,dD];rw [aZ h ho];try rfl
  case s2b x=>simp only [nY,dR,bn,dD];rw [aZ h ho];try rfl
  case b2s x=>simp only [nY,dR,bn,dD];rw [aZ h ho];try rfl
  case ifc q x=>simp only [nY,dR,bn,dD];rw [aZ h ho];try rfl
  case mkfn f xs ys=>
    rw [List.all_append,Bool.and_eq_true] at ho
    simp only [nY,dR,bn]
    rw [nQ h ho.1,nQ h ho.2]
  case slcS x lo hi=>
    simp only [List.all_append,Bool.and_eq_true] at ho
    simp only [nY,dR,bn,dD,nT h ho.2.1,nT h ho.2.2,vw]
    rw [aZ h ho.1];try rfl
  case slc z x lo hi=>
    simp only [List.all_append,Bool.and_eq_true] at ho
    simp only [nY,dR,bn,dD,nT h ho.2.1,nT h ho.2.2,vw]
    rw [aZ h ho.1];try rfl
  case faddr off x=>simp only [nY,QL,bn];rw [aZ h ho];try rfl
  case fld off q x=>simp only [nY,dR,bn,dD];rw [aZ h ho];try rfl
  case iaddr arr z x i=>simp only [nY,Ow,bn];rw [aZ h ho.1,aZ h ho.2];try rfl
  case sidx x i=>simp only [nY,V3,bn];rw [aZ h ho.1,aZ h ho.2];try rfl
  case aidx l z q x i=>simp only [nY,dR,bn,dD];rw [aZ h ho.1,aZ h ho.2];try rfl
  case ext i x=>simp only [nY,Yd,bn];rw [aZ h ho];try rfl
  case len x=>simp only [nY,Yn,bn];rw [aZ h ho];try rfl
  case lenS x=>simp only [nY,Wu,bn];rw [aZ h ho];try rfl
  case cst=>rfl
  case app z b st x y=>simp only [nY,dR,bn,dD];rw [aZ h ho.1,aZ h ho.2];try rfl
  case mkslice z b x y=>simp only [nY,dR,bn,dD];rw [aZ h ho.1,aZ h ho.2];try rfl
  case mm mx xs=>simp only [nY,dR,bn];rw [nQ h ho];try rfl
  case call=>rfl
  case callv=>rfl
  case inv=>rfl
  case tas kg x=>simp only [nY,dR,bn,dD];rw [aZ h ho];try rfl
  case cpy z d s=>simp only [nY,dR,bn,dD];rw [aZ h ho.1,aZ h ho.2];try rfl
noncomputable def yB (t:Fr) (g:Nat → Option Obj):Nat × Option (Option Nat) → Option AV
  | (k,none)=>some (t.get (.tup []) k)
  | (k, some q) => match rd g (t.get (.tup []) k) with
    | some cs => match q with
      | none=>cs[0]?
      | some n=>if n ≤ cs.length then some (.agg (cs.take n)) else none
    | none=>none
noncomputable def xX (t:Fr) (g:Nat → Option Obj):List (Nat × Option (Option Nat)) → Option (List AV)
  | []=>some []
  | r :: l => match yB t g r, xX t g l with
    | some v,some vs=>some (v :: vs)
    | _,_=>none
noncomputable def Ve (res:List (Nat × Option (Option Nat))) (t:Fr) (g:Nat → Option Obj):Option AV:=
  match xX t g res with
  | some [v]=>some v
  | some vs=>some (.tup vs)
  | none=>none
theorem BF {d:Nat} {t:Fr} {F:List AV} (h:Fits d t F) (g:Nat → Option Obj):∀ {l:List (Nat × Option (Option Nat))},uo F.length l=true → xX t g l=lX F g l
  | [],_=>rfl
  | (k, q) :: r, hl => by
    simp only [uo,List.all_cons,Bool.and_eq_true,decide_eq_true_eq] at hl
    have hk:F[k]? = some F[k]:=by simp [hl.1]
    have e:=h.get k F[k] hk
    simp only [xX,lX]
    rw [BF h g (l:=r) hl.2]
    have:yB t g (k,q)=ny F g (k,q):=by
      cases q with
      | none=>simp only [yB,ny,e,hk]
      | some q =>
        simp only [yB,ny,e,List.getD_eq_getElem?_getD,hk,Option.getD_some]
        cases rd g F[k] <;> rfl
    rw [this]
    cases ny F g (k,q) <;> cases lX F g r <;> rfl
theorem Td {d:Nat} {t:Fr} {F:List AV} (h:Fits d t F) (g:Nat → Option Obj) {l:List (Nat × Option (Option Nat))} (hl:uo F.length l=true):Ve l t g=lZ l F g:=by
  simp only [Ve,lZ];rw [BF h g hl]
  rcases lX F g l with _ | (_ | ⟨a,_ | ⟨b,r⟩⟩) <;> rfl
noncomputable def wT:Nat → List AV → Fr → Fr
  | _,[],t=>t
  | i,x :: r,t=>wT (i + 1) r (t.set i x)
theorem C9 {d:Nat}:∀ (xs:List AV) (i:Nat) (t:Fr) (F:List AV),Fits d t F → i + xs.length ≤ F.length → Fits d (wT i xs t) (F.take i ++ xs ++ F.drop (i + xs.length))
  | [],i,t,F,h,_=>by simpa [wT] using h
  | x :: r, i, t, F, h, hl => by
    simp only [List.length_cons] at hl
    have h1:=yP h (o:=some i) (by simp;omega) x
    have:=C9 r (i + 1) _ _ h1 (by simp [fQ];omega)
    simp only [uw,fQ,wT] at this ⊢
    have e:(F.set i x).take (i + 1) ++ r ++ (F.set i x).drop (i + 1 + r.length)=F.take i ++ (x :: r) ++ F.drop (i + (x :: r).length):=by
      rw [List.take_succ_eq_append_getElem (by simp;omega),List.take_set_of_le (by omega),List.drop_set_of_lt (by omega)]
      simp only [List.getElem_set_self,List.append_assoc,List.singleton_append,List.cons_append,List.nil_append,List.length_cons]
      rw [show i + 1 + r.length=i + (r.length + 1) by omega]
    rw [e] at this
    exact this
theorem Iy {d n:Nat} {xs:List AV} (hn:n < 2 ^ d) (hx:xs.length ≤ n):Fits d (wT 0 xs (Tr.full (.tup []) d)) (iN xs n):=by
  have h0:Fits d (Tr.full (.tup []) d) (List.replicate n (AV.tup [])):=by
    refine ⟨Tr.vP _ d,by simpa using hn,fun i v hv=>?_⟩
    rw [Tr.Gl]
    have:=List.mem_of_getElem? hv
    exact (List.eq_of_mem_replicate this).symm
  have:=C9 xs 0 _ _ h0 (by simpa using hx)
  simpa [iN] using this
inductive pX where
  | bad
  | ok (e:Ex) (t:Fr) (s:St) (es:List Entry)
  | val (v:AV) (s:St)
noncomputable def Ei (T:Nat → Option oC) (rec:Task → Fr → St → pX) (o:aJ) (r:List aJ) (F:Fr) (s:St):pX:=
  match Ze F o.guard with
  | none=>.bad
  | some false=>rec (.ops r) (uw F o.dst (.tup [])) s
  | some true =>
    match dW o.op with
    | true =>
      match Cz F o.op with
      | some (f, args) =>
        match rec (.call f args) .e s with
        | .val v s'=>rec (.ops r) (uw F o.dst v) s'
        | _=>.bad
      | none=>.bad
    | false =>
      match nY o.op F s.get s.next with
      | some (v,ps,qs)=>rec (.ops r) (uw F o.dst v) (s.apply ps qs)
      | none=>.bad
noncomputable def wF (o:jy) (t:Fr):List Nat:=
  match o with
  | .load _ a=>fH (fZ t a)
  | .store _ a _=>fH (fZ t a)
  | .bslice _ _ _ ps=>fF (ps.map fun p=>fZ t p.2.2)
  | .b2s x=>fH (fZ t x)
  | .nxt x=>fH (fZ t x)
  | .clr _ x=>fH (fZ t x)
  | .lkp _ _ _ m _=>fH (fZ t m)
  | .mup _ m _ _=>fH (fZ t m)
  | .app _ _ _ s x=>fH (fZ t s) ++ fH (fZ t x)
  | .cpy _ d s=>fH (fZ t d) ++ fH (fZ t s)
  | _=>[]
noncomputable def zU (T:Nat → Option oC) (rec:Task → Fr → St → pX) (o:aJ) (r:List aJ) (F:Fr) (s:St):pX:=
  match Ze F o.guard with
  | none=>.bad
  | some false =>
    match rec (.draw r) (uw F o.dst (.tup [])) s with
    | .ok e F' s' es=>.ok .nrm F' s' (⟨[],[],s.next,s.next⟩ :: es)
    | _=>.bad
  | some true =>
    match dW o.op with
    | true =>
      match Cz F o.op with
      | some (f, args) =>
        match rec (.call f args) .e (s.keep (reach s 1000 [] (d9 args))) with
        | .val v t =>
          if (reach s 1000 [] (d9 args)).all (fun id=>decide (id < s.next)) && decide (s.next ≤ t.next) then
            match rec (.draw r) (uw F o.dst v) (s.merge (reach s 1000 [] (d9 args)) t) with
            | .ok e F' s' es=>.ok .nrm F' s' (⟨reach s 1000 [] (d9 args),(reach s 1000 [] (d9 args)).filter (fun id=>!Df (t.get id) (s.get id)),s.next,t.next⟩ :: es)
            | _=>.bad
          else .bad
        | _=>.bad
      | none=>.bad
    | false =>
      match nY o.op F s.get s.next with
      | some (v, ps, qs) =>
        if (wF o.op F).all (fun id=>decide (id < s.next)) then
          match rec (.draw r) (uw F o.dst v) (s.apply ps qs) with
          | .ok e F' s' es=>.ok .nrm F' s' (⟨wF o.op F,ps.map (·.1),s.next,(s.apply ps qs).next⟩ :: es)
          | _=>.bad
        else .bad
      | none=>.bad
noncomputable def BJ (d:Nat) (T:Nat → Option oC) (rec:Task → Fr → St → pX) (f:Nat) (args:List AV) (s:St):pX:=
  match T f with
  | none=>.bad
  | some tf =>
    match (if tf.see then views s.get args else some (args,[])) with
    | none=>.bad
    | some (xs, ps) =>
      if xs.length ≤ tf.af.ntmps then
        match rec (.code tf.af.body) (wT 0 xs (Tr.full (.tup []) d)) (s.puts ps) with
        | .ok (.ext _) _ _ _=>.bad
        | .ok _ F' s' _ =>
          match Ve tf.af.results F' s'.get with
          | some v =>
            if tf.forget then
              match view s'.get v with
              | some (v',qs)=>.val v' ((s'.puts qs).old s.next)
              | none=>.bad
            else .val v s'
          | none=>.bad
        | _=>.bad
      else .bad
noncomputable def ko (rec:Task → Fr → St → pX) (c:bL) (F:Fr) (s:St):pX:=
  match c with
  | .skip=>.ok .nrm F s []
  | .region l=>rec (.ops l) F s
  | .draw m l =>
    match rec (.draw l) F s with
    | .ok e F' s' es=>if aM m es 0 es then .ok .nrm F' s' [] else .bad
    | _=>.bad
  | .seq a b =>
    match rec (.code a) F s with
    | .ok .nrm F1 s1 _=>rec (.code b) F1 s1
    | r=>r
  | .cond c a b =>
    match fZ F c with
    | .bool t=>rec (.code (if t then a else b)) F s
    | _=>.bad
  | .block id a =>
    match rec (.code a) F s with
    | .ok (.ext i) F1 s1 _=>if i=id then .ok .nrm F1 s1 [] else .ok (.ext i) F1 s1 []
    | r=>r
  | .loop a =>
    match rec (.code a) F s with
    | .ok .nrm F1 s1 _=>rec (.code (.loop a)) F1 s1
    | r=>r
  | .exit id=>.ok (.ext id) F s []
  | .ret=>.ok .ret F s []
  | .drawT m l r =>
    match rec (.draw l) F s with
    | .ok _ F' s' es=>if aM m es 0 es then rec (.ops r) F' s' else .bad
    | _=>.bad
  | .rangeF _ _ _ _=>.bad
noncomputable def VY (d:Nat) (T:Nat → Option oC) (rec:Task → Fr → St → pX) (t:Task) (F:Fr) (s:St):pX:=
  match t with
  | .code c=>ko rec c F s
  | .ops l => match l with
    | []=>.ok .nrm F s []
    | o :: r=>Ei T rec o r F s
  | .draw l => match l with
    | []=>.ok .nrm F s []
    | o :: r=>zU T rec o r F s
  | .call f args=>BJ d T rec f args s
noncomputable def vR (d:Nat) (T:Nat → Option oC) (n:Nat):Task → Fr → St → pX:=
  Nat.rec (motive:=fun _=>Task → Fr → St → pX) (fun _ _ _=>.bad) (fun _ rec=>VY d T rec) n
def fA:Task → Bool
  | .call _ _=>true
  | _=>false
def V8 (d n:Nat) (T:Nat → Option oC) (t:Task) (F:List AV) (s:St):pX → Prop
  | .bad=>True
  | .ok e t' s' es=>fA t=false ∧ ∃ F',ev T n t F s=some (e,F',s',es) ∧ Fits d t' F' ∧ F'.length=F.length
  | .val v s'=>fA t=true ∧ ∃ e es,ev T n t F s=some (e,[v],s',es)
theorem ug (F:List AV) (d:Option Nat) (v:AV):(fQ F d v).length=F.length:=by cases d <;> simp [fQ]
theorem nO {n:Nat} {o:aJ} (h:kT n o=true):o.op.yE.all (kP n)=true ∧ (match o.dst with | some d=>decide (d < n) | none=>true)=true ∧ (match o.guard with | some (some t,_)=>decide (t < n) | _=>true)=true:=by
  simp only [kT,Bool.and_eq_true] at h
  exact ⟨h.1.1,h.1.2,h.2⟩
theorem VG {d:Nat} {t:Fr} {F:List AV} (h:Fits d t F) {o:jy} (ho:o.yE.all (kP F.length)=true):wF o t=jX o F:=by
  cases o <;> (try rfl) <;> simp only [jy.yE,List.all_cons,List.all_nil,Bool.and_eq_true,Bool.and_true] at ho
  case load q a=>simp only [wF,jX];rw [aZ h ho]
  case store q a x=>simp only [wF,jX];rw [aZ h ho.1]
  case bslice z m e ps=>
    simp only [wF,jX]
    have:=(l7 h ho).2.1
    rw [List.map_map] at this
    rw [← this];rfl
  case b2s x=>simp only [wF,jX];rw [aZ h ho]
  case nxt x=>simp only [wF,jX];rw [aZ h ho]
  case clr z x=>simp only [wF,jX];rw [aZ h ho]
  case lkp tr z ok m k=>simp only [wF,jX];rw [aZ h ho.1]
  case mup tr m k v=>simp only [wF,jX];rw [aZ h ho.1]
  case app z b st x y=>simp only [wF,jX];rw [aZ h ho.1,aZ h ho.2]
  case cpy z d s=>simp only [wF,jX];rw [aZ h ho.1,aZ h ho.2]
def Zd (d:Nat) (T:Nat → Option oC):Prop:=∀ f tf,T f=some tf → RN d tf.af=true
def mV (n:Nat):Task → Prop
  | .code c=>dU n c=true
  | .ops l=>l.all (kT n)=true
  | .draw l=>l.all (kT n)=true
  | .call _ _=>True
theorem ZW {d:Nat} {T:Nat → Option oC} (hT:Zd d T):∀ (n:Nat) (t:Task) (tr:Fr) (F:List AV) (s:St),(fA t=false → Fits d tr F) → mV F.length t → V8 d n T t F s (vR d T n t tr s):=by
  intro n
  induction n with
  | zero=>intro t tr F s _ _;exact trivial
  | succ n ih =>
    intro t tr F s hF0 hin
    have hstep:vR d T (n + 1) t tr s=VY d T (vR d T n) t tr s:=rfl
    rw [hstep]
    cases t with
    | code c =>
      have hF:=hF0 rfl
      clear hF0
      show V8 d (n + 1) T (.code c) F s (ko (vR d T n) c tr s)
      cases c with
      | skip=>exact ⟨rfl,F,by simp [ev],hF,rfl⟩
      | exit id=>exact ⟨rfl,F,by simp [ev],hF,rfl⟩
      | ret=>exact ⟨rfl,F,by simp [ev],hF,rfl⟩
      | drawT m l r =>
        simp only [mV,dU,Bool.and_eq_true] at hin
        simp only [ko]
        have h:=ih (.draw l) tr F s (fun _=>hF) hin.1
        generalize vR d T n (.draw l) tr s=r1 at h ⊢
        cases r1 with
        | bad=>exact trivial
        | val v s'=>exact absurd h.1 (by simp [fA])
        | ok e t' s' es =>
          obtain ⟨_,F',h1,h2,h3⟩:=h
          simp only
          split
          · rename_i hi
            have h':=ih (.ops r) t' F' s' (fun _=>h2) (by rw [h3];exact hin.2)
            generalize vR d T n (.ops r) t' s'=r2 at h' ⊢
            cases r2 with
            | bad=>exact trivial
            | ok e2 t2 s2 es2=>obtain ⟨_,F2,k1,k2,k3⟩:=h';exact ⟨rfl,F2,by simp [ev,h1,hi,k1],k2,by rw [k3,h3]⟩
            | val v s2=>exact absurd h'.1 (by simp [fA])
          · exact trivial
      | rangeF f ps a b=>exact trivial
      | region l =>
        simp only [ko]
        have h:=ih (.ops l) tr F s (fun _=>hF) (by simpa [mV,dU] using hin)
        generalize vR d T n (.ops l) tr s=r at h ⊢
        cases r with
        | bad=>exact trivial
        | ok e t' s' es=>obtain ⟨_,F',h1,h2,h3⟩:=h;exact ⟨rfl,F',by simpa [ev] using h1,h2,h3⟩
        | val v s'=>exact absurd h.1 (by simp [fA])
      | draw m l =>
        simp only [ko]
        have h:=ih (.draw l) tr F s (fun _=>hF) (by simpa [mV,dU] using hin)
        generalize vR d T n (.draw l) tr s=r at h ⊢
        cases r with
        | bad=>exact trivial
        | ok e t' s' es =>
          obtain ⟨_,F',h1,h2,h3⟩:=h
          simp only
          split
          · rename_i hi;exact ⟨rfl,F',by simp [ev,h1,hi],h2,h3⟩
          · exact trivial
        | val v s'=>exact trivial
      | seq a b =>
        simp only [mV,dU,Bool.and_eq_true] at hin
        simp only [ko]
        have h:=ih (.code a) tr F s (fun _=>hF) hin.1
        generalize vR d T n (.code a) tr s=r at h ⊢
        cases r with
        | bad=>exact trivial
        | val v s'=>exact absurd h.1 (by simp [fA])
        | ok e t' s' es =>
          obtain ⟨_,F',h1,h2,h3⟩:=h
          cases e with
          | nrm =>
            simp only
            have h':=ih (.code b) t' F' s' (fun _=>h2) (by rw [h3];exact hin.2)
            generalize vR d T n (.code b) t' s'=r2 at h' ⊢
            cases r2 with
            | bad=>exact trivial
            | ok e2 t2 s2 es2=>obtain ⟨_,F2,k1,k2,k3⟩:=h';exact ⟨rfl,F2,by simp [ev,h1,k1],k2,by rw [k3,h3]⟩
            | val v s2=>exact absurd h'.1 (by simp [fA])
          | ext id=>exact ⟨rfl,F',by simp [ev,h1],h2,h3⟩
          | ret=>exact ⟨rfl,F',by simp [ev,h1],h2,h3⟩
      | cond cnd a b =>
        simp only [mV,dU,Bool.and_eq_true] at hin
        simp only [ko]
        rw [aZ hF hin.1]
        cases hc:cnd.ev F <;> simp only <;> (try exact trivial)
        rename_i q
        have h:=ih (.code (if q then a else b)) tr F s (fun _=>hF) (by cases q <;> simp [mV,hin.2.1,hin.2.2])
        generalize vR d T n (.code (if q then a else b)) tr s=r at h ⊢
        cases r with
        | bad=>exact trivial
        | ok e t' s' es=>obtain ⟨_,F',h1,h2,h3⟩:=h;exact ⟨rfl,F',by simpa [ev,hc] using h1,h2,h3⟩
        | val v s'=>exact absurd h.1 (by simp [fA])
      | block id a =>
        simp only [ko]
        have h:=ih (.code a) tr F s (fun _=>hF) (by simpa [mV,dU] using hin)
        generalize vR d T n (.code a) tr s=r at h ⊢
        cases r with
        | bad=>exact trivial
        | val v s'=>exact absurd h.1 (by simp [fA])
        | ok e t' s' es =>
          obtain ⟨_,F',h1,h2,h3⟩:=h
          cases e with
          | nrm=>exact ⟨rfl,F',by simp [ev,h1],h2,h3⟩
          | ret=>exact ⟨rfl,F',by simp [ev,h1],h2,h3⟩
          | ext i =>
            simp only
            split
            · rename_i hi;exact ⟨rfl,F',by simp [ev,h1,hi],h2,h3⟩
            · rename_i hi;exact ⟨rfl,F',by simp [ev,h1,hi],h2,h3⟩
      | loop a =>
        have hin':dU F.length a=true:=by simpa [mV,dU] using hin
        simp only [ko]
        have h:=ih (.code a) tr F s (fun _=>hF) hin'
        generalize vR d T n (.code a) tr s=r at h ⊢
        cases r with
        | bad=>exact trivial
        | val v s'=>exact absurd h.1 (by simp [fA])
        | ok e t' s' es =>
          obtain ⟨_,F',h1,h2,h3⟩:=h
          cases e with
          | nrm =>
            simp only
            have h':=ih (.code (.loop a)) t' F' s' (fun _=>h2) (by rw [h3];exact hin)
            generalize vR d T n (.code (.loop a)) t' s'=r2 at h' ⊢
            cases r2 with
            | bad=>exact trivial
            | ok e2 t2 s2 es2=>obtain ⟨_,F2,k1,k2,k3⟩:=h';exact ⟨rfl,F2,by simp [ev,h1,k1],k2,by rw [k3,h3]⟩
            | val v s2=>exact absurd h'.1 (by simp [fA])
          | ext id=>exact ⟨rfl,F',by simp [ev,h1],h2,h3⟩
          | ret=>exact ⟨rfl,F',by simp [ev,h1],h2,h3⟩
    | ops l =>
      have hF:=hF0 rfl
      clear hF0
      cases l with
      | nil=>exact ⟨rfl,F,by simp [ev],hF,rfl⟩
      | cons o r =>
        simp only [mV,List.all_cons,Bool.and_eq_true] at hin
        obtain ⟨ho1,ho2,ho3⟩:=nO hin.1
        show V8 d (n + 1) T (.ops (o :: r)) F s (Ei T (vR d T n) o r tr s)
        simp only [Ei]
        rw [RG hF ho3]
        have rest:∀ (v:AV) (s':St) (R:pX),vR d T n (.ops r) (uw tr o.dst v) s'=R → (ev T (n + 1) (.ops (o :: r)) F s=ev T n (.ops r) (fQ F o.dst v) s') → V8 d (n + 1) T (.ops (o :: r)) F s R:=fun v s' R hR he=>by
          have h:=ih (.ops r) (uw tr o.dst v) (fQ F o.dst v) s' (fun _=>yP hF ho2 v) (by rw [ug];exact hin.2)
          rw [hR] at h
          cases R with
          | bad=>exact trivial
          | ok e t' s2 es=>obtain ⟨_,F',h1,h2,h3⟩:=h;exact ⟨rfl,F',by rw [he];exact h1,h2,by rw [h3,ug]⟩
          | val v s2=>exact absurd h.1 (by simp [fA])
        cases hg:gd F o.guard with
        | none=>exact trivial
        | some q =>
          cases q with
          | false=>exact rest _ _ _ rfl (by simp [ev,hg])
          | true =>
            simp only
            cases hc:dW o.op with
            | true =>
              simp only
              rw [Gy hF ho1]
              cases hco:dP F o.op with
              | none=>exact trivial
              | some p =>
                obtain ⟨f,args⟩:=p
                simp only
                have h:=ih (.call f args) .e [] s (fun h=>by simp [fA] at h) trivial
                generalize vR d T n (.call f args) .e s=r2 at h ⊢
                cases r2 with
                | bad=>exact trivial
                | ok e t' s2 es=>exact absurd h.1 (by simp [fA])
                | val v s2 =>
                  obtain ⟨_,e2,es2,h1⟩:=h
                  exact rest v s2 _ rfl (by simp [ev,hg,hc,hco,h1])
            | false =>
              simp only
              rw [RO hF ho1]
              cases hv:bn o.op F s.get s.next with
              | none=>exact trivial
              | some p =>
                obtain ⟨v,ps,qs⟩:=p
                exact rest v _ _ rfl (by simp [ev,hg,hc,hv])
    | draw l =>
      have hF:=hF0 rfl
      clear hF0
      cases l with
      | nil=>exact ⟨rfl,F,by simp [ev],hF,rfl⟩
      | cons o r =>
        simp only [mV,List.all_cons,Bool.and_eq_true] at hin
        obtain ⟨ho1,ho2,ho3⟩:=nO hin.1
        show V8 d (n + 1) T (.draw (o :: r)) F s (zU T (vR d T n) o r tr s)
        simp only [zU]
        rw [RG hF ho3]
        have rest : ∀ (v : AV) (s' : St) (en : Entry), (∀ e F' s2 es, ev T n (.draw r) (fQ F o.dst v) s' = some (e, F', s2, es) → ev T (n + 1) (.draw (o :: r)) F s = some (.nrm, F', s2, en :: es)) →
            V8 d (n + 1) T (.draw (o :: r)) F s (match vR d T n (.draw r) (uw tr o.dst v) s' with
              | .ok e F' s' es=>.ok .nrm F' s' (en :: es)
              | _=>.bad):=fun v s' en he=>by
          have h:=ih (.draw r) (uw tr o.dst v) (fQ F o.dst v) s' (fun _=>yP hF ho2 v) (by rw [ug];exact hin.2)
          generalize vR d T n (.draw r) (uw tr o.dst v) s'=R at h ⊢
          cases R with
          | bad=>exact trivial
          | ok e t' s2 es=>obtain ⟨_,F',h1,h2,h3⟩:=h;exact ⟨rfl,F',he _ _ _ _ h1,h2,by rw [h3,ug]⟩
          | val v s2=>exact trivial
        cases hg:gd F o.guard with
        | none=>exact trivial
        | some q =>
          cases q with
          | false=>exact rest _ _ _ (fun e F' s2 es h1=>by simp [ev,hg,h1])
          | true =>
            simp only
            cases hc:dW o.op with
            | true =>
              simp only
              rw [Gy hF ho1]
              cases hco:dP F o.op with
              | none=>exact trivial
              | some p =>
                obtain ⟨f,args⟩:=p
                simp only
                have h:=ih (.call f args) .e [] (s.keep (reach s 1000 [] (d9 args))) (fun h=>by simp [fA] at h) trivial
                generalize vR d T n (.call f args) .e (s.keep (reach s 1000 [] (d9 args)))=r2 at h ⊢
                cases r2 with
                | bad=>exact trivial
                | ok e t' s2 es=>exact absurd h.1 (by simp [fA])
                | val v s2 =>
                  obtain ⟨_,e2,es2,h1⟩:=h
                  simp only
                  split
                  · rename_i hb
                    refine rest v _ _ fun e F' s3 es h3=>?_
                    simp only [ev,hg,hc,if_true,hco,h1,hb,h3]
                  · exact trivial
            | false =>
              simp only
              rw [RO hF ho1,VG hF ho1]
              cases hv:bn o.op F s.get s.next with
              | none=>exact trivial
              | some p =>
                obtain ⟨v,ps,qs⟩:=p
                simp only
                split
                · rename_i hb
                  refine rest v _ _ fun e F' s3 es h3=>?_
                  simp only [ev,hg,hc,Bool.false_eq_true,if_false,hv,hb,if_true,h3]
                · exact trivial
    | call f args =>
      show V8 d (n + 1) T (.call f args) F s (BJ d T (vR d T n) f args s)
      simp only [BJ]
      cases hTf:T f with
      | none=>exact trivial
      | some tf =>
        simp only
        cases hx:(if tf.see then views s.get args else some (args,[])) with
        | none=>exact trivial
        | some p =>
          obtain ⟨xs,ps⟩:=p
          simp only
          split
          · rename_i hlen
            have hfi:=hT f tf hTf
            simp only [RN,Bool.and_eq_true,decide_eq_true_eq] at hfi
            obtain ⟨hf1,hf2,hf3⟩:=hfi
            have hfl:(iN xs tf.af.ntmps).length=tf.af.ntmps:=by simp [iN];omega
            have h:=ih (.code tf.af.body) (wT 0 xs (Tr.full (.tup []) d)) (iN xs tf.af.ntmps) (s.puts ps) (fun _=>Iy hf3 hlen) (by rw [hfl];exact hf1)
            generalize vR d T n (.code tf.af.body) (wT 0 xs (Tr.full (.tup []) d)) (s.puts ps)=r2 at h ⊢
            cases r2 with
            | bad=>exact trivial
            | val v s2=>exact absurd h.1 (by simp [fA])
            | ok e t' s2 es =>
              obtain ⟨_,F',h1,h2,h3⟩:=h
              have hres:=Td h2 s2.get (l:=tf.af.results) (by rw [h3,hfl];exact hf2)
              have fin : ∀ (e : Ex), (∀ id, e ≠ .ext id) → ev T n (.code tf.af.body) (iN xs tf.af.ntmps) (s.puts ps) = some (e, F', s2, es) →
                  V8 d (n + 1) T (.call f args) F s (match Ve tf.af.results t' s2.get with
                    | some v => if tf.forget then match view s2.get v with
                        | some (v',qs)=>.val v' ((s2.puts qs).old s.next)
                        | none=>.bad
                      else .val v s2
                    | none=>.bad):=fun e he h1=>by
                rw [hres]
                cases hr:lZ tf.af.results F' s2.get with
                | none=>exact trivial
                | some v =>
                  simp only
                  split
                  · rename_i hfo
                    cases hvw:view s2.get v with
                    | none=>exact trivial
                    | some p =>
                      obtain ⟨v',qs⟩:=p
                      refine ⟨rfl,.ret,[],?_⟩
                      cases e with
                      | nrm=>simp only [ev,hTf,hx,h1,hr,hfo,if_true,hvw]
                      | ret=>simp only [ev,hTf,hx,h1,hr,hfo,if_true,hvw]
                      | ext id=>exact absurd rfl (he id)
                  · rename_i hfo
                    refine ⟨rfl,.ret,[],?_⟩
                    cases e with
                    | nrm=>simp only [ev,hTf,hx,h1,hr,hfo,if_false,Bool.false_eq_true]
                    | ret=>simp only [ev,hTf,hx,h1,hr,hfo,if_false,Bool.false_eq_true]
                    | ext id=>exact absurd rfl (he id)
              cases e with
              | nrm=>exact fin .nrm (fun id h=>by cases h) h1
              | ret=>exact fin .ret (fun id h=>by cases h) h1
              | ext id=>exact trivial
          · exact trivial
theorem Hy {P:Program} (hmix:P.follows .mixedOrders=true) {d:Nat} {T:Nat → Option oC} (hT:∀ f tf,T f=some tf → bF P f=some tf.af) (hin:Zd d T) {n f:Nat} {args:List AV} {s s':St} {v:AV}
    (h:vR d T n (.call f args) .e s=.val v s'):aF P f args s fun v2 s2=>v2=v ∧ s2=s':=by
  have:=ZW hin n (.call f args) .e [] s (fun h=>by simp [fA] at h) trivial
  rw [h] at this
  obtain ⟨_,e,es,h1⟩:=this
  exact Tp hmix hT h1
end Go.AX
