/- What Parse computes, in plain words: pages, and who is open. -/
import Derived.Test.YtdeclhljkmlpiaaGreatTxE
set_option linter.unusedSimpArgs false
set_option linter.unusedVariables false
namespace W10
open Go Go.AX Go.AX.Ty
def xP (n:Str):Bool:=decide (n ∈ [[112],[108,105],[111,112,116,105,111,110],[116,100],[116,114]])
structure PS where
  pg:List Ty.Node
  os:List Nat
def dN:Ty.Node:=⟨[],[],[],0,[]⟩
def nd (p:List Ty.Node) (k:Nat):Ty.Node:=p.getD k dN
def xU (os:List Nat):Nat:=os.headD 0
def dX (p:List Ty.Node) (u:Nat) (x:Ty.Node):List Ty.Node:=
  (p ++ [(⟨x.name,x.attrs,x.text,u,x.kids⟩:Ty.Node)]).set u (⟨(nd p u).name,(nd p u).attrs,(nd p u).text,(nd p u).up,(nd p u).kids ++ [(p.length:Int)]⟩:Ty.Node)
def xV (st:PS) (x:Ty.Node):Except Int PS:=if 400 ≤ st.pg.length then .error 100 else .ok ⟨dX st.pg (xU st.os) x,st.os⟩
def sj (p:List Ty.Node) (os:List Nat) (n:Str):List Nat:=if (nd p (xU os)).name=n ∧ xP n=true then os.tail else os
def jP (st:PS) (t:Tag):Except Int PS:=
  if 60 < (sj st.pg st.os t.name).length then .error 101 else
  if 400 ≤ st.pg.length then .error 100 else
  .ok ⟨dX st.pg (xU (sj st.pg st.os t.name)) ⟨t.name,t.attrs,[],0,[]⟩,if jq t.name=true then sj st.pg st.os t.name else st.pg.length :: sj st.pg st.os t.name⟩
def kI (p:List Ty.Node) (n:Str):List Nat → Option (List Nat)
  | []=>none
  | [_]=>none
  | a :: b :: r=>if (nd p a).name=n then some (b :: r) else kI p n (b :: r)
def vo (st:PS) (n:Str):PS:=⟨st.pg,(kI st.pg n st.os).getD st.os⟩
def lastT (p:List Ty.Node) (u:Nat):Option Nat:=match (nd p u).kids.getLast? with
  | none=>none
  | some k=>if (nd p k.toNat).name=[] then some k.toNat else none
def dK (p:List Ty.Node) (k:Nat) (s:Str):List Ty.Node:=p.set k ⟨(nd p k).name,(nd p k).attrs,(nd p k).text ++ s,(nd p k).up,(nd p k).kids⟩
def jv (st:PS) (s:Str):Except Int PS:=match lastT st.pg (xU st.os) with
  | some k=>.ok ⟨dK st.pg k s,st.os⟩
  | none=>xV st ⟨[],[],s,0,[]⟩
def eO (st:PS) (t:Tag):Except Int PS:=if t.kind=1 then jP st t else if t.kind=2 then .ok (vo st t.name) else if t.kind=3 then jv st t.text else .ok st
def fE:List Tag → PS → Except Int PS
  | [],st=>.ok st
  | t :: r, st => match eO st t with
    | .ok st'=>fE r st'
    | .error e=>.error e
def tV:PS:=⟨[⟨[],[],[],-1,[]⟩],[0]⟩
def WH:Except Int PS → List Ty.Node × Int
  | .ok st=>(st.pg,0)
  | .error e=>([],e)
def dH (s:Str):List Ty.Node × Int:=WH (fE (dB s) tV)
theorem qx:∀ (a b:List Tag) (st:PS),fE (a ++ b) st=match fE a st with | .ok st'=>fE b st' | .error e=>.error e
  | [],b,st=>rfl
  | t :: a, b, st => by
    show (match eO st t with | .ok st'=>fE (a ++ b) st' | .error e=>.error e)=_
    rw [fE]
    cases eO st t with
    | error e=>rfl
    | ok st'=>exact qx a b st'
theorem uz {a b:List Tag} {st st':PS} (h:fE a st=.ok st'):fE (a ++ b) st=fE b st':=by rw [qx,h]
theorem qM (t:Tag) (st:PS):fE [t] st=eO st t:=by
  simp only [fE];cases eO st t <;> rfl
theorem tC {p:List Ty.Node} {k:Nat} (h:k < p.length):p[k]? = some (nd p k):=by simp [nd,List.getD_eq_getElem?_getD,List.getElem?_eq_getElem h]
theorem fM {p:List Ty.Node} {k:Nat} {x:Ty.Node} (h:p[k]? = some x):nd p k=x:=by simp [nd,List.getD_eq_getElem?_getD,h]
theorem jf {p:List Ty.Node} {u:Nat} {x:Ty.Node}:(dX p u x).length=p.length + 1:=by simp [dX]
theorem gV {p:List Ty.Node} {u:Nat} {x:Ty.Node} (h:u < p.length) (i:Nat) :
    nd (dX p u x) i=if i=u then ⟨(nd p u).name,(nd p u).attrs,(nd p u).text,(nd p u).up,(nd p u).kids ++ [(p.length:Int)]⟩ else if i=p.length then ⟨x.name,x.attrs,x.text,u,x.kids⟩ else nd p i:=by
  unfold dX
  generalize hy:(⟨(nd p u).name,(nd p u).attrs,(nd p u).text,(nd p u).up,(nd p u).kids ++ [(p.length:Int)]⟩:Ty.Node)=y
  simp only [nd,List.getD_eq_getElem?_getD,List.getElem?_set,List.length_append,List.length_cons,List.length_nil]
  by_cases h1:i=u
  · subst h1;rw [if_pos rfl,if_pos (by omega),if_pos rfl];rfl
  · rw [if_neg (Ne.symm h1),if_neg h1]
    by_cases h2:i=p.length
    · subst h2;simp
    · rw [if_neg h2]
      rcases Nat.lt_or_ge i p.length with h3 | h3
      · rw [List.getElem?_append_left h3]
      · rw [List.getElem?_append_right h3,List.getElem?_eq_none h3,List.getElem?_eq_none (by simp;omega)]
theorem qz {p:List Ty.Node} {k:Nat} {s:Str}:(dK p k s).length=p.length:=by simp [dK]
theorem kU {p:List Ty.Node} {k:Nat} {s:Str} (h:k < p.length) (i:Nat) :
    nd (dK p k s) i=if i=k then ⟨(nd p k).name,(nd p k).attrs,(nd p k).text ++ s,(nd p k).up,(nd p k).kids⟩ else nd p i:=by
  unfold dK
  generalize hy:(⟨(nd p k).name,(nd p k).attrs,(nd p k).text ++ s,(nd p k).up,(nd p k).kids⟩:Ty.Node)=y
  simp only [nd,List.getD_eq_getElem?_getD,List.getElem?_set]
  by_cases h1:i=k
  · subst h1;simp [h]
  · rw [if_neg (Ne.symm h1),if_neg h1]
def EL (x:Ty.Node):Prop:=(x.name=[] ∧ x.text ≠ [] ∧ x.attrs=[] ∧ x.kids=[]) ∨ (su x.name ∧ zO x.attrs ∧ x.text=[] ∧ (jq x.name=true → x.kids=[]))
def lG (p:List Ty.Node) (m n:Nat):List Int:=((List.range m).filter fun k=>decide (1 ≤ k) && decide ((nd p k).up=(n:Int))).map fun k:Nat=>(k:Int)
structure PI (p:List Ty.Node):Prop where
  pos:0 < p.length
  le:p.length ≤ 400
  root:(nd p 0).name=[] ∧ (nd p 0).text=[] ∧ (nd p 0).attrs=[] ∧ (nd p 0).up = -1
  node:∀ k,1 ≤ k → k < p.length → EL (nd p k)
  up:∀ k,1 ≤ k → k < p.length → 0 ≤ (nd p k).up ∧ (nd p k).up < k
  kids:∀ n,n < p.length → (nd p n).kids=lG p p.length n
  apart:∀ n,n < p.length → ∀ (i:Nat) (a b:Int),(nd p n).kids[i]? = some a → (nd p n).kids[i + 1]? = some b → (nd p a.toNat).name ≠ [] ∨ (nd p b.toNat).name ≠ []
  sty:∀ k,k < p.length → (nd p k).name=bH → (nd p k).kids=[] ∨ ∃ j:Nat,(nd p k).kids=[(j:Int)] ∧ (nd p j).name=[] ∧ ∀ w,dJ ((nd p j).text ++ (oq ++ w))=(nd p j).text.length
  imp:∀ k,1 ≤ k → k < p.length → xP (nd p k).name=true → (nd p (nd p k).up.toNat).name ≠ (nd p k).name
def Chain (p:List Ty.Node):List Nat → Prop
  | []=>False
  | [a]=>a=0
  | a :: b :: r=>(1 ≤ a ∧ a < p.length ∧ (nd p a).name ≠ [] ∧ jq (nd p a).name=false ∧ (nd p a).up=(b:Int) ∧ (nd p b).kids.getLast? = some (a:Int)) ∧ Chain p (b :: r)
end W10
/- Pages: a node more, a text that is longer. -/
namespace W10
open Go Go.AX Go.AX.Ty
theorem I5 (p:List Ty.Node) (m n:Nat) (hm:1 ≤ m):lG p (m + 1) n=lG p m n ++ (if (nd p m).up=(n:Int) then [(m:Int)] else []):=by
  unfold lG
  rw [List.range_succ,List.filter_append,List.map_append]
  congr 1
  by_cases h:(nd p m).up=(n:Int) <;> simp [h,hm]
theorem wN {p q:List Ty.Node} {m n:Nat} (h:∀ k,k < m → 1 ≤ k → (nd p k).up=(nd q k).up):lG p m n=lG q m n:=by
  unfold lG
  congr 1
  refine List.filter_congr fun k hk=>?_
  by_cases h1:1 ≤ k
  · simp [h k (List.mem_range.1 hk) h1]
  · simp [h1]
theorem mq {p:List Ty.Node} {m n:Nat} {a:Int}:a ∈ lG p m n ↔ ∃ k:Nat,a=k ∧ k < m ∧ 1 ≤ k ∧ (nd p k).up=n:=by
  simp only [lG,List.mem_map,List.mem_filter,List.mem_range,Bool.and_eq_true,decide_eq_true_eq]
  exact ⟨fun ⟨k,⟨h1,h2,h3⟩,h4⟩=>⟨k,h4.symm,h1,h2,h3⟩,fun ⟨k,h4,h1,h2,h3⟩=>⟨k,⟨h1,h2,h3⟩,h4.symm⟩⟩
theorem j6 (p:List Ty.Node) (m n:Nat):(lG p m n).Pairwise (· < ·):=by
  unfold lG
  rw [List.pairwise_map]
  refine List.Pairwise.imp ?_ (List.pairwise_lt_range.filter _)
  intro a b h;omega
theorem PI.kid {p:List Ty.Node} (I:PI p) {n:Nat} (hn:n < p.length) {a:Int} (h:a ∈ (nd p n).kids):∃ k:Nat,a=k ∧ k < p.length ∧ 1 ≤ k ∧ (nd p k).up=n ∧ n < k:=by
  rw [I.kids n hn] at h
  obtain ⟨k,h1,h2,h3,h4⟩:=mq.1 h
  have:=I.up k h3 h2
  exact ⟨k,h1,h2,h3,h4,by omega⟩
theorem Ms {p:List Ty.Node} (I:PI p) {n:Nat} (hn:p.length ≤ n):lG p p.length n=[]:=by
  rw [List.eq_nil_iff_forall_not_mem]
  intro a ha
  obtain ⟨k,h1,h2,h3,h4⟩:=mq.1 ha
  have:=I.up k h3 h2
  omega
theorem PI.add {p:List Ty.Node} (I:PI p) {u:Nat} {x:Ty.Node} (hu:u < p.length) (hl:p.length < 400) (hx:EL x) (hk:x.kids=[])
    (hel:1 ≤ u → (nd p u).name ≠ [] ∧ jq (nd p u).name=false) (hap:x.name=[] → ∀ a,(nd p u).kids.getLast? = some a → (nd p a.toNat).name ≠ [])
    (hst:(nd p u).name=bH → (nd p u).kids=[] ∧ x.name=[] ∧ ∀ w,dJ (x.text ++ (oq ++ w))=x.text.length)
    (him:xP x.name=true → (nd p u).name ≠ x.name):PI (dX p u x):=by
  have D:=gV (x:=x) hu
  have hne:u ≠ p.length:=by omega
  have nm:∀ i,(nd (dX p u x) i).name=if i=p.length then x.name else (nd p i).name:=fun i=>by
    rw [D i];by_cases h1:i=u
    · subst h1;rw [if_pos rfl,if_neg hne]
    · rw [if_neg h1];split <;> rfl
  have tx:∀ i,(nd (dX p u x) i).text=if i=p.length then x.text else (nd p i).text:=fun i=>by
    rw [D i];by_cases h1:i=u
    · subst h1;rw [if_pos rfl,if_neg hne]
    · rw [if_neg h1];split <;> rfl
  have at':∀ i,(nd (dX p u x) i).attrs=if i=p.length then x.attrs else (nd p i).attrs:=fun i=>by
    rw [D i];by_cases h1:i=u
    · subst h1;rw [if_pos rfl,if_neg hne]
    · rw [if_neg h1];split <;> rfl
  have up:∀ i,(nd (dX p u x) i).up=if i=p.length then (u:Int) else (nd p i).up:=fun i=>by
    rw [D i];by_cases h1:i=u
    · subst h1;rw [if_pos rfl,if_neg hne]
    · rw [if_neg h1];split <;> rfl
  have kd:∀ i,(nd (dX p u x) i).kids=if i=u then (nd p u).kids ++ [(p.length:Int)] else if i=p.length then [] else (nd p i).kids:=fun i=>by
    rw [D i];by_cases h1:i=u
    · rw [if_pos h1,if_pos h1]
    · rw [if_neg h1,if_neg h1];split
      · exact hk
      · rfl
  have len:(dX p u x).length=p.length + 1:=jf
  have old:∀ i,i < p.length → ∀ a ∈ (nd p i).kids,a.toNat ≠ p.length:=fun i hi a ha=>by
    obtain ⟨k,h1,h2,_⟩:=I.kid hi ha;omega
  refine ⟨by omega,by omega,?_,fun k h1 h2=>?_,fun k h1 h2=>?_,fun n hn=>?_,fun n hn i a b ha hb=>?_,fun k h1 h2=>?_,fun k h1 h2 h3=>?_⟩
  · have h0:(0:Nat) ≠ p.length:=by have:=I.pos;omega
    rw [nm,tx,at',up,if_neg h0,if_neg h0,if_neg h0,if_neg h0];exact I.root
  · rw [len] at h2
    unfold EL
    rw [nm,tx,at',kd]
    by_cases e:k=p.length
    · have e':k ≠ u:=by omega
      rw [if_pos e,if_pos e,if_pos e,if_neg e',if_pos e]
      rcases hx with ⟨a,b,c,d⟩ | ⟨a,b,c,d⟩
      · exact .inl ⟨a,b,c,rfl⟩
      · exact .inr ⟨a,b,c,fun _=>rfl⟩
    · rw [if_neg e,if_neg e,if_neg e]
      have hkn:=I.node k h1 (by omega)
      by_cases e':k=u
      · subst e'
        obtain ⟨q1,q2⟩:=hel h1
        rcases hkn with ⟨a,_⟩ | ⟨a,b,c,d⟩
        · exact absurd a q1
        · exact .inr ⟨a,b,c,fun h=>by rw [q2] at h;simp at h⟩
      · rw [if_neg e',if_neg e];exact hkn
  · rw [len] at h2
    rw [up]
    by_cases e:k=p.length
    · rw [if_pos e];omega
    · rw [if_neg e];exact I.up k h1 (by omega)
  · rw [len] at hn ⊢
    rw [I5 _ _ _ (by have:=I.pos;omega),wN (q:=p) (fun k h1 h2=>by rw [up,if_neg (by omega)]),up,if_pos rfl,kd]
    by_cases e:n=u
    · subst e;rw [if_pos rfl,if_pos rfl,I.kids n hu]
    · rw [if_neg e,if_neg (by omega:¬ (u:Int)=(n:Int)),List.append_nil]
      by_cases e':n=p.length
      · subst e';rw [if_pos rfl,Ms I (Nat.le_refl _)]
      · rw [if_neg e',I.kids n (by omega)]
  · rw [len] at hn
    rw [kd] at ha hb
    rw [nm,nm]
    by_cases e:n=u
    · subst e
      rw [if_pos rfl] at ha hb
      rcases Nat.lt_or_ge (i + 1) (nd p n).kids.length with h | h
      · rw [List.getElem?_append_left (by omega)] at ha hb
        rw [if_neg (old n hu a (List.mem_of_getElem? ha)),if_neg (old n hu b (List.mem_of_getElem? hb))]
        exact I.apart n hu i a b ha hb
      · have hi:i + 1 < ((nd p n).kids ++ [(p.length:Int)]).length:=by
          rcases Nat.lt_or_ge (i + 1) ((nd p n).kids ++ [(p.length:Int)]).length with h' | h'
          · exact h'
          · rw [List.getElem?_eq_none h'] at hb;simp at hb
        simp only [List.length_append,List.length_cons,List.length_nil] at hi
        have hi':i + 1=(nd p n).kids.length:=by omega
        rw [List.getElem?_append_left (by omega)] at ha
        rw [List.getElem?_append_right h,hi',Nat.sub_self] at hb
        simp only [List.getElem?_cons_zero,Option.some.injEq] at hb
        subst hb
        rw [if_neg (old n hu a (List.mem_of_getElem? ha)),if_pos (by simp)]
        by_cases hx0:x.name=[]
        · exact .inl (hap hx0 a (by rw [List.getLast?_eq_getElem?,← hi'];exact ha))
        · exact .inr hx0
    · rw [if_neg e] at ha hb
      by_cases e':n=p.length
      · rw [if_pos e'] at ha;simp at ha
      · rw [if_neg e'] at ha hb
        have hn':n < p.length:=by omega
        rw [if_neg (old n hn' a (List.mem_of_getElem? ha)),if_neg (old n hn' b (List.mem_of_getElem? hb))]
        exact I.apart n hn' i a b ha hb
  · rw [len] at h1
    rw [nm] at h2
    rw [kd]
    by_cases e:k=u
    · subst e
      rw [if_neg hne] at h2
      obtain ⟨q1,q2,q3⟩:=hst h2
      rw [if_pos rfl,q1]
      refine .inr ⟨p.length,rfl,by rw [nm,if_pos rfl];exact q2,fun w=>?_⟩
      rw [tx,if_pos rfl];exact q3 w
    · rw [if_neg e]
      by_cases e':k=p.length
      · rw [if_pos e'];exact .inl rfl
      · rw [if_neg e'] at h2 ⊢
        rcases I.sty k (by omega) h2 with h | ⟨j,h,h3,h4⟩
        · exact .inl h
        · have hj:=old k (by omega) (j:Int) (by rw [h];simp)
          simp only [Int.toNat_natCast] at hj
          refine .inr ⟨j,h,by rw [nm,if_neg hj];exact h3,fun w=>?_⟩
          rw [tx,if_neg hj];exact h4 w
  · rw [len] at h2
    rw [nm] at h3
    rw [up,nm,nm]
    by_cases e:k=p.length
    · simp only [if_pos e,Int.toNat_natCast,if_neg hne] at h3 ⊢;exact him h3
    · simp only [if_neg e] at h3 ⊢
      have:=I.up k h1 (by omega)
      rw [if_neg (by omega)];exact I.imp k h1 (by omega) h3
theorem PI.more {p:List Ty.Node} (I:PI p) {k:Nat} {s:Str} (h1:1 ≤ k) (h2:k < p.length) (hn:(nd p k).name=[]) (hst:(nd p (nd p k).up.toNat).name ≠ bH):PI (dK p k s):=by
  have D:=kU (s:=s) h2
  have nm:∀ i,(nd (dK p k s) i).name=(nd p i).name:=fun i=>by
    rw [D i];split
    · rename_i h;rw [h]
    · rfl
  have at':∀ i,(nd (dK p k s) i).attrs=(nd p i).attrs:=fun i=>by
    rw [D i];split
    · rename_i h;rw [h]
    · rfl
  have up:∀ i,(nd (dK p k s) i).up=(nd p i).up:=fun i=>by
    rw [D i];split
    · rename_i h;rw [h]
    · rfl
  have kd:∀ i,(nd (dK p k s) i).kids=(nd p i).kids:=fun i=>by
    rw [D i];split
    · rename_i h;rw [h]
    · rfl
  have tx:∀ i,i ≠ k → (nd (dK p k s) i).text=(nd p i).text:=fun i hi=>by rw [D i,if_neg hi]
  have txk:(nd (dK p k s) k).text=(nd p k).text ++ s:=by rw [D k,if_pos rfl]
  have len:(dK p k s).length=p.length:=qz
  refine ⟨by rw [len];exact I.pos,by rw [len];exact I.le,?_,fun j g1 g2=>?_,fun j g1 g2=>?_,fun n hn'=>?_,fun n hn' i a b ha hb=>?_,fun j g1 g2=>?_,fun j g1 g2 g3=>?_⟩
  · rw [nm,at',up,tx 0 (by omega)];exact I.root
  · rw [len] at g2
    have hj:=I.node j g1 g2
    unfold EL
    rw [nm,at',kd]
    by_cases e:j=k
    · subst e
      rw [txk]
      rcases hj with ⟨a,b,c,d⟩ | ⟨a,b,c,d⟩
      · exact .inl ⟨a,by simp [b],c,d⟩
      · exact absurd hn a.1
    · rw [tx j e];exact hj
  · rw [len] at g2;rw [up];exact I.up j g1 g2
  · rw [len] at hn' ⊢
    rw [kd,I.kids n hn']
    exact wN fun i _ _=>(up i).symm
  · rw [len] at hn'
    rw [kd] at ha hb
    rw [nm,nm];exact I.apart n hn' i a b ha hb
  · rw [len] at g1
    rw [nm] at g2
    rw [kd]
    rcases I.sty j g1 g2 with h | ⟨i,h,h3,h4⟩
    · exact .inl h
    · refine .inr ⟨i,h,by rw [nm];exact h3,fun w=>?_⟩
      have hi:i ≠ k:=fun e=>by
        subst e
        obtain ⟨k',q1,_,_,q4,_⟩:=I.kid g1 (show (i:Int) ∈ _ by rw [h];simp)
        have:k'=i:=by omega
        subst this
        rw [q4,Int.toNat_natCast] at hst
        exact hst g2
      rw [tx i hi];exact h4 w
  · rw [len] at g2
    rw [nm] at g3 ⊢
    rw [up,nm];exact I.imp j g1 g2 g3
theorem PI.zero:PI tV.pg:=by
  have h:∀ k:Nat,1 ≤ k → ¬ k < tV.pg.length:=fun k hk=>by show ¬ k < 1;omega
  have hk:∀ n:Nat,n < tV.pg.length → n=0:=fun n hn=>by have:n < 1:=hn;omega
  refine ⟨by decide,by decide,⟨rfl,rfl,rfl,rfl⟩,fun k a b=>absurd b (h k a),fun k a b=>absurd b (h k a),fun n hn=>?_,fun n hn i a b ha=>?_,fun k hk'=>?_,fun k a b=>absurd b (h k a)⟩
  · rw [hk n hn];rfl
  · rw [hk n hn] at ha;exact absurd ha (by simp [nd,tV])
  · rw [hk k hk'];intro;exact .inl rfl
end W10
/- Who is open; the tags of a page so far. -/
namespace W10
open Go Go.AX Go.AX.Ty
theorem jR {α β:Type} {f g:α → List β}:∀ {l:List α},(∀ a ∈ l,f a=g a) → l.flatMap f=l.flatMap g
  | [],_=>rfl
  | a :: l, h => by
    rw [List.flatMap_cons,List.flatMap_cons,h a (by simp),jR fun b hb=>h b (by simp [hb])]
def gN (p:List Ty.Node):Nat → Nat → List Tag
  | 0,_=>[]
  | f + 1, k => if (nd p k).name = [] then [l6 (nd p k).text] else if jq (nd p k).name = true then [dY (nd p k).name (nd p k).attrs]
    else dY (nd p k).name (nd p k).attrs :: ((nd p k).kids.flatMap (fun j=>gN p f j.toNat) ++ [bJ (nd p k).name])
def iU (p:List Ty.Node) (f:Nat) (l:List Int):List Tag:=l.flatMap fun j=>gN p f j.toNat
def gG (p:List Ty.Node):List Tag:=iU p 1000 (nd p 0).kids
def xJ (p:List Ty.Node) (f a:Nat) (l:List Int):List Tag:=(if a=0 then [] else [dY (nd p a).name (nd p a).attrs]) ++ iU p f l
def lY (p:List Ty.Node):List Nat → List Tag
  | []=>[]
  | b :: r=>lY p r ++ xJ p (1000 - r.length) b (nd p b).kids.dropLast
def iM (p:List Ty.Node):List Nat → List Tag
  | []=>[]
  | a :: r=>lY p r ++ xJ p (1000 - r.length) a (nd p a).kids
theorem Mr (p:List Ty.Node):iM p [0]=gG p:=rfl
theorem Chain.lt {p:List Ty.Node} (I:PI p):∀ {os:List Nat},Chain p os → ∀ a ∈ os,a < p.length
  | [],h=>absurd h (by simp [Chain])
  | [x], h => fun a ha => by
    have e:x=0:=h
    rw [List.mem_singleton] at ha
    have:=I.pos;omega
  | x :: y :: r, h => fun a ha => by
    rcases List.mem_cons.1 ha with rfl | ha
    · exact h.1.2.1
    · exact Chain.lt I h.2 a ha
theorem Chain.desc {p:List Ty.Node} (I:PI p):∀ {os:List Nat},Chain p os → os.Pairwise (· > ·)
  | [],h=>absurd h (by simp [Chain])
  | [x],h=>by simp
  | x :: y :: r, h => by
    have ih:=Chain.desc I h.2
    refine List.pairwise_cons.2 ⟨fun a ha=>?_,ih⟩
    have hy:y < x:=by
      have:=I.up x h.1.1 h.1.2.1
      have:=h.1.2.2.2.2.1;omega
    rcases List.mem_cons.1 ha with rfl | ha
    · exact hy
    · have:a < y:=(List.pairwise_cons.1 ih).1 a ha
      show a < x;omega
theorem Chain.up {p:List Ty.Node}:∀ {os:List Nat},Chain p os → ∀ a ∈ os,a ≠ 0 → ∃ b ∈ os,(nd p a).up=(b:Int)
  | [],h=>absurd h (by simp [Chain])
  | [x], h => fun a ha h0 => by
    have e:x=0:=h
    rw [List.mem_singleton] at ha
    omega
  | x :: y :: r, h => fun a ha h0 => by
    rcases List.mem_cons.1 ha with rfl | ha
    · exact ⟨y,by simp,h.1.2.2.2.2.1⟩
    · obtain ⟨b,h1,h2⟩:=Chain.up h.2 a ha h0
      exact ⟨b,List.mem_cons_of_mem _ h1,h2⟩
theorem Chain.ne {p:List Ty.Node} {os:List Nat} (h:Chain p os):∃ a r,os=a :: r:=by
  cases os with
  | nil=>exact absurd h (by simp [Chain])
  | cons a r=>exact ⟨a,r,rfl⟩
theorem Chain.el {p:List Ty.Node} {u:Nat} {r:List Nat} (h:Chain p (u :: r)) (h1:1 ≤ u):(nd p u).name ≠ [] ∧ jq (nd p u).name=false:=by
  cases r with
  | nil=>have e:u=0:=h;omega
  | cons b r=>exact ⟨h.1.2.2.1,h.1.2.2.2.1⟩
theorem Lh {p:List Ty.Node} (I:PI p) {os:List Nat} (C:Chain p os) {j:Nat} (hj:j < p.length) (ho:j ∉ os) {a:Int} (ha:a ∈ (nd p j).kids):∃ k:Nat,a=k ∧ k < p.length ∧ k ∉ os ∧ (nd p k).up=(j:Int):=by
  obtain ⟨k,h1,h2,h3,h4,_⟩:=I.kid hj ha
  refine ⟨k,h1,h2,fun hk=>?_,h4⟩
  obtain ⟨b,hb,e⟩:=C.up k hk (by omega)
  rw [h4] at e
  have:j=b:=by omega
  exact ho (this ▸ hb)
theorem yF {p:List Ty.Node} (I:PI p) {u:Nat} {r:List Nat} {x:Ty.Node} (C:Chain p (u :: r)):∀ (f j:Nat),j < p.length → j ∉ u :: r → gN (dX p u x) f j=gN p f j
  | 0,_,_,_=>rfl
  | f + 1, j, hj, ho => by
    have hu:u < p.length:=C.lt I u (by simp)
    have e:nd (dX p u x) j=nd p j:=by
      rw [gV hu,if_neg (fun h=>ho (by simp [h])),if_neg (by omega)]
    simp only [gN,e]
    rw [jR (g:=fun j=>gN p f j.toNat) fun a ha=>by
      obtain ⟨k,h1,h2,h3,_⟩:=Lh I C hj ho ha
      subst h1
      exact yF I C f k h2 h3]
theorem BI {p:List Ty.Node} (I:PI p) {u k:Nat} {r:List Nat} {s:Str} (C:Chain p (u :: r)) (hk:k < p.length) (hu:(nd p k).up=(u:Int)):∀ (f j:Nat),j < p.length → j ∉ u :: r → j ≠ k → gN (dK p k s) f j=gN p f j
  | 0,_,_,_,_=>rfl
  | f + 1, j, hj, ho, hjk => by
    have e:nd (dK p k s) j=nd p j:=by rw [kU hk,if_neg hjk]
    simp only [gN,e]
    rw [jR (g:=fun j=>gN p f j.toNat) fun a ha=>by
      obtain ⟨i,h1,h2,h3,h4⟩:=Lh I C hj ho ha
      subst h1
      refine BI I C hk hu f i h2 h3 fun e=>?_
      subst e
      rw [hu] at h4
      exact ho (by have : u = j := by omega
                   simp [this])]
theorem EA {l:List Int} (h:l.Pairwise (· < ·)) {a:Int} (ha:l.getLast? = some a):l=l.dropLast ++ [a] ∧ ∀ j ∈ l.dropLast,j < a:=by
  have e:l=l.dropLast ++ [a]:=by
    have hne:l ≠ []:=fun e=>by rw [e] at ha;simp at ha
    have:=List.dropLast_concat_getLast hne
    rw [List.getLast?_eq_some_getLast hne] at ha
    rw [← Option.some.inj ha];exact this.symm
  refine ⟨e,fun j hj=>?_⟩
  rw [e,List.pairwise_append] at h
  exact h.2.2 j hj a (by simp)
theorem qy {p q:List Ty.Node} (I:PI p) {os:List Nat} (D:os.Pairwise (· > ·)):∀ (r pre:List Nat) (a:Nat),os=pre ++ a :: r → Chain p (a :: r) → (∀ b ∈ r,nd q b=nd p b) →
    (∀ (f j b:Nat),j < p.length → j ∉ os → b ∈ r → (nd p j).up=(b:Int) → gN q f j=gN p f j) → lY q r=lY p r
  | [],_,_,_,_,_,_=>rfl
  | b :: r, pre, a, he, C, hn, hl => by
    have hb:b < p.length:=C.lt I b (by simp)
    simp only [lY]
    rw [qy I D r (pre ++ [a]) b (by rw [he];simp) C.2 (fun c hc=>hn c (by simp [hc])) (fun f j c h1 h2 h3 h4=>hl f j c h1 h2 (by simp [h3]) h4)]
    congr 1
    unfold xJ
    rw [hn b (by simp)]
    congr 1
    unfold iU
    refine jR fun j hj=>?_
    obtain ⟨_,hlt⟩:=EA (by rw [I.kids b hb];exact j6 _ _ _) C.1.2.2.2.2.2
    obtain ⟨k,h1,h2,h3,h4,h5⟩:=I.kid hb (List.dropLast_subset _ hj)
    have hka:=hlt j hj
    subst h1
    refine hl _ k b h2 (fun hm=>?_) (by simp) h4
    rw [he] at hm D
    rw [List.pairwise_append] at D
    obtain ⟨_,d2,d3⟩:=D
    rw [List.pairwise_cons,List.pairwise_cons] at d2
    rcases List.mem_append.1 hm with hm | hm
    · have:k > a:=d3 k hm a (by simp)
      omega
    · rcases List.mem_cons.1 hm with e | hm
      · omega
      · rcases List.mem_cons.1 hm with e | hm
        · omega
        · have:b > k:=d2.2.1 k hm
          omega
theorem uI (p:List Ty.Node) (f:Nat) (a b:List Int):iU p f (a ++ b)=iU p f a ++ iU p f b:=by simp [iU]
theorem ru (p:List Ty.Node) (f:Nat) (k:Nat):iU p f [(k:Int)]=gN p f k:=by simp [iU]
theorem yG {p:List Ty.Node} (I:PI p) {u:Nat} {r:List Nat} (C:Chain p (u :: r)) {a:Int} (ha:a ∈ (nd p u).kids):∃ k:Nat,a=k ∧ k < p.length ∧ k ∉ u :: r ∧ (nd p k).up=(u:Int):=by
  obtain ⟨k,h1,h2,h3,h4,h5⟩:=I.kid (C.lt I u (by simp)) ha
  refine ⟨k,h1,h2,fun hm=>?_,h4⟩
  rcases List.mem_cons.1 hm with e | hm
  · omega
  · have:=(List.pairwise_cons.1 (C.desc I)).1 k hm
    omega
theorem Dv {p:List Ty.Node} (I:PI p) {u:Nat} {r:List Nat} {x:Ty.Node} (C:Chain p (u :: r)):lY (dX p u x) r=lY p r:=by
  have hu:u < p.length:=C.lt I u (by simp)
  refine qy I (C.desc I) r [] u rfl C (fun b hb=>?_) (fun f j b h1 h2 _ _=>yF I C f j h1 h2)
  have:=(List.pairwise_cons.1 (C.desc I)).1 b hb
  rw [gV hu,if_neg (by omega),if_neg (by omega)]
theorem Da {p:List Ty.Node} (I:PI p) {u:Nat} {r:List Nat} {x:Ty.Node} (C:Chain p (u :: r)):iM (dX p u x) (u :: r)=iM p (u :: r) ++ gN (dX p u x) (1000 - r.length) p.length:=by
  have hu:u < p.length:=C.lt I u (by simp)
  simp only [iM]
  rw [Dv I C,List.append_assoc]
  congr 1
  unfold xJ
  rw [gV hu,if_pos rfl]
  simp only
  rw [uI,ru,← List.append_assoc]
  congr 2
  unfold iU
  refine jR fun j hj=>?_
  obtain ⟨k,h1,h2,h3,_⟩:=yG I C hj
  subst h1
  exact yF I C _ k h2 h3
theorem Kt {p:List Ty.Node} (I:PI p) {u:Nat} {r:List Nat} {x:Ty.Node} (C:Chain p (u :: r)) (hk:x.kids=[]):iM (dX p u x) (p.length :: u :: r)=iM p (u :: r) ++ [dY x.name x.attrs]:=by
  have hu:u < p.length:=C.lt I u (by simp)
  simp only [iM,lY]
  rw [Dv I C,List.append_assoc,List.append_assoc]
  congr 1
  have e1:nd (dX p u x) u=⟨(nd p u).name,(nd p u).attrs,(nd p u).text,(nd p u).up,(nd p u).kids ++ [(p.length:Int)]⟩:=by rw [gV hu,if_pos rfl]
  have e2:nd (dX p u x) p.length=⟨x.name,x.attrs,x.text,u,x.kids⟩:=by rw [gV hu,if_neg (by omega),if_pos rfl]
  unfold xJ
  rw [e1,e2]
  simp only [hk]
  rw [List.dropLast_concat,if_neg (show p.length ≠ 0 by omega)]
  congr 1
  congr 1
  unfold iU
  refine jR fun j hj=>?_
  obtain ⟨k,h1,h2,h3,_⟩:=yG I C hj
  subst h1
  exact yF I C _ k h2 h3
theorem MP {p:List Ty.Node} {a b:Nat} {r:List Nat} (I:PI p) (C:Chain p (a :: b :: r)) (hr:r.length < 1000):iM p (b :: r)=iM p (a :: b :: r) ++ [bJ (nd p a).name]:=by
  have hb:b < p.length:=C.lt I b (by simp)
  obtain ⟨c1,c2,c3,c4,c5,c6⟩:=C.1
  obtain ⟨e,_⟩:=EA (by rw [I.kids b hb];exact j6 _ _ _) c6
  simp only [iM,lY]
  rw [List.append_assoc,List.append_assoc]
  congr 1
  unfold xJ
  have hf:1000 - r.length=(1000 - (b :: r).length) + 1:=by simp only [List.length_cons];omega
  conv=>lhs;rw [e,uI,ru]
  rw [if_neg (show a ≠ 0 by omega)]
  conv=>lhs;arg 2;arg 2;rw [hf,gN,if_neg c3,if_neg (by rw [c4];simp)]
  unfold iU
  simp
theorem JK {p:List Ty.Node} (I:PI p) {u k:Nat} {r:List Nat} {s:Str} (C:Chain p (u :: r)) (hl:(nd p u).kids.getLast? = some (k:Int)) (hn:(nd p k).name=[]) (hr:r.length < 1000) :
    ∃ X,iM p (u :: r)=X ++ [l6 (nd p k).text] ∧ iM (dK p k s) (u :: r)=X ++ [l6 ((nd p k).text ++ s)]:=by
  have hu:u < p.length:=C.lt I u (by simp)
  obtain ⟨e,hlt⟩:=EA (by rw [I.kids u hu];exact j6 _ _ _) hl
  obtain ⟨k',h1,hk,h3,h4⟩:=yG I C (List.mem_of_getLast? hl)
  have:k'=k:=by omega
  subst this
  have hf:1000 - r.length=(1000 - r.length - 1) + 1:=by omega
  have hku:k' ≠ u:=fun h=>h3 (by simp [h])
  have eo:lY (dK p k' s) r=lY p r:=by
    refine qy I (C.desc I) r [] u rfl C (fun b hb=>?_) (fun f j b g1 g2 g3 g4=>BI I C hk h4 f j g1 g2 fun e=>?_)
    · rw [kU hk,if_neg fun e=>h3 (by rw [← e];simp [hb])]
    · subst e
      rw [h4] at g4
      have:=(List.pairwise_cons.1 (C.desc I)).1 b g3
      omega
  refine ⟨lY p r ++ ((if u=0 then [] else [dY (nd p u).name (nd p u).attrs]) ++ iU p (1000 - r.length) (nd p u).kids.dropLast),?_,?_⟩
  · simp only [iM]
    rw [List.append_assoc]
    congr 1
    unfold xJ
    conv=>lhs;rw [e,uI,ru]
    conv=>lhs;arg 2;arg 2;rw [hf,gN,if_pos hn]
    rw [List.append_assoc]
  · simp only [iM]
    rw [eo,List.append_assoc]
    congr 1
    unfold xJ
    have e1:nd (dK p k' s) u=nd p u:=by rw [kU hk,if_neg (Ne.symm hku)]
    have e2:nd (dK p k' s) k'=⟨(nd p k').name,(nd p k').attrs,(nd p k').text ++ s,(nd p k').up,(nd p k').kids⟩:=by rw [kU hk,if_pos rfl]
    rw [e1]
    conv=>lhs;rw [e,uI,ru]
    conv=>lhs;arg 2;arg 2;rw [hf,gN,e2,if_pos hn]
    rw [List.append_assoc]
    congr 2
    unfold iU
    refine jR fun j hj=>?_
    obtain ⟨i,g1,g2,g3,g4⟩:=yG I C (List.dropLast_subset _ hj)
    have:=hlt j hj
    subst g1
    exact BI I C hk h4 _ i g2 g3 (by omega)
end W10
/- The theorem of the stage: the tags of what was parsed are parsed as it. -/
namespace W10
open Go Go.AX Go.AX.Ty
theorem Pv {X Z:Str} (h0:X ≠ []) (h:qg X=false):qg (X ++ (iV ++ Z))=false:=by
  rcases Nat.lt_or_ge X.length 8 with hl | hl
  · cases hb:qg (X ++ (iV ++ Z)) with
    | false=>rfl
    | true =>
      exfalso
      unfold qg at hb
      obtain ⟨y,hy⟩:=bS.1 (by exact (Bool.and_eq_true _ _ ▸ hb).1)
      match X,h0,hl with
      | [a1],_,_=>simp [iV] at hy
      | [a1,a2],_,_=>simp [iV] at hy
      | [a1,a2,a3],_,_=>simp [iV] at hy
      | [a1,a2,a3,a4],_,_=>simp [iV] at hy
      | [a1,a2,a3,a4,a5],_,_=>simp [iV] at hy
      | [a1,a2,a3,a4,a5,a6],_,_=>simp [iV] at hy
      | [a1, a2, a3, a4, a5, a6, a7], _, _ =>
        simp [iV] at hy
        obtain ⟨e1,e2,e3,e4,e5,e6,e7,_⟩:=hy
        subst e1 e2 e3 e4 e5 e6 e7
        exact absurd h (by decide)
      | a1 :: a2 :: a3 :: a4 :: a5 :: a6 :: a7 :: a8 :: r,_,hl=>simp at hl;omega
  · rw [EU hl];exact h
theorem Ir {Z:Str} (hZ:qg (iV ++ Z)=true):∀ X:Str,gD X=X.length → gD (X ++ (iV ++ Z))=X.length
  | [], _ => by
    show gD (60 :: _)=0
    rw [iJ,if_pos (by exact hZ)]
  | c :: X, h => by
    rw [iJ] at h
    split at h
    · simp at h
    · rename_i hn
      have e:=Pv (X:=c :: X) (Z:=Z) (by simp) (by simpa using hn)
      rw [List.cons_append] at e
      rw [List.cons_append,iJ,e,if_neg (by simp)]
      have h':gD X + 1=X.length + 1:=h
      rw [Ir hZ X (by omega)];rfl
theorem UJ {x:Str} (h:dJ x=x.length) (w:Str):dJ (x ++ (oq ++ w))=x.length:=by
  have e2:aK (x ++ (oq ++ w))=aK x ++ (iV ++ (62 :: aK w)):=by rw [kR,kR];rfl
  show gD _=_
  rw [e2,Ir rfl _ (by rw [gK];exact h),gK]
theorem KF.all {x:Str} {r:List Tag} (h:KF x r):∀ w,dJ (x ++ (oq ++ w))=x.length:=by
  rcases h with ⟨_,h⟩ | ⟨_,_,h⟩
  · exact UJ h
  · exact h
theorem qh {p q:List Ty.Node} (hl:p.length ≤ q.length):∀ os:List Nat,Chain p os → (∀ a ∈ os,(nd q a).name=(nd p a).name ∧ (nd q a).up=(nd p a).up) → (∀ b ∈ os.tail,(nd q b).kids=(nd p b).kids) → Chain q os
  | [],h,_,_=>h
  | [a],h,_,_=>h
  | a :: b :: r, h, h1, h2 => by
    obtain ⟨c1,c2,c3,c4,c5,c6⟩:=h.1
    obtain ⟨e1,e2⟩:=h1 a (by simp)
    refine ⟨⟨c1,by omega,by rw [e1];exact c3,by rw [e1];exact c4,by rw [e2];exact c5,by rw [h2 b (by simp)];exact c6⟩,qh hl _ h.2 (fun x hx=>h1 x (List.mem_cons_of_mem _ hx)) (fun x hx=>h2 x (by simp at hx ⊢;exact .inr hx))⟩
theorem Chain.add {p:List Ty.Node} (I:PI p) {u:Nat} {r:List Nat} {x:Ty.Node} (C:Chain p (u :: r)):Chain (dX p u x) (u :: r):=by
  have hu:u < p.length:=C.lt I u (by simp)
  refine qh (by rw [jf];omega) _ C (fun a ha=>?_) (fun b hb=>?_)
  · have:=C.lt I a ha
    rw [gV hu]
    by_cases e:a=u
    · rw [if_pos e,e];exact ⟨rfl,rfl⟩
    · rw [if_neg e,if_neg (by omega)];exact ⟨rfl,rfl⟩
  · have h1:=(List.pairwise_cons.1 (C.desc I)).1 b hb
    rw [gV hu,if_neg (by omega),if_neg (by omega)]
theorem Chain.push {p:List Ty.Node} (I:PI p) {u:Nat} {r:List Nat} {x:Ty.Node} (C:Chain p (u :: r)) (hx:x.name ≠ []) (hv:jq x.name=false):Chain (dX p u x) (p.length :: u :: r):=by
  have hu:u < p.length:=C.lt I u (by simp)
  have e1:nd (dX p u x) u=⟨(nd p u).name,(nd p u).attrs,(nd p u).text,(nd p u).up,(nd p u).kids ++ [(p.length:Int)]⟩:=by rw [gV hu,if_pos rfl]
  have e2:nd (dX p u x) p.length=⟨x.name,x.attrs,x.text,u,x.kids⟩:=by rw [gV hu,if_neg (by omega),if_pos rfl]
  exact ⟨⟨I.pos,by rw [jf];omega,by rw [e2];exact hx,by rw [e2];exact hv,by rw [e2],by rw [e1];simp⟩,C.add I⟩
theorem Chain.more {p:List Ty.Node} {k:Nat} {s:Str} (hk:k < p.length) {os:List Nat} (C:Chain p os):Chain (dK p k s) os:=by
  refine qh (by rw [qz];omega) _ C (fun a ha=>?_) (fun b hb=>?_)
  · rw [kU hk]
    by_cases e:a=k
    · rw [if_pos e,e];exact ⟨rfl,rfl⟩
    · rw [if_neg e];exact ⟨rfl,rfl⟩
  · rw [kU hk]
    by_cases e:b=k
    · rw [if_pos e,e]
    · rw [if_neg e]
structure SI (st:PS):Prop where
  pi:PI st.pg
  ch:Chain st.pg st.os
  nest:st.os.length ≤ 61
  rc:fE (iM st.pg st.os) tV=.ok st
theorem SI.zero:SI tV:=⟨PI.zero,rfl,by decide,rfl⟩
theorem PI.PN {p:List Ty.Node} (I:PI p) {k b:Nat} (h1:1 ≤ k) (h2:k < p.length) (hn:(nd p k).name ≠ []) (hb:(nd p k).up=(b:Int)):(nd p b).name ≠ bH:=fun h=>by
  have:=I.up k h1 h2
  have hm:(k:Int) ∈ (nd p b).kids:=by rw [I.kids b (by omega)];exact mq.2 ⟨k,rfl,h2,h1,hb⟩
  rcases I.sty b (by omega) h with e | ⟨j,e,e2,_⟩
  · rw [e] at hm;simp at hm
  · rw [e,List.mem_singleton] at hm
    have:k=j:=by omega
    exact hn (this ▸ e2)
theorem TU (p:List Ty.Node) (a b:Nat) (r:List Nat):kI p (nd p a).name (a :: b :: r)=some (b :: r):=by rw [kI,if_pos rfl]
theorem SI.pop {p:List Ty.Node} {a b:Nat} {r:List Nat} (S:SI ⟨p,a :: b :: r⟩):SI ⟨p,b :: r⟩:=by
  have hn:(a :: b :: r).length ≤ 61:=S.nest
  simp only [List.length_cons] at hn
  refine ⟨S.pi,S.ch.2,by simp only [List.length_cons];omega,?_⟩
  show fE (iM p (b :: r)) tV=_
  rw [MP S.pi S.ch (by omega),uz S.rc,qM]
  show Except.ok (vo ⟨p,a :: b :: r⟩ (nd p a).name)=_
  rw [vo,TU];rfl
theorem SI.kI {p:List Ty.Node} {n:Str}:∀ {os o:List Nat},SI ⟨p,os⟩ → kI p n os=some o → SI ⟨p,o⟩
  | [],_,_,h=>by simp [W10.kI] at h
  | [a],_,_,h=>by simp [W10.kI] at h
  | a :: b :: r, o, S, h => by
    rw [W10.kI] at h
    split at h
    · rw [← Option.some.inj h];exact S.pop
    · exact SI.kI S.pop h
theorem SI.vo {st:PS} (S:SI st) (n:Str):SI (vo st n):=by
  obtain ⟨p,os⟩:=st
  unfold W10.vo
  cases h:W10.kI p n os with
  | none=>exact S
  | some o=>exact S.kI h
theorem KU {t:Tag} (h1:t.kind=1) (h2:t.text=[]):t=dY t.name t.attrs:=Tag.ext h1 rfl rfl h2
theorem jc (a:Nat) (r:List Nat):xU (a :: r)=a:=rfl
theorem SI.Wm {p:List Ty.Node} {u:Nat} {r:List Nat} (S:SI ⟨p,u :: r⟩) {t:Tag} (hk:t.kind=1) (hn:su t.name) (ha:zO t.attrs) (ht:t.text=[]) (hs:(nd p u).name ≠ bH)
    (him:¬ ((nd p u).name=t.name ∧ xP t.name=true)) {st':PS} (h:eO ⟨p,u :: r⟩ t=.ok st') :
    SI st' ∧ p.length < 400 ∧ (u :: r).length ≤ 60 ∧ st'=⟨dX p u ⟨t.name,t.attrs,[],0,[]⟩,if jq t.name=true then u :: r else p.length :: u :: r⟩:=by
  have h0:=h
  have hp:sj p (u :: r) t.name=u :: r:=if_neg him
  rw [eO,if_pos hk] at h
  unfold jP at h
  simp only [hp,jc] at h
  split at h
  · simp at h
  rename_i h1
  split at h
  · simp at h
  rename_i h2
  have e:=Except.ok.inj h
  subst e
  have I:PI p:=S.pi
  have C:Chain p (u :: r):=S.ch
  have hu:=C.lt I u (by simp)
  have I':PI (dX p u ⟨t.name,t.attrs,[],0,[]⟩):=by
    refine I.add hu (by omega) (.inr ⟨hn,ha,rfl,fun _=>rfl⟩) rfl (fun g=>C.el g) (fun e=>absurd e hn.1) (fun e=>absurd e hs) (fun e1 e2=>him ⟨e2,e1⟩)
  have hr:r.length < 1000:=by simp only [List.length_cons] at h1;omega
  refine ⟨?_,by omega,by omega,rfl⟩
  by_cases hv:jq t.name=true
  · rw [if_pos hv] at h0 ⊢
    refine ⟨I',C.add I,S.nest,?_⟩
    rw [Da I C,uz S.rc]
    have hf:1000 - r.length=(1000 - r.length - 1) + 1:=by omega
    have en:nd (dX p u ⟨t.name,t.attrs,[],0,[]⟩) p.length=⟨t.name,t.attrs,[],u,[]⟩:=by rw [gV hu,if_neg (by omega),if_pos rfl]
    rw [hf,gN,en,if_neg hn.1,if_pos hv,qM,← KU hk ht]
    exact h0
  · rw [if_neg hv] at h0 ⊢
    refine ⟨I',C.push I hn.1 (by simpa using hv),by simp only [List.length_cons] at h1 ⊢;omega,?_⟩
    rw [Kt I C rfl,uz S.rc,qM,← KU hk ht]
    exact h0
theorem Ac {p:List Ty.Node} {u k:Nat} (I:PI p) (hu:u < p.length) (h:lastT p u=some k):(nd p u).kids.getLast? = some (k:Int) ∧ (nd p k).name=[] ∧ 1 ≤ k ∧ k < p.length ∧ (nd p k).up=(u:Int):=by
  unfold lastT at h
  split at h
  · simp at h
  · rename_i a hl
    split at h
    · rename_i hn
      obtain ⟨i,e1,e2,e3,e4,_⟩:=I.kid hu (List.mem_of_getLast? hl)
      have:i=k:=by have:=Option.some.inj h;omega
      subst this
      subst e1
      exact ⟨hl,by simpa using hn,e3,e2,e4⟩
    · simp at h
theorem Ai {p:List Ty.Node} {u:Nat} (h:lastT p u=none):∀ a,(nd p u).kids.getLast? = some a → (nd p a.toNat).name ≠ []:=fun a ha hn=>by
  unfold lastT at h
  rw [ha] at h
  simp [hn] at h
def WO (st:PS):Prop:=0 < st.pg.length ∧ ∀ a ∈ st.os,a < st.pg.length
theorem FI {p:List Ty.Node} {n:Str}:∀ {os o:List Nat},kI p n os=some o → ∀ a ∈ o,a ∈ os
  | [],_,h=>by simp [kI] at h
  | [a],_,h=>by simp [kI] at h
  | a :: b :: r, o, h => by
    rw [kI] at h
    split at h
    · rw [← Option.some.inj h];exact fun x hx=>List.mem_cons_of_mem _ hx
    · exact fun x hx=>List.mem_cons_of_mem _ (FI h x hx)
theorem WO.step {st st':PS} {t:Tag} (h:WO st) (hs:eO st t=.ok st'):WO st':=by
  obtain ⟨h0,h1⟩:=h
  unfold eO at hs
  split at hs
  · unfold jP at hs
    split at hs
    · simp at hs
    split at hs
    · simp at hs
    have e:=Except.ok.inj hs
    subst e
    have hp:∀ a ∈ sj st.pg st.os t.name,a < st.pg.length:=fun a ha=>by
      unfold sj at ha
      split at ha
      · exact h1 a (List.mem_of_mem_tail ha)
      · exact h1 a ha
    refine ⟨by rw [jf];omega,fun a ha=>?_⟩
    rw [jf]
    simp only at ha
    split at ha
    · have:=hp a ha;omega
    · rcases List.mem_cons.1 ha with e | ha
      · omega
      · have:=hp a ha;omega
  split at hs
  · have e:=Except.ok.inj hs
    subst e
    refine ⟨h0,fun a ha=>?_⟩
    unfold vo at ha ⊢
    simp only at ha ⊢
    cases he:kI st.pg t.name st.os with
    | none=>rw [he] at ha;exact h1 a ha
    | some o=>rw [he] at ha;exact h1 a (FI he a ha)
  split at hs
  · unfold jv at hs
    split at hs
    · have e:=Except.ok.inj hs
      subst e
      exact ⟨by rw [qz];exact h0,fun a ha=>by rw [qz];exact h1 a ha⟩
    · unfold xV at hs
      split at hs
      · simp at hs
      have e:=Except.ok.inj hs
      subst e
      exact ⟨by rw [jf];omega,fun a ha=>by rw [jf];have:=h1 a ha;omega⟩
  · have e:=Except.ok.inj hs
    subst e
    exact ⟨h0,h1⟩
theorem WO.run:∀ {l:List Tag} {st st':PS},WO st → fE l st=.ok st' → WO st'
  | [],st,st',h,hs=>by rw [← Except.ok.inj hs];exact h
  | t :: l, st, st', h, hs => by
    rw [fE] at hs
    split at hs
    · rename_i st1 h1
      exact WO.run (h.step h1) hs
    · simp at hs
theorem I6 (p:List Ty.Node) (k:Nat) (x s:Str):dK (dK p k x) k s=dK p k (x ++ s):=by
  rcases Nat.lt_or_ge k p.length with hk | hk
  · have e:nd (dK p k x) k=⟨(nd p k).name,(nd p k).attrs,(nd p k).text ++ x,(nd p k).up,(nd p k).kids⟩:=by rw [kU hk,if_pos rfl]
    conv=>lhs;rw [dK,e]
    simp [dK]
  · have e:∀ (q:List Ty.Node) (y:Str),q.length ≤ k → dK q k y=q:=fun q y h=>by unfold dK;exact List.set_eq_of_length_le h
    rw [e _ s (by rw [qz];exact hk),e _ x hk,e _ _ hk]
theorem Nb (p:List Ty.Node) (u:Nat) (x s:Str) (hu:u < p.length):dK (dX p u ⟨[],[],x,0,[]⟩) p.length s=dX p u ⟨[],[],x ++ s,0,[]⟩:=by
  have e:nd (dX p u ⟨[],[],x,0,[]⟩) p.length=⟨[],[],x,u,[]⟩:=by rw [gV hu,if_neg (by omega),if_pos rfl]
  unfold dK
  rw [e]
  unfold dX
  rw [List.set_comm _ _ (by omega),List.set_append_right _ _ (Nat.le_refl _),Nat.sub_self];rfl
theorem MC {st st1:PS} {x s:Str} (h:WO st) (h1:jv st x=.ok st1):jv st1 s=jv st (x ++ s):=by
  obtain ⟨p,os⟩:=st
  have hu:xU os < p.length:=by
    cases os with
    | nil=>exact h.1
    | cons a r=>exact h.2 a (by simp)
  unfold jv at h1
  simp only at h1
  cases hl:lastT p (xU os) with
  | some k =>
    rw [hl] at h1
    have e:=Except.ok.inj h1
    subst e
    have nm:∀ i,(nd (dK p k x) i).name=(nd p i).name ∧ (nd (dK p k x) i).kids=(nd p i).kids:=fun i=>by
      rcases Nat.lt_or_ge k p.length with hk | hk
      · rw [kU hk]
        by_cases e:i=k
        · rw [if_pos e,e];exact ⟨rfl,rfl⟩
        · rw [if_neg e];exact ⟨rfl,rfl⟩
      · rw [show dK p k x=p by unfold dK;exact List.set_eq_of_length_le hk];exact ⟨rfl,rfl⟩
    have hl2:lastT (dK p k x) (xU os)=some k:=by
      unfold lastT at hl ⊢
      rw [(nm _).2]
      split
      · rename_i e;rw [e] at hl;simp at hl
      · rename_i a e;rw [e] at hl;rw [(nm _).1];exact hl
    unfold jv
    simp only [hl,hl2,I6]
  | none =>
    rw [hl] at h1
    unfold xV at h1
    simp only at h1
    split at h1
    · simp at h1
    rename_i hlen
    have e:=Except.ok.inj h1
    subst e
    have e1:nd (dX p (xU os) ⟨[],[],x,0,[]⟩) (xU os)=⟨(nd p (xU os)).name,(nd p (xU os)).attrs,(nd p (xU os)).text,(nd p (xU os)).up,(nd p (xU os)).kids ++ [(p.length:Int)]⟩:=by rw [gV hu,if_pos rfl]
    have e2:nd (dX p (xU os) ⟨[],[],x,0,[]⟩) p.length=⟨[],[],x,(xU os:Nat),[]⟩:=by rw [gV hu,if_neg (by omega),if_pos rfl]
    have hl2:lastT (dX p (xU os) ⟨[],[],x,0,[]⟩) (xU os)=some p.length:=by
      unfold lastT
      rw [e1]
      simp only [List.getLast?_concat,Int.toNat_natCast]
      rw [e2,if_pos rfl]
    unfold jv
    simp only [hl,hl2,Nb p _ x s hu]
    unfold xV
    rw [if_neg hlen]
theorem SI.jv {p:List Ty.Node} {u:Nat} {r:List Nat} (S:SI ⟨p,u :: r⟩) {s:Str} (hx:s ≠ [])
    (hs:(nd p u).name=bH → (nd p u).kids=[] ∧ ∀ w,dJ (s ++ (oq ++ w))=s.length) {st':PS} (h:jv ⟨p,u :: r⟩ s=.ok st') :
    SI st' ∧ st'.os=u :: r ∧ (nd st'.pg u).name=(nd p u).name:=by
  have h0:=h
  have I:PI p:=S.pi
  have C:Chain p (u :: r):=S.ch
  have hu:=C.lt I u (by simp)
  have hnest:(u :: r).length ≤ 61:=S.nest
  simp only [List.length_cons] at hnest
  unfold W10.jv at h
  simp only [jc] at h
  cases hl:lastT p u with
  | some k =>
    rw [hl] at h
    have e:=Except.ok.inj h
    subst e
    obtain ⟨g1,g2,g3,g4,g5⟩:=Ac I hu hl
    have hns:(nd p u).name ≠ bH:=fun e=>by
      rw [(hs e).1] at g1;simp at g1
    have I':PI (dK p k s):=I.more g3 g4 g2 (by rw [g5,Int.toNat_natCast];exact hns)
    obtain ⟨X,c1,c2⟩:=JK (s:=s) I C g1 g2 (by omega)
    have hrc:=S.rc
    simp only [c1] at hrc
    refine ⟨⟨I',C.more g4,S.nest,?_⟩,rfl,?_⟩
    · show fE (iM (dK p k s) (u :: r)) tV=_
      rw [qx] at hrc
      rw [c2,qx]
      cases hX:fE X tV with
      | error e=>rw [hX] at hrc;simp at hrc
      | ok st0 =>
        rw [hX] at hrc
        simp only [qM] at hrc ⊢
        have hw:WO st0:=WO.run (by exact ⟨by decide,by decide⟩) hX
        have k3:∀ y:Str,eO st0 (l6 y)=W10.jv st0 y:=fun y=>rfl
        rw [k3] at hrc ⊢
        rw [← MC hw hrc];exact h0
    · show (nd (dK p k s) u).name=_
      rw [kU g4]
      split
      · rename_i e;rw [e]
      · rfl
  | none =>
    rw [hl] at h
    unfold xV at h
    simp only at h
    split at h
    · simp at h
    rename_i hlen
    have e:=Except.ok.inj h
    subst e
    have I':PI (dX p u ⟨[],[],s,0,[]⟩):=by
      refine I.add hu (by omega) (.inl ⟨rfl,hx,rfl,rfl⟩) rfl (fun g=>C.el g) (fun _=>Ai hl) (fun e=>⟨(hs e).1,rfl,(hs e).2⟩) (fun e=>absurd (show xP []=true from e) (by decide))
    refine ⟨⟨I',C.add I,S.nest,?_⟩,rfl,?_⟩
    · show fE (iM (dX p u ⟨[],[],s,0,[]⟩) (u :: r)) tV=_
      rw [Da I C,uz S.rc]
      have hf:1000 - r.length=(1000 - r.length - 1) + 1:=by omega
      have en:nd (dX p u ⟨[],[],s,0,[]⟩) p.length=⟨[],[],s,u,[]⟩:=by rw [gV hu,if_neg (by omega),if_pos rfl]
      rw [hf,gN,en,if_pos rfl,qM]
      exact h0
    · show (nd (dX p u ⟨[],[],s,0,[]⟩) u).name=_
      rw [gV hu,if_pos rfl]
end W10
/- What is parsed keeps; its text is parsed as it. -/
namespace W10
open Go Go.AX Go.AX.Ty
def Lk (st:PS) (p:Tag) (l:List Tag):Prop:=WF p l ∧ (fG p → (nd st.pg (xU st.os)).name=bH ∧ (nd st.pg (xU st.os)).kids=[]) ∧
  (¬ fG p → (nd st.pg (xU st.os)).name=bH → l=[] ∨ ∃ r,l=bJ bH :: r)
theorem KN {p:List Ty.Node} {v:Nat} {r:List Nat} {t:Tag} {l:List Tag} (hv:v < p.length) (hk:t.kind=1) (hw:WF t l) (hs:(nd p v).name ≠ bH) :
    Lk ⟨dX p v ⟨t.name,t.attrs,[],0,[]⟩,if jq t.name=true then v :: r else p.length :: v :: r⟩ t l:=by
  have e2:nd (dX p v ⟨t.name,t.attrs,[],0,[]⟩) p.length=⟨t.name,t.attrs,[],v,[]⟩:=by rw [gV hv,if_neg (by omega),if_pos rfl]
  refine ⟨hw,fun h=>?_,fun h1 h2=>?_⟩
  · have hn:¬ jq t.name=true:=by rw [h.2];decide
    simp only [if_neg hn,jc]
    rw [e2];exact ⟨h.2,rfl⟩
  · exfalso
    by_cases hn:jq t.name=true
    · simp only [if_pos hn,jc] at h2
      rw [gV hv,if_pos rfl] at h2
      exact hs h2
    · simp only [if_neg hn,jc] at h2
      rw [e2] at h2
      exact h1 ⟨hk,h2⟩
theorem Gm {p:List Ty.Node} {n:Str}:∀ {os o:List Nat},Chain p os → kI p n os=some o → ∃ k,1 ≤ k ∧ k < p.length ∧ (nd p k).name ≠ [] ∧ (nd p k).up=(xU o:Int)
  | [],_,_,h=>by simp [kI] at h
  | [a],_,_,h=>by simp [kI] at h
  | a :: b :: r, o, C, h => by
    rw [kI] at h
    split at h
    · rw [← Option.some.inj h];exact ⟨a,C.1.1,C.1.2.1,C.1.2.2.1,C.1.2.2.2.2.1⟩
    · exact Gm C.2 h
theorem KV {st st':PS} {p0 t:Tag} {l:List Tag} (S:SI st) (L:Lk st p0 (t :: l)) (h:eO st t=.ok st'):SI st' ∧ Lk st' t l:=by
  obtain ⟨p,os⟩:=st
  obtain ⟨u,r,e⟩:=S.ch.ne
  simp only at e
  subst e
  have I:PI p:=S.pi
  have C:Chain p (u :: r):=S.ch
  have hu:=C.lt I u (by simp)
  obtain ⟨⟨ht,hst,hw⟩,hA,hB⟩:=L
  simp only [jc] at hA hB
  have root:∀ b,Chain p [b] → (nd p b).name=[]:=fun b hb=>by have e:b=0:=hb;rw [e];exact I.root.1
  rcases ht with ⟨k1,k2,k3,k4⟩ | ⟨k1,k2,k3,k4⟩ | ⟨k1,k2,k3,k4⟩
  · have hns:¬ fG p0:=fun hp=>by
      have:=(hst hp).2 (by omega)
      rw [this] at k1;simp [bJ] at k1
    have hus:(nd p u).name ≠ bH:=fun e=>by
      rcases hB hns e with e | ⟨r',e⟩
      · simp at e
      · rw [(List.cons.inj e).1] at k1;simp [bJ] at k1
    by_cases him:(nd p u).name=t.name ∧ xP t.name=true
    · cases r with
      | nil=>rw [root u C] at him;exact absurd him.1.symm k2.1
      | cons b r =>
        have Sb:=S.pop
        have hbs:(nd p b).name ≠ bH:=I.PN C.1.1 hu C.1.2.2.1 C.1.2.2.2.2.1
        have hbn:(nd p b).name ≠ t.name:=fun e=>by
          have:=I.imp u C.1.1 hu (by rw [him.1];exact him.2)
          rw [C.1.2.2.2.2.1,Int.toNat_natCast,him.1] at this
          exact this e
        have h':eO ⟨p,b :: r⟩ t=.ok st':=by
          have e1:sj p (u :: b :: r) t.name=b :: r:=if_pos him
          have e2:sj p (b :: r) t.name=b :: r:=if_neg fun e=>hbn e.1
          rw [eO,if_pos k1] at h ⊢
          unfold jP at h ⊢
          simp only [e1,e2] at h ⊢
          exact h
        obtain ⟨q1,_,_,q2⟩:=SI.Wm Sb k1 k2 k3 k4 hbs (fun e=>hbn e.1) h'
        exact ⟨q1,by rw [q2];exact KN (C.2.lt I b (by simp)) k1 hw hbs⟩
    · obtain ⟨q1,_,_,q2⟩:=SI.Wm S k1 k2 k3 k4 hus him h
      exact ⟨q1,by rw [q2];exact KN hu k1 hw hus⟩
  · have e:st'=vo ⟨p,u :: r⟩ t.name:=by
      rw [eO,if_neg (by omega),if_pos k1] at h
      exact (Except.ok.inj h).symm
    subst e
    refine ⟨S.vo _,hw,fun hh=>by have:=hh.1;omega,fun _ hh=>?_⟩
    exfalso
    cases he:kI p t.name (u :: r) with
    | some o =>
      simp only [vo,he,Option.getD_some] at hh
      obtain ⟨k,g1,g2,g3,g4⟩:=Gm C he
      exact I.PN g1 g2 g3 g4 hh
    | none =>
      simp only [vo,he,Option.getD_none,jc] at hh
      have et:t=bJ bH:=by
        by_cases hp:fG p0
        · exact (hst hp).2 (by omega)
        · rcases hB hp hh with e | ⟨r',e⟩
          · simp at e
          · exact (List.cons.inj e).1
      cases r with
      | nil=>rw [root u C] at hh;exact absurd hh (by decide)
      | cons b r=>rw [et,show (bJ bH).name=bH from rfl,kI,if_pos hh] at he;simp at he
  · have h':jv ⟨p,u :: r⟩ t.text=.ok st':=by
      rw [eO,if_neg (by omega),if_neg (by omega),if_pos k1] at h;exact h
    have hr:(nd p u).name=bH → (nd p u).kids=[] ∧ KF t.text l:=fun e=>by
      by_cases hp:fG p0
      · exact ⟨(hA hp).2,(hst hp).1 k1⟩
      · rcases hB hp e with e | ⟨r',e⟩
        · simp at e
        · rw [(List.cons.inj e).1] at k1;simp [bJ] at k1
    obtain ⟨q1,q2,q3⟩:=SI.jv S k4 (fun e=>⟨(hr e).1,(hr e).2.all⟩) h'
    refine ⟨q1,hw,fun hh=>by have:=hh.1;omega,fun _ hh=>?_⟩
    rw [q2,jc,q3] at hh
    rcases (hr hh).2 with ⟨e,_⟩ | ⟨r',e,_⟩
    · exact .inl e
    · exact .inr ⟨r',e⟩
theorem Oo:∀ {l:List Tag} {st st':PS} {p0:Tag},SI st → Lk st p0 l → fE l st=.ok st' → SI st'
  | [],st,st',p0,S,L,h=>by rw [← Except.ok.inj h];exact S
  | t :: l, st, st', p0, S, L, h => by
    rw [fE] at h
    split at h
    · rename_i st1 h1
      obtain ⟨S1,L1⟩:=KV S L h1
      exact Oo S1 L1 h
    · simp at h
theorem Fu {s:Str} {st:PS} (h:fE (dB s) tV=.ok st):SI st:=
  Oo SI.zero (p0:=gZ) ⟨yh _ s gZ (Nat.le_refl _) kC,fun h=>absurd h kC,fun _ h=>absurd h (by decide)⟩ h
theorem SI.all {p:List Ty.Node}:∀ {os:List Nat},SI ⟨p,os⟩ → SI ⟨p,[0]⟩
  | [],S=>absurd S.ch (by simp [Chain])
  | [a], S => by
    have e:a=0:=S.ch
    rw [e] at S;exact S
  | a :: b :: r,S=>SI.all S.pop
theorem DU {p:List Ty.Node} {f:Nat} (hn:∀ j:Nat,1 ≤ j → j < p.length → ∀ l:List Tag,(∀ q,¬ fG q → WF q l) → ∀ q,¬ fG q → WF q (gN p f j ++ l)) :
    ∀ ks:List Int,(∀ a ∈ ks,∃ k:Nat,a=k ∧ 1 ≤ k ∧ k < p.length) → ∀ l:List Tag,(∀ q,¬ fG q → WF q l) → ∀ q,¬ fG q → WF q (iU p f ks ++ l)
  | [],_,l,hl,q,hq=>hl q hq
  | a :: ks, h, l, hl, q, hq => by
    obtain ⟨k,e,h1,h2⟩:=h a (by simp)
    have e2:iU p f (a :: ks) ++ l=gN p f k ++ (iU p f ks ++ l):=by
      rw [e];unfold iU;rw [List.flatMap_cons,List.append_assoc];rfl
    rw [e2]
    exact hn k h1 h2 _ (DU hn ks (fun b hb=>h b (by simp [hb])) l hl) q hq
theorem FE {n:Str} {al:List Ty.Attr} (h:n ≠ bH):¬ fG (dY n al):=fun hh=>h hh.2
theorem K7 {p:List Ty.Node} (I:PI p):∀ (f j:Nat),1 ≤ j → j < p.length → ∀ l:List Tag,(∀ q,¬ fG q → WF q l) → ∀ q,¬ fG q → WF q (gN p f j ++ l)
  | 0,_,_,_,l,hl,q,hq=>hl q hq
  | f + 1, j, h1, h2, l, hl, q, hq => by
    have hkids:∀ a ∈ (nd p j).kids,∃ k:Nat,a=k ∧ 1 ≤ k ∧ k < p.length:=fun a ha=>by
      obtain ⟨k,e1,e2,e3,_⟩:=I.kid h2 ha
      exact ⟨k,e1,e3,e2⟩
    rw [gN]
    rcases I.node j h1 h2 with ⟨g1,g2,g3,g4⟩ | ⟨g1,g2,g3,g4⟩
    · rw [if_pos g1]
      exact ⟨.inr (.inr ⟨rfl,rfl,rfl,g2⟩),fun hh=>absurd hh hq,hl _ (uN _)⟩
    · rw [if_neg g1.1]
      by_cases hv:jq (nd p j).name=true
      · rw [if_pos hv]
        exact ⟨.inl ⟨rfl,g1,g2,rfl⟩,fun hh=>absurd hh hq,hl _ (FE fun e=>by rw [e] at hv;exact absurd hv (by decide))⟩
      · rw [if_neg hv]
        have hsh:∀ q,WF q (bJ (nd p j).name :: l) ∨ fG q:=fun q=>by
          by_cases hq:fG q
          · exact .inr hq
          · exact .inl ⟨.inr (.inl ⟨rfl,g1,rfl,rfl⟩),fun hh=>absurd hh hq,hl _ (GZ _)⟩
        have hto:XY (dY (nd p j).name (nd p j).attrs):=.inl ⟨rfl,g1,g2,rfl⟩
        have e:(dY (nd p j).name (nd p j).attrs :: ((nd p j).kids.flatMap (fun j=>gN p f j.toNat) ++ [bJ (nd p j).name])) ++ l=dY (nd p j).name (nd p j).attrs :: (iU p f (nd p j).kids ++ (bJ (nd p j).name :: l)):=by
          simp [iU]
        rw [e]
        refine ⟨hto,fun hh=>absurd hh hq,?_⟩
        by_cases hs:(nd p j).name=bH
        · have hsty:fG (dY (nd p j).name (nd p j).attrs):=⟨rfl,hs⟩
          have w0:∀ q,¬ fG q → WF q (bJ (nd p j).name :: l):=fun q hq=>(hsh q).resolve_right hq
          have wz:WF (dY (nd p j).name (nd p j).attrs) (bJ (nd p j).name :: l):=by
            have:=w0 gZ kC
            exact ⟨this.1,fun _=>⟨fun h=>by simp [bJ] at h,fun _=>by rw [hs]⟩,this.2.2⟩
          rcases I.sty j h2 hs with hk | ⟨i,hk,h3,h4⟩
          · rw [hk];exact wz
          · rw [hk,ru]
            cases f with
            | zero=>exact wz
            | succ f =>
              rw [gN,if_pos h3]
              have hi:1 ≤ i ∧ i < p.length:=by
                obtain ⟨k,e1,e2,e3⟩:=hkids (i:Int) (by rw [hk];simp)
                omega
              have hx:(nd p i).text ≠ []:=by
                rcases I.node i hi.1 hi.2 with g | g
                · exact g.2.1
                · exact absurd h3 g.1.1
              exact ⟨.inr (.inr ⟨rfl,rfl,rfl,hx⟩),fun _=>⟨fun _=>.inr ⟨l,by rw [hs];rfl,h4⟩,fun h=>absurd rfl h⟩,w0 _ (uN _)⟩
        · exact DU (K7 I f) _ hkids _ (fun q hq=>(hsh q).resolve_right hq) _ (FE hs)
theorem Vi {p:List Ty.Node} (I:PI p):WF gZ (gG p):=by
  have:=DU (K7 I 1000) (nd p 0).kids (fun a ha=>by
    obtain ⟨k,e1,e2,e3,_⟩:=I.kid I.pos ha
    exact ⟨k,e1,e3,e2⟩) [] (fun q hq=>trivial) gZ kC
  rwa [List.append_nil] at this
theorem Nu {p:List Ty.Node} (I:PI p):dB (p9 (gG p))=gG p:=round _ _ gZ (Nat.le_refl _) kC (Vi I)
theorem Jr {s:Str} {p:List Ty.Node} (h:dH s=(p,0)) (hp:p ≠ []):PI p ∧ dH (p9 (gG p))=(p,0):=by
  unfold dH at h
  cases hr:fE (dB s) tV with
  | error e=>rw [hr] at h;simp only [WH,Prod.mk.injEq] at h;exact absurd h.1.symm hp
  | ok st =>
    rw [hr] at h
    simp only [WH,Prod.mk.injEq,and_true] at h
    have S:=Fu hr
    have I:PI p:=h ▸ S.pi
    refine ⟨I,?_⟩
    obtain ⟨pg,os⟩:=st
    simp only at h
    subst h
    have:=S.all.rc
    simp only [Mr] at this
    unfold dH
    rw [Nu I,this];rfl
end W10
