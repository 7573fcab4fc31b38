/- The abstract values, the abstract heap, what they stand for in a world, and the order of contexts. -/
import Derived.Calls
import Derived.Laws.Cells
import Derived.Laws.World
import Derived.Laws.Append
import Derived.Laws.StructEq
import Derived.ChangeKeysEq
set_option linter.unusedSimpArgs false
set_option linter.unusedVariables false
namespace Go.AX
open Go
inductive AV where
  | bool (b:Bool)
  | int (k:IntKind) (n:Int)
  | str (s:List UInt8)
  | agg (cs:List AV)
  | tup (vs:List AV)
  | nilp
  | ptr (b e o:Nat)
  | vp (cs:List AV)
  | nils
  | sl (b e o n z:Nat)
  | ps (n:Nat) (cs:List AV)
  | nilf
  | fn (f:Fn) (first cap:List AV)
  | nili
  | ifc (t:Nat) (v:AV)
  | nilm
  | map (r:Nat)
  | any
  deriving Inhabited
def gM:Nat:=0
structure Ctx where
  σ:Nat → Nat → Option (Nat × Nat)
  m:Nat → Nat → Option Value
  gl:∃ n,m gM 0=some (.int .i64 n)
mutual
def aD (c:Ctx):AV → Value → Prop
  | .bool b,v=>v=.bool b
  | .int k n,v=>v=.int k n
  | .str s,v=>v=.string ⟨s.toArray⟩
  | .agg cs,v=>∃ us:List Value,v=.agg us.toArray ∧ aB c cs us
  | .tup cs,v=>∃ us:List Value,v=.tuple us.toArray ∧ aB c cs us
  | .nilp,v=>v=.pointer none
  | .ptr b e o,v=>∃ k z,c.σ b e=some (k,z) ∧ v=.pointer (some ⟨k,o,none⟩)
  | .vp cs,v=>∃ k o,v=.pointer (some ⟨k,o,none⟩) ∧ bG c k o cs
  | .nils,v=>v=.slice none 0 0
  | .sl b e o n z,v=>∃ k s q,c.σ b e=some (k,s) ∧ v=.slice (some ⟨k,o,none⟩) n q ∧ n ≤ q ∧ o + q * z=s
  | .ps n cs,v=>(n=0 ∧ cs=[] ∧ ∃ a q,v=.slice a 0 q) ∨ (∃ k o q,v=.slice (some ⟨k,o,none⟩) n q ∧ n ≤ q ∧ bG c k o cs)
  | .nilf,v=>v=.nilFunc
  | .fn f xs ys,v=>∃ us ws:List Value,v=.func f us.toArray ws.toArray ∧ aB c xs us ∧ aB c ys ws
  | .nili,v=>v=.nilIface
  | .ifc t x,v=>∃ u,v=.iface t u ∧ aD c x u
  | .nilm,v=>v=.map none
  | .map r,v=>∃ k z,c.σ r 0=some (k,z) ∧ v=.map (some k)
  | .any,_=>True
def aB (c:Ctx):List AV → List Value → Prop
  | [],us=>us=[]
  | x :: xs,us=>∃ u us',us=u :: us' ∧ aD c x u ∧ aB c xs us'
def bG (c:Ctx) (k:Nat):Nat → List AV → Prop
  | _,[]=>True
  | o,x :: xs=>(∃ u,c.m k o=some u ∧ aD c x u) ∧ bG c k (o + 1) xs
end
def Ctx.le (c c':Ctx):Prop:=(∀ b e x,c.σ b e=some x → c'.σ b e=some x) ∧ (∀ k o u,c.m k o=some u → c'.m k o=some u)
theorem Ctx.le_refl (c:Ctx):c.le c:=⟨fun _ _ _ h=>h,fun _ _ _ h=>h⟩
theorem Ctx.le_trans {a b c:Ctx} (h:a.le b) (h':b.le c):a.le c:=
  ⟨fun x y z hz=>h'.1 x y z (h.1 x y z hz),fun x y z hz=>h'.2 x y z (h.2 x y z hz)⟩
mutual
theorem aD.mono {c c':Ctx} (h:c.le c'):∀ (x:AV) (v:Value),aD c x v → aD c' x v
  | .bool _,_,r=>by simpa [aD] using r
  | .int _ _,_,r=>by simpa [aD] using r
  | .str _,_,r=>by simpa [aD] using r
  | .agg cs, _, r => by
    simp only [aD] at r ⊢
    obtain ⟨us,e,r⟩:=r
    exact ⟨us,e,aB.mono h cs us r⟩
  | .tup cs, _, r => by
    simp only [aD] at r ⊢
    obtain ⟨us,e,r⟩:=r
    exact ⟨us,e,aB.mono h cs us r⟩
  | .nilp,_,r=>by simpa [aD] using r
  | .ptr b e o, _, r => by
    simp only [aD] at r ⊢
    obtain ⟨k,z,e1,e2⟩:=r
    exact ⟨k,z,h.1 _ _ _ e1,e2⟩
  | .vp cs, _, r => by
    simp only [aD] at r ⊢
    obtain ⟨k,o,e,r⟩:=r
    exact ⟨k,o,e,bG.mono h k o cs r⟩
  | .nils,_,r=>by simpa [aD] using r
  | .sl b e o n z, _, r => by
    simp only [aD] at r ⊢
    obtain ⟨k,s,q,e1,e2⟩:=r
    exact ⟨k,s,q,h.1 _ _ _ e1,e2⟩
  | .ps n cs, _, r => by
    simp only [aD] at r ⊢
    rcases r with r | ⟨k,o,q,e,hq,r⟩
    · exact .inl r
    · exact .inr ⟨k,o,q,e,hq,bG.mono h k o cs r⟩
  | .nilf,_,r=>by simpa [aD] using r
  | .fn f xs ys, _, r => by
    simp only [aD] at r ⊢
    obtain ⟨us,ws,e,r1,r2⟩:=r
    exact ⟨us,ws,e,aB.mono h xs us r1,aB.mono h ys ws r2⟩
  | .nili,_,r=>by simpa [aD] using r
  | .ifc t x, _, r => by
    simp only [aD] at r ⊢
    obtain ⟨u,e,r⟩:=r
    exact ⟨u,e,aD.mono h x u r⟩
  | .nilm,_,r=>by simpa [aD] using r
  | .map r', _, r => by
    simp only [aD] at r ⊢
    obtain ⟨k,z,e1,e2⟩:=r
    exact ⟨k,z,h.1 _ _ _ e1,e2⟩
  | .any,_,_=>by simp [aD]
theorem aB.mono {c c':Ctx} (h:c.le c'):∀ (xs:List AV) (us:List Value),aB c xs us → aB c' xs us
  | [],_,r=>by simpa [aB] using r
  | x :: xs, us, r => by
    simp only [aB] at r ⊢
    obtain ⟨u,us',e,r1,r2⟩:=r
    exact ⟨u,us',e,aD.mono h x u r1,aB.mono h xs us' r2⟩
theorem bG.mono {c c':Ctx} (h:c.le c') (k:Nat):∀ (o:Nat) (xs:List AV),bG c k o xs → bG c' k o xs
  | _,[],_=>by simp [bG]
  | o, x :: xs, r => by
    simp only [bG] at r ⊢
    obtain ⟨⟨u,e,r1⟩,r2⟩:=r
    exact ⟨⟨u,h.2 _ _ _ e,aD.mono h x u r1⟩,bG.mono h k (o + 1) xs r2⟩
end
theorem aB.length {c:Ctx}:∀ {xs:List AV} {us:List Value},aB c xs us → us.length=xs.length
  | [],_,r=>by simp only [aB] at r;simp [r]
  | x :: xs, us, r => by
    simp only [aB] at r
    obtain ⟨u,us',rfl,_,r2⟩:=r
    simp [aB.length r2]
theorem aB.get {c:Ctx}:∀ {xs:List AV} {us:List Value},aB c xs us → ∀ (i:Nat) (x:AV),xs[i]? = some x → ∃ u,us[i]? = some u ∧ aD c x u
  | [],_,_,i,x,h=>by simp at h
  | y :: xs, us, r, i, x, h => by
    simp only [aB] at r
    obtain ⟨u,us',rfl,r1,r2⟩:=r
    cases i with
    | zero=>simp at h;subst h;exact ⟨u,by simp,r1⟩
    | succ i=>simp at h;simpa using aB.get r2 i x h
theorem aB.eU {c:Ctx}:∀ {xs:List AV} {us:List Value},us.length=xs.length → (∀ (i:Nat) (x:AV) (u:Value),xs[i]? = some x → us[i]? = some u → aD c x u) → aB c xs us
  | [],us,hl,_=>by simp only [aB];exact List.eq_nil_of_length_eq_zero (by simpa using hl)
  | x :: xs,[],hl,_=>by simp at hl
  | x :: xs, u :: us, hl, h => by
    simp only [aB]
    exact ⟨u,us,rfl,h 0 x u (by simp) (by simp),aB.eU (by simpa using hl) fun i y v hy hv=>h (i + 1) y v (by simpa using hy) (by simpa using hv)⟩
theorem aB.append {c:Ctx}:∀ {xs ys:List AV} {us vs:List Value},aB c xs us → aB c ys vs → aB c (xs ++ ys) (us ++ vs)
  | [],_,us,_,r,s=>by simp only [aB] at r;subst r;simpa using s
  | x :: xs, _, us, _, r, s => by
    simp only [aB] at r
    obtain ⟨u,us',rfl,r1,r2⟩:=r
    simp only [List.cons_append,aB]
    exact ⟨u,_,rfl,r1,aB.append r2 s⟩
theorem aB.drop {c:Ctx} {xs:List AV} {us:List Value} (r:aB c xs us) (n:Nat):aB c (xs.drop n) (us.drop n):=by
  refine aB.eU (by simp [r.length]) fun i x u hx hu=>?_
  rw [List.getElem?_drop] at hx hu
  obtain ⟨u',hu',h⟩:=r.get _ x hx
  rw [hu'] at hu;cases hu;exact h
theorem aB.take {c:Ctx} {xs:List AV} {us:List Value} (r:aB c xs us) (n:Nat):aB c (xs.take n) (us.take n):=by
  refine aB.eU (by simp [r.length]) fun i x u hx hu=>?_
  have hi:i < n:=by
    rcases Nat.lt_or_ge i n with h | h
    · exact h
    · rw [List.getElem?_eq_none (by simp;omega)] at hx;simp at hx
  rw [List.getElem?_take_of_lt hi] at hx hu
  obtain ⟨u',hu',h⟩:=r.get _ x hx
  rw [hu'] at hu;cases hu;exact h
theorem aB.set {c:Ctx} {xs:List AV} {us:List Value} (r:aB c xs us) (n:Nat) {x:AV} {u:Value} (hx:aD c x u):aB c (xs.set n x) (us.set n u):=by
  refine aB.eU (by simp [r.length]) fun i y v hy hv=>?_
  by_cases hi:n=i
  · subst hi
    have hl:n < xs.length:=by
      rcases Nat.lt_or_ge n xs.length with h | h
      · exact h
      · rw [List.getElem?_eq_none (by simpa using h)] at hy;simp at hy
    rw [List.getElem?_set_self hl] at hy
    rw [List.getElem?_set_self (by rw [r.length];exact hl)] at hv
    cases hy;cases hv;exact hx
  · rw [List.getElem?_set_ne hi] at hy hv
    obtain ⟨u',hu',h⟩:=r.get _ y hy
    rw [hu'] at hv;cases hv;exact h
theorem bG.get {c:Ctx} {k:Nat}:∀ {o:Nat} {xs:List AV},bG c k o xs → ∀ (i:Nat) (x:AV),xs[i]? = some x → ∃ u,c.m k (o + i)=some u ∧ aD c x u
  | _,[],_,i,x,h=>by simp at h
  | o, y :: xs, r, i, x, h => by
    simp only [bG] at r
    obtain ⟨⟨u,e,r1⟩,r2⟩:=r
    cases i with
    | zero=>simp at h;subst h;exact ⟨u,by simpa using e,r1⟩
    | succ i=>simp at h;simpa [Nat.add_assoc,Nat.add_comm 1 i] using bG.get r2 i x h
theorem bG.eU {c:Ctx} {k:Nat}:∀ {o:Nat} {xs:List AV},(∀ (i:Nat) (x:AV),xs[i]? = some x → ∃ u,c.m k (o + i)=some u ∧ aD c x u) → bG c k o xs
  | _,[],_=>by simp [bG]
  | o, y :: xs, h => by
    simp only [bG]
    refine ⟨by simpa using h 0 y (by simp),bG.eU fun i x hx=>?_⟩
    simpa [Nat.add_assoc,Nat.add_comm 1 i] using h (i + 1) x (by simpa using hx)
theorem bG.drop {c:Ctx} {k o:Nat} {xs:List AV} (r:bG c k o xs) (n:Nat):bG c k (o + n) (xs.drop n):=
  bG.eU fun i x hx=>by
    rw [List.getElem?_drop] at hx
    simpa [Nat.add_assoc] using r.get _ x hx
theorem bG.take {c:Ctx} {k o:Nat} {xs:List AV} (r:bG c k o xs) (n:Nat):bG c k o (xs.take n):=
  bG.eU fun i x hx=>by
    have hi:i < n:=by
      rcases Nat.lt_or_ge i n with h | h
      · exact h
      · rw [List.getElem?_eq_none (by simp;omega)] at hx;simp at hx
    rw [List.getElem?_take_of_lt hi] at hx
    exact r.get _ x hx
theorem bG.append {c:Ctx} {k o:Nat} {xs ys:List AV} (r:bG c k o xs) (s:bG c k (o + xs.length) ys):bG c k o (xs ++ ys):=
  bG.eU fun i x hx=>by
    by_cases hi:i < xs.length
    · rw [List.getElem?_append_left hi] at hx;exact r.get _ x hx
    · rw [List.getElem?_append_right (by omega)] at hx
      have:=s.get _ x hx
      rwa [show o + xs.length + (i - xs.length)=o + i by omega] at this
def AV.cells:AV → List AV
  | .agg cs=>cs
  | v=>[v]
def AV.one:AV → Bool
  | .agg _ | .tup _ | .any=>false
  | _=>true
theorem aD.one {c:Ctx} {x:AV} {v:Value} (h:aD c x v) (hx:x.one=true):v.oneCell'=true:=by
  cases x <;> simp [AV.one] at hx <;> simp only [aD] at h
  case ps=>rcases h with ⟨_,_,_,_,rfl⟩ | ⟨_,_,_,rfl,_,_⟩ <;> rfl
  all_goals first
    | (subst h;rfl)
    | (obtain ⟨_,_,_,rfl⟩:=h;rfl)
    | (obtain ⟨_,_,rfl,_⟩:=h;rfl)
    | (obtain ⟨_,_,_,_,rfl,_⟩:=h;rfl)
    | (obtain ⟨_,rfl,_⟩:=h;rfl)
theorem aD.cells {c:Ctx} {x:AV} {v:Value} (h:aD c x v) (hx:x.cells.all AV.one=true):aB c x.cells v.cells.toList:=by
  cases x with
  | agg cs =>
    simp only [aD] at h
    obtain ⟨us,rfl,r⟩:=h
    simpa [AV.cells,Value.cells] using r
  | _ =>
    simp only [AV.cells,List.all_cons,List.all_nil,Bool.and_true] at hx
    have ho:=h.one hx
    have:v.cells = #[v]:=by cases v <;> simp_all [Value.cells,Value.oneCell']
    rw [this]
    exact aB.eU (by simp [AV.cells]) (fun i y u hy hu=>by
      cases i with
      | zero=>simp [AV.cells] at hy hu;subst hy;subst hu;exact h
      | succ i=>simp [AV.cells] at hy)
end Go.AX
/- The abstract heap, what it stands for in a world, and the two ways in which it moves on. -/
namespace Go.AX
open Go
inductive Obj where
  | cells (ver:Nat) (cs:List AV) (seen:Bool)
  | map (es:List (AV × AV))
  | iter (s:List UInt8) (pos:Nat)
  | raw (k:Nat) (o:Go.Obj) (F:List AV) (us:List Value)
  deriving Inhabited
structure St where
  heap:List (Nat × Obj)
  next:Nat
  deriving Inhabited
def look (id:Nat):List (Nat × Obj) → Option Obj
  | []=>none
  | (i,o) :: r=>if i=id then some o else look id r
def putAt (id:Nat) (o:Obj):List (Nat × Obj) → List (Nat × Obj)
  | []=>[]
  | (i,x) :: r=>if i=id then (i,o) :: r else (i,x) :: putAt id o r
def St.get (s:St) (id:Nat):Option Obj:=look id s.heap
def St.put (s:St) (id:Nat) (o:Obj):St:=⟨putAt id o s.heap,s.next⟩
def St.push (s:St) (o:Obj):St:=⟨(s.next,o) :: s.heap,s.next + 1⟩
theorem jO (id id':Nat) (o:Obj):∀ l,look id' (putAt id o l)=if id=id' then (look id l).map (fun _=>o) else look id' l
  | []=>by simp [look,putAt]
  | (i, x) :: r => by
    simp only [putAt]
    by_cases h:i=id
    · subst h
      by_cases h2:i=id' <;> simp [look,h2]
    · simp only [if_neg h,look]
      by_cases h2:i=id'
      · subst h2
        have h3:¬ id=i:=fun e=>h e.symm
        simp [h3]
      · simp only [if_neg h2]
        exact jO id id' o r
theorem St.get_put {s:St} {id:Nat} {o x:Obj} (h:s.get id=some x) (id':Nat):(s.put id o).get id'=if id=id' then some o else s.get id':=by
  have:=jO id id' o s.heap
  simp only [St.get] at h
  rw [h] at this
  exact this
theorem St.dL (s:St) (o:Obj) (id:Nat):(s.push o).get id=if s.next=id then some o else s.get id:=rfl
def Obj.ver:Obj → Nat
  | .cells v _ _=>v
  | .map _=>0
  | .iter _ _=>0
  | .raw _ _ _ _=>0
def gQ (c:Ctx):List (AV × AV) → List MapEntry → Prop
  | [],es=>es=[]
  | (k,v) :: r,es=>∃ e es',es=e :: es' ∧ aD c k e.key ∧ aD c v e.val ∧ gQ c r es'
def gW:TypeId:=88
def gB:TypeId:=5
def Fe (ver:Nat) (el:TypeId):TypeId:=if ver=0 then gW else if ver % 2=0 then gB else el
theorem rR {ver:Nat} (h:ver % 2=1) (el:TypeId):Fe ver el=el:=by
  unfold Fe;rw [if_neg (by omega),if_neg (by omega)]
theorem qC {ver:Nat} (h:ver % 2=0) (h0:0 < ver) (el:TypeId):Fe ver el=gB:=by
  unfold Fe;rw [if_neg (by omega),if_pos h]
theorem lT (e:Nat) (el:TypeId):Fe e (Fe e el)=Fe e el:=by
  unfold Fe;split
  · rfl
  · split <;> rfl
def gJ (c:Ctx) (w:World) (id:Nat):Obj → Prop
  | .cells ver cs seen=>∃ k z arr el fr,c.σ id ver=some (k,z) ∧ w.heap[k]? = some (.cells arr (Fe ver el) fr) ∧ arr.size=z ∧ cs.length ≤ z ∧
      (∀ i,i < z → ¬ (fr.1 ≤ i ∧ i < fr.2)) ∧ (∀ (i:Nat) (x:AV),cs[i]? = some x → ∃ u,arr[i]? = some u ∧ u.oneCell'=true ∧ aD c x u) ∧
      (∀ i,c.m k i=if seen=true ∧ i < cs.length then arr[i]? else none)
  | .map es=>∃ k z mes clock,c.σ id 0=some (k,z) ∧ w.heap[k]? = some (.map mes clock) ∧ gQ c es mes.toList ∧ (∀ i,c.m k i=none)
  | .iter s pos=>∃ k z,c.σ id 0=some (k,z) ∧ w.heap[k]? = some (.stringIter ⟨s.toArray⟩ pos) ∧ (∀ i,c.m k i=none)
  | .raw k o F us=>∃ z,c.σ id 0=some (k,z) ∧ w.heap[k]? = some o ∧ aB c F us ∧ (∀ i,c.m k i=none)
def blk (c:Ctx) (id:Nat) (o:Obj):Option Nat:=(c.σ id o.ver).map (·.1)
structure Sat (c:Ctx) (s:St) (w:World):Prop where
  mem:∀ k o u,c.m k o=some u → w.cell? ⟨k,o,none⟩=some u ∧ u.oneCell'=true
  obj:∀ id o,s.get id=some o → gJ c w id o
  inj:∀ id id' o o' k,s.get id=some o → s.get id'=some o' → blk c id o=some k → blk c id' o'=some k → id=id'
  fresh:∀ id e,s.next ≤ id → c.σ id e=none
  top:∀ id o,s.get id=some o → ∀ e,o.ver < e → c.σ id e=none
  low:∀ b e k z,c.σ b e=some (k,z) → k < w.heap.size
def fp (c:Ctx) (s:St) (k:Nat):Prop:=∃ id o,s.get id=some o ∧ blk c id o=some k
def eG (w w':World):Prop:=w'.os=w.os ∧ w'.output=w.output ∧ w'.tape=w.tape
theorem eG.refl (w:World):eG w w:=⟨rfl,rfl,rfl⟩
theorem eG.trans {a b c:World} (h:eG a b) (h':eG b c):eG a c:=⟨h'.1.trans h.1,h'.2.1.trans h.2.1,h'.2.2.trans h.2.2⟩
structure Ext (c:Ctx) (s:St) (w:World) (c':Ctx) (s':St) (w':World):Prop where
  le:c.le c'
  size:w.heap.size ≤ w'.heap.size
  same:∀ k,k < w.heap.size → ¬ fp c s k → w'.heap[k]? = w.heap[k]? ∧ ∀ o,c'.m k o=c.m k o
  foot:∀ k,fp c' s' k → fp c s k ∨ w.heap.size ≤ k
  next:s.next ≤ s'.next
  sig:∀ id,id < s.next → s.get id=none → ∀ e,c'.σ id e=c.σ id e
  dom:∀ id o,s'.get id=some o → (∃ o',s.get id=some o') ∨ s.next ≤ id
  os:eG w w'
theorem Ext.refl (c:Ctx) (s:St) (w:World):Ext c s w c s w:=
  ⟨Ctx.le_refl c,Nat.le_refl _,fun _ _ _=>⟨rfl,fun _=>rfl⟩,fun _ h=>.inl h,Nat.le_refl _,fun _ _ _ _=>rfl,fun _ o h=>.inl ⟨o,h⟩,eG.refl w⟩
theorem Ext.trans {c c1 c2:Ctx} {s s1 s2:St} {w w1 w2:World} (h:Ext c s w c1 s1 w1) (h':Ext c1 s1 w1 c2 s2 w2):Ext c s w c2 s2 w2 where
  le:=Ctx.le_trans h.le h'.le
  size:=Nat.le_trans h.size h'.size
  same:=fun k hk hn=>by
    have hn1:¬ fp c1 s1 k:=fun hf=>(h.foot k hf).elim hn (fun hle=>by omega)
    obtain ⟨e1,m1⟩:=h.same k hk hn
    obtain ⟨e2,m2⟩:=h'.same k (Nat.lt_of_lt_of_le hk h.size) hn1
    exact ⟨e2.trans e1,fun o=>(m2 o).trans (m1 o)⟩
  foot:=fun k hf=>(h'.foot k hf).elim (h.foot k) (fun hle=>.inr (Nat.le_trans h.size hle))
  next:=Nat.le_trans h.next h'.next
  sig:=fun id hid hn e=>by
    have hn1:s1.get id=none:=by
      cases hg:s1.get id with
      | none=>rfl
      | some o => rcases h.dom id o hg with ⟨o', ho'⟩ | hle
                  · rw [hn] at ho';simp at ho'
                  · omega
    exact (h'.sig id (Nat.lt_of_lt_of_le hid h.next) hn1 e).trans (h.sig id hid hn e)
  dom:=fun id o hg=>by
    rcases h'.dom id o hg with ⟨o',ho'⟩ | hle
    · exact h.dom id o' ho'
    · exact .inr (Nat.le_trans h.next hle)
  os:=h.os.trans h'.os
theorem gQ.mono {c c':Ctx} (h:c.le c'):∀ (xs:List (AV × AV)) (us:List MapEntry),gQ c xs us → gQ c' xs us
  | [],_,r=>by simpa [gQ] using r
  | (a, b) :: xs, us, r => by
    simp only [gQ] at r ⊢
    obtain ⟨u,us',e,r1,r2,r3⟩:=r
    exact ⟨u,us',e,aD.mono h a _ r1,aD.mono h b _ r2,gQ.mono h xs us' r3⟩
theorem cell_of_block {w:World} {k:Nat} {arr:Array Value} {el:TypeId} {fr:Nat × Nat} (h:w.heap[k]? = some (.cells arr el fr)) (i:Nat) :
    w.cell? ⟨k,i,none⟩=arr[i]?:=by simp [World.cell?,h]
theorem xQ {w:World} {k:Nat} {arr:Array Value} {el:TypeId} {fr:Nat × Nat} (h:w.heap[k]? = some (.cells arr el fr)) (i:Nat) :
    w.frozen? ⟨k,i,none⟩=(decide (fr.1 ≤ i) && decide (i < fr.2)):=by
  obtain ⟨a,b⟩:=fr
  simp [World.frozen?,h]
theorem cell_of_heap {w w':World} {k:Nat} (h:w'.heap[k]? = w.heap[k]?) (i:Nat):w'.cell? ⟨k,i,none⟩=w.cell? ⟨k,i,none⟩:=by
  simp [World.cell?,h]
def Ctx.upd (c:Ctx) (b e k z:Nat) (f:Nat → Option Value) (hf:∀ i u,c.m k i=some u → f i=some u):Ctx:=
  ⟨fun b' e'=>if b'=b ∧ e'=e then some (k,z) else c.σ b' e',fun k' i=>if k'=k then f i else c.m k' i,by
    obtain ⟨n,hn⟩:=c.gl
    refine ⟨n,?_⟩
    split
    · rename_i h;subst h;exact hf _ _ hn
    · exact hn⟩
theorem Ctx.D8 {c:Ctx} {b e k z:Nat} {f:Nat → Option Value} (h1:c.σ b e=none ∨ c.σ b e=some (k,z))
    (h2:∀ i u,c.m k i=some u → f i=some u):c.le (c.upd b e k z f h2):=by
  refine ⟨fun b' e' x hx=>?_,fun k' i u hu=>?_⟩
  · show (if b'=b ∧ e'=e then some (k,z) else c.σ b' e')=some x
    split
    · rename_i h;obtain ⟨rfl,rfl⟩:=h
      rcases h1 with h1 | h1 <;> rw [h1] at hx <;> simp_all
    · exact hx
  · show (if k'=k then f i else c.m k' i)=some u
    split
    · rename_i h;subst h;exact h2 i u hu
    · exact hu
section
variable {c:Ctx} {s:St} {w w':World}
theorem Sat.block {id ver : Nat} {cs : List AV} {seen : Bool} (h : Sat c s w) (hg : s.get id = some (.cells ver cs seen)) :
    ∃ k z arr el fr, c.σ id ver = some (k, z) ∧ w.heap[k]? = some (.cells arr el fr) ∧ arr.size = z ∧ cs.length ≤ z ∧
      (∀ i,i < z → ¬ (fr.1 ≤ i ∧ i < fr.2)) ∧ (∀ (i:Nat) (x:AV),cs[i]? = some x → ∃ u,arr[i]? = some u ∧ u.oneCell'=true ∧ aD c x u) ∧
      (∀ i,c.m k i=if seen=true ∧ i < cs.length then arr[i]? else none):=by
  obtain ⟨k,z,arr,el,fr,g1,g2,g⟩:=h.obj id _ hg
  exact ⟨k,z,arr,Fe ver el,fr,g1,g2,g⟩
theorem gJ.move {c':Ctx} {id:Nat} {o:Obj} (hle:c.le c') (ho:gJ c w id o)
    (hk:∀ k,blk c id o=some k → w'.heap[k]? = w.heap[k]? ∧ ∀ i,c'.m k i=c.m k i):gJ c' w' id o:=by
  cases o with
  | cells ver cs seen =>
    obtain ⟨k,z,arr,el,fr,h1,h2,h3,h4,h5,h6,h7⟩:=ho
    obtain ⟨e1,e2⟩:=hk k (by simp [blk,Obj.ver,h1])
    refine ⟨k,z,arr,el,fr,hle.1 _ _ _ h1,by rw [e1,h2],h3,h4,h5,fun i x hx=>?_,fun i=>by rw [e2,h7]⟩
    obtain ⟨u,a,b,r⟩:=h6 i x hx
    exact ⟨u,a,b,r.mono hle⟩
  | map es =>
    obtain ⟨k,z,mes,clock,h1,h2,h3,h4⟩:=ho
    obtain ⟨e1,e2⟩:=hk k (by simp [blk,Obj.ver,h1])
    exact ⟨k,z,mes,clock,hle.1 _ _ _ h1,by rw [e1,h2],h3.mono hle,fun i=>by rw [e2,h4]⟩
  | iter p q =>
    obtain ⟨k,z,h1,h2,h3⟩:=ho
    obtain ⟨e1,e2⟩:=hk k (by simp [blk,Obj.ver,h1])
    exact ⟨k,z,hle.1 _ _ _ h1,by rw [e1,h2],fun i=>by rw [e2,h3]⟩
  | raw k o F us =>
    obtain ⟨z,h1,h2,h3,h4⟩:=ho
    obtain ⟨e1,e2⟩:=hk k (by simp [blk,Obj.ver,h1])
    exact ⟨z,hle.1 _ _ _ h1,by rw [e1,h2],h3.mono hle,fun i=>by rw [e2,h4]⟩
theorem bX {id b e k z:Nat} {o:Obj} {f:Nat → Option Value} {hf:∀ i u,c.m k i=some u → f i=some u} (h:id ≠ b):blk (c.upd b e k z f hf) id o=blk c id o:=by
  simp [blk,Ctx.upd,h]
theorem Sat.inPlace (h:Sat c s w) {b e:Nat} {cs:List AV} {seen:Bool} (hg:s.get b=some (.cells e cs seen)) {k z:Nat} (hσ:c.σ b e=some (k,z))
    {arr:Array Value} {el:TypeId} {fr:Nat × Nat} (hb:w.heap[k]? = some (.cells arr el fr))
    {e':Nat} {cs':List AV} {seen':Bool} {arr':Array Value} (hz:arr'.size=z) (hl:cs'.length ≤ z)
    (hrep:∀ (i:Nat) (x:AV),cs'[i]? = some x → ∃ u,arr'[i]? = some u ∧ u.oneCell'=true ∧ aD c x u)
    (hm:∀ i u,c.m k i=some u → seen'=true ∧ i < cs'.length ∧ arr'[i]? = some u)
    (he:e'=e ∨ e < e') (hee:∀ el,Fe e' (Fe e el)=Fe e el)
    (hw:w'.heap=w.heap.setIfInBounds k (.cells arr' el fr)) (hos:eG w w') :
    ∃ c',Sat c' (s.put b (.cells e' cs' seen')) w' ∧ Ext c s w c' (s.put b (.cells e' cs' seen')) w' ∧ c'.σ b e'=some (k,z) ∧ (seen'=true → ∀ i,i < cs'.length → c'.m k i=arr'[i]?):=by
  have hk:k < w.heap.size:=h.low _ _ _ _ hσ
  obtain ⟨k0,z0,arr0,X7,fr0,g1,g2,g3,g4,g5,g6,g7⟩:=h.obj _ _ hg
  rw [hσ] at g1;simp only [Option.some.injEq,Prod.mk.injEq] at g1;obtain ⟨rfl,rfl⟩:=g1
  rw [hb] at g2;simp only [Option.some.injEq,Go.Obj.cells.injEq] at g2;obtain ⟨rfl,hel,rfl⟩:=g2
  have hev:Fe e' el=el:=by rw [hel];exact hee _
  let f:Nat → Option Value:=fun i=>if seen'=true ∧ i < cs'.length then arr'[i]? else none
  have hne:c.σ b e'=none ∨ c.σ b e'=some (k,z):=by
    rcases he with rfl | hlt
    · exact .inr hσ
    · exact .inl (h.top b _ hg e' hlt)
  have hf0:∀ i u,c.m k i=some u → f i=some u:=fun i u hu=>by
    obtain ⟨p,q,r⟩:=hm i u hu
    simp only [f,p,q,and_self,if_true,r]
  have hle:c.le (c.upd b e' k z f hf0):=Ctx.D8 hne hf0
  have hother:∀ k',k' ≠ k → w'.heap[k']? = w.heap[k']?:=fun k' hk'=>by
    rw [hw,Array.getElem?_setIfInBounds];simp [Ne.symm hk']
  have hself:w'.heap[k]? = some (.cells arr' el fr):=by
    rw [hw,Array.getElem?_setIfInBounds];simp [hk]
  have hsz:w'.heap.size=w.heap.size:=by rw [hw];simp
  have hblk:∀ id o k',s.get id=some o → id ≠ b → blk c id o=some k' → k' ≠ k:=fun id o k' ho hid hb' heq=>by
    subst heq
    exact hid (h.inj id b o _ _ ho hg hb' (by simp [blk,Obj.ver,hσ]))
  have hself_blk:∀ k',blk (c.upd b e' k z f hf0) b (.cells e' cs' seen')=some k' → k'=k:=fun k' hk'=>by
    simp [blk,Ctx.upd,Obj.ver] at hk';exact hk'.symm
  refine ⟨c.upd b e' k z f hf0,⟨?_,?_,?_,?_,?_,?_⟩,⟨hle,by rw [hsz];exact Nat.le_refl _,?_,?_,Nat.le_refl _,?_,?_,hos⟩,by simp [Ctx.upd],fun hs i hi=>by simp [Ctx.upd,f,hs,hi]⟩
  · intro k' i u hu
    simp only [Ctx.upd] at hu
    by_cases hkk:k'=k
    · subst hkk
      simp only [if_true,f] at hu
      split at hu
      · rename_i hc
        rw [cell_of_block hself]
        refine ⟨hu,?_⟩
        obtain ⟨x,hx⟩:∃ x,cs'[i]? = some x:=⟨cs'[i]'hc.2,by simp [hc.2]⟩
        obtain ⟨v,hv,hone,_⟩:=hrep i x hx
        rw [hv] at hu;cases hu;exact hone
      · simp at hu
    · simp only [if_neg hkk] at hu
      obtain ⟨p,q⟩:=h.mem k' i u hu
      exact ⟨by rw [cell_of_heap (hother k' hkk)];exact p,q⟩
  · intro id o ho
    rw [St.get_put hg] at ho
    split at ho
    · rename_i hid;subst hid;cases ho
      refine ⟨k,z,arr',el,fr,by simp [Ctx.upd],by rw [hev];exact hself,hz,hl,g5,fun i x hx=>?_,fun i=>by simp [Ctx.upd,f]⟩
      obtain ⟨u,p,q,r⟩:=hrep i x hx
      exact ⟨u,p,q,r.mono hle⟩
    · rename_i hid
      refine (h.obj id o ho).move hle fun k' hk'=>?_
      have:=hblk id o k' ho (Ne.symm hid) hk'
      exact ⟨hother k' this,fun i=>by simp [Ctx.upd,this]⟩
  · intro id id' o o' k' ho ho' hk1 hk2
    rw [St.get_put hg] at ho ho'
    by_cases h1:b=id
    · by_cases h2:b=id'
      · omega
      · subst h1
        simp only [if_true,Option.some.injEq] at ho;subst ho
        simp only [if_neg h2] at ho'
        have:=hself_blk k' hk1
        rw [bX (Ne.symm h2)] at hk2
        exact absurd this (hblk id' o' k' ho' (Ne.symm h2) hk2)
    · by_cases h2:b=id'
      · subst h2
        simp only [if_true,Option.some.injEq] at ho';subst ho'
        simp only [if_neg h1] at ho
        have:=hself_blk k' hk2
        rw [bX (Ne.symm h1)] at hk1
        exact absurd this (hblk id o k' ho (Ne.symm h1) hk1)
      · simp only [if_neg h1] at ho
        simp only [if_neg h2] at ho'
        rw [bX (Ne.symm h1)] at hk1
        rw [bX (Ne.symm h2)] at hk2
        exact h.inj id id' o o' k' ho ho' hk1 hk2
  · intro id e1 hid
    have hid':s.next ≤ id:=hid
    have hb':id ≠ b:=fun heq=>by subst heq;rw [h.fresh id e hid'] at hσ;simp at hσ
    simp [Ctx.upd,hb',h.fresh id e1 hid']
  · intro id o ho e1 he1
    rw [St.get_put hg] at ho
    split at ho
    · rename_i hid;subst hid;cases ho
      simp only [Obj.ver] at he1
      have:e1 ≠ e':=by omega
      simp only [Ctx.upd,true_and,this,if_false]
      exact h.top b _ hg e1 (by simp only [Obj.ver];omega)
    · rename_i hid
      simp [Ctx.upd,Ne.symm hid,h.top id o ho e1 he1]
  · intro b1 e1 k1 z1 hs
    rw [hsz]
    simp only [Ctx.upd] at hs
    split at hs
    · simp only [Option.some.injEq,Prod.mk.injEq] at hs;omega
    · exact h.low _ _ _ _ hs
  · intro k' hk' hn
    have:k' ≠ k:=fun heq=>hn ⟨b,_,hg,by subst heq;simp [blk,Obj.ver,hσ]⟩
    exact ⟨hother k' this,fun i=>by simp [Ctx.upd,this]⟩
  · rintro k' ⟨id,o,ho,hk'⟩
    rw [St.get_put hg] at ho
    split at ho
    · rename_i hid;subst hid;cases ho
      have:=hself_blk k' hk'
      exact .inl ⟨b,_,hg,by subst this;simp [blk,Obj.ver,hσ]⟩
    · rename_i hid
      rw [bX (Ne.symm hid)] at hk'
      exact .inl ⟨id,o,ho,hk'⟩
  · intro id hid hn e1
    have:id ≠ b:=fun heq=>by subst heq;rw [hg] at hn;simp at hn
    simp [Ctx.upd,this]
  · intro id o ho
    rw [St.get_put hg] at ho
    split at ho
    · rename_i hid;subst hid;exact .inl ⟨_,hg⟩
    · exact .inl ⟨o,ho⟩
end
end Go.AX
/- A new block: of a new id, or the next version of an old one. -/
namespace Go.AX
open Go
section
variable {c:Ctx} {s:St} {w w':World}
theorem Sat.wu (h:Sat c s w) {k:Nat} (hk:w.heap.size ≤ k) (i:Nat):c.m k i=none:=by
  cases hm:c.m k i with
  | none=>rfl
  | some u =>
    have:=(h.mem k i u hm).1
    simp [World.cell?,Array.getElem?_eq_none hk] at this
theorem Sat.alloc (h:Sat c s w) {e':Nat} {cs':List AV} {arr':Array Value} {el:TypeId} {fr:Nat × Nat} (hev:Fe e' el=el)
    (hl:cs'.length ≤ arr'.size) (hfr:∀ i,i < arr'.size → ¬ (fr.1 ≤ i ∧ i < fr.2))
    (hrep:∀ (i:Nat) (x:AV),cs'[i]? = some x → ∃ u,arr'[i]? = some u ∧ u.oneCell'=true ∧ aD c x u)
    (hw:w'.heap=w.heap.push (.cells arr' el fr)) (hos:eG w w') :
    ∃ c',Sat c' (s.push (.cells e' cs' false)) w' ∧ Ext c s w c' (s.push (.cells e' cs' false)) w' ∧ c'.σ s.next e'=some (w.heap.size,arr'.size):=by
  let k:=w.heap.size
  let f:Nat → Option Value:=fun _=>none
  have hf0:∀ i u,c.m k i=some u → f i=some u:=fun i u hu=>by
    rw [h.wu (Nat.le_refl _)] at hu;simp at hu
  have hle:c.le (c.upd s.next e' k arr'.size f hf0):=Ctx.D8 (.inl (h.fresh _ _ (Nat.le_refl _))) hf0
  have hold:∀ k',k' < w.heap.size → w'.heap[k']? = w.heap[k']?:=fun k' hk'=>by
    rw [hw,Array.getElem?_push,if_neg (by omega)]
  have hself:w'.heap[k]? = some (.cells arr' el fr):=by rw [hw];simp [k]
  have hsz:w'.heap.size=w.heap.size + 1:=by rw [hw];simp
  have hlow:∀ id o k',s.get id=some o → blk c id o=some k' → k' < w.heap.size:=fun id o k' _ hb=>by
    simp only [blk,Option.map_eq_some_iff] at hb
    obtain ⟨⟨k1,z1⟩,hs1,rfl⟩:=hb
    exact h.low _ _ _ _ hs1
  have hnext:∀ id o,s.get id=some o → id ≠ s.next:=fun id o ho heq=>by
    subst heq
    have:=h.obj _ _ ho
    cases o with
    | cells v cs sn=>obtain ⟨k0,z0,_,_,_,g1,_⟩:=this;rw [h.fresh _ _ (Nat.le_refl _)] at g1;simp at g1
    | map es=>obtain ⟨k0,z0,_,_,g1,_⟩:=this;rw [h.fresh _ _ (Nat.le_refl _)] at g1;simp at g1
    | iter p q=>obtain ⟨k0,z0,g1,_⟩:=this;rw [h.fresh _ _ (Nat.le_refl _)] at g1;simp at g1
    | raw k0 o0 F0 u0=>obtain ⟨z0,g1,_⟩:=this;rw [h.fresh _ _ (Nat.le_refl _)] at g1;simp at g1
  refine ⟨c.upd s.next e' k arr'.size f hf0,⟨?_,?_,?_,?_,?_,?_⟩,⟨hle,by omega,?_,?_,Nat.le_succ _,?_,?_,hos⟩,by simp [Ctx.upd,k]⟩
  · intro k' i u hu
    simp only [Ctx.upd] at hu
    split at hu
    · simp [f] at hu
    · obtain ⟨p,q⟩:=h.mem k' i u hu
      refine ⟨?_,q⟩
      have hk':k' < w.heap.size:=by
        rcases Nat.lt_or_ge k' w.heap.size with hh | hh
        · exact hh
        · rw [h.wu hh] at hu;simp at hu
      rw [cell_of_heap (hold k' hk')];exact p
  · intro id o ho
    rw [St.dL] at ho
    split at ho
    · rename_i hid;subst hid;cases ho
      refine ⟨k,_,arr',el,fr,by simp [Ctx.upd],by rw [hev];exact hself,rfl,hl,hfr,fun i x hx=>?_,fun i=>by simp [Ctx.upd,f]⟩
      obtain ⟨u,p,q,r⟩:=hrep i x hx
      exact ⟨u,p,q,r.mono hle⟩
    · refine (h.obj id o ho).move hle fun k' hk'=>?_
      have:=hlow id o k' ho hk'
      exact ⟨hold k' this,fun i=>by simp [Ctx.upd,k,Nat.ne_of_lt this]⟩
  · intro id id' o o' k' ho ho' hk1 hk2
    rw [St.dL] at ho ho'
    by_cases h1:s.next=id
    · by_cases h2:s.next=id'
      · omega
      · subst h1
        simp only [if_true,Option.some.injEq] at ho;subst ho
        simp only [if_neg h2] at ho'
        have:k'=k:=by simp [blk,Ctx.upd,Obj.ver] at hk1;exact hk1.symm
        rw [bX (Ne.symm h2)] at hk2
        have:=hlow id' o' k' ho' hk2
        omega
    · by_cases h2:s.next=id'
      · subst h2
        simp only [if_true,Option.some.injEq] at ho';subst ho'
        simp only [if_neg h1] at ho
        have:k'=k:=by simp [blk,Ctx.upd,Obj.ver] at hk2;exact hk2.symm
        rw [bX (Ne.symm h1)] at hk1
        have:=hlow id o k' ho hk1
        omega
      · simp only [if_neg h1] at ho
        simp only [if_neg h2] at ho'
        rw [bX (Ne.symm h1)] at hk1
        rw [bX (Ne.symm h2)] at hk2
        exact h.inj id id' o o' k' ho ho' hk1 hk2
  · intro id e1 hid
    have hid':s.next + 1 ≤ id:=hid
    have:id ≠ s.next:=by omega
    simp [Ctx.upd,this,h.fresh id e1 (by omega)]
  · intro id o ho e1 he1
    rw [St.dL] at ho
    split at ho
    · rename_i hid;subst hid;cases ho
      simp only [Obj.ver] at he1
      have:e1 ≠ e':=by omega
      simp only [Ctx.upd,true_and,this,if_false]
      exact h.fresh _ _ (Nat.le_refl _)
    · rename_i hid
      simp [Ctx.upd,Ne.symm hid,h.top id o ho e1 he1]
  · intro b1 e1 k1 z1 hs
    simp only [Ctx.upd] at hs
    split at hs
    · simp only [Option.some.injEq,Prod.mk.injEq] at hs;omega
    · have:=h.low _ _ _ _ hs;omega
  · intro k' hk' _
    exact ⟨hold k' hk',fun i=>by simp [Ctx.upd,k,Nat.ne_of_lt hk']⟩
  · rintro k' ⟨id,o,ho,hk'⟩
    rw [St.dL] at ho
    split at ho
    · rename_i hid;subst hid;cases ho
      have:k'=k:=by simp [blk,Ctx.upd,Obj.ver] at hk';exact hk'.symm
      exact .inr (by omega)
    · rename_i hid
      rw [bX (Ne.symm hid)] at hk'
      exact .inl ⟨id,o,ho,hk'⟩
  · intro id hid _ e1
    have:id ≠ s.next:=by omega
    simp [Ctx.upd,this]
  · intro id o ho
    rw [St.dL] at ho
    split at ho
    · rename_i hid;exact .inr (by omega)
    · exact .inl ⟨o,ho⟩
theorem Sat.RP (h:Sat c s w) {o':Obj} {O:Go.Obj} (hv:o'.ver=0)
    (ho':∀ (c':Ctx),c.le c' → c'.σ s.next 0=some (w.heap.size,0) → (∀ i,c'.m w.heap.size i=none) → gJ c' w' s.next o')
    (hw:w'.heap=w.heap.push O) (hos:eG w w') :
    ∃ c',Sat c' (s.push o') w' ∧ Ext c s w c' (s.push o') w' ∧ c'.σ s.next 0=some (w.heap.size,0):=by
  let k:=w.heap.size
  let f:Nat → Option Value:=fun _=>none
  have hf0:∀ i u,c.m k i=some u → f i=some u:=fun i u hu=>by
    rw [h.wu (Nat.le_refl _)] at hu;simp at hu
  have hle:c.le (c.upd s.next 0 k 0 f hf0):=Ctx.D8 (.inl (h.fresh _ _ (Nat.le_refl _))) hf0
  have hold:∀ k',k' < w.heap.size → w'.heap[k']? = w.heap[k']?:=fun k' hk'=>by
    rw [hw,Array.getElem?_push,if_neg (by omega)]
  have hself:w'.heap[k]? = some O:=by rw [hw];simp [k]
  have hsz:w'.heap.size=w.heap.size + 1:=by rw [hw];simp
  have hlow:∀ id o k',s.get id=some o → blk c id o=some k' → k' < w.heap.size:=fun id o k' _ hb=>by
    simp only [blk,Option.map_eq_some_iff] at hb
    obtain ⟨⟨k1,z1⟩,hs1,rfl⟩:=hb
    exact h.low _ _ _ _ hs1
  have hnext:∀ id o,s.get id=some o → id ≠ s.next:=fun id o ho heq=>by
    subst heq
    have:=h.obj _ _ ho
    cases o with
    | cells v cs sn=>obtain ⟨k0,z0,_,_,_,g1,_⟩:=this;rw [h.fresh _ _ (Nat.le_refl _)] at g1;simp at g1
    | map es=>obtain ⟨k0,z0,_,_,g1,_⟩:=this;rw [h.fresh _ _ (Nat.le_refl _)] at g1;simp at g1
    | iter p q=>obtain ⟨k0,z0,g1,_⟩:=this;rw [h.fresh _ _ (Nat.le_refl _)] at g1;simp at g1
    | raw k0 o0 F0 u0=>obtain ⟨z0,g1,_⟩:=this;rw [h.fresh _ _ (Nat.le_refl _)] at g1;simp at g1
  refine ⟨c.upd s.next 0 k 0 f hf0,⟨?_,?_,?_,?_,?_,?_⟩,⟨hle,by omega,?_,?_,Nat.le_succ _,?_,?_,hos⟩,by simp [Ctx.upd,k]⟩
  · intro k' i u hu
    simp only [Ctx.upd] at hu
    split at hu
    · simp [f] at hu
    · obtain ⟨p,q⟩:=h.mem k' i u hu
      refine ⟨?_,q⟩
      have hk':k' < w.heap.size:=by
        rcases Nat.lt_or_ge k' w.heap.size with hh | hh
        · exact hh
        · rw [h.wu hh] at hu;simp at hu
      rw [cell_of_heap (hold k' hk')];exact p
  · intro id o ho
    rw [St.dL] at ho
    split at ho
    · rename_i hid;subst hid;cases ho
      exact ho' _ hle (by simp [Ctx.upd,k]) (fun i=>by simp [Ctx.upd,f,k])
    · refine (h.obj id o ho).move hle fun k' hk'=>?_
      have:=hlow id o k' ho hk'
      exact ⟨hold k' this,fun i=>by simp [Ctx.upd,k,Nat.ne_of_lt this]⟩
  · intro id id' o o' k' ho ho' hk1 hk2
    rw [St.dL] at ho ho'
    by_cases h1:s.next=id
    · by_cases h2:s.next=id'
      · omega
      · subst h1
        simp only [if_true,Option.some.injEq] at ho;subst ho
        simp only [if_neg h2] at ho'
        have:k'=k:=by simp [blk,Ctx.upd,hv] at hk1;exact hk1.symm
        rw [bX (Ne.symm h2)] at hk2
        have:=hlow id' o' k' ho' hk2
        omega
    · by_cases h2:s.next=id'
      · subst h2
        simp only [if_true,Option.some.injEq] at ho';subst ho'
        simp only [if_neg h1] at ho
        have:k'=k:=by simp [blk,Ctx.upd,hv] at hk2;exact hk2.symm
        rw [bX (Ne.symm h1)] at hk1
        have:=hlow id o k' ho hk1
        omega
      · simp only [if_neg h1] at ho
        simp only [if_neg h2] at ho'
        rw [bX (Ne.symm h1)] at hk1
        rw [bX (Ne.symm h2)] at hk2
        exact h.inj id id' o o' k' ho ho' hk1 hk2
  · intro id e1 hid
    have hid':s.next + 1 ≤ id:=hid
    have:id ≠ s.next:=by omega
    simp [Ctx.upd,this,h.fresh id e1 (by omega)]
  · intro id o ho e1 he1
    rw [St.dL] at ho
    split at ho
    · rename_i hid;subst hid;cases ho
      rw [hv] at he1
      have:e1 ≠ 0:=by omega
      simp only [Ctx.upd,true_and,this,if_false]
      exact h.fresh _ _ (Nat.le_refl _)
    · rename_i hid
      simp [Ctx.upd,Ne.symm hid,h.top id o ho e1 he1]
  · intro b1 e1 k1 z1 hs
    simp only [Ctx.upd] at hs
    split at hs
    · simp only [Option.some.injEq,Prod.mk.injEq] at hs;omega
    · have:=h.low _ _ _ _ hs;omega
  · intro k' hk' _
    exact ⟨hold k' hk',fun i=>by simp [Ctx.upd,k,Nat.ne_of_lt hk']⟩
  · rintro k' ⟨id,o,ho,hk'⟩
    rw [St.dL] at ho
    split at ho
    · rename_i hid;subst hid;cases ho
      have:k'=k:=by simp [blk,Ctx.upd,hv] at hk';exact hk'.symm
      exact .inr (by omega)
    · rename_i hid
      rw [bX (Ne.symm hid)] at hk'
      exact .inl ⟨id,o,ho,hk'⟩
  · intro id hid _ e1
    have:id ≠ s.next:=by omega
    simp [Ctx.upd,this]
  · intro id o ho
    rw [St.dL] at ho
    split at ho
    · rename_i hid;exact .inr (by omega)
    · exact .inl ⟨o,ho⟩
theorem Sat.Yt (h:Sat c s w) {b:Nat} {o o':Obj} {O:Go.Obj} (hg:s.get b=some o) (hv:o.ver=0) (hv':o'.ver=0) {k z:Nat} (hσ:c.σ b 0=some (k,z)) (hm:∀ i,c.m k i=none)
    (ho':w'.heap[k]? = some O → gJ c w' b o') (hw:w'.heap=w.heap.setIfInBounds k O) (hos:eG w w') :
    Sat c (s.put b o') w' ∧ Ext c s w c (s.put b o') w':=by
  have hk:k < w.heap.size:=h.low _ _ _ _ hσ
  have hother:∀ k',k' ≠ k → w'.heap[k']? = w.heap[k']?:=fun k' hk'=>by
    rw [hw,Array.getElem?_setIfInBounds];simp [Ne.symm hk']
  have hself:w'.heap[k]? = some O:=by
    rw [hw,Array.getElem?_setIfInBounds];simp [hk]
  have hsz:w'.heap.size=w.heap.size:=by rw [hw];simp
  have hb0:blk c b o=some k:=by simp [blk,hv,hσ]
  have hb1:blk c b o'=some k:=by simp [blk,hv',hσ]
  have hblk:∀ id x k',s.get id=some x → id ≠ b → blk c id x=some k' → k' ≠ k:=fun id x k' hx hid hb' heq=>by
    subst heq
    exact hid (h.inj id b x _ _ hx hg hb' hb0)
  refine ⟨⟨?_,?_,?_,h.fresh,?_,?_⟩,⟨Ctx.le_refl c,by rw [hsz];exact Nat.le_refl _,?_,?_,Nat.le_refl _,fun _ _ _ _=>rfl,?_,hos⟩⟩
  · intro k' i u hu
    have hkk:k' ≠ k:=fun heq=>by subst heq;rw [hm] at hu;simp at hu
    obtain ⟨p,q⟩:=h.mem k' i u hu
    exact ⟨by rw [cell_of_heap (hother k' hkk)];exact p,q⟩
  · intro id x hx
    rw [St.get_put hg] at hx
    split at hx
    · rename_i hid;subst hid;cases hx;exact ho' hself
    · rename_i hid
      refine (h.obj id x hx).move (Ctx.le_refl c) fun k' hk'=>?_
      exact ⟨hother k' (hblk id x k' hx (Ne.symm hid) hk'),fun _=>rfl⟩
  · intro id id' x x' k' hx hx' hk1 hk2
    rw [St.get_put hg] at hx hx'
    by_cases h1:b=id
    · by_cases h2:b=id'
      · omega
      · subst h1
        simp only [if_true,Option.some.injEq] at hx;subst hx
        simp only [if_neg h2] at hx'
        rw [hb1] at hk1;cases hk1
        exact absurd rfl (hblk id' x' k hx' (Ne.symm h2) hk2)
    · by_cases h2:b=id'
      · subst h2
        simp only [if_true,Option.some.injEq] at hx';subst hx'
        simp only [if_neg h1] at hx
        rw [hb1] at hk2;cases hk2
        exact absurd rfl (hblk id x k hx (Ne.symm h1) hk1)
      · simp only [if_neg h1] at hx
        simp only [if_neg h2] at hx'
        exact h.inj id id' x x' k' hx hx' hk1 hk2
  · intro id x hx e1 he1
    rw [St.get_put hg] at hx
    split at hx
    · rename_i hid;subst hid;cases hx
      exact h.top b o hg e1 (by rw [hv];rw [hv'] at he1;exact he1)
    · exact h.top id x hx e1 he1
  · intro b1 e1 k1 z1 hs
    rw [hsz];exact h.low _ _ _ _ hs
  · intro k' _ hn
    have:k' ≠ k:=fun heq=>hn ⟨b,o,hg,by subst heq;exact hb0⟩
    exact ⟨hother k' this,fun _=>rfl⟩
  · rintro k' ⟨id,x,hx,hk'⟩
    rw [St.get_put hg] at hx
    split at hx
    · rename_i hid;subst hid;cases hx
      rw [hb1] at hk';cases hk'
      exact .inl ⟨b,o,hg,hb0⟩
    · exact .inl ⟨id,x,hx,hk'⟩
  · intro id x hx
    rw [St.get_put hg] at hx
    split at hx
    · rename_i hid;subst hid;exact .inl ⟨_,hg⟩
    · exact .inl ⟨x,hx⟩
theorem Sat.W9 (h:Sat c s w) {b e:Nat} {cs:List AV} {seen:Bool} (hg:s.get b=some (.cells e cs seen))
    {e':Nat} {cs':List AV} {seen':Bool} {arr':Array Value} {el:TypeId} {fr:Nat × Nat}
    (hl:cs'.length ≤ arr'.size) (hfr:∀ i,i < arr'.size → ¬ (fr.1 ≤ i ∧ i < fr.2))
    (hrep:∀ (i:Nat) (x:AV),cs'[i]? = some x → ∃ u,arr'[i]? = some u ∧ u.oneCell'=true ∧ aD c x u)
    (he:e < e') (hev:Fe e' el=el)
    (hw:w'.heap=w.heap.push (.cells arr' el fr)) (hos:eG w w') :
    ∃ c',Sat c' (s.put b (.cells e' cs' seen')) w' ∧ Ext c s w c' (s.put b (.cells e' cs' seen')) w' ∧ c'.σ b e'=some (w.heap.size,arr'.size):=by
  let k:=w.heap.size
  let f:Nat → Option Value:=fun i=>if seen'=true ∧ i < cs'.length then arr'[i]? else none
  have hf0:∀ i u,c.m k i=some u → f i=some u:=fun i u hu=>by
    rw [h.wu (Nat.le_refl _)] at hu;simp at hu
  have hle:c.le (c.upd b e' k arr'.size f hf0):=Ctx.D8 (.inl (h.top b _ hg e' he)) hf0
  have hold:∀ k',k' < w.heap.size → w'.heap[k']? = w.heap[k']?:=fun k' hk'=>by
    rw [hw,Array.getElem?_push,if_neg (by omega)]
  have hself:w'.heap[k]? = some (.cells arr' el fr):=by rw [hw];simp [k]
  have hsz:w'.heap.size=w.heap.size + 1:=by rw [hw];simp
  have hlow:∀ id o k',s.get id=some o → blk c id o=some k' → k' < w.heap.size:=fun id o k' _ hb=>by
    simp only [blk,Option.map_eq_some_iff] at hb
    obtain ⟨⟨k1,z1⟩,hs1,rfl⟩:=hb
    exact h.low _ _ _ _ hs1
  have hnext:b < s.next:=by
    rcases Nat.lt_or_ge b s.next with hh | hh
    · exact hh
    · obtain ⟨k0,z0,_,_,_,g1,_⟩:=h.block hg;rw [h.fresh _ _ hh] at g1;simp at g1
  refine ⟨c.upd b e' k arr'.size f hf0,⟨?_,?_,?_,?_,?_,?_⟩,⟨hle,by omega,?_,?_,Nat.le_refl _,?_,?_,hos⟩,by simp [Ctx.upd,k]⟩
  · intro k' i u hu
    simp only [Ctx.upd] at hu
    split at hu
    · rename_i hkk;subst hkk
      simp only [f] at hu
      split at hu
      · rename_i hc
        rw [cell_of_block hself]
        refine ⟨hu,?_⟩
        obtain ⟨x,hx⟩:∃ x,cs'[i]? = some x:=⟨cs'[i]'hc.2,by simp [hc.2]⟩
        obtain ⟨v,hv,hone,_⟩:=hrep i x hx
        rw [hv] at hu;cases hu;exact hone
      · simp at hu
    · obtain ⟨p,q⟩:=h.mem k' i u hu
      refine ⟨?_,q⟩
      have hk':k' < w.heap.size:=by
        rcases Nat.lt_or_ge k' w.heap.size with hh | hh
        · exact hh
        · rw [h.wu hh] at hu;simp at hu
      rw [cell_of_heap (hold k' hk')];exact p
  · intro id o ho
    rw [St.get_put hg] at ho
    split at ho
    · rename_i hid;subst hid;cases ho
      refine ⟨k,_,arr',el,fr,by simp [Ctx.upd],by rw [hev];exact hself,rfl,hl,hfr,fun i x hx=>?_,fun i=>by simp [Ctx.upd,f]⟩
      obtain ⟨u,p,q,r⟩:=hrep i x hx
      exact ⟨u,p,q,r.mono hle⟩
    · refine (h.obj id o ho).move hle fun k' hk'=>?_
      have:=hlow id o k' ho hk'
      exact ⟨hold k' this,fun i=>by simp [Ctx.upd,k,Nat.ne_of_lt this]⟩
  · intro id id' o o' k' ho ho' hk1 hk2
    rw [St.get_put hg] at ho ho'
    by_cases h1:b=id
    · by_cases h2:b=id'
      · omega
      · subst h1
        simp only [if_true,Option.some.injEq] at ho;subst ho
        simp only [if_neg h2] at ho'
        have:k'=k:=by simp [blk,Ctx.upd,Obj.ver] at hk1;exact hk1.symm
        rw [bX (Ne.symm h2)] at hk2
        have:=hlow id' o' k' ho' hk2
        omega
    · by_cases h2:b=id'
      · subst h2
        simp only [if_true,Option.some.injEq] at ho';subst ho'
        simp only [if_neg h1] at ho
        have:k'=k:=by simp [blk,Ctx.upd,Obj.ver] at hk2;exact hk2.symm
        rw [bX (Ne.symm h1)] at hk1
        have:=hlow id o k' ho hk1
        omega
      · simp only [if_neg h1] at ho
        simp only [if_neg h2] at ho'
        rw [bX (Ne.symm h1)] at hk1
        rw [bX (Ne.symm h2)] at hk2
        exact h.inj id id' o o' k' ho ho' hk1 hk2
  · intro id e1 hid
    have hid':s.next ≤ id:=hid
    have:id ≠ b:=by omega
    simp [Ctx.upd,this,h.fresh id e1 hid']
  · intro id o ho e1 he1
    rw [St.get_put hg] at ho
    split at ho
    · rename_i hid;subst hid;cases ho
      simp only [Obj.ver] at he1
      have:e1 ≠ e':=by omega
      simp only [Ctx.upd,true_and,this,if_false]
      exact h.top b _ hg e1 (by simp only [Obj.ver];omega)
    · rename_i hid
      simp [Ctx.upd,Ne.symm hid,h.top id o ho e1 he1]
  · intro b1 e1 k1 z1 hs
    simp only [Ctx.upd] at hs
    split at hs
    · simp only [Option.some.injEq,Prod.mk.injEq] at hs;omega
    · have:=h.low _ _ _ _ hs;omega
  · intro k' hk' _
    exact ⟨hold k' hk',fun i=>by simp [Ctx.upd,k,Nat.ne_of_lt hk']⟩
  · rintro k' ⟨id,o,ho,hk'⟩
    rw [St.get_put hg] at ho
    split at ho
    · rename_i hid;subst hid;cases ho
      have:k'=k:=by simp [blk,Ctx.upd,Obj.ver] at hk';exact hk'.symm
      exact .inr (by omega)
    · rename_i hid
      rw [bX (Ne.symm hid)] at hk'
      exact .inl ⟨id,o,ho,hk'⟩
  · intro id hid hn e1
    have:id ≠ b:=fun heq=>by subst heq;rw [hg] at hn;simp at hn
    simp [Ctx.upd,this]
  · intro id o ho
    rw [St.get_put hg] at ho
    split at ho
    · rename_i hid;subst hid;exact .inl ⟨_,hg⟩
    · exact .inl ⟨o,ho⟩
theorem Sat.sameHeap (h:Sat c s w) (hw:w'.heap=w.heap) (hos:eG w w'):Sat c s w' ∧ Ext c s w c s w':=by
  refine ⟨⟨fun k o u hu=>?_,fun id o ho=>?_,h.inj,h.fresh,h.top,fun b e k z hs=>by rw [hw];exact h.low _ _ _ _ hs⟩,
    ⟨Ctx.le_refl c,by rw [hw];exact Nat.le_refl _,fun k _ _=>⟨by rw [hw],fun _=>rfl⟩,fun _ hf=>.inl hf,Nat.le_refl _,fun _ _ _ _=>rfl,fun _ o ho=>.inl ⟨o,ho⟩,hos⟩⟩
  · rw [cell_of_heap (w:=w) (by rw [hw])];exact h.mem k o u hu
  · exact (h.obj id o ho).move (Ctx.le_refl c) fun k _=>⟨by rw [hw],fun _=>rfl⟩
theorem Sat.see (h : Sat c s w) {b e : Nat} {cs : List AV} {seen : Bool} (hg : s.get b = some (.cells e cs seen)) :
    ∃ c', Sat c' (s.put b (.cells e cs true)) w ∧ Ext c s w c' (s.put b (.cells e cs true)) w ∧
      ∃ k z,c'.σ b e=some (k,z) ∧ bG c' k 0 cs:=by
  obtain ⟨k,z,arr,el,fr,g1,g2,g3,g4,g5,g6,g7⟩:=h.block hg
  have hk:k < w.heap.size:=h.low _ _ _ _ g1
  obtain ⟨c',q1,q2,q3,q4⟩:=h.inPlace (w':=w) hg g1 g2 (e':=e) (cs':=cs) (seen':=true) (arr':=arr) g3 g4 g6
    (fun i u hu=>by
      rw [g7] at hu
      split at hu
      · rename_i hc;exact ⟨rfl,hc.2,hu⟩
      · simp at hu) (.inl rfl) (lT e) (by
      apply Array.ext (by simp)
      intro i h1 h2
      rw [Array.getElem_setIfInBounds]
      split
      · rename_i heq;subst heq
        rw [Array.getElem?_eq_getElem h1] at g2
        simpa using g2
      · rfl) (eG.refl w)
  refine ⟨c',q1,q2,k,z,q3,bG.eU fun i x hx=>?_⟩
  obtain ⟨u,p,_,r⟩:=g6 i x hx
  have hi:i < cs.length:=by
    rcases Nat.lt_or_ge i cs.length with hh | hh
    · exact hh
    · rw [List.getElem?_eq_none hh] at hx;simp at hx
  exact ⟨u,by rw [Nat.zero_add,q4 rfl i hi];exact p,r.mono q2.le⟩
theorem Sat.forget (h:Sat c s w) {s':St} (hsub:∀ id o,s'.get id=some o → s.get id=some o) (hn:s.next ≤ s'.next) :
    Sat c s' w ∧ Ext c s w c s' w:=by
  refine ⟨⟨h.mem,fun id o ho=>h.obj id o (hsub id o ho),fun id id' o o' k ho ho'=>h.inj id id' o o' k (hsub _ _ ho) (hsub _ _ ho'),
    fun id e hid=>h.fresh id e (Nat.le_trans hn hid),fun id o ho=>h.top id o (hsub _ _ ho),h.low⟩,
    ⟨Ctx.le_refl c,Nat.le_refl _,fun _ _ _=>⟨rfl,fun _=>rfl⟩,fun k hf=>?_,hn,fun _ _ _ _=>rfl,fun id o ho=>.inl ⟨o,hsub _ _ ho⟩,eG.refl w⟩⟩
  obtain ⟨id,o,ho,hk⟩:=hf
  exact .inl ⟨id,o,hsub _ _ ho,hk⟩
def St.hide (s:St) (l:List Nat):St:=⟨s.heap.filter fun x=>!l.contains x.1,s.next⟩
def St.join (s s1:St) (l:List Nat):St:=⟨(l.filterMap fun id=>(s.get id).map fun o=>(id,o)) ++ s1.heap,s1.next⟩
theorem fU (p:Nat → Bool) (id:Nat):∀ l:List (Nat × Obj),look id (l.filter fun x=>p x.1)=if p id then look id l else none
  | []=>by simp [look]
  | (i, o) :: r => by
    simp only [List.filter_cons]
    by_cases hp:p i=true
    · simp only [hp,if_true,look]
      split
      · rename_i h;subst h;simp [hp]
      · exact fU p id r
    · simp only [hp,Bool.false_eq_true,if_false]
      rw [fU p id r]
      simp only [look]
      split
      · rename_i h1
        split
        · rename_i h;subst h;exact absurd h1 hp
        · rfl
      · rfl
theorem St.fD (s:St) (l:List Nat) (id:Nat):(s.hide l).get id=if l.contains id then none else s.get id:=by
  have:=fU (fun i=>!l.contains i) id s.heap
  simp only [St.get,St.hide]
  rw [this]
  cases l.contains id <;> simp
theorem lS (id:Nat) (r:List (Nat × Obj)):∀ l:List (Nat × Obj),look id (l ++ r)=(look id l).or (look id r)
  | []=>by simp [look]
  | (i, o) :: l => by
    simp only [List.cons_append,look]
    split
    · simp
    · exact lS id r l
theorem G6 (s:St) (id:Nat):∀ l:List Nat,look id (l.filterMap fun i=>(s.get i).map fun o=>(i,o))=if l.contains id then s.get id else none
  | []=>by simp [look]
  | i :: l => by
    have ih:=G6 s id l
    simp only [List.filterMap_cons]
    cases hg:s.get i with
    | none =>
      simp only [Option.map_none]
      rw [ih]
      by_cases h:id=i
      · subst h;simp [hg]
      · simp [h]
    | some o =>
      simp only [Option.map_some,look]
      by_cases h:i=id
      · subst h;simp [hg]
      · simp only [if_neg h,ih]
        have:¬ id=i:=fun e=>h e.symm
        simp [this]
theorem St.get_join (s s1:St) (l:List Nat) (id:Nat):(s.join s1 l).get id=(if l.contains id then s.get id else none).or (s1.get id):=by
  have:=G6 s id l
  show look id (_ ++ _)=_
  rw [lS,this]
  rfl
theorem Sat.hide (h:Sat c s w) (l:List Nat):Sat c (s.hide l) w:=
  (h.forget (s':=s.hide l) (fun id o ho=>by rw [St.fD] at ho;split at ho <;> simp_all) (Nat.le_refl _)).1
theorem Sat.join (h:Sat c s w) (l:List Nat) {c':Ctx} {s1:St} (h1:Sat c' s1 w') (hx:Ext c (s.hide l) w c' s1 w') :
    Sat c' (s.join s1 l) w' ∧ Ext c s w c' (s.join s1 l) w':=by
  have hnx:∀ id o,s.get id=some o → id < s.next:=fun id o ho=>by
    rcases Nat.lt_or_ge id s.next with hh | hh
    · exact hh
    · have:=h.obj _ _ ho
      cases o with
      | cells v cs sn=>obtain ⟨k0,z0,_,_,_,g1,_⟩:=this;rw [h.fresh _ _ hh] at g1;simp at g1
      | map es=>obtain ⟨k0,z0,_,_,g1,_⟩:=this;rw [h.fresh _ _ hh] at g1;simp at g1
      | iter p q=>obtain ⟨k0,z0,g1,_⟩:=this;rw [h.fresh _ _ hh] at g1;simp at g1
      | raw k0 o0 F0 u0=>obtain ⟨z0,g1,_⟩:=this;rw [h.fresh _ _ hh] at g1;simp at g1
  -- where an id comes from
  have hcase:∀ id o,(s.join s1 l).get id=some o → (l.contains id=true ∧ s.get id=some o) ∨ (s1.get id=some o ∧ (l.contains id=false ∨ s.get id=none)):=fun id o ho=>by
    rw [St.get_join] at ho
    cases hl:l.contains id with
    | true =>
      rw [hl] at ho
      simp only [if_true] at ho
      cases hg:s.get id with
      | none=>rw [hg] at ho;simp at ho;exact .inr ⟨ho,.inr rfl⟩
      | some x=>rw [hg] at ho;simp at ho;subst ho;exact .inl ⟨rfl,rfl⟩
    | false=>rw [hl] at ho;simp at ho;exact .inr ⟨ho,.inl rfl⟩
  have hhid:∀ id o,l.contains id=true → s.get id=some o → ∀ k,blk c id o=some k → ¬ fp c (s.hide l) k:=fun id o hl ho k hk hf=>by
    obtain ⟨id2,o2,ho2,hk2⟩:=hf
    rw [St.fD] at ho2
    split at ho2
    · simp at ho2
    · rename_i hn
      have:=h.inj id id2 o o2 k ho ho2 hk hk2
      subst this
      exact hn hl
  have hblk:∀ id o,l.contains id=true → s.get id=some o → blk c' id o=blk c id o:=fun id o hl ho=>by
    simp only [blk]
    rw [hx.sig id (hnx id o ho) (by rw [St.fD,hl];rfl)]
  have hlowk:∀ id o k,blk c id o=some k → k < w.heap.size:=fun id o k hb=>by
    simp only [blk,Option.map_eq_some_iff] at hb
    obtain ⟨⟨k1,z1⟩,hs1,rfl⟩:=hb
    exact h.low _ _ _ _ hs1
  have hcross:∀ id o,l.contains id=true → s.get id=some o → ∀ id2 o2 k,s1.get id2=some o2 → blk c' id o=some k → blk c' id2 o2=some k → False:=fun id o hl ho id2 o2 k ho2 hk hk2=>by
    rw [hblk id o hl ho] at hk
    rcases hx.foot k ⟨id2,o2,ho2,hk2⟩ with hf | hle
    · exact hhid id o hl ho k hk hf
    · have:=hlowk id o k hk;omega
  refine ⟨⟨h1.mem,fun id o ho=>?_,fun id id' o o' k ho ho' hk hk'=>?_,h1.fresh,fun id o ho e he=>?_,h1.low⟩,
    ⟨hx.le,hx.size,fun k hk hn=>hx.same k hk fun hf=>hn ?_,fun k hf=>?_,hx.next,fun id hid hn e=>hx.sig id hid (by rw [St.fD,hn];simp) e,fun id o ho=>?_,hx.os⟩⟩
  · rcases hcase id o ho with ⟨hl,hs⟩ | ⟨hs,_⟩
    · refine (h.obj id o hs).move hx.le fun k hk=>?_
      exact hx.same k (hlowk id o k hk) (hhid id o hl hs k hk)
    · exact h1.obj id o hs
  · rcases hcase id o ho with ⟨hl,hs⟩ | ⟨hs,_⟩
    · rcases hcase id' o' ho' with ⟨hl',hs'⟩ | ⟨hs',_⟩
      · rw [hblk id o hl hs] at hk
        rw [hblk id' o' hl' hs'] at hk'
        exact h.inj id id' o o' k hs hs' hk hk'
      · exact (hcross id o hl hs id' o' k hs' hk hk').elim
    · rcases hcase id' o' ho' with ⟨hl',hs'⟩ | ⟨hs',_⟩
      · exact (hcross id' o' hl' hs' id o k hs hk' hk).elim
      · exact h1.inj id id' o o' k hs hs' hk hk'
  · rcases hcase id o ho with ⟨hl,hs⟩ | ⟨hs,_⟩
    · rw [hx.sig id (hnx id o hs) (by rw [St.fD,hl];rfl)]
      exact h.top id o hs e he
    · exact h1.top id o hs e he
  · obtain ⟨id,o,ho,hb⟩:=hf
    rw [St.fD] at ho
    split at ho
    · simp at ho
    · exact ⟨id,o,ho,hb⟩
  · obtain ⟨id,o,ho,hb⟩:=hf
    rcases hcase id o ho with ⟨hl,hs⟩ | ⟨hs,_⟩
    · rw [hblk id o hl hs] at hb
      exact .inl ⟨id,o,hs,hb⟩
    · rcases hx.foot k ⟨id,o,hs,hb⟩ with ⟨id2,o2,ho2,hb2⟩ | hle
      · rw [St.fD] at ho2
        split at ho2
        · simp at ho2
        · exact .inl ⟨id2,o2,ho2,hb2⟩
      · exact .inr hle
  · rcases hcase id o ho with ⟨hl,hs⟩ | ⟨hs,_⟩
    · exact .inl ⟨o,hs⟩
    · rcases hx.dom id o hs with ⟨o2,ho2⟩ | hle
      · rw [St.fD] at ho2
        split at ho2
        · simp at ho2
        · exact .inl ⟨o2,ho2⟩
      · exact .inr hle
end
end Go.AX
/- The operations: what each gives of abstract values. -/
namespace Go.AX
open Go
inductive AO where
  | t (n:Nat)
  | k (v:AV)
  deriving Inhabited
def AO.ev (F:List AV):AO → AV
  | .t n=>F.getD n .any
  | .k v=>v
inductive p8 where
  | int
  | str
  | bool
  | ptr
  | slc
  | ifc (lit:Bool)
  | fnc
  | mapp
  | node (l:List (Nat × Option Nat × p8))
  deriving Inhabited
inductive jy where
  | mv (x:AO)
  | pick (c a b:AO)
  | alloc (z:List AV)
  | box (x:AO)
  | build (z:List AV) (parts:List (Nat × Nat × AO))
  | bslice (z:List AV) (n esz:Nat) (parts:List (Nat × Nat × AO))
  | load (n:Option Nat) (a:AO)
  | store (n:Nat) (a x:AO)
  | nilck (x:AO)
  | bin (op:BinOp) (x y:AO)
  | eq (neg:Bool) (t:p8) (x y:AO)
  | un (op:UnOp) (x:AO)
  | i2i (k:IntKind) (x:AO)
  | s2s (x:AO)
  | s2b (x:AO)
  | b2s (x:AO)
  | ifc (t:Nat) (x:AO)
  | mkfn (f:Fn) (first cap:List AO)
  | slcS (x:AO) (lo hi:Option AO)
  | slc (esz:Nat) (x:AO) (lo hi:Option AO)
  | faddr (off:Nat) (x:AO)
  | fld (off:Nat) (n:Option Nat) (x:AO)
  | iaddr (arr:Option Nat) (esz:Nat) (x i:AO)
  | sidx (x i:AO)
  | aidx (len esz:Nat) (n:Option Nat) (x i:AO)
  | ext (i:Nat) (x:AO)
  | len (x:AO)
  | lenS (x:AO)
  | cst (v:AV)
  | app (esz bytes:Nat) (str:Bool) (s x:AO)
  | mkslice (z:List AV) (bytes:Nat) (l c:AO)
  | mm (max:Bool) (xs:List AO)
  | bad
  | rng (x:AO)
  | nxt (x:AO)
  | i2s (x:AO)
  | mkmap
  | lkp (tr:p8) (z:AV) (ok:Bool) (m k:AO)
  | mup (tr:p8) (m k v:AO)
  | clr (z:List AV) (x:AO)
  | idxB (x c:AO)
  | call (f:Nat) (args:List AO)
  | callv (f:AO) (args:List AO)
  | inv (kg:List (Nat × Nat)) (r:AO) (args:List AO)
  | Fj (x:AO)
  | tas (kg:List Nat) (x:AO)
  | cpy (z:Nat) (d s:AO)
  deriving Inhabited
def asNat:AV → Option Nat
  | .int _ i=>if 0 ≤ i then some i.toNat else none
  | _=>none
def partOf (n:Option Nat) (off:Nat) (cs:List AV):Option AV:=
  match n with
  | none=>cs[off]?
  | some n=>some (.agg ((cs.drop off).take n))
def kH:List AV → List (Nat × Nat × AV) → Option (List AV)
  | cs,[]=>some cs
  | cs, (off, size, x) :: r =>
    if x.cells.length=size ∧ off + size ≤ cs.length ∧ x.cells.all AV.one=true then kH (cs.take off ++ x.cells ++ cs.drop (off + size)) r else none
mutual
def eqv:p8 → AV → AV → Option Bool
  | .int, x, y => match x, y with
    | .int k a,.int k' b=>if k=k' then some (a == b) else none
    | _,_=>none
  | .str, x, y => match x, y with
    | .str a,.str b=>some (a == b)
    | _,_=>none
  | .bool, x, y => match x, y with
    | .bool a,.bool b=>some (a == b)
    | _,_=>none
  | .ptr, x, y => match x, y with
    | .nilp,.nilp=>some true
    | .nilp,.ptr _ _ _ | .ptr _ _ _,.nilp | .nilp,.vp _ | .vp _,.nilp=>some false
    | _,_=>none
  | .slc, x, y => match x, y with
    | .nils,.nils=>some true
    | .nils,.sl _ _ _ _ _ | .sl _ _ _ _ _,.nils=>some false
    | .nils,.ps n _ | .ps n _,.nils=>if 0 < n then some false else none
    | _,_=>none
  | .ifc lit, x, y => match x, y with
    | .nili,.nili=>if lit then some true else none
    | .nili,.ifc _ _ | .ifc _ _,.nili=>some false
    | _,_=>none
  | .fnc, x, y => match x, y with
    | .nilf,.nilf=>some true
    | .nilf,.fn _ _ _ | .fn _ _ _,.nilf=>some false
    | _,_=>none
  | .mapp, x, y => match x, y with
    | .nilm,.nilm=>some true
    | .nilm,.map _ | .map _,.nilm=>some false
    | _,_=>none
  | .node l, x, y => match x, y with
    | .agg xs,.agg ys=>eqvs l xs ys
    | _,_=>none
def eqvs:List (Nat × Option Nat × p8) → List AV → List AV → Option Bool
  | [],_,_=>some true
  | (off, n, t) :: r, xs, ys =>
    match partOf n off xs,partOf n off ys with
    | some a, some b => match eqv t a b, eqvs r xs ys with
      | some p,some q=>some (p && q)
      | _,_=>none
    | _,_=>none
end
def xO (op:BinOp):AV → AV → Option AV
  | .int k a, .int k' b =>
    if k=k' then
      match op with
      | .add=>some (.int k (k.wrap (a + b)))
      | .sub=>some (.int k (k.wrap (a - b)))
      | .mul=>some (.int k (k.wrap (a * b)))
      | .quo=>if b=0 then none else some (.int k (k.wrap (a.tdiv b)))
      | .rem=>if b=0 then none else some (.int k (a.tmod b))
      | .eql=>some (.bool (a == b))
      | .neq=>some (.bool (a != b))
      | .lss=>some (.bool (decide (a < b)))
      | .leq=>some (.bool (decide (a ≤ b)))
      | .gtr=>some (.bool (decide (a > b)))
      | .geq=>some (.bool (decide (a ≥ b)))
      | _=>none
    else none
  | .str a, .str b =>
    match op with
    | .add=>if a.length + b.length ≤ 9223372036854775807 then some (.str (a ++ b)) else none
    | .eql=>some (.bool (a == b))
    | .neq=>some (.bool (!(a == b)))
    | .lss=>some (.bool (Op.bytesLess a b))
    | .leq=>some (.bool (Op.bytesLess a b || a == b))
    | .gtr=>some (.bool (!(Op.bytesLess a b || a == b)))
    | .geq=>some (.bool (!Op.bytesLess a b))
    | _=>none
  | _,_=>none
def Rt (k:IntKind) (n:Int):Int:=k.wrap ((BitVec.ofInt k.bits (if k.signed then -1 else k.max)) ^^^ (BitVec.ofInt k.bits n)).toNat
def WM (op:UnOp):AV → Option AV
  | .int k n => match op with
    | .neg=>some (.int k (k.wrap (0 - n)))
    | .xor=>some (.int k (Rt k n))
    | _=>none
  | .bool b => match op with
    | .not=>some (.bool (!b))
    | _=>none
  | _=>none
def rd (g:Nat → Option Obj):AV → Option (List AV)
  | .ptr b e o => match g b with
    | some (.cells e' cs _)=>if e=e' ∧ o ≤ cs.length then some (cs.drop o) else none
    | _=>none
  | .vp cs=>some cs
  | _=>none
def rowOf (g:Nat → Option Obj) (z:Nat):AV → Option (Nat × List AV)
  | .nils=>some (0,[])
  | .ps n cs=>if cs.length=n * z then some (n,cs) else none
  | .sl b e o n z' => match g b with
    | some (.cells e' cs _)=>if e=e' ∧ z'=z ∧ o + n * z ≤ cs.length then some (n,(cs.drop o).take (n * z)) else none
    | _=>none
  | _=>none
mutual
def view (g:Nat → Option Obj):AV → Option (AV × List (Nat × Obj))
  | .nils=>some (.ps 0 [],[])
  | .sl b e o n z => match g b with
    | some (.cells e' cs _)=>if e=e' ∧ o + n * z ≤ cs.length then some (.ps n ((cs.drop o).take (n * z)),[(b,.cells e cs true)]) else none
    | _=>none
  | .agg cs => match views g cs with
    | some (xs,ps)=>some (.agg xs,ps)
    | none=>none
  | .tup cs => match views g cs with
    | some (xs,ps)=>some (.tup xs,ps)
    | none=>none
  | v=>some (v,[])
def views (g:Nat → Option Obj):List AV → Option (List AV × List (Nat × Obj))
  | []=>some ([],[])
  | x :: xs => match view g x, views g xs with
    | some (y,p),some (ys,q)=>some (y :: ys,p ++ q)
    | _,_=>none
end
def jM (e:Nat) (g:Nat → Option Obj) (xs:List AV):Option (List AV × List (Nat × Obj)):=if e=5 then some (xs,[]) else views g xs
theorem Oi (g:Nat → Option Obj) (xs:List AV):jM 1 g xs=views g xs:=rfl
theorem Rj (g:Nat → Option Obj) (xs:List AV):jM 2 g xs=views g xs:=rfl
theorem RQ (g:Nat → Option Obj) (xs:List AV):jM 3 g xs=views g xs:=rfl
theorem QM (g:Nat → Option Obj) (xs:List AV):jM 4 g xs=views g xs:=rfl
theorem P5 (g:Nat → Option Obj) (xs:List AV):jM 5 g xs=some (xs,[]):=rfl
theorem RZ (g:Nat → Option Obj) (xs:List AV):jM 6 g xs=views g xs:=rfl
def aQ (s:List UInt8):List AV:=s.map fun b=>.int .u8 b.toNat
def bytesOf:List AV → Option (List UInt8)
  | []=>some []
  | .int .u8 n :: r => match bytesOf r with
    | some l=>some (UInt8.ofNat n.toNat :: l)
    | none=>none
  | _=>none
def bound (x:Option AO) (F:List AV) (d:Nat):Option Nat:=
  match x with
  | none=>some d
  | some x=>asNat (x.ev F)
def XH (max:Bool):AV → List AV → Option AV
  | x,[]=>some x
  | .int k a,.int k' b :: r=>if k=k' then XH max (.int k (if max then (if b > a then b else a) else (if b < a then b else a))) r else none
  | _,_=>none
def shift (off:Nat):AV → Option AV
  | .ptr b e o=>some (.ptr b e (o + off))
  | .vp cs=>some (.vp (cs.drop off))
  | _=>none
def bW (i z:Nat):AV → Option AV
  | .ps n cs=>if i < n then some (.vp (cs.drop (i * z))) else none
  | .sl b e o n _=>if i < n then some (.ptr b e (o + i * z)) else none
  | _=>none
def Bb {α:Type} (lo hi:Option AO) (a b:Nat) (l:List α):List α:=
  match lo,hi with
  | none,none=>l
  | some _,none=>l.drop a
  | none,some _=>l.take b
  | some _,some _=>(l.drop a).take (b - a)
abbrev Eff:=Option (AV × List (Nat × Obj) × List Obj)
def Pf:AV → Bool
  | .nils=>true
  | .ps _ _=>true
  | .sl _ _ _ _ _=>true
  | _=>false
def G9 : List (String × Nat) := [("WriteString", 200)]
def RJ:AV → Option AV
  | .ptr b e o=>some (.ptr b e o)
  | .vp cs=>some (.vp cs)
  | .fn (.method m) [.ifc t v] []=>if G9.contains (m,t)=true then some (.fn (.method m) [.ifc t v] []) else none
  | _=>none
def Aa (str:Bool) (n:Nat):Nat:=if str=true then 2 * n else 2 * n + 1
def iC (str:Bool) (e n:Nat):Nat:=if str=true ∧ e % 2=0 ∧ 0 < e then 2 * max (e / 2 + 1) n else 2 * max (e / 2 + 1) n + 1
theorem FH (str:Bool) (e n:Nat):e < iC str e n:=by
  unfold iC;split <;> omega
theorem vO (str:Bool) (e n:Nat):iC str (2 * e + 1) n=2 * max (e + 1) n + 1:=by
  unfold iC;rw [if_neg (by omega)];omega
theorem Ag (e n:Nat) (h:0 < e):iC true (2 * e) n=2 * max (e + 1) n:=by
  unfold iC;rw [if_pos ⟨rfl,by omega,by omega⟩];omega
def vK (str:Bool) (z bytes:Nat) (g:Nat → Option Obj) (nx:Nat) (s:AV) (n:Nat) (xs:List AV):Eff:=
  if n=0 then (if Pf s=true then some (s,[],[]) else none)
  else if xs.length=n * z ∧ 0 < z then
    match s with
    | .nils=>if n * bytes ≤ 140737488355328 then some (.sl nx (Aa str xs.length) 0 n z,[],[.cells (Aa str xs.length) xs false]) else none
    | .sl b e o m z' =>
      match g b with
      | some (.cells e' cs seen) =>
        if e=e' ∧ z'=z ∧ o=0 ∧ m * z ≤ cs.length ∧ (seen=false ∨ m * z=cs.length) ∧ (m + n) * bytes ≤ 140737488355328 then
          some (.sl b (iC str e (m * z + xs.length)) 0 (m + n) z,[(b,.cells (iC str e (m * z + xs.length)) (cs.take (m * z) ++ xs) seen)],[])
        else none
      | _=>none
    | _=>none
  else none
def iL (l:List UInt8):Nat × Nat:=
  let at' (k:Nat):Nat:=(l.getD k 0).toNat
  let cont (k:Nat):Bool:=decide (k < l.length) && at' k / 64 == 2
  let b0:=at' 0
  if b0 < 0x80 then (b0,1)
  else if b0 / 32 == 6 && cont 1 then
    let c:=(b0 % 32) * 64 + at' 1 % 64
    if c ≥ 0x80 then (c,2) else (0xFFFD,1)
  else if b0 / 16 == 14 && cont 1 && cont 2 then
    let c:=(b0 % 16) * 4096 + (at' 1 % 64) * 64 + at' 2 % 64
    if c ≥ 0x800 && Utf8.valid c then (c,3) else (0xFFFD,1)
  else if b0 / 8 == 30 && cont 1 && cont 2 && cont 3 then
    let c:=(b0 % 8) * 262144 + (at' 1 % 64) * 4096 + (at' 2 % 64) * 64 + at' 3 % 64
    if c ≥ 0x10000 && Utf8.valid c then (c,4) else (0xFFFD,1)
  else (0xFFFD,1)
def Jo (r:Int):List UInt8:=(Utf8.encode r).data.toList
def sW (c:UInt8):List UInt8 → Nat → Int
  | [],_=>-1
  | x :: r,i=>if x=c then i else sW c r (i + 1)
def AA (tr:p8) (k:AV):List (AV × AV) → Nat → Option (Option (Nat × AV × AV))
  | [],_=>some none
  | (k', v) :: r, i => match eqv tr k k' with
    | some true=>some (some (i,k',v))
    | some false=>AA tr k r (i + 1)
    | none=>none
def HV:AV → Bool
  | .int _ _=>true
  | .str _=>true
  | .bool _=>true
  | _=>false
def lit:AV → Bool
  | .agg xs=>xs.all HV
  | v=>HV v
def Dw:AV → AV → Bool
  | .int k a,.int k' b=>decide (k=k') && (a == b)
  | .str a,.str b=>a == b
  | .bool a,.bool b=>a == b
  | _,_=>false
def wE:List AV → List AV → Bool
  | [],[]=>true
  | x :: xs,y :: ys=>Dw x y && wE xs ys
  | _,_=>false
def QS:AV → AV → Bool
  | .agg xs,.agg ys=>wE xs ys
  | x,y=>Dw x y
def mP (tr:p8) (k:AV):Bool:=lit k && (match eqv tr k k with | some b=>b | none=>false)
def Ef (tr:p8) (z:AV) (ok:Bool) (k:AV) (es:List (AV × AV)):Option AV:=
  match AA tr k es 0 with
  | some (some (_,_,v))=>some (if ok then .tup [v,.bool true] else v)
  | some none=>some (if ok then .tup [z,.bool false] else z)
  | none=>none
def Ku (tr:p8) (k v:AV) (es:List (AV × AV)):Option (List (AV × AV)):=
  match AA tr k es 0 with
  | some (some (i,k',_))=>if QS k' k=true then some (es.set i (k,v)) else none
  | some none=>some (es ++ [(k,v)])
  | none=>none
def Pe (z:List AV) (g:Nat → Option Obj) (x:AV):Eff:=
  match x with
  | .nils=>some (.tup [],[],[])
  | .ps 0 _=>some (.tup [],[],[])
  | .sl b e o n z' => match g b with
    | some (.cells e' cs false)=>if e=e' ∧ z'=z.length ∧ o + n * z.length ≤ cs.length ∧ 0 < n ∧ 0 < z.length then
        some (.tup [],[(b,.cells e (cs.take o ++ (List.replicate n z).flatten ++ cs.drop (o + n * z.length)) false)],[]) else none
    | _=>none
  | _=>none
def ED (z:Nat) (g:Nat → Option Obj) (d:AV) (n:Nat) (xs:List AV):Eff:=
  match d with
  | .sl b e o m z' => match g b with
    | some (.cells e' cs false)=>if e=e' ∧ z'=z ∧ n ≤ m ∧ o + n * z ≤ cs.length ∧ xs.length=n * z then
        some (.int .i64 n,[(b,.cells e (cs.take o ++ xs ++ cs.drop (o + n * z)) false)],[]) else none
    | _=>none
  | _=>none
def vz:List AV → Nat
  | [.nilp,.nils]=>0
  | _=>1
theorem Sl (z:List AV):vz z=0 ∨ vz z=1:=by
  unfold vz;split
  · exact .inl rfl
  · exact .inr rfl
def bn (o:jy) (F:List AV) (g:Nat → Option Obj) (nx:Nat):Eff:=
  match o with
  | .mv x=>some (x.ev F,[],[])
  | .cst v=>some (v,[],[])
  | .pick c a b => match c.ev F with
    | .bool t=>some (if t then a.ev F else b.ev F,[],[])
    | _=>none
  | .alloc z=>some (.ptr nx (vz z) 0,[],[.cells (vz z) z false])
  | .box x=>if (x.ev F).cells.all AV.one=true then some (.ptr nx 1 0,[],[.cells 1 (x.ev F).cells false]) else none
  | .build z parts => match kH z (parts.map fun p => (p.1, p.2.1, p.2.2.ev F)) with
    | some cs=>some (.agg cs,[],[])
    | none=>none
  | .bslice z n esz parts => match jM esz g (parts.map fun p => p.2.2.ev F) with
    | some (xs, ps) => match kH z ((parts.zip xs).map fun p => (p.1.1, p.1.2.1, p.2)) with
      | some cs=>some (.sl nx (2 * cs.length + 1) 0 n esz,ps,[.cells (2 * cs.length + 1) cs false])
      | none=>none
    | none=>none
  | .load n a => match rd g (a.ev F) with
    | some cs => match n with
      | none => match cs with
        | x :: _=>some (x,[],[])
        | []=>none
      | some n=>if n ≤ cs.length then some (.agg (cs.take n),[],[]) else none
    | none=>none
  | .store n a x => match a.ev F with
    | .ptr b e o => match g b with
      | some (.cells e' cs false) =>
        if e=e' ∧ o + n ≤ cs.length ∧ (x.ev F).cells.length=n ∧ (x.ev F).cells.all AV.one=true then
          some (.any,[(b,.cells e (cs.take o ++ (x.ev F).cells ++ cs.drop (o + n)) false)],[])
        else none
      | _=>none
    | _=>none
  | .nilck x => match RJ (x.ev F) with
    | some v=>some (v,[],[])
    | none=>none
  | .bin op x y => match xO op (x.ev F) (y.ev F) with
    | some v=>some (v,[],[])
    | none=>none
  | .eq neg t x y => match eqv t (x.ev F) (y.ev F) with
    | some b=>some (.bool (if neg then !b else b),[],[])
    | none=>none
  | .un op x => match WM op (x.ev F) with
    | some v=>some (v,[],[])
    | none=>none
  | .i2i k x => match x.ev F with
    | .int _ n=>some (.int k (k.wrap n),[],[])
    | _=>none
  | .s2s x => match x.ev F with
    | .str s=>some (.str s,[],[])
    | _=>none
  | .s2b x => match x.ev F with
    | .str s=>some (.sl nx (2 * s.length + 1) 0 s.length 1,[],[.cells (2 * s.length + 1) (aQ s) false])
    | _=>none
  | .b2s x => match rowOf g 1 (x.ev F) with
    | some (_, cs) => match bytesOf cs with
      | some l=>some (.str l,[],[])
      | none=>none
    | none=>none
  | .ifc t x=>some (.ifc t (x.ev F),[],[])
  | .mkfn f first cap=>some (.fn f (first.map (AO.ev F)) (cap.map (AO.ev F)),[],[])
  | .slcS x lo hi => match x.ev F with
    | .str s => match bound lo F 0, bound hi F s.length with
      | some l,some h=>if l ≤ h ∧ h ≤ s.length then some (.str (Bb lo hi l h s),[],[]) else none
      | _,_=>none
    | _=>none
  | .slc z x lo hi => match x.ev F with
    | .nils => match bound lo F 0, bound hi F 0 with
      | some 0,some 0=>some (.nils,[],[])
      | _,_=>none
    | .ps n cs => match bound lo F 0, bound hi F n with
      | some l,some h=>if l ≤ h ∧ h ≤ n ∧ cs.length=n * z then some (.ps (h - l) (Bb lo hi (l * z) (h * z) cs),[],[]) else none
      | _,_=>none
    | .sl b e o n z' => match bound lo F 0, bound hi F n with
      | some l, some h => if l ≤ h ∧ h ≤ n ∧ z' = z then
          if l=0 then some (.sl b e o h z,[],[])
          else if l < n then some (.sl b e (o + l * z) (h - l) z,[],[])
          else some (.ps 0 [],[],[])
        else none
      | _,_=>none
    | _=>none
  | .faddr off x => match shift off (x.ev F) with
    | some v=>some (v,[],[])
    | none=>none
  | .fld off n x => match x.ev F with
    | .agg cs => match partOf n off cs with
      | some v=>some (v,[],[])
      | none=>none
    | _=>none
  | .iaddr arr z x i => match asNat (i.ev F) with
    | some i => match arr with
      | some n => if i < n then match shift (i * z) (x.ev F) with
          | some v=>some (v,[],[])
          | none=>none
        else none
      | none => match bW i z (x.ev F) with
        | some v=>some (v,[],[])
        | none=>none
    | none=>none
  | .sidx x i => match x.ev F, asNat (i.ev F) with
    | .str s, some i => match s[i]? with
      | some b=>some (.int .u8 b.toNat,[],[])
      | none=>none
    | _,_=>none
  | .aidx len z n x i => match x.ev F, asNat (i.ev F) with
    | .agg cs, some i => if i < len then match partOf n (i * z) cs with
        | some v=>some (v,[],[])
        | none=>none
      else none
    | _,_=>none
  | .ext i x => match x.ev F with
    | .tup vs => match vs[i]? with
      | some v=>some (v,[],[])
      | none=>none
    | _=>none
  | .lenS x => match x.ev F with
    | .str s=>some (.int .i64 s.length,[],[])
    | _=>none
  | .len x => match x.ev F with
    | .nils=>some (.int .i64 0,[],[])
    | .ps n _=>some (.int .i64 n,[],[])
    | .sl _ _ _ n _=>some (.int .i64 n,[],[])
    | _=>none
  | .app z bytes str s x =>
    if str then
      match x.ev F with
      | .str l=>vK true z bytes g nx (s.ev F) l.length (aQ l)
      | _=>none
    else match rowOf g z (x.ev F) with
      | some (n,xs)=>vK false z bytes g nx (s.ev F) n xs
      | none=>none
  | .mkslice z bytes l c => match asNat (l.ev F), asNat (c.ev F) with
    | some l,some c=>if l ≤ c ∧ c * bytes ≤ 140737488355328 ∧ c ≤ 9223372036854775807 ∧ 0 < z.length then
        some (.sl nx (2 * (l * z.length) + 1) 0 l z.length,[],[.cells (2 * (l * z.length) + 1) (List.replicate l z).flatten false]) else none
    | _,_=>none
  | .mm max xs => match xs.map (AO.ev F) with
    | x :: r => match XH max x r with
      | some v=>some (v,[],[])
      | none=>none
    | []=>none
  | .bad | .Fj _=>none
  | .rng x => match x.ev F with
    | .str s=>some (.ptr nx 0 0,[],[.iter s 0])
    | _=>none
  | .nxt x => match x.ev F with
    | .ptr b 0 0 => match g b with
      | some (.iter s p)=>if p < s.length then some (.tup [.bool true,.int .i64 p,.int .i32 (iL (s.drop p)).1],[(b,.iter s (p + (iL (s.drop p)).2))],[])
          else some (.tup [.bool false],[],[])
      | _=>none
    | _=>none
  | .i2s x => match x.ev F with
    | .int _ n=>some (.str (Jo n),[],[])
    | _=>none
  | .mkmap=>some (.map nx,[],[.map []])
  | .lkp tr z ok m k => if mP tr (k.ev F) = true then match m.ev F with
    | .nilm => match Ef tr z ok (k.ev F) [] with
      | some v=>some (v,[],[])
      | none=>none
    | .map b => match g b with
      | some (.map es) => match Ef tr z ok (k.ev F) es with
        | some v=>some (v,[],[])
        | none=>none
      | _=>none
    | _=>none
    else none
  | .mup tr m k v => if mP tr (k.ev F) = true then match m.ev F with
    | .map b => match g b with
      | some (.map es) => match Ku tr (k.ev F) (v.ev F) es with
        | some es'=>some (.any,[(b,.map es')],[])
        | none=>none
      | _=>none
    | _=>none
    else none
  | .clr z x=>Pe z g (x.ev F)
  | .idxB x c => match x.ev F, c.ev F with
    | .str s,.int .u8 n=>some (.int .i64 (sW (UInt8.ofNat n.toNat) s 0),[],[])
    | _,_=>none
  | .call _ _ | .callv _ _ | .inv _ _ _=>none
  | .tas kg x => match x.ev F with
    | .ifc t v=>if kg.contains t=true then some (.tup [.ifc t v,.bool true],[],[]) else none
    | _=>none
  | .cpy z d s => match rowOf g z (s.ev F) with
    | some (n,xs)=>ED z g (d.ev F) n xs
    | none=>none
def St.apply (s:St) (ps:List (Nat × Obj)) (qs:List Obj):St:=
  qs.foldl St.push (ps.foldl (fun s p=>s.put p.1 p.2) s)
end Go.AX
/- From the model's operations to ours. -/
namespace Go.AX
open Go
def sv:Value → Option AV
  | .bool b=>some (.bool b)
  | .int k n=>some (.int k n)
  | .string s=>some (.str s.data.toList)
  | .pointer none=>some .nilp
  | .slice none 0 0=>some .nils
  | .map none=>some .nilm
  | .nilFunc=>some .nilf
  | .nilIface=>some .nili
  | _=>none
def YS:List Value → Option (List AV)
  | []=>some []
  | v :: r => match sv v, YS r with
    | some x,some xs=>some (x :: xs)
    | _,_=>none
def cv:Value → Option AV
  | .agg cs => match YS cs.toList with
    | some xs=>some (.agg xs)
    | none=>none
  | v=>sv v
def cO:Operand → Option AO
  | .tmp t=>some (.t t)
  | .const v => match cv v with
    | some x=>some (.k x)
    | none=>none
  | .global _=>none
  | .func f=>some (.k (.fn (.func f) [] []))
def KE:List Operand → Option (List AO)
  | []=>some []
  | v :: r => match cO v, KE r with
    | some x,some xs=>some (x :: xs)
    | _,_=>none
def nP (P:Program) (t:TypeId):Option (Option Nat):=
  match P.underlying t,P.info? t with
  | some (.struct _),some i=>some (some i.size)
  | some (.array _ _),some i=>some (some i.size)
  | some _,some _=>some none
  | _,_=>none
def Fg (P:Program) (t:TypeId):Option Nat:=(P.info? t).map (·.size)
def l5 (P:Program) (t:TypeId):Option (List AV):=
  match P.info? t with
  | some i => match i.zero with
    | some z => match cv z with
      | some x=>if x.cells.all AV.one=true ∧ x.cells.length=i.size then some x.cells else none
      | none=>none
    | none=>none
  | none=>none
def eqFields (P:Program) (f:TypeId → Option p8):List Field → Option (List (Nat × Option Nat × p8))
  | []=>some []
  | x :: r => if x.name = "_" then none else
    match f x.type,nP P x.type,eqFields P f r with
    | some t,some q,some l=>some ((x.offset,q,t) :: l)
    | _,_,_=>none
def rZ (P:Program):Nat → TypeId → Bool → Option p8
  | 0,_,_=>none
  | d + 1, t, lit =>
    match P.underlying t with
    | some .bool=>some .bool
    | some (.int _)=>some .int
    | some .string=>some .str
    | some (.pointer _)=>some .ptr
    | some (.slice _)=>some .slc
    | some (.interface _)=>some (.ifc lit)
    | some (.func _ _ _)=>some .fnc
    | some (.map _ _)=>some .mapp
    | some (.struct fs) =>
      if P.stoodInHeld t then none else
      match eqFields P (fun u=>rZ P d u false) fs.toList with
      | some l=>some (.node l)
      | none=>none
    | some (.array n e) =>
      match rZ P d e false,nP P e,Fg P e with
      | some x,some q,some z=>some (.node ((List.range n).map fun i=>(i * z,q,x)))
      | _,_,_=>none
    | _=>none
def isLit:Operand → Bool
  | .const _=>true
  | _=>false
def rD (P:Program) (fs:List Field):Option (List (Nat × Nat)):=
  match fs with
  | []=>some []
  | f :: r => match Fg P f.type, rD P r with
    | some z,some l=>some ((f.offset,z) :: l)
    | _,_=>none
def kV (place:Nat → Option (Nat × Nat)):List (Nat × Operand) → Option (List (Nat × Nat × AO))
  | []=>some []
  | (i, x) :: r => match place i, cO x, kV place r with
    | some (o,z),some y,some l=>some ((o,z,y) :: l)
    | _,_,_=>none
def vZ:Option Operand → Option (Option AO)
  | none=>some none
  | some x => match cO x with
    | some y=>some (some y)
    | none=>none
def YT (P:Program) (t:TypeId):Option AV:=
  match P.info? t with
  | some i => match i.zero with
    | some z=>cv z
    | none=>none
  | none=>none
def FD (P:Program) (t:TypeId):Option p8:=
  match P.underlying t with
  | some (.int _)=>some .int
  | some .string=>some .str
  | some (.struct fs)=>if fs.toList.all (fun f=>match P.underlying f.type with | some (.int _) | some .string=>true | _=>false) then rZ P 2 t false else none
  | some (.array _ e)=>(match P.underlying e with | some (.int _) | some .string=>rZ P 2 t false | _=>none)
  | _=>none
def uU : String := "internal" ++ String.singleton (Char.ofNat 47) ++ "bytealg.IndexByteString"
def Ev (P:Program) (f:Nat):Bool:=
  match P.funcs[f]? with
  | some fn => fn.body.isNone && (fn.name == uU && fn.origin == "")
  | none=>false
def YA (P:Program) (name:String) (t:Nat):Option Nat:=
  match P.info? t,P.underlying t with
  | some i, some (.pointer _) => match i.methods.find? (·.name == name) with
    | some m => if m.path.isEmpty then (match m.func with
      | some (f,true)=>some f
      | _=>none) else none
    | none=>none
  | _,_=>none
def Uh (P:Program):Bool:=G9.all fun p=>(YA P p.1 p.2).isSome
def Vj (P:Program) (name:String):List (Nat × Nat):=(List.range P.types.size).filterMap fun t=>(YA P name t).map fun f=>(t,f)
def uT:List (Nat × Nat) → Nat → Option Nat
  | [],_=>none
  | (a,b) :: r,t=>if a=t then some b else uT r t
def invK (kg:List (Nat × Nat)):AV → Option (Nat × AV)
  | .ifc t v => match uT kg t with
    | some f=>some (f,v)
    | none=>none
  | _=>none
def Vk (P:Program) (want:Array (String × TypeId)):List Nat:=(List.range P.types.size).filter fun t=>match P.info? t with
  | some i=>want.toList.all fun x=>i.methods.any fun m=>m.name == x.1 && m.sig == x.2
  | none=>false
def fu (P:Program):Op → Option jy
  | .move x | .assign x=>(cO x).map .mv
  | .pick c a b => match cO c, cO a, cO b with
    | some c,some a,some b=>some (.pick c a b)
    | _,_,_=>none
  | .alloc t => match l5 P t with
    | some z=>if vz z=0 ∧ t ≠ gW then none else some (.alloc z)
    | none=>none
  | .box _ x=>(cO x).map .box
  | .build t parts => match l5 P t with
    | some z => match P.underlying t with
      | some (.struct fs) => match rD P fs.toList with
        | some pl => match kV (fun i => pl[i]?) parts.toList with
          | some ps=>some (.build z ps)
          | none=>none
        | none=>none
      | some (.array _ e) => match Fg P e with
        | some sz => match kV (fun i => some (i * sz, sz)) parts.toList with
          | some ps=>some (.build z ps)
          | none=>none
        | none=>none
      | _=>none
    | none=>none
  | .buildSlice t n parts => match P.underlying t with
    | some (.slice e) => match Fg P e, l5 P e with
      | some sz, some z => if n * sz ≤ 16777216 ∧ 0 < sz then match kV (fun i => some (i * sz, sz)) parts.toList with
          | some ps=>some (.bslice (List.replicate n z).flatten n sz ps)
          | none=>none
        else none
      | _,_=>none
    | _=>none
  | .load t a => match nP P t, cO a with
    | some q,some a=>some (.load q a)
    | _,_=>none
  | .store t a x => match Fg P t, cO a, cO x with
    | some n,some a,some x=>some (.store n a x)
    | _,_,_=>none
  | .nilCheck x=>if Uh P=true then (cO x).map .nilck else none
  | .binOp op t x y _ => match cO x, cO y with
    | some a, some b => match op, P.underlying t with
      | .eql,some (.int _) | .eql,some .string | .neq,some (.int _) | .neq,some .string=>some (.bin op a b)
      | .eql,_=>if P.eqGuardType P.depth t then (match P.underlying t with
          | some (.interface _)=>(rZ P 1 t (isLit x || isLit y)).map fun q=>.eq false q a b
          | _=>none) else (rZ P 9 t (isLit x || isLit y)).map fun q=>.eq false q a b
      | .neq,_=>if P.eqGuardType P.depth t then (match P.underlying t with
          | some (.interface _)=>(rZ P 1 t (isLit x || isLit y)).map fun q=>.eq true q a b
          | _=>none) else (rZ P 9 t (isLit x || isLit y)).map fun q=>.eq true q a b
      | .shl,_ | .shr,_=>none
      | _,_=>some (.bin op a b)
    | _,_=>none
  | .unOp op _ x=>(cO x).map (.un op)
  | .convert src dst x => match cO x with
    | some a => match P.underlying src, P.underlying dst with
      | some (.int _),some (.int k)=>some (.i2i k a)
      | some (.int _),some .string=>some (.i2s a)
      | some .string,some .string=>some (.s2s a)
      | some .string, some (.slice e) => match P.underlying e with
        | some (.int .u8)=>some (.s2b a)
        | _=>none
      | some (.slice e), some .string => match P.underlying e with
        | some (.int .u8)=>some (.b2s a)
        | _=>none
      | _,_=>none
    | none=>none
  | .makeInterface t x => match P.underlying t with
    | some (.interface _)=>none
    | some _=>(cO x).map (.ifc t)
    | none=>none
  | .makeFunc fn first captured => match KE first.toList, KE captured.toList with
    | some xs,some ys=>some (.mkfn fn xs ys)
    | _,_=>none
  | .slice t x lo hi mx => match mx, cO x, vZ lo, vZ hi with
    | none, some a, some l, some h => match P.underlying t with
      | some .string=>some (.slcS a l h)
      | some (.slice e)=>(Fg P e).map fun z=>.slc z a l h
      | _=>none
    | _,_,_,_=>none
  | .fieldAddr s x f => match P.underlying s with
    | some (.struct fs) => match fs[f]?, cO x with
      | some fd, some a => match Fg P fd.type with
        | some z=>if 0 < z then some (.faddr fd.offset a) else none
        | none=>none
      | _,_=>none
    | _=>none
  | .field t x f => match P.underlying t with
    | some (.struct fs) => match fs[f]?, cO x with
      | some fd,some a=>(nP P fd.type).map fun q=>.fld fd.offset q a
      | _,_=>none
    | _=>none
  | .indexAddr t x i => match cO x, cO i with
    | some a, some b => match P.underlying t with
      | some (.array n e)=>(Fg P e).map fun z=>.iaddr (some n) z a b
      | some (.slice e)=>(Fg P e).map fun z=>.iaddr none z a b
      | _=>none
    | _,_=>none
  | .index t x i => match cO x, cO i with
    | some a, some b => match P.underlying t with
      | some .string=>some (.sidx a b)
      | some (.array n e) => match Fg P e, nP P e with
        | some z,some q=>some (.aidx n z q a b)
        | _,_=>none
      | _=>none
    | _,_=>none
  | .extract x i=>(cO x).map (.ext i)
  | .makeSlice t l c => match P.underlying t with
    | some (.slice e) => match l5 P e, P.info? e, cO l, cO c with
      | some z,some i,some l,some c=>some (.mkslice z i.bytes l c)
      | _,_,_,_=>none
    | _=>none
  | .call c => match c.callee with
    | .value (.func f) => match KE c.args.toList with
      | some xs=>if Ev P f then (match xs with | [a,b]=>some (.idxB a b) | _=>none) else some (.call f xs)
      | none=>none
    | .value x => match cO x, KE c.args.toList with
      | some f,some xs=>some (.callv f xs)
      | _,_=>none
    | .invoke recv name => match cO recv, KE c.args.toList with
      | some r,some xs=>some (.inv (Vj P name) r xs)
      | _,_=>none
    | .builtin .len => match c.argTypes[0]?, c.args.toList with
      | some t, [x] => match P.underlying t with
        | some .string=>(cO x).map .lenS
        | some (.slice _)=>(cO x).map .len
        | some (.array n _)=>some (.cst (.int .i64 n))
        | _=>none
      | _,_=>none
    | .builtin .append => match c.argTypes.toList, c.args.toList with
      | [t, u], [s, x] => match P.underlying t, P.underlying u, cO s, cO x with
        | some (.slice e), some (.slice _), some s, some x => match P.info? e, l5 P e with
          | some i,some _=>if 0 < i.size ∧ 0 < i.bytes then some (.app i.size i.bytes false s x) else none
          | _,_=>none
        | some (.slice e), some .string, some s, some x => match P.info? e, l5 P e, P.underlying e with
          | some i,some _,some (.int .u8)=>if i.size=1 ∧ i.bytes=1 ∧ e=gB then some (.app 1 1 true s x) else none
          | _,_,_=>none
        | _,_,_,_=>none
      | _,_=>none
    | .builtin .min=>(KE c.args.toList).map (.mm false)
    | .builtin .max=>(KE c.args.toList).map (.mm true)
    | .builtin .clear => match c.argTypes.toList, c.args.toList with
      | [t], [x] => match P.underlying t, cO x with
        | some (.slice e),some a=>(l5 P e).map fun z=>.clr z a
        | _,_=>none
      | _,_=>none
    | .builtin .copy => match c.argTypes.toList, c.args.toList with
      | [t, u], [d, s] => match P.underlying t, P.underlying u, cO d, cO s with
        | some (.slice e),some (.slice _),some d,some s=>(Fg P e).map fun z=>.cpy z d s
        | _,_,_,_=>none
      | _,_=>none
    | .builtin _=>none
  | .panic x=>(cO x).map .Fj
  | .typeAssert x _ a true => match P.underlying a, cO x with
    | some (.interface want),some y=>some (.tas (Vk P want) y)
    | _,_=>none
  | .range t x => match P.underlying t, cO x with
    | some .string,some a=>some (.rng a)
    | _,_=>none
  | .next x true=>(cO x).map .nxt
  | .makeMap _ none=>some .mkmap
  | .lookup t m k ok => match P.underlying t with
    | some (.map kt et) => match FD P kt, YT P et, cO m, cO k with
      | some tr,some z,some m,some k=>some (.lkp tr z ok m k)
      | _,_,_,_=>none
    | _=>none
  | .mapUpdate t m k v => match P.underlying t with
    | some (.map kt _) => match FD P kt, cO m, cO k, cO v with
      | some tr,some m,some k,some v=>some (.mup tr m k v)
      | _,_,_,_=>none
    | _=>none
  | _=>none
structure aJ where
  dst:Option Nat
  op:jy
  guard:Option (Option Nat × Bool)
  deriving Inhabited
inductive bL where
  | skip
  | region (ops:List aJ)
  | draw (masks:List Nat) (ops:List aJ)
  | drawT (masks:List Nat) (ops tail:List aJ)
  | rangeF (f:AO) (ps:List Nat) (a b:bL)
  | seq (a b:bL)
  | cond (c:AO) (a b:bL)
  | block (id:Nat) (a:bL)
  | loop (a:bL)
  | exit (id:Nat)
  | ret
  deriving Inhabited
def uL (acc:List Nat) (o:Oper):Nat:=
  o.after.toList.foldl (fun m e=>if Region.binds .any e then m ||| 2 ^ e.on ||| acc.getD e.on 0 else m) 0
def dZ:List Oper → List Nat → List Nat
  | [],acc=>acc
  | o :: r,acc=>dZ r (acc ++ [uL acc o])
def jy.yE:jy → List AO
  | .mv x | .rng x | .nxt x | .i2s x | .clr _ x | .box x | .nilck x | .un _ x | .i2i _ x | .s2s x | .s2b x | .b2s x | .ifc _ x | .faddr _ x | .fld _ _ x | .ext _ x | .len x | .lenS x | .load _ x | .tas _ x | .Fj x=>[x]
  | .pick c a b | .mup _ c a b=>[c,a,b]
  | .alloc _ | .cst _ | .bad | .mkmap=>[]
  | .build _ ps | .bslice _ _ _ ps=>ps.map (·.2.2)
  | .lkp _ _ _ a x | .idxB a x | .store _ a x | .bin _ a x | .eq _ _ a x | .iaddr _ _ a x | .sidx a x | .aidx _ _ _ a x | .app _ _ _ a x | .mkslice _ _ a x | .cpy _ a x=>[a,x]
  | .mkfn _ xs ys=>xs ++ ys
  | .slcS x lo hi | .slc _ x lo hi=>x :: (lo.toList ++ hi.toList)
  | .mm _ xs | .call _ xs=>xs
  | .callv f xs | .inv _ f xs=>f :: xs
def aJ.uses (o:aJ):List Nat:=
  (o.op.yE.filterMap fun x=>match x with | .t n=>some n | .k _=>none) ++ (match o.guard with | some (some t,_)=>[t] | _=>[])
def meets (a b:aJ):Bool:=
  (match a.dst with | some d=>b.uses.contains d || b.dst == some d | none=>false) || (match b.dst with | some d=>a.uses.contains d | none=>false)
def yg (m:Nat) (o:aJ):Nat → List aJ → Bool
  | _,[]=>true
  | i,x :: r=>(m.testBit i || !meets x o) && yg m o (i + 1) r
def tJ (masks:List Nat) (all:List aJ):Nat → List aJ → Bool
  | _,[]=>true
  | j,o :: r=>(decide (masks.getD j 0 < 2 ^ j) && yg (masks.getD j 0) o 0 (all.take j)) && tJ masks all (j + 1) r
def sH (P:Program) (ops:Array Oper) (o:Oper):Option aJ:=
  some ⟨o.dst,(fu P o.op).getD .bad,o.guard.map fun g=>((ops[g.1]?).bind (·.dst),g.2)⟩
def dM (P:Program) (ops:Array Oper):List Oper → Option (List aJ)
  | []=>some []
  | o :: r => match sH P ops o, dM P ops r with
    | some x,some xs=>some (x :: xs)
    | _,_=>none
def V9 (l:List aJ):Option Nat:=(l.reverse.findIdx? fun o=>match o.op with | .call _ _=>true | _=>false).map fun j=>l.length - 1 - j
def qb (M:List Nat) (k n:Nat):Bool:=(List.range n).all fun j=>decide (j < k) || (List.range j).all fun i=>(M.getD j 0).testBit i
def Ec (M:List Nat) (l:List aJ):bL:=match V9 l with
  | none=>.draw M l
  | some k=>if qb M k l.length then .drawT M (l.take k) (l.drop k) else .draw M l
def aP (P:Program):Code → Option bL
  | .skip=>some .skip
  | .label _=>some .skip
  | .region _ ops draw => match dM P ops ops.toList with
    | some l=>if draw then (if tJ (dZ ops.toList []) l 0 l then some (Ec (dZ ops.toList []) l) else none) else some (.region l)
    | none=>none
  | .seq a b => match aP P a, aP P b with
    | some x,some y=>some (.seq x y)
    | _,_=>none
  | .cond c a b => match cO c, aP P a, aP P b with
    | some c,some x,some y=>some (.cond c x y)
    | _,_,_=>none
  | .block id a=>(aP P a).map (.block id)
  | .loop a=>(aP P a).map .loop
  | .exit id=>some (.exit id)
  | .ret=>some .ret
  | .scope a=>aP P a
  | .rangeFunc f ps a b => match cO f, aP P a, aP P b with
    | some x,some ca,some cb=>some (.rangeF x ps.toList ca cb)
    | _,_,_=>none
  | _=>some (.region [⟨none,.bad,none⟩])
structure bI where
  nparams:Nat
  ntmps:Nat
  results:List (Nat × Option (Option Nat))
  body:bL
  deriving Inhabited
def EO (P:Program):List ResultVar → Option (List (Nat × Option (Option Nat)))
  | []=>some []
  | .tmp t :: r=>(EO P r).map fun l=>(t,none) :: l
  | .cell a t :: r => match nP P t, EO P r with
    | some q,some l=>some ((a,some q) :: l)
    | _,_=>none
def bF (P:Program) (f:FuncId):Option bI:=
  match P.funcs[f]? with
  | some fn => match fn.body with
    | some b => match aP P b, EO P fn.results.toList with
      | some c, some r => if fn.name == "runtime.NumGoroutine" then none else some ⟨fn.params.size + fn.nfree, fn.ntmps, r, c⟩
      | _,_=>none
    | none=>none
  | none=>none
end Go.AX
/- What an operation gives of abstract values is what it gives in the model: the operations that only compute. -/
namespace Go.AX
open Go
def Does (P:Program) (o:Oper) (ρ:Operand → Value) (c:Ctx) (s:St) (w:World) (v:AV) (s':St):Prop:=
  ∃ c' w' u, ((execOp ρ o).run P w = .ok (.value u) w' ∨ ((execOp ρ o).run P w = .ok .skip w' ∧ u = undef)) ∧
    aD c' v u ∧ Sat c' s' w' ∧ Ext c s w c' s' w'
theorem Does.pure {P:Program} {o:Oper} {ρ:Operand → Value} {c:Ctx} {s:St} {w:World} {v:AV} {u:Value} (h:Sat c s w)
    (hr:(execOp ρ o).run P w=.ok (.value u) w) (hv:aD c v u):Does P o ρ c s w v s:=
  ⟨c,w,u,.inl hr,hv,h,Ext.refl c s w⟩
theorem Sq (c:Ctx) {v:Value} {x:AV} (h:sv v=some x):aD c x v:=by
  unfold sv at h
  split at h <;> simp at h <;> subst h <;> simp [aD]
theorem KM (c:Ctx):∀ {l:List Value} {xs:List AV},YS l=some xs → aB c xs l
  | [],xs,h=>by simp [YS] at h;subst h;simp [aB]
  | v :: r, xs, h => by
    simp only [YS] at h
    split at h
    · rename_i x ys h1 h2
      simp at h;subst h
      simp only [aB]
      exact ⟨v,r,rfl,Sq c h1,KM c h2⟩
    · simp at h
theorem JR (c:Ctx) {v:Value} {x:AV} (h:cv v=some x):aD c x v:=by
  unfold cv at h
  split at h
  · rename_i cs
    split at h
    · rename_i xs hx
      simp at h;subst h
      simp only [aD]
      exact ⟨cs.toList,by simp,KM c hx⟩
    · simp at h
  · exact Sq c h
def DR (c:Ctx) (F:List AV) (ρ:Operand → Value):Prop:=∀ x y,cO x=some y → aD c (y.ev F) (ρ x)
theorem gu {c:Ctx} {F:List AV} {a:Act} (h:aB c F a.tmps.toList):DR c F a.eval:=by
  intro x y hx
  cases x with
  | tmp t =>
    simp [cO] at hx;subst hx
    simp only [AO.ev,Act.eval]
    cases hF:F[t]? with
    | none=>simp [List.getD,hF,aD]
    | some v =>
      obtain ⟨u,hu,hr⟩:=h.get t v hF
      have:a.tmps.getD t undef=u:=by
        have:a.tmps[t]? = some u:=by simpa using hu
        simp [Array.getD_eq_getD_getElem?,this]
      rw [this]
      simpa [List.getD,hF] using hr
  | const v =>
    simp only [cO] at hx
    split at hx
    · rename_i x' h1
      simp at hx;subst hx
      exact JR c h1
    · simp at hx
  | global g=>simp [cO] at hx
  | func f=>simp [cO] at hx;subst hx;simp [AO.ev,Act.eval,aD,aB]
theorem DR.mono {c c':Ctx} {F:List AV} {ρ:Operand → Value} (h:DR c F ρ) (hle:c.le c'):DR c' F ρ:=
  fun x y hx=>(h x y hx).mono hle
theorem jw {c:Ctx} {F:List AV} {ρ:Operand → Value} (h:DR c F ρ):∀ {l:List Operand} {xs:List AO},KE l=some xs → aB c (xs.map (AO.ev F)) (l.map ρ)
  | [],xs,hx=>by simp [KE] at hx;subst hx;simp [aB]
  | v :: r, xs, hx => by
    simp only [KE] at hx
    split at hx
    · rename_i x ys h1 h2
      simp at hx;subst hx
      simp only [List.map_cons,aB]
      exact ⟨ρ v,r.map ρ,rfl,h v x h1,jw h h2⟩
    · simp at hx
section
variable {P:Program} {c:Ctx} {s:St} {w:World} {F:List AV} {ρ:Operand → Value} {o:Oper}
theorem K4 (h:Sat c s w) (hρ:DR c F ρ) {x:Operand} {a:AO} (ho:o.op=.move x ∨ o.op=.assign x) (hx:cO x=some a):Does P o ρ c s w (a.ev F) s:=by
  refine Does.pure h ?_ (hρ x a hx)
  rcases ho with ho | ho <;> simp [execOp,ho]
theorem Lx (h:Sat c s w) (hρ:DR c F ρ) {x y z:Operand} {a b d:AO} {t:Bool} (ho:o.op=.pick x y z) (hx:cO x=some a) (hy:cO y=some b) (hz:cO z=some d)
    (hc:a.ev F=.bool t):Does P o ρ c s w (if t then b.ev F else d.ev F) s:=by
  have h1:=hρ x a hx
  rw [hc] at h1;simp only [aD] at h1
  refine Does.pure (u:=if t then ρ y else ρ z) h (by simp [execOp,ho,h1,asBool]) ?_
  cases t
  · simpa using hρ z d hz
  · simpa using hρ y b hy
theorem VI (h:Sat c s w) {x y:Operand} {op:BinOp} {t u:TypeId} {X Y v:AV} (ho:o.op=.binOp op t x y u)
    (hX:aD c X (ρ x)) (hY:aD c Y (ρ y)) (hv:xO op X Y=some v):Does P o ρ c s w v s:=by
  unfold xO at hv
  split at hv
  · rename_i k a k' b
    simp only [aD] at hX hY
    split at hv
    · rename_i hk;subst hk
      have key:∀ {r:Value},(binOp op t (.int k a) (.int k b)).run P w=.ok r w → aD c v r → Does P o ρ c s w v s:=fun {r} hr hv'=>by
        refine Does.pure (u:=r) h ?_ hv'
        have hg:(eqGuard op t x y (.int k a) (.int k b)).run P w=.ok () w:=by
          simp only [eqGuard];cases op <;> simp
        simp [execOp,ho,hX,hY,hg,hr,Result.andThen]
      cases op <;> simp only [Option.some.injEq,reduceCtorEq] at hv
      case quo=>
        split at hv
        · simp at hv
        · rename_i hb;simp at hv;subst hv
          exact key (r:=.int k (k.wrap (a.tdiv b))) (by simp [binOp,Op.intDiv,hb]) (by simp [aD])
      case rem=>
        split at hv
        · simp at hv
        · rename_i hb;simp at hv;subst hv
          exact key (r:=.int k (a.tmod b)) (by simp [binOp,Op.intDiv,hb]) (by simp [aD])
      all_goals
        subst hv
        exact key (by simp [binOp,Op.intArith,Op.intCmp];rfl) (by simp [aD])
    · simp at hv
  · rename_i a b
    simp only [aD] at hX hY
    have key:∀ {r:Value},(Op.stringOp op ⟨a.toArray⟩ ⟨b.toArray⟩).run P w=.ok r w → aD c v r → op ≠ .shl → op ≠ .shr → Does P o ρ c s w v s:=fun {r} hr hv' h1 h2=>by
      refine Does.pure (u:=r) h ?_ hv'
      have hg:(eqGuard op t x y (.string ⟨a.toArray⟩) (.string ⟨b.toArray⟩)).run P w=.ok () w:=by
        simp only [eqGuard];cases op <;> simp
      have hb:binOp op t (.string ⟨a.toArray⟩) (.string ⟨b.toArray⟩)=Op.stringOp op ⟨a.toArray⟩ ⟨b.toArray⟩:=by
        cases op <;> simp [binOp]
      simp [execOp,ho,hX,hY,hg,hb,hr,Result.andThen]
    have e1:ByteArray.toList ⟨a.toArray⟩=a:=by rw [ByteArray.toList_eq]
    have e2:ByteArray.toList ⟨b.toArray⟩=b:=by rw [ByteArray.toList_eq]
    cases op <;> simp only [Option.some.injEq,reduceCtorEq] at hv
    case add=>
      split at hv
      · rename_i hb;simp at hv;subst hv
        refine key (r:=.string ⟨(a ++ b).toArray⟩) ?_ (by simp [aD]) (by simp) (by simp)
        have e3:¬ (((ByteArray.size ⟨a.toArray⟩ + ByteArray.size ⟨b.toArray⟩:Nat):Int) > IntKind.i64.max):=by
          have:ByteArray.size ⟨a.toArray⟩=a.length:=rfl
          have:ByteArray.size ⟨b.toArray⟩=b.length:=rfl
          simp [IntKind.max,IntKind.signed,IntKind.bits];omega
        simp only [Op.stringOp,if_neg e3,Sem.run_pure]
        congr 2
      · simp at hv
    all_goals
      subst hv
      exact key (by simp only [Op.stringOp,e1,e2,Sem.run_pure];rfl) (by simp [aD]) (by simp) (by simp)
  · simp at hv
theorem WI (h:Sat c s w) {x:Operand} {op:UnOp} {t:TypeId} {X v:AV} (ho:o.op=.unOp op t x) (hX:aD c X (ρ x)) (hv:WM op X=some v):Does P o ρ c s w v s:=by
  unfold WM at hv
  split at hv
  · rename_i k n
    simp only [aD] at hX
    cases op <;> simp only [Option.some.injEq,reduceCtorEq] at hv
    · subst hv
      exact Does.pure (u:=.int k (k.wrap (0 - n))) h (by simp [execOp,ho,hX,Op.unary,Op.intArith]) (by simp [aD])
    · subst hv
      exact Does.pure (u:=.int k (Rt k n)) h (by simp [execOp,ho,hX,Op.unary,Op.intBits,Rt]) (by simp [aD])
  · rename_i b
    simp only [aD] at hX
    cases op <;> simp only [Option.some.injEq,reduceCtorEq] at hv
    subst hv
    exact Does.pure (u:=.bool (!b)) h (by simp [execOp,ho,hX,Op.unary]) (by simp [aD])
  · simp at hv
theorem Qa (h:Sat c s w) {x:Operand} {t d:TypeId} {X:AV} {k k0 j:IntKind} {n:Int} (ho:o.op=.convert t d x) (hs:P.underlying t=some (.int k0)) (hd:P.underlying d=some (.int k))
    (hX:aD c X (ρ x)) (e:X=.int j n):Does P o ρ c s w (.int k (k.wrap n)) s:=by
  subst e;simp only [aD] at hX
  exact Does.pure (u:=.int k (k.wrap n)) h (by simp [execOp,ho,hX,convert,run_underlying hs,run_underlying hd,Conv.intToInt]) (by simp [aD])
theorem Qq (h:Sat c s w) {x:Operand} {t d:TypeId} {X:AV} {l:List UInt8} (ho:o.op=.convert t d x) (hs:P.underlying t=some .string) (hd:P.underlying d=some .string)
    (hX:aD c X (ρ x)) (e:X=.str l):Does P o ρ c s w (.str l) s:=by
  subst e
  have hX':=hX
  simp only [aD] at hX
  exact Does.pure (u:=ρ x) h (by simp [execOp,ho,hX,convert,run_underlying hs,run_underlying hd]) hX'
theorem QK (h:Sat c s w) {x:Operand} {t:TypeId} {X:AV} {d:TypeDesc} (ho:o.op=.makeInterface t x) (ht:P.underlying t=some d) (hd:∀ ms,d ≠ .interface ms)
    (hX:aD c X (ρ x)):Does P o ρ c s w (.ifc t X) s:=by
  refine Does.pure (u:=.iface t (ρ x)) h ?_ (by simp only [aD];exact ⟨_,rfl,hX⟩)
  simp only [execOp,ho,Instr.makeInterface,Sem.run_bind,run_underlying ht,Result.andThen_ok]
  cases d <;> first | rfl | exact absurd rfl (hd _)
theorem Mh (h:Sat c s w) {fn:Fn} {xs ys:Array Operand} {X Y:List AV} (ho:o.op=.makeFunc fn xs ys)
    (hX:aB c X (xs.toList.map ρ)) (hY:aB c Y (ys.toList.map ρ)):Does P o ρ c s w (.fn fn X Y) s:=by
  refine Does.pure (u:=.func fn (xs.map ρ) (ys.map ρ)) h (by simp [execOp,ho,Instr.makeFunc]) ?_
  simp only [aD]
  exact ⟨_,_,by rw [Value.func.injEq];exact ⟨rfl,by apply Array.ext';simp,by apply Array.ext';simp⟩,hX,hY⟩
theorem Kc (h:Sat c s w) {x:Operand} {t:TypeId} {fi:Nat} {fs:Array Field} {fd:Field} {i:TypeInfo} {X v:AV} (ho:o.op=.fieldAddr t x fi) (ht:P.underlying t=some (.struct fs))
    (hf:fs[fi]? = some fd) (hi:P.info? fd.type=some i) (hz:0 < i.size) (hX:aD c X (ρ x))
    (hv:shift fd.offset X=some v):Does P o ρ c s w v s:=by
  have hsz:¬ (P.cellsOf fd.type=0):=by simp [Program.cellsOf,hi];omega
  have run:∀ k q,ρ x=.pointer (some ⟨k,q,none⟩) → (execOp ρ o).run P w=.ok (.value (.pointer (some ⟨k,q + fd.offset,none⟩))) w:=fun k q hq=>by
    simp only [execOp,ho,hq,Instr.fieldAt,Sem.run_bind,run_underlying ht,Result.andThen_ok,hf,Instr.sureAddr,Sem.run_pure,fieldPlace,run_sizeOf _ hi,Sem.run_ite,if_neg hsz,Addr.add]
    by_cases h0:fd.offset=0 <;> simp [h0]
  unfold shift at hv
  split at hv
  · rename_i b e q
    simp at hv;subst hv
    simp only [aD] at hX
    obtain ⟨k,z,h1,h2⟩:=hX
    exact Does.pure h (run k q h2) (by simp only [aD];exact ⟨k,z,h1,rfl⟩)
  · rename_i cs
    simp at hv;subst hv
    simp only [aD] at hX
    obtain ⟨k,q,h1,h2⟩:=hX
    exact Does.pure h (run k q h1) (by simp only [aD];exact ⟨k,_,rfl,h2.drop _⟩)
  · simp at hv
theorem z8 {t:TypeId} {q:Option Nat} (h:nP P t=some q):∃ d i,P.underlying t=some d ∧ P.info? t=some i ∧
    ((q=some i.size ∧ (isAgg t).run P w=.ok true w) ∨ (q=none ∧ (isAgg t).run P w=.ok false w)):=by
  unfold nP at h
  split at h
  · rename_i fs i h1 h2
    simp at h
    exact ⟨_,i,h1,h2,.inl ⟨h.symm,by simp [isAgg,run_underlying h1]⟩⟩
  · rename_i n e i h1 h2
    simp at h
    exact ⟨_,i,h1,h2,.inl ⟨h.symm,by simp [isAgg,run_underlying h1]⟩⟩
  · rename_i d i hs ha h1 h2
    simp at h
    refine ⟨d,i,h1,h2,.inr ⟨h.symm,?_⟩⟩
    simp only [isAgg,Sem.run_bind,run_underlying h1,Result.andThen_ok]
    cases d <;> first | rfl | (exact absurd rfl (hs _ _)) | (exact absurd rfl (ha _ _ _)) | skip
    all_goals (exfalso;first | exact hs _ _ h1 h2 | exact ha _ _ _ h1 h2 | exact hs _ h1 | exact ha _ _ h1)
  · simp at h
theorem kY {t:TypeId} {q:Option Nat} (hq:nP P t=some q) {cs:List AV} {us:List Value} (hr:aB c cs us) {off:Nat} {v:AV} (hv:partOf q off cs=some v) :
    ∃ u,(part t us.toArray off).run P w=.ok u w ∧ aD c v u:=by
  obtain ⟨d,i,h1,h2,h3⟩:=z8 (w:=w) hq
  rcases h3 with ⟨rfl,h3⟩ | ⟨rfl,h3⟩
  · simp only [partOf,Option.some.injEq] at hv;subst hv
    refine ⟨.agg ((us.drop off).take i.size).toArray,?_,by simp only [aD];exact ⟨_,rfl,(hr.drop off).take _⟩⟩
    simp only [part,Sem.run_bind,h3,Result.andThen_ok,if_true,run_sizeOf _ h2,Sem.run_pure,Sem.run_ite]
    congr 2
    simp [Program.cellsOf,h2,List.take_drop]
  · simp only [partOf] at hv
    obtain ⟨u,hu,hr'⟩:=hr.get off v hv
    refine ⟨u,?_,hr'⟩
    simp [part,Sem.run_bind,h3,hu]
theorem QT (h:Sat c s w) {x:Operand} {t:TypeId} {fi:Nat} {fs:Array Field} {fd:Field} {q:Option Nat} {cs:List AV} {v:AV} (ho:o.op=.field t x fi) (ht:P.underlying t=some (.struct fs))
    (hf:fs[fi]? = some fd) (hq:nP P fd.type=some q) (hX:aD c (.agg cs) (ρ x)) (hv:partOf q fd.offset cs=some v):Does P o ρ c s w v s:=by
  simp only [aD] at hX
  obtain ⟨us,h1,h2⟩:=hX
  obtain ⟨u,h3,h4⟩:=kY (w:=w) hq h2 hv
  refine Does.pure (u:=u) h ?_ h4
  simp [execOp,ho,h1,Instr.field,run_underlying ht,hf,asAgg,h3]
theorem ng {I:AV} {v:Value} {i:Nat} (hI:aD c I v) (h:asNat I=some i):∃ k,v=.int k (i:Int):=by
  cases I <;> simp only [asNat,reduceCtorEq] at h
  rename_i k n
  simp only [aD] at hI
  split at h
  · simp at h
    exact ⟨k,by rw [hI];congr 1;omega⟩
  · simp at h
theorem yT (h:Sat c s w) {x ix:Operand} {t e:TypeId} {n i:Nat} {inf:TypeInfo} {X I v:AV} (ho:o.op=.indexAddr t x ix) (ht:P.underlying t=some (.array n e)) (he:P.info? e=some inf)
    (hX:aD c X (ρ x)) (hI:aD c I (ρ ix)) (hi:asNat I=some i) (hlt:i < n)
    (hv:shift (i * inf.size) X=some v):Does P o ρ c s w v s:=by
  obtain ⟨k,hk⟩:=ng hI hi
  have hc:P.cellsOf e=inf.size:=by simp [Program.cellsOf,he]
  have run:∀ k' q,ρ x=.pointer (some ⟨k',q,none⟩) → (execOp ρ o).run P w=.ok (.value (.pointer (some ⟨k',q + i * inf.size,none⟩))) w:=fun k' q hq=>by
    have:(0:Int) ≤ i ∧ (i:Int) < n:=by omega
    simp [execOp,ho,hq,hk,Instr.indexAt,asIntOf,run_underlying ht,Instr.sureAddr,this,run_sizeOf _ he,hc,Addr.add,hlt]
  unfold shift at hv
  split at hv
  · rename_i b e' q
    simp at hv;subst hv
    simp only [aD] at hX
    obtain ⟨k',z,h1,h2⟩:=hX
    exact Does.pure h (run k' q h2) (by simp only [aD];exact ⟨k',z,h1,rfl⟩)
  · rename_i cs
    simp at hv;subst hv
    simp only [aD] at hX
    obtain ⟨k',q,h1,h2⟩:=hX
    exact Does.pure h (run k' q h1) (by simp only [aD];exact ⟨k',_,rfl,h2.drop _⟩)
  · simp at hv
theorem yL (h:Sat c s w) {x ix:Operand} {t e:TypeId} {i:Nat} {inf:TypeInfo} {X I v:AV} (ho:o.op=.indexAddr t x ix) (ht:P.underlying t=some (.slice e)) (he:P.info? e=some inf)
    (hX:aD c X (ρ x)) (hI:aD c I (ρ ix)) (hi:asNat I=some i)
    (hv:bW i inf.size X=some v):Does P o ρ c s w v s:=by
  obtain ⟨k,hk⟩:=ng hI hi
  have hc:P.cellsOf e=inf.size:=by simp [Program.cellsOf,he]
  have run:∀ k' q n cap,i < n → ρ x=.slice (some ⟨k',q,none⟩) n cap → (execOp ρ o).run P w=.ok (.value (.pointer (some ⟨k',q + i * inf.size,none⟩))) w:=fun k' q n cap hlt hq=>by
    have:(0:Int) ≤ i ∧ (i:Int) < n:=by omega
    simp [execOp,ho,hq,hk,Instr.indexAt,asIntOf,run_underlying ht,this,run_sizeOf _ he,hc,Addr.add,hlt]
  unfold bW at hv
  split at hv
  · rename_i n cs
    split at hv
    · rename_i hlt
      simp at hv;subst hv
      simp only [aD] at hX
      rcases hX with ⟨h0,_⟩ | ⟨k',q,cap,h1,h2,h3⟩
      · omega
      · exact Does.pure h (run k' q n cap hlt h1) (by simp only [aD];exact ⟨k',_,rfl,h3.drop _⟩)
    · simp at hv
  · rename_i b e' q n z
    split at hv
    · rename_i hlt
      simp at hv;subst hv
      simp only [aD] at hX
      obtain ⟨k',s',cap,h1,h2,_⟩:=hX
      exact Does.pure h (run k' q n cap hlt h2) (by simp only [aD];exact ⟨k',s',h1,rfl⟩)
    · simp at hv
  · simp at hv
theorem Lj (h:Sat c s w) {x ix:Operand} {t:TypeId} {l:List UInt8} {I:AV} {i:Nat} {b:UInt8} (ho:o.op=.index t x ix) (ht:P.underlying t=some .string)
    (hX:aD c (.str l) (ρ x)) (hI:aD c I (ρ ix)) (hi:asNat I=some i) (hb:l[i]? = some b):Does P o ρ c s w (.int .u8 b.toNat) s:=by
  obtain ⟨k,hk⟩:=ng hI hi
  simp only [aD] at hX
  refine Does.pure (u:=.int .u8 b.toNat) h ?_ (by simp [aD])
  have hg:(ByteArray.mk l.toArray)[i]? = some b:=by
    have hlt:i < l.length:=(List.getElem?_eq_some_iff.1 hb).1
    have hlt':i < (ByteArray.mk l.toArray).size:=hlt
    rw [getElem?_pos (ByteArray.mk l.toArray) i hlt']
    have:=(List.getElem?_eq_some_iff.1 hb).2
    exact congrArg some this
  have:(0:Int) ≤ i:=by omega
  simp [execOp,ho,hX,hk,Instr.index,asIntOf,run_underlying ht,this,hg]
theorem Mq (h:Sat c s w) {x ix:Operand} {t e:TypeId} {n:Nat} {inf:TypeInfo} {q:Option Nat} {cs:List AV} {I v:AV} {i:Nat} (ho:o.op=.index t x ix) (ht:P.underlying t=some (.array n e)) (he:P.info? e=some inf)
    (hq:nP P e=some q) (hX:aD c (.agg cs) (ρ x)) (hI:aD c I (ρ ix)) (hi:asNat I=some i) (hlt:i < n) (hv:partOf q (i * inf.size) cs=some v):Does P o ρ c s w v s:=by
  obtain ⟨k,hk⟩:=ng hI hi
  simp only [aD] at hX
  obtain ⟨us,h1,h2⟩:=hX
  obtain ⟨u,h3,h4⟩:=kY (w:=w) hq h2 hv
  have hc:P.cellsOf e=inf.size:=by simp [Program.cellsOf,he]
  refine Does.pure (u:=u) h ?_ h4
  have:(0:Int) ≤ i ∧ (i:Int) < n:=by omega
  simp [execOp,ho,h1,hk,Instr.index,asIntOf,run_underlying ht,this,run_sizeOf _ he,hc,h3,hlt]
theorem OV (h:Sat c s w) {x:Operand} {i:Nat} {vs:List AV} {v:AV} (ho:o.op=.extract x i) (hX:aD c (.tup vs) (ρ x)) (hv:vs[i]? = some v):Does P o ρ c s w v s:=by
  simp only [aD] at hX
  obtain ⟨us,h1,h2⟩:=hX
  obtain ⟨u,hu,hr⟩:=h2.get i v hv
  exact Does.pure (u:=u) h (by simp [execOp,ho,h1,Instr.extract,hu]) hr
theorem zY (h:Sat c s w) {x:Operand} {X:AV} (ho:o.op=.nilCheck x) (hX:aD c X (ρ x)) (hx:(∃ b e o,X=.ptr b e o) ∨ ∃ cs,X=.vp cs):Does P o ρ c s w X s:=by
  have hX':=hX
  rcases hx with ⟨b,e,q,rfl⟩ | ⟨cs,rfl⟩
  · simp only [aD] at hX
    obtain ⟨k,z,h1,h2⟩:=hX
    exact Does.pure (u:=.pointer (some ⟨k,q,none⟩)) h (by simp [execOp,ho,h2]) (by rw [h2] at hX';exact hX')
  · simp only [aD] at hX
    obtain ⟨k,z,h1,h2⟩:=hX
    exact Does.pure (u:=.pointer (some ⟨k,z,none⟩)) h (by simp [execOp,ho,h1]) (by rw [h1] at hX';exact hX')
end
end Go.AX
/- More operations that only compute: comparisons, slices of slices, lengths, literals, loads. -/
namespace Go.AX
open Go
section
variable {P:Program} {c:Ctx} {s:St} {w:World} {F:List AV} {ρ:Operand → Value} {o:Oper}
theorem bytes_beq (l r:List UInt8):((ByteArray.mk l.toArray) == (ByteArray.mk r.toArray))=(l == r):=by
  rw [beq_toListBytes,ByteArray.toList_eq,ByteArray.toList_eq]
theorem pW (d : Nat) (rec : ∀ (t : TypeId) (tr : p8) (X Y : AV) (u v : Value) (b : Bool), rZ P d t false = some tr → aD c X u → aD c Y v → eqv tr X Y = some b → ∀ D, d ≤ D → (Op.equalIn D t u v).run P w = .ok b w)
    {xs ys:List AV} {us vs:List Value} (hx:aB c xs us) (hy:aB c ys vs) (D:Nat) (hD:d ≤ D) :
    ∀ (fs : List Field) (l : List (Nat × Option Nat × p8)) (b : Bool), eqFields P (fun u => rZ P d u false) fs = some l → eqvs l xs ys = some b →
      (Op.eqFields D us.toArray vs.toArray fs).run P w=.ok b w
  | [], l, b, hl, hb => by
    simp [eqFields] at hl;subst hl
    simp [eqvs] at hb;subst hb
    simp [Op.eqFields]
  | f :: r, l, b, hl, hb => by
    simp only [eqFields] at hl
    split at hl
    · simp at hl
    · rename_i hname
      split at hl
      · rename_i tr q l' h1 h2 h3
        simp at hl;subst hl
        simp only [eqvs] at hb
        split at hb
        · rename_i a a' ha ha'
          split at hb
          · rename_i p q' hp hq'
            simp at hb;subst hb
            obtain ⟨u,hu1,hu2⟩:=kY (w:=w) h2 hx ha
            obtain ⟨v,hv1,hv2⟩:=kY (w:=w) h2 hy ha'
            have he:=rec f.type tr a a' u v p h1 hu2 hv2 hp D hD
            have ih:=pW d rec hx hy D hD r l' q' h3 hq'
            have hne : f.name ≠ "_" := hname
            simp only [Op.eqFields,if_pos hne,Sem.run_bind,hu1,Result.andThen_ok,hv1,he]
            cases p
            · simp
            · simpa using ih
          · simp at hb
        · simp at hb
      · simp at hl
theorem qc (d : Nat) {e : TypeId} {tr : p8} {q : Option Nat} {z : Nat} (rec : ∀ (X Y : AV) (u v : Value) (b : Bool), aD c X u → aD c Y v → eqv tr X Y = some b → ∀ D, d ≤ D → (Op.equalIn D e u v).run P w = .ok b w)
    (hq:nP P e=some q) (hz:P.cellsOf e=z) {xs ys:List AV} {us vs:List Value} (hx:aB c xs us) (hy:aB c ys vs) (D:Nat) (hD:d ≤ D) :
    ∀ (is : List Nat) (b : Bool), eqvs (is.map fun i => (i * z, q, tr)) xs ys = some b →
      (Op.eqItems D e (P.cellsOf e) us.toArray vs.toArray is).run P w=.ok b w
  | [], b, hb => by
    simp [eqvs] at hb;subst hb
    simp [Op.eqItems]
  | i :: r, b, hb => by
    simp only [List.map_cons,eqvs] at hb
    split at hb
    · rename_i a a' ha ha'
      split at hb
      · rename_i p q' hp hq'
        simp at hb;subst hb
        obtain ⟨u,hu1,hu2⟩:=kY (w:=w) hq hx ha
        obtain ⟨v,hv1,hv2⟩:=kY (w:=w) hq hy ha'
        have he:=rec a a' u v p hu2 hv2 hp D hD
        have ih:=qc d rec hq hz hx hy D hD r q' hq'
        simp only [Op.eqItems,Sem.run_bind,hz,hu1,Result.andThen_ok,hv1,he]
        rw [hz] at ih
        cases p
        · simp
        · simpa using ih
      · simp at hb
    · simp at hb
theorem zJ (D:Nat) {t e:TypeId} (hu:P.underlying t=some (.pointer e)) (a b:Option Addr) (h:a=none ∨ b=none):(Op.equalIn (D + 1) t (.pointer a) (.pointer b)).run P w=.ok (a.isNone && b.isNone) w:=by
  rcases h with rfl | rfl
  · simp [Op.equalIn,run_underlying hu]
  · cases a <;> simp [Op.equalIn,run_underlying hu]
theorem vU (D:Nat) {t e:TypeId} (hu:P.underlying t=some (.slice e)) (a b:Option Addr) (n m p q:Nat) (h:a=none ∨ b=none):(Op.equalIn (D + 1) t (.slice a n p) (.slice b m q)).run P w=.ok (a.isNone && b.isNone) w:=by
  rcases h with rfl | rfl
  · simp [Op.equalIn,run_underlying hu]
  · cases a <;> simp [Op.equalIn,run_underlying hu]
theorem Js (D:Nat) {t k e:TypeId} (hu:P.underlying t=some (.map k e)) (a b:Option Nat) (h:a=none ∨ b=none):(Op.equalIn (D + 1) t (.map a) (.map b)).run P w=.ok (a.isNone && b.isNone) w:=by
  rcases h with rfl | rfl
  · simp [Op.equalIn,run_underlying hu]
  · cases a <;> simp [Op.equalIn,run_underlying hu]
theorem DN (D:Nat) {t:TypeId} {ms:Array (String × TypeId)} (hu:P.underlying t=some (.interface ms)):(Op.equalIn (D + 1) t .nilIface .nilIface).run P w=.ok true w:=by
  simp [Op.equalIn,run_underlying hu]
theorem EI (D:Nat) {t u:TypeId} {ms:Array (String × TypeId)} (hu:P.underlying t=some (.interface ms)) (v:Value):(Op.equalIn (D + 1) t .nilIface (.iface u v)).run P w=.ok false w:=by
  simp [Op.equalIn,run_underlying hu]
theorem EH (D:Nat) {t u:TypeId} {ms:Array (String × TypeId)} (hu:P.underlying t=some (.interface ms)) (v:Value):(Op.equalIn (D + 1) t (.iface u v) .nilIface).run P w=.ok false w:=by
  simp [Op.equalIn,run_underlying hu]
theorem Ed (D:Nat) {t:TypeId} {ps rs:Array TypeId} {x:Bool} (hu:P.underlying t=some (.func ps rs x)):(Op.equalIn (D + 1) t .nilFunc .nilFunc).run P w=.ok true w:=by
  simp [Op.equalIn,run_underlying hu]
theorem DX (D:Nat) {t:TypeId} {ps rs:Array TypeId} {x:Bool} (hu:P.underlying t=some (.func ps rs x)) (f:Fn) (a b:Array Value):(Op.equalIn (D + 1) t .nilFunc (.func f a b)).run P w=.ok false w:=by
  simp [Op.equalIn,run_underlying hu]
theorem EN (D:Nat) {t:TypeId} {ps rs:Array TypeId} {x:Bool} (hu:P.underlying t=some (.func ps rs x)) (f:Fn) (a b:Array Value):(Op.equalIn (D + 1) t (.func f a b) .nilFunc).run P w=.ok false w:=by
  simp [Op.equalIn,run_underlying hu]
theorem oJ:∀ (d:Nat) (t:TypeId) (lit:Bool) (tr:p8) (X Y:AV) (u v:Value) (b:Bool),rZ P d t lit=some tr → aD c X u → aD c Y v → eqv tr X Y=some b →
    ∀ D,d ≤ D → (Op.equalIn D t u v).run P w=.ok b w
  | 0,t,lit,tr,X,Y,u,v,b,h,_,_,_,_,_=>by simp [rZ] at h
  | d + 1, t, lit, tr, X, Y, u, v, b, h, hX, hY, hb, D, hD => by
    obtain ⟨D,rfl⟩:∃ D',D=D' + 1:=⟨D - 1,by omega⟩
    have hD':d ≤ D:=by omega
    unfold rZ at h
    split at h
    · rename_i hu
      simp at h;subst h
      simp only [eqv] at hb
      split at hb
      · simp at hb;subst hb;simp only [aD] at hX hY;subst hX;subst hY
        exact run_equalIn_bool' w D t _ _ hu
      · simp at hb
    · rename_i hu
      simp at h;subst h
      simp only [eqv] at hb
      split at hb
      · split at hb
        · rename_i hk;subst hk;simp at hb;subst hb;simp only [aD] at hX hY;subst hX;subst hY
          exact run_equalIn_int w D t _ _ _ _ hu
        · simp at hb
      · simp at hb
    · rename_i hu
      simp at h;subst h
      simp only [eqv] at hb
      split at hb
      · simp at hb;subst hb;simp only [aD] at hX hY;subst hX;subst hY
        rw [run_equalIn_string w D t _ _ hu,ByteArray.toList_eq,ByteArray.toList_eq]
      · simp at hb
    · rename_i hu
      simp at h;subst h
      simp only [eqv] at hb
      split at hb <;> simp at hb <;> subst hb <;> simp only [aD] at hX hY
      · subst hX;subst hY;exact zJ D hu _ _ (by simp)
      · obtain ⟨k,z,_,hY⟩:=hY;subst hX;subst hY;exact zJ D hu _ _ (by simp)
      · obtain ⟨k,z,_,hX⟩:=hX;subst hX;subst hY;exact zJ D hu _ _ (by simp)
      · obtain ⟨k,z,hY,_⟩:=hY;subst hX;subst hY;exact zJ D hu _ _ (by simp)
      · obtain ⟨k,z,hX,_⟩:=hX;subst hX;subst hY;exact zJ D hu _ _ (by simp)
    · rename_i hu
      simp at h;subst h
      simp only [eqv] at hb
      split at hb
      · simp at hb;subst hb;simp only [aD] at hX hY;subst hX;subst hY;exact vU D hu _ _ _ _ _ _ (by simp)
      · simp at hb;subst hb;simp only [aD] at hX hY
        obtain ⟨k,z,q,_,hY,_⟩:=hY;subst hX;subst hY;exact vU D hu _ _ _ _ _ _ (by simp)
      · simp at hb;subst hb;simp only [aD] at hX hY
        obtain ⟨k,z,q,_,hX,_⟩:=hX;subst hX;subst hY;exact vU D hu _ _ _ _ _ _ (by simp)
      · split at hb
        · rename_i hn;simp at hb;subst hb;simp only [aD] at hX hY
          rcases hY with ⟨h0,_⟩ | ⟨k,q,r,hY,_⟩
          · omega
          · subst hX;subst hY;exact vU D hu _ _ _ _ _ _ (by simp)
        · simp at hb
      · split at hb
        · rename_i hn;simp at hb;subst hb;simp only [aD] at hX hY
          rcases hX with ⟨h0,_⟩ | ⟨k,q,r,hX,_⟩
          · omega
          · subst hX;subst hY;exact vU D hu _ _ _ _ _ _ (by simp)
        · simp at hb
      · simp at hb
    · rename_i hu
      simp at h;subst h
      simp only [eqv] at hb
      split at hb
      · split at hb
        · simp at hb;subst hb;simp only [aD] at hX hY;subst hX;subst hY;first | exact DN D hu | exact EI D hu _ | exact EH D hu _
        · simp at hb
      · simp at hb;subst hb;simp only [aD] at hX hY
        obtain ⟨k,hY,_⟩:=hY;subst hX;subst hY;first | exact DN D hu | exact EI D hu _ | exact EH D hu _
      · simp at hb;subst hb;simp only [aD] at hX hY
        obtain ⟨k,hX,_⟩:=hX;subst hX;subst hY;first | exact DN D hu | exact EI D hu _ | exact EH D hu _
      · simp at hb
    · rename_i hu
      simp at h;subst h
      simp only [eqv] at hb
      split at hb <;> simp at hb <;> subst hb <;> simp only [aD] at hX hY
      · subst hX;subst hY;first | exact Ed D hu | exact DX D hu _ _ _ | exact EN D hu _ _ _
      · obtain ⟨k,z,hY,_⟩:=hY;subst hX;subst hY;first | exact Ed D hu | exact DX D hu _ _ _ | exact EN D hu _ _ _
      · obtain ⟨k,z,hX,_⟩:=hX;subst hX;subst hY;first | exact Ed D hu | exact DX D hu _ _ _ | exact EN D hu _ _ _
    · rename_i hu
      simp at h;subst h
      simp only [eqv] at hb
      split at hb <;> simp at hb <;> subst hb <;> simp only [aD] at hX hY
      · subst hX;subst hY;exact Js D hu _ _ (by simp)
      · obtain ⟨k,z,_,hY⟩:=hY;subst hX;subst hY;exact Js D hu _ _ (by simp)
      · obtain ⟨k,z,_,hX⟩:=hX;subst hX;subst hY;exact Js D hu _ _ (by simp)
    · rename_i fs hu
      split at h
      · simp at h
      · rename_i hp
        split at h
        · rename_i l hl
          simp at h;subst h
          simp only [eqv] at hb
          split at hb
          · rename_i xs ys
            simp only [aD] at hX hY
            obtain ⟨us,rfl,hx⟩:=hX
            obtain ⟨vs,rfl,hy⟩:=hY
            have hf:P.underlying t=some (.struct (P.fieldsOf t)):=by simp [Program.fieldsOf,hu]
            have hfs:P.fieldsOf t=fs:=by simp [Program.fieldsOf,hu]
            rw [run_equalIn_struct w D t _ _ hf (by simpa using hp),hfs]
            exact pW d (fun t tr X Y u v b h1 h2 h3 h4 D hD=>oJ d t false tr X Y u v b h1 h2 h3 h4 D hD) hx hy D hD' _ l b hl hb
          · simp at hb
        · simp at h
    · rename_i n e hu
      split at h
      · rename_i tr' q z h1 h2 h3
        simp at h;subst h
        simp only [eqv] at hb
        split at hb
        · rename_i xs ys
          simp only [aD] at hX hY
          obtain ⟨us,rfl,hx⟩:=hX
          obtain ⟨vs,rfl,hy⟩:=hY
          simp only [Fg,Option.map_eq_some_iff] at h3
          obtain ⟨i,hi,hz⟩:=h3
          rw [run_equalIn_array w D _ _ hu hi]
          exact qc d (fun X Y u v b h2 h3 h4 D hD=>oJ d e false tr' X Y u v b h1 h2 h3 h4 D hD) h2 (by simp [Program.cellsOf,hi,hz]) hx hy D hD' _ b hb
        · simp at hb
      · simp at h
    · simp at h
end
end Go.AX
/- Comparison; slices of slices; lengths; literals; loads. -/
namespace Go.AX
open Go
section
variable {P:Program} {c:Ctx} {s:St} {w:World} {F:List AV} {ρ:Operand → Value} {o:Oper}
theorem nV (op:BinOp) (t:TypeId) (x y:Operand) (a b:Value) (h1:¬ (a=.nilIface ∧ b=.nilIface)) (h2:∀ xs ys,¬ (a=.agg xs ∧ b=.agg ys)):(eqGuard op t x y a b).run P w=.ok () w:=by
  unfold eqGuard
  cases op <;> (try rfl) <;> (cases a <;> (try rfl) <;> cases b <;> (try rfl) <;> simp_all)
theorem Il (op:BinOp) (t:TypeId) (x y:Operand) (h:(isLit x || isLit y)=true):(eqGuard op t x y .nilIface .nilIface).run P w=.ok () w:=by
  unfold eqGuard
  have hx:((x matches .const _) || (y matches .const _))=true:=by
    revert h;cases x <;> cases y <;> simp [isLit]
  cases op <;> simp [hx] <;> (revert hx;cases x <;> cases y <;> simp)
inductive Held:Value → Value → Prop
  | int (k m n):Held (.int k m) (.int k n)
  | str (l r):Held (.string l) (.string r)
  | bool (p q):Held (.bool p) (.bool q)
  | ptr (a b):Held (.pointer a) (.pointer b)
  | slc (a b n m p q):Held (.slice a n p) (.slice b m q)
  | map (a b):Held (.map a) (.map b)
  | i1:Held .nilIface .nilIface
  | i2 (t v):Held .nilIface (.iface t v)
  | i3 (t v):Held (.iface t v) .nilIface
  | f1:Held .nilFunc .nilFunc
  | f2 (f a b):Held .nilFunc (.func f a b)
  | f3 (f a b):Held (.func f a b) .nilFunc
  | agg (xs ys):Held (.agg xs) (.agg ys)
theorem Hr {tr:p8} {X Y:AV} {u v:Value} {b:Bool} (hX:aD c X u) (hY:aD c Y v) (h:eqv tr X Y=some b):Held u v ∧
    (u=.nilIface ∧ v=.nilIface → tr=.ifc true):=by
  cases tr
  case int=>
    simp only [eqv] at h;(split at h;case h_2=>simp at h)
    simp only [aD] at hX hY;subst hX;subst hY
    split at h
    · rename_i hk;subst hk;exact ⟨.int _ _ _,by simp⟩
    · simp at h
  case str=>simp only [eqv] at h;(split at h;case h_2=>simp at h);simp only [aD] at hX hY;subst hX;subst hY;exact ⟨.str _ _,by simp⟩
  case bool=>simp only [eqv] at h;(split at h;case h_2=>simp at h);simp only [aD] at hX hY;subst hX;subst hY;exact ⟨.bool _ _,by simp⟩
  case ptr=>
    simp only [eqv] at h
    split at h <;> simp at h <;> simp only [aD] at hX hY
    · subst hX;subst hY;exact ⟨.ptr _ _,by simp⟩
    · obtain ⟨k,z,_,rfl⟩:=hY;subst hX;exact ⟨.ptr _ _,by simp⟩
    · obtain ⟨k,z,_,rfl⟩:=hX;subst hY;exact ⟨.ptr _ _,by simp⟩
    · obtain ⟨k,z,rfl,_⟩:=hY;subst hX;exact ⟨.ptr _ _,by simp⟩
    · obtain ⟨k,z,rfl,_⟩:=hX;subst hY;exact ⟨.ptr _ _,by simp⟩
  case slc=>
    simp only [eqv] at h
    split at h
    · simp only [aD] at hX hY;subst hX;subst hY;exact ⟨.slc _ _ _ _ _ _,by simp⟩
    · simp only [aD] at hX hY;obtain ⟨k,z,q,_,rfl,_⟩:=hY;subst hX;exact ⟨.slc _ _ _ _ _ _,by simp⟩
    · simp only [aD] at hX hY;obtain ⟨k,z,q,_,rfl,_⟩:=hX;subst hY;exact ⟨.slc _ _ _ _ _ _,by simp⟩
    · simp only [aD] at hX hY;subst hX
      rcases hY with ⟨_,_,a,q,rfl⟩ | ⟨k,q,r,rfl,_⟩ <;> exact ⟨.slc _ _ _ _ _ _,by simp⟩
    · simp only [aD] at hX hY;subst hY
      rcases hX with ⟨_,_,a,q,rfl⟩ | ⟨k,q,r,rfl,_⟩ <;> exact ⟨.slc _ _ _ _ _ _,by simp⟩
    · simp at h
  case ifc lit=>
    simp only [eqv] at h
    split at h
    · simp only [aD] at hX hY;subst hX;subst hY
      split at h
      · rename_i hl;subst hl;exact ⟨.i1,by simp⟩
      · simp at h
    · simp only [aD] at hX hY;obtain ⟨k,rfl,_⟩:=hY;subst hX;exact ⟨.i2 _ _,by simp⟩
    · simp only [aD] at hX hY;obtain ⟨k,rfl,_⟩:=hX;subst hY;exact ⟨.i3 _ _,by simp⟩
    · simp at h
  case fnc=>
    simp only [eqv] at h
    split at h <;> simp at h <;> simp only [aD] at hX hY
    · subst hX;subst hY;exact ⟨.f1,by simp⟩
    · obtain ⟨k,z,rfl,_⟩:=hY;subst hX;exact ⟨.f2 _ _ _,by simp⟩
    · obtain ⟨k,z,rfl,_⟩:=hX;subst hY;exact ⟨.f3 _ _ _,by simp⟩
  case mapp=>
    simp only [eqv] at h
    split at h <;> simp at h <;> simp only [aD] at hX hY
    · subst hX;subst hY;exact ⟨.map _ _,by simp⟩
    · obtain ⟨k,z,_,rfl⟩:=hY;subst hX;exact ⟨.map _ _,by simp⟩
    · obtain ⟨k,z,_,rfl⟩:=hX;subst hY;exact ⟨.map _ _,by simp⟩
  case node l=>
    simp only [eqv] at h
    split at h
    · simp only [aD] at hX hY;obtain ⟨us,rfl,_⟩:=hX;obtain ⟨vs,rfl,_⟩:=hY;exact ⟨.agg _ _,by simp⟩
    · simp at h
theorem Ig {t:TypeId} {u v:Value} {b:Bool} (hh:Held u v) (h:(Op.equalIn Op.maxDepth t u v).run P w=.ok b w) :
    (∀ (k:IntKind) m n,u=.int k m → v=.int k n → b=(m == n)) → (∀ l r,u=.string l → v=.string r → b=(l.toList == r.toList)) →
    (binOp .eql t u v).run P w=.ok (.bool b) w ∧ (binOp .neq t u v).run P w=.ok (.bool (!b)) w:=by
  intro h1 h2
  cases hh <;> (first | (simp [binOp,Op.equal,h];done) | skip)
  case int k m n=>
    have:=h1 k m n rfl rfl;subst this
    refine ⟨by simp [binOp,Op.intCmp],by simp [binOp,Op.intCmp];rfl⟩
  case str l r=>
    have:=h2 l r rfl rfl;subst this
    exact ⟨by simp [binOp,Op.stringOp],by simp [binOp,Op.stringOp]⟩
theorem Uo {d:Nat} {t:TypeId} {lit b:Bool} (h:rZ P d t lit=some (.ifc b)):b=lit:=by
  cases d with
  | zero=>simp [rZ] at h
  | succ d =>
    unfold rZ at h
    repeat' (split at h)
    all_goals first | (cases h;done) | (cases h;rfl)
theorem Vy (h:Sat c s w) {op:BinOp} {neg:Bool} (hop:(op=.eql ∧ neg=false) ∨ (op=.neq ∧ neg=true)) {x y:Operand} {t u:TypeId} {X Y:AV} {tr:p8} {b:Bool} (ho:o.op=.binOp op t x y u)
    (d:Nat) (hd:d ≤ 9) (htr:rZ P d t (isLit x || isLit y)=some tr) (hg:P.eqGuardType P.depth t=false ∨ ∃ ms,P.underlying t=some (.interface ms)) (hni:∀ k,P.underlying t ≠ some (.int k)) (hns:P.underlying t ≠ some .string)
    (hX:aD c X (ρ x)) (hY:aD c Y (ρ y)) (hb:eqv tr X Y=some b):Does P o ρ c s w (.bool (if neg then !b else b)) s:=by
  have he:=oJ (P:=P) (c:=c) (w:=w) d t _ tr X Y _ _ b htr hX hY hb Op.maxDepth (by simp [Op.maxDepth];omega)
  obtain ⟨hh,hnil⟩:=Hr hX hY hb
  have hguard:(eqGuard op t x y (ρ x) (ρ y)).run P w=.ok () w:=by
    by_cases hn:ρ x=.nilIface ∧ ρ y=.nilIface
    · rw [hn.1,hn.2]
      refine Il op t x y ?_
      have:=hnil hn
      subst this
      exact (Uo htr).symm
    · rcases hg with hg | ⟨ms,hms⟩
      · by_cases ha:∃ xs ys,ρ x=.agg xs ∧ ρ y=.agg ys
        · obtain ⟨xs,ys,e1,e2⟩:=ha
          rw [e1,e2]
          exact run_eqGuard_agg w op t x y xs ys hg
        · exact nV op t x y _ _ hn (fun xs ys e=>ha ⟨xs,ys,e⟩)
      · refine nV op t x y _ _ hn (fun xs ys e=>?_)
        cases d with
        | zero=>simp [rZ] at htr
        | succ d =>
          simp only [rZ,hms,Option.some.injEq] at htr
          subst htr
          simp only [eqv] at hb
          rw [e.1] at hX;rw [e.2] at hY
          split at hb
          · simp [aD] at hX
          · simp [aD] at hX
          · simp [aD] at hY
          · simp at hb
  have h1:∀ (k:IntKind) m n,ρ x=.int k m → ρ y=.int k n → b=(m == n):=fun k m n e1 e2=>by
    cases tr <;> simp only [eqv] at hb
    case int=>
      (split at hb;case h_2=>simp at hb)
      simp only [aD] at hX hY
      rw [e1] at hX;rw [e2] at hY
      simp at hX hY
      obtain ⟨rfl,rfl⟩:=hX
      obtain ⟨rfl,rfl⟩:=hY
      simp at hb;exact hb.symm
    all_goals
      exfalso
      split at hb <;> (try simp at hb) <;> simp only [aD] at hX hY <;> rw [e1] at hX <;> rw [e2] at hY <;> simp at hX hY
  have h2:∀ l r,ρ x=.string l → ρ y=.string r → b=(l.toList == r.toList):=fun l r e1 e2=>by
    cases tr <;> simp only [eqv] at hb
    case str=>
      (split at hb;case h_2=>simp at hb)
      simp only [aD] at hX hY
      rw [e1] at hX;rw [e2] at hY
      simp at hX hY
      subst hX;subst hY
      simp at hb
      rw [ByteArray.toList_eq,ByteArray.toList_eq];exact hb.symm
    all_goals
      exfalso
      split at hb <;> (try simp at hb) <;> simp only [aD] at hX hY <;> rw [e1] at hX <;> rw [e2] at hY <;> simp at hX hY
  obtain ⟨r1,r2⟩:=Ig hh he h1 h2
  rcases hop with ⟨rfl,rfl⟩ | ⟨rfl,rfl⟩
  · exact Does.pure (u:=.bool b) h (by simp [execOp,ho,hguard,Result.andThen,r1]) (by simp [aD])
  · exact Does.pure (u:=.bool (!b)) h (by simp [execOp,ho,hguard,Result.andThen,r2]) (by simp [aD])
end
end Go.AX
