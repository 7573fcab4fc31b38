/- The types: by tygen.py. -/
import Derived.Test.YtoilbphgflgbeaaGreatAxE
set_option linter.unusedSimpArgs false
set_option linter.unusedVariables false
namespace Go.AX
open Go
namespace Ty
@[ext] structure Placed where
  item:Item
  layer:Int
instance:Enc Placed:=⟨9,fun x=>[.int .i64 x.item.kind,.ps (List.length x.item.bB) (aj x.item.bB),.ps (List.length x.item.decls) (aj x.item.decls),.ps (List.length x.item.names) (aj x.item.names),.int .i64 x.item.min,.int .i64 x.item.max,.ps (List.length x.item.vals) (aj x.item.vals),.ps (List.length x.item.l) (aj x.item.l),.int .i64 x.layer],fun x=>.agg [.int .i64 x.item.kind,.ps (List.length x.item.bB) (aj x.item.bB),.ps (List.length x.item.decls) (aj x.item.decls),.ps (List.length x.item.names) (aj x.item.names),.int .i64 x.item.min,.int .i64 x.item.max,.ps (List.length x.item.vals) (aj x.item.vals),.ps (List.length x.item.l) (aj x.item.l),.int .i64 x.layer],fun x=>Enc.ok x.item ∧ Enc.ok x.layer,fun _=>rfl,fun _=>rfl,fun _=>.inl rfl,fun _=>by simp only [ay,Go.AX.flat,aP,Bool.and_self]⟩
theorem Placed.bH (x:Placed):Enc.ok x ↔ (Enc.ok x.item ∧ Enc.ok x.layer):=Iff.rfl
theorem Placed.aO (x:Placed):Enc.cells x=[.int .i64 x.item.kind,.ps (List.length x.item.bB) (aj x.item.bB),.ps (List.length x.item.decls) (aj x.item.decls),.ps (List.length x.item.names) (aj x.item.names),.int .i64 x.item.min,.int .i64 x.item.max,.ps (List.length x.item.vals) (aj x.item.vals),.ps (List.length x.item.l) (aj x.item.l),.int .i64 x.layer]:=rfl
theorem Placed.fC (x:Placed):Enc.av x=.agg [.int .i64 x.item.kind,.ps (List.length x.item.bB) (aj x.item.bB),.ps (List.length x.item.decls) (aj x.item.decls),.ps (List.length x.item.names) (aj x.item.names),.int .i64 x.item.min,.int .i64 x.item.max,.ps (List.length x.item.vals) (aj x.item.vals),.ps (List.length x.item.l) (aj x.item.l),.int .i64 x.layer]:=rfl
theorem Placed.elem (l:List Placed) (k:Nat):dH k 9 (.ps (List.length l) (aj l))=(l[k]?).map fun x=>.vp (Enc.cells x ++ aj (l.drop (k + 1))):=dD l k
theorem Placed.je (l:List Placed):(aj l).length=List.length l * 9:=aT l
@[ext] structure bO where
  sheets:List (List Item)
  p:List Node
  width:Int
  states:List State
instance:Enc bO:=⟨4,fun x=>[.ps (List.length x.sheets) (aj x.sheets),.ps (List.length x.p) (aj x.p),.int .i64 x.width,.ps (List.length x.states) (aj x.states)],fun x=>.agg [.ps (List.length x.sheets) (aj x.sheets),.ps (List.length x.p) (aj x.p),.int .i64 x.width,.ps (List.length x.states) (aj x.states)],fun x=>Enc.ok x.sheets ∧ Enc.ok x.p ∧ Enc.ok x.width ∧ Enc.ok x.states,fun _=>rfl,fun _=>rfl,fun _=>.inl rfl,fun _=>by simp only [ay,Go.AX.flat,aP,Bool.and_self]⟩
theorem bO.bH (x:bO):Enc.ok x ↔ (Enc.ok x.sheets ∧ Enc.ok x.p ∧ Enc.ok x.width ∧ Enc.ok x.states):=Iff.rfl
theorem bO.aO (x:bO):Enc.cells x=[.ps (List.length x.sheets) (aj x.sheets),.ps (List.length x.p) (aj x.p),.int .i64 x.width,.ps (List.length x.states) (aj x.states)]:=rfl
theorem bO.fC (x:bO):Enc.av x=.agg [.ps (List.length x.sheets) (aj x.sheets),.ps (List.length x.p) (aj x.p),.int .i64 x.width,.ps (List.length x.states) (aj x.states)]:=rfl
theorem bO.elem (l:List bO) (k:Nat):dH k 4 (.ps (List.length l) (aj l))=(l[k]?).map fun x=>.vp (Enc.cells x ++ aj (l.drop (k + 1))):=dD l k
theorem bO.je (l:List bO):(aj l).length=List.length l * 4:=aT l
theorem yS {P:Program} {t t0 t1 t2 t3:TypeId} {fs:Array Field} {n:Nat} (hu:P.underlying t=some (.struct fs)) (hf:fs.toList.map (bU P)=[(0,1,t0),(1,1,t1),(2,1,t2),(3,1,t3)]) (hc:P.cellsOf t=4) (h0:aX P t0 (List (List Item)) n) (h1:aX P t1 (List Node) n) (h2:aX P t2 Int n) (h3:aX P t3 (List State) n):aX P t bO (n + 1):=fun H enc W sp hd cs x hx hw=>by
  obtain ⟨g1,g2⟩:=trod_struct hu hf hx hw
  rw [hc] at g1
  obtain ⟨y0,e0,z0⟩:=g2 (0,1,t0) (by simp)
  obtain ⟨a0,r0,k0⟩:=h0 H enc W sp hd _ _ e0 z0
  obtain ⟨y1,e1,z1⟩:=g2 (1,1,t1) (by simp)
  obtain ⟨a1,r1,k1⟩:=h1 H enc W sp hd _ _ e1 z1
  obtain ⟨y2,e2,z2⟩:=g2 (2,1,t2) (by simp)
  obtain ⟨a2,r2,k2⟩:=h2 H enc W sp hd _ _ e2 z2
  obtain ⟨y3,e3,z3⟩:=g2 (3,1,t3) (by simp)
  obtain ⟨a3,r3,k3⟩:=h3 H enc W sp hd _ _ e3 z3
  refine ⟨.mk a0 a1 a2 a3,?_,(bO.bH _).2 ⟨k0,k1,k2,k3⟩⟩
  have hh:=(aU (o:=0) (z:=1) r0 (aU (o:=1) (z:=1) r1 (aU (o:=2) (z:=1) r2 (aU (o:=3) (z:=1) r3 (gH (o:=4) g1)))))
  rw [List.drop_zero] at hh
  rw [bO.aO];exact hh
theorem EH {P:Program} {t t0 t1 t2 t3:TypeId} {fs:Array Field} (hu:P.underlying t=some (.struct fs)) (hf:fs.toList.map (bU P)=[(0,1,t0),(1,1,t1),(2,1,t2),(3,1,t3)]) (hc:P.cellsOf t=4) (h0:Reads P t0 (List (List Item))) (h1:Reads P t1 (List Node)) (h2:Reads P t2 Int) (h3:Reads P t3 (List State)):Reads P t bO:=fun n=>by
  cases n with
  | zero=>exact eF
  | succ n=>exact yS hu hf hc (h0 n) (h1 n) (h2 n) (h3 n)
end Ty
attribute [go_sem] Ty.Placed.elem Ty.bO.elem
attribute [go_sem] Ty.Placed.aO Ty.bO.aO
attribute [go_sem] Ty.Placed.fC Ty.bO.fC
end Go.AX
/- Plain: layers, what applies, what wins. -/
namespace W15
open Go Go.AX Go.AX.Ty
def FX (l:List Str) (s:Str):Bool:=l.any fun x=>x == s
theorem Ql {l:List Str} {s:Str}:FX l s=true ↔ s ∈ l:=by
  unfold FX;simp
def iL (out:List Str) (n:Str):List Str:=if FX out n=true then out else out ++ [n]
def lH (x:Ty.Item):Bool:=decide (x.kind=4) || (decide (x.kind=3) && decide (x.names.length=1))
def bW (out:List Str) (x:Ty.Item):List Str:=if lH x=true then x.names.foldl iL out else out
def bQ (sheets:List (List Ty.Item)):List Str:=sheets.flatten.foldl bW []
theorem Ms (out:List Str) (n m:Str):m ∈ iL out n ↔ m ∈ out ∨ m=n:=by
  unfold iL;split
  · rename_i h;rw [Ql] at h
    exact ⟨.inl,fun h'=>h'.elim id fun e=>e ▸ h⟩
  · simp
theorem Ao (m:Str):∀ (ns out:List Str),m ∈ ns.foldl iL out ↔ m ∈ out ∨ m ∈ ns
  | [],out=>by simp
  | n :: r, out => by
    rw [List.foldl_cons,Ao m r,Ms,List.mem_cons,or_assoc]
theorem NM (out:List Str) (n:Str):∃ t,iL out n=out ++ t:=by
  unfold iL;split
  · exact ⟨[],by simp⟩
  · exact ⟨[n],rfl⟩
theorem Ag:∀ (ns out:List Str),∃ t,ns.foldl iL out=out ++ t
  | [],out=>⟨[],by simp⟩
  | n :: r, out => by
    obtain ⟨t,h⟩:=NM out n
    obtain ⟨u,h2⟩:=Ag r (out ++ t)
    exact ⟨t ++ u,by rw [List.foldl_cons,h,h2,List.append_assoc]⟩
theorem D5 (out:List Str) (x:Ty.Item):∃ t,bW out x=out ++ t:=by
  unfold bW;split
  · exact Ag _ _
  · exact ⟨[],by simp⟩
theorem Dp:∀ (xs:List Ty.Item) (out:List Str),∃ t,xs.foldl bW out=out ++ t
  | [],out=>⟨[],by simp⟩
  | x :: r, out => by
    obtain ⟨t,h⟩:=D5 out x
    obtain ⟨u,h2⟩:=Dp r (out ++ t)
    exact ⟨t ++ u,by rw [List.foldl_cons,h,h2,List.append_assoc]⟩
theorem JH {m:Str} {xs:List Ty.Item} {out:List Str} (h:m ∈ out):m ∈ xs.foldl bW out:=by
  obtain ⟨t,e⟩:=Dp xs out
  rw [e];exact List.mem_append_left _ h
theorem DK {m:Str} {x:Ty.Item} (hl:lH x=true) (hm:m ∈ x.names):∀ {xs:List Ty.Item} {out:List Str},x ∈ xs → m ∈ xs.foldl bW out
  | [],_,h=>by simp at h
  | y :: r, out, h => by
    rw [List.foldl_cons]
    rcases List.mem_cons.1 h with rfl | h
    · refine JH ?_
      unfold bW
      rw [if_pos hl,Ao];exact .inr hm
    · exact DK hl hm h
def l6 (w:Int) (x:Ty.Item):Bool:=decide (x.min ≤ w) && (decide (x.max < 0) || decide (w ≤ x.max))
def fI (x:Ty.Item):Bool:=decide (¬ x.kind=2) && decide (¬ x.kind=3)
def jQ (w layer:Int) (x:Ty.Item):List Placed:=if l6 w x=true then (x.l.filter fI).map fun y=>⟨y,layer⟩ else []
def bJ (w layer:Int) (x:Ty.Item):List Placed:=if x.kind=2 then jQ w layer x else if x.kind=3 then [] else [⟨x,layer⟩]
def lW (l:List Str) (s:Str):Nat:=l.findIdx fun x=>x == s
def nameOf (x:Ty.Item):Str:=x.names.headD []
def fG (w:Int) (names:List Str) (x:Ty.Item):List Placed:=
  if x.kind=3 then (if x.names.length=1 then x.l.flatMap (bJ w (lW names (nameOf x):Nat)) else []) else bJ w (names.length:Nat) x
def dG (w:Int) (sheets:List (List Ty.Item)):List Placed:=sheets.flatten.flatMap (fG w (bQ sheets))
def cK (p:Placed):Option Rule:=if p.item.kind=1 then some ⟨p.item.bB,p.item.decls,p.layer⟩ else none
def fu (w:Int) (sheets:List (List Ty.Item)):List Rule:=(dG w sheets).filterMap cK
theorem Fw {x:Ty.Item} (h:x.names.length=1):nameOf x ∈ x.names:=by
  unfold nameOf
  cases hn:x.names with
  | nil=>rw [hn] at h;simp at h
  | cons a r=>simp
theorem Ac {xs:List Ty.Item} {out:List Str} {x:Ty.Item} (hx:x ∈ xs) (h3:x.kind=3) (h1:x.names.length=1):nameOf x ∈ xs.foldl bW out:=
  DK (x:=x) (by simp [lH,h3,h1]) (Fw h1) hx
end W15
/- Plain: what was found, and what wins. -/
namespace W15
open Go Go.AX Go.AX.Ty
def LV (w v:W3):Bool:=decide (v.a < w.a ∨ (v.a=w.a ∧ (v.b < w.b ∨ (v.b=w.b ∧ v.c < w.c))))
def jZ (a b:Ty.Found):Bool:=
  if a.decl.important=b.decl.important then
    (if a.layer=b.layer then (if a.weight=b.weight then decide (b.pos < a.pos) else LV a.weight b.weight)
     else (if a.decl.important=true then decide (a.layer < b.layer) else decide (b.layer < a.layer)))
  else a.decl.important
theorem rM (w v:W3):LV w v=true ↔ (v.a < w.a ∨ (v.a=w.a ∧ (v.b < w.b ∨ (v.b=w.b ∧ v.c < w.c)))):=by unfold LV;exact decide_eq_true_iff
theorem Ve {w v:W3}:w=v ↔ w.a=v.a ∧ w.b=v.b ∧ w.c=v.c:=by
  constructor
  · rintro rfl;exact ⟨rfl,rfl,rfl⟩
  · cases w;cases v;rintro ⟨rfl,rfl,rfl⟩;rfl
theorem QM (w v:W3):w=v ∨ LV w v=true ∨ LV v w=true:=by
  rw [Ve,rM,rM];omega
theorem Dk {w v:W3} (h:LV w v=true):LV v w=false:=by
  rw [← Bool.not_eq_true,rM];rw [rM] at h;omega
theorem PU (w:W3):LV w w=false:=by
  rw [← Bool.not_eq_true,rM];omega
def lK (name:Str) (top:Option Ty.Found) (x:Ty.Found):Option Ty.Found:=
  if x.decl.name=name then (match top with
    | none=>some x
    | some t=>if jZ x t=true then some x else top) else top
def l8 (l:List Ty.Found) (name:Str):Option Ty.Found:=l.foldl (lK name) none
structure Best (name:Str) (l:List Ty.Found) (w:Ty.Found):Prop where
  mem:w ∈ l
  named:w.decl.name=name
  top:∀ x ∈ l,x.decl.name=name → jZ x w=false
def iK:Nat → List Ty.Found → List Ty.Found
  | _,[]=>[]
  | k,x :: r=>⟨x.decl,x.layer,x.weight,(k:Int)⟩ :: iK (k + 1) r
theorem kH:∀ (k:Nat) (l:List Ty.Found),(iK k l).length=l.length
  | _,[]=>rfl
  | k,x :: r=>by simp only [iK,List.length_cons,kH]
theorem Ep:∀ (k:Nat) (l r:List Ty.Found),iK k (l ++ r)=iK k l ++ iK (k + l.length) r
  | k,[],r=>by simp [iK]
  | k, x :: l, r => by
    simp only [List.cons_append,iK,Ep (k + 1) l r,List.length_cons]
    rw [show k + 1 + l.length=k + (l.length + 1) by omega]
end W15
