/- Searches in lists: the library's and the document's. -/
import Derived.Test.YtoilbphgflgbeaaGreatFx
set_option linter.unusedSimpArgs false
set_option linter.unusedVariables false
namespace W15
open Go Go.AX Go.AX.Ty Go.Proofs
def idxOf {α:Type} (p:α → Bool) (l:List α):Int:=match l.findIdx? p with
  | some i=>i
  | none=>-1
def Pre {α:Type} (p:α → Bool) (l:List α) (k:Nat):Prop:=∀ y ∈ l.take k,p y=false
theorem Pre.zero {α:Type} (p:α → Bool) (l:List α):Pre p l 0:=by simp [Pre]
theorem Pre.next {α:Type} {p:α → Bool} {l:List α} {k:Nat} {x:α} (hb:Pre p l k) (hx:l[k]? = some x) (hp:p x=false):Pre p l (k + 1):=by
  intro y hy
  rw [List.take_add_one,hx] at hy
  simp only [Option.toList_some,List.mem_append,List.mem_singleton] at hy
  rcases hy with h | h
  · exact hb y h
  · rw [h];exact hp
theorem Pre.all {α:Type} {p:α → Bool} {l:List α} {k:Nat} (hb:Pre p l k) (hk:k ≥ l.length):∀ y ∈ l,p y=false:=by
  unfold Pre at hb;rwa [List.take_of_length_le hk] at hb
theorem iw {α:Type} {p:α → Bool} {l:List α} {k:Nat} {x:α} (hx:l[k]? = some x) (hp:p x=true) (hb:Pre p l k):idxOf p l=k:=by
  have:l.findIdx? p=some k:=by
    rw [List.findIdx?_eq_some_iff_getElem]
    have hk:k < l.length:=by
      rcases Nat.lt_or_ge k l.length with h | h
      · exact h
      · rw [List.getElem?_eq_none h] at hx;simp at hx
    have hg:l[k]=x:=by rw [List.getElem?_eq_getElem hk] at hx;simpa using hx
    refine ⟨hk,by rw [hg];exact hp,fun j hj=>?_⟩
    have:l[j] ∈ l.take k:=by
      rw [List.mem_take_iff_getElem]
      exact ⟨j,by omega,rfl⟩
    simp [hb _ this]
  simp [idxOf,this]
theorem gX {α:Type} {p:α → Bool} {l:List α} (hb:∀ y ∈ l,p y=false):idxOf p l = -1:=by
  have:l.findIdx? p=none:=List.findIdx?_eq_none_iff.2 hb
  simp [idxOf,this]
theorem oW {α:Type} {p:α → Bool} {l:List α}:decide (idxOf p l ≥ 0)=l.any p:=by
  unfold idxOf
  cases h:l.findIdx? p with
  | none =>
    have:=List.findIdx?_eq_none_iff.1 h
    have h2:l.any p=false:=by rw [List.any_eq_false];intro x hx;simp [this x hx]
    rw [h2];rfl
  | some i =>
    obtain ⟨hi,hp,_⟩:=List.findIdx?_eq_some_iff_getElem.1 h
    have h2:l.any p=true:=List.any_eq_true.2 ⟨l[i],List.getElem_mem hi,hp⟩
    rw [h2];simp
theorem eT {α:Type} (p:α → Bool) (l:List α):(idxOf p l = -1 ∧ ∀ y ∈ l,p y=false) ∨ ∃ i x,idxOf p l=(i:Nat) ∧ i < l.length ∧ l[i]? = some x ∧ p x=true ∧ Pre p l i:=by
  cases h:l.findIdx? p with
  | none =>
    have:=List.findIdx?_eq_none_iff.1 h
    exact .inl ⟨gX this,this⟩
  | some i =>
    obtain ⟨hi,hp,hq⟩:=List.findIdx?_eq_some_iff_getElem.1 h
    refine .inr ⟨i,l[i],by simp [idxOf,h],hi,by simp [hi],hp,fun y hy=>?_⟩
    obtain ⟨j,hj,rfl⟩:=List.mem_take_iff_getElem.1 hy
    have:=hq j (by omega)
    simpa using this
theorem iY {α:Type} {p:α → Bool} {l:List α} {x:α} (hm:x ∈ l) (hp:p x=true):l.any p=true:=List.any_eq_true.2 ⟨x,hm,hp⟩
theorem oN {α:Type} {p:α → Bool} {l:List α} (hb:∀ y ∈ l,p y=false):l.any p=false:=by
  rw [List.any_eq_false];intro x hx;simp [hb x hx]
theorem uP (v:Str) (l:List Str) (hl:l.length ≤ 140737488355328):aK Tryz.prog 69 [Enc.av l,Enc.av v] (.int .i64 (idxOf (fun x=>v == x) l)):=by
  refine aH mix c69 (by kernel_rfl) (by kernel_rfl) (by simp [ay,ak,Go.AX.flat]) (by first | exact ak _ | simp [flat,ay,ak]) ?_
  simp -implicitDefEqProofs only [F69,go_sem,seval]
  refine aF (fun k:Nat=>l.length - k) (fun k=>[(0,Enc.av l),(1,Enc.av v),(7,.int .i64 l.length),(8,.int .i64 k)]) (fun k s=>k ≤ l.length ∧ Pre (fun x=>v == x) l k) 0 ?_ ?_
  · simp -implicitDefEqProofs only [go_sem,seval]
    exact Pre.zero _ _
  rintro k ρ s ⟨h1,h2⟩
  rcases Nat.lt_or_ge k l.length with hk | hk
  · obtain ⟨x,hx,hd,hm⟩:=aG hk
    have hlt:((k:Int) < (l.length:Int))=True:=eq_true (by omega)
    have w1:IntKind.i64.wrap ((k:Int) + 1)=((k + 1:Nat):Int):=by rw [wrap64 (by omega) (by omega)];omega
    simp -implicitDefEqProofs only [hlt,hx,w1,go_sem,seval]
    (refine bC (fun h hT=>?_) (fun h hT=>?_) <;> try simp -implicitDefEqProofs only [hT,w1,go_sem,seval] <;> try clear hT)
    · rw [iw hx (by simpa using h) h2]
    · exact ⟨k + 1,by omega,rfl,by omega,h2.next hx (by simpa using h)⟩
  · have hlt:((k:Int) < (l.length:Int))=False:=eq_false (by omega)
    simp -implicitDefEqProofs only [hlt,go_sem,seval]
    rw [gX (h2.all hk)]
theorem ou (v:Int) (l:List Int) (hl:l.length ≤ 140737488355328):aK Tryz.prog 120 [Enc.av l,Enc.av v] (.int .i64 (idxOf (fun x=>v == x) l)):=by
  refine aH mix c120 (by kernel_rfl) (by kernel_rfl) (by simp [ay,ak,Go.AX.flat]) (by first | exact ak _ | simp [flat,ay,ak]) ?_
  simp -implicitDefEqProofs only [F120,go_sem,seval]
  refine aF (fun k:Nat=>l.length - k) (fun k=>[(0,Enc.av l),(1,Enc.av v),(7,.int .i64 l.length),(8,.int .i64 k)]) (fun k s=>k ≤ l.length ∧ Pre (fun x=>v == x) l k) 0 ?_ ?_
  · simp -implicitDefEqProofs only [go_sem,seval]
    exact Pre.zero _ _
  rintro k ρ s ⟨h1,h2⟩
  rcases Nat.lt_or_ge k l.length with hk | hk
  · obtain ⟨x,hx,hd,hm⟩:=aG hk
    have hlt:((k:Int) < (l.length:Int))=True:=eq_true (by omega)
    have w1:IntKind.i64.wrap ((k:Int) + 1)=((k + 1:Nat):Int):=by rw [wrap64 (by omega) (by omega)];omega
    simp -implicitDefEqProofs only [hlt,hx,w1,go_sem,seval]
    (refine bC (fun h hT=>?_) (fun h hT=>?_) <;> try simp -implicitDefEqProofs only [hT,w1,go_sem,seval] <;> try clear hT)
    · rw [iw hx (by simpa using h) h2]
    · exact ⟨k + 1,by omega,rfl,by omega,h2.next hx (by simpa using h)⟩
  · have hlt:((k:Int) < (l.length:Int))=False:=eq_false (by omega)
    simp -implicitDefEqProofs only [hlt,go_sem,seval]
    rw [gX (h2.all hk)]
theorem UG (v:Str) (l:List Str) (hl:l.length ≤ 140737488355328):aK Tryz.prog 40 [Enc.av l,Enc.av v] (.bool (l.any (fun x=>x == v))):=by
  refine aH mix c40 (by kernel_rfl) (by kernel_rfl) (by simp [ay,ak,Go.AX.flat]) (by first | exact ak _ | simp [flat,ay,ak]) ?_
  simp -implicitDefEqProofs only [F40,go_sem,seval]
  refine aF (fun k:Nat=>l.length - k) (fun k=>[(0,Enc.av l),(1,Enc.av v),(5,.int .i64 k)]) (fun k s=>k ≤ l.length ∧ Pre (fun x=>x == v) l k) 0 ?_ ?_
  · simp -implicitDefEqProofs only [go_sem,seval]
    exact Pre.zero _ _
  rintro k ρ s ⟨h1,h2⟩
  rcases Nat.lt_or_ge k l.length with hk | hk
  · obtain ⟨x,hx,hd,hm⟩:=aG hk
    have hlt:((k:Int) < (l.length:Int))=True:=eq_true (by omega)
    have w1:IntKind.i64.wrap ((k:Int) + 1)=((k + 1:Nat):Int):=by rw [wrap64 (by omega) (by omega)];omega
    simp -implicitDefEqProofs only [hlt,hx,w1,go_sem,seval]
    (refine bC (fun h hT=>?_) (fun h hT=>?_) <;> try simp -implicitDefEqProofs only [hT,w1,go_sem,seval] <;> try clear hT)
    · rw [iY hm (by simpa using h)]
    · exact ⟨k + 1,by omega,rfl,by omega,h2.next hx (by simpa using h)⟩
  · have hlt:((k:Int) < (l.length:Int))=False:=eq_false (by omega)
    simp -implicitDefEqProofs only [hlt,go_sem,seval]
    rw [oN (h2.all hk)]
end W15
/- Nodes, attributes. -/
namespace W15
open Go Go.AX Go.AX.Ty Go.Proofs
abbrev bA:=List Ty.Node
def nodeAt (p:bA) (n:Int):Option Ty.Node:=if 0 ≤ n then p[n.toNat]? else none
def bE (p:bA) (n:Int):Bool:=match nodeAt p n with
  | some x=>decide (x.name ≠ [])
  | none=>false
theorem dQ (p:bA) (k:Nat):nodeAt p (k:Int)=p[k]?:=by simp [nodeAt]
theorem FD {p:bA} {n:Int} (h:¬ 0 ≤ n):nodeAt p n=none:=by simp [nodeAt,h]
theorem fB (p:bA) (n:Int):(nodeAt p n=none ∧ (¬ 0 ≤ n ∨ ¬ n < p.length)) ∨ ∃ k x,n=(k:Nat) ∧ k < p.length ∧ p[k]? = some x ∧ nodeAt p n=some x:=by
  by_cases h:0 ≤ n
  · obtain ⟨k,rfl⟩:=Int.eq_ofNat_of_zero_le h
    rcases Nat.lt_or_ge k p.length with hk | hk
    · exact .inr ⟨k,p[k],rfl,hk,by simp [hk],by rw [dQ];simp [hk]⟩
    · exact .inl ⟨by rw [dQ];simp [hk],.inr (by omega)⟩
  · exact .inl ⟨FD h,.inl h⟩
theorem kr (p:bA) (n:Int):aK Tryz.prog 122 [Enc.av p,Enc.av n] (.bool (bE p n)):=by
  refine aH mix c122 (by kernel_rfl) (by kernel_rfl) (by simp [ay,ak,Go.AX.flat]) (by first | exact ak _ | simp [flat,ay,ak]) ?_
  rcases fB p n with ⟨e,h⟩ | ⟨k,x,rfl,hk,hx,e⟩
  · have e2:bE p n=false:=by simp [bE,e]
    rw [e2]
    simp -implicitDefEqProofs only [F122,go_sem,seval]
    repeat' (refine bC (fun h hT=>?_) (fun h hT=>?_) <;> try simp -implicitDefEqProofs only [hT,go_sem,seval] <;> try clear hT)
    all_goals (first | omega | (exfalso;omega))
  · have hlt:((k:Int) < (p.length:Int))=True:=eq_true (by omega)
    have hge:((k:Int) ≥ 0)=True:=eq_true (by omega)
    have e2:bE p k=decide (x.name ≠ []):=by simp [bE,e]
    rw [e2]
    simp -implicitDefEqProofs only [F122,hlt,hge,hx,go_sem,seval]
    by_cases h:x.name=[] <;> simp [h]
theorem nD (p:bA) (n:Int):aK Tryz.prog 126 [Enc.av p,Enc.av n] (.bool (bE p n)):=by
  refine aH mix c126 (by kernel_rfl) (by kernel_rfl) (by simp [ay,ak,Go.AX.flat]) (by first | exact ak _ | simp [flat,ay,ak]) ?_
  rcases fB p n with ⟨e,h⟩ | ⟨k,x,rfl,hk,hx,e⟩
  · have e2:bE p n=false:=by simp [bE,e]
    rw [e2]
    simp -implicitDefEqProofs only [F126,go_sem,seval]
    repeat' (refine bC (fun h hT=>?_) (fun h hT=>?_) <;> try simp -implicitDefEqProofs only [hT,go_sem,seval] <;> try clear hT)
    all_goals (first | omega | (exfalso;omega))
  · have hlt:((k:Int) < (p.length:Int))=True:=eq_true (by omega)
    have hge:((k:Int) ≥ 0)=True:=eq_true (by omega)
    have e2:bE p k=decide (x.name ≠ []):=by simp [bE,e]
    rw [e2]
    simp -implicitDefEqProofs only [F126,hlt,hge,hx,go_sem,seval]
    by_cases h:x.name=[] <;> simp [h]
end W15
/- Attributes, classes. -/
namespace W15
open Go Go.AX Go.AX.Ty Go.Proofs
theorem P8 (a:Attr) (v:Str):aK Tryz.prog 210 [Enc.av a,.vp [.str v]] (.bool (a.name == v)):=by
  refine aH mix c210 (by kernel_rfl) (by kernel_rfl) (by simp [ay,ak,Go.AX.flat]) (by first | exact ak _ | simp [flat,ay,ak]) ?_
  simp -implicitDefEqProofs only [F210,go_sem,seval]
theorem C9 (g:Nat) (cs:List AV) (p:Attr → Bool) (hcs:ay cs=true) (l:List Attr) (hp:∀ x ∈ l,aK Tryz.prog g [Enc.av x,.vp cs] (.bool (p x))) (hl:l.length ≤ 140737488355328) :
    aK Tryz.prog 209 [Enc.av l,.fn (.func g) [] [.vp cs]] (.int .i64 (idxOf p l)):=by
  refine aH mix c209 (by kernel_rfl) (by kernel_rfl) (by simp [ay,ak,Go.AX.flat,hcs]) (by first | exact ak _ | simp [flat,ay,ak]) ?_
  simp -implicitDefEqProofs only [F209,go_sem,seval]
  refine aF (fun k:Nat=>l.length - k) (fun k=>[(0,Enc.av l),(1,.fn (.func g) [] [.vp cs]),(7,.int .i64 l.length),(8,.int .i64 k)]) (fun k s=>k ≤ l.length ∧ Pre p l k) 0 ?_ ?_
  · simp -implicitDefEqProofs only [go_sem,seval]
    exact Pre.zero _ _
  rintro k ρ ⟨hh,mm⟩ ⟨h1,h2⟩
  rcases Nat.lt_or_ge k l.length with hk | hk
  · obtain ⟨x,hx,hd,hm⟩:=aG hk
    have hlt:((k:Int) < (l.length:Int))=True:=eq_true (by omega)
    have w1:IntKind.i64.wrap ((k:Int) + 1)=((k + 1:Nat):Int):=by rw [wrap64 (by omega) (by omega)];omega
    simp -implicitDefEqProofs only [hlt,hx,w1,go_sem,seval]
    refine au (hp x hm) ?_
    simp -implicitDefEqProofs only [go_sem,seval]
    (refine bC (fun h hT=>?_) (fun h hT=>?_) <;> try simp -implicitDefEqProofs only [hT,w1,go_sem,seval] <;> try clear hT)
    · rw [iw hx h h2]
    · exact ⟨k + 1,by omega,rfl,by omega,h2.next hx (by simpa using h)⟩
  · have hlt:((k:Int) < (l.length:Int))=False:=eq_false (by omega)
    simp -implicitDefEqProofs only [hlt,go_sem,seval]
    rw [gX (h2.all hk)]
def dP (p:bA) (n:Int) (v:Str):Str × Bool:=match nodeAt p n with
  | some x => if x.name = [] then ([], false) else match x.attrs.find? (fun a => a.name == v) with
    | some a=>(a.value,true)
    | none=>([],false)
  | none=>([],false)
theorem uD {α:Type} {p:α → Bool} {l:List α} {i:Nat} {x:α} (hx:l[i]? = some x) (hp:p x=true) (hb:Pre p l i):l.find? p=some x:=by
  rw [List.find?_eq_some_iff_append]
  have hi:i < l.length:=by
    rcases Nat.lt_or_ge i l.length with h | h
    · exact h
    · rw [List.getElem?_eq_none h] at hx;simp at hx
  have hg:l[i]=x:=by rw [List.getElem?_eq_getElem hi] at hx;simpa using hx
  refine ⟨hp,l.take i,l.drop (i + 1),?_,fun a ha=>by simp [hb a ha]⟩
  rw [← hg,← List.drop_eq_getElem_cons hi,List.take_append_drop]
theorem Ob (p:bA) (hp:Enc.ok p) (n:Int) (v:Str):aK Tryz.prog 195 [Enc.av p,Enc.av n,Enc.av v] (.tup [.str (dP p n v).1,.bool (dP p n v).2]):=by
  refine aH mix c195 (by kernel_rfl) (by kernel_rfl) (by simp [ay,ak,Go.AX.flat]) (by first | exact ak _ | simp [flat,ay,ak]) ?_
  simp -implicitDefEqProofs only [F195,go_sem,seval]
  refine au (kr p n) ?_
  simp -implicitDefEqProofs only [go_sem,seval]
  rcases fB p n with ⟨e,h⟩ | ⟨k,x,rfl,hk,hx,e⟩
  · have e2:bE p n=false:=by simp [bE,e]
    have e3:dP p n v=([],false):=by simp [dP,e]
    rw [e3]
    simp -implicitDefEqProofs only [e2,go_sem,seval]
  · have e2:bE p k=decide (x.name ≠ []):=by simp [bE,e]
    by_cases hn:x.name=[]
    · have e3:dP p k v=([],false):=by simp [dP,e,hn]
      have e4:bE p k=false:=by rw [e2];simp [hn]
      rw [e3]
      simp -implicitDefEqProofs only [e4,go_sem,seval]
    · have e4:bE p k=true:=by rw [e2];simp [hn]
      have hok:=(Node.bH x).1 (hp.2 x (List.mem_of_getElem? hx))
      simp -implicitDefEqProofs only [e4,hx,go_sem,seval]
      refine vG (C9 210 [.str v] (fun a=>a.name == v) rfl x.attrs (fun a _=>P8 a v) hok.2.1.1) ?_
      simp -implicitDefEqProofs only [go_sem,seval]
      rcases eT (fun a:Attr=>a.name == v) x.attrs with ⟨i1,i2⟩ | ⟨i,y,i1,i2,i3,i4,i5⟩
      · have e3:dP p k v=([],false):=by
          simp only [dP,e,if_neg hn]
          rw [List.find?_eq_none.2 (fun a ha=>by simp [i2 a ha])]
        rw [e3,i1]
        simp -implicitDefEqProofs only [go_sem,seval]
      · have e3:dP p k v=(y.value,true):=by
          simp only [dP,e,if_neg hn]
          rw [uD i3 i4 i5]
        have hge:((i:Int) < 0)=False:=eq_false (by omega)
        rw [e3,i1]
        simp -implicitDefEqProofs only [hx,i3,hge,go_sem,seval]
end W15
/- Attributes, states: the document's; what is in a list. -/
namespace W15
open Go Go.AX Go.AX.Ty Go.Proofs
theorem kY (l:List Str) (v:Str) (hl:l.length ≤ 140737488355328):aK Tryz.prog 39 [Enc.av l,Enc.av v] (.bool (l.any fun x=>v == x)):=by
  refine aH mix c39 (by kernel_rfl) (by kernel_rfl) (by simp [ay,ak,Go.AX.flat]) (by first | exact ak _ | simp [flat,ay,ak]) ?_
  simp -implicitDefEqProofs only [F39,go_sem,seval]
  refine au (uP v l hl) ?_
  simp -implicitDefEqProofs only [go_sem,seval]
  rw [oW]
theorem vD (p:bA) (hp:Enc.ok p) (n:Int) (v:Str):aK Tryz.prog 162 [Enc.av p,Enc.av n,Enc.av v] (.tup [.str (dP p n v).1,.bool (dP p n v).2]):=by
  refine aH mix c162 (by kernel_rfl) (by kernel_rfl) (by simp [ay,ak,Go.AX.flat]) (by first | exact ak _ | simp [flat,ay,ak]) ?_
  simp -implicitDefEqProofs only [F162,go_sem,seval]
  refine au (nD p n) ?_
  simp -implicitDefEqProofs only [go_sem,seval]
  rcases fB p n with ⟨e,h⟩ | ⟨k,x,rfl,hk,hx,e⟩
  · have e2:bE p n=false:=by simp [bE,e]
    have e3:dP p n v=([],false):=by simp [dP,e]
    rw [e3]
    simp -implicitDefEqProofs only [e2,go_sem,seval]
  · have e2:bE p k=decide (x.name ≠ []):=by simp [bE,e]
    by_cases hn:x.name=[]
    · have e3:dP p k v=([],false):=by simp [dP,e,hn]
      have e4:bE p k=false:=by rw [e2];simp [hn]
      rw [e3]
      simp -implicitDefEqProofs only [e4,go_sem,seval]
    · have e4:bE p k=true:=by rw [e2];simp [hn]
      have hok:=(Node.bH x).1 (hp.2 x (List.mem_of_getElem? hx))
      have hl:=hok.2.1.1
      simp -implicitDefEqProofs only [e4,hx,go_sem,seval]
      refine aF (fun j:Nat=>x.attrs.length - j) (fun j=>[(2,Enc.av v),(8,Enc.av x.attrs),(9,.int .i64 j)]) (fun j s=>j ≤ x.attrs.length ∧ Pre (fun a:Attr=>a.name == v) x.attrs j) 0 ?_ ?_
      · simp -implicitDefEqProofs only [go_sem,seval]
        exact Pre.zero _ _
      rintro j ρ ⟨hh,mm⟩ ⟨h1,h2⟩
      rcases Nat.lt_or_ge j x.attrs.length with hj | hj
      · obtain ⟨y,hy,hd,hm⟩:=aG hj
        have hlt:((j:Int) < (x.attrs.length:Int))=True:=eq_true (by omega)
        have w1:IntKind.i64.wrap ((j:Int) + 1)=((j + 1:Nat):Int):=by rw [wrap64 (by omega) (by omega)];omega
        simp -implicitDefEqProofs only [hlt,hy,w1,go_sem,seval]
        (refine bC (fun h hT=>?_) (fun h hT=>?_) <;> try simp -implicitDefEqProofs only [hT,w1,hy,go_sem,seval] <;> try clear hT)
        · have e3:dP p k v=(y.value,true):=by
            simp only [dP,e,if_neg hn]
            rw [uD hy (by simpa using h) h2]
          rw [e3]
        · exact ⟨j + 1,by omega,rfl,by omega,h2.next hy (by simpa using h)⟩
      · have hlt:((j:Int) < (x.attrs.length:Int))=False:=eq_false (by omega)
        have e3:dP p k v=([],false):=by
          simp only [dP,e,if_neg hn]
          rw [List.find?_eq_none.2 (fun a ha=>by simp [h2.all hj a ha])]
        rw [e3]
        simp -implicitDefEqProofs only [hlt,go_sem,seval]
theorem Rv (n:Int) (v:Str) (l:List Ty.State) (hl:l.length ≤ 140737488355328):aK Tryz.prog 164 [Enc.av l,Enc.av n,Enc.av v] (.bool (l.any (fun x=>x.node == n && x.name == v))):=by
  refine aH mix c164 (by kernel_rfl) (by kernel_rfl) (by simp [ay,ak,Go.AX.flat]) (by first | exact ak _ | simp [flat,ay,ak]) ?_
  simp -implicitDefEqProofs only [F164,go_sem,seval]
  refine aF (fun k:Nat=>l.length - k) (fun k=>[(0,Enc.av l),(1,Enc.av n),(2,Enc.av v),(7,.int .i64 k)]) (fun k s=>k ≤ l.length ∧ Pre (fun x=>x.node == n && x.name == v) l k) 0 ?_ ?_
  · simp -implicitDefEqProofs only [go_sem,seval]
    exact Pre.zero _ _
  rintro k ρ s ⟨h1,h2⟩
  rcases Nat.lt_or_ge k l.length with hk | hk
  · obtain ⟨x,hx,hd,hm⟩:=aG hk
    have hlt:((k:Int) < (l.length:Int))=True:=eq_true (by omega)
    have w1:IntKind.i64.wrap ((k:Int) + 1)=((k + 1:Nat):Int):=by rw [wrap64 (by omega) (by omega)];omega
    simp -implicitDefEqProofs only [hlt,hx,w1,go_sem,seval]
    repeat' (refine bC (fun h hT=>?_) (fun h hT=>?_) <;> try simp -implicitDefEqProofs only [hT,w1,hx,go_sem,seval] <;> try clear hT)
    all_goals first
      | (rw [iY hm (by simp_all)];done)
      | exact ⟨k + 1,by omega,rfl,by omega,h2.next hx (by simp_all)⟩
  · have hlt:((k:Int) < (l.length:Int))=False:=eq_false (by omega)
    simp -implicitDefEqProofs only [hlt,go_sem,seval]
    rw [oN (h2.all hk)]
theorem yP (v:Ty.State) (l:List Ty.State) (hl:l.length ≤ 140737488355328):aK Tryz.prog 199 [Enc.av l,Enc.av v] (.int .i64 (idxOf (fun x=>v.node == x.node && v.name == x.name) l)):=by
  refine aH mix c199 (by kernel_rfl) (by kernel_rfl) (by simp [ay,ak,Go.AX.flat]) (by first | exact ak _ | simp [flat,ay,ak]) ?_
  simp -implicitDefEqProofs only [F199,go_sem,seval]
  refine aF (fun k:Nat=>l.length - k) (fun k=>[(0,Enc.av l),(3,.ptr 0 0 0),(7,.int .i64 l.length),(8,.int .i64 k)]) (fun k s=>s=⟨[(0,.cells 0 [.int .i64 v.node,.str v.name] false)],1⟩ ∧ k ≤ l.length ∧ Pre (fun x=>v.node == x.node && v.name == x.name) l k) 0 ?_ ?_
  · simp -implicitDefEqProofs only [go_sem,seval]
    exact Pre.zero _ _
  rintro k ρ s ⟨rfl,h1,h2⟩
  rcases Nat.lt_or_ge k l.length with hk | hk
  · obtain ⟨x,hx,hd,hm⟩:=aG hk
    have hlt:((k:Int) < (l.length:Int))=True:=eq_true (by omega)
    have w1:IntKind.i64.wrap ((k:Int) + 1)=((k + 1:Nat):Int):=by rw [wrap64 (by omega) (by omega)];omega
    simp -implicitDefEqProofs only [hlt,hx,w1,go_sem,seval]
    refine aA (by (first | omega | (simp [aB,aD,aC,Nat.testBit_eq_decide_div_mod_eq];done) | (simp [aB,aD,aC,Nat.testBit_eq_decide_div_mod_eq];omega) | kernel_rfl)) ?_
    simp -implicitDefEqProofs only [go_sem,seval]
    repeat' (refine bC (fun h hT=>?_) (fun h hT=>?_) <;> try simp -implicitDefEqProofs only [hT,w1,go_sem,seval] <;> try clear hT)
    all_goals first
      | (rw [iw hx (by simp_all) h2];done)
      | exact ⟨k + 1,by omega,rfl,by omega,h2.next hx (by simp_all)⟩
      | trace_state
  · have hlt:((k:Int) < (l.length:Int))=False:=eq_false (by omega)
    simp -implicitDefEqProofs only [hlt,go_sem,seval]
    rw [gX (h2.all hk)]
theorem tL (l:List State) (v:State) (hl:l.length ≤ 140737488355328):aK Tryz.prog 177 [Enc.av l,Enc.av v] (.bool (l.any fun x=>v.node == x.node && v.name == x.name)):=by
  refine aH mix c177 (by kernel_rfl) (by kernel_rfl) (by simp [ay,ak,Go.AX.flat]) (by first | exact ak _ | simp [flat,ay,ak]) ?_
  simp -implicitDefEqProofs only [F177,go_sem,seval]
  refine au (yP v l hl) ?_
  simp -implicitDefEqProofs only [go_sem,seval]
  rw [oW]
theorem Ib (p:bA) (st:List State) (hp:Enc.ok p) (n:Int) (v:Str) (l:List Str) (hl:l.length ≤ 140737488355328):aK Tryz.prog 175 [.agg [Enc.av p,Enc.av st],Enc.av n,Enc.av v,Enc.av l] (.bool ((dP p n v).2 && (decide (l.length=0) || l.any fun x=>(dP p n v).1 == x))):=by
  refine aH mix c175 (by kernel_rfl) (by kernel_rfl) (by simp [ay,ak,Go.AX.flat]) (by first | exact ak _ | simp [flat,ay,ak]) ?_
  simp -implicitDefEqProofs only [F175,go_sem,seval]
  refine au (Ob p hp n v) ?_
  simp -implicitDefEqProofs only [go_sem,seval]
  generalize dP p n v=r
  obtain ⟨a,b⟩:=r
  cases b
  · simp -implicitDefEqProofs only [go_sem,seval]
    rfl
  · simp -implicitDefEqProofs only [go_sem,seval]
    by_cases h0:l.length=0
    · have h1:((l.length:Int)=0)=True:=eq_true (by omega)
      simp -implicitDefEqProofs only [h1,h0,go_sem,seval]
      simp
    · have h1:((l.length:Int)=0)=False:=eq_false (by omega)
      simp -implicitDefEqProofs only [h1,go_sem,seval]
      refine au (kY l a hl) ?_
      simp -implicitDefEqProofs only [h1,go_sem,seval]
      simp [h0]
end W15
/- Words of texts: plain laws. -/
namespace W15
open Go Go.AX Go.AX.Ty Go.Proofs
def gJ (c:UInt8):Bool:=c == 32 || c == 9 || c == 10 || c == 12 || c == 13
def dI:Str → Str → List Str
  | [],acc=>if acc=[] then [] else [acc]
  | c :: r,acc=>if gJ c=true then (if acc=[] then dI r [] else acc :: dI r []) else dI r (acc ++ [c])
def kG (s:Str):List Str:=dI s []
theorem uI:∀ (a r acc:Str),(∀ c ∈ a,gJ c=false) → dI (a ++ r) acc=dI r (acc ++ a)
  | [],r,acc,_=>by simp
  | c :: a, r, acc, h => by
    have h1:=h c (by simp)
    show dI (c :: (a ++ r)) acc=_
    rw [dI,if_neg (by simp [h1]),uI a r _ fun x hx=>h x (by simp [hx])]
    simp
theorem J2 (b:UInt8) (l:List UInt8):(b.toNat < 128 ∧ fZ (b :: l)=(b.toNat,1)) ∨ (128 ≤ b.toNat ∧ 128 ≤ (fZ (b :: l)).1 ∧ (fZ (b :: l)).1 ≤ 1114111 ∧ Utf8.valid (fZ (b :: l)).1=true ∧ 1 ≤ (fZ (b :: l)).2 ∧ (fZ (b :: l)).2 ≤ (b :: l).length ∧ ∀ c ∈ (b :: l).take (fZ (b :: l)).2,128 ≤ c.toNat):=by
  have hc:∀ k,(decide (k < (b :: l).length) && ((b :: l).getD k 0).toNat / 64 == 2)=true → k < (b :: l).length ∧ 128 ≤ ((b :: l).getD k 0).toNat:=fun k h=>by
    simp only [Bool.and_eq_true,decide_eq_true_eq,beq_iff_eq] at h
    omega
  have ht:∀ n,n ≤ (b :: l).length → (∀ k,k < n → 128 ≤ ((b :: l).getD k 0).toNat) → ∀ c ∈ (b :: l).take n,128 ≤ c.toNat:=fun n hn h c hc=>by
    obtain ⟨i,hi,rfl⟩:=List.mem_take_iff_getElem.1 hc
    have:=h i (by omega)
    rwa [List.getD_eq_getElem?_getD,List.getElem?_eq_getElem (by omega)] at this
  by_cases h0:b.toNat < 128
  · left;exact ⟨h0,by simp [fZ,h0]⟩
  right
  refine ⟨by omega,?_⟩
  have hb:((b :: l).getD 0 0).toNat=b.toNat:=rfl
  have one:(65533,1)=fZ (b :: l) → 128 ≤ (fZ (b :: l)).1 ∧ (fZ (b :: l)).1 ≤ 1114111 ∧ Utf8.valid (fZ (b :: l)).1=true ∧ 1 ≤ (fZ (b :: l)).2 ∧ (fZ (b :: l)).2 ≤ (b :: l).length ∧ ∀ c ∈ (b :: l).take (fZ (b :: l)).2,128 ≤ c.toNat:=fun e=>by
    rw [← e]
    refine ⟨by decide,by decide,by decide,by decide,by simp,ht 1 (by simp) fun k hk=>?_⟩
    rw [show k=0 by omega,hb];omega
  unfold fZ at one ⊢
  simp only [hb] at one ⊢
  rw [if_neg h0] at one ⊢
  split
  · rename_i h1
    simp only [Bool.and_eq_true] at h1
    obtain ⟨k1,c1⟩:=hc 1 (by simpa using h1.2)
    split
    · rename_i h2
      simp only
      have:=((b :: l).getD 1 0).toNat_lt
      refine ⟨by omega,by omega,?_,by omega,by omega,ht 2 (by omega) fun k hk=>?_⟩
      · simp only [Utf8.valid,Bool.or_eq_true,Bool.and_eq_true,decide_eq_true_eq];omega
      · rcases Nat.lt_or_ge k 1 with h | h
        · rw [show k=0 by omega,hb];omega
        · rw [show k=1 by omega];exact c1
    · rename_i h2
      rw [if_pos (by simp only [Bool.and_eq_true];exact h1),if_neg h2] at one
      exact one rfl
  · rename_i h1
    rw [if_neg h1] at one
    split
    · rename_i h3
      simp only [Bool.and_eq_true] at h3
      obtain ⟨k1,c1⟩:=hc 1 (by simpa using h3.1.2)
      obtain ⟨k2,c2⟩:=hc 2 (by simpa using h3.2)
      split
      · rename_i h2
        simp only [Bool.and_eq_true,decide_eq_true_eq] at h2
        simp only
        refine ⟨by omega,?_,h2.2,by omega,by omega,ht 3 (by omega) fun k hk=>?_⟩
        · omega
        · rcases Nat.lt_or_ge k 1 with h | h
          · rw [show k=0 by omega,hb];omega
          · rcases Nat.lt_or_ge k 2 with h' | h'
            · rw [show k=1 by omega];exact c1
            · rw [show k=2 by omega];exact c2
      · rename_i h2
        rw [if_pos (by simp only [Bool.and_eq_true];exact h3),if_neg h2] at one
        exact one rfl
    · rename_i h3
      rw [if_neg h3] at one
      split
      · rename_i h4
        simp only [Bool.and_eq_true] at h4
        obtain ⟨k1,c1⟩:=hc 1 (by simpa using h4.1.1.2)
        obtain ⟨k2,c2⟩:=hc 2 (by simpa using h4.1.2)
        obtain ⟨k3,c3⟩:=hc 3 (by simpa using h4.2)
        split
        · rename_i h2
          simp only [Bool.and_eq_true,decide_eq_true_eq] at h2
          simp only
          refine ⟨by omega,?_,h2.2,by omega,by omega,ht 4 (by omega) fun k hk=>?_⟩
          · have:=h2.2
            simp only [Utf8.valid,Bool.or_eq_true,Bool.and_eq_true,decide_eq_true_eq] at this
            omega
          · rcases Nat.lt_or_ge k 1 with h | h
            · rw [show k=0 by omega,hb];omega
            · rcases Nat.lt_or_ge k 2 with h' | h'
              · rw [show k=1 by omega];exact c1
              · rcases Nat.lt_or_ge k 3 with h'' | h''
                · rw [show k=2 by omega];exact c2
                · rw [show k=3 by omega];exact c3
        · rename_i h2
          rw [if_pos (by simp only [Bool.and_eq_true];exact h4),if_neg h2] at one
          exact one rfl
      · rename_i h4
        rw [if_neg h4] at one
        exact one rfl
end W15
/- Words of texts: the library's. -/
namespace W15
open Go Go.AX Go.AX.Ty Go.Proofs
theorem qB (n:Nat):128 ≤ (UInt8.ofNat (128 + n % 64)).toNat:=by
  have:n % 64 < 64:=Nat.mod_lt _ (by decide)
  simp [UInt8.toNat_ofNat];omega
theorem J7 (r:Int) (h1:128 ≤ r) (hv:Utf8.valid r=true):(∃ a b,Fz r=[a,b] ∧ 128 ≤ b.toNat) ∨ (∃ a b c,Fz r=[a,b,c] ∧ 128 ≤ c.toNat) ∨ ∃ a b c d,Fz r=[a,b,c,d] ∧ 128 ≤ d.toNat:=by
  unfold Fz Utf8.encode
  rw [if_pos hv]
  simp only
  rw [if_neg (by omega)]
  split
  · exact .inl ⟨_,_,rfl,qB _⟩
  · split
    · exact .inr (.inl ⟨_,_,_,rfl,qB _⟩)
    · exact .inr (.inr ⟨_,_,_,_,rfl,qB _⟩)
abbrev blanks:Str:=[32,10,9,12,13]
theorem Dh:∀ (l:Str) (c:UInt8) (i:Nat),(∀ x ∈ l,x.toNat < 128) → 128 ≤ c.toNat → qz c l i = -1
  | [],c,i,_,_=>rfl
  | x :: r, c, i, h, hc => by
    have:=h x (by simp)
    rw [qz,if_neg (by intro e;subst e;omega)]
    exact Dh r c _ (fun y hy=>h y (by simp [hy])) hc
theorem BX (l:Str) (n:Int):aK Tryz.prog 223 [.str l,.int .u8 n] (.int .i64 (qz (UInt8.ofNat n.toNat) l 0)):=by
  refine aH mix c223 (by kernel_rfl) (by kernel_rfl) (by simp [ay,ak,Go.AX.flat]) (by first | exact ak _ | simp [flat,ay,ak]) ?_
  simp -implicitDefEqProofs only [F223,go_sem,seval]
theorem tY (l:Str) (n:Int):aK Tryz.prog 217 [.str l,.int .u8 n] (.int .i64 (qz (UInt8.ofNat n.toNat) l 0)):=by
  refine aH mix c217 (by kernel_rfl) (by kernel_rfl) (by simp [ay,ak,Go.AX.flat]) (by first | exact ak _ | simp [flat,ay,ak]) ?_
  simp -implicitDefEqProofs only [F217,go_sem,seval]
  refine au (BX l n) ?_
  simp -implicitDefEqProofs only [go_sem,seval]
theorem DN (r:Int) (hv:Utf8.valid r=true):aK Tryz.prog 218 [.int .i32 r] (.bool true):=by
  simp only [Utf8.valid,Bool.or_eq_true,Bool.and_eq_true,decide_eq_true_eq] at hv
  refine aH mix c218 (by kernel_rfl) (by kernel_rfl) (by simp [ay,ak,Go.AX.flat]) (by first | exact ak _ | simp [flat,ay,ak]) ?_
  simp -implicitDefEqProofs only [F218,go_sem,seval]
  repeat' (refine bC (fun h hT=>?_) (fun h hT=>?_) <;> try simp -implicitDefEqProofs only [hT,go_sem,seval] <;> try clear hT)
  all_goals omega
theorem DR (r:Int) (h0:0 ≤ r) (hv:Utf8.valid r=true):aK Tryz.prog 211 [.str blanks,.int .i32 r] (.int .i64 (if r < 128 then qz (UInt8.ofNat r.toNat) blanks 0 else -1)):=by
  refine aH mix c211 (by kernel_rfl) (by kernel_rfl) (by simp [ay,ak,Go.AX.flat]) (by first | exact ak _ | simp [flat,ay,ak]) ?_
  have g0:(0 ≤ r)=True:=eq_true h0
  by_cases h1:r < 128
  · have g1:(r < 128)=True:=eq_true h1
    have g2:IntKind.u8.wrap r=r:=by simp [IntKind.wrap,IntKind.bits,IntKind.signed];omega
    simp -implicitDefEqProofs only [F211,g0,g1,g2,go_sem,seval]
    refine au (tY blanks r) ?_
    simp -implicitDefEqProofs only [go_sem,seval]
  have g1:(r < 128)=False:=eq_false h1
  rw [if_neg h1]
  by_cases h2:r=65533
  · have g2:(r=65533)=True:=eq_true h2
    simp -implicitDefEqProofs only [F211,g0,g1,g2,go_sem,seval]
    rw [kC]
    refine ⟨6,?_⟩
    have d1:fZ [32,10,9,12,13]=(32,1):=rfl
    have d2:fZ [10,9,12,13]=(10,1):=rfl
    have d3:fZ [9,12,13]=(9,1):=rfl
    have d4:fZ [12,13]=(12,1):=rfl
    have d5:fZ [13]=(13,1):=rfl
    simp -implicitDefEqProofs only [d1,d2,d3,d4,d5,go_sem,seval]
  have g2:(r=65533)=False:=eq_false h2
  simp -implicitDefEqProofs only [F211,g0,g1,g2,go_sem,seval]
  refine au (DN r hv) ?_
  simp -implicitDefEqProofs only [go_sem,seval]
  have hI:∀ (l:Str) (c:UInt8),(∀ x ∈ l,x.toNat < 128) → 128 ≤ c.toNat → aK Tryz.prog 217 [.str l,.int .u8 (c.toNat:Int)] (.int .i64 (-1)):=fun l c h1 h2=>
    (tY l c.toNat).at (by rw [Int.toNat_natCast,UInt8.ofNat_toNat,Dh l c 0 h1 h2])
  rcases J7 r (by omega) hv with ⟨a,b,e,hb⟩ | ⟨a,b,c,e,hb⟩ | ⟨a,b,c,d,e,hb⟩
  all_goals
    simp -implicitDefEqProofs only [e,go_sem,seval]
    rw [kC]
    refine ⟨1,?_⟩
    simp -implicitDefEqProofs only [go_sem,seval]
    refine aA (by kernel_rfl) ?_
    simp -implicitDefEqProofs only [go_sem,seval]
    refine bC (fun h hT=>?_) (fun h hT=>?_)
    · exfalso;(try simp at h);omega
    · simp -implicitDefEqProofs only [hT,go_sem,seval]
      refine aJ (hI _ _ (by decide) hb) ?_
      simp -implicitDefEqProofs only [go_sem,seval]
      refine aA (by kernel_rfl) ?_
      simp -implicitDefEqProofs only [go_sem,seval]
end W15
/- Words of texts: the document's; what is a blank. -/
namespace W15
open Go Go.AX Go.AX.Ty Go.Proofs
def gN (r:Int):Bool:=decide (r < 128) && gJ (UInt8.ofNat r.toNat)
theorem He (c:UInt8):decide (qz c blanks 0 ≥ 0)=gJ c:=by
  simp only [qz,gJ]
  by_cases h1:c=32
  · subst h1;rfl
  by_cases h2:c=10
  · subst h2;rfl
  by_cases h3:c=9
  · subst h3;rfl
  by_cases h4:c=12
  · subst h4;rfl
  by_cases h5:c=13
  · subst h5;rfl
  simp [h1,h2,h3,h4,h5,Ne.symm h1,Ne.symm h2,Ne.symm h3,Ne.symm h4,Ne.symm h5]
theorem xA (r:Int) (h0:0 ≤ r) (hv:Utf8.valid r=true):aK Tryz.prog 198 [.str blanks,.int .i32 r] (.bool (gN r)):=by
  refine aH mix c198 (by kernel_rfl) (by kernel_rfl) (by simp [ay,ak,Go.AX.flat]) (by first | exact ak _ | simp [flat,ay,ak]) ?_
  simp -implicitDefEqProofs only [F198,go_sem,seval]
  refine au (DR r h0 hv) ?_
  simp -implicitDefEqProofs only [go_sem,seval]
  unfold gN
  by_cases h:r < 128
  · rw [if_pos h,He];simp [h]
  · rw [if_neg h];simp [h]
theorem GJ (r:Int) (h0:0 ≤ r) (hv:Utf8.valid r=true):aK Tryz.prog 197 [.int .i32 r] (.bool (gN r)):=by
  refine aH mix c197 (by kernel_rfl) (by kernel_rfl) (by simp [ay,ak,Go.AX.flat]) (by first | exact ak _ | simp [flat,ay,ak]) ?_
  simp -implicitDefEqProofs only [F197,go_sem,seval]
  refine au (xA r h0 hv) ?_
  simp -implicitDefEqProofs only [go_sem,seval]
theorem wO (c:UInt8):gJ c=(decide ((c.toNat:Int)=32) || (decide ((c.toNat:Int)=9) || (decide ((c.toNat:Int)=10) || (decide ((c.toNat:Int)=12) || decide ((c.toNat:Int)=13))))):=by
  have e:∀ k:UInt8,(c == k)=decide ((c.toNat:Int)=(k.toNat:Int)):=fun k=>by
    rw [Bool.eq_iff_iff,beq_iff_eq,decide_eq_true_eq];constructor
    · intro h;rw [h]
    · intro h;exact UInt8.toNat_inj.1 (by omega)
  simp only [gJ,e,Bool.or_assoc];rfl
theorem QI (c:UInt8):aK Tryz.prog 119 [.int .u8 c.toNat] (.bool (gJ c)):=by
  refine aH mix c119 (by kernel_rfl) (by kernel_rfl) (by simp [ay,ak,Go.AX.flat]) (by first | exact ak _ | simp [flat,ay,ak]) ?_
  rw [wO]
  generalize (c.toNat:Int)=n
  simp -implicitDefEqProofs only [F119,go_sem,seval]
  by_cases h1:n=32 <;> by_cases h2:n=9 <;> by_cases h3:n=10 <;> by_cases h4:n=12 <;> by_cases h5:n=13
  all_goals (try simp -implicitDefEqProofs only [h1,h2,h3,h4,h5,go_sem,seval])
  all_goals (first | rfl | simp_all)
theorem QX (s:Str) (hl:s.length ≤ 1000000):aK Tryz.prog 184 [Enc.av s] (Enc.av (kG s)):=by
  refine aH mix c184 (by kernel_rfl) (by kernel_rfl) (by simp [ay,ak,Go.AX.flat]) (by first | exact ak _ | simp [flat,ay,ak]) ?_
  simp -implicitDefEqProofs only [F184,go_sem,seval]
  refine aF (fun p:List Str × Nat × Nat=>s.length + 1 - p.2.2) (fun p=>[(0,Enc.av s),(3,.sl 0 p.1.length 0 p.1.length 1),(4,.int .i64 p.2.1),(5,.int .i64 p.2.2)])
    (fun p st=>p.2.2 ≤ s.length + 1 ∧ p.2.1 ≤ p.2.2 ∧ 1 ≤ st.next ∧ AX.look 0 st.heap=some (.cells p.1.length (aj p.1) false) ∧ p.1.length ≤ p.2.2 ∧
      (p.2.2 ≤ s.length → p.1 ++ dI (s.drop p.2.2) ((s.take p.2.2).drop p.2.1)=kG s) ∧ (p.2.2=s.length + 1 → p.1=kG s)) ([],0,0) ?_ ?_
  · simp -implicitDefEqProofs only [aj,go_sem,seval]
    simp [kG]
  rintro ⟨out,a,i⟩ ρ ⟨g,m⟩ ⟨h1,h2,h3,h4,h5,h6,h7⟩
  dsimp only at h1 h2 h3 h4 h5 h6 h7
  have m0:(m=0)=False:=eq_false (by omega)
  have hc:(aj out).length=out.length:=by rw [aT];simp [Enc.sz]
  have ht:List.take out.length (aj out)=aj out:=List.take_of_length_le (by omega)
  have w1:IntKind.i64.wrap ((i:Int) + 1)=((i + 1:Nat):Int):=by rw [wrap64 (by omega) (by omega)];omega
  rcases Nat.lt_or_ge s.length i with hi | hi
  · have hle:((i:Int) ≤ (s.length:Int))=False:=eq_false (by omega)
    have:=h7 (by omega)
    subst this
    simp -implicitDefEqProofs only [hle,h4,hc,ht,go_sem,seval]
    rw [jv _ h4 (by omega),Nat.mul_one,ht]
  have hle:((i:Int) ≤ (s.length:Int))=True:=eq_true (by omega)
  rcases Nat.lt_or_ge i s.length with hk | hk
  · obtain ⟨c,hx,hd,hm⟩:=aG hk
    have hne:((i:Int)=(s.length:Int))=False:=eq_false (by omega)
    simp -implicitDefEqProofs only [hle,hne,hx,go_sem,seval]
    refine au (QI c) ?_
    simp -implicitDefEqProofs only [hne,go_sem,seval]
    have w2:IntKind.i64.wrap ((i:Int) + 1)=((i + 1:Nat):Int):=w1
    have hbd:((out.length + 1) * 16 ≤ 140737488355328)=True:=eq_true (by omega)
    have hmx:(out.length ≤ out.length)=True:=eq_true (by omega)
    have hai:(a ≤ i)=True:=eq_true h2
    have his:(i ≤ s.length)=True:=eq_true (by omega)
    have hsn:∀ x:Str,aj (out ++ [x])=aj out ++ [.str x]:=fun x=>by rw [aW];rfl
    have hacc:(s.take (i + 1)).drop a=(s.take i).drop a ++ [c]:=by
      rw [List.take_add_one,hx]
      simp only [Option.toList_some]
      rw [List.drop_append_of_le_length (by rw [List.length_take];omega)]
    refine bC (fun h hT=>?_) (fun h hT=>?_)
    · simp -implicitDefEqProofs only [hT,hne,go_sem,seval]
      refine bC (fun h' hT'=>?_) (fun h' hT'=>?_)
      · simp -implicitDefEqProofs only [hT',hai,his,h4,hc,ht,hbd,hmx,m0,w1,go_sem,seval]
        refine ⟨(out ++ [(s.drop a).take (i - a)],i + 1,i + 1),by simp only;omega,?_⟩
        have e:(s.drop a).take (i - a)=(s.take i).drop a:=by rw [List.drop_take]
        simp only [List.length_append,List.length_cons,List.length_nil,hsn,Nat.zero_add,Nat.le_refl,and_true,true_and,eq_self]
        refine ⟨by omega,by omega,fun _=>?_,fun _=>by omega⟩
        have h8:=h6 (by omega)
        rw [hd,dI,if_pos h,if_neg (by rw [← List.length_eq_zero_iff,List.length_drop,List.length_take];omega)] at h8
        rw [e,List.append_assoc,List.singleton_append,show List.drop (i + 1) (List.take (i + 1) s)=[] by rw [List.drop_eq_nil_iff,List.length_take];omega]
        exact h8
      · simp -implicitDefEqProofs only [hT',w1,go_sem,seval]
        refine ⟨(out,i + 1,i + 1),by simp only;omega,⟨rfl,rfl,rfl⟩,by simp only;omega,by simp only;omega,h3,h4,by simp only;omega,fun _=>?_,fun _=>by simp only at *;omega⟩
        have h8:=h6 (by omega)
        have ea:(s.take i).drop a=[]:=by rw [List.drop_eq_nil_iff,List.length_take];omega
        rw [hd,dI,if_pos h,if_pos ea] at h8
        simp only
        rw [show List.drop (i + 1) (List.take (i + 1) s)=[] by rw [List.drop_eq_nil_iff,List.length_take];omega]
        exact h8
    · simp -implicitDefEqProofs only [hT,hne,w1,go_sem,seval]
      refine ⟨(out,a,i + 1),by simp only;omega,⟨rfl,rfl,rfl⟩,by simp only;omega,by simp only;omega,h3,h4,by simp only;omega,fun _=>?_,fun _=>by simp only at *;omega⟩
      have h8:=h6 (by omega)
      rw [hd,dI,if_neg h] at h8
      simp only
      rw [hacc]
      exact h8
  · have hne:((i:Int)=(s.length:Int))=True:=eq_true (by omega)
    have hil:i=s.length:=by omega
    have hbd:((out.length + 1) * 16 ≤ 140737488355328)=True:=eq_true (by omega)
    have hmx:(out.length ≤ out.length)=True:=eq_true (by omega)
    have hai:(a ≤ i)=True:=eq_true h2
    have his:(i ≤ s.length)=True:=eq_true (by omega)
    have hsn:∀ x:Str,aj (out ++ [x])=aj out ++ [.str x]:=fun x=>by rw [aW];rfl
    have h8:=h6 (by omega)
    have e0:s.drop i=[]:=by rw [List.drop_eq_nil_iff];omega
    rw [e0,dI] at h8
    simp -implicitDefEqProofs only [hle,hne,go_sem,seval]
    refine bC (fun h' hT'=>?_) (fun h' hT'=>?_)
    · simp -implicitDefEqProofs only [hT',hai,his,h4,hc,ht,hbd,hmx,m0,w1,go_sem,seval]
      refine ⟨(out ++ [(s.drop a).take (i - a)],i + 1,i + 1),by simp only;omega,?_⟩
      have e:(s.drop a).take (i - a)=(s.take i).drop a:=by rw [List.drop_take]
      simp only [List.length_append,List.length_cons,List.length_nil,hsn,Nat.zero_add,Nat.le_refl,and_true,true_and,eq_self]
      refine ⟨by omega,by omega,fun _=>by omega,fun _=>?_⟩
      rw [if_neg (by rw [← List.length_eq_zero_iff,List.length_drop,List.length_take];omega)] at h8
      rw [e];exact h8
    · simp -implicitDefEqProofs only [hT',w1,go_sem,seval]
      refine ⟨(out,i + 1,i + 1),by simp only;omega,⟨rfl,rfl,rfl⟩,by simp only;omega,by simp only;omega,h3,h4,by simp only;omega,fun _=>by simp only at *;omega,fun _=>?_⟩
      rw [if_pos (by rw [List.drop_eq_nil_iff,List.length_take];omega),List.append_nil] at h8
      exact h8
end W15
/- Words of texts: the library's FieldsFunc. -/
namespace W15
open Go Go.AX Go.AX.Ty Go.Proofs
structure Sp where
  a:Nat
  b:Nat
instance:Enc Sp:=⟨2,fun x=>[.int .i64 x.a,.int .i64 x.b],fun x=>.agg [.int .i64 x.a,.int .i64 x.b],fun x=>True,fun _=>rfl,fun _=>rfl,fun _=>.inl rfl,fun _=>rfl⟩
theorem Sp.aO (x:Sp):Enc.cells x=[.int .i64 x.a,.int .i64 x.b]:=rfl
theorem Sp.je (l:List Sp):(aj l).length=l.length * 2:=aT l
def jr (s:Str) (x:Sp):Str:=(s.drop x.a).take (x.b - x.a)
theorem UO {n:Int} (h0:0 ≤ n) (h1:n ≤ 9223372036854775807):Ng .i64 n = -1 - n:=by
  obtain ⟨k,rfl⟩:=Int.eq_ofNat_of_zero_le h0
  have e:(BitVec.ofInt 64 (-1) ^^^ BitVec.ofInt 64 (k:Int)) = ~~~ (BitVec.ofNat 64 k):=by
    have:BitVec.ofInt 64 (-1)=BitVec.allOnes 64:=rfl
    rw [this,BitVec.allOnes_xor];rfl
  show IntKind.i64.wrap ((BitVec.ofInt 64 (-1) ^^^ BitVec.ofInt 64 (k:Int)).toNat:Int)=_
  rw [e,BitVec.toNat_not,BitVec.toNat_ofNat]
  simp [IntKind.wrap,IntKind.bits,IntKind.signed];omega
theorem Ke {c:UInt8} (h:gJ c=true):c.toNat < 128:=by
  rw [wO] at h
  simp only [Bool.or_eq_true,decide_eq_true_eq] at h
  omega
theorem zF (c:UInt8) (h:c.toNat < 128):gN (c.toNat:Int)=gJ c:=by
  have h1:(c.toNat:Int) < 128:=by omega
  unfold gN;rw [Int.toNat_natCast,UInt8.ofNat_toNat];simp [h1]
theorem zB {r:Int} (h:128 ≤ r):gN r=false:=by
  have h1:¬ r < 128:=by omega
  simp [gN,h1]
structure FF (s:Str) (sp:List Sp) (start:Int) (pos:Nat):Prop where
  le:pos ≤ s.length
  st:start < 0 ∨ (0 ≤ start ∧ start < pos)
  lo:-1000001 ≤ start
  len:sp.length ≤ pos
  ok:∀ x ∈ sp,x.a ≤ x.b ∧ x.b ≤ s.length
  sum:sp.map (jr s) ++ dI (s.drop pos) (if start < 0 then [] else (s.take pos).drop start.toNat)=kG s
theorem FF.init (s:Str):FF s [] (-1) 0:=⟨by simp,.inl (by decide),by decide,by simp,by simp,by simp [kG]⟩
theorem FF.skip {s:Str} {sp:List Sp} {start:Int} {pos:Nat} (h:FF s sp start pos) {c:UInt8} (hc:s[pos]? = some c) (hb:gJ c=true) (h0:start < 0):FF s sp start (pos + 1):=by
  have hk:pos < s.length:=by
    rcases Nat.lt_or_ge pos s.length with h' | h'
    · exact h'
    · rw [List.getElem?_eq_none h'] at hc;simp at hc
  have hd:s.drop pos=c :: s.drop (pos + 1):=by
    rw [List.drop_eq_getElem_cons hk]
    rw [List.getElem?_eq_getElem hk] at hc;simp at hc;rw [hc]
  refine ⟨hk,.inl h0,h.lo,by have:=h.len;omega,h.ok,?_⟩
  have:=h.sum
  rw [hd,if_pos h0,dI,if_pos hb,if_pos rfl] at this
  rw [if_pos h0];exact this
theorem FF.cut {s:Str} {sp:List Sp} {a pos:Nat} (h:FF s sp (a:Int) pos) {c:UInt8} (hc:s[pos]? = some c) (hb:gJ c=true) (hl:s.length ≤ 1000000):FF s (sp ++ [⟨a,pos⟩]) (-1 - (a:Int)) (pos + 1):=by
  have hk:pos < s.length:=by
    rcases Nat.lt_or_ge pos s.length with h' | h'
    · exact h'
    · rw [List.getElem?_eq_none h'] at hc;simp at hc
  have hd:s.drop pos=c :: s.drop (pos + 1):=by
    rw [List.drop_eq_getElem_cons hk]
    rw [List.getElem?_eq_getElem hk] at hc;simp at hc;rw [hc]
  have ha:=h.st
  have hlen:=h.len
  refine ⟨hk,.inl (by omega),by omega,by simp;omega,fun x hx=>?_,?_⟩
  · rcases List.mem_append.1 hx with hx | hx
    · exact h.ok x hx
    · simp at hx;subst hx;simp only;omega
  have:=h.sum
  rw [hd,if_neg (by omega),Int.toNat_natCast,dI,if_pos hb,if_neg (by rw [← List.length_eq_zero_iff,List.length_drop,List.length_take];omega)] at this
  rw [if_pos (by omega),List.map_append,List.append_assoc,List.map_singleton,List.singleton_append]
  have e:jr s ⟨a,pos⟩=(s.take pos).drop a:=by simp only [jr,List.drop_take]
  rw [e];exact this
theorem FF.run {s:Str} {sp:List Sp} {start:Int} {pos n:Nat} (h:FF s sp start pos) (hn:pos + n ≤ s.length) (hn1:1 ≤ n) (hb:∀ c ∈ (s.drop pos).take n,gJ c=false):FF s sp (if start < 0 then (pos:Int) else start) (pos + n):=by
  have hlen:=h.len
  have hsum:=h.sum
  have e:s.drop pos=(s.drop pos).take n ++ s.drop (pos + n):=by rw [← List.drop_drop,List.take_append_drop]
  rw [e,uI _ _ _ hb] at hsum
  by_cases h0:start < 0
  · rw [if_pos h0]
    rw [if_pos h0,List.nil_append] at hsum
    refine ⟨hn,.inr (by omega),by omega,by omega,h.ok,?_⟩
    rw [if_neg (by omega),Int.toNat_natCast,List.drop_take,show pos + n - pos=n by omega]
    exact hsum
  · rw [if_neg h0]
    rw [if_neg h0] at hsum
    have hst:=h.st
    refine ⟨hn,.inr (by omega),h.lo,by omega,h.ok,?_⟩
    rw [if_neg h0]
    have e2:(s.take (pos + n)).drop start.toNat=(s.take pos).drop start.toNat ++ (s.drop pos).take n:=by
      rw [List.take_add,List.drop_append_of_le_length (by rw [List.length_take];omega)]
    rw [e2];exact hsum
theorem FF.Vz {s:Str} {sp:List Sp} {start:Int} {pos:Nat} (h:FF s sp start pos) (hp:pos=s.length) (h0:start < 0):sp.map (jr s)=kG s:=by
  have:=h.sum
  rw [if_pos h0,show s.drop pos=[] by rw [List.drop_eq_nil_iff];omega,dI,if_pos rfl,List.append_nil] at this
  exact this
theorem FF.Vr {s:Str} {sp:List Sp} {a pos:Nat} (h:FF s sp (a:Int) pos) (hp:pos=s.length):(sp ++ [(⟨a,s.length⟩:Sp)]).map (jr s)=kG s:=by
  have:=h.sum
  have hst:=h.st
  rw [if_neg (by omega),show s.drop pos=[] by rw [List.drop_eq_nil_iff];omega,dI,Int.toNat_natCast,if_neg (by rw [← List.length_eq_zero_iff,List.length_drop,List.length_take];omega)] at this
  rw [List.map_append,List.map_singleton]
  have e:jr s ⟨a,s.length⟩=(s.take pos).drop a:=by simp only [jr,List.drop_take,hp]
  rw [e];exact this
theorem Bp (s:Str) (hl:s.length ≤ 1000000):aK Tryz.prog 196 [Enc.av s,.fn (.func 197) [] []] (Enc.av (kG s)):=by
  refine aH mix c196 (by kernel_rfl) (by kernel_rfl) (by simp [ay,ak,Go.AX.flat]) (by first | exact ak _ | simp [flat,ay,ak]) ?_
  simp -implicitDefEqProofs only [F196,go_sem,seval]
  refine aF (fun p:List Sp × Int × Nat=>s.length - p.2.2) (fun p=>[(0,Enc.av s),(1,.fn (.func 197) [] []),(5,.sl 0 (p.1.length * 2) 0 p.1.length 2),(6,.int .i64 p.2.1),(14,.ptr 1 0 0)])
    (fun p st=>FF s p.1 p.2.1 p.2.2 ∧ 2 ≤ st.next ∧ AX.look 0 st.heap=some (.cells (p.1.length * 2) (aj p.1) false) ∧ AX.look 1 st.heap=some (.iter s p.2.2)) ([],-1,0) ?_ ?_
  · simp -implicitDefEqProofs only [aj,go_sem,seval]
    exact ⟨FF.init s,rfl⟩
  rintro ⟨sp,start,pos⟩ ρ ⟨g,m⟩ ⟨h1,h2,h3,h4⟩
  dsimp only at h1 h2 h3 h4
  have m0:(m=0)=False:=eq_false (by omega)
  have m1:(m=1)=False:=eq_false (by omega)
  have hc:(aj sp).length=sp.length * 2:=Sp.je sp
  have ht:List.take (sp.length * 2) (aj sp)=aj sp:=List.take_of_length_le (by omega)
  have hbd:((sp.length + 1) * 16 ≤ 140737488355328)=True:=eq_true (by have:=h1.len;have:=h1.le;omega)
  have hmx:(sp.length * 2 ≤ sp.length * 2 + 1)=True:=eq_true (by omega)
  have hm2:(sp.length + 1) * 2=sp.length * 2 + 2:=by omega
  have hsn:∀ x:Sp,aj (sp ++ [x])=aj sp ++ [.int .i64 x.a,.int .i64 x.b]:=fun x=>by rw [aW];rfl
  rcases Nat.lt_or_ge pos s.length with hk | hk
  · obtain ⟨c,hx,hd,hm⟩:=aG hk
    have hlt:(pos < s.length)=True:=eq_true hk
    have hspec:=J2 c (s.drop (pos + 1))
    rw [← hd] at hspec
    simp -implicitDefEqProofs only [h4,hlt,m0,m1,go_sem,seval]
    have hpl:=h1.le
    generalize fZ (List.drop pos s)=d at hspec
    obtain ⟨r,n⟩:=d
    dsimp only at hspec
    have hv:0 ≤ (r:Int) ∧ Utf8.valid (r:Int)=true ∧ pos + n ≤ s.length ∧ 1 ≤ n ∧ ((gN (r:Int)=true ∧ gJ c=true ∧ n=1) ∨ (gN (r:Int)=false ∧ ∀ x ∈ (s.drop pos).take n,gJ x=false)):=by
      rcases hspec with ⟨a1,a2⟩ | ⟨a1,a2,a3,a4,a5,a6,a7⟩
      · simp only [Prod.mk.injEq] at a2
        obtain ⟨rfl,rfl⟩:=a2
        refine ⟨by omega,by simp only [Utf8.valid,Bool.or_eq_true,Bool.and_eq_true,decide_eq_true_eq];omega,by omega,by omega,?_⟩
        rw [zF c a1]
        cases hb:gJ c
        · right
          refine ⟨rfl,fun x hx'=>?_⟩
          rw [hd] at hx'
          simp at hx'
          rw [hx',hb]
        · left;exact ⟨rfl,rfl,rfl⟩
      · refine ⟨by omega,a4,?_,a5,.inr ⟨zB (by omega),fun x hx'=>?_⟩⟩
        · rw [List.length_drop] at a6;omega
        · have:=a7 x hx'
          cases hb:gJ x
          · rfl
          · have:=Ke hb;omega
    obtain ⟨v1,v2,v3,v4,v5⟩:=hv
    have v6:=GJ r v1 v2
    rcases v5 with ⟨b1,b2,b3⟩ | ⟨b1,b2⟩
    · subst b3
      rw [b1] at v6
      refine au v6 ?_
      simp -implicitDefEqProofs only [go_sem,seval]
      refine bC (fun h hT=>?_) (fun h hT=>?_)
      · obtain ⟨a,rfl⟩:=Int.eq_ofNat_of_zero_le (show 0 ≤ start by omega)
        have hx64:Ng .i64 (a:Int) = -1 - (a:Int):=UO (by omega) (by have:=h1.st;omega)
        simp -implicitDefEqProofs only [h3,h4,hc,ht,hbd,hmx,m0,m1,hx64,go_sem,seval]
        refine ⟨(sp ++ [⟨a,pos⟩],-1 - (a:Int),pos + 1),by simp only;omega,?_⟩
        have el:(sp ++ [(⟨a,pos⟩:Sp)]).length=sp.length + 1:=by simp
        simp only [el,hsn,hm2,true_and,and_true]
        exact ⟨h1.cut hx b2 hl,by omega⟩
      · simp -implicitDefEqProofs only [h3,h4,go_sem,seval]
        refine ⟨(sp,start,pos + 1),by simp only;omega,?_⟩
        simp only [true_and,and_true]
        exact ⟨h1.skip hx b2 (by omega),h2⟩
    · have hrun:=h1.run v3 v4 b2
      rw [b1] at v6
      refine au v6 ?_
      simp -implicitDefEqProofs only [go_sem,seval]
      refine bC (fun h hT=>?_) (fun h hT=>?_)
      · rw [if_pos h] at hrun
        simp -implicitDefEqProofs only [h3,h4,go_sem,seval]
        refine ⟨(sp,(pos:Int),pos + n),by simp only;omega,?_⟩
        simp only [true_and,and_true]
        exact ⟨hrun,h2⟩
      · rw [if_neg h] at hrun
        simp -implicitDefEqProofs only [h3,h4,go_sem,seval]
        refine ⟨(sp,start,pos + n),by simp only;omega,?_⟩
        simp only [true_and,and_true]
        exact ⟨hrun,h2⟩
  · have hlt:(pos < s.length)=False:=eq_false (by omega)
    have hpl:=h1.le
    simp -implicitDefEqProofs only [h4,hlt,go_sem,seval]
    refine bC (fun h hT=>?_) (fun h hT=>?_)
    · obtain ⟨a,rfl⟩:=Int.eq_ofNat_of_zero_le (show 0 ≤ start by omega)
      have hend:=h1.Vr (by omega)
      have hok:∀ x ∈ sp ++ [(⟨a,s.length⟩:Sp)],x.a ≤ x.b ∧ x.b ≤ s.length:=fun x hx=>by
        rcases List.mem_append.1 hx with hx | hx
        · exact h1.ok x hx
        · simp at hx;subst hx;have:=h1.st;simp only;omega
      have hspl:=h1.len
      have el:(sp ++ [(⟨a,s.length⟩:Sp)]).length=sp.length + 1:=by simp
      have hsq:=hsn ⟨a,s.length⟩
      have hm3:sp.length * 2 + 2=(sp.length + 1) * 2:=by omega
      have m3:(m + 1=0)=False:=eq_false (by omega)
      have m4:(m + 1=1)=False:=eq_false (by omega)
      have m5:(0=m + 1)=False:=eq_false (by omega)
      have lsq:(⟨a,s.length⟩:Sp).a=a ∧ (⟨a,s.length⟩:Sp).b=s.length:=⟨rfl,rfl⟩
      simp only at hsq
      simp -implicitDefEqProofs only [h3,h4,hc,ht,hbd,hmx,m0,m1,m3,m4,m5,go_sem,seval]
      generalize hSQ:sp ++ [(⟨a,s.length⟩:Sp)]=SQ at hend hok el hsq
      rw [← hsq,hm3,← el]
      have hcap3:(sp.length ≤ 9223372036854775806)=True:=eq_true (by omega)
      have hcap1:((SQ).length * 16 ≤ 140737488355328 ∧ (SQ).length ≤ 9223372036854775807)=True:=eq_true (by omega)
      have hcap2:((SQ).length ≤ 9223372036854775806)=True:=eq_true (by omega)
      have rep:∀ q:Nat,(List.replicate q [AV.str []]).flatten=List.replicate q (.str []):=fun q=>by
        induction q with
        | zero=>rfl
        | succ q ih=>rw [List.replicate_succ,List.flatten_cons,ih];rfl
      simp -implicitDefEqProofs only [h3,h4,hT,hcap1,hcap2,rep,m0,m1,hc,ht,hbd,hmx,m3,m4,m5,hcap3,go_sem,seval]
      refine aF (fun k:Nat=>(SQ).length - k) (fun k=>[(0,Enc.av s),(9,.sl (m + 1) (SQ).length 0 (SQ).length 1),(47,.sl 0 ((SQ).length * 2) 0 (SQ).length 2),(48,.int .i64 (SQ).length),(49,.int .i64 k)])
        (fun k st=>k ≤ (SQ).length ∧ (m + 1) + 1 ≤ st.next ∧ AX.look 0 st.heap=some (.cells ((SQ).length * 2) (aj (SQ)) false) ∧ AX.look (m + 1) st.heap=some (.cells (SQ).length (aj (((SQ).take k).map (jr s)) ++ List.replicate ((SQ).length - k) (.str [])) false)) 0 ?_ ?_
      · simp -implicitDefEqProofs only [h3,h4,m0,m1,rep,hc,ht,hbd,hmx,m3,m4,m5,hcap3,go_sem,seval]
        try simp [aj]
      rintro k ρ ⟨g2,q⟩ ⟨j1,j2,j3,j4⟩
      dsimp only at j2 j3 j4
      have q0:(q=0)=False:=eq_false (by omega)
      have qm:(q=(m + 1))=False:=eq_false (by omega)
      have n0:(((m + 1))=0)=False:=eq_false (by omega)
      have i0:(0 < q)=True:=eq_true (by omega)
      have im:(((m + 1)) < q)=True:=eq_true (by omega)
      have cA:(aj (((SQ).take k).map (jr s))).length=k:=by rw [aT];simp [Enc.sz];omega
      have cC:(aj (((SQ).take k).map (jr s)) ++ List.replicate ((SQ).length - k) (AV.str [])).length=(SQ).length:=by rw [List.length_append,cA,List.length_replicate];omega
      rcases Nat.lt_or_ge k (SQ).length with hk2 | hk2
      · obtain ⟨y,hy,hd2,hm2'⟩:=aG hk2
        have yok:=hok y hm2'
        have hlt2:((k:Int) < ((SQ).length:Int))=True:=eq_true (by omega)
        have hltn:(k < (SQ).length)=True:=eq_true hk2
        have hle:(k * 2 ≤ (SQ).length * 2)=True:=eq_true (by omega)
        have hle1:(k + 1 ≤ (SQ).length)=True:=eq_true (by omega)
        have ya:(y.a ≤ y.b)=True:=eq_true yok.1
        have yb:(y.b ≤ s.length)=True:=eq_true yok.2
        have w1:IntKind.i64.wrap ((k:Int) + 1)=((k + 1:Nat):Int):=by rw [wrap64 (by omega) (by omega)];omega
        have hdr:List.drop (k * 2) (aj (SQ))=.int .i64 y.a :: .int .i64 y.b :: aj ((SQ).drop (k + 1)):=by
          have:=fq (SQ) k
          rw [hd2] at this
          exact this
        have hsl:(aj (SQ)).length=(SQ).length * 2:=Sp.je (SQ)
        have tA:List.take k (aj (((SQ).take k).map (jr s)) ++ List.replicate ((SQ).length - k) (AV.str []))=aj (((SQ).take k).map (jr s)):=by rw [List.take_append_of_le_length (by omega),List.take_of_length_le (by omega)]
        have dA:List.drop (k + 1) (aj (((SQ).take k).map (jr s)) ++ List.replicate ((SQ).length - k) (AV.str []))=List.replicate ((SQ).length - (k + 1)) (.str []):=by
          rw [List.drop_append,List.drop_of_length_le (by omega),cA,List.nil_append,List.drop_replicate];congr 1;omega
        have hfin:aj (((SQ).take (k + 1)).map (jr s))=aj (((SQ).take k).map (jr s)) ++ [.str (jr s y)]:=by
          rw [List.take_add_one,hy]
          simp only [Option.toList_some,List.map_append,List.map_singleton,aW];rfl
        simp -implicitDefEqProofs only [hlt2,hltn,hle,hle1,hy,w1,j3,j4,hsl,hdr,q0,qm,n0,i0,im,ya,yb,cC,tA,dA,go_sem,seval]
        refine ⟨k + 1,by omega,?_⟩
        simp only [true_and,and_true,Nat.succ_le_of_lt hk2]
        rw [hfin,List.append_assoc]
        exact ⟨by omega,by simp only [jr,List.append_assoc,List.singleton_append]⟩
      · have hlt2:((k:Int) < ((SQ).length:Int))=False:=eq_false (by omega)
        simp -implicitDefEqProofs only [hlt2,go_sem,seval]
        have hkn:k=(SQ).length:=by omega
        subst hkn
        rw [List.take_length,Nat.sub_self,List.replicate_zero,List.append_nil] at j4
        rw [List.take_length] at cA
        rw [jv _ j4 (by omega),Nat.mul_one,List.take_of_length_le (by omega),hend]
        rw [← hend,List.length_map]
    · have hend:=h1.Vz (by omega) (by omega)
      have hok:=h1.ok
      have hspl:=h1.len
      have hcap1:((sp).length * 16 ≤ 140737488355328 ∧ (sp).length ≤ 9223372036854775807)=True:=eq_true (by omega)
      have hcap2:((sp).length ≤ 9223372036854775806)=True:=eq_true (by omega)
      have rep:∀ q:Nat,(List.replicate q [AV.str []]).flatten=List.replicate q (.str []):=fun q=>by
        induction q with
        | zero=>rfl
        | succ q ih=>rw [List.replicate_succ,List.flatten_cons,ih];rfl
      simp -implicitDefEqProofs only [h3,h4,hT,hcap1,hcap2,rep,m0,m1,hc,ht,go_sem,seval]
      refine aF (fun k:Nat=>(sp).length - k) (fun k=>[(0,Enc.av s),(9,.sl m (sp).length 0 (sp).length 1),(47,.sl 0 ((sp).length * 2) 0 (sp).length 2),(48,.int .i64 (sp).length),(49,.int .i64 k)])
        (fun k st=>k ≤ (sp).length ∧ m + 1 ≤ st.next ∧ AX.look 0 st.heap=some (.cells ((sp).length * 2) (aj (sp)) false) ∧ AX.look m st.heap=some (.cells (sp).length (aj (((sp).take k).map (jr s)) ++ List.replicate ((sp).length - k) (.str [])) false)) 0 ?_ ?_
      · simp -implicitDefEqProofs only [h3,h4,m0,m1,rep,hc,ht,go_sem,seval]
        try simp [aj]
      rintro k ρ ⟨g2,q⟩ ⟨j1,j2,j3,j4⟩
      dsimp only at j2 j3 j4
      have q0:(q=0)=False:=eq_false (by omega)
      have qm:(q=m)=False:=eq_false (by omega)
      have n0:((m)=0)=False:=eq_false (by omega)
      have i0:(0 < q)=True:=eq_true (by omega)
      have im:((m) < q)=True:=eq_true (by omega)
      have cA:(aj (((sp).take k).map (jr s))).length=k:=by rw [aT];simp [Enc.sz];omega
      have cC:(aj (((sp).take k).map (jr s)) ++ List.replicate ((sp).length - k) (AV.str [])).length=(sp).length:=by rw [List.length_append,cA,List.length_replicate];omega
      rcases Nat.lt_or_ge k (sp).length with hk2 | hk2
      · obtain ⟨y,hy,hd2,hm2'⟩:=aG hk2
        have yok:=hok y hm2'
        have hlt2:((k:Int) < ((sp).length:Int))=True:=eq_true (by omega)
        have hltn:(k < (sp).length)=True:=eq_true hk2
        have hle:(k * 2 ≤ (sp).length * 2)=True:=eq_true (by omega)
        have hle1:(k + 1 ≤ (sp).length)=True:=eq_true (by omega)
        have ya:(y.a ≤ y.b)=True:=eq_true yok.1
        have yb:(y.b ≤ s.length)=True:=eq_true yok.2
        have w1:IntKind.i64.wrap ((k:Int) + 1)=((k + 1:Nat):Int):=by rw [wrap64 (by omega) (by omega)];omega
        have hdr:List.drop (k * 2) (aj (sp))=.int .i64 y.a :: .int .i64 y.b :: aj ((sp).drop (k + 1)):=by
          have:=fq (sp) k
          rw [hd2] at this
          exact this
        have hsl:(aj (sp)).length=(sp).length * 2:=Sp.je (sp)
        have tA:List.take k (aj (((sp).take k).map (jr s)) ++ List.replicate ((sp).length - k) (AV.str []))=aj (((sp).take k).map (jr s)):=by rw [List.take_append_of_le_length (by omega),List.take_of_length_le (by omega)]
        have dA:List.drop (k + 1) (aj (((sp).take k).map (jr s)) ++ List.replicate ((sp).length - k) (AV.str []))=List.replicate ((sp).length - (k + 1)) (.str []):=by
          rw [List.drop_append,List.drop_of_length_le (by omega),cA,List.nil_append,List.drop_replicate];congr 1;omega
        have hfin:aj (((sp).take (k + 1)).map (jr s))=aj (((sp).take k).map (jr s)) ++ [.str (jr s y)]:=by
          rw [List.take_add_one,hy]
          simp only [Option.toList_some,List.map_append,List.map_singleton,aW];rfl
        simp -implicitDefEqProofs only [hlt2,hltn,hle,hle1,hy,w1,j3,j4,hsl,hdr,q0,qm,n0,i0,im,ya,yb,cC,tA,dA,go_sem,seval]
        refine ⟨k + 1,by omega,?_⟩
        simp only [true_and,and_true,Nat.succ_le_of_lt hk2]
        rw [hfin,List.append_assoc]
        exact ⟨by omega,by simp only [jr,List.append_assoc,List.singleton_append]⟩
      · have hlt2:((k:Int) < ((sp).length:Int))=False:=eq_false (by omega)
        simp -implicitDefEqProofs only [hlt2,go_sem,seval]
        have hkn:k=(sp).length:=by omega
        subst hkn
        rw [List.take_length,Nat.sub_self,List.replicate_zero,List.append_nil] at j4
        rw [List.take_length] at cA
        rw [jv _ j4 (by omega),Nat.mul_one,List.take_of_length_le (by omega),hend]
        rw [← hend,List.length_map]
end W15
/- Classes, kin. -/
namespace W15
open Go Go.AX Go.AX.Ty Go.Proofs
structure gV (p:bA):Prop where
  ok:Enc.ok p
  len:p.length ≤ 1000
  kids:∀ x ∈ p,x.kids.length ≤ 1000
  attrs:∀ x ∈ p,∀ a ∈ x.attrs,a.value.length ≤ 1000000
theorem mY {p:bA} {n:Int} {x:Ty.Node} (h:nodeAt p n=some x):x ∈ p:=by
  unfold nodeAt at h
  split at h
  · exact List.mem_of_getElem? h
  · simp at h
theorem sP {p:bA} (h:gV p) (n:Int) (v:Str):(dP p n v).1.length ≤ 1000000:=by
  unfold dP
  split
  · rename_i x hx
    split
    · simp
    · split
      · rename_i a ha
        exact h.attrs x (mY hx) a (List.mem_of_find?_eq_some ha)
      · simp
  · simp
abbrev qh:Str:=[99,108,97,115,115]
def oO (p:bA) (n:Int):List Str:=kG (dP p n qh).1
theorem Lc (p:bA) (hp:gV p) (n:Int):aK Tryz.prog 176 [Enc.av p,Enc.av n] (Enc.av (oO p n)):=by
  refine aH mix c176 (by kernel_rfl) (by kernel_rfl) (by simp [ay,ak,Go.AX.flat]) (by first | exact ak _ | simp [flat,ay,ak]) ?_
  simp -implicitDefEqProofs only [F176,go_sem,seval]
  refine au (Ob p hp.ok n qh) ?_
  simp -implicitDefEqProofs only [go_sem,seval]
  refine au (Bp _ (sP hp n qh)) ?_
  simp -implicitDefEqProofs only [go_sem,seval]
  rfl
theorem Ho (p:bA) (hp:gV p) (n:Int):aK Tryz.prog 163 [Enc.av p,Enc.av n] (Enc.av (oO p n)):=by
  refine aH mix c163 (by kernel_rfl) (by kernel_rfl) (by simp [ay,ak,Go.AX.flat]) (by first | exact ak _ | simp [flat,ay,ak]) ?_
  simp -implicitDefEqProofs only [F163,go_sem,seval]
  refine au (vD p hp.ok n qh) ?_
  simp -implicitDefEqProofs only [go_sem,seval]
  refine au (QX _ (sP hp n qh)) ?_
  simp -implicitDefEqProofs only [go_sem,seval]
  rfl
theorem Qy (l:List Int) (hne:l ≠ []) (hl:l.length ≤ 1000000) (h:List (Nat × AX.Obj)) (m:Nat):aR Tryz.prog 213 [Enc.av l] ⟨h,m⟩ fun v s'=>v=.sl m l.length 0 l.length 1 ∧ s'=⟨(m,.cells l.length (aj l) false) :: h,m + 1⟩:=by
  refine bT mix (fH _) c213 (by kernel_rfl) (Nat.le_of_ble_eq_true (by kernel_rfl)) ?_
  have hc:(aj l).length=l.length:=by rw [aT];simp [Enc.sz]
  have ht:List.take l.length (aj l)=aj l:=List.take_of_length_le (by omega)
  have hb:(l.length * 8 ≤ 140737488355328)=True:=eq_true (by omega)
  have h0:0 < l.length:=List.length_pos_iff.2 hne
  have hT:(0 < l.length)=True:=eq_true h0
  have hz:(l.length=0)=False:=eq_false (by omega)
  have hmx:(1 ≤ l.length)=True:=eq_true (by omega)
  simp -implicitDefEqProofs only [F213,hT,hz,hc,ht,hb,hmx,go_sem,seval]
theorem Tg (p:bA) (k:Int) {h:List (Nat × AX.Obj)} {m b:Nat} {sn:Bool} (hb:AX.look b h=some (.cells 0 [Enc.av p] sn)):aR Tryz.prog 214 [.int .i64 k,.ptr b 0 0] ⟨h,m⟩ fun v s'=>v=.bool (!bE p k) ∧ s'=⟨h,m⟩:=by
  refine bT mix (fH _) c214 (by kernel_rfl) (Nat.le_of_ble_eq_true (by kernel_rfl)) ?_
  simp -implicitDefEqProofs only [F214,hb,go_sem,seval]
  refine au (kr p k) ?_
  simp -implicitDefEqProofs only [go_sem,seval]
theorem wS {g c:Nat} {q:Int → Bool} {l:List Int} {h:List (Nat × AX.Obj)} {m b:Nat} (hb:AX.look b h=some (.cells l.length (aj l) false)) (hl:l.length ≤ 1000000)
    (hp:∀ x ∈ l,aR Tryz.prog g [.int .i64 x,.ptr c 0 0] ⟨h,m⟩ (fun v s'=>v=.bool (q x) ∧ s'=⟨h,m⟩)) :
    aR Tryz.prog 181 [.sl b l.length 0 l.length 1,.fn (.func g) [] [.ptr c 0 0]] ⟨h,m⟩ fun v s'=>v=.int .i64 (idxOf q l) ∧ s'=⟨h,m⟩:=by
  refine bT mix (fH _) c181 (by kernel_rfl) (Nat.le_of_ble_eq_true (by kernel_rfl)) ?_
  simp -implicitDefEqProofs only [F181,go_sem,seval]
  refine aF (fun k:Nat=>l.length - k) (fun k=>[(0,.sl b l.length 0 l.length 1),(1,.fn (.func g) [] [.ptr c 0 0]),(7,.int .i64 l.length),(8,.int .i64 k)]) (fun k s=>s=⟨h,m⟩ ∧ k ≤ l.length ∧ Pre q l k) 0 ?_ ?_
  · simp -implicitDefEqProofs only [go_sem,seval]
    exact Pre.zero _ _
  rintro k ρ s ⟨rfl,h1,h2⟩
  rcases Nat.lt_or_ge k l.length with hk | hk
  · obtain ⟨x,hx,hd,hm⟩:=aG hk
    have hlt:((k:Int) < (l.length:Int))=True:=eq_true (by omega)
    have hltn:(k < l.length)=True:=eq_true hk
    have w1:IntKind.i64.wrap ((k:Int) + 1)=((k + 1:Nat):Int):=by rw [wrap64 (by omega) (by omega)];omega
    have hc:(aj l).length=l.length:=by rw [aT];simp [Enc.sz]
    have hle:(k ≤ l.length)=True:=eq_true (by omega)
    have hdr:List.drop k (aj l)=.int .i64 x :: aj (l.drop (k + 1)):=by
      have:=fq l k
      rw [hd] at this
      simp only [Enc.sz,Nat.mul_one] at this
      exact this
    simp -implicitDefEqProofs only [hlt,hltn,hx,w1,hb,hc,hle,hdr,go_sem,seval]
    refine eU (hp x hm) ?_
    simp -implicitDefEqProofs only [go_sem,seval]
    (refine bC (fun h hT=>?_) (fun h hT=>?_) <;> try simp -implicitDefEqProofs only [hT,w1,go_sem,seval] <;> try clear hT)
    · rw [iw hx h h2]
    · exact ⟨k + 1,by omega,rfl,by omega,h2.next hx (by simpa using h)⟩
  · have hlt:((k:Int) < (l.length:Int))=False:=eq_false (by omega)
    simp -implicitDefEqProofs only [hlt,go_sem,seval]
    rw [gX (h2.all hk)]
theorem iJ (b:Nat) (o o':AX.Obj):∀ h:List (Nat × AX.Obj),putAt b o (putAt b o' h)=putAt b o h
  | []=>rfl
  | (k, x) :: r => by
    simp only [putAt]
    split
    · rename_i e;simp [putAt,e]
    · rename_i e;simp [putAt,e,iJ b o o' r]
theorem jm {b:Nat} {o:AX.Obj}:∀ {h:List (Nat × AX.Obj)},AX.look b h=some o → putAt b o h=h
  | [],e=>by simp [AX.look] at e
  | (k, x) :: r, e => by
    simp only [AX.look] at e
    simp only [putAt]
    split at e
    · rename_i e2;simp at e;subst e;rw [if_pos e2,e2]
    · rename_i e2;rw [if_neg e2,jm e]
theorem BD {c : Nat} {q : Int → Bool} {l : List Int} {h : List (Nat × AX.Obj)} {m b : Nat} (hb : AX.look b h = some (.cells l.length (aj l) false)) (hl : l.length ≤ 1000000)
    (hp:∀ (h':List (Nat × AX.Obj)) (x:Int),(∀ id,id ≠ b → AX.look id h'=AX.look id h) → aR Tryz.prog 214 [.int .i64 x,.ptr c 0 0] ⟨h',m⟩ (fun v s'=>v=.bool (q x) ∧ s'=⟨h',m⟩)) :
    aR Tryz.prog 212 [.sl b l.length 0 l.length 1,.fn (.func 214) [] [.ptr c 0 0]] ⟨h,m⟩ fun v s'=>v=.sl b l.length 0 (l.filter fun x=>!q x).length 1 ∧
      s'=⟨putAt b (.cells l.length (aj (l.filter fun x=>!q x) ++ List.replicate (l.length - (l.filter fun x=>!q x).length) (.int .i64 0)) false) h,m⟩:=by
  refine bT mix (fH _) c212 (by kernel_rfl) (Nat.le_of_ble_eq_true (by kernel_rfl)) ?_
  have cl:∀ l':List Int,(aj l').length=l'.length:=fun l'=>by rw [aT];simp [Enc.sz]
  have hc:=cl l
  have ht:List.take l.length (aj l)=aj l:=List.take_of_length_le (by omega)
  simp -implicitDefEqProofs only [F212,hb,hc,ht,go_sem,seval]
  refine eU (wS hb hl fun x _=>hp h x fun _ _=>rfl) ?_
  rcases eT q l with ⟨e,hno⟩ | ⟨i,x,e,hi,hx,hqx,hpre⟩
  · rw [e]
    simp -implicitDefEqProofs only [go_sem,seval]
    have ef:l.filter (fun x=>!q x)=l:=List.filter_eq_self.2 fun a ha=>by simp [hno a ha]
    rw [ef,Nat.sub_self,List.replicate_zero,List.append_nil,jm hb]
    exact ⟨rfl,rfl⟩
  · rw [e]
    have e1:((i:Int) = -1)=False:=eq_false (by omega)
    have w1:IntKind.i64.wrap ((i:Int) + 1)=((i + 1:Nat):Int):=by rw [wrap64 (by omega) (by omega)];omega
    simp -implicitDefEqProofs only [e1,w1,go_sem,seval]
    have fst:∀ j,(l.take j).filter (fun x=>!q x)=((l.take j).filter (fun x=>!q x)):=fun _=>rfl
    have f0:(l.take i).filter (fun x=>!q x)=l.take i:=List.filter_eq_self.2 fun a ha=>by simp [hpre a ha]
    have f1:(l.take (i + 1)).filter (fun x=>!q x)=l.take i:=by
      rw [List.take_add_one,hx,List.filter_append,f0];simp [hqx]
    have hd0:l=l.take i ++ x :: l.drop (i + 1):=by
      have:l.drop i=x :: l.drop (i + 1):=by
        rw [List.drop_eq_getElem_cons hi]
        rw [List.getElem?_eq_getElem hi] at hx;simp at hx;rw [hx]
      rw [← this,List.take_append_drop]
    refine aF (fun p:Nat × Nat × List AV=>l.length - p.2.1) (fun p=>[(0,.sl b l.length 0 l.length 1),(1,.fn (.func 214) [] [.ptr c 0 0]),(5,.int .i64 p.1),(6,.int .i64 p.2.1)])
      (fun p s=>p.2.1 ≤ l.length ∧ p.1 < p.2.1 ∧ p.1=((l.take p.2.1).filter fun x=>!q x).length ∧ p.2.2.length=p.2.1 - p.1 ∧ s=⟨putAt b (.cells l.length (aj ((l.take p.2.1).filter fun x=>!q x) ++ (p.2.2 ++ aj (l.drop p.2.1))) false) h,m⟩) (i,i + 1,[.int .i64 x]) ?_ ?_
    · simp -implicitDefEqProofs only [f1,go_sem,seval]
      refine ⟨by omega,by rw [List.length_take];omega,by simp,?_⟩
      have:aj (l.take i) ++ (AV.int .i64 x :: aj (l.drop (i + 1)))=aj l:=by
        conv=>rhs;rw [hd0]
        rw [aW];rfl
      rw [this,jm hb]
    rintro ⟨i',j,X⟩ ρ s ⟨h1,h2,h3,h4,h5⟩
    dsimp only at h1 h2 h3 h4 h5
    subst h5
    generalize hF:(l.take j).filter (fun x=>!q x)=F at h3
    have cF:=cl F
    have e2:∀ D:List AV,List.drop j (aj F ++ (X ++ D))=D:=fun D=>by
      rw [← List.append_assoc,List.drop_left' (by rw [List.length_append,cF];omega)]
    have hcs:(aj F ++ (X ++ aj (l.drop j))).length=l.length:=by
      rw [List.length_append,List.length_append,cF,cl,List.length_drop];omega
    have htk:List.take i' (aj F ++ (X ++ aj (l.drop j)))=aj F:=by rw [List.take_left' (by rw [cF];omega)]
    have lk:AX.look b (putAt b (.cells l.length (aj F ++ (X ++ aj (l.drop j))) false) h)=some (.cells l.length (aj F ++ (X ++ aj (l.drop j))) false):=jF hb
    rcases Nat.lt_or_ge j l.length with hj | hj
    · obtain ⟨y,hy,hdy,hmy⟩:=aG hj
      have hlt:((j:Int) < (l.length:Int))=True:=eq_true (by omega)
      have hltn:(j < l.length)=True:=eq_true hj
      have hle:(j ≤ l.length)=True:=eq_true (by omega)
      have w2:IntKind.i64.wrap ((j:Int) + 1)=((j + 1:Nat):Int):=by rw [wrap64 (by omega) (by omega)];omega
      have w3:IntKind.i64.wrap ((i':Int) + 1)=((i' + 1:Nat):Int):=by rw [wrap64 (by omega) (by omega)];omega
      have hdr:List.drop j (aj F ++ (X ++ aj (l.drop j)))=.int .i64 y :: aj (l.drop (j + 1)):=by
        rw [e2,hdy];rfl
      have hcall:=hp (putAt b (.cells l.length (aj F ++ (X ++ aj (l.drop j))) false) h) y fun id hid=>fM (Ne.symm hid)
      simp -implicitDefEqProofs only [hlt,hltn,hle,w2,lk,hcs,hdr,go_sem,seval]
      refine eU hcall ?_
      simp -implicitDefEqProofs only [go_sem,seval]
      refine bC (fun hq hT=>?_) (fun hq hT=>?_)
      · simp -implicitDefEqProofs only [w2,go_sem,seval]
        refine ⟨(i',j + 1,X ++ [.int .i64 y]),by simp only;omega,?_⟩
        have fn:(l.take (j + 1)).filter (fun x=>!q x)=F:=by
          rw [List.take_add_one,hy,List.filter_append,hF];simp [hq]
        rw [fn]
        simp only [true_and,and_true]
        refine ⟨by omega,by omega,h3,by simp;omega,?_⟩
        rw [hdy,List.append_assoc];rfl
      · have hq':q y=false:=by simpa using hq
        cases X with
        | nil=>simp at h4;omega
        | cons a X =>
          simp only [List.length_cons] at h4
          have hlt2:(i' < l.length)=True:=eq_true (by omega)
          have hle2:(i' + 1 ≤ l.length)=True:=eq_true (by omega)
          have hdi:List.drop (i' + 1) (aj F ++ (a :: X ++ aj (l.drop j)))=X ++ aj (l.drop j):=by
            rw [List.drop_append,List.drop_of_length_le (by rw [cF];omega),cF,List.nil_append,show i' + 1 - F.length=1 by omega];rfl
          simp only [List.cons_append] at lk hcs htk hdi
          simp -implicitDefEqProofs only [w2,w3,hlt2,hle2,lk,hb,hcs,htk,hdi,go_sem,seval]
          refine ⟨(i' + 1,j + 1,X ++ [.int .i64 y]),by simp only;omega,?_⟩
          have fn:(l.take (j + 1)).filter (fun x=>!q x)=F ++ [y]:=by
            rw [List.take_add_one,hy,List.filter_append,hF];simp [hq']
          rw [fn]
          simp only [true_and,and_true]
          refine ⟨by omega,by omega,by simp;omega,by simp;omega,?_⟩
          rw [iJ,aW,hdy]
          simp only [List.append_assoc,List.singleton_append,aj,List.append_nil,List.nil_append,List.cons_append]
          rfl
    · have hlt:((j:Int) < (l.length:Int))=False:=eq_false (by omega)
      have hjl:j=l.length:=by omega
      have d0:l.drop j=[]:=by rw [List.drop_eq_nil_iff];omega
      rw [List.take_of_length_le (by omega)] at hF
      have hlt2:(i' < l.length)=True:=eq_true (by omega)
      have hle2:(i' ≤ l.length)=True:=eq_true (by omega)
      have cX:List.drop l.length (aj F ++ (X ++ aj (l.drop j)))=[]:=by rw [List.drop_eq_nil_iff];omega
      have hsum:i' + (l.length - i')=l.length:=by omega
      have hpos:(0 < l.length - i')=True:=eq_true (by omega)
      have rep:∀ q:Nat,(List.replicate q [AV.int .i64 0]).flatten=List.replicate q (.int .i64 0):=fun q=>by
        induction q with
        | zero=>rfl
        | succ q ih=>rw [List.replicate_succ,List.flatten_cons,ih];rfl
      rw [hF,← h3]
      by_cases hi0:i'=0
      · subst hi0
        have hpos:(0 < l.length)=True:=eq_true (by omega)
        have hF0:F=[]:=List.length_eq_zero_iff.1 h3.symm
        simp -implicitDefEqProofs only [hlt,hpos,lk,hb,hcs,htk,rep,cX,Nat.sub_zero,Nat.mul_one,go_sem,seval]
        rw [iJ,hF0]
      · simp -implicitDefEqProofs only [hlt,hlt2,hle2,hi0,lk,hb,hcs,htk,hsum,hpos,rep,cX,Nat.mul_one,go_sem,seval]
        rw [iJ]
end W15
/- Kin: the program's, the document's. -/
namespace W15
open Go Go.AX Go.AX.Ty Go.Proofs
def d9 (p:bA) (n:Int):List Int:=match nodeAt p n with
  | some x => if x.name = [] then [] else match nodeAt p x.up with
    | some y=>y.kids.filter (bE p)
    | none=>[]
  | none=>[]
theorem RP (p:bA) (hp:gV p) (n:Int) (hk:∀ x y,nodeAt p n=some x → nodeAt p x.up=some y → y.kids ≠ []):aK Tryz.prog 200 [Enc.av p,Enc.av n] (Enc.av (d9 p n)):=by
  refine aH mix c200 (by kernel_rfl) (by kernel_rfl) (by simp [ay,ak,Go.AX.flat]) (by first | exact ak _ | simp [flat,ay,ak]) ?_
  simp -implicitDefEqProofs only [F200,go_sem,seval]
  refine aJ (kr p n) ?_
  simp -implicitDefEqProofs only [go_sem,seval]
  rcases fB p n with ⟨e,h⟩ | ⟨k,x,rfl,hkl,hx,e⟩
  · have e2:bE p n=false:=by simp [bE,e]
    have e3:d9 p n=[]:=by simp [d9,e]
    rw [e3,e2]
    simp -implicitDefEqProofs only [go_sem,seval]
    refine aA (by kernel_rfl) ?_
    simp -implicitDefEqProofs only [aj,go_sem,seval]
  have e2:bE p k=decide (x.name ≠ []):=by simp [bE,e]
  by_cases hn:x.name=[]
  · have e3:d9 p k=[]:=by simp [d9,e,hn]
    have e4:bE p k=false:=by rw [e2];simp [hn]
    rw [e3,e4]
    simp -implicitDefEqProofs only [go_sem,seval]
    refine aA (by kernel_rfl) ?_
    simp -implicitDefEqProofs only [aj,go_sem,seval]
  have e4:bE p k=true:=by rw [e2];simp [hn]
  rw [e4]
  simp -implicitDefEqProofs only [hx,go_sem,seval]
  rcases fB p x.up with ⟨f,h⟩ | ⟨u,y,hu,hul,hy,f⟩
  · have e3:d9 p k=[]:=by simp [d9,e,hn,f]
    rw [e3]
    refine bC (fun g hT=>?_) (fun g hT=>?_)
    · simp -implicitDefEqProofs only [hT,hx,go_sem,seval]
      refine aA (by kernel_rfl) ?_
      simp -implicitDefEqProofs only [aj,go_sem,seval]
    · have hge:(x.up ≥ (p.length:Int))=True:=eq_true (by omega)
      simp -implicitDefEqProofs only [hT,hx,hge,go_sem,seval]
      refine aA (by kernel_rfl) ?_
      simp -implicitDefEqProofs only [aj,go_sem,seval]
  have e3:d9 p k=y.kids.filter (bE p):=by simp [d9,e,hn,f]
  rw [e3]
  have g1:((u:Int) < 0)=False:=eq_false (by omega)
  have g2:((u:Int) ≥ (p.length:Int))=False:=eq_false (by omega)
  have hkids:=hp.kids y (mY f)
  simp -implicitDefEqProofs only [hu,g1,g2,hx,hy,go_sem,seval]
  refine aA (by kernel_rfl) ?_
  simp -implicitDefEqProofs only [hu,g1,g2,hx,hy,go_sem,seval]
  refine kJ (Qy y.kids (hk x y e f) (by omega) _ _) (Eh (by kernel_rfl)) (by simp) (Eh (by kernel_rfl)) ?_
  have hc:(aj y.kids).length=y.kids.length:=by rw [aT];simp [Enc.sz]
  have ht:List.take y.kids.length (aj y.kids)=aj y.kids:=List.take_of_length_le (by omega)
  simp -implicitDefEqProofs only [hc,ht,go_sem,seval]
  refine kJ (BD (c:=0) (q:=fun k=>!bE p k) (l:=y.kids) rfl (by omega) fun h' x0 hid=>Tg p x0 (by rw [hid 0 (by decide)];rfl)) (Eh (by kernel_rfl)) (by simp) (Eh (by kernel_rfl)) ?_
  simp -implicitDefEqProofs only [hc,ht,go_sem,seval]
  have ef:(y.kids.filter fun k=>!!bE p k)=y.kids.filter (bE p):=by simp
  refine aA (by kernel_rfl) ?_
  simp only [Bool.not_not]
  generalize hF:y.kids.filter (bE p)=F
  have hFl:F.length ≤ y.kids.length:=by rw [← hF];exact List.length_filter_le _ _
  have cF:(aj F).length=F.length:=by rw [aT];simp [Enc.sz]
  have tF:List.take F.length (aj F ++ List.replicate (y.kids.length - F.length) (AV.int .i64 0))=aj F:=by rw [List.take_left' (by rw [cF])]
  have lF:(F.length ≤ (aj F ++ List.replicate (y.kids.length - F.length) (AV.int .i64 0)).length)=True:=eq_true (by rw [List.length_append,cF];omega)
  simp -implicitDefEqProofs only [hc,ht,go_sem,seval]
  simp only [cB,view,St.get,AX.look,if_true,Nat.mul_one,Nat.zero_add,lF,List.drop_zero,tF,true_and,Option.map_some,if_false]
  try simp [cB,view,St.get,AX.look,putAt,lF,tF]
  trace_state
end W15
/- Kin of the document; places. -/
namespace W15
open Go Go.AX Go.AX.Ty Go.Proofs
theorem Ub (p:bA) (hp:gV p) (n:Int):aK Tryz.prog 185 [Enc.av p,Enc.av n] (Enc.av (d9 p n)):=by
  refine aH mix c185 (by kernel_rfl) (by kernel_rfl) (by simp [ay,ak,Go.AX.flat]) (by first | exact ak _ | simp [flat,ay,ak]) ?_
  simp -implicitDefEqProofs only [F185,go_sem,seval]
  refine au (nD p n) ?_
  simp -implicitDefEqProofs only [go_sem,seval]
  rcases fB p n with ⟨e,h⟩ | ⟨k,x,rfl,hkl,hx,e⟩
  · have e2:bE p n=false:=by simp [bE,e]
    have e3:d9 p n=[]:=by simp [d9,e]
    rw [e3,e2]
    simp -implicitDefEqProofs only [go_sem,seval]
    simp [cB,view,St.get,AX.look,aj]
  have e2:bE p k=decide (x.name ≠ []):=by simp [bE,e]
  by_cases hn:x.name=[]
  · have e3:d9 p k=[]:=by simp [d9,e,hn]
    have e4:bE p k=false:=by rw [e2];simp [hn]
    rw [e3,e4]
    simp -implicitDefEqProofs only [go_sem,seval]
    simp [cB,view,St.get,AX.look,aj]
  have e4:bE p k=true:=by rw [e2];simp [hn]
  rw [e4]
  simp -implicitDefEqProofs only [hx,go_sem,seval]
  rcases fB p x.up with ⟨f,h⟩ | ⟨u,y,hu,hul,hy,f⟩
  · have e3:d9 p k=[]:=by simp [d9,e,hn,f]
    rw [e3]
    refine bC (fun g hT=>?_) (fun g hT=>?_)
    · simp -implicitDefEqProofs only [hT,hx,go_sem,seval]
      simp [cB,view,St.get,AX.look,aj]
    · have hge:(x.up ≥ (p.length:Int))=True:=eq_true (by omega)
      simp -implicitDefEqProofs only [hT,hx,hge,go_sem,seval]
      simp [cB,view,St.get,AX.look,aj]
  have e3:d9 p k=y.kids.filter (bE p):=by simp [d9,e,hn,f]
  rw [e3]
  have g1:((u:Int) < 0)=False:=eq_false (by omega)
  have g2:((u:Int) ≥ (p.length:Int))=False:=eq_false (by omega)
  have hkids:=hp.kids y (mY f)
  simp -implicitDefEqProofs only [hu,g1,g2,hx,hy,go_sem,seval]
  generalize hl:y.kids=l at hkids
  refine aF (fun i:Nat=>l.length - i) (fun i=>[(0,Enc.av p),(5,.sl 0 ((l.take i).filter (bE p)).length 0 ((l.take i).filter (bE p)).length 1),(6,Enc.av l),(7,.int .i64 i)])
    (fun i s=>i ≤ l.length ∧ 1 ≤ s.next ∧ AX.look 0 s.heap=some (.cells ((l.take i).filter (bE p)).length (aj ((l.take i).filter (bE p))) false)) 0 ?_ ?_
  · simp -implicitDefEqProofs only [List.take_zero,List.filter_nil,aj,hl,go_sem,seval]
  rintro i ρ ⟨g,m⟩ ⟨h1,h2,h3⟩
  dsimp only at h2 h3
  have m0:(m=0)=False:=eq_false (by omega)
  generalize hF:(l.take i).filter (bE p)=F at h3
  have hFl:F.length ≤ i:=by rw [← hF];exact Nat.le_trans (List.length_filter_le _ _) (by rw [List.length_take];omega)
  have hc:(aj F).length=F.length:=by rw [aT];simp [Enc.sz]
  have ht:List.take F.length (aj F)=aj F:=List.take_of_length_le (by omega)
  rcases Nat.lt_or_ge i l.length with hi | hi
  · obtain ⟨z,hz,hd,hm⟩:=aG hi
    have hlt:((i:Int) < (l.length:Int))=True:=eq_true (by omega)
    have w1:IntKind.i64.wrap ((i:Int) + 1)=((i + 1:Nat):Int):=by rw [wrap64 (by omega) (by omega)];omega
    have hfn:(l.take (i + 1)).filter (bE p)=F ++ (if bE p z then [z] else []):=by
      rw [List.take_add_one,hz,List.filter_append,hF];simp [List.filter_cons]
    have hbd:((F.length + 1) * 8 ≤ 140737488355328)=True:=eq_true (by omega)
    have hmx:(F.length ≤ F.length)=True:=eq_true (by omega)
    simp -implicitDefEqProofs only [hlt,hz,go_sem,seval]
    refine au (nD p z) ?_
    simp -implicitDefEqProofs only [go_sem,seval]
    refine bC (fun q hT=>?_) (fun q hT=>?_)
    · rw [if_pos q] at hfn
      simp -implicitDefEqProofs only [hlt,hz,h3,hc,ht,hbd,hmx,m0,w1,go_sem,seval]
      refine ⟨i + 1,by omega,?_⟩
      rw [hfn,aW]
      simp only [List.length_append,List.length_cons,List.length_nil,Nat.zero_add,true_and,and_true]
      exact ⟨by omega,rfl⟩
    · rw [if_neg q,List.append_nil] at hfn
      simp -implicitDefEqProofs only [hlt,hz,h3,w1,go_sem,seval]
      refine ⟨i + 1,by omega,?_⟩
      rw [hfn]
      exact ⟨⟨rfl,rfl⟩,by omega,h2,rfl⟩
  · have hlt:((i:Int) < (l.length:Int))=False:=eq_false (by omega)
    simp -implicitDefEqProofs only [hlt,go_sem,seval]
    rw [List.take_of_length_le (by omega)] at hF
    rw [jv _ h3 (by omega),Nat.mul_one,ht,hF]
def fQ (p:bA) (n:Int):Int:=1 + idxOf (fun x=>n == x) (d9 p n)
theorem QJ (l:List Int) (n:Int):idxOf (fun x=>x == n) l=idxOf (fun x=>n == x) l:=by
  have:(fun x=>x == n)=fun x:Int=>n == x:=by funext x;rw [Bool.eq_iff_iff,beq_iff_eq,beq_iff_eq];exact ⟨Eq.symm,Eq.symm⟩
  rw [this]
theorem mW {p:bA} (hp:gV p) (n:Int):(d9 p n).length ≤ 1000:=by
  unfold d9
  split
  · split
    · simp
    · split
      · rename_i y hy
        exact Nat.le_trans (List.length_filter_le _ _) (hp.kids y (mY hy))
      · simp
  · simp
theorem IG (p:bA) (st:List Ty.State) (hp:gV p) (n:Int) (hk:∀ x y,nodeAt p n=some x → nodeAt p x.up=some y → y.kids ≠ []) :
    aK Tryz.prog 179 [.agg [Enc.av p,Enc.av st],Enc.av n] (.int .i64 (fQ p n)):=by
  refine aH mix c179 (by kernel_rfl) (by kernel_rfl) (by simp [ay,ak,Go.AX.flat]) (by first | exact ak _ | simp [flat,ay,ak]) ?_
  simp -implicitDefEqProofs only [F179,go_sem,seval]
  refine au (RP p hp n hk) ?_
  simp -implicitDefEqProofs only [go_sem,seval]
  refine au (ou n _ (by have:=mW hp n;omega)) ?_
  have w1:IntKind.i64.wrap (1 + idxOf (fun x=>n == x) (d9 p n))=fQ p n:=by
    have:=mW hp n
    rw [wrap64]
    · rfl
    · rcases eT (fun x=>n == x) (d9 p n) with ⟨e,_⟩ | ⟨i,x,e,hi,_⟩ <;> omega
    · rcases eT (fun x=>n == x) (d9 p n) with ⟨e,_⟩ | ⟨i,x,e,hi,_⟩ <;> omega
  simp -implicitDefEqProofs only [w1,go_sem,seval]
theorem l7 (p:bA) (hp:gV p) (n:Int):aK Tryz.prog 166 [Enc.av p,Enc.av n] (.int .i64 (fQ p n)):=by
  refine aH mix c166 (by kernel_rfl) (by kernel_rfl) (by simp [ay,ak,Go.AX.flat]) (by first | exact ak _ | simp [flat,ay,ak]) ?_
  simp -implicitDefEqProofs only [F166,go_sem,seval]
  refine au (Ub p hp n) ?_
  simp -implicitDefEqProofs only [go_sem,seval]
  have hl:=mW hp n
  unfold fQ
  generalize d9 p n=l at hl
  rw [← QJ]
  refine aF (fun i:Nat=>l.length - i) (fun i=>[(1,Enc.av n),(5,Enc.av l),(6,.int .i64 i)]) (fun i s=>i ≤ l.length ∧ Pre (fun x=>x == n) l i) 0 ?_ ?_
  · simp -implicitDefEqProofs only [go_sem,seval]
    exact Pre.zero _ _
  rintro i ρ ⟨g,m⟩ ⟨h1,h2⟩
  rcases Nat.lt_or_ge i l.length with hi | hi
  · obtain ⟨z,hz,hd,hm⟩:=aG hi
    have hlt:((i:Int) < (l.length:Int))=True:=eq_true (by omega)
    have w1:IntKind.i64.wrap ((i:Int) + 1)=((i + 1:Nat):Int):=by rw [wrap64 (by omega) (by omega)];omega
    simp -implicitDefEqProofs only [hlt,hz,go_sem,seval]
    (refine bC (fun h hT=>?_) (fun h hT=>?_) <;> try simp -implicitDefEqProofs only [hT,w1,go_sem,seval] <;> try clear hT)
    · rw [iw hz (by simpa using h) h2]
      congr 1;omega
    · exact ⟨i + 1,by omega,rfl,by omega,h2.next hz (by simpa using h)⟩
  · have hlt:((i:Int) < (l.length:Int))=False:=eq_false (by omega)
    simp -implicitDefEqProofs only [hlt,go_sem,seval]
    rw [gX (h2.all hi)];rfl
end W15
/- The places of an nth. -/
namespace W15
open Go Go.AX Go.AX.Ty Go.Proofs
def Cn (a b i:Int):Bool:=
  if a < -1000000000 ∨ a > 1000000000 then false else if b < -1000000000 ∨ b > 1000000000 then false else if i < -1000000000 ∨ i > 1000000000 then false
  else if a=0 then decide (i=b) else decide ((IntKind.i64.wrap (i - b)).tmod a=0) && decide (IntKind.i64.wrap ((IntKind.i64.wrap (i - b)).tdiv a) ≥ 0)
theorem UN (a b i:Int):aK Tryz.prog 178 [.int .i64 a,.int .i64 b,.int .i64 i] (.bool (Cn a b i)):=by
  refine aH mix c178 (by kernel_rfl) (by kernel_rfl) (by simp [ay,ak,Go.AX.flat]) (by first | exact ak _ | simp [flat,ay,ak]) ?_
  simp -implicitDefEqProofs only [F178,dH,go_sem,seval]
  rw [kC]
  refine ⟨4,?_⟩
  simp -implicitDefEqProofs only [dH,go_sem,seval]
  repeat' (refine bC (fun h hT=>?_) (fun h hT=>?_) <;> try simp -implicitDefEqProofs only [hT, *,dH,go_sem,seval] <;> try clear hT)
  all_goals (simp only [Cn,AV.bool.injEq])
  all_goals (repeat' split)
  all_goals (first | omega | rfl | (simp_all;done) | (rw [Bool.eq_iff_iff];simp;done) | skip)
  all_goals (simp_all;try omega)
theorem OW {a b i:Int} (ha:-1000000000 ≤ a ∧ a ≤ 1000000000) (hb:-1000000000 ≤ b ∧ b ≤ 1000000000) (hi:-1000000000 ≤ i ∧ i ≤ 1000000000) :
    Cn a b i=if a=0 then decide (i=b) else decide ((i - b).tmod a=0) && decide ((i - b).tdiv a ≥ 0):=by
  have hd:((i - b).tdiv a).natAbs ≤ (i - b).natAbs:=by rw [Int.natAbs_tdiv];exact Nat.div_le_self _ _
  simp only [Cn]
  rw [if_neg (by omega),if_neg (by omega),if_neg (by omega),wrap64 (n:=i - b) (by omega) (by omega),wrap64 (n:=(i - b).tdiv a) (by omega) (by omega)]
theorem xE {a b i:Int} (ha:-1000000000 ≤ a ∧ a ≤ 1000000000) (hb:-1000000000 ≤ b ∧ b ≤ 1000000000) (hi:-1000000000 ≤ i ∧ i ≤ 1000000000):Cn a b i=true ↔ ∃ q:Int,0 ≤ q ∧ i=b + q * a:=by
  rw [OW ha hb hi]
  by_cases h0:a=0
  · rw [if_pos h0,decide_eq_true_eq]
    subst h0
    constructor
    · intro h;exact ⟨0,by omega,by omega⟩
    · rintro ⟨q,_,h⟩;omega
  · rw [if_neg h0,Bool.and_eq_true,decide_eq_true_eq,decide_eq_true_eq]
    constructor
    · rintro ⟨h1,h2⟩
      have:=Int.tmod_add_mul_tdiv (i - b) a
      rw [h1] at this
      exact ⟨(i - b).tdiv a,h2,by rw [Int.mul_comm];omega⟩
    · rintro ⟨q,hq,h⟩
      have:i - b=q * a:=by omega
      rw [this]
      exact ⟨Int.mul_tmod_left q a,by rw [Int.mul_tdiv_cancel _ h0];exact hq⟩
theorem wC {d a:Int} (ha:0 < a) (hd:0 < d) (h:d.tmod a=0):∃ q:Int,0 ≤ q ∧ d=q * a:=by
  have:=Int.tmod_add_mul_tdiv d a
  rw [h] at this
  refine ⟨d.tdiv a,Int.tdiv_nonneg (by omega) (by omega),by rw [Int.mul_comm];omega⟩
theorem TM (a b i:Int) (ha:-9223372036854775808 ≤ a ∧ a ≤ 9223372036854775807) (hb:-9223372036854775808 ≤ b ∧ b ≤ 9223372036854775807) (hi:-9223372036854775808 ≤ i ∧ i ≤ 9223372036854775807) :
    aK Tryz.prog 165 [Enc.av a,Enc.av b,Enc.av i] (Enc.av (Cn a b i)):=by
  refine aH mix c165 (by kernel_rfl) (by kernel_rfl) (by simp [ay,ak,Go.AX.flat]) (by first | exact ak _ | simp [flat,ay,ak]) ?_
  by_cases hbd:(-1000000000 ≤ a ∧ a ≤ 1000000000) ∧ (-1000000000 ≤ b ∧ b ≤ 1000000000) ∧ (-1000000000 ≤ i ∧ i ≤ 1000000000)
  · have w1:IntKind.i64.wrap (b - i)=b - i:=wrap64 (by omega) (by omega)
    have w2:IntKind.i64.wrap (i - b)=i - b:=wrap64 (by omega) (by omega)
    have w3:IntKind.i64.wrap (0 - a) = - a:=by rw [wrap64 (by omega) (by omega)];omega
    simp -implicitDefEqProofs only [F165,w1,w2,w3,go_sem,seval]
    repeat' (refine bC (fun h hT=>?_) (fun h hT=>?_) <;> try simp -implicitDefEqProofs only [hT,w1,w2,w3,go_sem,seval] <;> try clear hT)
    all_goals first
      | (exfalso;omega)
      | (rw [AV.bool.injEq,Bool.eq_iff_iff,xE hbd.1 hbd.2.1 hbd.2.2,beq_iff_eq]
         rename_i h0
         exact ⟨fun e=>⟨0,by omega,by omega⟩,fun ⟨q,hq,e⟩=>by first | omega | (rw [h] at e;omega)⟩)
      | (rw [AV.bool.injEq, Bool.eq_iff_iff, xE hbd.1 hbd.2.1 hbd.2.2, beq_iff_eq]
         first
           | exact ⟨fun e=>by
               obtain ⟨q,hq,hh⟩:=wC (by omega) (by omega) e
               exact ⟨q,hq,by rw [Int.mul_neg] at hh;omega⟩,fun ⟨q,hq,e⟩=>by
               rw [show b - i=q * (-a) by rw [Int.mul_neg];omega];exact Int.mul_tmod_left _ _⟩
           | exact ⟨fun e=>by
               obtain ⟨q,hq,hh⟩:=wC (by omega) (by omega) e
               exact ⟨q,hq,by omega⟩,fun ⟨q,hq,e⟩=>by
               rw [show i - b=q * a by omega];exact Int.mul_tmod_left _ _⟩)
      | (rw [AV.bool.injEq]; symm; rw [Bool.eq_false_iff]; intro hn
         obtain ⟨q,hq,e⟩:=(xE hbd.1 hbd.2.1 hbd.2.2).1 hn
         first
           | (have:=Int.mul_nonneg hq (show 0 ≤ -a by omega);rw [Int.mul_neg] at this;omega)
           | (have:=Int.mul_nonneg hq (show 0 ≤ a by omega);omega))
      | skip
  · have hn:Cn a b i=false:=by
      unfold Cn
      repeat' split
      all_goals first | rfl | omega
    rw [hn]
    simp -implicitDefEqProofs only [F165,go_sem,seval]
    repeat' (refine bC (fun h hT=>?_) (fun h hT=>?_) <;> try simp -implicitDefEqProofs only [hT,go_sem,seval] <;> try clear hT)
    all_goals omega
end W15
