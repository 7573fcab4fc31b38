/- order.last. -/
import Derived.Test.YtoilbphgflgbeaaGreatTxD
set_option linter.unusedSimpArgs false
set_option linter.unusedVariables false
namespace W15
open Go Go.AX Go.AX.Ty Go.Proofs
def lastStep (f:Ty.Item → Bool) (top:Option Placed) (x:Placed):Option Placed:=
  if (f x.item && (match top with | none=>true | some t=>decide (t.layer ≤ x.layer)))=true then some x else top
def lastB (f:Ty.Item → Bool) (l:List Placed):Option Placed:=l.foldl (lastStep f) none
theorem zU (f:Ty.Item → Bool) (l:List Placed) (x:Placed):lastB f (l ++ [x])=lastStep f (lastB f l) x:=by
  unfold lastB;rw [List.foldl_append];rfl
def jg:List AV:=[.int .i64 0,.nils,.nils,.nils,.int .i64 0,.int .i64 0,.nils,.nils]
def Je:List AV:=[.int .i64 0,.nils,.nils,.nils,.int .i64 0,.int .i64 0,.nils,.nils,.int .i64 0]
def nZ (o:Option Placed):List AV:=match o with | some p=>Enc.cells p | none=>Je
def R5:Ty.Item:=⟨0,[],[],[],0,0,[],[]⟩
def kU (o:Option Placed):Ty.Item:=match o with | some p=>p.item | none=>R5
structure nL (mf:AV) (O:AX.Obj) (top:Option Placed) (s:St):Prop where
  n:4 < s.next
  c0:s.get 0=some (.cells 0 [mf] false)
  c1:s.get 1=some (.cells 0 jg false)
  c2:s.get 2=some (.cells 0 (nZ top) false)
  c3:s.get 3=some (.cells 0 [.bool top.isSome] false)
def MJ (f:Ty.Item → Bool) (mf:AV) (O:AX.Obj) (acc:List Placed) (D:List Nat) (s:St):Prop:=D=[0,1,2,3,4] ∧ s.get 4=some O ∧ nL mf O (lastB f acc) s
theorem nL.move {mf:AV} {O:AX.Obj} {top:Option Placed} {s s':St} (h:nL mf O top s) (h1:4 < s'.next) (h2:∀ id,id < 4 → s'.get id=s.get id):nL mf O top s':=
  ⟨h1,by rw [h2 0 (by omega)];exact h.c0,by rw [h2 1 (by omega)];exact h.c1,by rw [h2 2 (by omega)];exact h.c2,by rw [h2 3 (by omega)];exact h.c3⟩
theorem nL.hide {mf:AV} {O:AX.Obj} {top:Option Placed} {s:St} (h:nL mf O top s):nL mf O top (s.hide [4]):=
  h.move h.n fun id hid=>by rw [bX,if_neg (by omega)]
theorem nL.join {mf:AV} {O:AX.Obj} {top:Option Placed} {s s2:St} (hr:s.get 4=some O) (h:nL mf O top s2):nL mf O top (s.join s2 [4]):=
  h.move h.n fun id hid=>by rw [get_join _ _ _ _ hr,if_neg (by omega)]
theorem IJ {f:Ty.Item → Bool} {mf:AV} {O:AX.Obj} {acc:List Placed} {x:Placed} {s s2:St} (hr:s.get 4=some O) (h:nL mf O (lastB f (acc ++ [x])) s2) (h1:s.next ≤ s2.next) (h3:∀ id,id < s.next → 4 < id → s2.get id=s.get id) :
    AV.bool true=.bool true ∧ ∃ D',MJ f mf O (acc ++ [x]) D' (s.join s2 [4]) ∧ s.next ≤ (s.join s2 [4]).next ∧ (∀ id ∈ D',id ∈ [0,1,2,3,4] ∨ s.next ≤ id) ∧ ∀ id,id < s.next → id ∉ [0,1,2,3,4] → (s.join s2 [4]).get id=s.get id:=by
  have hj:=fun id=>get_join s s2 4 id hr
  refine ⟨rfl,_,⟨rfl,by rw [hj,if_pos rfl],h.join hr⟩,h1,fun id h=>.inl h,fun id q1 q2=>?_⟩
  have q3:4 < id:=by simp only [List.mem_cons,List.not_mem_nil,or_false,not_or] at q2;omega
  rw [hj,if_neg (by omega)];exact h3 id q1 q3
theorem um {P:Program} {N:Nat} {fo:AO} {ps:List Nat} {ca cb:bM} {ρ:Env} {s:St} {Q:Qx} (h:∀ ρ':Env,ρ'=ρ → @xG P N fo ps ca cb ρ' s Q):@xG P N fo ps ca cb ρ s Q:=h ρ rfl
set_option maxHeartbeats 1600000 in
theorem Ik (w:Int) (l:List (List Ty.Item)) (ok:uU l) (g:Nat) (f:Ty.Item → Bool) (name:Str) (hf:∀ p ∈ dG w l,aK Tryz.prog g [Enc.av p.item,.vp [.str name]] (.bool (f p.item))) :
    aK Tryz.prog 45 [.int .i64 w,Enc.av l,.fn (.func g) [] [.vp [.str name]]] (.tup [Enc.av (kU (lastB f (dG w l))),.bool (lastB f (dG w l)).isSome]):=by
  refine wB mix c45 (by kernel_rfl) (by kernel_rfl) (by simp [ay,ak,Go.AX.flat]) (by simp [ay,ak,Go.AX.flat]) ?_
  simp -implicitDefEqProofs only [F45,go_sem,seval]
  refine au (qK w l ok.flat ok.len ok.names) ?_
  simp -implicitDefEqProofs only [go_sem,seval]
  refine au (Oz w (bQ l) l) ?_
  simp -implicitDefEqProofs only [go_sem,seval]
  refine um fun ρ hρ=>?_
  have h5:ρ 5=.ptr 0 0 0:=by rw [hρ];rfl
  have h6:ρ 6=.ptr 1 0 0:=by rw [hρ];rfl
  have h8:ρ 8=.ptr 2 0 0:=by rw [hρ];rfl
  have h9:ρ 9=.ptr 3 0 0:=by rw [hρ];rfl
  have h15:bF ρ (.t 15)=.fn (.func 70) [] [.vp [.int .i64 w,.ps (bQ l).length (aj (bQ l)),.ps l.length (aj l)]]:=by rw [hρ];rfl
  clear hρ
  refine ⟨_,_,fun lp rec us s'=>∃ D,MJ f (.fn (.func g) [] [.vp [.str name]]) (.raw lp (.loop rec) (gW 36 ρ) us) (dG w l) D s',h15,fun lp rec us okr=>?_,fun lp rec us s' okr hR=>?_⟩
  · have Y : Ak lp (dG w l) (MJ f (.fn (.func g) [] [.vp [.str name]]) (.raw lp (.loop rec) (gW 36 ρ) us)) := by
      refine ⟨fun ⟨h,_,h2⟩ id hid=>?_,fun ⟨h,h1,h2⟩ h3 h4=>?_,?_⟩
      · subst h;have:=h2.n;simp only [List.mem_cons,List.not_mem_nil,or_false] at hid;omega
      · subst h;exact ⟨rfl,by rw [h4 4 (by simp)];exact h1,h2.move (by have:=h2.n;omega) fun id hid=>h4 id (by simp only [List.mem_cons,List.not_mem_nil,or_false];omega)⟩
      rintro acc D s x hT ⟨rfl,hr,h1⟩
      refine wJ mix hr okr rfl (by kernel_rfl) ?_
      have hmem:x ∈ dG w l:=hT.subset (by simp)
      have hfx:=hf x hmem
      have ep:AA ρ [16] [Enc.av x]=upd ρ 16 (Enc.av x):=rfl
      rw [ep,Placed.fC]
      have h2:=h1.hide
      have hg:=bX s 4
      have hn:(s.hide [4]).next=s.next:=rfl
      generalize s.hide [4]=s0 at hg hn h2
      obtain ⟨gg,m⟩:=s0
      have g0:=h2.c0
      have g1:=h2.c1
      have g2:=h2.c2
      have g3:=h2.c3
      have gn:=h2.n
      simp only [St.get] at g0 g1 g2 g3 hn hg gn
      have m0:(m=0)=False:=eq_false (by omega)
      have m1:(m=1)=False:=eq_false (by omega)
      have m2:(m=2)=False:=eq_false (by omega)
      have m3:(m=3)=False:=eq_false (by omega)
      simp -implicitDefEqProofs only [h5,h6,h8,h9,g0,g1,g2,g3,m0,m1,m2,m3,go_sem,seval]
      rw [Item.fC] at hfx
      refine au hfx ?_
      have hsn:=zU f acc x
      cases hb:f x.item
      · have hsn2:lastB f (acc ++ [x])=lastB f acc:=by rw [hsn];unfold lastStep;rw [hb];rfl
        simp -implicitDefEqProofs only [go_sem,seval]
        refine IJ hr (by rw [hsn2];exact h2.move (by simp only;omega) fun id hid=>by simp only [St.get,AX.look];rw [if_neg (by omega)]) (by simp only;omega) fun id q1 q2=>by simp only [St.get,AX.look];rw [if_neg (by omega),hg,if_neg (by omega)]
      · generalize lastB f acc=top at *
        cases top with
        | none =>
          have hsn2:lastB f (acc ++ [x])=some x:=by rw [hsn];unfold lastStep;rw [hb];rfl
          simp only [nZ,Je,jg,Option.isSome_none] at g2 g3 g1
          simp -implicitDefEqProofs only [h8,h9,g2,g3,m0,m1,m2,m3,go_sem,seval]
          refine IJ hr (by rw [hsn2];exact ⟨by simp only;omega,by simp only [St.get,AX.look,aS,g0,g1,g2,g3,m0,m1,m2,m3,Nat.reduceEqDiff,if_false,if_true,Option.map_some,nZ,Placed.aO,Option.isSome_some,jg,reduceCtorEq,Nat.reduceEqDiff],by simp only [St.get,AX.look,aS,g0,g1,g2,g3,m0,m1,m2,m3,Nat.reduceEqDiff,if_false,if_true,Option.map_some,nZ,Placed.aO,Option.isSome_some,jg,reduceCtorEq,Nat.reduceEqDiff],by simp only [St.get,AX.look,aS,g0,g1,g2,g3,m0,m1,m2,m3,Nat.reduceEqDiff,if_false,if_true,Option.map_some,nZ,Placed.aO,Option.isSome_some,jg,reduceCtorEq,Nat.reduceEqDiff],by simp only [St.get,AX.look,aS,g0,g1,g2,g3,m0,m1,m2,m3,Nat.reduceEqDiff,if_false,if_true,Option.map_some,nZ,Placed.aO,Option.isSome_some,jg,reduceCtorEq,Nat.reduceEqDiff]⟩) (by simp only;omega) fun id q1 q2=>by
            have a2:¬ 2=id:=by omega
            have a3:¬ 3=id:=by omega
            have am:¬ m=id:=by omega
            simp only [St.get,AX.look,aS,a2,a3,am,if_false]
            rw [hg,if_neg (by omega)]
        | some p =>
          simp only [nZ,Placed.aO,jg,Option.isSome_some] at g2 g3 g1
          by_cases hle:p.layer ≤ x.layer
          · have hsn2:lastB f (acc ++ [x])=some x:=by rw [hsn];unfold lastStep;rw [hb];simp [hle]
            have fle:(x.layer ≥ p.layer)=True:=eq_true hle
            simp -implicitDefEqProofs only [h8,h9,g2,g3,m0,m1,m2,m3,fle,go_sem,seval]
            refine IJ hr (by rw [hsn2];exact ⟨by simp only;omega,by simp only [St.get,AX.look,aS,g0,g1,g2,g3,m0,m1,m2,m3,Nat.reduceEqDiff,if_false,if_true,Option.map_some,nZ,Placed.aO,Option.isSome_some,jg,reduceCtorEq,Nat.reduceEqDiff],by simp only [St.get,AX.look,aS,g0,g1,g2,g3,m0,m1,m2,m3,Nat.reduceEqDiff,if_false,if_true,Option.map_some,nZ,Placed.aO,Option.isSome_some,jg,reduceCtorEq,Nat.reduceEqDiff],by simp only [St.get,AX.look,aS,g0,g1,g2,g3,m0,m1,m2,m3,Nat.reduceEqDiff,if_false,if_true,Option.map_some,nZ,Placed.aO,Option.isSome_some,jg,reduceCtorEq,Nat.reduceEqDiff],by simp only [St.get,AX.look,aS,g0,g1,g2,g3,m0,m1,m2,m3,Nat.reduceEqDiff,if_false,if_true,Option.map_some,nZ,Placed.aO,Option.isSome_some,jg,reduceCtorEq,Nat.reduceEqDiff]⟩) (by simp only;omega) fun id q1 q2=>by
              have a2:¬ 2=id:=by omega
              have a3:¬ 3=id:=by omega
              have am:¬ m=id:=by omega
              simp only [St.get,AX.look,aS,a2,a3,am,if_false]
              rw [hg,if_neg (by omega)]
          · have hsn2:lastB f (acc ++ [x])=some p:=by rw [hsn];unfold lastStep;rw [hb];simp [hle]
            have fle:(x.layer ≥ p.layer)=False:=eq_false hle
            simp -implicitDefEqProofs only [h8,h9,g2,g3,m0,m1,m2,m3,fle,go_sem,seval]
            refine IJ hr (by rw [hsn2];exact ⟨by simp only;omega,by simp only [St.get,AX.look,aS,g0,g1,g2,g3,m0,m1,m2,m3,Nat.reduceEqDiff,if_false,if_true,Option.map_some,nZ,Placed.aO,Option.isSome_some,jg,reduceCtorEq,Nat.reduceEqDiff],by simp only [St.get,AX.look,aS,g0,g1,g2,g3,m0,m1,m2,m3,Nat.reduceEqDiff,if_false,if_true,Option.map_some,nZ,Placed.aO,Option.isSome_some,jg,reduceCtorEq,Nat.reduceEqDiff],by simp only [St.get,AX.look,aS,g0,g1,g2,g3,m0,m1,m2,m3,Nat.reduceEqDiff,if_false,if_true,Option.map_some,nZ,Placed.aO,Option.isSome_some,jg,reduceCtorEq,Nat.reduceEqDiff],by simp only [St.get,AX.look,aS,g0,g1,g2,g3,m0,m1,m2,m3,Nat.reduceEqDiff,if_false,if_true,Option.map_some,nZ,Placed.aO,Option.isSome_some,jg,reduceCtorEq,Nat.reduceEqDiff]⟩) (by simp only;omega) fun id q1 q2=>by
              have a2:¬ 2=id:=by omega
              have a3:¬ 3=id:=by omega
              have am:¬ m=id:=by omega
              simp only [St.get,AX.look,aS,a2,a3,am,if_false]
              rw [hg,if_neg (by omega)]
    have he:=MQ Y w ok (acc:=[]) (by simp) (D:=[0,1,2,3,4]) (s:=St.push ⟨[(3,.cells 0 [.bool false] false),(2,.cells 0 Je false),(1,.cells 0 jg false),(0,.cells 0 [.fn (.func g) [] [.vp [.str name]]] false)],4⟩ (.raw lp (.loop rec) (gW 36 ρ) us)) ⟨rfl,rfl,by simp [St.push],rfl,rfl,rfl,rfl⟩
    exact he.mono fun v s' ⟨D,h,_⟩=>⟨D,by simpa using h⟩
  · obtain ⟨D,_,hr,h1⟩:=hR
    refine ⟨_,_,.inl ⟨hr,?_⟩⟩
    have h2:=nL.hide h1
    generalize s'.hide [4]=s2 at h2
    obtain ⟨gg,m⟩:=s2
    have g0:=h2.c0
    have g1:=h2.c1
    have g2:=h2.c2
    have g3:=h2.c3
    simp only [St.get] at g0 g1 g2 g3
    generalize lastB f (dG w l)=top at *
    cases top with
    | none =>
      simp only [nZ,Je,jg,Option.isSome_none] at g2 g3 g1
      simp -implicitDefEqProofs only [h5,h6,h8,h9,g0,g1,g2,g3,go_sem,seval]
      have gn:=h2.n
      simp only at gn
      refine aA (by (first | omega | (simp [aB,aD,aC,Nat.testBit_eq_decide_div_mod_eq];done) | (simp [aB,aD,aC,Nat.testBit_eq_decide_div_mod_eq];omega) | kernel_rfl)) ?_
      simp -implicitDefEqProofs only [h6,h9,g0,g1,g2,g3,go_sem,seval]
      repeat (refine aA (by (first | omega | (simp [aB,aD,aC,Nat.testBit_eq_decide_div_mod_eq];done) | (simp [aB,aD,aC,Nat.testBit_eq_decide_div_mod_eq];omega) | kernel_rfl)) ?_;simp -implicitDefEqProofs only [h6,h9,g0,g1,g2,g3,go_sem,seval])
      unfold dW kU
      rfl
    | some p =>
      simp only [nZ,Placed.aO,jg,Option.isSome_some] at g2 g3 g1
      simp -implicitDefEqProofs only [h5,h6,h8,h9,g0,g1,g2,g3,go_sem,seval]
      have gn:=h2.n
      simp only at gn
      refine aA (by (first | omega | (simp [aB,aD,aC,Nat.testBit_eq_decide_div_mod_eq];done) | (simp [aB,aD,aC,Nat.testBit_eq_decide_div_mod_eq];omega) | kernel_rfl)) ?_
      simp -implicitDefEqProofs only [h6,h9,g0,g1,g2,g3,go_sem,seval]
      repeat (refine aA (by (first | omega | (simp [aB,aD,aC,Nat.testBit_eq_decide_div_mod_eq];done) | (simp [aB,aD,aC,Nat.testBit_eq_decide_div_mod_eq];omega) | kernel_rfl)) ?_;simp -implicitDefEqProofs only [h6,h9,g0,g1,g2,g3,go_sem,seval])
      unfold dW kU
      simp [bI,bf,iA,aP]
end W15
/- Frames; fonts. -/
namespace W15
open Go Go.AX Go.AX.Ty Go.Proofs
theorem Et (w:Int) (name:Str) (l:List (List Ty.Item)) (ok:uU l) :
    aK Tryz.prog 18 [.int .i64 w,.str name,Enc.av l] (.tup [Enc.av (kU (lastB (bP name) (dG w l))).vals,.bool (lastB (bP name) (dG w l)).isSome]):=by
  refine aH mix c18 (by kernel_rfl) (by kernel_rfl) (by simp [ay,ak,Go.AX.flat]) (by simp [ay,ak,Go.AX.flat]) ?_
  simp -implicitDefEqProofs only [F18,go_sem,seval]
  refine vG (Ik w l ok 46 (bP name) name fun p _=>Ka p.item name) ?_
  simp -implicitDefEqProofs only [go_sem,seval]
theorem Hl (ds:List Ty.Decl):aK Tryz.prog 48 [Enc.av ds] (.fn (.func 75) [] [.vp [.ps ds.length (aj ds)]]):=by
  refine eH mix c48 (by kernel_rfl) (by kernel_rfl) (by simp [ay,ak]) (by simp [flat,ay,aP]) ?_
  simp -implicitDefEqProofs only [F48,go_sem,seval]
  unfold dW
  simp [bI,bf,p8,iA,qw,St.get,AX.look,aP]
structure RZ (lp:Nat) (ds:List Ty.Decl) (stop:Ty.Decl → Bool) (I:St → Prop) (J:Ty.Decl → St → Prop):Prop where
  go:∀ {s:St} (d:Ty.Decl) (i:Int),d ∈ ds → stop d=false → I s → iD Tryz.prog lp [.int .i64 i,Enc.av d] s fun v s'=>v=.bool true ∧ I s'
  halt:∀ {s:St} (d:Ty.Decl) (i:Int),d ∈ ds → stop d=true → I s → iD Tryz.prog lp [.int .i64 i,Enc.av d] s fun v s'=>v=.bool false ∧ J d s'
def bOut (I:St → Prop) (J:Ty.Decl → St → Prop) (o:Option Ty.Decl) (s:St):Prop:=match o with | some d=>J d s | none=>I s
theorem KT {p:Ty.Decl → Bool} {ds:List Ty.Decl} {i:Nat} {d:Ty.Decl} (h:ds[i]? = some d):(ds.take (i + 1)).reverse.find? p=if p d=true then some d else (ds.take i).reverse.find? p:=by
  rw [List.take_add_one,h]
  simp only [Option.toList_some,List.reverse_append,List.reverse_singleton,List.singleton_append,List.find?_cons]
  cases p d <;> rfl
theorem Rl {lp:Nat} {stop:Ty.Decl → Bool} {I:St → Prop} {J:Ty.Decl → St → Prop} {ds:List Ty.Decl} (B:RZ lp ds stop I J) (hl:ds.length ≤ 1000000) {s:St} (hI:I s) :
    aR Tryz.prog 75 [.fn (.yield lp) [] [],.vp [.ps ds.length (aj ds)]] s fun v s'=>bOut I J (ds.reverse.find? stop) s':=by
  obtain ⟨h0,m0⟩:=s
  refine bT mix (fH _) c75 (by kernel_rfl) (Nat.le_of_ble_eq_true (by kernel_rfl)) ?_
  have w0:IntKind.i64.wrap ((ds.length:Int) - 1)=(ds.length:Int) - 1:=wrap64 (by omega) (by omega)
  simp -implicitDefEqProofs only [F75,w0,go_sem,seval]
  refine aF (fun i:Nat=>i) (fun i=>[(0,.fn (.yield lp) [] []),(1,.vp [.ps ds.length (aj ds)]),(3,.int .i64 ((i:Int) - 1))]) (fun i s=>i ≤ ds.length ∧ ds.reverse.find? stop=(ds.take i).reverse.find? stop ∧ I s) ds.length ?_ ?_
  · simp -implicitDefEqProofs only [go_sem,seval]
    exact ⟨by rw [List.take_length],hI⟩
  rintro i ρ ⟨g,m⟩ ⟨h1,h2,h3⟩
  rcases Nat.lt_or_ge 0 i with hk | hk
  · obtain ⟨d,hx,hdr,hm⟩:=aG (l:=ds) (k:=i - 1) (by omega)
    have hge:((i:Int) - 1 ≥ 0)=True:=eq_true (by omega)
    have w1:IntKind.i64.wrap ((i:Int) - 1 - 1)=(((i - 1:Nat):Int) - 1):=by rw [wrap64 (by omega) (by omega)];omega
    have hti:((i:Int) - 1).toNat=i - 1:=by omega
    have hz0:((0:Int) ≤ (i:Int) - 1)=True:=eq_true (by omega)
    have hsn:=KT (p:=stop) hx
    rw [show i - 1 + 1=i by omega] at hsn
    cases hst:stop d
    · rw [hst] at hsn
      have hy:=B.go d ((i:Int) - 1) hm hst h3
      rw [Decl.fC] at hy
      simp -implicitDefEqProofs only [hge,hti,hx,hz0,go_sem,seval]
      refine kV hy ?_
      rintro v ⟨g2,m2⟩ ⟨rfl,j1⟩
      simp -implicitDefEqProofs only [w1,go_sem,seval]
      exact ⟨i - 1,by omega,rfl,by omega,by rw [h2,hsn];rfl,j1⟩
    · rw [hst] at hsn
      have hy:=B.halt d ((i:Int) - 1) hm hst h3
      rw [Decl.fC] at hy
      simp -implicitDefEqProofs only [hge,hti,hx,hz0,go_sem,seval]
      refine kV hy ?_
      rintro v ⟨g2,m2⟩ ⟨rfl,j1⟩
      simp -implicitDefEqProofs only [go_sem,seval]
      rw [h2,hsn]
      exact j1
  · have hge:((i:Int) - 1 ≥ 0)=False:=eq_false (by omega)
    have hi:i=0:=by omega
    subst hi
    simp -implicitDefEqProofs only [hge,go_sem,seval]
    rw [h2];exact h3
end W15
/- Fonts. -/
namespace W15
open Go Go.AX Go.AX.Ty Go.Proofs
structure gU (x:Ty.Item) (b:Bool) (s:St):Prop where
  n:2 < s.next
  c0:s.get 0=some (.cells 0 (Enc.cells x) false)
  c1:s.get 1=some (.cells 0 [.bool b] false)
theorem gU.move {x:Ty.Item} {b:Bool} {s s':St} (h:gU x b s) (h1:2 < s'.next) (h2:∀ id,id < 2 → s'.get id=s.get id):gU x b s':=
  ⟨h1,by rw [h2 0 (by omega)];exact h.c0,by rw [h2 1 (by omega)];exact h.c1⟩
theorem gU.hide {x:Ty.Item} {b:Bool} {s:St} (h:gU x b s):gU x b (s.hide [2]):=
  h.move h.n fun id hid=>by rw [bX,if_neg (by omega)]
theorem gU.join {x:Ty.Item} {b:Bool} {s s2:St} {O:AX.Obj} (hr:s.get 2=some O) (h:gU x b s2):gU x b (s.join s2 [2]):=
  h.move h.n fun id hid=>by rw [get_join _ _ _ _ hr,if_neg (by omega)]
theorem get_put (s:St) (r id:Nat) (o:AX.Obj):(s.put r o).get id=if r=id then (s.get id).map (fun _=>o) else s.get id:=by
  simp only [St.put,St.get,aS]
  split
  · rename_i h;subst h;rfl
  · rfl
theorem gU.put {x:Ty.Item} {b:Bool} {s:St} {O:AX.Obj} (h:gU x b s):gU x b (s.put 2 O):=
  h.move h.n fun id hid=>by rw [get_put,if_neg (by omega)]
set_option maxHeartbeats 1600000 in
theorem Rz (x:Ty.Item) (hl:x.decls.length ≤ 1000000) (hd:∀ d ∈ x.decls,d.l.length ≤ 1000000) (name:Str):aK Tryz.prog 47 [Enc.av x,.vp [.str name]] (.bool (eG name x)):=by
  obtain ⟨fv,hfv⟩:∃ fv:Ty.Decl → Bool,∀ d,fv d=(decide (x.kind=6) && (Bd d.l == some name)):=⟨_,fun _=>rfl⟩
  refine wB mix c47 (by kernel_rfl) (by kernel_rfl) (by simp [ay,flat,ak]) (by simp [flat]) ?_
  simp -implicitDefEqProofs only [F47,go_sem,seval]
  refine au (Hl x.decls) ?_
  simp -implicitDefEqProofs only [go_sem,seval]
  refine um fun ρ hρ=>?_
  have h1:ρ 1=.vp [.str name]:=by rw [hρ];rfl
  have h2:ρ 2=.ptr 0 0 0:=by rw [hρ];rfl
  have h3:ρ 3=.ptr 1 0 0:=by rw [hρ];rfl
  have h8:bF ρ (.t 8)=.fn (.func 75) [] [.vp [.ps x.decls.length (aj x.decls)]]:=by rw [hρ];rfl
  clear hρ
  refine ⟨_,_,fun lp rec us s'=>bOut (fun s=>gU x false s ∧ s.get 2=some (.raw lp (.loop rec) (gW 23 ρ) us)) (fun d s=>gU x (fv d) s ∧ s.get 2=some (.raw lp (.loop (fP rec)) (gW 23 ρ) us)) (x.decls.reverse.find? fun d=>d.name == LJ) s',h8,fun lp rec us okr=>?_,fun lp rec us s' okr hR=>?_⟩
  · have B : RZ lp x.decls (fun d => d.name == LJ) (fun s => gU x false s ∧ s.get 2 = some (.raw lp (.loop rec) (gW 23 ρ) us)) (fun d s => gU x (fv d) s ∧ s.get 2 = some (.raw lp (.loop (fP rec)) (gW 23 ρ) us)) := by
      have comm:∀ {s:St} (d:Ty.Decl) (i:Int),d ∈ x.decls → gU x false s ∧ s.get 2=some (.raw lp (.loop rec) (gW 23 ρ) us) → iD Tryz.prog lp [.int .i64 i,Enc.av d] s fun v s'=>
          if (d.name == LJ)=true then v=.bool false ∧ (gU x (fv d) s' ∧ s'.get 2=some (.raw lp (.loop (fP rec)) (gW 23 ρ) us)) else v=.bool true ∧ (gU x false s' ∧ s'.get 2=some (.raw lp (.loop rec) (gW 23 ρ) us)):=by
        rintro s d i hdm ⟨hI,hr⟩
        refine wJ mix hr okr rfl (by kernel_rfl) ?_
        have ep:AA ρ [9,10] [.int .i64 i,Enc.av d]=upd (upd ρ 9 (.int .i64 i)) 10 (Enc.av d):=rfl
        rw [ep,Decl.fC]
        have hh:=hI.hide
        have hj:=fun (b:Bool) (s1:St)=>gU.join (x:=x) (b:=b) (s2:=s1) hr
        have hj2:=fun s1 id=>get_join s s1 2 id hr
        generalize s.hide [2]=s0 at hh
        obtain ⟨gg,m⟩:=s0
        have g0:=hh.c0
        have g1:=hh.c1
        have gn:=hh.n
        simp only [St.get,Item.aO] at g0 g1 gn
        have m0:(m=0)=False:=eq_false (by omega)
        have m1:(m=1)=False:=eq_false (by omega)
        by_cases hn:d.name=LJ
        · have fn:(d.name=[102,111,110,116,45,102,97,109,105,108,121])=True:=eq_true hn
          have hnb:(d.name == LJ)=true:=by simp [hn]
          by_cases hk:x.kind=6
          · have fk:=eq_true hk
            have hfam:=NC d.l (hd d hdm) name
            simp -implicitDefEqProofs only [h1,h2,h3,g0,g1,m0,m1,fn,fk,go_sem,seval]
            refine au hfam ?_
            simp -implicitDefEqProofs only [h3,g1,m0,m1,fk,go_sem,seval]
            simp only [Ch]
            rw [if_pos hn]
            have hv:fv d=(Bd d.l == some name):=by rw [hfv];simp [hk]
            refine ⟨by simp,gU.put (hj _ _ ⟨by simp only;omega,?_,?_⟩),?_⟩
            · simp only [St.get,AX.look,aS,m0,Nat.reduceEqDiff,if_false,g0,Item.aO]
            · simp only [St.get,AX.look,aS,m1,if_true,if_false,g1,Option.map_some,hv]
            · have:=get_put (s.join ⟨(m,.cells 0 [.str d.name,.ps d.l.length (aj d.l),.bool d.important] false) :: putAt 1 (.cells 0 [.bool (Bd d.l == some name)] false) gg,m + 1⟩ [2]) 2 2 (.raw lp (.loop (fP rec)) (gW 23 ρ) us)
              rw [if_pos rfl,hj2,if_pos rfl] at this
              exact this
          · have fk:=eq_false hk
            simp -implicitDefEqProofs only [h1,h2,h3,g0,g1,m0,m1,fn,fk,go_sem,seval]
            simp only [Ch]
            rw [if_pos hn]
            have hv:fv d=false:=by rw [hfv];simp [hk]
            refine ⟨by simp,gU.put (hj _ _ ⟨by simp only;omega,?_,?_⟩),?_⟩
            · simp only [St.get,AX.look,aS,m0,Nat.reduceEqDiff,if_false,g0,Item.aO]
            · simp only [St.get,AX.look,aS,m1,if_true,if_false,g1,Option.map_some,hv]
            · have:=get_put (s.join ⟨(m,.cells 0 [.str d.name,.ps d.l.length (aj d.l),.bool d.important] false) :: putAt 1 (.cells 0 [.bool false] false) gg,m + 1⟩ [2]) 2 2 (.raw lp (.loop (fP rec)) (gW 23 ρ) us)
              rw [if_pos rfl,hj2,if_pos rfl] at this
              exact this
        · have fn:(d.name=[102,111,110,116,45,102,97,109,105,108,121])=False:=eq_false hn
          have hnb:(d.name == LJ)=false:=by simp [hn]
          simp -implicitDefEqProofs only [h1,h2,h3,g0,g1,m0,m1,fn,go_sem,seval]
          simp only [Ch]
          rw [if_neg hn]
          refine ⟨by simp,hj _ _ ⟨by simp only;omega,?_,?_⟩,?_⟩
          · simp only [St.get,AX.look,m0,if_false,g0,Item.aO]
          · simp only [St.get,AX.look,m1,if_false,g1]
          · exact (hj2 _ 2).trans (if_pos rfl)
      refine ⟨fun d i hdm hst hI=>(comm d i hdm hI).mono fun v s' h=>?_,fun d i hdm hst hI=>(comm d i hdm hI).mono fun v s' h=>?_⟩
      · rw [if_neg (by rw [hst];decide)] at h;exact h
      · rw [if_pos hst] at h;exact h
    have he:=Rl B hl (s:=St.push ⟨[(1,.cells 0 [.bool false] false),(0,.cells 0 (Enc.cells x) false)],2⟩ (.raw lp (.loop rec) (gW 23 ρ) us)) ⟨⟨by simp [St.push],rfl,rfl⟩,rfl⟩
    rw [Item.aO] at he
    exact he
  · cases hfd:x.decls.reverse.find? (fun d=>d.name == LJ) with
    | none =>
      rw [hfd] at hR
      obtain ⟨hI,hr⟩:=hR
      refine ⟨_,_,.inl ⟨hr,?_⟩⟩
      have hh:=hI.hide
      generalize s'.hide [2]=s2 at hh
      obtain ⟨gg,m⟩:=s2
      have g0:=hh.c0
      have g1:=hh.c1
      simp only [St.get] at g0 g1
      have hff:eG name x=false:=by unfold eG tq;rw [hfd];simp
      simp -implicitDefEqProofs only [h3,g1,go_sem,seval]
      rw [hff];rfl
    | some d =>
      rw [hfd] at hR
      obtain ⟨hI,hr⟩:=hR
      refine ⟨_,_,.inr ⟨hr,?_⟩⟩
      have hh:=hI.hide
      generalize s'.hide [2]=s2 at hh
      obtain ⟨gg,m⟩:=s2
      have g0:=hh.c0
      have g1:=hh.c1
      simp only [St.get] at g0 g1
      have hff:eG name x=fv d:=by rw [hfv];unfold eG tq;rw [hfd]
      simp -implicitDefEqProofs only [h3,g1,go_sem,seval]
      rw [hff];rfl
end W15
/- Better. -/
namespace W15
open Go Go.AX Go.AX.Ty Go.Proofs
theorem H9 (w:Int) (name:Str) (l:List (List Ty.Item)) (ok:uU l) (hd:∀ p ∈ dG w l,p.item.decls.length ≤ 1000000 ∧ ∀ d ∈ p.item.decls,d.l.length ≤ 1000000) :
    aK Tryz.prog 20 [.int .i64 w,.str name,Enc.av l] (.tup [Enc.av (kU (lastB (eG name) (dG w l))).decls,.bool (lastB (eG name) (dG w l)).isSome]):=by
  refine aH mix c20 (by kernel_rfl) (by kernel_rfl) (by simp [ay,ak,Go.AX.flat]) (by simp [ay,ak,Go.AX.flat]) ?_
  simp -implicitDefEqProofs only [F20,go_sem,seval]
  refine vG (Ik w l ok 47 (eG name) name fun p hp=>Rz p.item (hd p hp).1 (hd p hp).2 name) ?_
  simp -implicitDefEqProofs only [go_sem,seval]
theorem Av (a b:Int):aK Tryz.prog 56 [.int .i64 a,.int .i64 b] (.int .i64 (jM a b)):=⟨Us a b,rfl,rfl⟩
theorem U5 (a b c:Int):aK Tryz.prog 57 [.ps 3 [.int .i64 a,.int .i64 b,.int .i64 c]] (.int .i64 (PL a b c)):=⟨Uw a b c,rfl,rfl⟩
def lU (w v:W3):Int:=if Gy w v=true then -1 else if Gy v w=true then 1 else 0
theorem Ig (a:Int):jM a a=0:=by unfold jM;rw [if_neg (by omega),if_neg (by omega)]
theorem Ci {a b:Int} (h:a ≠ b):jM a b ≠ 0 ∧ (jM a b > 0 ↔ b < a):=by
  unfold jM
  by_cases h1:a < b
  · rw [if_pos h1];constructor <;> omega
  · rw [if_neg h1,if_pos (by omega)];constructor <;> omega
theorem Dn (a b:Int):IntKind.i64.wrap (0 - jM a b)=jM b a:=by
  unfold jM
  by_cases h1:a < b
  · rw [if_pos h1,if_neg (by omega),if_pos h1];rfl
  · rw [if_neg h1]
    by_cases h2:b < a
    · rw [if_pos h2,if_pos h2];rfl
    · rw [if_neg h2,if_neg h2,if_neg h1];rfl
theorem Ii (w v:W3):LV w v=Gy v w:=rfl
theorem NH (w:W3):lU w w=0:=by
  have:=PU w;rw [Ii] at this
  unfold lU;rw [this];rfl
theorem D6 {w v:W3} (h:w ≠ v):lU w v ≠ 0 ∧ (lU w v > 0 ↔ LV w v=true):=by
  unfold lU
  rcases QM w v with h1 | h1 | h1
  · exact absurd h1 h
  · have h2:=Dk h1
    rw [Ii] at h2
    have h3:=h1
    rw [Ii] at h3
    rw [h2,if_neg (by decide),if_pos h3]
    simp [h1]
  · have h2:=Dk h1
    rw [Ii] at h1
    rw [h1,if_pos rfl]
    simp [h2]
theorem Si (l l' p p':Int) (w v:W3):(PL (jM l l') (lU w v) (jM p p') > 0) ↔ (if l=l' then (if w=v then p' < p else LV w v=true) else l' < l):=by
  unfold PL
  by_cases h:l=l'
  · subst h
    rw [Ig,if_neg (by simp),if_pos rfl]
    by_cases h2:w=v
    · subst h2
      rw [NH,if_neg (by simp),if_pos rfl]
      by_cases h3:p=p'
      · subst h3;rw [Ig];omega
      · exact (Ci h3).2
    · rw [if_pos (D6 h2).1,if_neg h2];exact (D6 h2).2
  · rw [if_pos (Ci h).1,if_neg h];exact (Ci h).2
theorem Rj (w v:W3):aK Tryz.prog 58 [Enc.av w,Enc.av v] (.int .i64 (lU w v)):=by
  refine aH mix c58 (by kernel_rfl) (by kernel_rfl) (by simp [ay,ak,Go.AX.flat]) (by first | exact ak _ | simp [flat,ay,ak]) ?_
  have h1:=Tw w v
  have h2:=Tw v w
  rw [W3.fC,W3.fC] at h1 h2
  unfold lU
  simp -implicitDefEqProofs only [F58,go_sem,seval]
  refine au h1 ?_
  cases Gy w v
  · simp -implicitDefEqProofs only [go_sem,seval]
    refine au h2 ?_
    cases Gy v w
    · simp -implicitDefEqProofs only [go_sem,seval]
      try rfl
    · simp -implicitDefEqProofs only [go_sem,seval]
      try rfl
  · simp -implicitDefEqProofs only [go_sem,seval]
    try rfl
theorem Nv (a b:Ty.Found):aK Tryz.prog 27 [Enc.av a,Enc.av b] (.bool (jZ a b)):=by
  refine aH mix c27 (by kernel_rfl) (by kernel_rfl) (by simp [ay,ak,Go.AX.flat]) (by first | exact ak _ | simp [flat,ay,ak]) ?_
  obtain ⟨⟨an,al,ai⟩,ly,⟨wa,wb,wc⟩,p⟩:=a
  obtain ⟨⟨bn,bl,bi⟩,ly',⟨wa',wb',wc'⟩,p'⟩:=b
  have c1:=Av ly ly'
  have c2:=Av p p'
  have c3:=Rj ⟨wa,wb,wc⟩ ⟨wa',wb',wc'⟩
  rw [W3.fC,W3.fC] at c3
  cases ai <;> cases bi
  · simp -implicitDefEqProofs only [F27,go_sem,seval]
    refine au c1 ?_
    simp -implicitDefEqProofs only [go_sem,seval]
    refine aJ c3 ?_
    simp -implicitDefEqProofs only [go_sem,seval]
    refine aJ c2 ?_
    simp -implicitDefEqProofs only [go_sem,seval]
    have wn:=Dn ly ly'
    refine aJ (U5 (jM ly ly') (lU ⟨wa,wb,wc⟩ ⟨wa',wb',wc'⟩) (jM p p')) ?_
    simp -implicitDefEqProofs only [go_sem,seval]
    refine aA (by (first | omega | (simp [aB,aD,aC,Nat.testBit_eq_decide_div_mod_eq];done) | (simp [aB,aD,aC,Nat.testBit_eq_decide_div_mod_eq];omega) | kernel_rfl)) ?_
    simp -implicitDefEqProofs only [go_sem,seval]
    congr 1
    rw [Bool.eq_iff_iff,decide_eq_true_eq,Si]
    unfold jZ
    simp only [if_true]
    by_cases e1:ly=ly'
    · subst e1;simp only [if_true]
      by_cases e2:(⟨wa,wb,wc⟩:W3)=⟨wa',wb',wc'⟩
      · rw [if_pos e2,if_pos e2];simp
      · rw [if_neg e2,if_neg e2]
    · rw [if_neg e1,if_neg e1];simp
  · simp -implicitDefEqProofs only [F27,go_sem,seval]
    unfold jZ
    simp
  · simp -implicitDefEqProofs only [F27,go_sem,seval]
    unfold jZ
    simp
  · simp -implicitDefEqProofs only [F27,go_sem,seval]
    refine au c1 ?_
    simp -implicitDefEqProofs only [go_sem,seval]
    refine aJ c3 ?_
    simp -implicitDefEqProofs only [go_sem,seval]
    refine aJ c2 ?_
    simp -implicitDefEqProofs only [go_sem,seval]
    have wn:=Dn ly ly'
    simp only [wn]
    refine aJ (U5 (jM ly' ly) (lU ⟨wa,wb,wc⟩ ⟨wa',wb',wc'⟩) (jM p p')) ?_
    simp -implicitDefEqProofs only [go_sem,seval]
    refine aA (by (first | omega | (simp [aB,aD,aC,Nat.testBit_eq_decide_div_mod_eq];done) | (simp [aB,aD,aC,Nat.testBit_eq_decide_div_mod_eq];omega) | kernel_rfl)) ?_
    simp -implicitDefEqProofs only [go_sem,seval]
    congr 1
    rw [Bool.eq_iff_iff,decide_eq_true_eq,Si]
    unfold jZ
    simp only [if_true]
    by_cases e1:ly=ly'
    · subst e1;simp only [if_true]
      by_cases e2:(⟨wa,wb,wc⟩:W3)=⟨wa',wb',wc'⟩
      · rw [if_pos e2,if_pos e2];simp
      · rw [if_neg e2,if_neg e2]
    · rw [if_neg (Ne.symm e1),if_neg e1];simp
end W15
/- Better by the reference; winners. -/
namespace W15
open Go Go.AX Go.AX.Ty Go.Proofs
def TJ:Ty.Found:=⟨⟨[],[],false⟩,0,⟨0,0,0⟩,0⟩
def Cu (o:Option Ty.Found):Ty.Found:=o.getD TJ
def Es:List AV:=[.str [],.nils,.bool false,.int .i64 0,.int .i64 0,.int .i64 0,.int .i64 0,.int .i64 0]
def Dr (o:Option Ty.Found):List AV:=match o with | some p=>Enc.cells p | none=>Es
theorem win_snoc {l:List Ty.Found} {i:Nat} {x:Ty.Found} (h:l[i]? = some x) (name:Str):l8 (l.take (i + 1)) name=lK name (l8 (l.take i) name) x:=by
  unfold l8;rw [List.take_add_one,h];simp
theorem xH (l:List Ty.Found) (hl:l.length ≤ 1000000) (name:Str):aK Tryz.prog 29 [Enc.av l,.str name] (.tup [Enc.av (Cu (l8 l name)),.bool (l8 l name).isSome]):=by
  refine eH mix c29 (by kernel_rfl) (by kernel_rfl) (by simp [ay,flat,ak]) (by simp [ay,flat,ak]) ?_
  simp -implicitDefEqProofs only [F29,go_sem,seval]
  refine aF (fun k:Nat=>l.length - k) (fun k=>[(1,.str name),(4,.ptr 0 0 0),(6,.ptr 1 0 0),(7,.bool (l8 (l.take k) name).isSome),(11,Enc.av l),(12,.int .i64 l.length),(13,.int .i64 k)])
    (fun k s=>k ≤ l.length ∧ 1 < s.next ∧ s.get 0=some (.cells 0 Es false) ∧ s.get 1=some (.cells 0 (Dr (l8 (l.take k) name)) false)) 0 ?_ ?_
  · simp -implicitDefEqProofs only [go_sem,seval]
    exact ⟨rfl,rfl,rfl⟩
  rintro k ρ ⟨g,m⟩ ⟨h1,h2,h3,h4⟩
  simp only [St.get] at h2 h3 h4
  have m0:(m=0)=False:=eq_false (by omega)
  have m1:(m=1)=False:=eq_false (by omega)
  rcases Nat.lt_or_ge k l.length with hk | hk
  · obtain ⟨x,hx,hd,hm⟩:=aG hk
    have hlt:((k:Int) < (l.length:Int))=True:=eq_true (by omega)
    have w1:IntKind.i64.wrap ((k:Int) + 1)=((k + 1:Nat):Int):=by rw [wrap64 (by omega) (by omega)];omega
    have hsn:=win_snoc hx name
    by_cases hn:x.decl.name=name
    · have fn:=eq_true hn
      generalize l8 (l.take k) name=top at *
      cases top with
      | none =>
        simp only [Dr,Es] at h4
        have hst:lK name none x=some x:=by unfold lK;rw [if_pos hn]
        simp -implicitDefEqProofs only [hlt,hx,fn,h4,m0,m1,w1,Option.isSome_none,go_sem,seval]
        exact ⟨k + 1,by omega,⟨by rw [hsn,hst];rfl,rfl⟩,by omega,by omega,h3,by rw [hsn,hst];rfl⟩
      | some t =>
        simp only [Dr,Found.aO] at h4
        have hb:=Nv x t
        rw [Found.fC,Found.fC] at hb
        have hst:lK name (some t) x=if jZ x t=true then some x else some t:=by unfold lK;rw [if_pos hn]
        simp -implicitDefEqProofs only [hlt,hx,fn,h4,m0,m1,w1,Option.isSome_some,go_sem,seval]
        refine au hb ?_
        cases hbb:jZ x t
        · rw [hbb] at hst
          simp -implicitDefEqProofs only [h4,m0,m1,w1,fn,go_sem,seval]
          exact ⟨k + 1,by omega,⟨by rw [hsn,hst];rfl,rfl⟩,by omega,by omega,h3,by rw [hsn,hst];rfl⟩
        · rw [hbb] at hst
          simp -implicitDefEqProofs only [h4,m0,m1,w1,fn,go_sem,seval]
          exact ⟨k + 1,by omega,⟨by rw [hsn,hst];rfl,rfl⟩,by omega,by omega,h3,by rw [hsn,hst];rfl⟩
    · have fn:=eq_false hn
      have hst:lK name (l8 (l.take k) name) x=l8 (l.take k) name:=by unfold lK;rw [if_neg hn]
      simp -implicitDefEqProofs only [hlt,hx,fn,w1,go_sem,seval]
      exact ⟨k + 1,by omega,⟨by rw [hsn,hst],rfl⟩,by omega,by omega,by simp only [m0,if_false];exact h3,by simp only [m1,if_false];rw [hsn,hst];exact h4⟩
  · have hlt:((k:Int) < (l.length:Int))=False:=eq_false (by omega)
    rw [List.take_of_length_le hk] at h4
    simp only [List.take_of_length_le hk]
    generalize l8 l name=top at *
    cases top with
    | none =>
      simp only [Dr,Es] at h4 h3
      simp -implicitDefEqProofs only [hlt,h4,h3,m0,m1,go_sem,seval]
      rfl
    | some p =>
      simp only [Dr,Found.aO,Es] at h4 h3
      simp -implicitDefEqProofs only [hlt,h4,h3,m0,m1,go_sem,seval]
      unfold dW Cu
      simp [bI,bf,iA,aP]
end W15
/- The winner by the reference. -/
namespace W15
open Go Go.AX Go.AX.Ty Go.Proofs
def zG (o:Option Nat):Int:=match o with | none=>-1 | some b=>(b:Int)
end W15
/- The same: a list and itself. -/
namespace W15
open Go Go.AX Go.AX.Ty Go.Proofs
mutual
def Vn:Ty.Val → Nat
  | .mk _ _ l=>1 + iZ l
def iZ:List Ty.Val → Nat
  | []=>0
  | x :: r=>Vn x + iZ r
end
theorem Gq (x:Ty.Val):Vn x=1 + iZ x.l:=by cases x;simp only [Vn,Ty.Val.l]
theorem yj:∀ l:List Ty.Val,l.length ≤ iZ l
  | []=>by simp [iZ]
  | x :: r=>by have:=yj r;have:=Gq x;simp only [List.length_cons,iZ];omega
theorem Dj:∀ {l:List Ty.Val} {x:Ty.Val},x ∈ l → Vn x ≤ iZ l
  | [],_,h=>by simp at h
  | y :: r, x, h => by
    simp only [iZ]
    rcases List.mem_cons.1 h with rfl | h
    · omega
    · have:=Dj h;omega
theorem Im:∀ {l:List Simple} {x:Simple},x ∈ l → R7 x ≤ gB l
  | [],_,h=>by simp at h
  | y :: r, x, h => by
    simp only [gB]
    rcases List.mem_cons.1 h with rfl | h
    · omega
    · have:=Im h;omega
theorem Iw:∀ (N:Nat) (l:List Ty.Val),iZ l ≤ N → N ≤ 1000000 → aK Tryz.prog 22 [Enc.av l,Enc.av l] (.bool true):=fun N=>by
  induction N using Nat.strongRecOn with
  | ind N ih=>
  intro l hN hB
  have hlen:=yj l
  refine aH mix c22 (by kernel_rfl) (by kernel_rfl) (by simp [ay,ak,Go.AX.flat]) (by first | exact ak _ | simp [flat,ay,ak]) ?_
  simp -implicitDefEqProofs only [F22,go_sem,seval]
  refine aF (fun k:Nat=>l.length - k) (fun k=>[(0,Enc.av l),(1,Enc.av l),(5,.int .i64 k)]) (fun k s=>k ≤ l.length) 0 ?_ ?_
  · simp -implicitDefEqProofs only [go_sem,seval]
  rintro k ρ ⟨g,m⟩ h1
  rcases Nat.lt_or_ge k l.length with hk | hk
  · obtain ⟨x,hx,hd,hm⟩:=aG hk
    have hlt:((k:Int) < (l.length:Int))=True:=eq_true (by omega)
    have w1:IntKind.i64.wrap ((k:Int) + 1)=((k + 1:Nat):Int):=by rw [wrap64 (by omega) (by omega)];omega
    have hs:=Dj hm
    rw [Gq] at hs
    have hc:=ih (iZ x.l) (by omega) x.l (Nat.le_refl _) (by omega)
    simp -implicitDefEqProofs only [hlt,hx,go_sem,seval]
    refine aJ hc ?_
    simp -implicitDefEqProofs only [w1,go_sem,seval]
    refine aA (by (first | omega | (simp [aB,aD,aC,Nat.testBit_eq_decide_div_mod_eq];done) | (simp [aB,aD,aC,Nat.testBit_eq_decide_div_mod_eq];omega) | kernel_rfl)) ?_
    simp -implicitDefEqProofs only [w1,go_sem,seval]
    exact ⟨k + 1,by omega,rfl,by omega⟩
  · have hlt:((k:Int) < (l.length:Int))=False:=eq_false (by omega)
    simp -implicitDefEqProofs only [hlt,go_sem,seval]
theorem Mr (x:Simple):aK Tryz.prog 74 [Enc.av x] (.agg [.int .i64 x.kind,.str x.name,.str x.value,.int .i64 x.a,.int .i64 x.b]):=by
  refine aH mix c74 (by kernel_rfl) (by kernel_rfl) (by simp [ay,ak]) (by simp [flat,ay]) ?_
  simp -implicitDefEqProofs only [F74,go_sem,seval]
theorem Fj:∀ (N:Nat) (l:List Simple),gB l ≤ N → N ≤ 1000000 → aK Tryz.prog 44 [Enc.av l,Enc.av l] (.bool true):=fun N=>by
  induction N using Nat.strongRecOn with
  | ind N ih=>
  intro l hN hB
  have hlen:=ru l
  refine aH mix c44 (by kernel_rfl) (by kernel_rfl) (by simp [ay,ak,Go.AX.flat]) (by first | exact ak _ | simp [flat,ay,ak]) ?_
  simp -implicitDefEqProofs only [F44,go_sem,seval]
  refine aF (fun k:Nat=>l.length - k) (fun k=>[(0,Enc.av l),(1,Enc.av l),(5,.int .i64 k)]) (fun k s=>k ≤ l.length) 0 ?_ ?_
  · simp -implicitDefEqProofs only [go_sem,seval]
  rintro k ρ ⟨g,m⟩ h1
  rcases Nat.lt_or_ge k l.length with hk | hk
  · obtain ⟨x,hx,hd,hm⟩:=aG hk
    have hlt:((k:Int) < (l.length:Int))=True:=eq_true (by omega)
    have w1:IntKind.i64.wrap ((k:Int) + 1)=((k + 1:Nat):Int):=by rw [wrap64 (by omega) (by omega)];omega
    have hs:=Im hm
    rw [vY] at hs
    have hc:=ih (gB x.l) (by omega) x.l (Nat.le_refl _) (by omega)
    have hp:=Mr x
    rw [Simple.fC] at hp
    simp -implicitDefEqProofs only [hlt,hx,go_sem,seval]
    refine aJ hp ?_
    simp -implicitDefEqProofs only [hx,go_sem,seval]
    refine aJ hp ?_
    simp -implicitDefEqProofs only [hx,go_sem,seval]
    refine aJ hc ?_
    simp -implicitDefEqProofs only [w1,go_sem,seval]
    refine aA (by (first | omega | (simp [aB,aD,aC,Nat.testBit_eq_decide_div_mod_eq];done) | (simp [aB,aD,aC,Nat.testBit_eq_decide_div_mod_eq];omega) | kernel_rfl)) ?_
    simp -implicitDefEqProofs only [w1,go_sem,seval]
    exact ⟨k + 1,by omega,rfl,by omega⟩
  · have hlt:((k:Int) < (l.length:Int))=False:=eq_false (by omega)
    simp -implicitDefEqProofs only [hlt,go_sem,seval]
theorem vL (l:List Ty.Decl) (hl:l.length ≤ 1000000) (hv:∀ d ∈ l,iZ d.l ≤ 1000000):aK Tryz.prog 17 [Enc.av l,Enc.av l] (.bool true):=by
  refine aH mix c17 (by kernel_rfl) (by kernel_rfl) (by simp [ay,ak,Go.AX.flat]) (by first | exact ak _ | simp [flat,ay,ak]) ?_
  simp -implicitDefEqProofs only [F17,go_sem,seval]
  refine aF (fun k:Nat=>l.length - k) (fun k=>[(0,Enc.av l),(1,Enc.av l),(5,.int .i64 k)]) (fun k s=>k ≤ l.length) 0 ?_ ?_
  · simp -implicitDefEqProofs only [go_sem,seval]
  rintro k ρ ⟨g,m⟩ h1
  rcases Nat.lt_or_ge k l.length with hk | hk
  · obtain ⟨x,hx,hd,hm⟩:=aG hk
    have hlt:((k:Int) < (l.length:Int))=True:=eq_true (by omega)
    have w1:IntKind.i64.wrap ((k:Int) + 1)=((k + 1:Nat):Int):=by rw [wrap64 (by omega) (by omega)];omega
    have hc:=Iw (iZ x.l) x.l (Nat.le_refl _) (hv x hm)
    simp -implicitDefEqProofs only [hlt,hx,go_sem,seval]
    refine aJ hc ?_
    simp -implicitDefEqProofs only [w1,go_sem,seval]
    refine aA (by (first | omega | (simp [aB,aD,aC,Nat.testBit_eq_decide_div_mod_eq];done) | (simp [aB,aD,aC,Nat.testBit_eq_decide_div_mod_eq];omega) | kernel_rfl)) ?_
    simp -implicitDefEqProofs only [w1,go_sem,seval]
    exact ⟨k + 1,by omega,rfl,by omega⟩
  · have hlt:((k:Int) < (l.length:Int))=False:=eq_false (by omega)
    simp -implicitDefEqProofs only [hlt,go_sem,seval]
theorem Ro (l:List Str) (hl:l.length ≤ 1000000):aK Tryz.prog 15 [Enc.av l,Enc.av l] (.bool true):=by
  refine aH mix c15 (by kernel_rfl) (by kernel_rfl) (by simp [ay,ak,Go.AX.flat]) (by first | exact ak _ | simp [flat,ay,ak]) ?_
  simp -implicitDefEqProofs only [F15,go_sem,seval]
  refine aF (fun k:Nat=>l.length - k) (fun k=>[(0,Enc.av l),(1,Enc.av l),(5,.int .i64 k)]) (fun k s=>k ≤ l.length) 0 ?_ ?_
  · simp -implicitDefEqProofs only [go_sem,seval]
  rintro k ρ ⟨g,m⟩ h1
  rcases Nat.lt_or_ge k l.length with hk | hk
  · obtain ⟨x,hx,hd,hm⟩:=aG hk
    have hlt:((k:Int) < (l.length:Int))=True:=eq_true (by omega)
    have w1:IntKind.i64.wrap ((k:Int) + 1)=((k + 1:Nat):Int):=by rw [wrap64 (by omega) (by omega)];omega
    simp -implicitDefEqProofs only [hlt,hx,go_sem,seval]
    refine aA (by (first | omega | (simp [aB,aD,aC,Nat.testBit_eq_decide_div_mod_eq];done) | (simp [aB,aD,aC,Nat.testBit_eq_decide_div_mod_eq];omega) | kernel_rfl)) ?_
    simp -implicitDefEqProofs only [w1,go_sem,seval]
    exact ⟨k + 1,by omega,rfl,by omega⟩
  · have hlt:((k:Int) < (l.length:Int))=False:=eq_false (by omega)
    simp -implicitDefEqProofs only [hlt,go_sem,seval]
theorem QN (l:List Complex) (hl:l.length ≤ 1000000) (hv:∀ c ∈ l,c.parts.length ≤ 1000000 ∧ ∀ p ∈ c.parts,gB p.l ≤ 1000000):aK Tryz.prog 16 [Enc.av l,Enc.av l] (.bool true):=by
  refine aH mix c16 (by kernel_rfl) (by kernel_rfl) (by simp [ay,ak,Go.AX.flat]) (by first | exact ak _ | simp [flat,ay,ak]) ?_
  simp -implicitDefEqProofs only [F16,go_sem,seval]
  refine aF (fun k:Nat=>l.length - k) (fun k=>[(0,Enc.av l),(1,Enc.av l),(5,.int .i64 k)]) (fun k s=>k ≤ l.length) 0 ?_ ?_
  · simp -implicitDefEqProofs only [go_sem,seval]
  rintro k ρ ⟨g,m⟩ h1
  rcases Nat.lt_or_ge k l.length with hk | hk
  · obtain ⟨x,hx,hd,hm⟩:=aG hk
    have hlt:((k:Int) < (l.length:Int))=True:=eq_true (by omega)
    have w1:IntKind.i64.wrap ((k:Int) + 1)=((k + 1:Nat):Int):=by rw [wrap64 (by omega) (by omega)];omega
    obtain ⟨hpl,hpp⟩:=hv x hm
    simp -implicitDefEqProofs only [hlt,hx,go_sem,seval]
    refine aA (by (first | omega | (simp [aB,aD,aC,Nat.testBit_eq_decide_div_mod_eq];done) | (simp [aB,aD,aC,Nat.testBit_eq_decide_div_mod_eq];omega) | kernel_rfl)) ?_
    simp -implicitDefEqProofs only [go_sem,seval]
    refine aF (fun j:Nat=>x.parts.length - j) (fun j=>[(0,Enc.av l),(1,Enc.av l),(5,.int .i64 k),(6,.int .i64 j)]) (fun j s=>j ≤ x.parts.length) 0 ?_ ?_
    · simp -implicitDefEqProofs only [go_sem,seval]
    rintro j ρ ⟨g,m⟩ j1
    rcases Nat.lt_or_ge j x.parts.length with hj | hj
    · obtain ⟨y,hy,hdj,hmj⟩:=aG hj
      have hltj:((j:Int) < (x.parts.length:Int))=True:=eq_true (by omega)
      have wj:IntKind.i64.wrap ((j:Int) + 1)=((j + 1:Nat):Int):=by rw [wrap64 (by omega) (by omega)];omega
      have hc:=Fj (gB y.l) y.l (Nat.le_refl _) (hpp y hmj)
      have pm:(m + 1=m)=False:=eq_false (by omega)
      have pk:(m=m + 1)=False:=eq_false (by omega)
      simp -implicitDefEqProofs only [hltj,hy,hx,pm,pk,go_sem,seval]
      refine aA (by (first | omega | (simp [aB,aD,aC,Nat.testBit_eq_decide_div_mod_eq];done) | (simp [aB,aD,aC,Nat.testBit_eq_decide_div_mod_eq];omega) | kernel_rfl)) ?_
      simp -implicitDefEqProofs only [hltj,hy,hx,pm,pk,go_sem,seval]
      refine au hc ?_
      simp -implicitDefEqProofs only [wj,go_sem,seval]
      exact ⟨j + 1,by omega,rfl,by omega⟩
    · have hltj:((j:Int) < (x.parts.length:Int))=False:=eq_false (by omega)
      simp -implicitDefEqProofs only [hltj,w1,hx,go_sem,seval]
      exact ⟨k + 1,by omega,rfl,by omega⟩
  · have hlt:((k:Int) < (l.length:Int))=False:=eq_false (by omega)
    simp -implicitDefEqProofs only [hlt,go_sem,seval]
theorem Ur (a:Ty.Found) (hv:iZ a.decl.l ≤ 1000000):aK Tryz.prog 31 [Enc.av a,Enc.av a] (.bool true):=by
  refine aH mix c31 (by kernel_rfl) (by kernel_rfl) (by simp [ay,ak,Go.AX.flat]) (by first | exact ak _ | simp [flat,ay,ak]) ?_
  have hc:=vL [a.decl] (by simp) (by simpa using hv)
  simp -implicitDefEqProofs only [F31,go_sem,seval]
  refine au hc ?_
  simp -implicitDefEqProofs only [go_sem,seval]
theorem I9 (l:List Ty.Found) (hl:l.length ≤ 1000000) (hv:∀ a ∈ l,iZ a.decl.l ≤ 1000000):aK Tryz.prog 23 [Enc.av l,Enc.av l] (.bool true):=by
  refine aH mix c23 (by kernel_rfl) (by kernel_rfl) (by simp [ay,ak,Go.AX.flat]) (by first | exact ak _ | simp [flat,ay,ak]) ?_
  simp -implicitDefEqProofs only [F23,go_sem,seval]
  refine aF (fun k:Nat=>l.length - k) (fun k=>[(0,Enc.av l),(1,Enc.av l),(5,.int .i64 k)]) (fun k s=>k ≤ l.length) 0 ?_ ?_
  · simp -implicitDefEqProofs only [go_sem,seval]
  rintro k ρ ⟨g,m⟩ h1
  rcases Nat.lt_or_ge k l.length with hk | hk
  · obtain ⟨x,hx,hd,hm⟩:=aG hk
    have hlt:((k:Int) < (l.length:Int))=True:=eq_true (by omega)
    have w1:IntKind.i64.wrap ((k:Int) + 1)=((k + 1:Nat):Int):=by rw [wrap64 (by omega) (by omega)];omega
    have hc:=Ur x (hv x hm)
    rw [Found.fC] at hc
    simp -implicitDefEqProofs only [hlt,hx,go_sem,seval]
    refine aJ hc ?_
    simp -implicitDefEqProofs only [w1,go_sem,seval]
    refine aA (by (first | omega | (simp [aB,aD,aC,Nat.testBit_eq_decide_div_mod_eq];done) | (simp [aB,aD,aC,Nat.testBit_eq_decide_div_mod_eq];omega) | kernel_rfl)) ?_
    simp -implicitDefEqProofs only [w1,go_sem,seval]
    exact ⟨k + 1,by omega,rfl,by omega⟩
  · have hlt:((k:Int) < (l.length:Int))=False:=eq_false (by omega)
    simp -implicitDefEqProofs only [hlt,go_sem,seval]
end W15
/- What applies, by the reference: small parts. -/
namespace W15
open Go Go.AX Go.AX.Ty Go.Proofs
def JI {α:Type} [Enc α] (z:Nat) (l:List α) (v:AV) (s:St):Prop:=∃ b e,v=.sl b e 0 l.length z ∧ b < s.next ∧ AX.look b s.heap=some (.cells e (aj l) false)
theorem JI.push {α:Type} [Enc α] {z:Nat} {l:List α} {v:AV} {h:List (Nat × AX.Obj)} {m:Nat} {o:AX.Obj} (hv:JI z l v ⟨h,m⟩):JI z l v ⟨(m,o) :: h,m + 1⟩:=by
  obtain ⟨b,e,rfl,h1,h2⟩:=hv
  simp only at h1 h2
  exact ⟨b,e,rfl,by simp only;omega,by simp only [AX.look];rw [if_neg (by omega)];exact h2⟩
theorem lS (a:Placed):(Enc.cells a).all iE=true:=by simp [Placed.aO,iE,aP]
theorem Mj {l:List Str} {v:Str} {k:Nat} (hx:l[k]? = some v) (hb:Pre (fun x=>x == v) l k):lW l v=k:=by
  have:=iw (p:=fun x=>x == v) hx (by simp) hb
  unfold idxOf at this
  unfold lW
  rw [List.findIdx_eq_getD_findIdx?]
  cases h:l.findIdx? (fun x=>x == v) with
  | none=>rw [h] at this;simp only at this;omega
  | some i=>rw [h] at this;simp only at this;simp only [Option.getD_some];omega
theorem OM {l:List Str} {v:Str} (hb:∀ y ∈ l,(y == v)=false):lW l v=l.length:=by
  unfold lW
  exact List.findIdx_eq_length.2 hb
theorem K5 (l:List Str) (hl:l.length ≤ 100000000) (v:Str):aK Tryz.prog 73 [Enc.av l,.str v] (.int .i64 (lW l v:Nat)):=by
  refine aH mix c73 (by kernel_rfl) (by kernel_rfl) (by simp [ay,ak,Go.AX.flat]) (by first | exact ak _ | simp [flat,ay,ak]) ?_
  simp -implicitDefEqProofs only [F73,go_sem,seval]
  refine aF (fun k:Nat=>l.length - k) (fun k=>[(0,Enc.av l),(1,.str v),(5,.int .i64 k)]) (fun k s=>k ≤ l.length ∧ Pre (fun x=>x == v) l k) 0 ?_ ?_
  · simp -implicitDefEqProofs only [go_sem,seval]
    exact Pre.zero _ _
  rintro k ρ ⟨g,m⟩ ⟨h1,h2⟩
  rcases Nat.lt_or_ge k l.length with hk | hk
  · obtain ⟨x,hx,hd,hm⟩:=aG hk
    have hlt:((k:Int) < (l.length:Int))=True:=eq_true (by omega)
    have w1:IntKind.i64.wrap ((k:Int) + 1)=((k + 1:Nat):Int):=by rw [wrap64 (by omega) (by omega)];omega
    by_cases he:x=v
    · have fe:=eq_true he
      simp -implicitDefEqProofs only [hlt,hx,fe,go_sem,seval]
      subst he
      rw [Mj hx h2]
    · have fe:=eq_false he
      simp -implicitDefEqProofs only [hlt,hx,fe,w1,go_sem,seval]
      exact ⟨k + 1,by omega,rfl,by omega,h2.next hx (by simpa using he)⟩
  · have hlt:((k:Int) < (l.length:Int))=False:=eq_false (by omega)
    simp -implicitDefEqProofs only [hlt,go_sem,seval]
    rw [OM (h2.all hk)]
theorem Om (x:Ty.Item) (w layer:Int) (hl:x.l.length ≤ 1000000):aK Tryz.prog 100 [Enc.av x,.int .i64 w,.int .i64 layer] (Enc.av (jQ w layer x)):=by
  refine eH mix c100 (by kernel_rfl) (by kernel_rfl) (by simp [ay,flat,ak]) (ak _) ?_
  simp -implicitDefEqProofs only [F100,go_sem,seval]
  by_cases h1:x.min > w
  · have f1:=eq_true h1
    have hw:l6 w x=false:=by unfold l6;simp;omega
    unfold jQ;rw [hw]
    simp -implicitDefEqProofs only [f1,go_sem,seval]
    rfl
  have f1:=eq_false h1
  by_cases h2:x.max ≥ 0
  · have f2:=eq_true h2
    by_cases h3:w > x.max
    · have f3:=eq_true h3
      have hw:l6 w x=false:=by unfold l6;simp;omega
      unfold jQ;rw [hw]
      simp -implicitDefEqProofs only [f1,f2,f3,go_sem,seval]
      rfl
    · have f3:=eq_false h3
      have hw:l6 w x=true:=by unfold l6;simp;omega
      unfold jQ;rw [hw]
      rw [if_pos rfl,show (x.l.filter fI).map (fun y=>(⟨y,layer⟩:Placed))=bare layer x.l from rfl]
      simp -implicitDefEqProofs only [f1,f2,f3,go_sem,seval]
      refine aF (fun p:Nat × AV=>x.l.length - p.1) (fun p=>[(2,.int .i64 layer),(3,.ptr 0 0 0),(7,p.2),(8,.int .i64 p.1)])
        (fun p s=>p.1 ≤ x.l.length ∧ AX.look 0 s.heap=some (.cells 0 [.int .i64 x.kind,.ps x.bB.length (aj x.bB),.ps x.decls.length (aj x.decls),.ps x.names.length (aj x.names),.int .i64 x.min,.int .i64 x.max,.ps x.vals.length (aj x.vals),.ps x.l.length (aj x.l)] false) ∧ ∃ b e,p.2=.sl b e 0 (bare layer (x.l.take p.1)).length 9 ∧ 0 < b ∧ b < s.next ∧ AX.look b s.heap=some (.cells e (aj (bare layer (x.l.take p.1))) false)) (0,.sl 1 0 0 0 9) ?_ ?_
      · simp -implicitDefEqProofs only [List.take_zero,go_sem,seval]
        exact ⟨1,0,rfl,by omega,by omega,rfl⟩
      rintro ⟨k,v⟩ ρ ⟨g,m⟩ ⟨j1,j2,b,e,j0,j3,j4,j5⟩
      dsimp only at j0 j1 j2 j4 j5
      subst j0
      rcases Nat.lt_or_ge k x.l.length with hk | hk
      · obtain ⟨y,hy,hd,hm⟩:=aG hk
        have hlt:((k:Int) < (x.l.length:Int))=True:=eq_true (by omega)
        have w1:IntKind.i64.wrap ((k:Int) + 1)=((k + 1:Nat):Int):=by rw [wrap64 (by omega) (by omega)];omega
        have hsn:=tH (layer:=layer) hy
        have hle:(bare layer (x.l.take k)).length ≤ x.l.length:=by have:=(xW layer x.l k).length_le;have h2:=List.length_filter_le fI x.l;unfold bare at *;simp only [List.length_map] at *;omega
        generalize bare layer (x.l.take k)=R at *
        have hc:(aj R).length=R.length * 9:=aT R
        have ht:List.take (R.length * 9) (aj R)=aj R:=List.take_of_length_le (by omega)
        have hbd:((R.length + 1) * 152 ≤ 140737488355328)=True:=eq_true (by omega)
        have q0:(m=b)=False:=eq_false (by omega)
        have q1:(b=m)=False:=eq_false (by omega)
        have m0:(m=0)=False:=eq_false (by omega)
        have b0:(b=0)=False:=eq_false (by omega)
        by_cases k2:y.kind=2
        · have g2:=eq_true k2
          have hb:fI y=false:=by simp [fI,k2]
          rw [hb] at hsn
          simp -implicitDefEqProofs only [hlt,j2,hy,g2,w1,go_sem,seval]
          exact ⟨(k + 1,_),by simp only;omega,⟨rfl,rfl⟩,by simp only;omega,b,e,by simp only [hsn,Bool.false_eq_true,if_false,List.append_nil],j3,j4,by simp only [hsn,Bool.false_eq_true,if_false,List.append_nil];exact j5⟩
        have g2:=eq_false k2
        by_cases k3:y.kind=3
        · have g3:=eq_true k3
          have hb:fI y=false:=by simp [fI,k3]
          rw [hb] at hsn
          simp -implicitDefEqProofs only [hlt,j2,hy,g2,g3,w1,go_sem,seval]
          exact ⟨(k + 1,_),by simp only;omega,⟨rfl,rfl⟩,by simp only;omega,b,e,by simp only [hsn,Bool.false_eq_true,if_false,List.append_nil],j3,j4,by simp only [hsn,Bool.false_eq_true,if_false,List.append_nil];exact j5⟩
        have g3:=eq_false k3
        have hb:fI y=true:=by simp [fI,k2,k3]
        rw [hb] at hsn
        simp -implicitDefEqProofs only [hlt,j2,j5,hy,g2,g3,w1,hc,ht,hbd,q0,q1,m0,b0,go_sem,seval]
        have hl2:(bare layer (x.l.take (k + 1))).length=R.length + 1:=by rw [hsn];simp
        refine ⟨(k + 1,_),by simp only;omega,⟨rfl,rfl⟩,by simp only;omega,b,(if e ≤ R.length * 9 + 8 then R.length * 9 + 9 else e + 1),by simp only [hl2],j3,by omega,?_⟩
        simp only [q0,if_false,if_true,hsn,aW,aj,Placed.aO,List.append_nil]
      · have hlt:((k:Int) < (x.l.length:Int))=False:=eq_false (by omega)
        rw [List.take_of_length_le hk] at j5
        simp -implicitDefEqProofs only [hlt,j2,List.take_of_length_le hk,go_sem,seval]
        exact eX (α:=Placed) ⟨g,m⟩ 7 rfl lS _ j5
  · have f2:=eq_false h2
    have hw:l6 w x=true:=by unfold l6;simp;omega
    unfold jQ;rw [hw]
    rw [if_pos rfl,show (x.l.filter fI).map (fun y=>(⟨y,layer⟩:Placed))=bare layer x.l from rfl]
    simp -implicitDefEqProofs only [f1,f2,go_sem,seval]
    refine aF (fun p:Nat × AV=>x.l.length - p.1) (fun p=>[(2,.int .i64 layer),(3,.ptr 0 0 0),(7,p.2),(8,.int .i64 p.1)])
      (fun p s=>p.1 ≤ x.l.length ∧ AX.look 0 s.heap=some (.cells 0 [.int .i64 x.kind,.ps x.bB.length (aj x.bB),.ps x.decls.length (aj x.decls),.ps x.names.length (aj x.names),.int .i64 x.min,.int .i64 x.max,.ps x.vals.length (aj x.vals),.ps x.l.length (aj x.l)] false) ∧ ∃ b e,p.2=.sl b e 0 (bare layer (x.l.take p.1)).length 9 ∧ 0 < b ∧ b < s.next ∧ AX.look b s.heap=some (.cells e (aj (bare layer (x.l.take p.1))) false)) (0,.sl 1 0 0 0 9) ?_ ?_
    · simp -implicitDefEqProofs only [List.take_zero,go_sem,seval]
      exact ⟨1,0,rfl,by omega,by omega,rfl⟩
    rintro ⟨k,v⟩ ρ ⟨g,m⟩ ⟨j1,j2,b,e,j0,j3,j4,j5⟩
    dsimp only at j0 j1 j2 j4 j5
    subst j0
    rcases Nat.lt_or_ge k x.l.length with hk | hk
    · obtain ⟨y,hy,hd,hm⟩:=aG hk
      have hlt:((k:Int) < (x.l.length:Int))=True:=eq_true (by omega)
      have w1:IntKind.i64.wrap ((k:Int) + 1)=((k + 1:Nat):Int):=by rw [wrap64 (by omega) (by omega)];omega
      have hsn:=tH (layer:=layer) hy
      have hle:(bare layer (x.l.take k)).length ≤ x.l.length:=by have:=(xW layer x.l k).length_le;have h2:=List.length_filter_le fI x.l;unfold bare at *;simp only [List.length_map] at *;omega
      generalize bare layer (x.l.take k)=R at *
      have hc:(aj R).length=R.length * 9:=aT R
      have ht:List.take (R.length * 9) (aj R)=aj R:=List.take_of_length_le (by omega)
      have hbd:((R.length + 1) * 152 ≤ 140737488355328)=True:=eq_true (by omega)
      have q0:(m=b)=False:=eq_false (by omega)
      have q1:(b=m)=False:=eq_false (by omega)
      have m0:(m=0)=False:=eq_false (by omega)
      have b0:(b=0)=False:=eq_false (by omega)
      by_cases k2:y.kind=2
      · have g2:=eq_true k2
        have hb:fI y=false:=by simp [fI,k2]
        rw [hb] at hsn
        simp -implicitDefEqProofs only [hlt,j2,hy,g2,w1,go_sem,seval]
        exact ⟨(k + 1,_),by simp only;omega,⟨rfl,rfl⟩,by simp only;omega,b,e,by simp only [hsn,Bool.false_eq_true,if_false,List.append_nil],j3,j4,by simp only [hsn,Bool.false_eq_true,if_false,List.append_nil];exact j5⟩
      have g2:=eq_false k2
      by_cases k3:y.kind=3
      · have g3:=eq_true k3
        have hb:fI y=false:=by simp [fI,k3]
        rw [hb] at hsn
        simp -implicitDefEqProofs only [hlt,j2,hy,g2,g3,w1,go_sem,seval]
        exact ⟨(k + 1,_),by simp only;omega,⟨rfl,rfl⟩,by simp only;omega,b,e,by simp only [hsn,Bool.false_eq_true,if_false,List.append_nil],j3,j4,by simp only [hsn,Bool.false_eq_true,if_false,List.append_nil];exact j5⟩
      have g3:=eq_false k3
      have hb:fI y=true:=by simp [fI,k2,k3]
      rw [hb] at hsn
      simp -implicitDefEqProofs only [hlt,j2,j5,hy,g2,g3,w1,hc,ht,hbd,q0,q1,m0,b0,go_sem,seval]
      have hl2:(bare layer (x.l.take (k + 1))).length=R.length + 1:=by rw [hsn];simp
      refine ⟨(k + 1,_),by simp only;omega,⟨rfl,rfl⟩,by simp only;omega,b,(if e ≤ R.length * 9 + 8 then R.length * 9 + 9 else e + 1),by simp only [hl2],j3,by omega,?_⟩
      simp only [q0,if_false,if_true,hsn,aW,aj,Placed.aO,List.append_nil]
    · have hlt:((k:Int) < (x.l.length:Int))=False:=eq_false (by omega)
      rw [List.take_of_length_le hk] at j5
      simp -implicitDefEqProofs only [hlt,j2,List.take_of_length_le hk,go_sem,seval]
      exact eX (α:=Placed) ⟨g,m⟩ 7 rfl lS _ j5
theorem CQ (x:Ty.Item) (w layer:Int) (hl:x.l.length ≤ 1000000):aK Tryz.prog 72 [Enc.av x,.int .i64 w,.int .i64 layer] (Enc.av (bJ w layer x)):=by
  refine eH mix c72 (by kernel_rfl) (by kernel_rfl) (by simp [ay,flat,ak]) (ak _) ?_
  unfold bJ
  by_cases h2:x.kind=2
  · have f2:=eq_true h2
    have hm:=Om x w layer hl
    rw [Item.fC] at hm
    simp -implicitDefEqProofs only [F72,f2,go_sem,seval]
    refine au hm ?_
    simp -implicitDefEqProofs only [go_sem,seval]
    unfold dW
    simp only [bI,aP,if_true]
    rfl
  have f2:=eq_false h2
  by_cases h3:x.kind=3
  · have f3:=eq_true h3
    simp -implicitDefEqProofs only [F72,f2,f3,go_sem,seval]
    rfl
  have f3:=eq_false h3
  simp -implicitDefEqProofs only [F72,f2,f3,go_sem,seval]
  have hv:=eX (α:=Placed) ⟨[(1,.cells 9 (aj [(⟨x,layer⟩:Placed)]) false),(0,.cells 0 (Enc.cells x) false)],2⟩ 7 rfl lS [⟨x,layer⟩] (b:=1) (e:=9) rfl
  rw [Item.aO] at hv
  exact hv
end W15
/- The layers, by the reference. -/
namespace W15
open Go Go.AX Go.AX.Ty Go.Proofs
theorem pq {α:Type} {l:List (List α)} {i:Nat} {x:List α} (h:l[i]? = some x):(l.take (i + 1)).flatten=(l.take i).flatten ++ x:=by
  rw [List.take_add_one,h];simp
theorem EA {α:Type} {l:List (List α)} {i:Nat} {x:List α} (h:l[i]? = some x):(l.take i).flatten.length + x.length ≤ l.flatten.length:=by
  have h1:=pq h
  have h2:l.flatten=(l.take (i + 1)).flatten ++ (l.drop (i + 1)).flatten:=by rw [← List.flatten_append,List.take_append_drop]
  have h3:=congrArg List.length h2
  rw [h1] at h3
  simp only [List.length_append] at h3
  omega
def MW (l:List Str) (v:AV) (s:St):Prop:=∃ b e,v=.sl b e 0 l.length 1 ∧ b < s.next ∧ AX.look b s.heap=some (.cells e (aj l) false)
theorem MW.see {names:List Str} {v:AV} {s:St} (h:MW names v s) (d:Nat):∃ ps,bI s.get (d + 2) v=some (Enc.av names,ps):=by
  obtain ⟨b,e,rfl,h1,h2⟩:=h
  exact ⟨_,vJ (s:=s) h2 (by rw [jI];omega) (List.take_of_length_le (by rw [jI];omega)) (wo _)⟩
theorem U4 (l:List Str) (v:Str):(l.any fun x=>x == v)=FX l v:=rfl
set_option maxHeartbeats 3200000 in
theorem zK (l:List (List Ty.Item)) (hl:l.flatten.length ≤ 10000) (hl2:l.length ≤ 10000) (hn:∀ x ∈ l.flatten,x.names.length ≤ 1000):aK Tryz.prog 12 [Enc.av l] (Enc.av (bQ l)):=by
  refine eH mix c12 (by kernel_rfl) (by kernel_rfl) (by simp [ay,flat,ak]) (ak _) ?_
  unfold bQ
  simp -implicitDefEqProofs only [F12,go_sem,seval]
  refine aF (fun p:Nat × AV=>l.length - p.1) (fun p=>[(0,Enc.av l),(3,p.2),(4,.int .i64 p.1)])
    (fun p s=>p.1 ≤ l.length ∧ MW ((l.take p.1).flatten.foldl bW []) p.2 s) (0,.sl 0 0 0 0 1) ?_ ?_
  · simp -implicitDefEqProofs only [List.take_zero,List.flatten_nil,List.foldl_nil,go_sem,seval]
    exact ⟨0,0,rfl,Nat.zero_lt_succ _,rfl⟩
  rintro ⟨i,v⟩ ρ ⟨g,m⟩ ⟨a1,a2⟩
  dsimp only at a1 a2
  rcases Nat.lt_or_ge i l.length with hi | hi
  · obtain ⟨xs,hxs,hdi,hmi⟩:=aG hi
    have hlti:((i:Int) < (l.length:Int))=True:=eq_true (by omega)
    have wi:IntKind.i64.wrap ((i:Int) + 1)=((i + 1:Nat):Int):=by rw [wrap64 (by omega) (by omega)];omega
    have hfl:=pq hxs
    have hxl:=EA hxs
    have hA:=jD (l.take i).flatten [] fun x hx=>hn x (by
      obtain ⟨y,hy,hx⟩:=List.mem_flatten.1 hx
      exact List.mem_flatten.2 ⟨y,List.mem_of_mem_take hy,hx⟩)
    have hxsn:∀ x ∈ xs,x.names.length ≤ 1000:=fun x hx=>hn x (List.mem_flatten.2 ⟨xs,hmi,hx⟩)
    generalize hA0:(l.take i).flatten.foldl bW []=A at a2 hA
    simp -implicitDefEqProofs only [hlti,go_sem,seval]
    refine aF (fun p:Nat × AV=>xs.length - p.1) (fun p=>[(0,Enc.av l),(3,p.2),(4,.int .i64 i),(5,.int .i64 p.1)])
      (fun p s=>p.1 ≤ xs.length ∧ MW ((xs.take p.1).foldl bW A) p.2 s) (0,v) ?_ ?_
    · simp -implicitDefEqProofs only [List.take_zero,List.foldl_nil,go_sem,seval]
      exact a2
    rintro ⟨k,u⟩ ρ ⟨g,m⟩ ⟨b1,b2⟩
    dsimp only at b1 b2
    rcases Nat.lt_or_ge k xs.length with hk | hk
    · obtain ⟨x,hx,hdk,hmk⟩:=aG hk
      have hltk:((k:Int) < (xs.length:Int))=True:=eq_true (by omega)
      have wk:IntKind.i64.wrap ((k:Int) + 1)=((k + 1:Nat):Int):=by rw [wrap64 (by omega) (by omega)];omega
      have hfs:=mD (f:=bW) (b:=A) hx
      have hB:=jD (xs.take k) A fun x hx=>hxsn x (List.mem_of_mem_take hx)
      have hkt:(xs.take k).length ≤ xs.length:=by rw [List.length_take];omega
      have hnx:=hxsn x hmk
      generalize (xs.take k).foldl bW A=B at b2 hfs hB
      obtain ⟨b,e,rfl,c1,c2⟩:=b2
      simp only at c1 c2
      simp -implicitDefEqProofs only [hltk,hlti,hxs,hx,go_sem,seval]
      refine aF (fun p:Nat × AV=>x.names.length - p.1) (fun p=>[(0,Enc.av l),(3,p.2),(4,.int .i64 i),(5,.int .i64 k),(6,.ptr m 0 0),(7,.int .i64 p.1)])
        (fun p s=>p.1 ≤ x.names.length ∧ m < s.next ∧ AX.look m s.heap=some (.cells 0 [.int .i64 x.kind,.ps x.bB.length (aj x.bB),.ps x.decls.length (aj x.decls),.ps x.names.length (aj x.names),.int .i64 x.min,.int .i64 x.max,.ps x.vals.length (aj x.vals),.ps x.l.length (aj x.l)] false) ∧
          ∃ b e,p.2=.sl b e 0 (if lH x=true then (x.names.take p.1).foldl iL B else B).length 1 ∧ b ≠ m ∧ b < s.next ∧ AX.look b s.heap=some (.cells e (aj (if lH x=true then (x.names.take p.1).foldl iL B else B)) false)) (0,.sl b e 0 B.length 1) ?_ ?_
      · simp -implicitDefEqProofs only [List.take_zero,List.foldl_nil,ite_self,go_sem,seval]
        exact ⟨b,e,rfl,by omega,by omega,by rw [if_neg (by omega)];exact c2⟩
      rintro ⟨j,t⟩ ρ ⟨g2,q⟩ ⟨j1,j2,j3,b,e,j0,j4,j5,j6⟩
      dsimp only at j0 j1 j2 j3 j5 j6
      subst j0
      rcases Nat.lt_or_ge j x.names.length with hj | hj
      · obtain ⟨nm,hnm,hdj,hmj⟩:=aG hj
        have hltj:((j:Int) < (x.names.length:Int))=True:=eq_true (by omega)
        have wj:IntKind.i64.wrap ((j:Int) + 1)=((j + 1:Nat):Int):=by rw [wrap64 (by omega) (by omega)];omega
        have qm:(m=q)=False:=eq_false (by omega)
        have qm2:(q=m)=False:=eq_false (by omega)
        cases hlb:lH x
        · rw [hlb] at j6
          simp only [Bool.false_eq_true,if_false] at j6
          have k4:¬ x.kind=4:=by intro h;simp [lH,h] at hlb
          have g4:=eq_false k4
          by_cases k3:x.kind=3
          · have g3:=eq_true k3
            have kn:¬ x.names.length=1:=by intro h;simp [lH,h,k3] at hlb
            have gn:=eq_false (show ¬ (x.names.length:Int)=1 by omega)
            simp -implicitDefEqProofs only [hltj,j3,hnm,hlb,g4,g3,gn,wj,go_sem,seval]
            exact ⟨(j + 1,_),by simp only;omega,⟨rfl,rfl⟩,by simp only;omega,j2,b,e,rfl,j4,j5,j6⟩
          · have g3:=eq_false k3
            simp -implicitDefEqProofs only [hltj,j3,hnm,hlb,g4,g3,wj,go_sem,seval]
            exact ⟨(j + 1,_),by simp only;omega,⟨rfl,rfl⟩,by simp only;omega,j2,b,e,rfl,j4,j5,j6⟩
        · rw [hlb] at j6
          simp only [if_true] at j6
          have hfa:=mD (f:=iL) (b:=B) hnm
          have hal:=nW (x.names.take j) B
          have htj:(x.names.take j).length ≤ x.names.length:=by rw [List.length_take];omega
          generalize (x.names.take j).foldl iL B=C at j6 hfa hal
          have hcon:=UG nm C (by simp only [List.length_nil] at hA;omega)
          rw [U4] at hcon
          have hown:MW C (.sl b e 0 C.length 1) ⟨g2,q⟩:=⟨b,e,rfl,j5,j6⟩
          obtain ⟨ps,hsee⟩:=hown.see 5
          have hc:=jI C
          have ht:List.take C.length (aj C)=aj C:=List.take_of_length_le (by omega)
          have hbd:((C.length + 1) * 16 ≤ 140737488355328)=True:=eq_true (by simp only [List.length_nil] at hA;omega)
          have q0:(q=b)=False:=eq_false (by omega)
          have q1:(b=q)=False:=eq_false (by omega)
          have bm:(b=m)=False:=eq_false j4
          by_cases k4:x.kind=4
          · have g4:=eq_true k4
            simp -implicitDefEqProofs only [hltj,j3,hnm,hlb,g4,j6,hc,ht,Nat.mul_one,go_sem,seval]
            refine iT hcon rfl (iU (y:=.str nm) hsee (y':=.str nm) (q:=[]) rfl) ?_
            cases hin:FX C nm
            · rw [mF hin] at hfa
              simp -implicitDefEqProofs only [wj,j3,j6,hc,ht,hbd,q0,q1,qm,qm2,bm,hnm,Nat.mul_one,go_sem,seval]
              have hl3:((x.names.take (j + 1)).foldl iL B).length=C.length + 1:=by rw [hfa];simp
              refine ⟨(j + 1,_),by simp only;omega,⟨rfl,rfl⟩,by simp only;omega,by omega,b,(if e ≤ C.length then C.length + 1 else e + 1),by simp only [hl3],j4,by omega,?_⟩
              simp only [q0,if_false,if_true,hfa,aW]
              rfl
            · rw [oU hin] at hfa
              simp -implicitDefEqProofs only [wj,go_sem,seval]
              exact ⟨(j + 1,_),by simp only;omega,⟨rfl,rfl⟩,by simp only;omega,j2,j3,b,e,by rw [hfa],j4,j5,by rw [hfa];exact j6⟩
          · have g4:=eq_false k4
            have k3:x.kind=3 ∧ x.names.length=1:=by simp [lH,k4] at hlb;exact hlb
            have g3:=eq_true k3.1
            have gn:=eq_true (show (x.names.length:Int)=1 by omega)
            simp -implicitDefEqProofs only [hltj,j3,hnm,hlb,g4,g3,gn,j6,hc,ht,Nat.mul_one,go_sem,seval]
            refine iT hcon rfl (iU (y:=.str nm) hsee (y':=.str nm) (q:=[]) rfl) ?_
            cases hin:FX C nm
            · rw [mF hin] at hfa
              simp -implicitDefEqProofs only [gn,wj,j3,j6,hc,ht,hbd,q0,q1,qm,qm2,bm,hnm,Nat.mul_one,go_sem,seval]
              have hl3:((x.names.take (j + 1)).foldl iL B).length=C.length + 1:=by rw [hfa];simp
              refine ⟨(j + 1,_),by simp only;omega,⟨rfl,rfl⟩,by simp only;omega,by omega,b,(if e ≤ C.length then C.length + 1 else e + 1),by simp only [hl3],j4,by omega,?_⟩
              simp only [q0,if_false,if_true,hfa,aW]
              rfl
            · rw [oU hin] at hfa
              simp -implicitDefEqProofs only [wj,gn,go_sem,seval]
              exact ⟨(j + 1,_),by simp only;omega,⟨rfl,rfl⟩,by simp only;omega,j2,j3,b,e,by rw [hfa],j4,j5,by rw [hfa];exact j6⟩
      · have hltj:((j:Int) < (x.names.length:Int))=False:=eq_false (by omega)
        rw [List.take_of_length_le hj] at j6
        simp -implicitDefEqProofs only [hltj,j3,wk,List.take_of_length_le hj,go_sem,seval]
        exact ⟨(k + 1,_),by simp only;omega,⟨rfl,rfl⟩,by simp only;omega,by simp only [hfs];exact ⟨b,e,rfl,j5,j6⟩⟩
    · have hltk:((k:Int) < (xs.length:Int))=False:=eq_false (by omega)
      rw [List.take_of_length_le hk] at b2
      simp -implicitDefEqProofs only [hltk,hlti,hxs,wi,go_sem,seval]
      exact ⟨(i + 1,u),by simp only;omega,⟨rfl,rfl⟩,by simp only;omega,by simp only [hfl,List.foldl_append,hA0];exact b2⟩
  · have hlti:((i:Int) < (l.length:Int))=False:=eq_false (by omega)
    rw [List.take_of_length_le hi] at a2
    simp -implicitDefEqProofs only [hlti,go_sem,seval]
    obtain ⟨b,e,rfl,c1,c2⟩:=a2
    exact eX (α:=Str) ⟨g,m⟩ 7 rfl (fun a=>rfl) _ c2
end W15
/- What applies, by the reference. -/
namespace W15
open Go Go.AX Go.AX.Ty Go.Proofs
theorem Fp {α:Type} {l:List (List α)} {i:Nat} {x:List α} (h:l[i]? = some x):l.flatten=(l.take i).flatten ++ (x ++ (l.drop (i + 1)).flatten):=by
  have h1:=pq h
  have h2:l.flatten=(l.take (i + 1)).flatten ++ (l.drop (i + 1)).flatten:=by rw [← List.flatten_append,List.take_append_drop]
  rw [h2,h1,List.append_assoc]
theorem Qc {α:Type} {l:List (List α)} {i k:Nat} {x:List α} {a:α} (h:l[i]? = some x) (hk:x[k]? = some a):l.flatten[(l.take i).flatten.length + k]? = some a:=by
  rw [Fp h,List.getElem?_append_right (by omega),Nat.add_sub_cancel_left]
  rw [List.getElem?_append_left (List.getElem?_eq_some_iff.1 hk).1];exact hk
theorem Ls {α:Type} {l:List (List α)} {i:Nat} {x:List α} (h:l[i]? = some x):(l.take (i + 1)).flatten.length=(l.take i).flatten.length + x.length:=by
  rw [pq h,List.length_append]
set_option maxHeartbeats 3200000 in
theorem BN (w:Int) (l:List (List Ty.Item)) (ok:uU l) (hb:(dG w l).length ≤ 100000000) (hii:∀ x ∈ l.flatten,∀ y ∈ x.l,y.l.length ≤ 1000):aK Tryz.prog 43 [.int .i64 w,Enc.av l] (Enc.av (dG w l)):=by
  refine eH mix c43 (by kernel_rfl) (by kernel_rfl) (by simp [ay,flat,ak]) (ak _) ?_
  have hll:=ok.len
  have hfl:=ok.flat
  have hnl:(bQ l).length ≤ 10000000:=by
    have:=jD l.flatten [] ok.names
    unfold bQ;simp only [List.length_nil] at *;omega
  simp -implicitDefEqProofs only [F43,go_sem,seval]
  refine au (zK l ok.flat ok.len ok.names) ?_
  have happ:dG w l=l.flatten.flatMap (fG w (bQ l)):=rfl
  have hnm:∀ x ∈ l.flatten,x.kind=3 → x.names.length=1 → nameOf x ∈ bQ l:=fun x hx h3 h1=>Ac hx h3 h1
  generalize bQ l=names at *
  rw [happ] at hb ⊢
  have hpre:=fun n=>(iF (fG w names) l.flatten n).length_le
  simp -implicitDefEqProofs only [go_sem,seval]
  refine aF (fun p:Nat × AV=>l.length - p.1) (fun p=>[(0,.int .i64 w),(1,Enc.av l),(5,p.2),(6,Enc.av names),(7,.int .i64 p.1)])
    (fun p s=>p.1 ≤ l.length ∧ JI 9 ((l.flatten.take (l.take p.1).flatten.length).flatMap (fG w names)) p.2 s) (0,.sl 0 0 0 0 9) ?_ ?_
  · simp -implicitDefEqProofs only [List.take_zero,List.flatten_nil,List.length_nil,List.flatMap_nil,go_sem,seval]
    exact ⟨0,0,rfl,Nat.zero_lt_succ _,rfl⟩
  rintro ⟨i,v⟩ ρ ⟨g,m⟩ ⟨a1,a2⟩
  dsimp only at a1 a2
  rcases Nat.lt_or_ge i l.length with hi | hi
  · obtain ⟨xs,hxs,hdi,hmi⟩:=aG hi
    have hlti:((i:Int) < (l.length:Int))=True:=eq_true (by omega)
    have wi:IntKind.i64.wrap ((i:Int) + 1)=((i + 1:Nat):Int):=by rw [wrap64 (by omega) (by omega)];omega
    have hnext:=Ls hxs
    have hat:=fun k (a:Ty.Item)=>Qc (k:=k) (a:=a) hxs
    have hxl:=EA hxs
    generalize hP:(l.take i).flatten.length=P at *
    simp -implicitDefEqProofs only [hlti,go_sem,seval]
    refine aF (fun p:Nat × AV=>xs.length - p.1) (fun p=>[(0,.int .i64 w),(1,Enc.av l),(5,p.2),(6,Enc.av names),(7,.int .i64 i),(8,.int .i64 p.1)])
      (fun p s=>p.1 ≤ xs.length ∧ JI 9 ((l.flatten.take (P + p.1)).flatMap (fG w names)) p.2 s) (0,v) ?_ ?_
    · simp -implicitDefEqProofs only [Nat.add_zero,go_sem,seval]
      exact a2
    rintro ⟨k,u⟩ ρ ⟨g,m⟩ ⟨b1,b2⟩
    dsimp only at b1 b2
    rcases Nat.lt_or_ge k xs.length with hk | hk
    · obtain ⟨x,hx,hdk,hmk⟩:=aG hk
      have hltk:((k:Int) < (xs.length:Int))=True:=eq_true (by omega)
      have wk:IntKind.i64.wrap ((k:Int) + 1)=((k + 1:Nat):Int):=by rw [wrap64 (by omega) (by omega)];omega
      have hsn:=gM (f:=fG w names) (hat k x hx)
      rw [Nat.add_assoc] at hsn
      have hp1:=hpre (P + (k + 1))
      have hxf:x ∈ l.flatten:=List.mem_flatten.2 ⟨xs,hmi,hmk⟩
      have hsub:=ok.sub x hxf
      rw [hsn] at hp1
      generalize (l.flatten.take (P + k)).flatMap (fG w names)=A at b2 hsn hp1
      simp only [List.length_append] at hp1
      obtain ⟨b,e,rfl,c1,c2⟩:=b2
      simp only at c1 c2
      have q0:(m=b)=False:=eq_false (by omega)
      have q1:(b=m)=False:=eq_false (by omega)
      have hcA:(aj A).length=A.length * 9:=aT A
      have htA:List.take (A.length * 9) (aj A)=aj A:=List.take_of_length_le (by omega)
      by_cases k3:x.kind=3
      · have g3:=eq_true k3
        simp -implicitDefEqProofs only [hltk,hlti,hxs,hx,g3,go_sem,seval]
        by_cases kn:x.names.length=1
        · have gn:=eq_true (show (x.names.length:Int)=1 by omega)
          have hT:fG w names x=x.l.flatMap (bJ w (lW names (nameOf x):Nat)):=by unfold fG;rw [if_pos k3,if_pos kn]
          rw [hT] at hsn hp1
          have hnx:x.names[0]? = some (nameOf x):=by
            unfold nameOf
            cases hh:x.names with
            | nil=>rw [hh] at kn;simp at kn
            | cons a r=>rfl
          have hpl:=K5 names (by omega) (nameOf x)
          refine aF (fun p:Nat × AV=>x.l.length - p.1) (fun p=>[(0,.int .i64 w),(1,Enc.av l),(5,p.2),(6,Enc.av names),(7,.int .i64 i),(8,.int .i64 k),(9,.ptr m 0 0),(10,.int .i64 p.1)])
            (fun p s=>p.1 ≤ x.l.length ∧ m < s.next ∧ AX.look m s.heap=some (.cells 0 [.int .i64 x.kind,.ps x.bB.length (aj x.bB),.ps x.decls.length (aj x.decls),.ps x.names.length (aj x.names),.int .i64 x.min,.int .i64 x.max,.ps x.vals.length (aj x.vals),.ps x.l.length (aj x.l)] false) ∧
              ∃ b e,p.2=.sl b e 0 (A ++ (x.l.take p.1).flatMap (bJ w (lW names (nameOf x):Nat))).length 9 ∧ b ≠ m ∧ b < s.next ∧ AX.look b s.heap=some (.cells e (aj (A ++ (x.l.take p.1).flatMap (bJ w (lW names (nameOf x):Nat)))) false)) (0,.sl b e 0 A.length 9) ?_ ?_
          · simp -implicitDefEqProofs only [List.take_zero,List.flatMap_nil,List.append_nil,go_sem,seval]
            exact ⟨b,e,rfl,by intro h;omega,Nat.lt_succ_of_lt c1,by rw [if_neg (by intro h;omega)];exact c2⟩
          rintro ⟨j,t⟩ ρ ⟨g2,r⟩ ⟨j1,j2,j3,b2,e2,j0,j4,j5,j6⟩
          dsimp only at j0 j1 j2 j3 j5 j6
          subst j0
          rcases Nat.lt_or_ge j x.l.length with hj | hj
          · obtain ⟨y,hy,hdj,hmj⟩:=aG hj
            have hltj:((j:Int) < (x.l.length:Int))=True:=eq_true (by omega)
            have wj:IntKind.i64.wrap ((j:Int) + 1)=((j + 1:Nat):Int):=by rw [wrap64 (by omega) (by omega)];omega
            have hsj:=gM (f:=bJ w (lW names (nameOf x):Nat)) hy
            have hpj:=(iF (bJ w (lW names (nameOf x):Nat)) x.l (j + 1)).length_le
            rw [hsj] at hpj
            have hsubj:=ok.sub2 x hxf y hmj
            generalize (x.l.take j).flatMap (bJ w (lW names (nameOf x):Nat))=A2 at j6 hsj hpj
            simp only [List.length_append] at hpj
            have hin:=CQ y w (lW names (nameOf x):Nat) (by omega)
            rw [Item.fC] at hin
            have r0:(r=b2)=False:=eq_false (by omega)
            have r1:(b2=r)=False:=eq_false (by omega)
            have r2:(b2=m)=False:=eq_false j4
            have r3:(m=b2)=False:=eq_false (Ne.symm j4)
            simp -implicitDefEqProofs only [hltj,j3,hy,gn,hnx,go_sem,seval]
            refine aA (by (first | omega | (simp [aB,aD,aC,Nat.testBit_eq_decide_div_mod_eq];done) | (simp [aB,aD,aC,Nat.testBit_eq_decide_div_mod_eq];omega) | kernel_rfl)) ?_
            simp -implicitDefEqProofs only [hltj,j3,hy,gn,hnx,go_sem,seval]
            refine aA (by (first | omega | (simp [aB,aD,aC,Nat.testBit_eq_decide_div_mod_eq];done) | (simp [aB,aD,aC,Nat.testBit_eq_decide_div_mod_eq];omega) | kernel_rfl)) ?_
            simp -implicitDefEqProofs only [hltj,j3,hy,gn,hnx,go_sem,seval]
            refine aJ hpl ?_
            simp -implicitDefEqProofs only [go_sem,seval]
            refine aJ hin ?_
            generalize bJ w (lW names (nameOf x):Nat) y=B at *
            have hcB:(aj B).length=B.length * 9:=aT B
            generalize hA3:A ++ A2=A3 at *
            have hA3l:A3.length=A.length + A2.length:=by rw [← hA3,List.length_append]
            have hcA3:(aj A3).length=A3.length * 9:=aT A3
            have htA3:List.take (A3.length * 9) (aj A3)=aj A3:=List.take_of_length_le (by omega)
            by_cases hB0:B=[]
            · subst hB0
              simp -implicitDefEqProofs only [j6,j3,hcA3,htA3,aj,List.length_nil,wj,go_sem,seval]
              refine aA (by (first | omega | (simp [aB,aD,aC,Nat.testBit_eq_decide_div_mod_eq];done) | (simp [aB,aD,aC,Nat.testBit_eq_decide_div_mod_eq];omega) | kernel_rfl)) ?_
              simp -implicitDefEqProofs only [j6,j3,hcA3,htA3,aj,List.length_nil,wj,r0,r1,r2,r3,go_sem,seval]
              repeat (refine aA (by (first | omega | (simp [aB,aD,aC,Nat.testBit_eq_decide_div_mod_eq];done) | (simp [aB,aD,aC,Nat.testBit_eq_decide_div_mod_eq];omega) | kernel_rfl)) ?_;simp -implicitDefEqProofs only [j6,j3,hcA3,htA3,aj,List.length_nil,wj,r0,r1,r2,r3,go_sem,seval])
              have hs3:A ++ (x.l.take (j + 1)).flatMap (bJ w (lW names (nameOf x):Nat))=A3:=by rw [hsj,← hA3];simp
              exact ⟨(j + 1,_),by simp only;omega,⟨rfl,rfl⟩,by simp only;omega,j2,b2,e2,by simp only [hs3],j4,j5,by simp only [hs3];exact j6⟩
            · have hBz:(B.length=0)=False:=eq_false (by intro h;exact hB0 (List.eq_nil_of_length_eq_zero h))
              have hBp:0 < B.length:=by have:=List.length_pos_iff.2 hB0;exact this
              have hbd:((A3.length + B.length) * 152 ≤ 140737488355328)=True:=eq_true (by omega)
              simp -implicitDefEqProofs only [j6,j3,hcA3,htA3,hcB,hBz,hbd,wj,go_sem,seval]
              refine aA (by (first | omega | (simp [aB,aD,aC,Nat.testBit_eq_decide_div_mod_eq];done) | (simp [aB,aD,aC,Nat.testBit_eq_decide_div_mod_eq];omega) | kernel_rfl)) ?_
              simp -implicitDefEqProofs only [j6,j3,hcA3,htA3,hcB,hBz,hbd,wj,r0,r1,r2,r3,go_sem,seval]
              repeat (refine aA (by (first | omega | (simp [aB,aD,aC,Nat.testBit_eq_decide_div_mod_eq];done) | (simp [aB,aD,aC,Nat.testBit_eq_decide_div_mod_eq];omega) | kernel_rfl)) ?_;simp -implicitDefEqProofs only [j6,j3,hcA3,htA3,hcB,hBz,hbd,wj,r0,r1,r2,r3,go_sem,seval])
              have hs3:A ++ (x.l.take (j + 1)).flatMap (bJ w (lW names (nameOf x):Nat))=A3 ++ B:=by rw [hsj,← hA3,List.append_assoc]
              refine ⟨(j + 1,_),by simp only;omega,⟨rfl,rfl⟩,by simp only;omega,j2,b2,(if e2 + 1 ≤ A3.length * 9 + B.length * 9 then A3.length * 9 + B.length * 9 else e2 + 1),by simp only [hs3,List.length_append],j4,j5,?_⟩
              simp only [hs3,if_true,aW]
          · have hltj:((j:Int) < (x.l.length:Int))=False:=eq_false (by omega)
            rw [List.take_of_length_le hj] at j6
            simp -implicitDefEqProofs only [hltj,j3,wk,List.take_of_length_le hj,go_sem,seval]
            exact ⟨(k + 1,_),by simp only;omega,⟨rfl,rfl⟩,by simp only;omega,b2,e2,by simp only [hsn],by simp only;omega,by simp only [hsn];exact j6⟩
        · have gn:=eq_false (show ¬ (x.names.length:Int)=1 by omega)
          have hT:fG w names x=[]:=by unfold fG;rw [if_pos k3,if_neg kn]
          rw [hT] at hsn hp1
          refine aF (fun _:Unit=>0) (fun _=>[(0,.int .i64 w),(1,Enc.av l),(5,.sl b e 0 A.length 9),(6,Enc.av names),(7,.int .i64 i),(8,.int .i64 k),(9,.ptr m 0 0),(10,.int .i64 0)])
            (fun _ s=>m < s.next ∧ b < s.next ∧ AX.look b s.heap=some (.cells e (aj A) false) ∧ AX.look m s.heap=some (.cells 0 [.int .i64 x.kind,.ps x.bB.length (aj x.bB),.ps x.decls.length (aj x.decls),.ps x.names.length (aj x.names),.int .i64 x.min,.int .i64 x.max,.ps x.vals.length (aj x.vals),.ps x.l.length (aj x.l)] false)) () ?_ ?_
          · simp -implicitDefEqProofs only [q0,go_sem,seval]
            exact ⟨by omega,c2⟩
          rintro _ ρ ⟨g2,r⟩ ⟨j2,j5,j6,j3⟩
          dsimp only at j2 j3 j5 j6
          by_cases hz:0 < x.l.length
          · have hltj:((0:Int) < (x.l.length:Int))=True:=eq_true (by omega)
            simp -implicitDefEqProofs only [hltj,j3,gn,wk,go_sem,seval]
            exact ⟨(k + 1,_),by simp only;omega,⟨rfl,rfl⟩,by simp only;omega,b,e,by simp only [hsn,List.append_nil],by simp only;omega,by simp only [hsn,List.append_nil];exact j6⟩
          · have hltj:((0:Int) < (x.l.length:Int))=False:=eq_false (by omega)
            simp -implicitDefEqProofs only [hltj,j3,gn,wk,go_sem,seval]
            exact ⟨(k + 1,_),by simp only;omega,⟨rfl,rfl⟩,by simp only;omega,b,e,by simp only [hsn,List.append_nil],by simp only;omega,by simp only [hsn,List.append_nil];exact j6⟩
      · have g3:=eq_false k3
        have hT:fG w names x=bJ w (names.length:Nat) x:=by unfold fG;rw [if_neg k3]
        rw [hT] at hsn hp1
        have hin:=CQ x w (names.length:Nat) (by omega)
        rw [Item.fC] at hin
        simp -implicitDefEqProofs only [hltk,hlti,hxs,hx,g3,go_sem,seval]
        refine au hin ?_
        generalize bJ w (names.length:Nat) x=B at *
        have hcB:(aj B).length=B.length * 9:=aT B
        by_cases hB0:B=[]
        · subst hB0
          simp -implicitDefEqProofs only [c2,q0,q1,hcA,htA,aj,List.length_nil,wk,go_sem,seval]
          exact ⟨(k + 1,_),by simp only;omega,⟨rfl,rfl⟩,by simp only;omega,b,e,by simp only [hsn,List.append_nil],by simp only;omega,by simp only [hsn,List.append_nil,AX.look,q0,if_false];exact c2⟩
        · have hBz:(B.length=0)=False:=eq_false (by intro h;exact hB0 (List.eq_nil_of_length_eq_zero h))
          have hBp:0 < B.length:=by have:=List.length_pos_iff.2 hB0;exact this
          have hbd:((A.length + B.length) * 152 ≤ 140737488355328)=True:=eq_true (by omega)
          simp -implicitDefEqProofs only [c2,q0,q1,hcA,htA,hcB,hBz,hbd,wk,go_sem,seval]
          refine ⟨(k + 1,_),by simp only;omega,⟨rfl,rfl⟩,by simp only;omega,b,(if e + 1 ≤ A.length * 9 + B.length * 9 then A.length * 9 + B.length * 9 else e + 1),by simp only [hsn,List.length_append],by simp only;omega,?_⟩
          simp only [hsn,AX.look,aS,q0,if_false,if_true,c2,Option.map_some,aW]
    · have hltk:((k:Int) < (xs.length:Int))=False:=eq_false (by omega)
      have hke:k=xs.length:=by omega
      subst hke
      simp -implicitDefEqProofs only [hltk,hlti,hxs,wi,go_sem,seval]
      exact ⟨(i + 1,u),by simp only;omega,⟨rfl,rfl⟩,by simp only;omega,by simp only [hnext];exact b2⟩
  · have hlti:((i:Int) < (l.length:Int))=False:=eq_false (by omega)
    rw [List.take_of_length_le hi,List.take_length] at a2
    simp -implicitDefEqProofs only [hlti,go_sem,seval]
    obtain ⟨b,e,rfl,c1,c2⟩:=a2
    exact eX (α:=Placed) ⟨g,m⟩ 7 rfl lS _ c2
end W15
/- Rules, frames, fonts by the reference. -/
namespace W15
open Go Go.AX Go.AX.Ty Go.Proofs
theorem GR {l:List Placed} {i:Nat} {x:Placed} (h:l[i]? = some x):(l.take (i + 1)).filterMap cK=(l.take i).filterMap cK ++ (cK x).toList:=by
  rw [List.take_add_one,h,List.filterMap_append]
  rw [List.append_cancel_left_eq]
  simp only [Option.toList_some,List.filterMap_cons,List.filterMap_nil]
  try (cases cK x <;> rfl)
theorem Lu (a:Rule):(Enc.cells a).all iE=true:=by simp [Rule.aO,iE,aP]
theorem Dx (w:Int) (l:List (List Ty.Item)) (ok:uU l) (hb:(dG w l).length ≤ 1000000) (hii:∀ x ∈ l.flatten,∀ y ∈ x.l,y.l.length ≤ 1000):aK Tryz.prog 14 [.int .i64 w,Enc.av l] (Enc.av (fu w l)):=by
  refine eH mix c14 (by kernel_rfl) (by kernel_rfl) (by simp [ay,flat,ak]) (ak _) ?_
  simp -implicitDefEqProofs only [F14,go_sem,seval]
  refine au (BN w l ok (by omega) hii) ?_
  unfold fu
  generalize dG w l=a at *
  simp -implicitDefEqProofs only [go_sem,seval]
  refine aF (fun p:Nat × AV=>a.length - p.1) (fun p=>[(5,p.2),(6,Enc.av a),(7,.int .i64 p.1)])
    (fun p s=>p.1 ≤ a.length ∧ JI 3 ((a.take p.1).filterMap cK) p.2 s) (0,.sl 0 0 0 0 3) ?_ ?_
  · simp -implicitDefEqProofs only [List.take_zero,List.filterMap_nil,go_sem,seval]
    exact ⟨0,0,rfl,Nat.zero_lt_succ _,rfl⟩
  rintro ⟨k,v⟩ ρ ⟨g,m⟩ ⟨h1,h2⟩
  dsimp only at h1 h2
  rcases Nat.lt_or_ge k a.length with hk | hk
  · obtain ⟨x,hx,hd,hm⟩:=aG hk
    have hlt:((k:Int) < (a.length:Int))=True:=eq_true (by omega)
    have w1:IntKind.i64.wrap ((k:Int) + 1)=((k + 1:Nat):Int):=by rw [wrap64 (by omega) (by omega)];omega
    have hsn:=GR hx
    have hle:((a.take k).filterMap cK).length ≤ a.length:=Nat.le_trans (List.length_filterMap_le _ _) (by rw [List.length_take];omega)
    generalize (a.take k).filterMap cK=R at *
    obtain ⟨b,e,rfl,c1,c2⟩:=h2
    simp only at c1 c2
    by_cases hk1:x.item.kind=1
    · have fk:=eq_true hk1
      have hru:cK x=some ⟨x.item.bB,x.item.decls,x.layer⟩:=by unfold cK;rw [if_pos hk1]
      rw [hru] at hsn
      have hc:(aj R).length=R.length * 3:=aT R
      have ht:List.take (R.length * 3) (aj R)=aj R:=List.take_of_length_le (by omega)
      have hbd:((R.length + 1) * 56 ≤ 140737488355328)=True:=eq_true (by omega)
      have q0:(m=b)=False:=eq_false (by omega)
      have q1:(b=m)=False:=eq_false (by omega)
      simp -implicitDefEqProofs only [hlt,hx,fk,c2,hc,ht,hbd,q0,q1,w1,go_sem,seval]
      repeat (refine aA (by (first | omega | (simp [aB,aD,aC,Nat.testBit_eq_decide_div_mod_eq];done) | (simp [aB,aD,aC,Nat.testBit_eq_decide_div_mod_eq];omega) | kernel_rfl)) ?_;simp -implicitDefEqProofs only [hlt,hx,fk,c2,hc,ht,hbd,q0,q1,w1,go_sem,seval])
      refine ⟨(k + 1,_),by simp only;omega,⟨rfl,rfl⟩,by simp only;omega,b,(if e ≤ R.length * 3 + 2 then R.length * 3 + 3 else e + 1),by simp only [hsn,List.length_append,Option.toList_some,List.length_singleton],by simp only;omega,?_⟩
      simp only [hsn,AX.look,aS,q0,if_false,if_true,c2,Option.map_some,aW,Option.toList_some,aj,Rule.aO,List.append_nil]
    · have fk:=eq_false hk1
      have hru:cK x=none:=by unfold cK;rw [if_neg hk1]
      rw [hru] at hsn
      simp only [Option.toList_none,List.append_nil] at hsn
      simp -implicitDefEqProofs only [hlt,hx,fk,w1,go_sem,seval]
      exact ⟨(k + 1,_),by simp only;omega,⟨rfl,rfl⟩,by simp only;omega,b,e,by simp only [hsn],c1,by simp only [hsn];exact c2⟩
  · have hlt:((k:Int) < (a.length:Int))=False:=eq_false (by omega)
    rw [List.take_of_length_le hk] at h2
    simp -implicitDefEqProofs only [hlt,go_sem,seval]
    obtain ⟨b,e,rfl,c1,c2⟩:=h2
    exact eX (α:=Rule) ⟨g,m⟩ 7 rfl Lu _ c2
def V3 (l:List Placed) (o:Option Nat) (top:Option Placed):Prop:=match o with | none=>top=none | some b=>∃ x,l[b]? = some x ∧ top=some x
theorem zQ {f:Ty.Item → Bool} {l:List Placed} {i:Nat} {x:Placed} (h:l[i]? = some x):lastB f (l.take (i + 1))=lastStep f (lastB f (l.take i)) x:=by
  rw [List.take_add_one,h];exact zU f _ x
theorem KM (w:Int) (name:Str) (l:List (List Ty.Item)) (ok:uU l) (hb:(dG w l).length ≤ 1000000) (hii:∀ x ∈ l.flatten,∀ y ∈ x.l,y.l.length ≤ 1000) :
    aK Tryz.prog 19 [.int .i64 w,.str name,Enc.av l] (.tup [Enc.av (kU (lastB (bP name) (dG w l))).vals,.bool (lastB (bP name) (dG w l)).isSome]):=by
  refine eH mix c19 (by kernel_rfl) (by kernel_rfl) (by simp [ay,flat,ak]) (by simp [ay,flat,ak]) ?_
  simp -implicitDefEqProofs only [F19,go_sem,seval]
  refine au (BN w l ok (by omega) hii) ?_
  generalize dG w l=a at *
  simp -implicitDefEqProofs only [go_sem,seval]
  refine aF (fun p:Nat × Option Nat=>a.length - p.1) (fun p=>[(1,.str name),(8,Enc.av a),(9,.int .i64 (zG p.2)),(10,.int .i64 p.1)])
    (fun p s=>p.1 ≤ a.length ∧ V3 a p.2 (lastB (bP name) (a.take p.1))) (0,none) ?_ ?_
  · simp -implicitDefEqProofs only [go_sem,seval]
    exact ⟨rfl,rfl⟩
  rintro ⟨k,o⟩ ρ ⟨g,m⟩ ⟨h1,h4⟩
  dsimp only at h1 h4
  rcases Nat.lt_or_ge k a.length with hk | hk
  · obtain ⟨x,hx,hd,hm⟩:=aG hk
    have hlt:((k:Int) < (a.length:Int))=True:=eq_true (by omega)
    have w1:IntKind.i64.wrap ((k:Int) + 1)=((k + 1:Nat):Int):=by rw [wrap64 (by omega) (by omega)];omega
    have hsn:=zQ (f:=bP name) hx
    have no:bP name x.item=false → lastB (bP name) (a.take (k + 1))=lastB (bP name) (a.take k):=fun h=>by rw [hsn];unfold lastStep;rw [h];rfl
    by_cases k5:x.item.kind=5
    · have g5:=eq_true k5
      by_cases kn:x.item.names.length=1
      · have gn:=eq_true (show (x.item.names.length:Int)=1 by omega)
        obtain ⟨nm,hnm,_,_⟩:=aG (l:=x.item.names) (k:=0) (by omega)
        have hno:nameOf x.item=nm:=by
          unfold nameOf
          cases hh:x.item.names with
          | nil=>rw [hh] at hnm;simp at hnm
          | cons p r=>rw [hh] at hnm;simp at hnm;subst hnm;rfl
        by_cases he:nm=name
        · have ge:=eq_true he
          have hf:bP name x.item=true:=by simp [bP,k5,kn,hno,he]
          cases o with
          | none =>
            have h4':lastB (bP name) (a.take k)=none:=h4
            have hst:lastB (bP name) (a.take (k + 1))=some x:=by rw [hsn,h4'];unfold lastStep;rw [hf];rfl
            simp -implicitDefEqProofs only [hlt,hx,g5,gn,hnm,ge,w1,zG,go_sem,seval]
            refine aA (by (first | omega | (simp [aB,aD,aC,Nat.testBit_eq_decide_div_mod_eq];done) | (simp [aB,aD,aC,Nat.testBit_eq_decide_div_mod_eq];omega) | kernel_rfl)) ?_
            simp -implicitDefEqProofs only [hlt,hx,g5,gn,hnm,ge,w1,zG,go_sem,seval]
            exact ⟨(k + 1,some k),by simp only;omega,⟨rfl,rfl⟩,by simp only;omega,x,hx,hst⟩
          | some b =>
            obtain ⟨t,ht,h5⟩:=h4
            have hbl:b < a.length:=(List.getElem?_eq_some_iff.1 ht).1
            have b0:((b:Int) < 0)=False:=eq_false (by omega)
            by_cases hle:t.layer ≤ x.layer
            · have fle:(x.layer ≥ t.layer)=True:=eq_true hle
              have hst:lastB (bP name) (a.take (k + 1))=some x:=by rw [hsn,h5];unfold lastStep;rw [hf];simp [hle]
              simp -implicitDefEqProofs only [hlt,hx,g5,gn,hnm,ge,w1,zG,b0,ht,fle,go_sem,seval]
              refine aA (by (first | omega | (simp [aB,aD,aC,Nat.testBit_eq_decide_div_mod_eq];done) | (simp [aB,aD,aC,Nat.testBit_eq_decide_div_mod_eq];omega) | kernel_rfl)) ?_
              simp -implicitDefEqProofs only [hlt,hx,g5,gn,hnm,ge,w1,zG,b0,ht,fle,go_sem,seval]
              exact ⟨(k + 1,some k),by simp only;omega,⟨rfl,rfl⟩,by simp only;omega,x,hx,hst⟩
            · have fle:(x.layer ≥ t.layer)=False:=eq_false hle
              have hst:lastB (bP name) (a.take (k + 1))=some t:=by rw [hsn,h5];unfold lastStep;rw [hf];simp [hle]
              simp -implicitDefEqProofs only [hlt,hx,g5,gn,hnm,ge,w1,zG,b0,ht,fle,go_sem,seval]
              refine aA (by (first | omega | (simp [aB,aD,aC,Nat.testBit_eq_decide_div_mod_eq];done) | (simp [aB,aD,aC,Nat.testBit_eq_decide_div_mod_eq];omega) | kernel_rfl)) ?_
              simp -implicitDefEqProofs only [hlt,hx,g5,gn,hnm,ge,w1,zG,b0,ht,fle,go_sem,seval]
              exact ⟨(k + 1,some b),by simp only;omega,⟨rfl,rfl⟩,by simp only;omega,t,ht,hst⟩
        · have ge:=eq_false he
          have hf:=no (by simp [bP,k5,kn,hno,he])
          simp -implicitDefEqProofs only [hlt,hx,g5,gn,hnm,ge,w1,go_sem,seval]
          refine aA (by (first | omega | (simp [aB,aD,aC,Nat.testBit_eq_decide_div_mod_eq];done) | (simp [aB,aD,aC,Nat.testBit_eq_decide_div_mod_eq];omega) | kernel_rfl)) ?_
          simp -implicitDefEqProofs only [hlt,hx,g5,gn,hnm,ge,w1,go_sem,seval]
          exact ⟨(k + 1,o),by simp only;omega,⟨rfl,rfl⟩,by simp only;omega,by rw [hf];exact h4⟩
      · have gn:=eq_false (show ¬ (x.item.names.length:Int)=1 by omega)
        have hf:=no (by simp [bP,k5,kn])
        simp -implicitDefEqProofs only [hlt,hx,g5,gn,w1,go_sem,seval]
        refine aA (by (first | omega | (simp [aB,aD,aC,Nat.testBit_eq_decide_div_mod_eq];done) | (simp [aB,aD,aC,Nat.testBit_eq_decide_div_mod_eq];omega) | kernel_rfl)) ?_
        simp -implicitDefEqProofs only [hlt,hx,g5,gn,w1,go_sem,seval]
        exact ⟨(k + 1,o),by simp only;omega,⟨rfl,rfl⟩,by simp only;omega,by rw [hf];exact h4⟩
    · have g5:=eq_false k5
      have hf:=no (by simp [bP,k5])
      simp -implicitDefEqProofs only [hlt,hx,g5,w1,go_sem,seval]
      refine aA (by (first | omega | (simp [aB,aD,aC,Nat.testBit_eq_decide_div_mod_eq];done) | (simp [aB,aD,aC,Nat.testBit_eq_decide_div_mod_eq];omega) | kernel_rfl)) ?_
      simp -implicitDefEqProofs only [hlt,hx,g5,w1,go_sem,seval]
      exact ⟨(k + 1,o),by simp only;omega,⟨rfl,rfl⟩,by simp only;omega,by rw [hf];exact h4⟩
  · have hlt:((k:Int) < (a.length:Int))=False:=eq_false (by omega)
    rw [List.take_of_length_le hk] at h4
    cases o with
    | none =>
      have h4':lastB (bP name) a=none:=h4
      rw [h4']
      simp -implicitDefEqProofs only [hlt,zG,go_sem,seval]
      rfl
    | some b =>
      obtain ⟨t,ht,h5⟩:=h4
      rw [h5]
      have hbl:b < a.length:=(List.getElem?_eq_some_iff.1 ht).1
      have b0:((b:Int) < 0)=False:=eq_false (by omega)
      simp -implicitDefEqProofs only [hlt,zG,b0,ht,go_sem,seval]
      unfold dW kU
      simp [bI,bf,iA,aP]
theorem QT (w:Int) (name:Str) (l:List (List Ty.Item)) (ok:uU l) (hb:(dG w l).length ≤ 1000000) (hii:∀ x ∈ l.flatten,∀ y ∈ x.l,y.l.length ≤ 1000) (hdd:∀ p ∈ dG w l,p.item.decls.length ≤ 1000000 ∧ ∀ d ∈ p.item.decls,d.l.length ≤ 1000000) :
    aK Tryz.prog 21 [.int .i64 w,.str name,Enc.av l] (.tup [Enc.av (kU (lastB (eG name) (dG w l))).decls,.bool (lastB (eG name) (dG w l)).isSome]):=by
  refine eH mix c21 (by kernel_rfl) (by kernel_rfl) (by simp [ay,flat,ak]) (by simp [ay,flat,ak]) ?_
  simp -implicitDefEqProofs only [F21,go_sem,seval]
  refine au (BN w l ok (by omega) hii) ?_
  generalize dG w l=a at *
  simp -implicitDefEqProofs only [go_sem,seval]
  refine aF (fun p:Nat × Option Nat=>a.length - p.1) (fun p=>[(1,.str name),(8,Enc.av a),(9,.int .i64 (zG p.2)),(10,.int .i64 p.1)])
    (fun p s=>p.1 ≤ a.length ∧ V3 a p.2 (lastB (eG name) (a.take p.1))) (0,none) ?_ ?_
  · simp -implicitDefEqProofs only [go_sem,seval]
    exact ⟨rfl,rfl⟩
  rintro ⟨k,o⟩ ρ ⟨g,m⟩ ⟨h1,h4⟩
  dsimp only at h1 h4
  rcases Nat.lt_or_ge k a.length with hk | hk
  · obtain ⟨x,hx,hd,hm⟩:=aG hk
    have hlt:((k:Int) < (a.length:Int))=True:=eq_true (by omega)
    have w1:IntKind.i64.wrap ((k:Int) + 1)=((k + 1:Nat):Int):=by rw [wrap64 (by omega) (by omega)];omega
    have hsn:=zQ (f:=eG name) hx
    have no:eG name x.item=false → lastB (eG name) (a.take (k + 1))=lastB (eG name) (a.take k):=fun h=>by rw [hsn];unfold lastStep;rw [h];rfl
    have hfa:=J9 x.item (hdd x hm).1 (hdd x hm).2
    rw [Item.fC] at hfa
    by_cases k5:x.item.kind=6
    · have g5:=eq_true k5
      cases hfd:tq x.item.decls with
      | none =>
        have hf:=no (by simp [eG,hfd])
        rw [hfd] at hfa
        simp -implicitDefEqProofs only [hlt,hx,go_sem,seval]
        refine au hfa ?_
        simp -implicitDefEqProofs only [pI,hx,g5,w1,go_sem,seval]
        refine aA (by (first | omega | (simp [aB,aD,aC,Nat.testBit_eq_decide_div_mod_eq];done) | (simp [aB,aD,aC,Nat.testBit_eq_decide_div_mod_eq];omega) | kernel_rfl)) ?_
        simp -implicitDefEqProofs only [hx,g5,w1,go_sem,seval]
        exact ⟨(k + 1,o),by simp only;omega,⟨rfl,rfl⟩,by simp only;omega,by rw [hf];exact h4⟩
      | some nm =>
        rw [hfd] at hfa
        by_cases he:nm=name
        · have ge:=eq_true he
          have hf:eG name x.item=true:=by simp [eG,k5,hfd,he]
          cases o with
          | none =>
            have h4':lastB (eG name) (a.take k)=none:=h4
            have hst:lastB (eG name) (a.take (k + 1))=some x:=by rw [hsn,h4'];unfold lastStep;rw [hf];rfl
            simp -implicitDefEqProofs only [hlt,hx,zG,go_sem,seval]
            refine au hfa ?_
            simp -implicitDefEqProofs only [pI,hx,g5,ge,w1,zG,go_sem,seval]
            refine aA (by (first | omega | (simp [aB,aD,aC,Nat.testBit_eq_decide_div_mod_eq];done) | (simp [aB,aD,aC,Nat.testBit_eq_decide_div_mod_eq];omega) | kernel_rfl)) ?_
            simp -implicitDefEqProofs only [pI,hx,g5,ge,w1,zG,go_sem,seval]
            exact ⟨(k + 1,some k),by simp only;omega,⟨rfl,rfl⟩,by simp only;omega,x,hx,hst⟩
          | some b =>
            obtain ⟨t,ht,h5⟩:=h4
            have hbl:b < a.length:=(List.getElem?_eq_some_iff.1 ht).1
            have b0:((b:Int) < 0)=False:=eq_false (by omega)
            by_cases hle:t.layer ≤ x.layer
            · have fle:(x.layer ≥ t.layer)=True:=eq_true hle
              have hst:lastB (eG name) (a.take (k + 1))=some x:=by rw [hsn,h5];unfold lastStep;rw [hf];simp [hle]
              simp -implicitDefEqProofs only [hlt,hx,zG,go_sem,seval]
              refine au hfa ?_
              simp -implicitDefEqProofs only [pI,hx,g5,ge,w1,zG,b0,ht,fle,go_sem,seval]
              refine aA (by (first | omega | (simp [aB,aD,aC,Nat.testBit_eq_decide_div_mod_eq];done) | (simp [aB,aD,aC,Nat.testBit_eq_decide_div_mod_eq];omega) | kernel_rfl)) ?_
              simp -implicitDefEqProofs only [pI,hx,g5,ge,w1,zG,b0,ht,fle,go_sem,seval]
              exact ⟨(k + 1,some k),by simp only;omega,⟨rfl,rfl⟩,by simp only;omega,x,hx,hst⟩
            · have fle:(x.layer ≥ t.layer)=False:=eq_false hle
              have hst:lastB (eG name) (a.take (k + 1))=some t:=by rw [hsn,h5];unfold lastStep;rw [hf];simp [hle]
              simp -implicitDefEqProofs only [hlt,hx,zG,go_sem,seval]
              refine au hfa ?_
              simp -implicitDefEqProofs only [pI,hx,g5,ge,w1,zG,b0,ht,fle,go_sem,seval]
              refine aA (by (first | omega | (simp [aB,aD,aC,Nat.testBit_eq_decide_div_mod_eq];done) | (simp [aB,aD,aC,Nat.testBit_eq_decide_div_mod_eq];omega) | kernel_rfl)) ?_
              simp -implicitDefEqProofs only [pI,hx,g5,ge,w1,zG,b0,ht,fle,go_sem,seval]
              exact ⟨(k + 1,some b),by simp only;omega,⟨rfl,rfl⟩,by simp only;omega,t,ht,hst⟩
        · have ge:=eq_false he
          have hf:=no (by simp [eG,hfd,he])
          simp -implicitDefEqProofs only [hlt,hx,go_sem,seval]
          refine au hfa ?_
          simp -implicitDefEqProofs only [pI,hx,g5,ge,w1,go_sem,seval]
          refine aA (by (first | omega | (simp [aB,aD,aC,Nat.testBit_eq_decide_div_mod_eq];done) | (simp [aB,aD,aC,Nat.testBit_eq_decide_div_mod_eq];omega) | kernel_rfl)) ?_
          simp -implicitDefEqProofs only [hx,g5,ge,w1,go_sem,seval]
          exact ⟨(k + 1,o),by simp only;omega,⟨rfl,rfl⟩,by simp only;omega,by rw [hf];exact h4⟩
    · have g5:=eq_false k5
      have hf:=no (by simp [eG,k5])
      cases hfd:tq x.item.decls with
      | none =>
        rw [hfd] at hfa
        simp -implicitDefEqProofs only [hlt,hx,go_sem,seval]
        refine au hfa ?_
        simp -implicitDefEqProofs only [pI,hx,g5,w1,go_sem,seval]
        refine aA (by (first | omega | (simp [aB,aD,aC,Nat.testBit_eq_decide_div_mod_eq];done) | (simp [aB,aD,aC,Nat.testBit_eq_decide_div_mod_eq];omega) | kernel_rfl)) ?_
        simp -implicitDefEqProofs only [hx,g5,w1,go_sem,seval]
        exact ⟨(k + 1,o),by simp only;omega,⟨rfl,rfl⟩,by simp only;omega,by rw [hf];exact h4⟩
      | some nm =>
        rw [hfd] at hfa
        simp -implicitDefEqProofs only [hlt,hx,go_sem,seval]
        refine au hfa ?_
        simp -implicitDefEqProofs only [pI,hx,g5,w1,go_sem,seval]
        refine aA (by (first | omega | (simp [aB,aD,aC,Nat.testBit_eq_decide_div_mod_eq];done) | (simp [aB,aD,aC,Nat.testBit_eq_decide_div_mod_eq];omega) | kernel_rfl)) ?_
        simp -implicitDefEqProofs only [hx,g5,w1,go_sem,seval]
        exact ⟨(k + 1,o),by simp only;omega,⟨rfl,rfl⟩,by simp only;omega,by rw [hf];exact h4⟩
  · have hlt:((k:Int) < (a.length:Int))=False:=eq_false (by omega)
    rw [List.take_of_length_le hk] at h4
    cases o with
    | none =>
      have h4':lastB (eG name) a=none:=h4
      rw [h4']
      simp -implicitDefEqProofs only [hlt,zG,go_sem,seval]
      rfl
    | some b =>
      obtain ⟨t,ht,h5⟩:=h4
      rw [h5]
      have hbl:b < a.length:=(List.getElem?_eq_some_iff.1 ht).1
      have b0:((b:Int) < 0)=False:=eq_false (by omega)
      simp -implicitDefEqProofs only [hlt,zG,b0,ht,go_sem,seval]
      unfold dW kU
      simp [bI,bf,iA,aP]
end W15
/- The heaviest selector that fits. -/
namespace W15
open Go Go.AX Go.AX.Ty Go.Proofs
noncomputable def oF (s:bO) (n:Int) (pseudo:Str) (c:Complex):Bool:=decide (c.pseudo=pseudo) && xF s.p s.states n c.parts
noncomputable def ji (s:bO) (n:Int) (pseudo:Str) (l:List Complex):List W3:=(l.filter (oF s n pseudo)).map O9
theorem Ap {s:bO} {n:Int} {pseudo:Str} {l:List Complex} {i:Nat} {c:Complex} (h:l[i]? = some c):ji s n pseudo (l.take (i + 1))=ji s n pseudo (l.take i) ++ if oF s n pseudo c=true then [O9 c] else []:=by
  unfold ji
  rw [List.take_add_one,h]
  simp only [Option.toList_some,List.filter_append,List.map_append]
  congr 1
  by_cases hb:oF s n pseudo c=true
  · rw [if_pos hb];simp [hb]
  · rw [if_neg hb];simp [hb]
theorem CG (s:bO) (n:Int) (pseudo:Str) (l:List Complex):(ji s n pseudo l).length ≤ l.length:=by
  unfold ji;rw [List.length_map];exact List.length_filter_le _ _
def SG (l:List W3) (v:AV) (s:St):Prop:=(l=[] ∧ v=.nils) ∨ ∃ b e,v=.sl b e 0 l.length 3 ∧ b < s.next ∧ AX.look b s.heap=some (.cells e (aj l) false)
theorem SG.push {l:List W3} {v:AV} {h:List (Nat × AX.Obj)} {m:Nat} {o:AX.Obj} (hv:SG l v ⟨h,m⟩):SG l v ⟨(m,o) :: h,m + 1⟩:=by
  rcases hv with hv | ⟨b,e,rfl,h1,h2⟩
  · exact .inl hv
  · simp only at h1 h2
    exact .inr ⟨b,e,rfl,by simp only;omega,by simp only [AX.look];rw [if_neg (by omega)];exact h2⟩
set_option maxHeartbeats 1600000 in
theorem H8 (s:bO) (n:Int) (pseudo:Str) (l:List Complex) (hp:gV s.p) (hs:s.states.length ≤ 100000) (hl:l.length ≤ 100000) (hc:∀ c ∈ l,Enc.ok c ∧ mV c.parts ≤ 100000) :
    aK Tryz.prog 51 [Enc.av s,.int .i64 n,.str pseudo,Enc.av l] (.tup [Enc.av (oJ (ji s n pseudo l)),.bool (decide (0 < (ji s n pseudo l).length))]):=by
  refine eH mix c51 (by kernel_rfl) (by kernel_rfl) (by simp [ay,flat,ak]) (by simp [ay,flat,ak]) ?_
  simp -implicitDefEqProofs only [F51,go_sem,seval]
  refine aF (fun p:Nat × AV=>l.length - p.1) (fun p=>[(1,.int .i64 n),(2,.str pseudo),(4,.ptr 0 0 0),(8,.ptr 1 0 0),(10,p.2),(13,Enc.av l),(14,.int .i64 l.length),(15,.int .i64 p.1)])
    (fun p t=>p.1 ≤ l.length ∧ 1 < t.next ∧ AX.look 0 t.heap=some (.cells 0 (Enc.cells s) false) ∧ AX.look 1 t.heap=some (.cells 0 [.int .i64 0,.int .i64 0,.int .i64 0] false) ∧
      ((ji s n pseudo (l.take p.1)=[] ∧ p.2=.nils) ∨ ∃ b e,p.2=.sl b e 0 (ji s n pseudo (l.take p.1)).length 3 ∧ 1 < b ∧ b < t.next ∧ AX.look b t.heap=some (.cells e (aj (ji s n pseudo (l.take p.1))) false))) (0,.nils) ?_ ?_
  · simp -implicitDefEqProofs only [List.take_zero,go_sem,seval]
    exact .inl rfl
  rintro ⟨k,v⟩ ρ ⟨g,m⟩ ⟨h1,h2,h3,h4,h5⟩
  dsimp only at h1 h2 h3 h4 h5
  simp only [bO.aO] at h3
  have m0:(m=0)=False:=eq_false (by omega)
  have m1:(m=1)=False:=eq_false (by omega)
  rcases Nat.lt_or_ge k l.length with hk | hk
  · obtain ⟨c,hx,hd,hm⟩:=aG hk
    have hlt:((k:Int) < (l.length:Int))=True:=eq_true (by omega)
    have w1:IntKind.i64.wrap ((k:Int) + 1)=((k + 1:Nat):Int):=by rw [wrap64 (by omega) (by omega)];omega
    have hsn:=Ap (s:=s) (n:=n) (pseudo:=pseudo) hx
    have hle:(ji s n pseudo (l.take k)).length ≤ l.length:=Nat.le_trans (CG _ _ _ _) (by rw [List.length_take];omega)
    generalize ji s n pseudo (l.take k)=R at *
    have hi:=VK s.p s.states hp hs n c (hc c hm).1
    have ho:=VI c (hc c hm).2
    rw [Complex.fC] at hi ho
    by_cases he:c.pseudo=pseudo
    · have ge:=eq_true he
      cases hb:xF s.p s.states n c.parts
      · have hsel:oF s n pseudo c=false:=by simp [oF,hb]
        rw [hsel] at hsn
        simp only [Bool.false_eq_true,if_false,List.append_nil] at hsn
        rw [hb] at hi
        simp -implicitDefEqProofs only [hlt,hx,ge,h3,m0,m1,go_sem,seval]
        refine au hi ?_
        simp -implicitDefEqProofs only [w1,ge,h3,h4,m0,m1,go_sem,seval]
        rcases h5 with ⟨rfl,rfl⟩ | ⟨b,e,rfl,c0,c1,c2⟩
        · exact ⟨(k + 1,_),by simp only;omega,⟨rfl,rfl⟩,by simp only;omega,by omega,.inl ⟨hsn,rfl⟩⟩
        · exact ⟨(k + 1,_),by simp only;omega,⟨rfl,rfl⟩,by simp only;omega,by omega,.inr ⟨b,e,by simp only [hsn],c0,by omega,by rw [if_neg (by omega)];simp only [hsn];exact c2⟩⟩
      · have hsel:oF s n pseudo c=true:=by simp [oF,hb,he]
        rw [hsel] at hsn
        simp only [if_true] at hsn
        rw [hb] at hi
        simp -implicitDefEqProofs only [hlt,hx,ge,h3,m0,m1,go_sem,seval]
        refine au hi ?_
        simp -implicitDefEqProofs only [w1,ge,h3,m0,m1,go_sem,seval]
        refine au ho ?_
        rcases h5 with ⟨rfl,rfl⟩ | ⟨b,e,rfl,c0,c1,c2⟩
        · simp -implicitDefEqProofs only [w1,m0,m1,h3,h4,go_sem,seval]
          refine ⟨(k + 1,_),by simp only;omega,⟨rfl,rfl⟩,by simp only;omega,by omega,.inr ⟨m + 1 + 1,3,by simp only [hsn,List.nil_append,List.length_singleton],by omega,by omega,?_⟩⟩
          simp only [hsn,List.nil_append,if_true,aj,W3.aO,List.append_nil]
        · have hcl:(aj R).length=R.length * 3:=aT R
          have ht:List.take (R.length * 3) (aj R)=aj R:=List.take_of_length_le (by omega)
          have hbd:((R.length + 1) * 24 ≤ 140737488355328)=True:=eq_true (by omega)
          have q0:(m=b)=False:=eq_false (by omega)
          have q1:(b=m)=False:=eq_false (by omega)
          have q2:(m + 1=b)=False:=eq_false (by omega)
          have q3:(b=m + 1)=False:=eq_false (by omega)
          have b0:(b=0)=False:=eq_false (by omega)
          have b1:(b=1)=False:=eq_false (by omega)
          have M0:(m + 1=0)=False:=eq_false (by omega)
          have M1:(m + 1=1)=False:=eq_false (by omega)
          simp -implicitDefEqProofs only [w1,c2,hcl,ht,hbd,q0,q1,q2,q3,m0,m1,h3,h4,b0,b1,M0,M1,go_sem,seval]
          refine ⟨(k + 1,_),by simp only;omega,⟨rfl,rfl⟩,by simp only;omega,by omega,.inr ⟨b,(if e ≤ R.length * 3 + 2 then R.length * 3 + 3 else e + 1),by simp only [hsn,List.length_append,List.length_singleton],c0,by omega,?_⟩⟩
          simp only [hsn,q0,q2,if_false,if_true,aW,aj,W3.aO,List.append_nil]
    · have ge:=eq_false he
      have hsel:oF s n pseudo c=false:=by simp [oF,he]
      rw [hsel] at hsn
      simp only [Bool.false_eq_true,if_false,List.append_nil] at hsn
      simp -implicitDefEqProofs only [hlt,hx,ge,w1,h3,h4,m0,m1,go_sem,seval]
      rcases h5 with ⟨rfl,rfl⟩ | ⟨b,e,rfl,c0,c1,c2⟩
      · exact ⟨(k + 1,_),by simp only;omega,⟨rfl,rfl⟩,by simp only;omega,by omega,.inl ⟨hsn,rfl⟩⟩
      · exact ⟨(k + 1,_),by simp only;omega,⟨rfl,rfl⟩,by simp only;omega,by omega,.inr ⟨b,e,by simp only [hsn],c0,by omega,by rw [if_neg (by omega)];simp only [hsn];exact c2⟩⟩
  · have hlt:((k:Int) < (l.length:Int))=False:=eq_false (by omega)
    rw [List.take_of_length_le hk] at h5
    have hle:(ji s n pseudo l).length ≤ l.length:=CG _ _ _ _
    generalize ji s n pseudo l=R at *
    rcases h5 with ⟨rfl,rfl⟩ | ⟨b,e,rfl,c0,c1,c2⟩
    · have hM:=UL [] (by simp)
      simp -implicitDefEqProofs only [hlt,go_sem,seval]
      refine au hM ?_
      simp -implicitDefEqProofs only [h4,go_sem,seval]
      unfold dW
      simp [bI,bf,iA]
    · have hM:=UL R (by omega)
      have hcl:(aj R).length=R.length * 3:=aT R
      have ht:List.take (R.length * 3) (aj R)=aj R:=List.take_of_length_le (by omega)
      simp -implicitDefEqProofs only [hlt,c2,hcl,ht,go_sem,seval]
      refine au hM ?_
      have b1:(b=1)=False:=eq_false (by omega)
      simp -implicitDefEqProofs only [h4,b1,c2,go_sem,seval]
      unfold dW
      simp [bI,bf,iA]
end W15
