/- The fixed calls: values. -/
import Derived.Test.YtoilbphgflgbeaaGreatTxF
import Derived.Test.YtoilbphgflgbeaaGreatFx
set_option linter.unusedSimpArgs false
set_option linter.unusedVariables false
namespace W15
open Go Go.AX Go.AX.Ty Go.Proofs
def Vm:Str:=[64,108,97,121,101,114,32,98,123,112,123,120,58,49,59,121,58,49,33,105,109,112,111,114,116,97,110,116,125,125,32,64,108,97,121,101,114,32,97,44,98,59,32,112,123,120,58,50,125,32,64,109,101,100,105,97,32,40,109,105,110,45,119,105,100,116,104,58,57,112,120,41,123,46,99,123,120,58,51,125,125,32,64,107,101,121,102,114,97,109,101,115,32,107,123,49,125,32,64,108,97,121,101,114,32,97,123,64,107,101,121,102,114,97,109,101,115,32,107,123,50,125,112,123,121,58,50,33,105,109,112,111,114,116,97,110,116,125,125,32,64,102,111,110,116,45,102,97,99,101,123,102,111,110,116,45,102,97,109,105,108,121,58,39,70,39,59,122,58,49,125]
def V8:Str:=[112,46,99,44,35,105,123,120,58,52,125,112,123,119,58,53,125,64,107,101,121,102,114,97,109,101,115,32,107,123,53,125]
def V5:Str:=[60,112,32,99,108,97,115,115,61,99,32,105,100,61,105,62]
def VX:List Token:=[⟨3,[108,97,121,101,114],0⟩,⟨8,[10],0⟩,⟨1,[98],0⟩,⟨7,[123],0⟩,⟨1,[112],0⟩,⟨7,[123],0⟩,⟨1,[120],0⟩,⟨7,[58],0⟩,⟨5,[],1⟩,⟨7,[59],0⟩,⟨1,[121],0⟩,⟨7,[58],0⟩,⟨5,[],1⟩,⟨7,[33],0⟩,⟨1,[105,109,112,111,114,116,97,110,116],0⟩,⟨7,[125],0⟩,⟨7,[125],0⟩,⟨8,[10],0⟩,⟨3,[108,97,121,101,114],0⟩,⟨8,[10],0⟩,⟨1,[97],0⟩,⟨7,[44],0⟩,⟨1,[98],0⟩,⟨7,[59],0⟩,⟨8,[10],0⟩,⟨1,[112],0⟩,⟨7,[123],0⟩,⟨1,[120],0⟩,⟨7,[58],0⟩,⟨5,[],2⟩,⟨7,[125],0⟩,⟨8,[10],0⟩,⟨3,[109,101,100,105,97],0⟩,⟨8,[10],0⟩,⟨7,[40],0⟩,⟨1,[109,105,110,45,119,105,100,116,104],0⟩,⟨7,[58],0⟩,⟨5,[112,120],9⟩,⟨7,[41],0⟩,⟨7,[123],0⟩,⟨7,[46],0⟩,⟨1,[99],0⟩,⟨7,[123],0⟩,⟨1,[120],0⟩,⟨7,[58],0⟩,⟨5,[],3⟩,⟨7,[125],0⟩,⟨7,[125],0⟩,⟨8,[10],0⟩,⟨3,[107,101,121,102,114,97,109,101,115],0⟩,⟨8,[10],0⟩,⟨1,[107],0⟩,⟨7,[123],0⟩,⟨5,[],1⟩,⟨7,[125],0⟩,⟨8,[10],0⟩,⟨3,[108,97,121,101,114],0⟩,⟨8,[10],0⟩,⟨1,[97],0⟩,⟨7,[123],0⟩,⟨3,[107,101,121,102,114,97,109,101,115],0⟩,⟨8,[10],0⟩,⟨1,[107],0⟩,⟨7,[123],0⟩,⟨5,[],2⟩,⟨7,[125],0⟩,⟨1,[112],0⟩,⟨7,[123],0⟩,⟨1,[121],0⟩,⟨7,[58],0⟩,⟨5,[],2⟩,⟨7,[33],0⟩,⟨1,[105,109,112,111,114,116,97,110,116],0⟩,⟨7,[125],0⟩,⟨7,[125],0⟩,⟨8,[10],0⟩,⟨3,[102,111,110,116,45,102,97,99,101],0⟩,⟨7,[123],0⟩,⟨1,[102,111,110,116,45,102,97,109,105,108,121],0⟩,⟨7,[58],0⟩,⟨6,[70],39⟩,⟨7,[59],0⟩,⟨1,[122],0⟩,⟨7,[58],0⟩,⟨5,[],1⟩,⟨7,[125],0⟩]
def UW:List Ty.Val:=[.mk 1 ⟨3,[108,97,121,101,114],0⟩ [],.mk 1 ⟨8,[10],0⟩ [],.mk 1 ⟨1,[98],0⟩ [],.mk 4 ⟨0,[],0⟩ [.mk 1 ⟨1,[112],0⟩ [],.mk 4 ⟨0,[],0⟩ [.mk 1 ⟨1,[120],0⟩ [],.mk 1 ⟨7,[58],0⟩ [],.mk 1 ⟨5,[],1⟩ [],.mk 1 ⟨7,[59],0⟩ [],.mk 1 ⟨1,[121],0⟩ [],.mk 1 ⟨7,[58],0⟩ [],.mk 1 ⟨5,[],1⟩ [],.mk 1 ⟨7,[33],0⟩ [],.mk 1 ⟨1,[105,109,112,111,114,116,97,110,116],0⟩ []]],.mk 1 ⟨8,[10],0⟩ [],.mk 1 ⟨3,[108,97,121,101,114],0⟩ [],.mk 1 ⟨8,[10],0⟩ [],.mk 1 ⟨1,[97],0⟩ [],.mk 1 ⟨7,[44],0⟩ [],.mk 1 ⟨1,[98],0⟩ [],.mk 1 ⟨7,[59],0⟩ [],.mk 1 ⟨8,[10],0⟩ [],.mk 1 ⟨1,[112],0⟩ [],.mk 4 ⟨0,[],0⟩ [.mk 1 ⟨1,[120],0⟩ [],.mk 1 ⟨7,[58],0⟩ [],.mk 1 ⟨5,[],2⟩ []],.mk 1 ⟨8,[10],0⟩ [],.mk 1 ⟨3,[109,101,100,105,97],0⟩ [],.mk 1 ⟨8,[10],0⟩ [],.mk 2 ⟨0,[],0⟩ [.mk 1 ⟨1,[109,105,110,45,119,105,100,116,104],0⟩ [],.mk 1 ⟨7,[58],0⟩ [],.mk 1 ⟨5,[112,120],9⟩ []],.mk 4 ⟨0,[],0⟩ [.mk 1 ⟨7,[46],0⟩ [],.mk 1 ⟨1,[99],0⟩ [],.mk 4 ⟨0,[],0⟩ [.mk 1 ⟨1,[120],0⟩ [],.mk 1 ⟨7,[58],0⟩ [],.mk 1 ⟨5,[],3⟩ []]],.mk 1 ⟨8,[10],0⟩ [],.mk 1 ⟨3,[107,101,121,102,114,97,109,101,115],0⟩ [],.mk 1 ⟨8,[10],0⟩ [],.mk 1 ⟨1,[107],0⟩ [],.mk 4 ⟨0,[],0⟩ [.mk 1 ⟨5,[],1⟩ []],.mk 1 ⟨8,[10],0⟩ [],.mk 1 ⟨3,[108,97,121,101,114],0⟩ [],.mk 1 ⟨8,[10],0⟩ [],.mk 1 ⟨1,[97],0⟩ [],.mk 4 ⟨0,[],0⟩ [.mk 1 ⟨3,[107,101,121,102,114,97,109,101,115],0⟩ [],.mk 1 ⟨8,[10],0⟩ [],.mk 1 ⟨1,[107],0⟩ [],.mk 4 ⟨0,[],0⟩ [.mk 1 ⟨5,[],2⟩ []],.mk 1 ⟨1,[112],0⟩ [],.mk 4 ⟨0,[],0⟩ [.mk 1 ⟨1,[121],0⟩ [],.mk 1 ⟨7,[58],0⟩ [],.mk 1 ⟨5,[],2⟩ [],.mk 1 ⟨7,[33],0⟩ [],.mk 1 ⟨1,[105,109,112,111,114,116,97,110,116],0⟩ []]],.mk 1 ⟨8,[10],0⟩ [],.mk 1 ⟨3,[102,111,110,116,45,102,97,99,101],0⟩ [],.mk 4 ⟨0,[],0⟩ [.mk 1 ⟨1,[102,111,110,116,45,102,97,109,105,108,121],0⟩ [],.mk 1 ⟨7,[58],0⟩ [],.mk 1 ⟨6,[70],39⟩ [],.mk 1 ⟨7,[59],0⟩ [],.mk 1 ⟨1,[122],0⟩ [],.mk 1 ⟨7,[58],0⟩ [],.mk 1 ⟨5,[],1⟩ []]]
def mo:List Ty.Item:=[.mk 3 [] [] [[98]] 0 0 [] [.mk 1 [⟨[⟨0,[.mk 2 [112] [] 0 0 []]⟩],[]⟩] [⟨[120],[.mk 1 ⟨5,[],1⟩ []],false⟩,⟨[121],[.mk 1 ⟨5,[],1⟩ []],true⟩] [] 0 0 [] []],.mk 4 [] [] [[97],[98]] 0 0 [] [],.mk 1 [⟨[⟨0,[.mk 2 [112] [] 0 0 []]⟩],[]⟩] [⟨[120],[.mk 1 ⟨5,[],2⟩ []],false⟩] [] 0 0 [] [],.mk 2 [] [] [] 9 (-1) [] [.mk 1 [⟨[⟨0,[.mk 4 [99] [] 0 0 []]⟩],[]⟩] [⟨[120],[.mk 1 ⟨5,[],3⟩ []],false⟩] [] 0 0 [] []],.mk 5 [] [] [[107]] 0 0 [.mk 1 ⟨5,[],1⟩ []] [],.mk 3 [] [] [[97]] 0 0 [] [.mk 5 [] [] [[107]] 0 0 [.mk 1 ⟨5,[],2⟩ []] [],.mk 1 [⟨[⟨0,[.mk 2 [112] [] 0 0 []]⟩],[]⟩] [⟨[121],[.mk 1 ⟨5,[],2⟩ []],true⟩] [] 0 0 [] []],.mk 6 [] [⟨[102,111,110,116,45,102,97,109,105,108,121],[.mk 1 ⟨6,[70],39⟩ []],false⟩,⟨[122],[.mk 1 ⟨5,[],1⟩ []],false⟩] [] 0 0 [] []]
def uT:List Ty.Item:=[.mk 1 [⟨[⟨0,[.mk 2 [112] [] 0 0 [],.mk 4 [99] [] 0 0 []]⟩],[]⟩,⟨[⟨0,[.mk 3 [105] [] 0 0 []]⟩],[]⟩] [⟨[120],[.mk 1 ⟨5,[],4⟩ []],false⟩] [] 0 0 [] [],.mk 1 [⟨[⟨0,[.mk 2 [112] [] 0 0 []]⟩],[]⟩] [⟨[119],[.mk 1 ⟨5,[],5⟩ []],false⟩] [] 0 0 [] [],.mk 5 [] [] [[107]] 0 0 [.mk 1 ⟨5,[],5⟩ []] []]
def Iq:bA:=[⟨[],[],[],(-1),[1]⟩,⟨[112],[⟨[99,108,97,115,115],[99]⟩,⟨[105,100],[105]⟩],[],0,[]⟩]
end W15
/- The fixed calls: what is known of their values. -/
namespace W15
open Go Go.AX Go.AX.Ty Go.Proofs
theorem xZ:eO Iq:=by
  refine ⟨by decide,fun x h=>?_,fun k x h1 h=>?_,fun n x h=>?_⟩
  · simp [Iq] at h;subst h;simp
  · match k,h1,h with
    | 1,_,h=>simp [Iq] at h;subst h;simp
    | k + 2,_,h=>simp [Iq] at h
  · match n,h with
    | 0,h=>simp [Iq] at h;subst h;decide
    | 1,h=>simp [Iq] at h;subst h;decide
    | n + 2,h=>simp [Iq] at h
theorem Tq:Enc.ok Iq:=by
  simp [Iq,Enc.ok]
theorem SY:Enc.ok uT:=by
  simp [uT,Enc.ok,Ty.Item.ok,Ty.Item.yK,Ty.Val.ok,Ty.Val.yK,Ty.Simple.ok,Ty.Simple.yK]
theorem M8:Enc.ok mo:=by
  simp [mo,Enc.ok,Ty.Item.ok,Ty.Item.yK,Ty.Val.ok,Ty.Val.yK,Ty.Simple.ok,Ty.Simple.yK]
theorem MS:gy [mo,uT]=true:=by kernel_rfl
theorem Kq:gy [mo]=true:=by kernel_rfl
theorem JR:nG 30 Iq=true:=by kernel_rfl
def Td (s:bO) (n:Int) (pseudo:Str) (c:Complex):Bool:=decide (c.pseudo=pseudo) && (decide (c.parts ≠ []) && dh s.p s.states c.parts (c.parts.length - 1) n)
def Ri (s:bO) (n:Int) (pseudo:Str) (l:List Complex):List W3:=(l.filter (Td s n pseudo)).map O9
def TQ (s:bO) (n:Int) (pseudo:Str) (r:Rule):List Ty.Found:=if 0 < (Ri s n pseudo r.bB).length then r.decls.map (tJ r (oJ (Ri s n pseudo r.bB))) else []
def Cg (s:bO) (n:Int) (pseudo:Str):List Ty.Found:=iK 0 ((fu s.width s.sheets).flatMap (TQ s n pseudo))
theorem found_eq {s:bO} (n:Int) (pseudo:Str) (t:eO s.p):gI s n pseudo=Cg s n pseudo:=by
  have e1:oF s n pseudo=Td s n pseudo:=by
    funext c;unfold oF Td xF;rw [mX t,Bool.true_and]
  have e2:ji s n pseudo=Ri s n pseudo:=by
    funext l;unfold ji Ri;rw [e1]
  have e3:ng s n pseudo=TQ s n pseudo:=by
    funext r;unfold ng TQ;rw [e2]
  unfold gI wE Cg;rw [e3]
def Lf (w:Int):bO:=⟨[mo,uT],Iq,w,[]⟩
def CF:List Ty.Found:=Cg (Lf 9) 1 []
def Vt:List Ty.Found:=Cg (Lf 8) 1 []
theorem U3:gI (Lf 9) 1 []=CF:=found_eq 1 [] xZ
theorem VA:gI (Lf 8) 1 []=Vt:=found_eq 1 [] xZ
theorem VO:gI (Lf 8) 1 [98,101,102,111,114,101]=[]:=(found_eq 1 [98,101,102,111,114,101] xZ).trans (by kernel_rfl)
theorem IB:CF.length=7:=by kernel_rfl
theorem U8:Vt.length=6:=by kernel_rfl
theorem HY:(l8 CF [120]).isSome=true:=by kernel_rfl
theorem yh:(Cu (l8 CF [120])).weight.a=1:=by kernel_rfl
theorem w9:(Cu (l8 CF [120])).weight.b=0:=by kernel_rfl
theorem vX:(Cu (l8 CF [120])).weight.c=0:=by kernel_rfl
theorem xX:(Cu (l8 CF [120])).layer=2:=by kernel_rfl
theorem FW:(l8 CF [118]).isSome=false:=by kernel_rfl
theorem Vw:(CF[1]?).map (fun x=>x.decl)=some (Cu (l8 CF [121])).decl:=by kernel_rfl
theorem Fa:(lastB (bP [107]) (dG 9 [mo,uT])).isSome=true:=by kernel_rfl
theorem U7:(kU (lastB (bP [107]) (dG 9 [mo,uT]))).vals.length=1:=by kernel_rfl
theorem UZ:((kU (lastB (bP [107]) (dG 9 [mo,uT]))).vals[0]?).map (fun v=>v.tok.n)=some 5:=by kernel_rfl
theorem Fe:(lastB (eG [70]) (dG 0 [mo])).isSome=true:=by kernel_rfl
theorem UU:(kU (lastB (eG [70]) (dG 0 [mo]))).decls.length=2:=by kernel_rfl
theorem FE:(lastB (eG [71]) (dG 0 [mo])).isSome=false:=by kernel_rfl
theorem Um:(bQ [mo,uT]).length=2:=by kernel_rfl
theorem yF:(bQ [mo])[0]? = some [98]:=by kernel_rfl
theorem Va:(fu 8 [mo,uT]).length=5:=by kernel_rfl
end W15
