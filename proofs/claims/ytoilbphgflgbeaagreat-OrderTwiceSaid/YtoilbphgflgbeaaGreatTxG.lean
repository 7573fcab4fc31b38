/- The fixed calls: values. -/
import Derived.Test.YtoilbphgflgbeaaGreatTxF
import Derived.Test.YtoilbphgflgbeaaGreatFx
set_option linter.unusedSimpArgs false
set_option linter.unusedVariables false
namespace W15
open Go Go.AX Go.AX.Ty Go.Proofs
def txA : Str := [64, 108, 97, 121, 101, 114, 32, 98, 123, 112, 123, 120, 58, 49, 59, 121, 58, 49, 33, 105, 109, 112, 111, 114, 116, 97, 110, 116, 125, 125, 32, 64, 108, 97, 121, 101, 114, 32, 97, 44, 98, 59, 32, 112, 123, 120, 58, 50, 125, 32, 64, 109, 101, 100, 105, 97, 32, 40, 109, 105, 110, 45, 119, 105, 100, 116, 104, 58, 57, 112, 120, 41, 123, 46, 99, 123, 120, 58, 51, 125, 125, 32, 64, 107, 101, 121, 102, 114, 97, 109, 101, 115, 32, 107, 123, 49, 125, 32, 64, 108, 97, 121, 101, 114, 32, 97, 123, 64, 107, 101, 121, 102, 114, 97, 109, 101, 115, 32, 107, 123, 50, 125, 112, 123, 121, 58, 50, 33, 105, 109, 112, 111, 114, 116, 97, 110, 116, 125, 125, 32, 64, 102, 111, 110, 116, 45, 102, 97, 99, 101, 123, 102, 111, 110, 116, 45, 102, 97, 109, 105, 108, 121, 58, 39, 70, 39, 59, 122, 58, 49, 125]
def txB : Str := [112, 46, 99, 44, 35, 105, 123, 120, 58, 52, 125, 112, 123, 119, 58, 53, 125, 64, 107, 101, 121, 102, 114, 97, 109, 101, 115, 32, 107, 123, 53, 125]
def txP : Str := [60, 112, 32, 99, 108, 97, 115, 115, 61, 99, 32, 105, 100, 61, 105, 62]
def fxT : List Token := [⟨3, [108, 97, 121, 101, 114], 0⟩, ⟨8, [10], 0⟩, ⟨1, [98], 0⟩, ⟨7, [123], 0⟩, ⟨1, [112], 0⟩, ⟨7, [123], 0⟩, ⟨1, [120], 0⟩, ⟨7, [58], 0⟩, ⟨5, [], 1⟩, ⟨7, [59], 0⟩, ⟨1, [121], 0⟩, ⟨7, [58], 0⟩, ⟨5, [], 1⟩, ⟨7, [33], 0⟩, ⟨1, [105, 109, 112, 111, 114, 116, 97, 110, 116], 0⟩, ⟨7, [125], 0⟩, ⟨7, [125], 0⟩, ⟨8, [10], 0⟩, ⟨3, [108, 97, 121, 101, 114], 0⟩, ⟨8, [10], 0⟩, ⟨1, [97], 0⟩, ⟨7, [44], 0⟩, ⟨1, [98], 0⟩, ⟨7, [59], 0⟩, ⟨8, [10], 0⟩, ⟨1, [112], 0⟩, ⟨7, [123], 0⟩, ⟨1, [120], 0⟩, ⟨7, [58], 0⟩, ⟨5, [], 2⟩, ⟨7, [125], 0⟩, ⟨8, [10], 0⟩, ⟨3, [109, 101, 100, 105, 97], 0⟩, ⟨8, [10], 0⟩, ⟨7, [40], 0⟩, ⟨1, [109, 105, 110, 45, 119, 105, 100, 116, 104], 0⟩, ⟨7, [58], 0⟩, ⟨5, [112, 120], 9⟩, ⟨7, [41], 0⟩, ⟨7, [123], 0⟩, ⟨7, [46], 0⟩, ⟨1, [99], 0⟩, ⟨7, [123], 0⟩, ⟨1, [120], 0⟩, ⟨7, [58], 0⟩, ⟨5, [], 3⟩, ⟨7, [125], 0⟩, ⟨7, [125], 0⟩, ⟨8, [10], 0⟩, ⟨3, [107, 101, 121, 102, 114, 97, 109, 101, 115], 0⟩, ⟨8, [10], 0⟩, ⟨1, [107], 0⟩, ⟨7, [123], 0⟩, ⟨5, [], 1⟩, ⟨7, [125], 0⟩, ⟨8, [10], 0⟩, ⟨3, [108, 97, 121, 101, 114], 0⟩, ⟨8, [10], 0⟩, ⟨1, [97], 0⟩, ⟨7, [123], 0⟩, ⟨3, [107, 101, 121, 102, 114, 97, 109, 101, 115], 0⟩, ⟨8, [10], 0⟩, ⟨1, [107], 0⟩, ⟨7, [123], 0⟩, ⟨5, [], 2⟩, ⟨7, [125], 0⟩, ⟨1, [112], 0⟩, ⟨7, [123], 0⟩, ⟨1, [121], 0⟩, ⟨7, [58], 0⟩, ⟨5, [], 2⟩, ⟨7, [33], 0⟩, ⟨1, [105, 109, 112, 111, 114, 116, 97, 110, 116], 0⟩, ⟨7, [125], 0⟩, ⟨7, [125], 0⟩, ⟨8, [10], 0⟩, ⟨3, [102, 111, 110, 116, 45, 102, 97, 99, 101], 0⟩, ⟨7, [123], 0⟩, ⟨1, [102, 111, 110, 116, 45, 102, 97, 109, 105, 108, 121], 0⟩, ⟨7, [58], 0⟩, ⟨6, [70], 39⟩, ⟨7, [59], 0⟩, ⟨1, [122], 0⟩, ⟨7, [58], 0⟩, ⟨5, [], 1⟩, ⟨7, [125], 0⟩]
def fxV : List Ty.Val := [.mk 1 ⟨3, [108, 97, 121, 101, 114], 0⟩ [], .mk 1 ⟨8, [10], 0⟩ [], .mk 1 ⟨1, [98], 0⟩ [], .mk 4 ⟨0, [], 0⟩ [.mk 1 ⟨1, [112], 0⟩ [], .mk 4 ⟨0, [], 0⟩ [.mk 1 ⟨1, [120], 0⟩ [], .mk 1 ⟨7, [58], 0⟩ [], .mk 1 ⟨5, [], 1⟩ [], .mk 1 ⟨7, [59], 0⟩ [], .mk 1 ⟨1, [121], 0⟩ [], .mk 1 ⟨7, [58], 0⟩ [], .mk 1 ⟨5, [], 1⟩ [], .mk 1 ⟨7, [33], 0⟩ [], .mk 1 ⟨1, [105, 109, 112, 111, 114, 116, 97, 110, 116], 0⟩ []]], .mk 1 ⟨8, [10], 0⟩ [], .mk 1 ⟨3, [108, 97, 121, 101, 114], 0⟩ [], .mk 1 ⟨8, [10], 0⟩ [], .mk 1 ⟨1, [97], 0⟩ [], .mk 1 ⟨7, [44], 0⟩ [], .mk 1 ⟨1, [98], 0⟩ [], .mk 1 ⟨7, [59], 0⟩ [], .mk 1 ⟨8, [10], 0⟩ [], .mk 1 ⟨1, [112], 0⟩ [], .mk 4 ⟨0, [], 0⟩ [.mk 1 ⟨1, [120], 0⟩ [], .mk 1 ⟨7, [58], 0⟩ [], .mk 1 ⟨5, [], 2⟩ []], .mk 1 ⟨8, [10], 0⟩ [], .mk 1 ⟨3, [109, 101, 100, 105, 97], 0⟩ [], .mk 1 ⟨8, [10], 0⟩ [], .mk 2 ⟨0, [], 0⟩ [.mk 1 ⟨1, [109, 105, 110, 45, 119, 105, 100, 116, 104], 0⟩ [], .mk 1 ⟨7, [58], 0⟩ [], .mk 1 ⟨5, [112, 120], 9⟩ []], .mk 4 ⟨0, [], 0⟩ [.mk 1 ⟨7, [46], 0⟩ [], .mk 1 ⟨1, [99], 0⟩ [], .mk 4 ⟨0, [], 0⟩ [.mk 1 ⟨1, [120], 0⟩ [], .mk 1 ⟨7, [58], 0⟩ [], .mk 1 ⟨5, [], 3⟩ []]], .mk 1 ⟨8, [10], 0⟩ [], .mk 1 ⟨3, [107, 101, 121, 102, 114, 97, 109, 101, 115], 0⟩ [], .mk 1 ⟨8, [10], 0⟩ [], .mk 1 ⟨1, [107], 0⟩ [], .mk 4 ⟨0, [], 0⟩ [.mk 1 ⟨5, [], 1⟩ []], .mk 1 ⟨8, [10], 0⟩ [], .mk 1 ⟨3, [108, 97, 121, 101, 114], 0⟩ [], .mk 1 ⟨8, [10], 0⟩ [], .mk 1 ⟨1, [97], 0⟩ [], .mk 4 ⟨0, [], 0⟩ [.mk 1 ⟨3, [107, 101, 121, 102, 114, 97, 109, 101, 115], 0⟩ [], .mk 1 ⟨8, [10], 0⟩ [], .mk 1 ⟨1, [107], 0⟩ [], .mk 4 ⟨0, [], 0⟩ [.mk 1 ⟨5, [], 2⟩ []], .mk 1 ⟨1, [112], 0⟩ [], .mk 4 ⟨0, [], 0⟩ [.mk 1 ⟨1, [121], 0⟩ [], .mk 1 ⟨7, [58], 0⟩ [], .mk 1 ⟨5, [], 2⟩ [], .mk 1 ⟨7, [33], 0⟩ [], .mk 1 ⟨1, [105, 109, 112, 111, 114, 116, 97, 110, 116], 0⟩ []]], .mk 1 ⟨8, [10], 0⟩ [], .mk 1 ⟨3, [102, 111, 110, 116, 45, 102, 97, 99, 101], 0⟩ [], .mk 4 ⟨0, [], 0⟩ [.mk 1 ⟨1, [102, 111, 110, 116, 45, 102, 97, 109, 105, 108, 121], 0⟩ [], .mk 1 ⟨7, [58], 0⟩ [], .mk 1 ⟨6, [70], 39⟩ [], .mk 1 ⟨7, [59], 0⟩ [], .mk 1 ⟨1, [122], 0⟩ [], .mk 1 ⟨7, [58], 0⟩ [], .mk 1 ⟨5, [], 1⟩ []]]
def fxA : List Ty.Item := [.mk 3 [] [] [[98]] 0 0 [] [.mk 1 [⟨[⟨0, [.mk 2 [112] [] 0 0 []]⟩], []⟩] [⟨[120], [.mk 1 ⟨5, [], 1⟩ []], false⟩, ⟨[121], [.mk 1 ⟨5, [], 1⟩ []], true⟩] [] 0 0 [] []], .mk 4 [] [] [[97], [98]] 0 0 [] [], .mk 1 [⟨[⟨0, [.mk 2 [112] [] 0 0 []]⟩], []⟩] [⟨[120], [.mk 1 ⟨5, [], 2⟩ []], false⟩] [] 0 0 [] [], .mk 2 [] [] [] 9 (-1) [] [.mk 1 [⟨[⟨0, [.mk 4 [99] [] 0 0 []]⟩], []⟩] [⟨[120], [.mk 1 ⟨5, [], 3⟩ []], false⟩] [] 0 0 [] []], .mk 5 [] [] [[107]] 0 0 [.mk 1 ⟨5, [], 1⟩ []] [], .mk 3 [] [] [[97]] 0 0 [] [.mk 5 [] [] [[107]] 0 0 [.mk 1 ⟨5, [], 2⟩ []] [], .mk 1 [⟨[⟨0, [.mk 2 [112] [] 0 0 []]⟩], []⟩] [⟨[121], [.mk 1 ⟨5, [], 2⟩ []], true⟩] [] 0 0 [] []], .mk 6 [] [⟨[102, 111, 110, 116, 45, 102, 97, 109, 105, 108, 121], [.mk 1 ⟨6, [70], 39⟩ []], false⟩, ⟨[122], [.mk 1 ⟨5, [], 1⟩ []], false⟩] [] 0 0 [] []]
def fxB : List Ty.Item := [.mk 1 [⟨[⟨0, [.mk 2 [112] [] 0 0 [], .mk 4 [99] [] 0 0 []]⟩], []⟩, ⟨[⟨0, [.mk 3 [105] [] 0 0 []]⟩], []⟩] [⟨[120], [.mk 1 ⟨5, [], 4⟩ []], false⟩] [] 0 0 [] [], .mk 1 [⟨[⟨0, [.mk 2 [112] [] 0 0 []]⟩], []⟩] [⟨[119], [.mk 1 ⟨5, [], 5⟩ []], false⟩] [] 0 0 [] [], .mk 5 [] [] [[107]] 0 0 [.mk 1 ⟨5, [], 5⟩ []] []]
def fxP : Page := [⟨[], [], [], (-1), [1]⟩, ⟨[112], [⟨[99, 108, 97, 115, 115], [99]⟩, ⟨[105, 100], [105]⟩], [], 0, []⟩]
end W15
/- The fixed calls: what is known of their values. -/
set_option linter.unusedSimpArgs false
set_option linter.unusedVariables false
namespace W15
open Go Go.AX Go.AX.Ty Go.Proofs
theorem fxP_tree : TreeP fxP := by
  refine ⟨by decide, fun x h => ?_, fun k x h1 h => ?_, fun n x h => ?_⟩
  · simp [fxP] at h; subst h; simp
  · match k, h1, h with
    | 1, _, h => simp [fxP] at h; subst h; simp
    | k + 2, _, h => simp [fxP] at h
  · match n, h with
    | 0, h => simp [fxP] at h; subst h; decide
    | 1, h => simp [fxP] at h; subst h; decide
    | n + 2, h => simp [fxP] at h
theorem fxP_ok : Enc.ok fxP := by
  simp [fxP, Enc.ok]
theorem fxB_ok : Enc.ok fxB := by
  simp [fxB, Enc.ok, Ty.Item.ok, Ty.Item.okS, Ty.Val.ok, Ty.Val.okS, Ty.Simple.ok, Ty.Simple.okS]
theorem fxA_ok : Enc.ok fxA := by
  simp [fxA, Enc.ok, Ty.Item.ok, Ty.Item.okS, Ty.Val.ok, Ty.Val.okS, Ty.Simple.ok, Ty.Simple.okS]
theorem fx_small : smallSh [fxA, fxB] = true := by kernel_rfl
theorem fx_small1 : smallSh [fxA] = true := by kernel_rfl
theorem fx_smallP : smallPg 30 fxP = true := by kernel_rfl
def selC (s : Scene) (n : Int) (pseudo : Str) (c : Complex) : Bool := decide (c.pseudo = pseudo) && (decide (c.parts ≠ []) && fitsB s.p s.states c.parts (c.parts.length - 1) n)
def fitC (s : Scene) (n : Int) (pseudo : Str) (l : List Complex) : List W3 := (l.filter (selC s n pseudo)).map ofC
def rawC (s : Scene) (n : Int) (pseudo : Str) (r : Rule) : List Ty.Found := if 0 < (fitC s n pseudo r.sels).length then r.decls.map (mkF r (maxW (fitC s n pseudo r.sels))) else []
def foundC (s : Scene) (n : Int) (pseudo : Str) : List Ty.Found := numb 0 ((rulesB s.width s.sheets).flatMap (rawC s n pseudo))
theorem found_eq {s : Scene} (n : Int) (pseudo : Str) (t : TreeP s.p) : foundB s n pseudo = foundC s n pseudo := by
  have e1 : selB s n pseudo = selC s n pseudo := by
    funext c; unfold selB selC isB; rw [treeB_true t, Bool.true_and]
  have e2 : fitW s n pseudo = fitC s n pseudo := by
    funext l; unfold fitW fitC; rw [e1]
  have e3 : rawF s n pseudo = rawC s n pseudo := by
    funext r; unfold rawF rawC; rw [e2]
  unfold foundB foundR foundC; rw [e3]
def fxS (w : Int) : Scene := ⟨[fxA, fxB], fxP, w, []⟩
def fxL : List Ty.Found := foundC (fxS 9) 1 []
def fxM : List Ty.Found := foundC (fxS 8) 1 []
theorem fx_L : foundB (fxS 9) 1 [] = fxL := found_eq 1 [] fxP_tree
theorem fx_M : foundB (fxS 8) 1 [] = fxM := found_eq 1 [] fxP_tree
theorem fx_N : foundB (fxS 8) 1 [98, 101, 102, 111, 114, 101] = [] := (found_eq 1 [98, 101, 102, 111, 114, 101] fxP_tree).trans (by kernel_rfl)
theorem fx_L7 : fxL.length = 7 := by kernel_rfl
theorem fx_M6 : fxM.length = 6 := by kernel_rfl
theorem fx_x : (winB fxL [120]).isSome = true := by kernel_rfl
theorem fx_xa : (topF (winB fxL [120])).weight.a = 1 := by kernel_rfl
theorem fx_xb : (topF (winB fxL [120])).weight.b = 0 := by kernel_rfl
theorem fx_xc : (topF (winB fxL [120])).weight.c = 0 := by kernel_rfl
theorem fx_xl : (topF (winB fxL [120])).layer = 2 := by kernel_rfl
theorem fx_v : (winB fxL [118]).isSome = false := by kernel_rfl
theorem fx_y : (fxL[1]?).map (fun x => x.decl) = some (topF (winB fxL [121])).decl := by kernel_rfl
theorem fx_k : (lastB (framesB [107]) (appB 9 [fxA, fxB])).isSome = true := by kernel_rfl
theorem fx_k1 : (topI (lastB (framesB [107]) (appB 9 [fxA, fxB]))).vals.length = 1 := by kernel_rfl
theorem fx_k5 : ((topI (lastB (framesB [107]) (appB 9 [fxA, fxB]))).vals[0]?).map (fun v => v.tok.n) = some 5 := by kernel_rfl
theorem fx_f : (lastB (fontB [70]) (appB 0 [fxA])).isSome = true := by kernel_rfl
theorem fx_f2 : (topI (lastB (fontB [70]) (appB 0 [fxA]))).decls.length = 2 := by kernel_rfl
theorem fx_g : (lastB (fontB [71]) (appB 0 [fxA])).isSome = false := by kernel_rfl
theorem fx_l2 : (layersB [fxA, fxB]).length = 2 := by kernel_rfl
theorem fx_l1 : (layersB [fxA])[0]? = some [98] := by kernel_rfl
theorem fx_r5 : (rulesB 8 [fxA, fxB]).length = 5 := by kernel_rfl
end W15
