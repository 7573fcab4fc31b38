/- sync.Once, not yet done, the lock free: its function is called once. -/
import Derived.Test.YtdeclhljkmlpiaaGreatProg
import Derived.Tactics
import Derived.Tactics2
import Derived.Defers
import Derived.Laws.Pointers
import Derived.Laws.LoneSync
import Derived.RegionTactic
import Derived.RegionCalls
import Derived.ChangeAlike
import Derived.KernelRfl
set_option linter.unusedSimpArgs false
set_option linter.unusedVariables false
namespace W10
open Go Go.Proofs
theorem disable (w:World):(callFunc 115 #[]).run Tryz.prog w=.ok (.value (.tuple #[])) w:=run_call_mark0 Tryz.func115 (by kernel_rfl) (by kernel_rfl) (by kernel_rfl) .disable (by kernel_rfl) w
theorem enable (w:World):(callFunc 117 #[]).run Tryz.prog w=.ok (.value (.tuple #[])) w:=run_call_mark0 Tryz.func117 (by kernel_rfl) (by kernel_rfl) (by kernel_rfl) .enable (by kernel_rfl) w
theorem acquire (a:Addr) (w:World):(callFunc 118 #[.pointer (some a)]).run Tryz.prog w=.ok (.value (.tuple #[])) w:=run_call_marked Tryz.func118 (by kernel_rfl) (by kernel_rfl) (by kernel_rfl) .acquire (by kernel_rfl) a w
theorem releaseMerge (a:Addr) (w:World):(callFunc 120 #[.pointer (some a)]).run Tryz.prog w=.ok (.value (.tuple #[])) w:=run_call_marked Tryz.func120 (by kernel_rfl) (by kernel_rfl) (by kernel_rfl) .releaseMerge (by kernel_rfl) a w
set_option maxRecDepth 100000 in
set_option maxHeartbeats 1600000 in
theorem zH (a:Addr) (x:Value) (u:FrameMode) (w:World) (hc:w.cell? a=some x) (hz:w.frozen? a=false) :
    CallsD Tryz.prog 105 #[.pointer (some a),.bool true] u w fun e u' w'=>u'=u ∧ (e=.returned (.tuple #[]) ∧ w'=w.drew.setCell a (.int .u32 1)):=by
  have hc':w.drew.cell? a=some x:=by go_simp
  have hz':w.drew.frozen? a=false:=by go_simp
  have hst:=run_call_store (P:=Tryz.prog) Tryz.func111 (by kernel_rfl) (by kernel_rfl) (by kernel_rfl) (by kernel_rfl) (k:=.u32) (y:=1) hc' hz'
  go_enter_d Tryz.func105,Tryz.ntmps105
  go_wp2
  go_region_calls
  all_goals (go_end0;exact ⟨rfl,rfl⟩)
set_option maxRecDepth 100000 in
set_option maxHeartbeats 1600000 in
theorem unlock_deferred (a:Addr) (u:FrameMode) (w:World) (hc:w.cell? a=some (.int .i32 1)) (hz:w.frozen? a=false) :
    CallsD Tryz.prog 104 #[.pointer (some a)] u w fun e u' w'=>u'=u ∧ (e=.returned (.tuple #[]) ∧ w'=w.setCell a (.int .i32 0)):=by
  have hd:=disable
  have he:=enable
  have hr:=releaseMerge
  have hadd:=run_call_add (P:=Tryz.prog) Tryz.func121 (by kernel_rfl) (by kernel_rfl) (by kernel_rfl) .i32 (by kernel_rfl) (y:=-1) (s:=0) hc hz (by simp [go_sem];rfl)
  have hcv:=run_convert_to_unsafe (P:=Tryz.prog) (src:=172) (dst:=137) Tryz.underlying172 Tryz.underlying137 (by kernel_rfl) hc
  go_enter_d Tryz.func104,Tryz.ntmps104
  go_wp2
  go_end0
  go_wp2
  go_end0
  exact ⟨rfl,rfl⟩
set_option maxRecDepth 100000 in
set_option maxHeartbeats 1600000 in
theorem lock_free (a:Addr) (w:World) (hc:w.cell? a=some (.int .i32 0)) (hz:w.frozen? a=false) :
    Calls Tryz.prog 103 #[.pointer (some a)] w fun e w'=>e=.returned (.tuple #[]) ∧ w'=w.setCell a (.int .i32 1):=by
  have hd:=disable
  have he:=enable
  have ha:=acquire
  have hcas:=run_call_cas_hit (P:=Tryz.prog) Tryz.func116 (by kernel_rfl) (by kernel_rfl) (by kernel_rfl) .i32 (by kernel_rfl) (y:=1) hc hz
  have hc':(w.setCell a (.int .i32 1)).cell? a=some (.int .i32 1):=World.cell?_setCell_same w a _ hc
  have hcv:=run_convert_to_unsafe (P:=Tryz.prog) (src:=172) (dst:=137) Tryz.underlying172 Tryz.underlying137 (by kernel_rfl) hc'
  go_enter Tryz.func103,Tryz.ntmps103
  go_wp2
  first | go_end0 | (simp only [Exit.inBlock,Exit.then];refine bodyPost_ret (results_none rfl _ _ _) rfl ?_) | refine bodyPost_ret (results_none rfl _ _ _) rfl ?_
  go_wp2
  go_end0
  exact ⟨rfl,rfl⟩
def VL (w:World) (b off:Nat):World:=(w.drew.setCell ⟨b,off,none⟩ (.int .u32 1)).setCell ⟨b,off + 1,none⟩ (.int .i32 0)
set_option maxRecDepth 100000 in
set_option maxHeartbeats 1600000 in
theorem Rx (b off:Nat) (r:Value) (S:World → Prop) (w:World)
    (h0:w.cell? ⟨b,off,none⟩=some (.int .u32 0)) (h1:w.cell? ⟨b,off + 1,none⟩=some (.int .i32 0))
    (f0:w.frozen? ⟨b,off,none⟩=false) (f1:w.frozen? ⟨b,off + 1,none⟩=false)
    (hf:Calls Tryz.prog 88 #[r] (w.setCell ⟨b,off + 1,none⟩ (.int .i32 1)) fun e w'=>e=.returned (.tuple #[]) ∧ S w')
    (hS:∀ w',S w' → w'.cell? ⟨b,off,none⟩=some (.int .u32 0) ∧ w'.cell? ⟨b,off + 1,none⟩=some (.int .i32 1) ∧ w'.frozen? ⟨b,off,none⟩=false ∧ w'.frozen? ⟨b,off + 1,none⟩=false) :
    Calls Tryz.prog 97 #[.pointer (some ⟨b,off,none⟩),.func (.func 88) #[r] #[]] w fun e w'=>e=.returned (.tuple #[]) ∧ ∃ w1,S w1 ∧ w'=VL w1 b off:=by
  have hl:=run_call_load (P:=Tryz.prog) Tryz.func102 (by kernel_rfl) (by kernel_rfl) (by kernel_rfl) .u32 (by kernel_rfl) (w:=w.setCell ⟨b,off + 1,none⟩ (.int .i32 1)) (a:=⟨b,off,none⟩) (x:=0) ((World.cell?_setCell_other _ ⟨b,off + 1,none⟩ ⟨b,off,none⟩ _ (by simp)).trans h0)
  have hnot:∀ (x:Bool) (w:World),(Op.unary .not (.bool x)).run Tryz.prog w=.ok (.bool (!x)) w:=fun _ _=>rfl
  go_enter_defers Tryz.func97,Tryz.ntmps97
  go_wp2_with (first | (go_at_call 103;refine (lock_free ⟨b,off + 1,none⟩ _ (by go_simp) (by go_simp)).mono ?_;rintro e w' ⟨rfl,rfl⟩) | (go_at_call 88;refine hf.mono ?_;rintro e w1 ⟨rfl,hw1⟩) | (go_at_call 96;go_in))
  obtain ⟨g0,g1,k0,k1⟩:=hS w1 hw1
  refine leaves_cons (f:=105) (args:=#[.pointer (some ⟨b,off,none⟩),.bool true]) (by simp) (by simp [go_sem]) ?_
  refine (zH ⟨b,off,none⟩ (.int .u32 0) .returning _ g0 k0).mono ?_
  rintro e u' w'' ⟨rfl,rfl,rfl⟩
  refine leaves_cons (f:=104) (args:=#[.pointer (some ⟨b,off + 1,none⟩)]) (by simp [settle]) (by simp [go_sem]) ?_
  refine (unlock_deferred ⟨b,off + 1,none⟩ _ _ ?_ (by simp [k1])).mono ?_
  · refine (World.cell?_setCell_other _ ⟨b,off,none⟩ ⟨b,off + 1,none⟩ _ (by simp)).trans ?_
    rw [World.cell?_drew]
    exact g1
  rintro e u' w'' ⟨rfl,rfl,rfl⟩
  simp [Leaves,settle,results,Tryz.results97]
  exact ⟨w1,hw1,rfl⟩
set_option maxRecDepth 100000 in
set_option maxHeartbeats 1600000 in
theorem Jz (b off:Nat) (r:Value) (S:World → Prop) (w:World)
    (h0:w.cell? ⟨b,off,none⟩=some (.int .u32 0)) (h1:w.cell? ⟨b,off + 1,none⟩=some (.int .i32 0))
    (f0:w.frozen? ⟨b,off,none⟩=false) (f1:w.frozen? ⟨b,off + 1,none⟩=false)
    (hf:Calls Tryz.prog 88 #[r] (w.setCell ⟨b,off + 1,none⟩ (.int .i32 1)) fun e w'=>e=.returned (.tuple #[]) ∧ S w')
    (hS:∀ w',S w' → w'.cell? ⟨b,off,none⟩=some (.int .u32 0) ∧ w'.cell? ⟨b,off + 1,none⟩=some (.int .i32 1) ∧ w'.frozen? ⟨b,off,none⟩=false ∧ w'.frozen? ⟨b,off + 1,none⟩=false) :
    Calls Tryz.prog 87 #[.pointer (some ⟨b,off,none⟩),.func (.func 88) #[r] #[]] w fun e w'=>e=.returned (.tuple #[]) ∧ ∃ w1,S w1 ∧ w'=VL w1 b off:=by
  have hl:=run_call_load (P:=Tryz.prog) Tryz.func102 (by kernel_rfl) (by kernel_rfl) (by kernel_rfl) .u32 (by kernel_rfl) h0
  have hnot:∀ (x:Bool) (w:World),(Op.unary .not (.bool x)).run Tryz.prog w=.ok (.bool (!x)) w:=fun _ _=>rfl
  go_enter Tryz.func87,Tryz.ntmps87
  go_wp2_with (first | (go_at_call 97;refine (Rx b off r S _ h0 h1 f0 f1 hf hS).mono ?_;rintro e w' ⟨rfl,w1,hw1,rfl⟩) | (go_at_call 96;go_in))
  go_end0
  exact ⟨rfl,w1,hw1,rfl⟩
end W10
