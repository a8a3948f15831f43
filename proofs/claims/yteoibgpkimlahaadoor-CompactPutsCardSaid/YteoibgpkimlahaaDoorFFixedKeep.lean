-- out of the translation, by a program of this session (wip/tools/pr.py)
import Derived.Test.YteoibgpkimlahaaDoorF0
namespace Go.Proofs.YteoibgpkimlahaaDoor.P
open Go.RowKit Go.Proofs.YteoibgpkimlahaaDoorW.PrintWords Go.Proofs.YteoibgpkimlahaaDoorW.PrintLast Go.Proofs.YteoibgpkimlahaaDoorW.PrintMore
attribute [local go_sem] max2_int min2_int max_two min_two max_three min_three max_four min_four   -- for this text's walks alone
set_option linter.unusedVariables false
set_option linter.unusedSimpArgs false

/-! ### fixed_keep: function 100 -/
def fixed_keep.f (l0 : List Int) : Option (Unit) := some ()
set_option maxHeartbeats 8000000 in
set_option maxRecDepth 100000 in
theorem fixed_keep.calls (A0 : Option Addr) (c0 : Nat) (l0 : List Int) (w : World) (hr0 : Kd.C (Kd.int .u8) w A0 l0.length l0) (hc0 : l0.length ≤ c0) (h : fixed_keep.f l0 = some ()) :
    Calls Tryd.prog 100 #[.slice A0 l0.length c0] w fun e w' => e = .returned (.tuple #[]) ∧ Drawn0 w w' := by
  have HR0 := Aside0.mk hr0
  have HC0 := Aside0.mk hc0
  clear hr0 hc0
  have H : (some ()) = some () := h
  clear h
  go_enter Tryd.func100, Tryd.ntmps100
  go_wp2
  first | go_end0 | ((try simp only [Exit.inBlock, Exit.then]); refine bodyPost_ret (results_none rfl _ _ _) rfl ?_)
  exact ⟨by first | rfl | (simp; done) | (simp [*]; done), by repeat (first | exact Drawn0.refl _ | apply Drawn0.step)⟩

end Go.Proofs.YteoibgpkimlahaaDoor.P
