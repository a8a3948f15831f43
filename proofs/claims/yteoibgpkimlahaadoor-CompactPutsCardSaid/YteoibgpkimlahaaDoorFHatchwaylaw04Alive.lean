-- out of the translation, by a program of this session (wip/tools/pr.py)
import Derived.Test.YteoibgpkimlahaaDoorF0
import Derived.Test.YteoibgpkimlahaaDoorFCompactNext
import Derived.Test.YteoibgpkimlahaaDoorFCompactPut
namespace Go.Proofs.YteoibgpkimlahaaDoor.P
open Go.RowKit Go.Proofs.YteoibgpkimlahaaDoorW.PrintWords Go.Proofs.YteoibgpkimlahaaDoorW.PrintLast Go.Proofs.YteoibgpkimlahaaDoorW.PrintMore
attribute [local go_sem] max2_int min2_int max_two min_two max_three min_three max_four min_four   -- for this text's walks alone
set_option linter.unusedVariables false
set_option linter.unusedSimpArgs false

/-! ### hatchwaylaw04_alive: function 14 -/
def hatchwaylaw04_alive.f  : Option (Bool) := (compact_Next.f (⟨#[253, 1, 0]⟩ : ByteArray)).bind fun bt101 => ((compact_Put.f 253).bind fun t104 => (if t104.toList = ([253, 253, 0] : List UInt8) then (some (bt101.2.2 == 3)) else (some false)))
set_option maxHeartbeats 8000000 in
set_option maxRecDepth 100000 in
theorem hatchwaylaw04_alive.calls  (r : Bool) (w : World) (hG_sizes : G_sizes w) (h : hatchwaylaw04_alive.f  = some r) :
    Calls Tryd.prog 14 #[] w fun e w' => e = .returned (.bool r) ∧ Below w.heap.size w w' := by
  have HB := Aside0.mk (Below.refl w.heap.size w)
  have H : ((compact_Next.f (⟨#[253, 1, 0]⟩ : ByteArray)).bind fun bt101 => ((compact_Put.f 253).bind fun t104 => (if t104.toList = ([253, 253, 0] : List UInt8) then (some (bt101.2.2 == 3)) else (some false)))) = some r := h
  clear h
  replace H := Option.bind_eq_some_iff.mp H
  obtain ⟨⟨t101, t102, t103⟩, A10, H⟩ := H
  replace H : ((compact_Put.f 253).bind fun t104 => (if t104.toList = ([253, 253, 0] : List UInt8) then (some (t103 == 3)) else (some false))) = some r := H
  have A1 := Aside0.mk A10
  clear A10
  replace H := Option.bind_eq_some_iff.mp H
  obtain ⟨t104, A20, H⟩ := H
  replace H : (if t104.toList = ([253, 253, 0] : List UInt8) then (some (t103 == 3)) else (some false)) = some r := H
  have A2 := Aside0.mk A20
  clear A20
  by_cases c3 : t104.toList = ([253, 253, 0] : List UInt8)
  · rw [if_pos c3] at H
    have c3b0 : (t104.toList == ([253, 253, 0] : List UInt8)) = true := beq_iff_eq.mpr c3
    have c3b1 : (t104.toList != ([253, 253, 0] : List UInt8)) = false := bne_eq_false_iff_eq.mpr c3
    clear c3
    obtain rfl := Option.some.inj H
    go_enter Tryd.func14, Tryd.ntmps14
    go_wp2_with (first | ((with_reducible refine gate_callee (f := 16) rfl ?_); refine goesL_ (some 5) rfl rfl Tryd.func16 (by kernel_rfl) rfl #[.string (⟨#[253, 1, 0]⟩ : ByteArray)] rfl (by (try simp only [List.map_toArray, List.map_cons, List.map_nil]); first | done | rfl | (simp only [List.length_drop, List.length_take]; rfl)) ?_; (with_reducible refine (compact_Next.calls (⟨#[253, 1, 0]⟩ : ByteArray) t101 t102 t103 _ ?sidesizes A1.out).mono ?_); (case sidesizes => first | exact hG_sizes | exact G_sizes.below hG_sizes (by repeat (first | (with_reducible first | exact HB.out | apply below_alloc | apply pw_below_drewN | apply below_drew1) | exact HB.out))); rintro e w4 ⟨rfl, hb⟩; refine ⟨_, rfl, ?_⟩; have n0_ := Aside0.mk (below_step (by repeat (first | (with_reducible first | exact HB.out | apply below_alloc | apply pw_below_drewN | apply below_drew1) | exact HB.out)) hb); clear HB; have HB := n0_; clear n0_; (try clear hb); (try clear hb2); (try clear hk); (try clear hi)) | ((with_reducible refine gate_callee (f := 15) rfl ?_); refine goesL_ (some 9) rfl rfl Tryd.func15 (by kernel_rfl) rfl #[.int .u64 253] rfl (by (try simp only [List.map_toArray, List.map_cons, List.map_nil]); first | done | rfl | (simp only [List.length_drop, List.length_take]; rfl)) ?_; (with_reducible refine (compact_Put.calls 253 t104 _ ?sidesizes A2.out).mono ?_); (case sidesizes => first | exact hG_sizes | exact G_sizes.below hG_sizes (by repeat (first | (with_reducible first | exact HB.out | apply below_alloc | apply pw_below_drewN | apply below_drew1) | exact HB.out))); rintro e w5 ⟨rfl, hb⟩; refine ⟨_, rfl, ?_⟩; have n0_ := Aside0.mk (below_step (by repeat (first | (with_reducible first | exact HB.out | apply below_alloc | apply pw_below_drewN | apply below_drew1) | exact HB.out)) hb); clear HB; have HB := n0_; clear n0_; (try clear hb); (try clear hb2); (try clear hk); (try clear hi)))
    go_ret
    exact ⟨by first | rfl | (simp [errW_none, errW_some] <;> rfl) | (simp [*, errW_none, errW_some] <;> rfl), by repeat (first | (with_reducible first | exact HB.out | apply below_alloc | apply pw_below_drewN | apply below_drew1) | exact HB.out)⟩
  · rw [if_neg c3] at H
    have c3b0 : (t104.toList == ([253, 253, 0] : List UInt8)) = false := beq_eq_false_iff_ne.mpr c3
    have c3b1 : (t104.toList != ([253, 253, 0] : List UInt8)) = true := bne_iff_ne.mpr c3
    obtain rfl := Option.some.inj H
    go_enter Tryd.func14, Tryd.ntmps14
    go_wp2_with (first | ((with_reducible refine gate_callee (f := 16) rfl ?_); refine goesL_ (some 5) rfl rfl Tryd.func16 (by kernel_rfl) rfl #[.string (⟨#[253, 1, 0]⟩ : ByteArray)] rfl (by (try simp only [List.map_toArray, List.map_cons, List.map_nil]); first | done | rfl | (simp only [List.length_drop, List.length_take]; rfl)) ?_; (with_reducible refine (compact_Next.calls (⟨#[253, 1, 0]⟩ : ByteArray) t101 t102 t103 _ ?sidesizes A1.out).mono ?_); (case sidesizes => first | exact hG_sizes | exact G_sizes.below hG_sizes (by repeat (first | (with_reducible first | exact HB.out | apply below_alloc | apply pw_below_drewN | apply below_drew1) | exact HB.out))); rintro e w6 ⟨rfl, hb⟩; refine ⟨_, rfl, ?_⟩; have n0_ := Aside0.mk (below_step (by repeat (first | (with_reducible first | exact HB.out | apply below_alloc | apply pw_below_drewN | apply below_drew1) | exact HB.out)) hb); clear HB; have HB := n0_; clear n0_; (try clear hb); (try clear hb2); (try clear hk); (try clear hi)) | ((with_reducible refine gate_callee (f := 15) rfl ?_); refine goesL_ (some 9) rfl rfl Tryd.func15 (by kernel_rfl) rfl #[.int .u64 253] rfl (by (try simp only [List.map_toArray, List.map_cons, List.map_nil]); first | done | rfl | (simp only [List.length_drop, List.length_take]; rfl)) ?_; (with_reducible refine (compact_Put.calls 253 t104 _ ?sidesizes A2.out).mono ?_); (case sidesizes => first | exact hG_sizes | exact G_sizes.below hG_sizes (by repeat (first | (with_reducible first | exact HB.out | apply below_alloc | apply pw_below_drewN | apply below_drew1) | exact HB.out))); rintro e w7 ⟨rfl, hb⟩; refine ⟨_, rfl, ?_⟩; have n0_ := Aside0.mk (below_step (by repeat (first | (with_reducible first | exact HB.out | apply below_alloc | apply pw_below_drewN | apply below_drew1) | exact HB.out)) hb); clear HB; have HB := n0_; clear n0_; (try clear hb); (try clear hb2); (try clear hk); (try clear hi)))
    go_ret
    exact ⟨by first | rfl | (simp [errW_none, errW_some] <;> rfl) | (simp [*, errW_none, errW_some] <;> rfl), by repeat (first | (with_reducible first | exact HB.out | apply below_alloc | apply pw_below_drewN | apply below_drew1) | exact HB.out)⟩

end Go.Proofs.YteoibgpkimlahaaDoor.P
