/- Whether any hello may be, and its bytes, or the error, are the document's; it is got again. (part 26 of 27) -/
import Derived.Test.YteoibgpkimlahaaB6
import Derived.Test.YteoibgpkimlahaaB24
import Derived.Test.YteoibgpkimlahaaB7
import Derived.Test.YteoibgpkimlahaaB21
import Derived.Test.YteoibgpkimlahaaB16
import Derived.Test.YteoibgpkimlahaaB23
import Derived.Test.YteoibgpkimlahaaB25
import Derived.Test.YteoibgpkimlahaaB22
import Derived.Test.YteoibgpkimlahaaB19
import Derived.Test.YteoibgpkimlahaaB9
section
namespace Go.Proofs.Yteoibgpkimlahaa.P
open Go.RowKit Go.Proofs.YteoibgpkimlahaaW.PrintWords Go.Proofs.YteoibgpkimlahaaW.PrintLast Go.Proofs.YteoibgpkimlahaaW.PrintMore
attribute [local go_sem] max2_int min2_int max_two min_two max_three min_three max_four min_four   
set_option linter.unusedVariables false
set_option linter.unusedSimpArgs false
def hatchwaylaw32_HelloPuts.f (k : Nat) (a0_0 : Int) (a0_1 : Int) (l0_2 : List (S58)) : Option (Bool) := (hatchwaylaw32_alive.f k).bind fun t102 => (if t102 = true then ((hatchwaylaw32_great.f k a0_0 a0_1 l0_2).bind fun t103 => (if t103 = true then (some true) else ((hatchwaylaw32_Of.f k a0_0 a0_1 l0_2).bind fun bt104 => ((hello_Put.f k bt104.1 bt104.2.1 bt104.2.2).bind fun bt109 => ((hatchwaylaw32_Of.f k a0_0 a0_1 l0_2).bind fun bt111 => ((hello_May.f k bt111.1 bt111.2.1 bt111.2.2).bind fun t116 => ((hatchwayref32_May.f k a0_0 a0_1 l0_2).bind fun t117 => (if (t116 != t117) = true then (some false) else ((hatchwayref32_May.f k a0_0 a0_1 l0_2).bind fun t118 => (if t118 = true then ((hello_Get.f k bt109.1).bind fun bt119 => (if bt109.2 = 0 then ((hatchwayref32_Put.f k a0_0 a0_1 l0_2).bind fun t126 => (if bt109.1.toList = t126.toList then (if bt119.2.2.2 = 0 then ((hatchwaylaw32_same.f k bt119.1 bt119.2.1 bt119.2.2.1 a0_0 a0_1 l0_2).bind fun t127 => (some t127)) else (some false)) else (some false))) else (some false))) else (if bt109.2 = 1 then (some (bt109.1.toList == ([] : List UInt8))) else (some false)))))))))))) else (some false))
theorem hatchwaylaw32_HelloPuts.mono : ∀ a0 a1 a2 k, LeO (hatchwaylaw32_HelloPuts.f k a0 a1 a2) (hatchwaylaw32_HelloPuts.f (k + 1) a0 a1 a2) := by
 intro a0 a1 a2 k
 unfold hatchwaylaw32_HelloPuts.f
 repeat' first
   | (with_reducible exact hatchwaylaw32_Of.mono _ _ _ _)
   | (with_reducible exact hatchwaylaw32_alive.mono _)
   | (with_reducible exact hatchwaylaw32_great.mono _ _ _ _)
   | (with_reducible exact hatchwaylaw32_same.mono _ _ _ _ _ _ _)
   | (with_reducible exact hatchwayref32_May.mono _ _ _ _)
   | (with_reducible exact hatchwayref32_Put.mono _ _ _ _)
   | (with_reducible exact hello_Get.mono _ _)
   | (with_reducible exact hello_May.mono _ _ _ _)
   | (with_reducible exact hello_Put.mono _ _ _ _)
   | (with_reducible exact LeO.refl _)
   | (with_reducible exact LeO.none _)
   | (with_reducible refine LeO.ite ?_ ?_)
   | (with_reducible refine LeO.bind ?_ (fun _ => ?_))
   | exact hatchwaylaw32_Of.mono _ _ _ _
   | exact hatchwaylaw32_alive.mono _
   | exact hatchwaylaw32_great.mono _ _ _ _
   | exact hatchwaylaw32_same.mono _ _ _ _ _ _ _
   | exact hatchwayref32_May.mono _ _ _ _
   | exact hatchwayref32_Put.mono _ _ _ _
   | exact hello_Get.mono _ _
   | exact hello_May.mono _ _ _ _
   | exact hello_Put.mono _ _ _ _
   | exact LeO.none _
   | refine LeO.ite ?_ ?_
   | refine LeO.bind ?_ (fun _ => ?_)
set_option maxHeartbeats 8000000 in
set_option maxRecDepth 100000 in
theorem hatchwaylaw32_HelloPuts.calls (k : Nat) (a0_0 : Int) (a0_1 : Int) (A0_2 : Option Addr) (c0_2 : Nat) (l0_2 : List (S58)) (r : Bool) (w : World) (hr0_2 : Kd.C k58 w A0_2 l0_2.length l0_2) (hc0_2 : l0_2.length ≤ c0_2) (h : hatchwaylaw32_HelloPuts.f k a0_0 a0_1 l0_2 = some r) (ht_ : r = true) :
  Calls Try.prog 12 #[.agg #[.int .i64 a0_0, .int .i64 a0_1, .slice A0_2 l0_2.length c0_2]] w fun e w' => e = .returned (.bool r) ∧ Below w.heap.size w w' := by
 have hu39 := Try.underlying39
 have hu47 := Try.underlying47
 have HR0_2 := Aside0.mk hr0_2
 have HC0_2 := Aside0.mk hc0_2
 clear hr0_2 hc0_2
 have HB := Aside0.mk (Below.refl w.heap.size w)
 have H : ((hatchwaylaw32_alive.f k).bind fun t102 => (if t102 = true then ((hatchwaylaw32_great.f k a0_0 a0_1 l0_2).bind fun t103 => (if t103 = true then (some true) else ((hatchwaylaw32_Of.f k a0_0 a0_1 l0_2).bind fun bt104 => ((hello_Put.f k bt104.1 bt104.2.1 bt104.2.2).bind fun bt109 => ((hatchwaylaw32_Of.f k a0_0 a0_1 l0_2).bind fun bt111 => ((hello_May.f k bt111.1 bt111.2.1 bt111.2.2).bind fun t116 => ((hatchwayref32_May.f k a0_0 a0_1 l0_2).bind fun t117 => (if (t116 != t117) = true then (some false) else ((hatchwayref32_May.f k a0_0 a0_1 l0_2).bind fun t118 => (if t118 = true then ((hello_Get.f k bt109.1).bind fun bt119 => (if bt109.2 = 0 then ((hatchwayref32_Put.f k a0_0 a0_1 l0_2).bind fun t126 => (if bt109.1.toList = t126.toList then (if bt119.2.2.2 = 0 then ((hatchwaylaw32_same.f k bt119.1 bt119.2.1 bt119.2.2.1 a0_0 a0_1 l0_2).bind fun t127 => (some t127)) else (some false)) else (some false))) else (some false))) else (if bt109.2 = 1 then (some (bt109.1.toList == ([] : List UInt8))) else (some false)))))))))))) else (some false))) = some r := h
 clear h
 replace H := Option.bind_eq_some_iff.mp H
 obtain ⟨t102, A20, H⟩ := H
 replace H : (if t102 = true then ((hatchwaylaw32_great.f k a0_0 a0_1 l0_2).bind fun t103 => (if t103 = true then (some true) else ((hatchwaylaw32_Of.f k a0_0 a0_1 l0_2).bind fun bt104 => ((hello_Put.f k bt104.1 bt104.2.1 bt104.2.2).bind fun bt109 => ((hatchwaylaw32_Of.f k a0_0 a0_1 l0_2).bind fun bt111 => ((hello_May.f k bt111.1 bt111.2.1 bt111.2.2).bind fun t116 => ((hatchwayref32_May.f k a0_0 a0_1 l0_2).bind fun t117 => (if (t116 != t117) = true then (some false) else ((hatchwayref32_May.f k a0_0 a0_1 l0_2).bind fun t118 => (if t118 = true then ((hello_Get.f k bt109.1).bind fun bt119 => (if bt109.2 = 0 then ((hatchwayref32_Put.f k a0_0 a0_1 l0_2).bind fun t126 => (if bt109.1.toList = t126.toList then (if bt119.2.2.2 = 0 then ((hatchwaylaw32_same.f k bt119.1 bt119.2.1 bt119.2.2.1 a0_0 a0_1 l0_2).bind fun t127 => (some t127)) else (some false)) else (some false))) else (some false))) else (if bt109.2 = 1 then (some (bt109.1.toList == ([] : List UInt8))) else (some false)))))))))))) else (some false)) = some r := H
 have A2 := Aside0.mk A20
 clear A20
 by_cases c3 : t102 = true
 ·subst c3
  have H1 : ((hatchwaylaw32_great.f k a0_0 a0_1 l0_2).bind fun t103 => (if t103 = true then (some true) else ((hatchwaylaw32_Of.f k a0_0 a0_1 l0_2).bind fun bt104 => ((hello_Put.f k bt104.1 bt104.2.1 bt104.2.2).bind fun bt109 => ((hatchwaylaw32_Of.f k a0_0 a0_1 l0_2).bind fun bt111 => ((hello_May.f k bt111.1 bt111.2.1 bt111.2.2).bind fun t116 => ((hatchwayref32_May.f k a0_0 a0_1 l0_2).bind fun t117 => (if (t116 != t117) = true then (some false) else ((hatchwayref32_May.f k a0_0 a0_1 l0_2).bind fun t118 => (if t118 = true then ((hello_Get.f k bt109.1).bind fun bt119 => (if bt109.2 = 0 then ((hatchwayref32_Put.f k a0_0 a0_1 l0_2).bind fun t126 => (if bt109.1.toList = t126.toList then (if bt119.2.2.2 = 0 then ((hatchwaylaw32_same.f k bt119.1 bt119.2.1 bt119.2.2.1 a0_0 a0_1 l0_2).bind fun t127 => (some t127)) else (some false)) else (some false))) else (some false))) else (if bt109.2 = 1 then (some (bt109.1.toList == ([] : List UInt8))) else (some false)))))))))))) = some r := by rw [if_pos rfl] at H; exact H
  clear H
  have H := H1
  clear H1
  replace H := Option.bind_eq_some_iff.mp H
  obtain ⟨t103, A40, H⟩ := H
  replace H : (if t103 = true then (some true) else ((hatchwaylaw32_Of.f k a0_0 a0_1 l0_2).bind fun bt104 => ((hello_Put.f k bt104.1 bt104.2.1 bt104.2.2).bind fun bt109 => ((hatchwaylaw32_Of.f k a0_0 a0_1 l0_2).bind fun bt111 => ((hello_May.f k bt111.1 bt111.2.1 bt111.2.2).bind fun t116 => ((hatchwayref32_May.f k a0_0 a0_1 l0_2).bind fun t117 => (if (t116 != t117) = true then (some false) else ((hatchwayref32_May.f k a0_0 a0_1 l0_2).bind fun t118 => (if t118 = true then ((hello_Get.f k bt109.1).bind fun bt119 => (if bt109.2 = 0 then ((hatchwayref32_Put.f k a0_0 a0_1 l0_2).bind fun t126 => (if bt109.1.toList = t126.toList then (if bt119.2.2.2 = 0 then ((hatchwaylaw32_same.f k bt119.1 bt119.2.1 bt119.2.2.1 a0_0 a0_1 l0_2).bind fun t127 => (some t127)) else (some false)) else (some false))) else (some false))) else (if bt109.2 = 1 then (some (bt109.1.toList == ([] : List UInt8))) else (some false))))))))))) = some r := H
  have A4 := Aside0.mk A40
  clear A40
  by_cases c5 : t103 = true
  ·subst c5
   have H1 : (some true) = some r := by rw [if_pos rfl] at H; exact H
   clear H
   have H := H1
   clear H1
   obtain rfl := Option.some.inj H
   go_enter Try.func12, Try.ntmps12
   go_wp2_with (first | ((with_reducible refine gate_dst (N := 1) rfl ?_); refine box_event ?hg (N := 1) ?hd (cs := #[.int .i64 a0_0, .int .i64 a0_1, .slice A0_2 l0_2.length c0_2]) (t := 39) ?hr ?_; (case hd => rfl); (case hg => rfl); (case hr => first | (go_simp; done) | (go_simp; rfl)); intro gb101 hg w6 hbox hb; have n0_ := Aside0.mk (below_step (by repeat (first | (with_reducible first | exact HB.out | apply below_alloc | apply pw_below_drewN | apply below_drew1) | exact HB.out)) hb); have n1_ := Aside0.mk (hbox); have n2_ := Aside0.mk ((by rw [hg]; exact (below_size (by repeat (first | (with_reducible first | exact HB.out | apply below_alloc | apply pw_below_drewN | apply below_drew1) | exact HB.out))) : w.heap.size ≤ gb101)); have n3_ := Aside0.mk ((by rw [hg]; exact (below_size (by repeat (first | (with_reducible first | exact HB.out | apply below_alloc | apply pw_below_drewN | apply below_drew1) | exact HB.out))) : w.heap.size ≤ gb101)); clear HB; have HB := n0_; have BK101 := n1_; have GW101 := n2_; have GE101 := n3_; clear n0_ n1_ n2_ n3_; clear hb hbox hg) | ((with_reducible refine gate_callee (f := 25) rfl ?_); refine goesL_ (some 7) rfl rfl Try.func25 (by kernel_rfl) rfl #[] rfl (by (try simp only [List.map_toArray, List.map_cons, List.map_nil]); first | done | rfl | (simp only [List.length_drop, List.length_take]; rfl)) ?_; (with_reducible refine (hatchwaylaw32_alive.calls k  true _ A2.out rfl).mono ?_); rintro e w7 ⟨rfl, hb⟩; refine ⟨_, rfl, ?_⟩; have n0_ := Aside0.mk (blk_below (g := gb101) (o := .cells #[.int .i64 a0_0, .int .i64 a0_1, .slice A0_2 l0_2.length c0_2] 39 (0, 0)) (by (with_reducible repeat (first | refine blk_drewN ?_ _ | refine blk_drew ?_ | refine blk_alloc ?_ _)); exact BK101.out) hb); have n1_ := Aside0.mk (below_step (by repeat (first | (with_reducible first | exact HB.out | apply below_alloc | apply pw_below_drewN | apply below_drew1 | refine below_set ?_ GE101.out) | exact HB.out)) hb); clear BK101; clear HB; have BK101 := n0_; have HB := n1_; clear n0_ n1_; (try clear hb); (try clear hb2); (try clear hk); (try clear hi); have hcz8_0 : w7.cell? ⟨gb101, 0, none⟩ = some (.int .i64 a0_0) := bc BK101.out 0; have hcz8_1 : w7.cell? ⟨gb101, 1, none⟩ = some (.int .i64 a0_1) := bc BK101.out 1; have hcz8_2 : w7.cell? ⟨gb101, 2, none⟩ = some (.slice A0_2 l0_2.length c0_2) := bc BK101.out 2; have hfz8_0 := blk_frozen BK101.out 0; have hfz8_1 := blk_frozen BK101.out 1; have hfz8_2 := blk_frozen BK101.out 2) | ((with_reducible refine gate_callee (f := 26) rfl ?_); refine goesL_ (some 10) rfl rfl Try.func26 (by kernel_rfl) rfl #[.agg #[.int .i64 a0_0, .int .i64 a0_1, .slice A0_2 l0_2.length c0_2]] rfl (by (try simp only [List.map_toArray, List.map_cons, List.map_nil]); first | done | rfl | (simp only [List.length_drop, List.length_take]; rfl)) ?_; (with_reducible refine (hatchwaylaw32_great.calls k a0_0 a0_1 _ _ l0_2 true _ ?side1 ?side2 A4.out).mono ?_); (case side1 => repeat (first | exact (Kd.C_below HR0_2.out HB.out) | (with_reducible refine Kd.C_alloc ?_ _) | (with_reducible refine Kd.C_drewN ?_ _) | (with_reducible refine Kd.C_drew ?_))); (case side2 => exact HC0_2.out); rintro e w9 ⟨rfl, hb⟩; refine ⟨_, rfl, ?_⟩; have n0_ := Aside0.mk (blk_below (g := gb101) (o := .cells #[.int .i64 a0_0, .int .i64 a0_1, .slice A0_2 l0_2.length c0_2] 39 (0, 0)) (by (with_reducible repeat (first | refine blk_drewN ?_ _ | refine blk_drew ?_ | refine blk_alloc ?_ _)); exact BK101.out) hb); have n1_ := Aside0.mk (below_step (by repeat (first | (with_reducible first | exact HB.out | apply below_alloc | apply pw_below_drewN | apply below_drew1 | refine below_set ?_ GE101.out) | exact HB.out)) hb); clear BK101; clear HB; have BK101 := n0_; have HB := n1_; clear n0_ n1_; (try clear hb); (try clear hb2); (try clear hk); (try clear hi)))
   go_ret
   exact ⟨by first | rfl | (simp [errW_none, errW_some] <;> rfl) | (simp [*, errW_none, errW_some] <;> rfl), by repeat (first | (with_reducible first | exact HB.out | apply below_alloc | apply pw_below_drewN | apply below_drew1 | refine below_set ?_ GE101.out) | exact HB.out)⟩
  replace c5 := Bool.eq_false_iff.mpr c5
  subst c5
  have H1 : ((hatchwaylaw32_Of.f k a0_0 a0_1 l0_2).bind fun bt104 => ((hello_Put.f k bt104.1 bt104.2.1 bt104.2.2).bind fun bt109 => ((hatchwaylaw32_Of.f k a0_0 a0_1 l0_2).bind fun bt111 => ((hello_May.f k bt111.1 bt111.2.1 bt111.2.2).bind fun t116 => ((hatchwayref32_May.f k a0_0 a0_1 l0_2).bind fun t117 => (if (t116 != t117) = true then (some false) else ((hatchwayref32_May.f k a0_0 a0_1 l0_2).bind fun t118 => (if t118 = true then ((hello_Get.f k bt109.1).bind fun bt119 => (if bt109.2 = 0 then ((hatchwayref32_Put.f k a0_0 a0_1 l0_2).bind fun t126 => (if bt109.1.toList = t126.toList then (if bt119.2.2.2 = 0 then ((hatchwaylaw32_same.f k bt119.1 bt119.2.1 bt119.2.2.1 a0_0 a0_1 l0_2).bind fun t127 => (some t127)) else (some false)) else (some false))) else (some false))) else (if bt109.2 = 1 then (some (bt109.1.toList == ([] : List UInt8))) else (some false)))))))))) = some r := by rw [if_neg (show ¬ (false = true) by decide)] at H; exact H
  clear H
  have H := H1
  clear H1
  replace H := Option.bind_eq_some_iff.mp H
  obtain ⟨⟨t104, t105, t106⟩, A100, H⟩ := H
  replace H : ((hello_Put.f k t104 t105 t106).bind fun bt109 => ((hatchwaylaw32_Of.f k a0_0 a0_1 l0_2).bind fun bt111 => ((hello_May.f k bt111.1 bt111.2.1 bt111.2.2).bind fun t116 => ((hatchwayref32_May.f k a0_0 a0_1 l0_2).bind fun t117 => (if (t116 != t117) = true then (some false) else ((hatchwayref32_May.f k a0_0 a0_1 l0_2).bind fun t118 => (if t118 = true then ((hello_Get.f k bt109.1).bind fun bt119 => (if bt109.2 = 0 then ((hatchwayref32_Put.f k a0_0 a0_1 l0_2).bind fun t126 => (if bt109.1.toList = t126.toList then (if bt119.2.2.2 = 0 then ((hatchwaylaw32_same.f k bt119.1 bt119.2.1 bt119.2.2.1 a0_0 a0_1 l0_2).bind fun t127 => (some t127)) else (some false)) else (some false))) else (some false))) else (if bt109.2 = 1 then (some (bt109.1.toList == ([] : List UInt8))) else (some false))))))))) = some r := H
  have A10 := Aside0.mk A100
  clear A100
  replace H := Option.bind_eq_some_iff.mp H
  obtain ⟨⟨t109, t110⟩, A110, H⟩ := H
  replace H : ((hatchwaylaw32_Of.f k a0_0 a0_1 l0_2).bind fun bt111 => ((hello_May.f k bt111.1 bt111.2.1 bt111.2.2).bind fun t116 => ((hatchwayref32_May.f k a0_0 a0_1 l0_2).bind fun t117 => (if (t116 != t117) = true then (some false) else ((hatchwayref32_May.f k a0_0 a0_1 l0_2).bind fun t118 => (if t118 = true then ((hello_Get.f k t109).bind fun bt119 => (if t110 = 0 then ((hatchwayref32_Put.f k a0_0 a0_1 l0_2).bind fun t126 => (if t109.toList = t126.toList then (if bt119.2.2.2 = 0 then ((hatchwaylaw32_same.f k bt119.1 bt119.2.1 bt119.2.2.1 a0_0 a0_1 l0_2).bind fun t127 => (some t127)) else (some false)) else (some false))) else (some false))) else (if t110 = 1 then (some (t109.toList == ([] : List UInt8))) else (some false)))))))) = some r := H
  have A11 := Aside0.mk A110
  clear A110
  replace H := Option.bind_eq_some_iff.mp H
  obtain ⟨⟨t111, t112, t113⟩, A120, H⟩ := H
  replace H : ((hello_May.f k t111 t112 t113).bind fun t116 => ((hatchwayref32_May.f k a0_0 a0_1 l0_2).bind fun t117 => (if (t116 != t117) = true then (some false) else ((hatchwayref32_May.f k a0_0 a0_1 l0_2).bind fun t118 => (if t118 = true then ((hello_Get.f k t109).bind fun bt119 => (if t110 = 0 then ((hatchwayref32_Put.f k a0_0 a0_1 l0_2).bind fun t126 => (if t109.toList = t126.toList then (if bt119.2.2.2 = 0 then ((hatchwaylaw32_same.f k bt119.1 bt119.2.1 bt119.2.2.1 a0_0 a0_1 l0_2).bind fun t127 => (some t127)) else (some false)) else (some false))) else (some false))) else (if t110 = 1 then (some (t109.toList == ([] : List UInt8))) else (some false))))))) = some r := H
  have A12 := Aside0.mk A120
  clear A120
  replace H := Option.bind_eq_some_iff.mp H
  obtain ⟨t116, A130, H⟩ := H
  replace H : ((hatchwayref32_May.f k a0_0 a0_1 l0_2).bind fun t117 => (if (t116 != t117) = true then (some false) else ((hatchwayref32_May.f k a0_0 a0_1 l0_2).bind fun t118 => (if t118 = true then ((hello_Get.f k t109).bind fun bt119 => (if t110 = 0 then ((hatchwayref32_Put.f k a0_0 a0_1 l0_2).bind fun t126 => (if t109.toList = t126.toList then (if bt119.2.2.2 = 0 then ((hatchwaylaw32_same.f k bt119.1 bt119.2.1 bt119.2.2.1 a0_0 a0_1 l0_2).bind fun t127 => (some t127)) else (some false)) else (some false))) else (some false))) else (if t110 = 1 then (some (t109.toList == ([] : List UInt8))) else (some false)))))) = some r := H
  have A13 := Aside0.mk A130
  clear A130
  replace H := Option.bind_eq_some_iff.mp H
  obtain ⟨t117, A140, H⟩ := H
  replace H : (if (t116 != t117) = true then (some false) else ((hatchwayref32_May.f k a0_0 a0_1 l0_2).bind fun t118 => (if t118 = true then ((hello_Get.f k t109).bind fun bt119 => (if t110 = 0 then ((hatchwayref32_Put.f k a0_0 a0_1 l0_2).bind fun t126 => (if t109.toList = t126.toList then (if bt119.2.2.2 = 0 then ((hatchwaylaw32_same.f k bt119.1 bt119.2.1 bt119.2.2.1 a0_0 a0_1 l0_2).bind fun t127 => (some t127)) else (some false)) else (some false))) else (some false))) else (if t110 = 1 then (some (t109.toList == ([] : List UInt8))) else (some false))))) = some r := H
  have A14 := Aside0.mk A140
  clear A140
  by_cases c15 : (t116 != t117) = true
  ·rw [if_pos c15] at H
   exact absurd ((Option.some.inj H).trans ht_) (by decide)
  rw [if_neg c15] at H
  have c15b0 : (t116 != t117) = false := by simpa using c15
  (try (have c15b1 : decide (t116 = t117) = true := by simpa using c15))
  (try (have c15b2 : (t116 == t117) = true := by simpa using c15))
  clear c15
  replace H := Option.bind_eq_some_iff.mp H
  obtain ⟨t118, A290, H⟩ := H
  replace H : (if t118 = true then ((hello_Get.f k t109).bind fun bt119 => (if t110 = 0 then ((hatchwayref32_Put.f k a0_0 a0_1 l0_2).bind fun t126 => (if t109.toList = t126.toList then (if bt119.2.2.2 = 0 then ((hatchwaylaw32_same.f k bt119.1 bt119.2.1 bt119.2.2.1 a0_0 a0_1 l0_2).bind fun t127 => (some t127)) else (some false)) else (some false))) else (some false))) else (if t110 = 1 then (some (t109.toList == ([] : List UInt8))) else (some false))) = some r := H
  have A29 := Aside0.mk A290
  clear A290
  by_cases c30 : t118 = true
  ·subst c30
   have H1 : ((hello_Get.f k t109).bind fun bt119 => (if t110 = 0 then ((hatchwayref32_Put.f k a0_0 a0_1 l0_2).bind fun t126 => (if t109.toList = t126.toList then (if bt119.2.2.2 = 0 then ((hatchwaylaw32_same.f k bt119.1 bt119.2.1 bt119.2.2.1 a0_0 a0_1 l0_2).bind fun t127 => (some t127)) else (some false)) else (some false))) else (some false))) = some r := by rw [if_pos rfl] at H; exact H
   clear H
   have H := H1
   clear H1
   replace H := Option.bind_eq_some_iff.mp H
   obtain ⟨⟨t119, t120, t121, t124⟩, A310, H⟩ := H
   replace H : (if t110 = 0 then ((hatchwayref32_Put.f k a0_0 a0_1 l0_2).bind fun t126 => (if t109.toList = t126.toList then (if t124 = 0 then ((hatchwaylaw32_same.f k t119 t120 t121 a0_0 a0_1 l0_2).bind fun t127 => (some t127)) else (some false)) else (some false))) else (some false)) = some r := H
   have A31 := Aside0.mk A310
   clear A310
   by_cases c32 : t110 = 0
   rotate_left
   ·rw [if_neg c32] at H
    exact absurd ((Option.some.inj H).trans ht_) (by decide)
   rw [if_pos c32] at H
   have c32b0 : (t110 == 0) = true := beq_iff_eq.mpr c32
   have c32b1 : (t110 != 0) = false := bne_eq_false_iff_eq.mpr c32
   clear c32
   replace H := Option.bind_eq_some_iff.mp H
   obtain ⟨t126, A330, H⟩ := H
   replace H : (if t109.toList = t126.toList then (if t124 = 0 then ((hatchwaylaw32_same.f k t119 t120 t121 a0_0 a0_1 l0_2).bind fun t127 => (some t127)) else (some false)) else (some false)) = some r := H
   have A33 := Aside0.mk A330
   clear A330
   by_cases c34 : t109.toList = t126.toList
   rotate_left
   ·rw [if_neg c34] at H
    exact absurd ((Option.some.inj H).trans ht_) (by decide)
   rw [if_pos c34] at H
   have c34b0 : (t109.toList == t126.toList) = true := beq_iff_eq.mpr c34
   have c34b1 : (t109.toList != t126.toList) = false := bne_eq_false_iff_eq.mpr c34
   clear c34
   by_cases c35 : t124 = 0
   rotate_left
   ·rw [if_neg c35] at H
    exact absurd ((Option.some.inj H).trans ht_) (by decide)
   rw [if_pos c35] at H
   have c35b0 : (t124 == 0) = true := beq_iff_eq.mpr c35
   have c35b1 : (t124 != 0) = false := bne_eq_false_iff_eq.mpr c35
   clear c35
   replace H := Option.bind_eq_some_iff.mp H
   obtain ⟨t127, A360, H⟩ := H
   replace H : (some t127) = some r := H
   have A36 := Aside0.mk A360
   clear A360
   obtain rfl := Option.some.inj H
   go_enter Try.func12, Try.ntmps12
   try go_wp2_with (first | ((with_reducible refine gate_dst (N := 1) rfl ?_); refine box_event ?hg (N := 1) ?hd (cs := #[.int .i64 a0_0, .int .i64 a0_1, .slice A0_2 l0_2.length c0_2]) (t := 39) ?hr ?_; (case hd => rfl); (case hg => rfl); (case hr => first | (go_simp; done) | (go_simp; rfl)); intro gb101 hg w37 hbox hb; have n0_ := Aside0.mk (below_step (by repeat (first | (with_reducible first | exact HB.out | apply below_alloc | apply pw_below_drewN | apply below_drew1) | exact HB.out)) hb); have n1_ := Aside0.mk (hbox); have n2_ := Aside0.mk ((by rw [hg]; exact (below_size (by repeat (first | (with_reducible first | exact HB.out | apply below_alloc | apply pw_below_drewN | apply below_drew1) | exact HB.out))) : w.heap.size ≤ gb101)); have n3_ := Aside0.mk ((by rw [hg]; exact (below_size (by repeat (first | (with_reducible first | exact HB.out | apply below_alloc | apply pw_below_drewN | apply below_drew1) | exact HB.out))) : w.heap.size ≤ gb101)); clear HB; have HB := n0_; have BK101 := n1_; have GW101 := n2_; have GE101 := n3_; clear n0_ n1_ n2_ n3_; clear hb hbox hg) | ((with_reducible refine gate_callee (f := 25) rfl ?_); refine goesL_ (some 7) rfl rfl Try.func25 (by kernel_rfl) rfl #[] rfl (by (try simp only [List.map_toArray, List.map_cons, List.map_nil]); first | done | rfl | (simp only [List.length_drop, List.length_take]; rfl)) ?_; (with_reducible refine (hatchwaylaw32_alive.calls k  true _ A2.out rfl).mono ?_); rintro e w38 ⟨rfl, hb⟩; refine ⟨_, rfl, ?_⟩; have n0_ := Aside0.mk (blk_below (g := gb101) (o := .cells #[.int .i64 a0_0, .int .i64 a0_1, .slice A0_2 l0_2.length c0_2] 39 (0, 0)) (by (with_reducible repeat (first | refine blk_drewN ?_ _ | refine blk_drew ?_ | refine blk_alloc ?_ _)); exact BK101.out) hb); have n1_ := Aside0.mk (below_step (by repeat (first | (with_reducible first | exact HB.out | apply below_alloc | apply pw_below_drewN | apply below_drew1 | refine below_set ?_ GE101.out) | exact HB.out)) hb); clear BK101; clear HB; have BK101 := n0_; have HB := n1_; clear n0_ n1_; (try clear hb); (try clear hb2); (try clear hk); (try clear hi); have hcz39_0 : w38.cell? ⟨gb101, 0, none⟩ = some (.int .i64 a0_0) := bc BK101.out 0; have hcz39_1 : w38.cell? ⟨gb101, 1, none⟩ = some (.int .i64 a0_1) := bc BK101.out 1; have hcz39_2 : w38.cell? ⟨gb101, 2, none⟩ = some (.slice A0_2 l0_2.length c0_2) := bc BK101.out 2; have hfz39_0 := blk_frozen BK101.out 0; have hfz39_1 := blk_frozen BK101.out 1; have hfz39_2 := blk_frozen BK101.out 2) | ((with_reducible refine gate_callee (f := 26) rfl ?_); refine goesL_ (some 10) rfl rfl Try.func26 (by kernel_rfl) rfl #[.agg #[.int .i64 a0_0, .int .i64 a0_1, .slice A0_2 l0_2.length c0_2]] rfl (by (try simp only [List.map_toArray, List.map_cons, List.map_nil]); first | done | rfl | (simp only [List.length_drop, List.length_take]; rfl)) ?_; (with_reducible refine (hatchwaylaw32_great.calls k a0_0 a0_1 _ _ l0_2 false _ ?side1 ?side2 A4.out).mono ?_); (case side1 => repeat (first | exact (Kd.C_below HR0_2.out HB.out) | (with_reducible refine Kd.C_alloc ?_ _) | (with_reducible refine Kd.C_drewN ?_ _) | (with_reducible refine Kd.C_drew ?_))); (case side2 => exact HC0_2.out); rintro e w40 ⟨rfl, hb⟩; refine ⟨_, rfl, ?_⟩; have n0_ := Aside0.mk (blk_below (g := gb101) (o := .cells #[.int .i64 a0_0, .int .i64 a0_1, .slice A0_2 l0_2.length c0_2] 39 (0, 0)) (by (with_reducible repeat (first | refine blk_drewN ?_ _ | refine blk_drew ?_ | refine blk_alloc ?_ _)); exact BK101.out) hb); have n1_ := Aside0.mk (below_step (by repeat (first | (with_reducible first | exact HB.out | apply below_alloc | apply pw_below_drewN | apply below_drew1 | refine below_set ?_ GE101.out) | exact HB.out)) hb); clear BK101; clear HB; have BK101 := n0_; have HB := n1_; clear n0_ n1_; (try clear hb); (try clear hb2); (try clear hk); (try clear hi); have hcz41_0 : w40.cell? ⟨gb101, 0, none⟩ = some (.int .i64 a0_0) := bc BK101.out 0; have hcz41_1 : w40.cell? ⟨gb101, 1, none⟩ = some (.int .i64 a0_1) := bc BK101.out 1; have hcz41_2 : w40.cell? ⟨gb101, 2, none⟩ = some (.slice A0_2 l0_2.length c0_2) := bc BK101.out 2; have hfz41_0 := blk_frozen BK101.out 0; have hfz41_1 := blk_frozen BK101.out 1; have hfz41_2 := blk_frozen BK101.out 2) | ((with_reducible refine gate_callee (f := 28) rfl ?_); refine goesL_ (some 13) rfl rfl Try.func28 (by kernel_rfl) rfl #[.agg #[.int .i64 a0_0, .int .i64 a0_1, .slice A0_2 l0_2.length c0_2]] rfl (by (try simp only [List.map_toArray, List.map_cons, List.map_nil]); first | done | rfl | (simp only [List.length_drop, List.length_take]; rfl)) ?_; (with_reducible refine (hatchwaylaw32_Of.calls k a0_0 a0_1 _ _ l0_2 t104 t105 t106 _ ?side1 ?side2 A10.out).mono ?_); (case side1 => repeat (first | exact (Kd.C_below HR0_2.out HB.out) | (with_reducible refine Kd.C_alloc ?_ _) | (with_reducible refine Kd.C_drewN ?_ _) | (with_reducible refine Kd.C_drew ?_))); (case side2 => exact HC0_2.out); rintro e w42 ⟨v107, rfl, ho0, hb⟩; refine ⟨_, rfl, ?_⟩; have n0_ := Aside0.mk (Kd.R_lower ho0 (below_size (by repeat (first | (with_reducible first | exact HB.out | apply below_alloc | apply pw_below_drewN | apply below_drew1 | refine below_set ?_ GE101.out) | exact HB.out)))); have n1_ := Aside0.mk (blk_below (g := gb101) (o := .cells #[.int .i64 a0_0, .int .i64 a0_1, .slice A0_2 l0_2.length c0_2] 39 (0, 0)) (by (with_reducible repeat (first | refine blk_drewN ?_ _ | refine blk_drew ?_ | refine blk_alloc ?_ _)); exact BK101.out) hb); have n2_ := Aside0.mk (below_step (by repeat (first | (with_reducible first | exact HB.out | apply below_alloc | apply pw_below_drewN | apply below_drew1 | refine below_set ?_ GE101.out) | exact HB.out)) hb); clear BK101; clear HB; have HO108 := n0_; have BK101 := n1_; have HB := n2_; clear n0_ n1_ n2_; (try clear hb); (try clear hb2); (try clear hk); (try clear hi); (try clear ho0); obtain ⟨Ao43, co43, eo43⟩ := Kd.R_slice HO108.out; subst eo43) | ((with_reducible refine gate_callee (f := 56) rfl ?_); refine goesL_ (some 14) rfl rfl Try.func56 (by kernel_rfl) rfl #[.agg #[.int .i64 t104, .int .i64 t105, .slice Ao43 t106.length co43]] rfl (by (try simp only [List.map_toArray, List.map_cons, List.map_nil]); first | done | rfl | (simp only [List.length_drop, List.length_take]; rfl)) ?_; (with_reducible refine (hello_Put.calls k t104 t105 _ _ t106 t109 t110 _ ?side1 ?side2 A11.out).mono ?_); (case side1 => repeat (first | exact (Kd.R_reads' HO108.out).2.2 | (with_reducible refine Kd.C_alloc ?_ _) | (with_reducible refine Kd.C_drewN ?_ _) | (with_reducible refine Kd.C_drew ?_))); (case side2 => exact (Kd.R_reads' HO108.out).2.1); rintro e w44 ⟨rfl, hb⟩; refine ⟨_, rfl, ?_⟩; have n0_ := Aside0.mk (Kd.R_below (by (with_reducible repeat (first | apply Kd.R_alloc | apply Kd.R_drewN | apply Kd.R_drew)); exact HO108.out) hb); have n1_ := Aside0.mk (blk_below (g := gb101) (o := .cells #[.int .i64 a0_0, .int .i64 a0_1, .slice A0_2 l0_2.length c0_2] 39 (0, 0)) (by (with_reducible repeat (first | refine blk_drewN ?_ _ | refine blk_drew ?_ | refine blk_alloc ?_ _)); exact BK101.out) hb); have n2_ := Aside0.mk (below_step (by repeat (first | (with_reducible first | exact HB.out | apply below_alloc | apply pw_below_drewN | apply below_drew1 | refine below_set ?_ GE101.out) | exact HB.out)) hb); clear HO108; clear BK101; clear HB; have HO108 := n0_; have BK101 := n1_; have HB := n2_; clear n0_ n1_ n2_; (try clear hb); (try clear hb2); (try clear hk); (try clear hi)))
   have n0_ := Aside0.mk (Kd.R_drew HO108.out)
   have n1_ := Aside0.mk (blk_drew BK101.out)
   have n2_ := Aside0.mk (below_drew1 HB.out)
   clear HO108
   clear BK101
   clear HB
   have HO108 := n0_
   have BK101 := n1_
   have HB := n2_
   clear n0_ n1_ n2_
   refine start_ (n := 6) (S := fun w' => w'.cell? ⟨gb101, 0, none⟩ = some (.int .i64 a0_0) ∧ w'.cell? ⟨gb101, 1, none⟩ = some (.int .i64 a0_1) ∧ w'.cell? ⟨gb101, 2, none⟩ = some (.slice A0_2 l0_2.length c0_2)) (ds := []) #[false, false, false, false, false, false] (by kernel_rfl) rfl rfl ⟨bc BK101.out 0, bc BK101.out 1, bc BK101.out 2⟩ (fun hHeld => ?_)
   generalize w44.drew = w45 at HO108 BK101 HB hHeld ⊢
   refine take_ (i := 0) (N := some 17) (v := ?_) (a' := ?_) #[true, false, false, false, false, false] rfl rfl (by kernel_rfl) (fun _ _ _ h => h) (Or.inl ⟨by rfl, ?_⟩) hHeld ?_ ?_
   rotate_left
   ·rintro w' ⟨s0, s1, s2⟩
    go_simp
    with_reducible rfl
   rotate_left
   ·simp only [Act.put, zu1, zu2, zu3, i64_w, i32_w]
    rfl
   refine take_ (i := 3) (N := some 20) (v := ?_) (a' := ?_) #[true, false, false, true, false, false] rfl rfl (by kernel_rfl) (fun _ _ _ h => h) (Or.inl ⟨by rfl, ?_⟩) hHeld ?_ ?_
   rotate_left
   ·rintro w' ⟨s0, s1, s2⟩
    go_simp
    with_reducible rfl
   rotate_left
   ·simp only [Act.put, zu1, zu2, zu3, i64_w, i32_w]
    rfl
   refine one_ (i := 1) (N := some 18) #[true, true, false, true, false, false] rfl rfl (by kernel_rfl) (by decide) (fun K hK => ?_)
   refine goes_ Try.func28 (by kernel_rfl) rfl #[.agg #[.int .i64 a0_0, .int .i64 a0_1, .slice A0_2 l0_2.length c0_2]] (by rfl) rfl rfl (by (try simp only [List.map_toArray, List.map_cons, List.map_nil]); first | done | rfl | (simp only [List.length_drop, List.length_take]; rfl)) ?_
   with_reducible refine (hatchwaylaw32_Of.calls k a0_0 a0_1 _ _ l0_2 t111 t112 t113 _ ?side1 ?side2 A12.out).mono ?_
   (case side1 => repeat (first | exact (Kd.C_below HR0_2.out HB.out) | (with_reducible refine Kd.C_alloc ?_ _) | (with_reducible refine Kd.C_drewN ?_ _) | (with_reducible refine Kd.C_drew ?_)))
   (case side2 => exact HC0_2.out)
   rintro e w46 ⟨v114, rfl, ho0, hb⟩
   refine ⟨_, rfl, ?_⟩
   have n0_ := Aside0.mk (Kd.R_elder' (by (with_reducible repeat (first | apply Kd.R_alloc | apply Kd.R_drewN | apply Kd.R_drew)); exact HO108.out) (Kd.R_base ho0) hb)
   have n1_ := Aside0.mk (Kd.R_lower (Kd.R_new' ho0 (Kd.R_lt (by (with_reducible repeat (first | apply Kd.R_alloc | apply Kd.R_drewN | apply Kd.R_drew)); exact HO108.out))) (below_size (by repeat (first | (with_reducible first | exact HB.out | apply below_alloc | apply pw_below_drewN | apply below_drew1 | refine below_set ?_ GE101.out) | exact HB.out))))
   have n2_ := Aside0.mk (blk_below (g := gb101) (o := .cells #[.int .i64 a0_0, .int .i64 a0_1, .slice A0_2 l0_2.length c0_2] 39 (0, 0)) (by (with_reducible repeat (first | refine blk_drewN ?_ _ | refine blk_drew ?_ | refine blk_alloc ?_ _)); exact BK101.out) hb)
   have n3_ := Aside0.mk (below_step (by repeat (first | (with_reducible first | exact HB.out | apply below_alloc | apply pw_below_drewN | apply below_drew1 | refine below_set ?_ GE101.out) | exact HB.out)) hb)
   clear HO108
   clear BK101
   clear HB
   have HO108 := n0_
   have HO115 := n1_
   have BK101 := n2_
   have HB := n3_
   clear n0_ n1_ n2_ n3_
   (try clear hb)
   (try clear hb2)
   (try clear hk)
   (try clear hi)
   (try clear ho0)
   obtain ⟨Ao47, co47, eo47⟩ := Kd.R_slice HO115.out
   (first | subst eo47 | (injection eo47 with f1_ f2_ f3_; have f4_ := f1_.symm; have f5_ := f3_.symm; clear f1_ f2_ f3_; subst f4_; subst f5_))
   refine hK.out _ _ ⟨bc BK101.out 0, bc BK101.out 1, bc BK101.out 2⟩ (fun hHeld => ?_)
   clear hK K
   refine norm_ (a' := ?_) ?_ ?_
   rotate_left
   ·show Act.put _ (some 18) _ = _
    simp only [Act.put, zu1, zu2, zu3, i64_w, i32_w]
    rfl
   refine one_ (i := 2) (N := some 19) #[true, true, true, true, false, false] rfl rfl (by kernel_rfl) (by decide) (fun K hK => ?_)
   refine goes_ Try.func57 (by kernel_rfl) rfl #[.agg #[.int .i64 t111, .int .i64 t112, .slice Ao47 t113.length co47]] (by rfl) rfl rfl (by (try simp only [List.map_toArray, List.map_cons, List.map_nil]); first | done | rfl | (simp only [List.length_drop, List.length_take]; rfl)) ?_
   with_reducible refine (hello_May.calls k t111 t112 _ _ t113 t116 _ ?side1 ?side2 A13.out).mono ?_
   (case side1 => repeat (first | exact (Kd.R_reads' HO115.out).2.2 | (with_reducible refine Kd.C_alloc ?_ _) | (with_reducible refine Kd.C_drewN ?_ _) | (with_reducible refine Kd.C_drew ?_)))
   (case side2 => exact (Kd.R_reads' HO115.out).2.1)
   rintro e w48 ⟨rfl, hb⟩
   refine ⟨_, rfl, ?_⟩
   have n0_ := Aside0.mk (Kd.R_below (by (with_reducible repeat (first | apply Kd.R_alloc | apply Kd.R_drewN | apply Kd.R_drew)); exact HO108.out) hb)
   have n1_ := Aside0.mk (Kd.R_below (by (with_reducible repeat (first | apply Kd.R_alloc | apply Kd.R_drewN | apply Kd.R_drew)); exact HO115.out) hb)
   have n2_ := Aside0.mk (blk_below (g := gb101) (o := .cells #[.int .i64 a0_0, .int .i64 a0_1, .slice A0_2 l0_2.length c0_2] 39 (0, 0)) (by (with_reducible repeat (first | refine blk_drewN ?_ _ | refine blk_drew ?_ | refine blk_alloc ?_ _)); exact BK101.out) hb)
   have n3_ := Aside0.mk (below_step (by repeat (first | (with_reducible first | exact HB.out | apply below_alloc | apply pw_below_drewN | apply below_drew1 | refine below_set ?_ GE101.out) | exact HB.out)) hb)
   clear HO108
   clear HO115
   clear BK101
   clear HB
   have HO108 := n0_
   have HO115 := n1_
   have BK101 := n2_
   have HB := n3_
   clear n0_ n1_ n2_ n3_
   (try clear hb)
   (try clear hb2)
   (try clear hk)
   (try clear hi)
   refine hK.out _ _ ⟨bc BK101.out 0, bc BK101.out 1, bc BK101.out 2⟩ (fun hHeld => ?_)
   clear hK K
   refine norm_ (a' := ?_) ?_ ?_
   rotate_left
   ·show Act.put _ (some 19) _ = _
    simp only [Act.put, zu1, zu2, zu3, i64_w, i32_w]
    rfl
   refine one_ (i := 4) (N := some 21) #[true, true, true, true, true, false] rfl rfl (by kernel_rfl) (by decide) (fun K hK => ?_)
   refine goes_ Try.func31 (by kernel_rfl) rfl #[.agg #[.int .i64 a0_0, .int .i64 a0_1, .slice A0_2 l0_2.length c0_2]] (by rfl) rfl rfl (by (try simp only [List.map_toArray, List.map_cons, List.map_nil]); first | done | rfl | (simp only [List.length_drop, List.length_take]; rfl)) ?_
   with_reducible refine (hatchwayref32_May.calls k a0_0 a0_1 _ _ l0_2 t117 _ ?side1 ?side2 A14.out).mono ?_
   (case side1 => repeat (first | exact (Kd.C_below HR0_2.out HB.out) | (with_reducible refine Kd.C_alloc ?_ _) | (with_reducible refine Kd.C_drewN ?_ _) | (with_reducible refine Kd.C_drew ?_)))
   (case side2 => exact HC0_2.out)
   rintro e w49 ⟨rfl, hb⟩
   refine ⟨_, rfl, ?_⟩
   have n0_ := Aside0.mk (Kd.R_below (by (with_reducible repeat (first | apply Kd.R_alloc | apply Kd.R_drewN | apply Kd.R_drew)); exact HO108.out) hb)
   have n1_ := Aside0.mk (Kd.R_below (by (with_reducible repeat (first | apply Kd.R_alloc | apply Kd.R_drewN | apply Kd.R_drew)); exact HO115.out) hb)
   have n2_ := Aside0.mk (blk_below (g := gb101) (o := .cells #[.int .i64 a0_0, .int .i64 a0_1, .slice A0_2 l0_2.length c0_2] 39 (0, 0)) (by (with_reducible repeat (first | refine blk_drewN ?_ _ | refine blk_drew ?_ | refine blk_alloc ?_ _)); exact BK101.out) hb)
   have n3_ := Aside0.mk (below_step (by repeat (first | (with_reducible first | exact HB.out | apply below_alloc | apply pw_below_drewN | apply below_drew1 | refine below_set ?_ GE101.out) | exact HB.out)) hb)
   clear HO108
   clear HO115
   clear BK101
   clear HB
   have HO108 := n0_
   have HO115 := n1_
   have BK101 := n2_
   have HB := n3_
   clear n0_ n1_ n2_ n3_
   (try clear hb)
   (try clear hb2)
   (try clear hk)
   (try clear hi)
   refine hK.out _ _ ⟨bc BK101.out 0, bc BK101.out 1, bc BK101.out 2⟩ (fun hHeld => ?_)
   clear hK K
   refine norm_ (a' := ?_) ?_ ?_
   rotate_left
   ·show Act.put _ (some 21) _ = _
    simp only [Act.put, zu1, zu2, zu3, i64_w, i32_w]
    rfl
   refine pure_ (i := 5) (N := some 22) (v := ?_) (a' := ?_) #[true, true, true, true, true, true] rfl rfl (by kernel_rfl) (fun _ _ _ h => h) (Or.inl ⟨by rfl, ?_⟩) ?_ ?_
   rotate_left
   ·intro w'
    go_simp
    with_reducible rfl
   rotate_left
   ·simp only [Act.put, zu1, zu2, zu3, i64_w, i32_w]
    rfl
   refine done_ (by kernel_rfl) ?_
   have hcz50_0 : w49.cell? ⟨gb101, 0, none⟩ = some (.int .i64 a0_0) := bc BK101.out 0
   have hcz50_1 : w49.cell? ⟨gb101, 1, none⟩ = some (.int .i64 a0_1) := bc BK101.out 1
   have hcz50_2 : w49.cell? ⟨gb101, 2, none⟩ = some (.slice A0_2 l0_2.length c0_2) := bc BK101.out 2
   have hfz50_0 := blk_frozen BK101.out 0
   have hfz50_1 := blk_frozen BK101.out 1
   have hfz50_2 := blk_frozen BK101.out 2
   try go_wp2_with (first | ((with_reducible refine gate_callee (f := 31) rfl ?_); refine goesL_ (some 24) rfl rfl Try.func31 (by kernel_rfl) rfl #[.agg #[.int .i64 a0_0, .int .i64 a0_1, .slice A0_2 l0_2.length c0_2]] rfl (by (try simp only [List.map_toArray, List.map_cons, List.map_nil]); first | done | rfl | (simp only [List.length_drop, List.length_take]; rfl)) ?_; (with_reducible refine (hatchwayref32_May.calls k a0_0 a0_1 _ _ l0_2 true _ ?side1 ?side2 A29.out).mono ?_); (case side1 => repeat (first | exact (Kd.C_below HR0_2.out HB.out) | (with_reducible refine Kd.C_alloc ?_ _) | (with_reducible refine Kd.C_drewN ?_ _) | (with_reducible refine Kd.C_drew ?_))); (case side2 => exact HC0_2.out); rintro e w51 ⟨rfl, hb⟩; refine ⟨_, rfl, ?_⟩; have n0_ := Aside0.mk (Kd.R_below (by (with_reducible repeat (first | apply Kd.R_alloc | apply Kd.R_drewN | apply Kd.R_drew)); exact HO108.out) hb); have n1_ := Aside0.mk (Kd.R_below (by (with_reducible repeat (first | apply Kd.R_alloc | apply Kd.R_drewN | apply Kd.R_drew)); exact HO115.out) hb); have n2_ := Aside0.mk (blk_below (g := gb101) (o := .cells #[.int .i64 a0_0, .int .i64 a0_1, .slice A0_2 l0_2.length c0_2] 39 (0, 0)) (by (with_reducible repeat (first | refine blk_drewN ?_ _ | refine blk_drew ?_ | refine blk_alloc ?_ _)); exact BK101.out) hb); have n3_ := Aside0.mk (below_step (by repeat (first | (with_reducible first | exact HB.out | apply below_alloc | apply pw_below_drewN | apply below_drew1 | refine below_set ?_ GE101.out) | exact HB.out)) hb); clear HO108; clear HO115; clear BK101; clear HB; have HO108 := n0_; have HO115 := n1_; have BK101 := n2_; have HB := n3_; clear n0_ n1_ n2_ n3_; (try clear hb); (try clear hb2); (try clear hk); (try clear hi)) | ((with_reducible refine gate_callee (f := 58) rfl ?_); refine goesL_ (some 34) rfl rfl Try.func58 (by kernel_rfl) rfl #[.string t109] rfl (by (try simp only [List.map_toArray, List.map_cons, List.map_nil]); first | done | rfl | (simp only [List.length_drop, List.length_take]; rfl)) ?_; (with_reducible refine (hello_Get.calls k t109 t119 t120 t121 t124 _ A31.out).mono ?_); rintro e w52 ⟨v122, rfl, ho0, hb⟩; refine ⟨_, rfl, ?_⟩; have n0_ := Aside0.mk (Kd.R_elder' (by (with_reducible repeat (first | apply Kd.R_alloc | apply Kd.R_drewN | apply Kd.R_drew)); exact HO108.out) (Kd.R_base ho0) hb); have n1_ := Aside0.mk (Kd.R_elder' (by (with_reducible repeat (first | apply Kd.R_alloc | apply Kd.R_drewN | apply Kd.R_drew)); exact HO115.out) (Kd.R_base ho0) hb); have n2_ := Aside0.mk (Kd.R_lower (Kd.R_new' (Kd.R_new' ho0 (Kd.R_lt (by (with_reducible repeat (first | apply Kd.R_alloc | apply Kd.R_drewN | apply Kd.R_drew)); exact HO108.out))) (Kd.R_lt (by (with_reducible repeat (first | apply Kd.R_alloc | apply Kd.R_drewN | apply Kd.R_drew)); exact HO115.out))) (below_size (by repeat (first | (with_reducible first | exact HB.out | apply below_alloc | apply pw_below_drewN | apply below_drew1 | refine below_set ?_ GE101.out) | exact HB.out)))); have n3_ := Aside0.mk (blk_below (g := gb101) (o := .cells #[.int .i64 a0_0, .int .i64 a0_1, .slice A0_2 l0_2.length c0_2] 39 (0, 0)) (by (with_reducible repeat (first | refine blk_drewN ?_ _ | refine blk_drew ?_ | refine blk_alloc ?_ _)); exact BK101.out) hb); have n4_ := Aside0.mk (below_step (by repeat (first | (with_reducible first | exact HB.out | apply below_alloc | apply pw_below_drewN | apply below_drew1 | refine below_set ?_ GE101.out) | exact HB.out)) hb); clear HO108; clear HO115; clear BK101; clear HB; have HO108 := n0_; have HO115 := n1_; have HO123 := n2_; have BK101 := n3_; have HB := n4_; clear n0_ n1_ n2_ n3_ n4_; (try clear hb); (try clear hb2); (try clear hk); (try clear hi); (try clear ho0)) | ((with_reducible refine gate_dst (N := 5) rfl ?_); refine box_event ?hg (N := 5) ?hd (cs := #[.int .i64 0, .int .i64 0, .slice none 0 0]) (t := 47) ?hr ?_; (case hd => rfl); (case hg => rfl); (case hr => first | (go_simp; done) | (go_simp; rfl)); intro gb125 hg w53 hbox hb; have n0_ := Aside0.mk (Kd.R_below (by (with_reducible repeat (first | apply Kd.R_alloc | apply Kd.R_drewN | apply Kd.R_drew)); exact HO108.out) hb); have n1_ := Aside0.mk (Kd.R_below (by (with_reducible repeat (first | apply Kd.R_alloc | apply Kd.R_drewN | apply Kd.R_drew)); exact HO115.out) hb); have n2_ := Aside0.mk (Kd.R_below (by (with_reducible repeat (first | apply Kd.R_alloc | apply Kd.R_drewN | apply Kd.R_drew)); exact HO123.out) hb); have n3_ := Aside0.mk (blk_below (g := gb101) (o := .cells #[.int .i64 a0_0, .int .i64 a0_1, .slice A0_2 l0_2.length c0_2] 39 (0, 0)) (by (with_reducible repeat (first | refine blk_drewN ?_ _ | refine blk_drew ?_ | refine blk_alloc ?_ _)); exact BK101.out) hb); have n4_ := Aside0.mk (below_step (by repeat (first | (with_reducible first | exact HB.out | apply below_alloc | apply pw_below_drewN | apply below_drew1 | refine below_set ?_ GE101.out) | exact HB.out)) hb); have n5_ := Aside0.mk (hbox); have n6_ := Aside0.mk ((by rw [hg]; exact (below_size (by repeat (first | (with_reducible first | exact HB.out | apply below_alloc | apply pw_below_drewN | apply below_drew1 | refine below_set ?_ GE101.out) | exact HB.out))) : w.heap.size ≤ gb125)); have n7_ := Aside0.mk ((by rw [hg]; exact (below_size (by repeat (first | (with_reducible first | exact HB.out | apply below_alloc | apply pw_below_drewN | apply below_drew1 | refine below_set ?_ GE101.out) | exact HB.out))) : w.heap.size ≤ gb125)); have n8_ := Aside0.mk ((by rw [hg]; exact Nat.ne_of_lt (blk_lt (g := gb101) (o := .cells #[.int .i64 a0_0, .int .i64 a0_1, .slice A0_2 l0_2.length c0_2] 39 (0, 0)) (by (with_reducible repeat (first | refine blk_drewN ?_ _ | refine blk_drew ?_ | refine blk_alloc ?_ _)); exact BK101.out)) : gb101 ≠ gb125)); have n9_ := Aside0.mk ((by rw [hg]; exact Nat.ne_of_gt (blk_lt (g := gb101) (o := .cells #[.int .i64 a0_0, .int .i64 a0_1, .slice A0_2 l0_2.length c0_2] 39 (0, 0)) (by (with_reducible repeat (first | refine blk_drewN ?_ _ | refine blk_drew ?_ | refine blk_alloc ?_ _)); exact BK101.out)) : gb125 ≠ gb101)); clear HO108; clear HO115; clear HO123; clear BK101; clear HB; have HO108 := n0_; have HO115 := n1_; have HO123 := n2_; have BK101 := n3_; have HB := n4_; have BK125 := n5_; have GW125 := n6_; have GE125 := n7_; have NB101_125 := n8_; have NB125_101 := n9_; clear n0_ n1_ n2_ n3_ n4_ n5_ n6_ n7_ n8_ n9_; clear hb hbox hg; have hnb54 := NB125_101.out; have hnc54 := NB101_125.out; have hcz55_0 : w53.cell? ⟨gb125, 0, none⟩ = some (.int .i64 0) := bc BK125.out 0; have hcz55_1 : w53.cell? ⟨gb125, 1, none⟩ = some (.int .i64 0) := bc BK125.out 1; have hcz55_2 : w53.cell? ⟨gb125, 2, none⟩ = some (.slice none 0 0) := bc BK125.out 2; have hfz55_0 := blk_frozen BK125.out 0; have hfz55_1 := blk_frozen BK125.out 1; have hfz55_2 := blk_frozen BK125.out 2; obtain ⟨Ao56, co56, eo56⟩ := Kd.R_slice HO123.out; subst eo56; have hcz57_0 : w53.cell? ⟨gb101, 0, none⟩ = some (.int .i64 a0_0) := bc BK101.out 0; have hcz57_1 : w53.cell? ⟨gb101, 1, none⟩ = some (.int .i64 a0_1) := bc BK101.out 1; have hcz57_2 : w53.cell? ⟨gb101, 2, none⟩ = some (.slice A0_2 l0_2.length c0_2) := bc BK101.out 2; have hfz57_0 := blk_frozen BK101.out 0; have hfz57_1 := blk_frozen BK101.out 1; have hfz57_2 := blk_frozen BK101.out 2) | (go_at_call 59; (with_reducible refine (hatchwayref32_Put.calls k a0_0 a0_1 _ _ l0_2 t126 _ ?side1 ?side2 A33.out).mono ?_); (case side1 => exact Kd.C_below HR0_2.out (by repeat (first | (with_reducible first | exact HB.out | apply below_alloc | apply pw_below_drewN | apply below_drew1 | refine below_set ?_ GE101.out | refine below_set ?_ GE125.out) | exact HB.out))); (case side2 => exact HC0_2.out); rintro e w58 ⟨rfl, hb⟩; have n0_ := Aside0.mk (Kd.R_below (by (with_reducible repeat (first | apply Kd.R_alloc | apply Kd.R_drewN | apply Kd.R_drew)); exact (Kd.R_mono (Kd.R_far (p := ⟨gb125, 2, none⟩) (Kd.R_far (p := ⟨gb125, 1, none⟩) (Kd.R_far (p := ⟨gb125, 0, none⟩) (Kd.R_types HO108.out BK125.out (by decide)) (fun _ hk => hk.2) (.int .i64 t119)) (fun _ hk => hk.2) (.int .i64 t120)) (fun _ hk => hk.2) (.slice Ao56 t121.length co56)) (fun _ h_ => h_.1))) hb); have n1_ := Aside0.mk (Kd.R_below (by (with_reducible repeat (first | apply Kd.R_alloc | apply Kd.R_drewN | apply Kd.R_drew)); exact (Kd.R_mono (Kd.R_far (p := ⟨gb125, 2, none⟩) (Kd.R_far (p := ⟨gb125, 1, none⟩) (Kd.R_far (p := ⟨gb125, 0, none⟩) (Kd.R_types HO115.out BK125.out (by decide)) (fun _ hk => hk.2) (.int .i64 t119)) (fun _ hk => hk.2) (.int .i64 t120)) (fun _ hk => hk.2) (.slice Ao56 t121.length co56)) (fun _ h_ => h_.1))) hb); have n2_ := Aside0.mk (Kd.R_below (by (with_reducible repeat (first | apply Kd.R_alloc | apply Kd.R_drewN | apply Kd.R_drew)); exact (Kd.R_mono (Kd.R_far (p := ⟨gb125, 2, none⟩) (Kd.R_far (p := ⟨gb125, 1, none⟩) (Kd.R_far (p := ⟨gb125, 0, none⟩) (Kd.R_types HO123.out BK125.out (by decide)) (fun _ hk => hk.2) (.int .i64 t119)) (fun _ hk => hk.2) (.int .i64 t120)) (fun _ hk => hk.2) (.slice Ao56 t121.length co56)) (fun _ h_ => h_.1))) hb); have n3_ := Aside0.mk (blk_below (g := gb101) (o := .cells #[.int .i64 a0_0, .int .i64 a0_1, .slice A0_2 l0_2.length c0_2] 39 (0, 0)) (by (with_reducible repeat (first | refine blk_drewN ?_ _ | refine blk_drew ?_ | refine blk_alloc ?_ _)); refine blk_far ?_ NB101_125.out _; (with_reducible repeat (first | refine blk_drewN ?_ _ | refine blk_drew ?_ | refine blk_alloc ?_ _)); refine blk_far ?_ NB101_125.out _; (with_reducible repeat (first | refine blk_drewN ?_ _ | refine blk_drew ?_ | refine blk_alloc ?_ _)); refine blk_far ?_ NB101_125.out _; (with_reducible repeat (first | refine blk_drewN ?_ _ | refine blk_drew ?_ | refine blk_alloc ?_ _)); exact BK101.out) hb); have n4_ := Aside0.mk (blk_below (g := gb125) (o := .cells #[.int .i64 t119, .int .i64 t120, .slice Ao56 t121.length co56] 47 (0, 0)) (by (with_reducible repeat (first | refine blk_drewN ?_ _ | refine blk_drew ?_ | refine blk_alloc ?_ _)); refine blk_put (cs := #[.int .i64 t119, .int .i64 t120, .slice none 0 0]) ?_ 2 _ rfl; (with_reducible repeat (first | refine blk_drewN ?_ _ | refine blk_drew ?_ | refine blk_alloc ?_ _)); refine blk_put (cs := #[.int .i64 t119, .int .i64 0, .slice none 0 0]) ?_ 1 _ rfl; (with_reducible repeat (first | refine blk_drewN ?_ _ | refine blk_drew ?_ | refine blk_alloc ?_ _)); refine blk_put (cs := #[.int .i64 0, .int .i64 0, .slice none 0 0]) ?_ 0 _ rfl; (with_reducible repeat (first | refine blk_drewN ?_ _ | refine blk_drew ?_ | refine blk_alloc ?_ _)); exact BK125.out) hb); have n5_ := Aside0.mk (below_step (by repeat (first | (with_reducible first | exact HB.out | apply below_alloc | apply pw_below_drewN | apply below_drew1 | refine below_set ?_ GE101.out | refine below_set ?_ GE125.out) | exact HB.out)) hb); clear HO108; clear HO115; clear HO123; clear BK101; clear BK125; clear HB; have HO108 := n0_; have HO115 := n1_; have HO123 := n2_; have BK101 := n3_; have BK125 := n4_; have HB := n5_; clear n0_ n1_ n2_ n3_ n4_ n5_; (try clear hb); (try clear hb2); (try clear hk); (try clear hi); have hcz59_0 : w58.cell? ⟨gb125, 0, none⟩ = some (.int .i64 t119) := bc BK125.out 0; have hcz59_1 : w58.cell? ⟨gb125, 1, none⟩ = some (.int .i64 t120) := bc BK125.out 1; have hcz59_2 : w58.cell? ⟨gb125, 2, none⟩ = some (.slice Ao56 t121.length co56) := bc BK125.out 2; have hfz59_0 := blk_frozen BK125.out 0; have hfz59_1 := blk_frozen BK125.out 1; have hfz59_2 := blk_frozen BK125.out 2; have hcz60_0 : w58.cell? ⟨gb101, 0, none⟩ = some (.int .i64 a0_0) := bc BK101.out 0; have hcz60_1 : w58.cell? ⟨gb101, 1, none⟩ = some (.int .i64 a0_1) := bc BK101.out 1; have hcz60_2 : w58.cell? ⟨gb101, 2, none⟩ = some (.slice A0_2 l0_2.length c0_2) := bc BK101.out 2; have hfz60_0 := blk_frozen BK101.out 0; have hfz60_1 := blk_frozen BK101.out 1; have hfz60_2 := blk_frozen BK101.out 2) | (go_at_call 60; (with_reducible refine (hatchwaylaw32_same.calls k t119 t120 _ _ t121 a0_0 a0_1 _ _ l0_2 t127 _ ?side1 ?side2 ?side3 ?side4 A36.out).mono ?_); (case side1 => repeat (first | exact (Kd.R_reads' HO123.out).2.2 | (with_reducible refine Kd.C_alloc ?_ _) | (with_reducible refine Kd.C_drewN ?_ _) | (with_reducible refine Kd.C_drew ?_))); (case side2 => exact (Kd.R_reads' HO123.out).2.1); (case side3 => repeat (first | exact (Kd.C_below HR0_2.out HB.out) | (with_reducible refine Kd.C_alloc ?_ _) | (with_reducible refine Kd.C_drewN ?_ _) | (with_reducible refine Kd.C_drew ?_))); (case side4 => exact HC0_2.out); rintro e w61 ⟨rfl, hb⟩; have n0_ := Aside0.mk (Kd.R_below (by (with_reducible repeat (first | apply Kd.R_alloc | apply Kd.R_drewN | apply Kd.R_drew)); exact HO108.out) hb); have n1_ := Aside0.mk (Kd.R_below (by (with_reducible repeat (first | apply Kd.R_alloc | apply Kd.R_drewN | apply Kd.R_drew)); exact HO115.out) hb); have n2_ := Aside0.mk (Kd.R_below (by (with_reducible repeat (first | apply Kd.R_alloc | apply Kd.R_drewN | apply Kd.R_drew)); exact HO123.out) hb); have n3_ := Aside0.mk (blk_below (g := gb101) (o := .cells #[.int .i64 a0_0, .int .i64 a0_1, .slice A0_2 l0_2.length c0_2] 39 (0, 0)) (by (with_reducible repeat (first | refine blk_drewN ?_ _ | refine blk_drew ?_ | refine blk_alloc ?_ _)); exact BK101.out) hb); have n4_ := Aside0.mk (blk_below (g := gb125) (o := .cells #[.int .i64 t119, .int .i64 t120, .slice Ao56 t121.length co56] 47 (0, 0)) (by (with_reducible repeat (first | refine blk_drewN ?_ _ | refine blk_drew ?_ | refine blk_alloc ?_ _)); exact BK125.out) hb); have n5_ := Aside0.mk (below_step (by repeat (first | (with_reducible first | exact HB.out | apply below_alloc | apply pw_below_drewN | apply below_drew1 | refine below_set ?_ GE101.out | refine below_set ?_ GE125.out) | exact HB.out)) hb); clear HO108; clear HO115; clear HO123; clear BK101; clear BK125; clear HB; have HO108 := n0_; have HO115 := n1_; have HO123 := n2_; have BK101 := n3_; have BK125 := n4_; have HB := n5_; clear n0_ n1_ n2_ n3_ n4_ n5_; (try clear hb); (try clear hb2); (try clear hk); (try clear hi)))
   go_ret
   exact ⟨by first | rfl | (simp [errW_none, errW_some] <;> rfl) | (simp [*, errW_none, errW_some] <;> rfl), by repeat (first | (with_reducible first | exact HB.out | apply below_alloc | apply pw_below_drewN | apply below_drew1 | refine below_set ?_ GE101.out | refine below_set ?_ GE125.out) | exact HB.out)⟩
  replace c30 := Bool.eq_false_iff.mpr c30
  subst c30
  have H1 : (if t110 = 1 then (some (t109.toList == ([] : List UInt8))) else (some false)) = some r := by rw [if_neg (show ¬ (false = true) by decide)] at H; exact H
  clear H
  have H := H1
  clear H1
  by_cases c126 : t110 = 1
  rotate_left
  ·rw [if_neg c126] at H
   exact absurd ((Option.some.inj H).trans ht_) (by decide)
  rw [if_pos c126] at H
  have c126b0 : (t110 == 1) = true := beq_iff_eq.mpr c126
  have c126b1 : (t110 != 1) = false := bne_eq_false_iff_eq.mpr c126
  clear c126
  obtain rfl := Option.some.inj H
  go_enter Try.func12, Try.ntmps12
  try go_wp2_with (first | ((with_reducible refine gate_dst (N := 1) rfl ?_); refine box_event ?hg (N := 1) ?hd (cs := #[.int .i64 a0_0, .int .i64 a0_1, .slice A0_2 l0_2.length c0_2]) (t := 39) ?hr ?_; (case hd => rfl); (case hg => rfl); (case hr => first | (go_simp; done) | (go_simp; rfl)); intro gb101 hg w127 hbox hb; have n0_ := Aside0.mk (below_step (by repeat (first | (with_reducible first | exact HB.out | apply below_alloc | apply pw_below_drewN | apply below_drew1) | exact HB.out)) hb); have n1_ := Aside0.mk (hbox); have n2_ := Aside0.mk ((by rw [hg]; exact (below_size (by repeat (first | (with_reducible first | exact HB.out | apply below_alloc | apply pw_below_drewN | apply below_drew1) | exact HB.out))) : w.heap.size ≤ gb101)); have n3_ := Aside0.mk ((by rw [hg]; exact (below_size (by repeat (first | (with_reducible first | exact HB.out | apply below_alloc | apply pw_below_drewN | apply below_drew1) | exact HB.out))) : w.heap.size ≤ gb101)); clear HB; have HB := n0_; have BK101 := n1_; have GW101 := n2_; have GE101 := n3_; clear n0_ n1_ n2_ n3_; clear hb hbox hg) | ((with_reducible refine gate_callee (f := 25) rfl ?_); refine goesL_ (some 7) rfl rfl Try.func25 (by kernel_rfl) rfl #[] rfl (by (try simp only [List.map_toArray, List.map_cons, List.map_nil]); first | done | rfl | (simp only [List.length_drop, List.length_take]; rfl)) ?_; (with_reducible refine (hatchwaylaw32_alive.calls k  true _ A2.out rfl).mono ?_); rintro e w128 ⟨rfl, hb⟩; refine ⟨_, rfl, ?_⟩; have n0_ := Aside0.mk (blk_below (g := gb101) (o := .cells #[.int .i64 a0_0, .int .i64 a0_1, .slice A0_2 l0_2.length c0_2] 39 (0, 0)) (by (with_reducible repeat (first | refine blk_drewN ?_ _ | refine blk_drew ?_ | refine blk_alloc ?_ _)); exact BK101.out) hb); have n1_ := Aside0.mk (below_step (by repeat (first | (with_reducible first | exact HB.out | apply below_alloc | apply pw_below_drewN | apply below_drew1 | refine below_set ?_ GE101.out) | exact HB.out)) hb); clear BK101; clear HB; have BK101 := n0_; have HB := n1_; clear n0_ n1_; (try clear hb); (try clear hb2); (try clear hk); (try clear hi); have hcz129_0 : w128.cell? ⟨gb101, 0, none⟩ = some (.int .i64 a0_0) := bc BK101.out 0; have hcz129_1 : w128.cell? ⟨gb101, 1, none⟩ = some (.int .i64 a0_1) := bc BK101.out 1; have hcz129_2 : w128.cell? ⟨gb101, 2, none⟩ = some (.slice A0_2 l0_2.length c0_2) := bc BK101.out 2; have hfz129_0 := blk_frozen BK101.out 0; have hfz129_1 := blk_frozen BK101.out 1; have hfz129_2 := blk_frozen BK101.out 2) | ((with_reducible refine gate_callee (f := 26) rfl ?_); refine goesL_ (some 10) rfl rfl Try.func26 (by kernel_rfl) rfl #[.agg #[.int .i64 a0_0, .int .i64 a0_1, .slice A0_2 l0_2.length c0_2]] rfl (by (try simp only [List.map_toArray, List.map_cons, List.map_nil]); first | done | rfl | (simp only [List.length_drop, List.length_take]; rfl)) ?_; (with_reducible refine (hatchwaylaw32_great.calls k a0_0 a0_1 _ _ l0_2 false _ ?side1 ?side2 A4.out).mono ?_); (case side1 => repeat (first | exact (Kd.C_below HR0_2.out HB.out) | (with_reducible refine Kd.C_alloc ?_ _) | (with_reducible refine Kd.C_drewN ?_ _) | (with_reducible refine Kd.C_drew ?_))); (case side2 => exact HC0_2.out); rintro e w130 ⟨rfl, hb⟩; refine ⟨_, rfl, ?_⟩; have n0_ := Aside0.mk (blk_below (g := gb101) (o := .cells #[.int .i64 a0_0, .int .i64 a0_1, .slice A0_2 l0_2.length c0_2] 39 (0, 0)) (by (with_reducible repeat (first | refine blk_drewN ?_ _ | refine blk_drew ?_ | refine blk_alloc ?_ _)); exact BK101.out) hb); have n1_ := Aside0.mk (below_step (by repeat (first | (with_reducible first | exact HB.out | apply below_alloc | apply pw_below_drewN | apply below_drew1 | refine below_set ?_ GE101.out) | exact HB.out)) hb); clear BK101; clear HB; have BK101 := n0_; have HB := n1_; clear n0_ n1_; (try clear hb); (try clear hb2); (try clear hk); (try clear hi); have hcz131_0 : w130.cell? ⟨gb101, 0, none⟩ = some (.int .i64 a0_0) := bc BK101.out 0; have hcz131_1 : w130.cell? ⟨gb101, 1, none⟩ = some (.int .i64 a0_1) := bc BK101.out 1; have hcz131_2 : w130.cell? ⟨gb101, 2, none⟩ = some (.slice A0_2 l0_2.length c0_2) := bc BK101.out 2; have hfz131_0 := blk_frozen BK101.out 0; have hfz131_1 := blk_frozen BK101.out 1; have hfz131_2 := blk_frozen BK101.out 2) | ((with_reducible refine gate_callee (f := 28) rfl ?_); refine goesL_ (some 13) rfl rfl Try.func28 (by kernel_rfl) rfl #[.agg #[.int .i64 a0_0, .int .i64 a0_1, .slice A0_2 l0_2.length c0_2]] rfl (by (try simp only [List.map_toArray, List.map_cons, List.map_nil]); first | done | rfl | (simp only [List.length_drop, List.length_take]; rfl)) ?_; (with_reducible refine (hatchwaylaw32_Of.calls k a0_0 a0_1 _ _ l0_2 t104 t105 t106 _ ?side1 ?side2 A10.out).mono ?_); (case side1 => repeat (first | exact (Kd.C_below HR0_2.out HB.out) | (with_reducible refine Kd.C_alloc ?_ _) | (with_reducible refine Kd.C_drewN ?_ _) | (with_reducible refine Kd.C_drew ?_))); (case side2 => exact HC0_2.out); rintro e w132 ⟨v107, rfl, ho0, hb⟩; refine ⟨_, rfl, ?_⟩; have n0_ := Aside0.mk (Kd.R_lower ho0 (below_size (by repeat (first | (with_reducible first | exact HB.out | apply below_alloc | apply pw_below_drewN | apply below_drew1 | refine below_set ?_ GE101.out) | exact HB.out)))); have n1_ := Aside0.mk (blk_below (g := gb101) (o := .cells #[.int .i64 a0_0, .int .i64 a0_1, .slice A0_2 l0_2.length c0_2] 39 (0, 0)) (by (with_reducible repeat (first | refine blk_drewN ?_ _ | refine blk_drew ?_ | refine blk_alloc ?_ _)); exact BK101.out) hb); have n2_ := Aside0.mk (below_step (by repeat (first | (with_reducible first | exact HB.out | apply below_alloc | apply pw_below_drewN | apply below_drew1 | refine below_set ?_ GE101.out) | exact HB.out)) hb); clear BK101; clear HB; have HO108 := n0_; have BK101 := n1_; have HB := n2_; clear n0_ n1_ n2_; (try clear hb); (try clear hb2); (try clear hk); (try clear hi); (try clear ho0); obtain ⟨Ao133, co133, eo133⟩ := Kd.R_slice HO108.out; subst eo133) | ((with_reducible refine gate_callee (f := 56) rfl ?_); refine goesL_ (some 14) rfl rfl Try.func56 (by kernel_rfl) rfl #[.agg #[.int .i64 t104, .int .i64 t105, .slice Ao133 t106.length co133]] rfl (by (try simp only [List.map_toArray, List.map_cons, List.map_nil]); first | done | rfl | (simp only [List.length_drop, List.length_take]; rfl)) ?_; (with_reducible refine (hello_Put.calls k t104 t105 _ _ t106 t109 t110 _ ?side1 ?side2 A11.out).mono ?_); (case side1 => repeat (first | exact (Kd.R_reads' HO108.out).2.2 | (with_reducible refine Kd.C_alloc ?_ _) | (with_reducible refine Kd.C_drewN ?_ _) | (with_reducible refine Kd.C_drew ?_))); (case side2 => exact (Kd.R_reads' HO108.out).2.1); rintro e w134 ⟨rfl, hb⟩; refine ⟨_, rfl, ?_⟩; have n0_ := Aside0.mk (Kd.R_below (by (with_reducible repeat (first | apply Kd.R_alloc | apply Kd.R_drewN | apply Kd.R_drew)); exact HO108.out) hb); have n1_ := Aside0.mk (blk_below (g := gb101) (o := .cells #[.int .i64 a0_0, .int .i64 a0_1, .slice A0_2 l0_2.length c0_2] 39 (0, 0)) (by (with_reducible repeat (first | refine blk_drewN ?_ _ | refine blk_drew ?_ | refine blk_alloc ?_ _)); exact BK101.out) hb); have n2_ := Aside0.mk (below_step (by repeat (first | (with_reducible first | exact HB.out | apply below_alloc | apply pw_below_drewN | apply below_drew1 | refine below_set ?_ GE101.out) | exact HB.out)) hb); clear HO108; clear BK101; clear HB; have HO108 := n0_; have BK101 := n1_; have HB := n2_; clear n0_ n1_ n2_; (try clear hb); (try clear hb2); (try clear hk); (try clear hi)))
  have n0_ := Aside0.mk (Kd.R_drew HO108.out)
  have n1_ := Aside0.mk (blk_drew BK101.out)
  have n2_ := Aside0.mk (below_drew1 HB.out)
  clear HO108
  clear BK101
  clear HB
  have HO108 := n0_
  have BK101 := n1_
  have HB := n2_
  clear n0_ n1_ n2_
  refine start_ (n := 6) (S := fun w' => w'.cell? ⟨gb101, 0, none⟩ = some (.int .i64 a0_0) ∧ w'.cell? ⟨gb101, 1, none⟩ = some (.int .i64 a0_1) ∧ w'.cell? ⟨gb101, 2, none⟩ = some (.slice A0_2 l0_2.length c0_2)) (ds := []) #[false, false, false, false, false, false] (by kernel_rfl) rfl rfl ⟨bc BK101.out 0, bc BK101.out 1, bc BK101.out 2⟩ (fun hHeld => ?_)
  generalize w134.drew = w135 at HO108 BK101 HB hHeld ⊢
  refine take_ (i := 0) (N := some 17) (v := ?_) (a' := ?_) #[true, false, false, false, false, false] rfl rfl (by kernel_rfl) (fun _ _ _ h => h) (Or.inl ⟨by rfl, ?_⟩) hHeld ?_ ?_
  rotate_left
  ·rintro w' ⟨s0, s1, s2⟩
   go_simp
   with_reducible rfl
  rotate_left
  ·simp only [Act.put, zu1, zu2, zu3, i64_w, i32_w]
   rfl
  refine take_ (i := 3) (N := some 20) (v := ?_) (a' := ?_) #[true, false, false, true, false, false] rfl rfl (by kernel_rfl) (fun _ _ _ h => h) (Or.inl ⟨by rfl, ?_⟩) hHeld ?_ ?_
  rotate_left
  ·rintro w' ⟨s0, s1, s2⟩
   go_simp
   with_reducible rfl
  rotate_left
  ·simp only [Act.put, zu1, zu2, zu3, i64_w, i32_w]
   rfl
  refine one_ (i := 1) (N := some 18) #[true, true, false, true, false, false] rfl rfl (by kernel_rfl) (by decide) (fun K hK => ?_)
  refine goes_ Try.func28 (by kernel_rfl) rfl #[.agg #[.int .i64 a0_0, .int .i64 a0_1, .slice A0_2 l0_2.length c0_2]] (by rfl) rfl rfl (by (try simp only [List.map_toArray, List.map_cons, List.map_nil]); first | done | rfl | (simp only [List.length_drop, List.length_take]; rfl)) ?_
  with_reducible refine (hatchwaylaw32_Of.calls k a0_0 a0_1 _ _ l0_2 t111 t112 t113 _ ?side1 ?side2 A12.out).mono ?_
  (case side1 => repeat (first | exact (Kd.C_below HR0_2.out HB.out) | (with_reducible refine Kd.C_alloc ?_ _) | (with_reducible refine Kd.C_drewN ?_ _) | (with_reducible refine Kd.C_drew ?_)))
  (case side2 => exact HC0_2.out)
  rintro e w136 ⟨v114, rfl, ho0, hb⟩
  refine ⟨_, rfl, ?_⟩
  have n0_ := Aside0.mk (Kd.R_elder' (by (with_reducible repeat (first | apply Kd.R_alloc | apply Kd.R_drewN | apply Kd.R_drew)); exact HO108.out) (Kd.R_base ho0) hb)
  have n1_ := Aside0.mk (Kd.R_lower (Kd.R_new' ho0 (Kd.R_lt (by (with_reducible repeat (first | apply Kd.R_alloc | apply Kd.R_drewN | apply Kd.R_drew)); exact HO108.out))) (below_size (by repeat (first | (with_reducible first | exact HB.out | apply below_alloc | apply pw_below_drewN | apply below_drew1 | refine below_set ?_ GE101.out) | exact HB.out))))
  have n2_ := Aside0.mk (blk_below (g := gb101) (o := .cells #[.int .i64 a0_0, .int .i64 a0_1, .slice A0_2 l0_2.length c0_2] 39 (0, 0)) (by (with_reducible repeat (first | refine blk_drewN ?_ _ | refine blk_drew ?_ | refine blk_alloc ?_ _)); exact BK101.out) hb)
  have n3_ := Aside0.mk (below_step (by repeat (first | (with_reducible first | exact HB.out | apply below_alloc | apply pw_below_drewN | apply below_drew1 | refine below_set ?_ GE101.out) | exact HB.out)) hb)
  clear HO108
  clear BK101
  clear HB
  have HO108 := n0_
  have HO115 := n1_
  have BK101 := n2_
  have HB := n3_
  clear n0_ n1_ n2_ n3_
  (try clear hb)
  (try clear hb2)
  (try clear hk)
  (try clear hi)
  (try clear ho0)
  obtain ⟨Ao137, co137, eo137⟩ := Kd.R_slice HO115.out
  (first | subst eo137 | (injection eo137 with f1_ f2_ f3_; have f4_ := f1_.symm; have f5_ := f3_.symm; clear f1_ f2_ f3_; subst f4_; subst f5_))
  refine hK.out _ _ ⟨bc BK101.out 0, bc BK101.out 1, bc BK101.out 2⟩ (fun hHeld => ?_)
  clear hK K
  refine norm_ (a' := ?_) ?_ ?_
  rotate_left
  ·show Act.put _ (some 18) _ = _
   simp only [Act.put, zu1, zu2, zu3, i64_w, i32_w]
   rfl
  refine one_ (i := 2) (N := some 19) #[true, true, true, true, false, false] rfl rfl (by kernel_rfl) (by decide) (fun K hK => ?_)
  refine goes_ Try.func57 (by kernel_rfl) rfl #[.agg #[.int .i64 t111, .int .i64 t112, .slice Ao137 t113.length co137]] (by rfl) rfl rfl (by (try simp only [List.map_toArray, List.map_cons, List.map_nil]); first | done | rfl | (simp only [List.length_drop, List.length_take]; rfl)) ?_
  with_reducible refine (hello_May.calls k t111 t112 _ _ t113 t116 _ ?side1 ?side2 A13.out).mono ?_
  (case side1 => repeat (first | exact (Kd.R_reads' HO115.out).2.2 | (with_reducible refine Kd.C_alloc ?_ _) | (with_reducible refine Kd.C_drewN ?_ _) | (with_reducible refine Kd.C_drew ?_)))
  (case side2 => exact (Kd.R_reads' HO115.out).2.1)
  rintro e w138 ⟨rfl, hb⟩
  refine ⟨_, rfl, ?_⟩
  have n0_ := Aside0.mk (Kd.R_below (by (with_reducible repeat (first | apply Kd.R_alloc | apply Kd.R_drewN | apply Kd.R_drew)); exact HO108.out) hb)
  have n1_ := Aside0.mk (Kd.R_below (by (with_reducible repeat (first | apply Kd.R_alloc | apply Kd.R_drewN | apply Kd.R_drew)); exact HO115.out) hb)
  have n2_ := Aside0.mk (blk_below (g := gb101) (o := .cells #[.int .i64 a0_0, .int .i64 a0_1, .slice A0_2 l0_2.length c0_2] 39 (0, 0)) (by (with_reducible repeat (first | refine blk_drewN ?_ _ | refine blk_drew ?_ | refine blk_alloc ?_ _)); exact BK101.out) hb)
  have n3_ := Aside0.mk (below_step (by repeat (first | (with_reducible first | exact HB.out | apply below_alloc | apply pw_below_drewN | apply below_drew1 | refine below_set ?_ GE101.out) | exact HB.out)) hb)
  clear HO108
  clear HO115
  clear BK101
  clear HB
  have HO108 := n0_
  have HO115 := n1_
  have BK101 := n2_
  have HB := n3_
  clear n0_ n1_ n2_ n3_
  (try clear hb)
  (try clear hb2)
  (try clear hk)
  (try clear hi)
  refine hK.out _ _ ⟨bc BK101.out 0, bc BK101.out 1, bc BK101.out 2⟩ (fun hHeld => ?_)
  clear hK K
  refine norm_ (a' := ?_) ?_ ?_
  rotate_left
  ·show Act.put _ (some 19) _ = _
   simp only [Act.put, zu1, zu2, zu3, i64_w, i32_w]
   rfl
  refine one_ (i := 4) (N := some 21) #[true, true, true, true, true, false] rfl rfl (by kernel_rfl) (by decide) (fun K hK => ?_)
  refine goes_ Try.func31 (by kernel_rfl) rfl #[.agg #[.int .i64 a0_0, .int .i64 a0_1, .slice A0_2 l0_2.length c0_2]] (by rfl) rfl rfl (by (try simp only [List.map_toArray, List.map_cons, List.map_nil]); first | done | rfl | (simp only [List.length_drop, List.length_take]; rfl)) ?_
  with_reducible refine (hatchwayref32_May.calls k a0_0 a0_1 _ _ l0_2 t117 _ ?side1 ?side2 A14.out).mono ?_
  (case side1 => repeat (first | exact (Kd.C_below HR0_2.out HB.out) | (with_reducible refine Kd.C_alloc ?_ _) | (with_reducible refine Kd.C_drewN ?_ _) | (with_reducible refine Kd.C_drew ?_)))
  (case side2 => exact HC0_2.out)
  rintro e w139 ⟨rfl, hb⟩
  refine ⟨_, rfl, ?_⟩
  have n0_ := Aside0.mk (Kd.R_below (by (with_reducible repeat (first | apply Kd.R_alloc | apply Kd.R_drewN | apply Kd.R_drew)); exact HO108.out) hb)
  have n1_ := Aside0.mk (Kd.R_below (by (with_reducible repeat (first | apply Kd.R_alloc | apply Kd.R_drewN | apply Kd.R_drew)); exact HO115.out) hb)
  have n2_ := Aside0.mk (blk_below (g := gb101) (o := .cells #[.int .i64 a0_0, .int .i64 a0_1, .slice A0_2 l0_2.length c0_2] 39 (0, 0)) (by (with_reducible repeat (first | refine blk_drewN ?_ _ | refine blk_drew ?_ | refine blk_alloc ?_ _)); exact BK101.out) hb)
  have n3_ := Aside0.mk (below_step (by repeat (first | (with_reducible first | exact HB.out | apply below_alloc | apply pw_below_drewN | apply below_drew1 | refine below_set ?_ GE101.out) | exact HB.out)) hb)
  clear HO108
  clear HO115
  clear BK101
  clear HB
  have HO108 := n0_
  have HO115 := n1_
  have BK101 := n2_
  have HB := n3_
  clear n0_ n1_ n2_ n3_
  (try clear hb)
  (try clear hb2)
  (try clear hk)
  (try clear hi)
  refine hK.out _ _ ⟨bc BK101.out 0, bc BK101.out 1, bc BK101.out 2⟩ (fun hHeld => ?_)
  clear hK K
  refine norm_ (a' := ?_) ?_ ?_
  rotate_left
  ·show Act.put _ (some 21) _ = _
   simp only [Act.put, zu1, zu2, zu3, i64_w, i32_w]
   rfl
  refine pure_ (i := 5) (N := some 22) (v := ?_) (a' := ?_) #[true, true, true, true, true, true] rfl rfl (by kernel_rfl) (fun _ _ _ h => h) (Or.inl ⟨by rfl, ?_⟩) ?_ ?_
  rotate_left
  ·intro w'
   go_simp
   with_reducible rfl
  rotate_left
  ·simp only [Act.put, zu1, zu2, zu3, i64_w, i32_w]
   rfl
  refine done_ (by kernel_rfl) ?_
  have hcz140_0 : w139.cell? ⟨gb101, 0, none⟩ = some (.int .i64 a0_0) := bc BK101.out 0
  have hcz140_1 : w139.cell? ⟨gb101, 1, none⟩ = some (.int .i64 a0_1) := bc BK101.out 1
  have hcz140_2 : w139.cell? ⟨gb101, 2, none⟩ = some (.slice A0_2 l0_2.length c0_2) := bc BK101.out 2
  have hfz140_0 := blk_frozen BK101.out 0
  have hfz140_1 := blk_frozen BK101.out 1
  have hfz140_2 := blk_frozen BK101.out 2
  try go_wp2_with (first | ((with_reducible refine gate_callee (f := 31) rfl ?_); refine goesL_ (some 24) rfl rfl Try.func31 (by kernel_rfl) rfl #[.agg #[.int .i64 a0_0, .int .i64 a0_1, .slice A0_2 l0_2.length c0_2]] rfl (by (try simp only [List.map_toArray, List.map_cons, List.map_nil]); first | done | rfl | (simp only [List.length_drop, List.length_take]; rfl)) ?_; (with_reducible refine (hatchwayref32_May.calls k a0_0 a0_1 _ _ l0_2 false _ ?side1 ?side2 A29.out).mono ?_); (case side1 => repeat (first | exact (Kd.C_below HR0_2.out HB.out) | (with_reducible refine Kd.C_alloc ?_ _) | (with_reducible refine Kd.C_drewN ?_ _) | (with_reducible refine Kd.C_drew ?_))); (case side2 => exact HC0_2.out); rintro e w141 ⟨rfl, hb⟩; refine ⟨_, rfl, ?_⟩; have n0_ := Aside0.mk (Kd.R_below (by (with_reducible repeat (first | apply Kd.R_alloc | apply Kd.R_drewN | apply Kd.R_drew)); exact HO108.out) hb); have n1_ := Aside0.mk (Kd.R_below (by (with_reducible repeat (first | apply Kd.R_alloc | apply Kd.R_drewN | apply Kd.R_drew)); exact HO115.out) hb); have n2_ := Aside0.mk (blk_below (g := gb101) (o := .cells #[.int .i64 a0_0, .int .i64 a0_1, .slice A0_2 l0_2.length c0_2] 39 (0, 0)) (by (with_reducible repeat (first | refine blk_drewN ?_ _ | refine blk_drew ?_ | refine blk_alloc ?_ _)); exact BK101.out) hb); have n3_ := Aside0.mk (below_step (by repeat (first | (with_reducible first | exact HB.out | apply below_alloc | apply pw_below_drewN | apply below_drew1 | refine below_set ?_ GE101.out) | exact HB.out)) hb); clear HO108; clear HO115; clear BK101; clear HB; have HO108 := n0_; have HO115 := n1_; have BK101 := n2_; have HB := n3_; clear n0_ n1_ n2_ n3_; (try clear hb); (try clear hb2); (try clear hk); (try clear hi)))
  go_ret
  exact ⟨by first | rfl | (simp [errW_none, errW_some] <;> rfl) | (simp [*, errW_none, errW_some] <;> rfl), by repeat (first | (with_reducible first | exact HB.out | apply below_alloc | apply pw_below_drewN | apply below_drew1 | refine below_set ?_ GE101.out) | exact HB.out)⟩
 replace c3 := Bool.eq_false_iff.mpr c3
 subst c3
 have H1 : (some false) = some r := by rw [if_neg (show ¬ (false = true) by decide)] at H; exact H
 clear H
 have H := H1
 clear H1
 exact absurd ((Option.some.inj H).trans ht_) (by decide)
end Go.Proofs.Yteoibgpkimlahaa.P
end
section
namespace Go.Proofs.Yteoibgpkimlahaa.P
open Go.RowKit Go.Proofs.YteoibgpkimlahaaW.PrintWords Go.Proofs.YteoibgpkimlahaaW.PrintLast Go.Proofs.YteoibgpkimlahaaW.PrintMore
def numI (n : Int) : S62 := ⟨strOfNums (digs n), false, []⟩
def capIt (c : S104) : S62 := ⟨⟨#[]⟩, true, [⟨c.f0, false, []⟩, numI c.f1]⟩
def helloI (a0 a1 : Int) (l : List S104) : S62 := ⟨⟨#[]⟩, true, [numI a0, numI a1, ⟨⟨#[]⟩, true, l.map capIt⟩]⟩
def smallP (a0 a1 : Int) (l : List S104) : Prop := (1 ≤ a0 ∧ a0 ≤ a1 ∧ a1 ≤ 65535 ∧ l.length ≤ 16) ∧ ∀ c ∈ l, c.f0.size ≤ 12 ∧ 1 ≤ c.f1 ∧ c.f1 ≤ 255
theorem mayP_small {a0 a1 : Int} {l : List S58} (h : mayP a0 a1 l) : smallP a0 a1 (l.map conv) := by
 refine ⟨by rw [List.length_map]; exact h.1, fun c hc => ?_⟩
 obtain ⟨d, hd, rfl⟩ := List.mem_map.1 hc
 obtain ⟨j, hj, rfl⟩ := List.mem_iff_getElem.1 hd
 obtain ⟨h1, h2, h3, -⟩ := h.2 j hj
 rw [rd58_get l j hj] at h1 h2 h3
 unfold nameOK at h1
 rw [Bool.and_eq_true, decide_eq_true_eq] at h1
 exact ⟨h1.1.2, h2, h3⟩
theorem sz_small {n : Int} (h0 : 0 ≤ n) (h : n ≤ 65535) : sz n ≤ 2 := (sz_le 2 n h0).2 (by omega)
theorem cnt_num (n : Int) : cnt (numI n) = 1 := by unfold numI; rw [cnt_eq, cnts]
theorem dep_num (n : Int) : dep (numI n) = 1 := by unfold numI; rw [dep_eq, deps]
theorem tot_num {n : Int} (h0 : 0 ≤ n) (h : n ≤ 65535) : tot (numI n) ≤ 2 := by unfold numI; rw [tot_eq, tots, strOfNums_size, digs_length]; have := sz_small h0 h; omega
theorem rgt_num (n : Int) : rgt (numI n) = true := by unfold numI; rw [rgt_eq, rgts]; rfl
theorem cnts_caps : ∀ l : List S104, cnts (l.map capIt) = 3 * l.length
 | [] => by rw [List.map_nil, cnts]; rfl
 | c :: l => by
  rw [List.map_cons, cnts_cons, cnts_caps l]
  unfold capIt
  rw [cnt_eq, cnts_cons, cnts_cons, cnt_num, cnt_eq, cnts, List.length_cons]
  omega
theorem deps_caps : ∀ l : List S104, deps (l.map capIt) ≤ 2
 | [] => by rw [List.map_nil, deps]; omega
 | c :: l => by
  have := deps_caps l
  rw [List.map_cons, deps_cons]
  unfold capIt at this ⊢
  rw [dep_eq, deps_cons, deps_cons, dep_num, dep_eq, deps]
  omega
theorem tots_caps : ∀ l : List S104, (∀ c ∈ l, c.f0.size ≤ 12 ∧ 1 ≤ c.f1 ∧ c.f1 ≤ 255) → tots (l.map capIt) ≤ 14 * l.length
 | [], _ => by rw [List.map_nil, tots]; omega
 | c :: l, h => by
  have h1 := tots_caps l (fun d hd => h d (List.mem_cons_of_mem _ hd))
  have h2 := h c (by simp)
  rw [List.map_cons, tots_cons]
  unfold capIt at h1 ⊢
  rw [tot_eq, tots_cons, tots_cons, tot_eq, tots, List.length_cons]
  have h3 := tot_num (n := c.f1) (by omega) (by omega)
  have h4 : (⟨#[]⟩ : ByteArray).size = 0 := rfl
  rw [h4]
  omega
theorem rgts_caps : ∀ l : List S104, rgts (l.map capIt) = true
 | [] => by rw [List.map_nil, rgts]
 | c :: l => by
  rw [List.map_cons, rgts_cons, rgts_caps l]
  unfold capIt
  rw [rgt_eq, rgts_cons, rgts_cons, rgt_num, rgt_eq, rgts]
  simp [ByteArray.toList_eq]
theorem helloI_ok {a0 a1 : Int} {l : List S104} (h : smallP a0 a1 l) : rgt (helloI a0 a1 l) = true ∧ dep (helloI a0 a1 l) ≤ 16 ∧ cnt (helloI a0 a1 l) ≤ 1024 ∧ tot (helloI a0 a1 l) ≤ 6000 := by
 obtain ⟨⟨h0, h1, h2, h3⟩, h4⟩ := h
 unfold helloI
 refine ⟨?_, ?_, ?_, ?_⟩
 ·rw [rgt_eq, rgts_cons, rgts_cons, rgts_cons, rgt_num, rgt_num, rgt_eq, rgts_caps, rgts]
  simp [ByteArray.toList_eq]
 ·rw [dep_eq, deps_cons, deps_cons, deps_cons, dep_num, dep_num, dep_eq, deps]
  have := deps_caps l
  omega
 ·rw [cnt_eq, cnts_cons, cnts_cons, cnts_cons, cnt_num, cnt_num, cnt_eq, cnts_caps, cnts]
  omega
 ·rw [tot_eq, tots_cons, tots_cons, tots_cons, tot_eq, tots]
  have e1 := tot_num (n := a0) (by omega) (by omega)
  have e2 := tot_num (n := a1) (by omega) (by omega)
  have e3 := tots_caps l h4
  have e4 : (⟨#[]⟩ : ByteArray).size = 0 := rfl
  rw [e4]
  omega
theorem helloI_may {a0 a1 : Int} {l : List S104} (h : smallP a0 a1 l) : mayI (helloI a0 a1 l) = true := by
 obtain ⟨h1, h2, h3, -⟩ := helloI_ok h
 unfold mayI
 rw [h1, decide_eq_true h2, decide_eq_true h3]
 rfl
theorem hnum_is {n : Int} (h0 : 0 ≤ n) (h : n ≤ 65535) : Ev (fun k => hello_number.f k n) ((numI n).f0, (numI n).f1, (numI n).f2) := by
 unfold hello_number.f
 rw [u64_small h0 (by omega)]
 have h1 : Ev (fun k => typed_Number.f k n) ((numI n).f0, (numI n).f1, (numI n).f2) := by
  unfold typed_Number.f
  exact Ev.bind (fLeast_is n h0 (by omega)) (Ev.now _)
 exact Ev.bind h1 (Ev.now _)
theorem rnum_is {n : Int} (h0 : 0 ≤ n) (h : n ≤ 65535) : Ev (fun k => hatchwayref32_number.f k n) ((numI n).f0, (numI n).f1, (numI n).f2) := by
 unfold hatchwayref32_number.f
 rw [u64_small h0 (by omega)]
 exact Ev.bind (rLeast_is n h0 (by omega)) (Ev.now _)
theorem itemList_is (l : List S62) (h : l.length < 1000000) : item_List.f l = some (⟨#[]⟩, true, l) := by
 unfold item_List.f
 rw [if_pos (by simp only [List.length_nil]; omega)]
 rfl
theorem helloPut_loop (a0 a1 : Int) (L l : List S104) (h : smallP a0 a1 l) : ∀ m i : Nat, i + m = l.length →
  Ev (fun k => hello_Put.l0 k l (l.length : Int) (i : Int) a0 a1 L ⟨#[]⟩ true ((l.take i).map capIt)) (strOfNums (putL (helloI a0 a1 l)), 0) := by
 have hs := h
 obtain ⟨⟨h0, h1, h2, h3⟩, h4⟩ := h
 intro m
 induction m with
 | zero =>
  intro i hi
  have e : l.take i = l := List.take_of_length_le (by omega)
  rw [e]
  refine Ev.step (f := fun k => (hello_number.f k a0).bind fun bt127 => ((hello_number.f k a1).bind fun bt132 => ((item_List.f (([(⟨bt127.1, bt127.2.1, bt127.2.2⟩ : S62), (⟨bt132.1, bt132.2.1, bt132.2.2⟩ : S62), (⟨⟨#[]⟩, true, l.map capIt⟩ : S62)] : List (S62)))).bind fun bt140 => ((rlp_Put.f bt140.1 bt140.2.1 bt140.2.2).bind fun bt145 => (some (bt145.1, bt145.2)))))) (fun k => by rw [hello_Put.l0, if_neg (by omega)]) ?_
  refine Ev.bind (hnum_is (by omega) (by omega)) (Ev.bind (hnum_is (by omega) (by omega)) ?_)
  rw [itemList_is _ (by simp)]
  obtain ⟨-, -, k3, k4⟩ := helloI_ok hs
  have hp := rlpPut_may (helloI a0 a1 l) (by omega) (by omega) (helloI_may hs)
  have hp2 : rlp_Put.f ⟨#[]⟩ true [numI a0, numI a1, ⟨⟨#[]⟩, true, l.map capIt⟩] = some (strOfNums (putL (helloI a0 a1 l)), 0) := hp
  refine Ev.congr (f := fun _ => some (strOfNums (putL (helloI a0 a1 l)), 0)) (fun k => ?_) (Ev.now _)
  show (rlp_Put.f ⟨#[]⟩ true [numI a0, numI a1, ⟨⟨#[]⟩, true, l.map capIt⟩]).bind _ = _
  rw [hp2]
  rfl
 | succ m ih =>
  intro i hi
  have e : l.take (i + 1) = l.take i ++ [l[i]] := by rw [List.take_add_one, List.getElem?_eq_getElem (by omega)]; rfl
  obtain ⟨c1, c2, c3⟩ := h4 l[i] (List.getElem_mem _)
  refine Ev.step (f := fun k => (item_Text.f ((rd_T104 l (i : Int)).f0)).bind fun bt106 => ((hello_number.f k ((rd_T104 l (i : Int)).f1)).bind fun bt111 => ((item_List.f (([(⟨bt106.1, bt106.2.1, bt106.2.2⟩ : S62), (⟨bt111.1, bt111.2.1, bt111.2.2⟩ : S62)] : List (S62)))).bind fun bt119 => (hello_Put.l0 k l (l.length : Int) (wrap64 ((i : Int) + 1)) a0 a1 L ⟨#[]⟩ true ((l.take i).map capIt ++ [(⟨bt119.1, bt119.2.1, bt119.2.2⟩ : S62)])))))
   (fun k => by rw [hello_Put.l0, if_pos (by omega), if_pos (by omega), if_pos (by omega)]; congr 1; funext x; congr 1; funext y; congr 1; funext z; rw [if_pos (by rw [List.length_map, List.length_take]; omega)]) ?_
  rw [rd104_get l i (by omega)]
  refine Ev.bind (Ev.now (l[i].f0, false, [])) (Ev.bind (hnum_is (by omega) (by omega)) ?_)
  rw [itemList_is _ (by simp)]
  refine Ev.bind (Ev.now _) ?_
  rw [wr1 i (by omega)]
  have := ih (i + 1) (by omega)
  rw [e, List.map_append] at this
  exact this
theorem helloPut_is (a0 a1 : Int) (l : List S58) (hl : l.length ≤ 40) (b : Bool) (hb : b = true ↔ mayP a0 a1 l) :
  Ev (fun k => hello_Put.f k a0 a1 (l.map conv)) (if b = true then (strOfNums (putL (helloI a0 a1 (l.map conv))), 0) else (⟨#[]⟩, 1)) := by
 unfold hello_Put.f
 refine Ev.bind (helloMay_is a0 a1 l hl b hb) ?_
 cases b with
 | false => exact Ev.congr (fun k => if_neg (by simp)) (Ev.now _)
 | true => exact Ev.congr (fun k => if_pos rfl) (helloPut_loop a0 a1 (l.map conv) (l.map conv) (mayP_small (hb.1 rfl)) (l.map conv).length 0 (by omega))
theorem refPut_is (a0 a1 : Int) (l : List S58) (hm : mayP a0 a1 l) : Ev (fun k => hatchwayref32_Put.f k a0 a1 l) (strOfNums (putL (helloI a0 a1 (l.map conv)))) := by
 have hs := mayP_small hm
 obtain ⟨⟨h0, h1, h2, h3⟩, h4⟩ := hs
 have h3' : l.length ≤ 16 := by simpa using h3
 have loop : ∀ m i : Nat, i + m = l.length → Ev (fun k => hatchwayref32_Put.l0 k (i : Int) a0 a1 l ⟨#[]⟩ true (((l.take i).map conv).map capIt)) (strOfNums (putL (helloI a0 a1 (l.map conv)))) := by
  intro m
  induction m with
  | zero =>
   intro i hi
   have e : l.take i = l := List.take_of_length_le (by omega)
   rw [e]
   refine Ev.step (f := fun k => (hatchwayref32_number.f k a0).bind fun bt116 => ((hatchwayref32_number.f k a1).bind fun bt121 => ((hatchwayref09_Put.f k (⟨#[]⟩ : ByteArray) true (([(⟨bt116.1, bt116.2.1, bt116.2.2⟩ : S62), (⟨bt121.1, bt121.2.1, bt121.2.2⟩ : S62), (⟨⟨#[]⟩, true, (l.map conv).map capIt⟩ : S62)] : List (S62)))).bind fun t129 => (some t129)))) (fun k => by rw [hatchwayref32_Put.l0, if_neg (by omega)]) ?_
   refine Ev.bind (rnum_is (by omega) (by omega)) (Ev.bind (rnum_is (by omega) (by omega)) ?_)
   obtain ⟨-, -, k3, k4⟩ := helloI_ok (mayP_small hm)
   exact Ev.bind (put_ev (helloI a0 a1 (l.map conv)) (by omega) k4) (Ev.now _)
  | succ m ih =>
   intro i hi
   have e : l.take (i + 1) = l.take i ++ [l[i]] := by rw [List.take_add_one, List.getElem?_eq_getElem (by omega)]; rfl
   obtain ⟨c1, c2, c3⟩ := h4 (conv l[i]) (List.mem_map_of_mem (List.getElem_mem _))
   refine Ev.step (f := fun k => (hatchwayref32_number.f k ((rd_T58 l (i : Int)).f1)).bind fun bt105 => (hatchwayref32_Put.l0 k (wrap64 ((i : Int) + 1)) a0 a1 l ⟨#[]⟩ true (((l.take i).map conv).map capIt ++ [(⟨(⟨#[]⟩ : ByteArray), true, (([(⟨(rd_T58 l (i : Int)).f0, false, ([] : List (S62))⟩ : S62), (⟨bt105.1, bt105.2.1, bt105.2.2⟩ : S62)] : List (S62)))⟩ : S62)])))
    (fun k => by rw [hatchwayref32_Put.l0, if_pos (by omega), if_pos (by omega)]; congr 1; funext x; rw [if_pos (by rw [List.length_map, List.length_map, List.length_take]; omega)]) ?_
   rw [rd58_get l i (by omega)]
   refine Ev.bind (rnum_is (n := l[i].f1) (by have : (conv l[i]).f1 = l[i].f1 := rfl; omega) (by have : (conv l[i]).f1 = l[i].f1 := rfl; omega)) ?_
   rw [wr1 i (by omega)]
   have := ih (i + 1) (by omega)
   rw [e, List.map_append, List.map_append] at this
   exact this
 unfold hatchwayref32_Put.f
 exact loop l.length 0 (by omega)
end Go.Proofs.Yteoibgpkimlahaa.P
end
section
namespace Go.Proofs.Yteoibgpkimlahaa.P
open Go.RowKit Go.Proofs.YteoibgpkimlahaaW.PrintWords Go.Proofs.YteoibgpkimlahaaW.PrintLast Go.Proofs.YteoibgpkimlahaaW.PrintMore
theorem rdNum_is (b : Bool) {n : Int} (h0 : 0 ≤ n) (h : n ≤ 65535) : hello_reader_number.f b (numI n).f0 (numI n).f1 (numI n).f2 = some (n, b) := by
 unfold hello_reader_number.f typed_Of.f numI
 rw [if_neg (by simp), getLeast_dg n h0 (by omega)]
 simp only [Option.bind_some]
 rw [if_pos trivial, if_neg (by omega), i64_small h0 (by omega)]
theorem rdList_is (b : Bool) (t : ByteArray) (l : List S62) (n : Int) (h : n = l.length ∨ n < 0) : hello_reader_list.f b t true l n = some (l, b) := by
 unfold hello_reader_list.f
 rw [if_pos rfl]
 rcases h with rfl | h
 ·rw [if_pos (by omega), if_pos rfl]
 ·rw [if_neg (by omega)]
theorem hGetLoop_caps : ∀ (l acc : List S104), acc.length + l.length < 1000000 → (∀ c ∈ l, c.f0.size ≤ 12 ∧ 1 ≤ c.f1 ∧ c.f1 ≤ 255) → hGetLoop (l.map capIt) false acc = some (acc ++ l, false)
 | [], acc, _, _ => by rw [List.map_nil, hGetLoop, List.append_nil]
 | c :: l, acc, h, hc => by
  have h1 := hc c (by simp)
  rw [List.length_cons] at h
  rw [List.map_cons, hGetLoop, if_pos (by omega)]
  have e1 : hello_reader_list.f false (capIt c).f0 (capIt c).f1 (capIt c).f2 2 = some ([⟨c.f0, false, []⟩, numI c.f1], false) := rdList_is _ _ _ _ (.inl rfl)
  have e2 : hello_reader_text.f false (rd_T62 [⟨c.f0, false, []⟩, numI c.f1] 0).f0 (rd_T62 [⟨c.f0, false, []⟩, numI c.f1] 0).f1 (rd_T62 [⟨c.f0, false, []⟩, numI c.f1] 0).f2 = some (c.f0, false) := rfl
  have e3 : hello_reader_number.f false (rd_T62 [⟨c.f0, false, []⟩, numI c.f1] 1).f0 (rd_T62 [⟨c.f0, false, []⟩, numI c.f1] 1).f1 (rd_T62 [⟨c.f0, false, []⟩, numI c.f1] 1).f2 = some (c.f1, false) := rdNum_is false (by omega) (by omega)
  rw [e1]
  simp only [Option.bind_some]
  rw [e2]
  simp only [Option.bind_some]
  rw [e3]
  simp only [Option.bind_some]
  have e4 : (⟨c.f0, c.f1⟩ : S104) = c := by cases c; rfl
  rw [e4, hGetLoop_caps l (acc ++ [c]) (by rw [List.length_append, List.length_singleton]; omega) (fun d hd => hc d (List.mem_cons_of_mem _ hd)), List.append_assoc]
  rfl
theorem helloGet_put (a0 a1 : Int) (l : List S58) (hm : mayP a0 a1 l) : Ev (fun k => hello_Get.f k (strOfNums (putL (helloI a0 a1 (l.map conv))))) (a0, a1, l.map conv, 0) := by
 have hs := mayP_small hm
 obtain ⟨k1, k2, k3, k4⟩ := helloI_ok hs
 have hroom := putL_room _ (show cnt (helloI a0 a1 (l.map conv)) ≤ 1200 by omega) k4
 have hsz : (strOfNums (putL (helloI a0 a1 (l.map conv)))).size ≤ 1099511627776 := by rw [strOfNums_size]; omega
 have hbs := bytesOf_put _ (show cnt (helloI a0 a1 (l.map conv)) ≤ 1200 by omega) k4
 have g3 := get_is hsz (next_whole (r := []) (depth := 16) (items := 1024) k1 (by rw [List.append_nil]; exact hbs) hsz (by omega) k2 (by omega) k3)
 rw [if_pos rfl, if_neg (by rw [strOfNums_size]; omega)] at g3
 obtain ⟨⟨h0, h1, h2, h3⟩, h4⟩ := hs
 have h3' : l.length ≤ 16 := by simpa using h3
 unfold hello_Get.f
 rw [g3]
 simp only [Option.bind_some]
 have e1 : hello_reader_list.f ((0 : Int) != 0) (helloI a0 a1 (l.map conv)).f0 (helloI a0 a1 (l.map conv)).f1 (helloI a0 a1 (l.map conv)).f2 3 = some ([numI a0, numI a1, ⟨⟨#[]⟩, true, (l.map conv).map capIt⟩], false) := rdList_is _ _ _ _ (.inl rfl)
 rw [e1]
 simp only [Option.bind_some]
 have e2 : hello_reader_number.f false (rd_T62 [numI a0, numI a1, ⟨⟨#[]⟩, true, (l.map conv).map capIt⟩] 0).f0 (rd_T62 [numI a0, numI a1, ⟨⟨#[]⟩, true, (l.map conv).map capIt⟩] 0).f1 (rd_T62 [numI a0, numI a1, ⟨⟨#[]⟩, true, (l.map conv).map capIt⟩] 0).f2 = some (a0, false) := rdNum_is false (by omega) (by omega)
 have e3 : hello_reader_number.f false (rd_T62 [numI a0, numI a1, ⟨⟨#[]⟩, true, (l.map conv).map capIt⟩] 1).f0 (rd_T62 [numI a0, numI a1, ⟨⟨#[]⟩, true, (l.map conv).map capIt⟩] 1).f1 (rd_T62 [numI a0, numI a1, ⟨⟨#[]⟩, true, (l.map conv).map capIt⟩] 1).f2 = some (a1, false) := rdNum_is false (by omega) (by omega)
 have e4 : hello_reader_list.f false (rd_T62 [numI a0, numI a1, ⟨⟨#[]⟩, true, (l.map conv).map capIt⟩] 2).f0 (rd_T62 [numI a0, numI a1, ⟨⟨#[]⟩, true, (l.map conv).map capIt⟩] 2).f1 (rd_T62 [numI a0, numI a1, ⟨⟨#[]⟩, true, (l.map conv).map capIt⟩] 2).f2 (-1) = some ((l.map conv).map capIt, false) := rdList_is _ _ _ _ (.inr (by decide))
 rw [e2]
 simp only [Option.bind_some]
 rw [e3]
 simp only [Option.bind_some]
 rw [e4]
 simp only [Option.bind_some]
 rw [hGetLoop_caps (l.map conv) [] (by simp; omega) h4]
 simp only [Option.bind_some, List.nil_append]
 refine Ev.congr (fun k => if_neg (by simp)) (Ev.bind (helloMay_is a0 a1 l (by omega) true ⟨fun _ => hm, fun _ => rfl⟩) ?_)
 exact Ev.congr (fun k => if_pos rfl) (Ev.now _)
theorem helloPuts_pure (a0 a1 : Int) (l : List S58) : Ev (fun k => hatchwaylaw32_HelloPuts.f k a0 a1 l) true := by
 unfold hatchwaylaw32_HelloPuts.f
 refine Ev.bind alive32 ?_
 simp only [if_true]
 obtain ⟨g1, hg1, hs1⟩ := great_is a0 a1 l
 refine Ev.bind hg1 ?_
 cases g1
 case true => simp only [if_true]; exact Ev.now _
 simp only [Bool.false_eq_true, if_false]
 obtain ⟨l40, hna⟩ := hs1 rfl
 obtain ⟨m, h1⟩ : ∃ m : Bool, m = true ↔ mayP a0 a1 l := by classical exact ⟨decide (mayP a0 a1 l), by simp⟩
 have oa : Ev (fun k => hatchwaylaw32_Of.f k a0 a1 l) (a0, a1, l.map conv) := by unfold hatchwaylaw32_Of.f; exact Ev.bind (caps_is l l40) (Ev.now _)
 refine Ev.bind oa (Ev.bind (helloPut_is a0 a1 l l40 m h1) (Ev.bind oa (Ev.bind (helloMay_is a0 a1 l l40 m h1) (Ev.bind (refMay_is a0 a1 l l40 hna m h1) ?_))))
 refine Ev.congr (fun k => if_neg (by simp)) (Ev.bind (refMay_is a0 a1 l l40 hna m h1) ?_)
 cases m with
 | false =>
  refine Ev.congr (f := fun _ => some true) (fun k => ?_) (Ev.now _)
  rw [if_neg (by simp)]
  simp [ByteArray.toList_eq]
 | true =>
  have hm := h1.1 rfl
  simp only [if_true]
  refine Ev.bind (helloGet_put a0 a1 l hm) (Ev.bind (refPut_is a0 a1 l hm) ?_)
  have pl := plain_is (l.map conv) (by rw [List.length_map]; omega)
  rw [List.map_map, show (deconv ∘ conv) = id by funext c; exact deconv_conv c, List.map_id] at pl
  have hsame : Ev (fun k => hatchwaylaw32_same.f k a0 a1 (l.map conv) a0 a1 l) true := by
   unfold hatchwaylaw32_same.f
   exact Ev.congr (fun k => by rw [if_pos rfl, if_pos rfl]) (Ev.bind pl (Ev.bind (same_refl l (by omega)) (Ev.now _)))
  exact Ev.congr (fun k => by rw [if_pos rfl, if_pos rfl]) (Ev.bind hsame (Ev.now _))
end Go.Proofs.Yteoibgpkimlahaa.P
end
