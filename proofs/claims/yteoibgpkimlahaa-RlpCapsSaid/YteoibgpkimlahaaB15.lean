/- The caps of an item's bytes: one deeper than the cap is too deep, one item more too many. (part 15 of 16) -/
import Derived.Test.YteoibgpkimlahaaB5
import Derived.Test.YteoibgpkimlahaaB10
import Derived.Test.YteoibgpkimlahaaB13
import Derived.Test.YteoibgpkimlahaaB6
section
namespace Go.Proofs.Yteoibgpkimlahaa.P
open Go.RowKit Go.Proofs.YteoibgpkimlahaaW.PrintWords Go.Proofs.YteoibgpkimlahaaW.PrintLast Go.Proofs.YteoibgpkimlahaaW.PrintMore
attribute [local go_sem] max2_int min2_int max_two min_two max_three min_three max_four min_four   
set_option linter.unusedVariables false
set_option linter.unusedSimpArgs false
def hatchwaylaw09_alive.f  : Option (Bool) := (rlp_Put.f (⟨#[100, 111, 103]⟩ : ByteArray) false ([] : List (S62))).bind fun bt101 => ((rlp_Put.f (⟨#[]⟩ : ByteArray) true ([] : List (S62))).bind fun bt103 => ((rlp_Get.f (⟨#[129, 5]⟩ : ByteArray) 9 9).bind fun bt105 => (if bt101.2 = 0 then (if bt101.1.toList = ([131, 100, 111, 103] : List UInt8) then (if bt103.2 = 0 then (if bt103.1.toList = ([192] : List UInt8) then (some (bt105.2.2.2 == 3)) else (some false)) else (some false)) else (some false)) else (some false))))
set_option maxHeartbeats 8000000 in
set_option maxRecDepth 100000 in
theorem hatchwaylaw09_alive.calls  (r : Bool) (w : World) (h : hatchwaylaw09_alive.f  = some r) :
  Calls Try.prog 49 #[] w fun e w' => e = .returned (.bool r) ∧ Below w.heap.size w w' := by
 have hu62 := Try.underlying62
 have HB := Aside0.mk (Below.refl w.heap.size w)
 have H : ((rlp_Put.f (⟨#[100, 111, 103]⟩ : ByteArray) false ([] : List (S62))).bind fun bt101 => ((rlp_Put.f (⟨#[]⟩ : ByteArray) true ([] : List (S62))).bind fun bt103 => ((rlp_Get.f (⟨#[129, 5]⟩ : ByteArray) 9 9).bind fun bt105 => (if bt101.2 = 0 then (if bt101.1.toList = ([131, 100, 111, 103] : List UInt8) then (if bt103.2 = 0 then (if bt103.1.toList = ([192] : List UInt8) then (some (bt105.2.2.2 == 3)) else (some false)) else (some false)) else (some false)) else (some false))))) = some r := h
 clear h
 replace H := Option.bind_eq_some_iff.mp H
 obtain ⟨⟨t101, t102⟩, A10, H⟩ := H
 replace H : ((rlp_Put.f (⟨#[]⟩ : ByteArray) true ([] : List (S62))).bind fun bt103 => ((rlp_Get.f (⟨#[129, 5]⟩ : ByteArray) 9 9).bind fun bt105 => (if t102 = 0 then (if t101.toList = ([131, 100, 111, 103] : List UInt8) then (if bt103.2 = 0 then (if bt103.1.toList = ([192] : List UInt8) then (some (bt105.2.2.2 == 3)) else (some false)) else (some false)) else (some false)) else (some false)))) = some r := H
 have A1 := Aside0.mk A10
 clear A10
 replace H := Option.bind_eq_some_iff.mp H
 obtain ⟨⟨t103, t104⟩, A20, H⟩ := H
 replace H : ((rlp_Get.f (⟨#[129, 5]⟩ : ByteArray) 9 9).bind fun bt105 => (if t102 = 0 then (if t101.toList = ([131, 100, 111, 103] : List UInt8) then (if t104 = 0 then (if t103.toList = ([192] : List UInt8) then (some (bt105.2.2.2 == 3)) else (some false)) else (some false)) else (some false)) else (some false))) = some r := H
 have A2 := Aside0.mk A20
 clear A20
 replace H := Option.bind_eq_some_iff.mp H
 obtain ⟨⟨t105, t106, t107, t110⟩, A30, H⟩ := H
 replace H : (if t102 = 0 then (if t101.toList = ([131, 100, 111, 103] : List UInt8) then (if t104 = 0 then (if t103.toList = ([192] : List UInt8) then (some (t110 == 3)) else (some false)) else (some false)) else (some false)) else (some false)) = some r := H
 have A3 := Aside0.mk A30
 clear A30
 by_cases c4 : t102 = 0
 ·rw [if_pos c4] at H
  have c4b0 : (t102 == 0) = true := beq_iff_eq.mpr c4
  have c4b1 : (t102 != 0) = false := bne_eq_false_iff_eq.mpr c4
  clear c4
  by_cases c5 : t101.toList = ([131, 100, 111, 103] : List UInt8)
  ·rw [if_pos c5] at H
   have c5b0 : (t101.toList == ([131, 100, 111, 103] : List UInt8)) = true := beq_iff_eq.mpr c5
   have c5b1 : (t101.toList != ([131, 100, 111, 103] : List UInt8)) = false := bne_eq_false_iff_eq.mpr c5
   clear c5
   by_cases c6 : t104 = 0
   ·rw [if_pos c6] at H
    have c6b0 : (t104 == 0) = true := beq_iff_eq.mpr c6
    have c6b1 : (t104 != 0) = false := bne_eq_false_iff_eq.mpr c6
    clear c6
    by_cases c7 : t103.toList = ([192] : List UInt8)
    ·rw [if_pos c7] at H
     have c7b0 : (t103.toList == ([192] : List UInt8)) = true := beq_iff_eq.mpr c7
     have c7b1 : (t103.toList != ([192] : List UInt8)) = false := bne_eq_false_iff_eq.mpr c7
     clear c7
     obtain rfl := Option.some.inj H
     go_enter Try.func49, Try.ntmps49
     go_wp2_with (first | ((with_reducible refine gate_callee (f := 54) rfl ?_); refine goesL_ (some 9) rfl rfl Try.func54 (by kernel_rfl) rfl #[.agg #[.string (⟨#[100, 111, 103]⟩ : ByteArray), .bool false, .slice none 0 0]] rfl (by (try simp only [List.map_toArray, List.map_cons, List.map_nil]); first | done | rfl | (simp only [List.length_drop, List.length_take]; rfl)) ?_; (refine (rlp_Put.calls (⟨#[100, 111, 103]⟩ : ByteArray) false _ _ ([] : List (S62)) t101 t102 _ ?side1 ?side2 A1.out).mono ?_); (case side1 => exact Kd.C_nil _ _); (case side2 => exact Nat.le_refl _); rintro e w8 ⟨rfl, hb⟩; refine ⟨_, rfl, ?_⟩; have n0_ := Aside0.mk (below_step (by repeat (first | (with_reducible first | exact HB.out | apply below_alloc | apply pw_below_drewN | apply below_drew1) | exact HB.out)) hb); clear HB; have HB := n0_; clear n0_; (try clear hb); (try clear hb2); (try clear hk); (try clear hi)) | ((with_reducible refine gate_callee (f := 54) rfl ?_); refine goesL_ (some 14) rfl rfl Try.func54 (by kernel_rfl) rfl #[.agg #[.string (⟨#[]⟩ : ByteArray), .bool true, .slice none 0 0]] rfl (by (try simp only [List.map_toArray, List.map_cons, List.map_nil]); first | done | rfl | (simp only [List.length_drop, List.length_take]; rfl)) ?_; (refine (rlp_Put.calls (⟨#[]⟩ : ByteArray) true _ _ ([] : List (S62)) t103 t104 _ ?side1 ?side2 A2.out).mono ?_); (case side1 => exact Kd.C_nil _ _); (case side2 => exact Nat.le_refl _); rintro e w9 ⟨rfl, hb⟩; refine ⟨_, rfl, ?_⟩; have n0_ := Aside0.mk (below_step (by repeat (first | (with_reducible first | exact HB.out | apply below_alloc | apply pw_below_drewN | apply below_drew1) | exact HB.out)) hb); clear HB; have HB := n0_; clear n0_; (try clear hb); (try clear hb2); (try clear hk); (try clear hi)) | ((with_reducible refine gate_callee (f := 52) rfl ?_); refine goesL_ (some 18) rfl rfl Try.func52 (by kernel_rfl) rfl #[.string (⟨#[129, 5]⟩ : ByteArray), .int .i64 9, .int .i64 9] rfl (by (try simp only [List.map_toArray, List.map_cons, List.map_nil]); first | done | rfl | (simp only [List.length_drop, List.length_take]; rfl)) ?_; (with_reducible refine (rlp_Get.calls (⟨#[129, 5]⟩ : ByteArray) 9 9 t105 t106 t107 t110 _ A3.out).mono ?_); rintro e w10 ⟨v108, rfl, ho0, hb⟩; refine ⟨_, rfl, ?_⟩; have n0_ := Aside0.mk (Kd.R_lower ho0 (below_size (by repeat (first | (with_reducible first | exact HB.out | apply below_alloc | apply pw_below_drewN | apply below_drew1) | exact HB.out)))); have n1_ := Aside0.mk (below_step (by repeat (first | (with_reducible first | exact HB.out | apply below_alloc | apply pw_below_drewN | apply below_drew1) | exact HB.out)) hb); clear HB; have HO109 := n0_; have HB := n1_; clear n0_ n1_; (try clear hb); (try clear hb2); (try clear hk); (try clear hi); (try clear ho0)) | ((with_reducible refine gate_dst (N := 5) rfl ?_); refine box_event ?hg (N := 5) ?hd (cs := #[.string (⟨#[]⟩ : ByteArray), .bool false, .slice none 0 0]) (t := 62) ?hr ?_; (case hd => rfl); (case hg => rfl); (case hr => first | (go_simp; done) | (go_simp; rfl)); intro gb111 hg w11 hbox hb; have n0_ := Aside0.mk (Kd.R_below (Kd.R_elderB (by (with_reducible repeat (first | apply Kd.R_alloc | apply Kd.R_drewN | apply Kd.R_drew)); exact HO109.out) gb111 (Nat.le_of_eq hg.symm)) hb); have n1_ := Aside0.mk (below_step (by repeat (first | (with_reducible first | exact HB.out | apply below_alloc | apply pw_below_drewN | apply below_drew1) | exact HB.out)) hb); have n2_ := Aside0.mk (hbox); have n3_ := Aside0.mk ((by rw [hg]; exact (below_size (by repeat (first | (with_reducible first | exact HB.out | apply below_alloc | apply pw_below_drewN | apply below_drew1) | exact HB.out))) : w.heap.size ≤ gb111)); have n4_ := Aside0.mk ((by rw [hg]; exact (below_size (by repeat (first | (with_reducible first | exact HB.out | apply below_alloc | apply pw_below_drewN | apply below_drew1) | exact HB.out))) : w.heap.size ≤ gb111)); clear HO109; clear HB; have HO109 := n0_; have HB := n1_; have BK111 := n2_; have GW111 := n3_; have GE111 := n4_; clear n0_ n1_ n2_ n3_ n4_; clear hb hbox hg; have hcz12_0 : w11.cell? ⟨gb111, 0, none⟩ = some (.string (⟨#[]⟩ : ByteArray)) := (blk_cell BK111.out 0).trans rfl; have hcz12_1 : w11.cell? ⟨gb111, 1, none⟩ = some (.bool false) := (blk_cell BK111.out 1).trans rfl; have hcz12_2 : w11.cell? ⟨gb111, 2, none⟩ = some (.slice none 0 0) := (blk_cell BK111.out 2).trans rfl; have hfz12_0 := blk_frozen BK111.out 0; have hfz12_1 := blk_frozen BK111.out 1; have hfz12_2 := blk_frozen BK111.out 2; obtain ⟨Ao13, co13, eo13⟩ := Kd.R_slice HO109.out; subst eo13))
     go_ret
     exact ⟨by first | rfl | (simp [errW_none, errW_some] <;> rfl) | (simp [*, errW_none, errW_some] <;> rfl), by repeat (first | (with_reducible first | exact HB.out | apply below_alloc | apply pw_below_drewN | apply below_drew1 | refine below_set ?_ GE111.out) | exact HB.out)⟩
    ·rw [if_neg c7] at H
     have c7b0 : (t103.toList == ([192] : List UInt8)) = false := beq_eq_false_iff_ne.mpr c7
     have c7b1 : (t103.toList != ([192] : List UInt8)) = true := bne_iff_ne.mpr c7
     obtain rfl := Option.some.inj H
     go_enter Try.func49, Try.ntmps49
     go_wp2_with (first | ((with_reducible refine gate_callee (f := 54) rfl ?_); refine goesL_ (some 9) rfl rfl Try.func54 (by kernel_rfl) rfl #[.agg #[.string (⟨#[100, 111, 103]⟩ : ByteArray), .bool false, .slice none 0 0]] rfl (by (try simp only [List.map_toArray, List.map_cons, List.map_nil]); first | done | rfl | (simp only [List.length_drop, List.length_take]; rfl)) ?_; (refine (rlp_Put.calls (⟨#[100, 111, 103]⟩ : ByteArray) false _ _ ([] : List (S62)) t101 t102 _ ?side1 ?side2 A1.out).mono ?_); (case side1 => exact Kd.C_nil _ _); (case side2 => exact Nat.le_refl _); rintro e w14 ⟨rfl, hb⟩; refine ⟨_, rfl, ?_⟩; have n0_ := Aside0.mk (below_step (by repeat (first | (with_reducible first | exact HB.out | apply below_alloc | apply pw_below_drewN | apply below_drew1) | exact HB.out)) hb); clear HB; have HB := n0_; clear n0_; (try clear hb); (try clear hb2); (try clear hk); (try clear hi)) | ((with_reducible refine gate_callee (f := 54) rfl ?_); refine goesL_ (some 14) rfl rfl Try.func54 (by kernel_rfl) rfl #[.agg #[.string (⟨#[]⟩ : ByteArray), .bool true, .slice none 0 0]] rfl (by (try simp only [List.map_toArray, List.map_cons, List.map_nil]); first | done | rfl | (simp only [List.length_drop, List.length_take]; rfl)) ?_; (refine (rlp_Put.calls (⟨#[]⟩ : ByteArray) true _ _ ([] : List (S62)) t103 t104 _ ?side1 ?side2 A2.out).mono ?_); (case side1 => exact Kd.C_nil _ _); (case side2 => exact Nat.le_refl _); rintro e w15 ⟨rfl, hb⟩; refine ⟨_, rfl, ?_⟩; have n0_ := Aside0.mk (below_step (by repeat (first | (with_reducible first | exact HB.out | apply below_alloc | apply pw_below_drewN | apply below_drew1) | exact HB.out)) hb); clear HB; have HB := n0_; clear n0_; (try clear hb); (try clear hb2); (try clear hk); (try clear hi)) | ((with_reducible refine gate_callee (f := 52) rfl ?_); refine goesL_ (some 18) rfl rfl Try.func52 (by kernel_rfl) rfl #[.string (⟨#[129, 5]⟩ : ByteArray), .int .i64 9, .int .i64 9] rfl (by (try simp only [List.map_toArray, List.map_cons, List.map_nil]); first | done | rfl | (simp only [List.length_drop, List.length_take]; rfl)) ?_; (with_reducible refine (rlp_Get.calls (⟨#[129, 5]⟩ : ByteArray) 9 9 t105 t106 t107 t110 _ A3.out).mono ?_); rintro e w16 ⟨v108, rfl, ho0, hb⟩; refine ⟨_, rfl, ?_⟩; have n0_ := Aside0.mk (Kd.R_lower ho0 (below_size (by repeat (first | (with_reducible first | exact HB.out | apply below_alloc | apply pw_below_drewN | apply below_drew1) | exact HB.out)))); have n1_ := Aside0.mk (below_step (by repeat (first | (with_reducible first | exact HB.out | apply below_alloc | apply pw_below_drewN | apply below_drew1) | exact HB.out)) hb); clear HB; have HO109 := n0_; have HB := n1_; clear n0_ n1_; (try clear hb); (try clear hb2); (try clear hk); (try clear hi); (try clear ho0)) | ((with_reducible refine gate_dst (N := 5) rfl ?_); refine box_event ?hg (N := 5) ?hd (cs := #[.string (⟨#[]⟩ : ByteArray), .bool false, .slice none 0 0]) (t := 62) ?hr ?_; (case hd => rfl); (case hg => rfl); (case hr => first | (go_simp; done) | (go_simp; rfl)); intro gb111 hg w17 hbox hb; have n0_ := Aside0.mk (Kd.R_below (Kd.R_elderB (by (with_reducible repeat (first | apply Kd.R_alloc | apply Kd.R_drewN | apply Kd.R_drew)); exact HO109.out) gb111 (Nat.le_of_eq hg.symm)) hb); have n1_ := Aside0.mk (below_step (by repeat (first | (with_reducible first | exact HB.out | apply below_alloc | apply pw_below_drewN | apply below_drew1) | exact HB.out)) hb); have n2_ := Aside0.mk (hbox); have n3_ := Aside0.mk ((by rw [hg]; exact (below_size (by repeat (first | (with_reducible first | exact HB.out | apply below_alloc | apply pw_below_drewN | apply below_drew1) | exact HB.out))) : w.heap.size ≤ gb111)); have n4_ := Aside0.mk ((by rw [hg]; exact (below_size (by repeat (first | (with_reducible first | exact HB.out | apply below_alloc | apply pw_below_drewN | apply below_drew1) | exact HB.out))) : w.heap.size ≤ gb111)); clear HO109; clear HB; have HO109 := n0_; have HB := n1_; have BK111 := n2_; have GW111 := n3_; have GE111 := n4_; clear n0_ n1_ n2_ n3_ n4_; clear hb hbox hg; have hcz18_0 : w17.cell? ⟨gb111, 0, none⟩ = some (.string (⟨#[]⟩ : ByteArray)) := (blk_cell BK111.out 0).trans rfl; have hcz18_1 : w17.cell? ⟨gb111, 1, none⟩ = some (.bool false) := (blk_cell BK111.out 1).trans rfl; have hcz18_2 : w17.cell? ⟨gb111, 2, none⟩ = some (.slice none 0 0) := (blk_cell BK111.out 2).trans rfl; have hfz18_0 := blk_frozen BK111.out 0; have hfz18_1 := blk_frozen BK111.out 1; have hfz18_2 := blk_frozen BK111.out 2; obtain ⟨Ao19, co19, eo19⟩ := Kd.R_slice HO109.out; subst eo19))
     go_ret
     exact ⟨by first | rfl | (simp [errW_none, errW_some] <;> rfl) | (simp [*, errW_none, errW_some] <;> rfl), by repeat (first | (with_reducible first | exact HB.out | apply below_alloc | apply pw_below_drewN | apply below_drew1 | refine below_set ?_ GE111.out) | exact HB.out)⟩
   ·rw [if_neg c6] at H
    have c6b0 : (t104 == 0) = false := beq_eq_false_iff_ne.mpr c6
    have c6b1 : (t104 != 0) = true := bne_iff_ne.mpr c6
    obtain rfl := Option.some.inj H
    go_enter Try.func49, Try.ntmps49
    go_wp2_with (first | ((with_reducible refine gate_callee (f := 54) rfl ?_); refine goesL_ (some 9) rfl rfl Try.func54 (by kernel_rfl) rfl #[.agg #[.string (⟨#[100, 111, 103]⟩ : ByteArray), .bool false, .slice none 0 0]] rfl (by (try simp only [List.map_toArray, List.map_cons, List.map_nil]); first | done | rfl | (simp only [List.length_drop, List.length_take]; rfl)) ?_; (refine (rlp_Put.calls (⟨#[100, 111, 103]⟩ : ByteArray) false _ _ ([] : List (S62)) t101 t102 _ ?side1 ?side2 A1.out).mono ?_); (case side1 => exact Kd.C_nil _ _); (case side2 => exact Nat.le_refl _); rintro e w20 ⟨rfl, hb⟩; refine ⟨_, rfl, ?_⟩; have n0_ := Aside0.mk (below_step (by repeat (first | (with_reducible first | exact HB.out | apply below_alloc | apply pw_below_drewN | apply below_drew1) | exact HB.out)) hb); clear HB; have HB := n0_; clear n0_; (try clear hb); (try clear hb2); (try clear hk); (try clear hi)) | ((with_reducible refine gate_callee (f := 54) rfl ?_); refine goesL_ (some 14) rfl rfl Try.func54 (by kernel_rfl) rfl #[.agg #[.string (⟨#[]⟩ : ByteArray), .bool true, .slice none 0 0]] rfl (by (try simp only [List.map_toArray, List.map_cons, List.map_nil]); first | done | rfl | (simp only [List.length_drop, List.length_take]; rfl)) ?_; (refine (rlp_Put.calls (⟨#[]⟩ : ByteArray) true _ _ ([] : List (S62)) t103 t104 _ ?side1 ?side2 A2.out).mono ?_); (case side1 => exact Kd.C_nil _ _); (case side2 => exact Nat.le_refl _); rintro e w21 ⟨rfl, hb⟩; refine ⟨_, rfl, ?_⟩; have n0_ := Aside0.mk (below_step (by repeat (first | (with_reducible first | exact HB.out | apply below_alloc | apply pw_below_drewN | apply below_drew1) | exact HB.out)) hb); clear HB; have HB := n0_; clear n0_; (try clear hb); (try clear hb2); (try clear hk); (try clear hi)) | ((with_reducible refine gate_callee (f := 52) rfl ?_); refine goesL_ (some 18) rfl rfl Try.func52 (by kernel_rfl) rfl #[.string (⟨#[129, 5]⟩ : ByteArray), .int .i64 9, .int .i64 9] rfl (by (try simp only [List.map_toArray, List.map_cons, List.map_nil]); first | done | rfl | (simp only [List.length_drop, List.length_take]; rfl)) ?_; (with_reducible refine (rlp_Get.calls (⟨#[129, 5]⟩ : ByteArray) 9 9 t105 t106 t107 t110 _ A3.out).mono ?_); rintro e w22 ⟨v108, rfl, ho0, hb⟩; refine ⟨_, rfl, ?_⟩; have n0_ := Aside0.mk (Kd.R_lower ho0 (below_size (by repeat (first | (with_reducible first | exact HB.out | apply below_alloc | apply pw_below_drewN | apply below_drew1) | exact HB.out)))); have n1_ := Aside0.mk (below_step (by repeat (first | (with_reducible first | exact HB.out | apply below_alloc | apply pw_below_drewN | apply below_drew1) | exact HB.out)) hb); clear HB; have HO109 := n0_; have HB := n1_; clear n0_ n1_; (try clear hb); (try clear hb2); (try clear hk); (try clear hi); (try clear ho0)) | ((with_reducible refine gate_dst (N := 5) rfl ?_); refine box_event ?hg (N := 5) ?hd (cs := #[.string (⟨#[]⟩ : ByteArray), .bool false, .slice none 0 0]) (t := 62) ?hr ?_; (case hd => rfl); (case hg => rfl); (case hr => first | (go_simp; done) | (go_simp; rfl)); intro gb111 hg w23 hbox hb; have n0_ := Aside0.mk (Kd.R_below (Kd.R_elderB (by (with_reducible repeat (first | apply Kd.R_alloc | apply Kd.R_drewN | apply Kd.R_drew)); exact HO109.out) gb111 (Nat.le_of_eq hg.symm)) hb); have n1_ := Aside0.mk (below_step (by repeat (first | (with_reducible first | exact HB.out | apply below_alloc | apply pw_below_drewN | apply below_drew1) | exact HB.out)) hb); have n2_ := Aside0.mk (hbox); have n3_ := Aside0.mk ((by rw [hg]; exact (below_size (by repeat (first | (with_reducible first | exact HB.out | apply below_alloc | apply pw_below_drewN | apply below_drew1) | exact HB.out))) : w.heap.size ≤ gb111)); have n4_ := Aside0.mk ((by rw [hg]; exact (below_size (by repeat (first | (with_reducible first | exact HB.out | apply below_alloc | apply pw_below_drewN | apply below_drew1) | exact HB.out))) : w.heap.size ≤ gb111)); clear HO109; clear HB; have HO109 := n0_; have HB := n1_; have BK111 := n2_; have GW111 := n3_; have GE111 := n4_; clear n0_ n1_ n2_ n3_ n4_; clear hb hbox hg; have hcz24_0 : w23.cell? ⟨gb111, 0, none⟩ = some (.string (⟨#[]⟩ : ByteArray)) := (blk_cell BK111.out 0).trans rfl; have hcz24_1 : w23.cell? ⟨gb111, 1, none⟩ = some (.bool false) := (blk_cell BK111.out 1).trans rfl; have hcz24_2 : w23.cell? ⟨gb111, 2, none⟩ = some (.slice none 0 0) := (blk_cell BK111.out 2).trans rfl; have hfz24_0 := blk_frozen BK111.out 0; have hfz24_1 := blk_frozen BK111.out 1; have hfz24_2 := blk_frozen BK111.out 2; obtain ⟨Ao25, co25, eo25⟩ := Kd.R_slice HO109.out; subst eo25))
    go_ret
    exact ⟨by first | rfl | (simp [errW_none, errW_some] <;> rfl) | (simp [*, errW_none, errW_some] <;> rfl), by repeat (first | (with_reducible first | exact HB.out | apply below_alloc | apply pw_below_drewN | apply below_drew1 | refine below_set ?_ GE111.out) | exact HB.out)⟩
  ·rw [if_neg c5] at H
   have c5b0 : (t101.toList == ([131, 100, 111, 103] : List UInt8)) = false := beq_eq_false_iff_ne.mpr c5
   have c5b1 : (t101.toList != ([131, 100, 111, 103] : List UInt8)) = true := bne_iff_ne.mpr c5
   obtain rfl := Option.some.inj H
   go_enter Try.func49, Try.ntmps49
   go_wp2_with (first | ((with_reducible refine gate_callee (f := 54) rfl ?_); refine goesL_ (some 9) rfl rfl Try.func54 (by kernel_rfl) rfl #[.agg #[.string (⟨#[100, 111, 103]⟩ : ByteArray), .bool false, .slice none 0 0]] rfl (by (try simp only [List.map_toArray, List.map_cons, List.map_nil]); first | done | rfl | (simp only [List.length_drop, List.length_take]; rfl)) ?_; (refine (rlp_Put.calls (⟨#[100, 111, 103]⟩ : ByteArray) false _ _ ([] : List (S62)) t101 t102 _ ?side1 ?side2 A1.out).mono ?_); (case side1 => exact Kd.C_nil _ _); (case side2 => exact Nat.le_refl _); rintro e w26 ⟨rfl, hb⟩; refine ⟨_, rfl, ?_⟩; have n0_ := Aside0.mk (below_step (by repeat (first | (with_reducible first | exact HB.out | apply below_alloc | apply pw_below_drewN | apply below_drew1) | exact HB.out)) hb); clear HB; have HB := n0_; clear n0_; (try clear hb); (try clear hb2); (try clear hk); (try clear hi)) | ((with_reducible refine gate_callee (f := 54) rfl ?_); refine goesL_ (some 14) rfl rfl Try.func54 (by kernel_rfl) rfl #[.agg #[.string (⟨#[]⟩ : ByteArray), .bool true, .slice none 0 0]] rfl (by (try simp only [List.map_toArray, List.map_cons, List.map_nil]); first | done | rfl | (simp only [List.length_drop, List.length_take]; rfl)) ?_; (refine (rlp_Put.calls (⟨#[]⟩ : ByteArray) true _ _ ([] : List (S62)) t103 t104 _ ?side1 ?side2 A2.out).mono ?_); (case side1 => exact Kd.C_nil _ _); (case side2 => exact Nat.le_refl _); rintro e w27 ⟨rfl, hb⟩; refine ⟨_, rfl, ?_⟩; have n0_ := Aside0.mk (below_step (by repeat (first | (with_reducible first | exact HB.out | apply below_alloc | apply pw_below_drewN | apply below_drew1) | exact HB.out)) hb); clear HB; have HB := n0_; clear n0_; (try clear hb); (try clear hb2); (try clear hk); (try clear hi)) | ((with_reducible refine gate_callee (f := 52) rfl ?_); refine goesL_ (some 18) rfl rfl Try.func52 (by kernel_rfl) rfl #[.string (⟨#[129, 5]⟩ : ByteArray), .int .i64 9, .int .i64 9] rfl (by (try simp only [List.map_toArray, List.map_cons, List.map_nil]); first | done | rfl | (simp only [List.length_drop, List.length_take]; rfl)) ?_; (with_reducible refine (rlp_Get.calls (⟨#[129, 5]⟩ : ByteArray) 9 9 t105 t106 t107 t110 _ A3.out).mono ?_); rintro e w28 ⟨v108, rfl, ho0, hb⟩; refine ⟨_, rfl, ?_⟩; have n0_ := Aside0.mk (Kd.R_lower ho0 (below_size (by repeat (first | (with_reducible first | exact HB.out | apply below_alloc | apply pw_below_drewN | apply below_drew1) | exact HB.out)))); have n1_ := Aside0.mk (below_step (by repeat (first | (with_reducible first | exact HB.out | apply below_alloc | apply pw_below_drewN | apply below_drew1) | exact HB.out)) hb); clear HB; have HO109 := n0_; have HB := n1_; clear n0_ n1_; (try clear hb); (try clear hb2); (try clear hk); (try clear hi); (try clear ho0)) | ((with_reducible refine gate_dst (N := 5) rfl ?_); refine box_event ?hg (N := 5) ?hd (cs := #[.string (⟨#[]⟩ : ByteArray), .bool false, .slice none 0 0]) (t := 62) ?hr ?_; (case hd => rfl); (case hg => rfl); (case hr => first | (go_simp; done) | (go_simp; rfl)); intro gb111 hg w29 hbox hb; have n0_ := Aside0.mk (Kd.R_below (Kd.R_elderB (by (with_reducible repeat (first | apply Kd.R_alloc | apply Kd.R_drewN | apply Kd.R_drew)); exact HO109.out) gb111 (Nat.le_of_eq hg.symm)) hb); have n1_ := Aside0.mk (below_step (by repeat (first | (with_reducible first | exact HB.out | apply below_alloc | apply pw_below_drewN | apply below_drew1) | exact HB.out)) hb); have n2_ := Aside0.mk (hbox); have n3_ := Aside0.mk ((by rw [hg]; exact (below_size (by repeat (first | (with_reducible first | exact HB.out | apply below_alloc | apply pw_below_drewN | apply below_drew1) | exact HB.out))) : w.heap.size ≤ gb111)); have n4_ := Aside0.mk ((by rw [hg]; exact (below_size (by repeat (first | (with_reducible first | exact HB.out | apply below_alloc | apply pw_below_drewN | apply below_drew1) | exact HB.out))) : w.heap.size ≤ gb111)); clear HO109; clear HB; have HO109 := n0_; have HB := n1_; have BK111 := n2_; have GW111 := n3_; have GE111 := n4_; clear n0_ n1_ n2_ n3_ n4_; clear hb hbox hg; have hcz30_0 : w29.cell? ⟨gb111, 0, none⟩ = some (.string (⟨#[]⟩ : ByteArray)) := (blk_cell BK111.out 0).trans rfl; have hcz30_1 : w29.cell? ⟨gb111, 1, none⟩ = some (.bool false) := (blk_cell BK111.out 1).trans rfl; have hcz30_2 : w29.cell? ⟨gb111, 2, none⟩ = some (.slice none 0 0) := (blk_cell BK111.out 2).trans rfl; have hfz30_0 := blk_frozen BK111.out 0; have hfz30_1 := blk_frozen BK111.out 1; have hfz30_2 := blk_frozen BK111.out 2; obtain ⟨Ao31, co31, eo31⟩ := Kd.R_slice HO109.out; subst eo31))
   go_ret
   exact ⟨by first | rfl | (simp [errW_none, errW_some] <;> rfl) | (simp [*, errW_none, errW_some] <;> rfl), by repeat (first | (with_reducible first | exact HB.out | apply below_alloc | apply pw_below_drewN | apply below_drew1 | refine below_set ?_ GE111.out) | exact HB.out)⟩
 ·rw [if_neg c4] at H
  have c4b0 : (t102 == 0) = false := beq_eq_false_iff_ne.mpr c4
  have c4b1 : (t102 != 0) = true := bne_iff_ne.mpr c4
  obtain rfl := Option.some.inj H
  go_enter Try.func49, Try.ntmps49
  go_wp2_with (first | ((with_reducible refine gate_callee (f := 54) rfl ?_); refine goesL_ (some 9) rfl rfl Try.func54 (by kernel_rfl) rfl #[.agg #[.string (⟨#[100, 111, 103]⟩ : ByteArray), .bool false, .slice none 0 0]] rfl (by (try simp only [List.map_toArray, List.map_cons, List.map_nil]); first | done | rfl | (simp only [List.length_drop, List.length_take]; rfl)) ?_; (refine (rlp_Put.calls (⟨#[100, 111, 103]⟩ : ByteArray) false _ _ ([] : List (S62)) t101 t102 _ ?side1 ?side2 A1.out).mono ?_); (case side1 => exact Kd.C_nil _ _); (case side2 => exact Nat.le_refl _); rintro e w32 ⟨rfl, hb⟩; refine ⟨_, rfl, ?_⟩; have n0_ := Aside0.mk (below_step (by repeat (first | (with_reducible first | exact HB.out | apply below_alloc | apply pw_below_drewN | apply below_drew1) | exact HB.out)) hb); clear HB; have HB := n0_; clear n0_; (try clear hb); (try clear hb2); (try clear hk); (try clear hi)) | ((with_reducible refine gate_callee (f := 54) rfl ?_); refine goesL_ (some 14) rfl rfl Try.func54 (by kernel_rfl) rfl #[.agg #[.string (⟨#[]⟩ : ByteArray), .bool true, .slice none 0 0]] rfl (by (try simp only [List.map_toArray, List.map_cons, List.map_nil]); first | done | rfl | (simp only [List.length_drop, List.length_take]; rfl)) ?_; (refine (rlp_Put.calls (⟨#[]⟩ : ByteArray) true _ _ ([] : List (S62)) t103 t104 _ ?side1 ?side2 A2.out).mono ?_); (case side1 => exact Kd.C_nil _ _); (case side2 => exact Nat.le_refl _); rintro e w33 ⟨rfl, hb⟩; refine ⟨_, rfl, ?_⟩; have n0_ := Aside0.mk (below_step (by repeat (first | (with_reducible first | exact HB.out | apply below_alloc | apply pw_below_drewN | apply below_drew1) | exact HB.out)) hb); clear HB; have HB := n0_; clear n0_; (try clear hb); (try clear hb2); (try clear hk); (try clear hi)) | ((with_reducible refine gate_callee (f := 52) rfl ?_); refine goesL_ (some 18) rfl rfl Try.func52 (by kernel_rfl) rfl #[.string (⟨#[129, 5]⟩ : ByteArray), .int .i64 9, .int .i64 9] rfl (by (try simp only [List.map_toArray, List.map_cons, List.map_nil]); first | done | rfl | (simp only [List.length_drop, List.length_take]; rfl)) ?_; (with_reducible refine (rlp_Get.calls (⟨#[129, 5]⟩ : ByteArray) 9 9 t105 t106 t107 t110 _ A3.out).mono ?_); rintro e w34 ⟨v108, rfl, ho0, hb⟩; refine ⟨_, rfl, ?_⟩; have n0_ := Aside0.mk (Kd.R_lower ho0 (below_size (by repeat (first | (with_reducible first | exact HB.out | apply below_alloc | apply pw_below_drewN | apply below_drew1) | exact HB.out)))); have n1_ := Aside0.mk (below_step (by repeat (first | (with_reducible first | exact HB.out | apply below_alloc | apply pw_below_drewN | apply below_drew1) | exact HB.out)) hb); clear HB; have HO109 := n0_; have HB := n1_; clear n0_ n1_; (try clear hb); (try clear hb2); (try clear hk); (try clear hi); (try clear ho0)) | ((with_reducible refine gate_dst (N := 5) rfl ?_); refine box_event ?hg (N := 5) ?hd (cs := #[.string (⟨#[]⟩ : ByteArray), .bool false, .slice none 0 0]) (t := 62) ?hr ?_; (case hd => rfl); (case hg => rfl); (case hr => first | (go_simp; done) | (go_simp; rfl)); intro gb111 hg w35 hbox hb; have n0_ := Aside0.mk (Kd.R_below (Kd.R_elderB (by (with_reducible repeat (first | apply Kd.R_alloc | apply Kd.R_drewN | apply Kd.R_drew)); exact HO109.out) gb111 (Nat.le_of_eq hg.symm)) hb); have n1_ := Aside0.mk (below_step (by repeat (first | (with_reducible first | exact HB.out | apply below_alloc | apply pw_below_drewN | apply below_drew1) | exact HB.out)) hb); have n2_ := Aside0.mk (hbox); have n3_ := Aside0.mk ((by rw [hg]; exact (below_size (by repeat (first | (with_reducible first | exact HB.out | apply below_alloc | apply pw_below_drewN | apply below_drew1) | exact HB.out))) : w.heap.size ≤ gb111)); have n4_ := Aside0.mk ((by rw [hg]; exact (below_size (by repeat (first | (with_reducible first | exact HB.out | apply below_alloc | apply pw_below_drewN | apply below_drew1) | exact HB.out))) : w.heap.size ≤ gb111)); clear HO109; clear HB; have HO109 := n0_; have HB := n1_; have BK111 := n2_; have GW111 := n3_; have GE111 := n4_; clear n0_ n1_ n2_ n3_ n4_; clear hb hbox hg; have hcz36_0 : w35.cell? ⟨gb111, 0, none⟩ = some (.string (⟨#[]⟩ : ByteArray)) := (blk_cell BK111.out 0).trans rfl; have hcz36_1 : w35.cell? ⟨gb111, 1, none⟩ = some (.bool false) := (blk_cell BK111.out 1).trans rfl; have hcz36_2 : w35.cell? ⟨gb111, 2, none⟩ = some (.slice none 0 0) := (blk_cell BK111.out 2).trans rfl; have hfz36_0 := blk_frozen BK111.out 0; have hfz36_1 := blk_frozen BK111.out 1; have hfz36_2 := blk_frozen BK111.out 2; obtain ⟨Ao37, co37, eo37⟩ := Kd.R_slice HO109.out; subst eo37))
  go_ret
  exact ⟨by first | rfl | (simp [errW_none, errW_some] <;> rfl) | (simp [*, errW_none, errW_some] <;> rfl), by repeat (first | (with_reducible first | exact HB.out | apply below_alloc | apply pw_below_drewN | apply below_drew1 | refine below_set ?_ GE111.out) | exact HB.out)⟩
end Go.Proofs.Yteoibgpkimlahaa.P
end
section
namespace Go.Proofs.Yteoibgpkimlahaa.P
open Go.RowKit Go.Proofs.YteoibgpkimlahaaW.PrintWords Go.Proofs.YteoibgpkimlahaaW.PrintLast Go.Proofs.YteoibgpkimlahaaW.PrintMore
attribute [local go_sem] max2_int min2_int max_two min_two max_three min_three max_four min_four   
set_option linter.unusedVariables false
set_option linter.unusedSimpArgs false
def hatchwaylaw09_RlpCaps.j0 : Nat → Int → Bool → ByteArray → Bool → List (S62) → Option (Bool)
 | 0, _, _, _, _, _ => none
 | k + 1, x1, x22, x102000, x102001, x102002 => if x22 = true then (some true) else ((hatchwayref09_Put.f k x102000 x102001 x102002).bind fun t105 => ((hatchwayref08_Deep.f k x102000 x102001 x102002).bind fun t106 => ((hatchwayref08_Count.f k x102000 x102001 x102002).bind fun t107 => (if t106 = 0 then (none) else ((rlp_Get.f t105 (wrap64 ((wrap64 (t106 - 1)) - (Int.tmod (wrap64 (x1)) t106))) 1024).bind fun bt108 => (if t107 = 0 then (none) else ((rlp_Get.f t105 16 (wrap64 ((wrap64 (t107 - 1)) - (Int.tmod (wrap64 (x1)) t107)))).bind fun bt115 => ((rlp_Get.f t105 t106 t107).bind fun bt122 => (if bt108.2.2.2 = 6 then (if bt115.2.2.2 = 4 then (some (bt122.2.2.2 == 0)) else (some false)) else (some false))))))))))
def hatchwaylaw09_RlpCaps.f (k : Nat) (a0_0 : ByteArray) (a0_1 : Bool) (l0_2 : List (S62)) (a1 : Int) : Option (Bool) := (hatchwaylaw09_alive.f).bind fun t102 => (if t102 = true then ((hatchwaylaw08_Great.f k a0_0 a0_1 l0_2).bind fun t103 => (if t103 = true then (hatchwaylaw09_RlpCaps.j0 k a1 true a0_0 a0_1 l0_2) else ((hatchwayref08_May.f k a0_0 a0_1 l0_2).bind fun t104 => (hatchwaylaw09_RlpCaps.j0 k a1 (!t104) a0_0 a0_1 l0_2)))) else (some false))
theorem hatchwaylaw09_RlpCaps.mono_l : ∀ k, (∀ y0 y1 y2 y3 y4, LeO (hatchwaylaw09_RlpCaps.j0 k y0 y1 y2 y3 y4) (hatchwaylaw09_RlpCaps.j0 (k + 1) y0 y1 y2 y3 y4))
 | 0 => fun _ _ _ _ _ r h => by simp [hatchwaylaw09_RlpCaps.j0] at h
 | k + 1 => by
  have ih0 := hatchwaylaw09_RlpCaps.mono_l k
  ·intro y0 y1 y2 y3 y4
   unfold hatchwaylaw09_RlpCaps.j0
   repeat' first
   | (with_reducible exact ih0 _ _ _ _ _)
   | (with_reducible exact hatchwaylaw08_Great.mono _ _ _ _)
   | (with_reducible exact hatchwayref08_Count.mono _ _ _ _)
   | (with_reducible exact hatchwayref08_Deep.mono _ _ _ _)
   | (with_reducible exact hatchwayref08_May.mono _ _ _ _)
   | (with_reducible exact hatchwayref09_Put.mono _ _ _ _)
   | (with_reducible exact LeO.refl _)
   | (with_reducible exact LeO.none _)
   | (with_reducible refine LeO.ite ?_ ?_)
   | (with_reducible refine LeO.bind ?_ (fun _ => ?_))
   | exact ih0 _ _ _ _ _
   | exact hatchwaylaw08_Great.mono _ _ _ _
   | exact hatchwayref08_Count.mono _ _ _ _
   | exact hatchwayref08_Deep.mono _ _ _ _
   | exact hatchwayref08_May.mono _ _ _ _
   | exact hatchwayref09_Put.mono _ _ _ _
   | exact LeO.none _
   | refine LeO.ite ?_ ?_
   | refine LeO.bind ?_ (fun _ => ?_)
theorem hatchwaylaw09_RlpCaps.mono : ∀ a0 a1 a2 a3 k, LeO (hatchwaylaw09_RlpCaps.f k a0 a1 a2 a3) (hatchwaylaw09_RlpCaps.f (k + 1) a0 a1 a2 a3) := by
 intro a0 a1 a2 a3 k
 have ih0 := hatchwaylaw09_RlpCaps.mono_l k
 unfold hatchwaylaw09_RlpCaps.f
 repeat' first
   | (with_reducible exact ih0 _ _ _ _ _)
   | (with_reducible exact hatchwaylaw08_Great.mono _ _ _ _)
   | (with_reducible exact hatchwayref08_Count.mono _ _ _ _)
   | (with_reducible exact hatchwayref08_Deep.mono _ _ _ _)
   | (with_reducible exact hatchwayref08_May.mono _ _ _ _)
   | (with_reducible exact hatchwayref09_Put.mono _ _ _ _)
   | (with_reducible exact LeO.refl _)
   | (with_reducible exact LeO.none _)
   | (with_reducible refine LeO.ite ?_ ?_)
   | (with_reducible refine LeO.bind ?_ (fun _ => ?_))
   | exact ih0 _ _ _ _ _
   | exact hatchwaylaw08_Great.mono _ _ _ _
   | exact hatchwayref08_Count.mono _ _ _ _
   | exact hatchwayref08_Deep.mono _ _ _ _
   | exact hatchwayref08_May.mono _ _ _ _
   | exact hatchwayref09_Put.mono _ _ _ _
   | exact LeO.none _
   | refine LeO.ite ?_ ?_
   | refine LeO.bind ?_ (fun _ => ?_)
set_option maxHeartbeats 8000000 in
set_option maxRecDepth 100000 in
theorem hatchwaylaw09_RlpCaps.calls (k : Nat) (a0_0 : ByteArray) (a0_1 : Bool) (A0_2 : Option Addr) (c0_2 : Nat) (l0_2 : List (S62)) (a1 : Int) (r : Bool) (w : World) (hr0_2 : Kd.C k62 w A0_2 l0_2.length l0_2) (hc0_2 : l0_2.length ≤ c0_2) (h : hatchwaylaw09_RlpCaps.f k a0_0 a0_1 l0_2 a1 = some r) :
  Calls Try.prog 9 #[.agg #[.string a0_0, .bool a0_1, .slice A0_2 l0_2.length c0_2], .int .u8 a1] w fun e w' => e = .returned (.bool r) ∧ Below w.heap.size w w' := by
 have hu62 := Try.underlying62
 have HR0_2 := Aside0.mk hr0_2
 have HC0_2 := Aside0.mk hc0_2
 clear hr0_2 hc0_2
 have HB := Aside0.mk (Below.refl w.heap.size w)
 have H : ((hatchwaylaw09_alive.f).bind fun t102 => (if t102 = true then ((hatchwaylaw08_Great.f k a0_0 a0_1 l0_2).bind fun t103 => (if t103 = true then (hatchwaylaw09_RlpCaps.j0 k a1 true a0_0 a0_1 l0_2) else ((hatchwayref08_May.f k a0_0 a0_1 l0_2).bind fun t104 => (hatchwaylaw09_RlpCaps.j0 k a1 (!t104) a0_0 a0_1 l0_2)))) else (some false))) = some r := h
 clear h
 replace H := Option.bind_eq_some_iff.mp H
 obtain ⟨t102, A30, H⟩ := H
 replace H : (if t102 = true then ((hatchwaylaw08_Great.f k a0_0 a0_1 l0_2).bind fun t103 => (if t103 = true then (hatchwaylaw09_RlpCaps.j0 k a1 true a0_0 a0_1 l0_2) else ((hatchwayref08_May.f k a0_0 a0_1 l0_2).bind fun t104 => (hatchwaylaw09_RlpCaps.j0 k a1 (!t104) a0_0 a0_1 l0_2)))) else (some false)) = some r := H
 have A3 := Aside0.mk A30
 clear A30
 by_cases c4 : t102 = true
 ·subst c4
  have H1 : ((hatchwaylaw08_Great.f k a0_0 a0_1 l0_2).bind fun t103 => (if t103 = true then (hatchwaylaw09_RlpCaps.j0 k a1 true a0_0 a0_1 l0_2) else ((hatchwayref08_May.f k a0_0 a0_1 l0_2).bind fun t104 => (hatchwaylaw09_RlpCaps.j0 k a1 (!t104) a0_0 a0_1 l0_2)))) = some r := by rw [if_pos rfl] at H; exact H
  clear H
  have H := H1
  clear H1
  have HC5 := Aside0.mk H
  clear H
  go_enter Try.func9, Try.ntmps9
  go_upto_region 3 with (first | ((with_reducible refine gate_dst (N := 2) rfl ?_); refine box_event ?hg (N := 2) ?hd (cs := #[.string a0_0, .bool a0_1, .slice A0_2 l0_2.length c0_2]) (t := 62) ?hr ?_; (case hd => rfl); (case hg => rfl); (case hr => first | (go_simp; done) | (go_simp; rfl)); intro gb101 hg w6 hbox hb; have n0_ := Aside0.mk (below_step (by repeat (first | (with_reducible first | exact HB.out | apply below_alloc | apply pw_below_drewN | apply below_drew1) | exact HB.out)) hb); have n1_ := Aside0.mk (hbox); have n2_ := Aside0.mk ((by rw [hg]; exact (below_size (by repeat (first | (with_reducible first | exact HB.out | apply below_alloc | apply pw_below_drewN | apply below_drew1) | exact HB.out))) : w.heap.size ≤ gb101)); have n3_ := Aside0.mk ((by rw [hg]; exact (below_size (by repeat (first | (with_reducible first | exact HB.out | apply below_alloc | apply pw_below_drewN | apply below_drew1) | exact HB.out))) : w.heap.size ≤ gb101)); clear HB; have HB := n0_; have BK101 := n1_; have GW101 := n2_; have GE101 := n3_; clear n0_ n1_ n2_ n3_; clear hb hbox hg) | ((with_reducible refine gate_callee (f := 49) rfl ?_); refine goesL_ (some 14) rfl rfl Try.func49 (by kernel_rfl) rfl #[] rfl (by (try simp only [List.map_toArray, List.map_cons, List.map_nil]); first | done | rfl | (simp only [List.length_drop, List.length_take]; rfl)) ?_; (with_reducible refine (hatchwaylaw09_alive.calls  true _ A3.out).mono ?_); rintro e w7 ⟨rfl, hb⟩; refine ⟨_, rfl, ?_⟩; have n0_ := Aside0.mk (blk_below (g := gb101) (o := .cells #[.string a0_0, .bool a0_1, .slice A0_2 l0_2.length c0_2] 62 (0, 0)) (by (with_reducible repeat (first | refine blk_drewN ?_ _ | refine blk_drew ?_ | refine blk_alloc ?_ _)); exact BK101.out) hb); have n1_ := Aside0.mk (below_step (by repeat (first | (with_reducible first | exact HB.out | apply below_alloc | apply pw_below_drewN | apply below_drew1 | refine below_set ?_ GE101.out) | exact HB.out)) hb); clear BK101; clear HB; have BK101 := n0_; have HB := n1_; clear n0_ n1_; (try clear hb); (try clear hb2); (try clear hk); (try clear hi)))
  (try simp only [Act.put, List.setIfInBounds_toArray, List.set_cons_zero, List.set_cons_succ])
  go_cut [22] (fun v22 wc => ∃ (kq : Nat) (x22_4 : Bool), v22 = .bool x22_4 ∧ Aside0 (hatchwaylaw09_RlpCaps.j0 kq a1 x22_4 a0_0 a0_1 l0_2 = some r) ∧ Aside0 (kq ≤ k) ∧ Aside0 (wc.heap[gb101]? = some (.cells #[.string a0_0, .bool a0_1, (.slice A0_2 l0_2.length c0_2)] 62 (0, 0))) ∧ Aside0 (Below w.heap.size w wc))
  case first =>
   have H := HC5.out
   clear HC5
   replace H := Option.bind_eq_some_iff.mp H
   obtain ⟨t103, A80, H⟩ := H
   replace H : (if t103 = true then (hatchwaylaw09_RlpCaps.j0 k a1 true a0_0 a0_1 l0_2) else ((hatchwayref08_May.f k a0_0 a0_1 l0_2).bind fun t104 => (hatchwaylaw09_RlpCaps.j0 k a1 (!t104) a0_0 a0_1 l0_2))) = some r := H
   have A8 := Aside0.mk A80
   clear A80
   by_cases c9 : t103 = true
   ·subst c9
    have H1 : (hatchwaylaw09_RlpCaps.j0 k a1 true a0_0 a0_1 l0_2) = some r := by rw [if_pos rfl] at H; exact H
    clear H
    have H := H1
    clear H1
    have H' := Aside0.mk H
    clear H
    have hcz10_0 : w7.cell? ⟨gb101, 0, none⟩ = some (.string a0_0) := (blk_cell BK101.out 0).trans rfl
    have hcz10_1 : w7.cell? ⟨gb101, 1, none⟩ = some (.bool a0_1) := (blk_cell BK101.out 1).trans rfl
    have hcz10_2 : w7.cell? ⟨gb101, 2, none⟩ = some (.slice A0_2 l0_2.length c0_2) := (blk_cell BK101.out 2).trans rfl
    have hfz10_0 := blk_frozen BK101.out 0
    have hfz10_1 := blk_frozen BK101.out 1
    have hfz10_2 := blk_frozen BK101.out 2
    go_wp2_with (first | ((with_reducible refine gate_callee (f := 35) rfl ?_); refine goesL_ (some 17) rfl rfl Try.func35 (by kernel_rfl) rfl #[.agg #[.string a0_0, .bool a0_1, .slice A0_2 l0_2.length c0_2]] rfl (by (try simp only [List.map_toArray, List.map_cons, List.map_nil]); first | done | rfl | (simp only [List.length_drop, List.length_take]; rfl)) ?_; (with_reducible refine (hatchwaylaw08_Great.calls k a0_0 a0_1 _ _ l0_2 true _ ?side1 ?side2 A8.out).mono ?_); (case side1 => repeat (first | exact (Kd.C_below HR0_2.out HB.out) | (with_reducible refine Kd.C_alloc ?_ _) | (with_reducible refine Kd.C_drewN ?_ _) | (with_reducible refine Kd.C_drew ?_))); (case side2 => exact HC0_2.out); rintro e w11 ⟨rfl, hb⟩; refine ⟨_, rfl, ?_⟩; have n0_ := Aside0.mk (blk_below (g := gb101) (o := .cells #[.string a0_0, .bool a0_1, .slice A0_2 l0_2.length c0_2] 62 (0, 0)) (by (with_reducible repeat (first | refine blk_drewN ?_ _ | refine blk_drew ?_ | refine blk_alloc ?_ _)); exact BK101.out) hb); have n1_ := Aside0.mk (below_step (by repeat (first | (with_reducible first | exact HB.out | apply below_alloc | apply pw_below_drewN | apply below_drew1 | refine below_set ?_ GE101.out) | exact HB.out)) hb); clear BK101; clear HB; have BK101 := n0_; have HB := n1_; clear n0_ n1_; (try clear hb); (try clear hb2); (try clear hk); (try clear hi)))
    go_meet
    case rel => exact ⟨_, (true), (by first | rfl | (simp; done) | (simp [*]; done)), H', ⟨by first | omega | exact Nat.le_refl _⟩, ⟨by (with_reducible repeat (first | refine blk_drewN ?_ _ | refine blk_drew ?_ | refine blk_alloc ?_ _)); exact BK101.out⟩, ⟨by repeat (first | (with_reducible first | exact HB.out | apply below_alloc | apply pw_below_drewN | apply below_drew1 | refine below_set ?_ GE101.out) | exact HB.out)⟩⟩
   ·replace c9 := Bool.eq_false_iff.mpr c9
    subst c9
    have H1 : ((hatchwayref08_May.f k a0_0 a0_1 l0_2).bind fun t104 => (hatchwaylaw09_RlpCaps.j0 k a1 (!t104) a0_0 a0_1 l0_2)) = some r := by rw [if_neg (show ¬ (false = true) by decide)] at H; exact H
    clear H
    have H := H1
    clear H1
    replace H := Option.bind_eq_some_iff.mp H
    obtain ⟨t104, A120, H⟩ := H
    replace H : (hatchwaylaw09_RlpCaps.j0 k a1 (!t104) a0_0 a0_1 l0_2) = some r := H
    have A12 := Aside0.mk A120
    clear A120
    have H' := Aside0.mk H
    clear H
    have hcz13_0 : w7.cell? ⟨gb101, 0, none⟩ = some (.string a0_0) := (blk_cell BK101.out 0).trans rfl
    have hcz13_1 : w7.cell? ⟨gb101, 1, none⟩ = some (.bool a0_1) := (blk_cell BK101.out 1).trans rfl
    have hcz13_2 : w7.cell? ⟨gb101, 2, none⟩ = some (.slice A0_2 l0_2.length c0_2) := (blk_cell BK101.out 2).trans rfl
    have hfz13_0 := blk_frozen BK101.out 0
    have hfz13_1 := blk_frozen BK101.out 1
    have hfz13_2 := blk_frozen BK101.out 2
    go_wp2_with (first | ((with_reducible refine gate_callee (f := 35) rfl ?_); refine goesL_ (some 17) rfl rfl Try.func35 (by kernel_rfl) rfl #[.agg #[.string a0_0, .bool a0_1, .slice A0_2 l0_2.length c0_2]] rfl (by (try simp only [List.map_toArray, List.map_cons, List.map_nil]); first | done | rfl | (simp only [List.length_drop, List.length_take]; rfl)) ?_; (with_reducible refine (hatchwaylaw08_Great.calls k a0_0 a0_1 _ _ l0_2 false _ ?side1 ?side2 A8.out).mono ?_); (case side1 => repeat (first | exact (Kd.C_below HR0_2.out HB.out) | (with_reducible refine Kd.C_alloc ?_ _) | (with_reducible refine Kd.C_drewN ?_ _) | (with_reducible refine Kd.C_drew ?_))); (case side2 => exact HC0_2.out); rintro e w14 ⟨rfl, hb⟩; refine ⟨_, rfl, ?_⟩; have n0_ := Aside0.mk (blk_below (g := gb101) (o := .cells #[.string a0_0, .bool a0_1, .slice A0_2 l0_2.length c0_2] 62 (0, 0)) (by (with_reducible repeat (first | refine blk_drewN ?_ _ | refine blk_drew ?_ | refine blk_alloc ?_ _)); exact BK101.out) hb); have n1_ := Aside0.mk (below_step (by repeat (first | (with_reducible first | exact HB.out | apply below_alloc | apply pw_below_drewN | apply below_drew1 | refine below_set ?_ GE101.out) | exact HB.out)) hb); clear BK101; clear HB; have BK101 := n0_; have HB := n1_; clear n0_ n1_; (try clear hb); (try clear hb2); (try clear hk); (try clear hi); have hcz15_0 : w14.cell? ⟨gb101, 0, none⟩ = some (.string a0_0) := (blk_cell BK101.out 0).trans rfl; have hcz15_1 : w14.cell? ⟨gb101, 1, none⟩ = some (.bool a0_1) := (blk_cell BK101.out 1).trans rfl; have hcz15_2 : w14.cell? ⟨gb101, 2, none⟩ = some (.slice A0_2 l0_2.length c0_2) := (blk_cell BK101.out 2).trans rfl; have hfz15_0 := blk_frozen BK101.out 0; have hfz15_1 := blk_frozen BK101.out 1; have hfz15_2 := blk_frozen BK101.out 2) | (go_at_call 37; (with_reducible refine (hatchwayref08_May.calls k a0_0 a0_1 _ _ l0_2 t104 _ ?side1 ?side2 A12.out).mono ?_); (case side1 => repeat (first | exact (Kd.C_below HR0_2.out HB.out) | (with_reducible refine Kd.C_alloc ?_ _) | (with_reducible refine Kd.C_drewN ?_ _) | (with_reducible refine Kd.C_drew ?_))); (case side2 => exact HC0_2.out); rintro e w16 ⟨rfl, hb⟩; have n0_ := Aside0.mk (blk_below (g := gb101) (o := .cells #[.string a0_0, .bool a0_1, .slice A0_2 l0_2.length c0_2] 62 (0, 0)) (by (with_reducible repeat (first | refine blk_drewN ?_ _ | refine blk_drew ?_ | refine blk_alloc ?_ _)); exact BK101.out) hb); have n1_ := Aside0.mk (below_step (by repeat (first | (with_reducible first | exact HB.out | apply below_alloc | apply pw_below_drewN | apply below_drew1 | refine below_set ?_ GE101.out) | exact HB.out)) hb); clear BK101; clear HB; have BK101 := n0_; have HB := n1_; clear n0_ n1_; (try clear hb); (try clear hb2); (try clear hk); (try clear hi)))
    go_meet
    case rel => exact ⟨_, (!t104), (by first | rfl | (simp; done) | (simp [*]; done)), H', ⟨by first | omega | exact Nat.le_refl _⟩, ⟨by (with_reducible repeat (first | refine blk_drewN ?_ _ | refine blk_drew ?_ | refine blk_alloc ?_ _)); exact BK101.out⟩, ⟨by repeat (first | (with_reducible first | exact HB.out | apply below_alloc | apply pw_below_drewN | apply below_drew1 | refine below_set ?_ GE101.out) | exact HB.out)⟩⟩
  case rest =>
   clear HC5
   try clear p2
   try clear c3
   try clear c4
   try clear c9
   try clear hcz10_0
   try clear hcz10_1
   try clear hcz10_2
   try clear hcz13_0
   try clear hcz13_1
   try clear hcz13_2
   try clear hcz15_0
   try clear hcz15_1
   try clear hcz15_2
   try clear hfz10_0
   try clear hfz10_1
   try clear hfz10_2
   try clear hfz13_0
   try clear hfz13_1
   try clear hfz13_2
   try clear hfz15_0
   try clear hfz15_1
   try clear hfz15_2
   obtain ⟨kq, x22_4, rfl, HA, HJ4, BK101, HB⟩ := hcut
   cases kq with
   | zero => exact absurd HA.out (by simp [hatchwaylaw09_RlpCaps.j0])
   | succ kj4 =>
    have H := HA.out
    clear HA
    simp only [hatchwaylaw09_RlpCaps.j0] at H
    by_cases c17 : x22_4 = true
    ·subst c17
     have H1 : (some true) = some r := by rw [if_pos rfl] at H; exact H
     clear H
     have H := H1
     clear H1
     obtain rfl := Option.some.inj H
     go_wp2
     go_ret
     exact ⟨by first | rfl | (simp [errW_none, errW_some] <;> rfl) | (simp [*, errW_none, errW_some] <;> rfl), by repeat (first | (with_reducible first | exact HB.out | apply below_alloc | apply pw_below_drewN | apply below_drew1 | refine below_set ?_ GE101.out) | exact HB.out)⟩
    ·replace c17 := Bool.eq_false_iff.mpr c17
     subst c17
     have H1 : ((hatchwayref09_Put.f kj4 a0_0 a0_1 l0_2).bind fun t105 => ((hatchwayref08_Deep.f kj4 a0_0 a0_1 l0_2).bind fun t106 => ((hatchwayref08_Count.f kj4 a0_0 a0_1 l0_2).bind fun t107 => (if t106 = 0 then (none) else ((rlp_Get.f t105 (wrap64 ((wrap64 (t106 - 1)) - (Int.tmod (wrap64 (a1)) t106))) 1024).bind fun bt108 => (if t107 = 0 then (none) else ((rlp_Get.f t105 16 (wrap64 ((wrap64 (t107 - 1)) - (Int.tmod (wrap64 (a1)) t107)))).bind fun bt115 => ((rlp_Get.f t105 t106 t107).bind fun bt122 => (if bt108.2.2.2 = 6 then (if bt115.2.2.2 = 4 then (some (bt122.2.2.2 == 0)) else (some false)) else (some false)))))))))) = some r := by rw [if_neg (show ¬ (false = true) by decide)] at H; exact H
     clear H
     have H := H1
     clear H1
     replace H := Option.bind_eq_some_iff.mp H
     obtain ⟨t105, A180, H⟩ := H
     replace H : ((hatchwayref08_Deep.f kj4 a0_0 a0_1 l0_2).bind fun t106 => ((hatchwayref08_Count.f kj4 a0_0 a0_1 l0_2).bind fun t107 => (if t106 = 0 then (none) else ((rlp_Get.f t105 (wrap64 ((wrap64 (t106 - 1)) - (Int.tmod (wrap64 (a1)) t106))) 1024).bind fun bt108 => (if t107 = 0 then (none) else ((rlp_Get.f t105 16 (wrap64 ((wrap64 (t107 - 1)) - (Int.tmod (wrap64 (a1)) t107)))).bind fun bt115 => ((rlp_Get.f t105 t106 t107).bind fun bt122 => (if bt108.2.2.2 = 6 then (if bt115.2.2.2 = 4 then (some (bt122.2.2.2 == 0)) else (some false)) else (some false))))))))) = some r := H
     have A18 := Aside0.mk A180
     clear A180
     replace H := Option.bind_eq_some_iff.mp H
     obtain ⟨t106, A190, H⟩ := H
     replace H : ((hatchwayref08_Count.f kj4 a0_0 a0_1 l0_2).bind fun t107 => (if t106 = 0 then (none) else ((rlp_Get.f t105 (wrap64 ((wrap64 (t106 - 1)) - (Int.tmod (wrap64 (a1)) t106))) 1024).bind fun bt108 => (if t107 = 0 then (none) else ((rlp_Get.f t105 16 (wrap64 ((wrap64 (t107 - 1)) - (Int.tmod (wrap64 (a1)) t107)))).bind fun bt115 => ((rlp_Get.f t105 t106 t107).bind fun bt122 => (if bt108.2.2.2 = 6 then (if bt115.2.2.2 = 4 then (some (bt122.2.2.2 == 0)) else (some false)) else (some false)))))))) = some r := H
     have A19 := Aside0.mk A190
     clear A190
     replace H := Option.bind_eq_some_iff.mp H
     obtain ⟨t107, A200, H⟩ := H
     replace H : (if t106 = 0 then (none) else ((rlp_Get.f t105 (wrap64 ((wrap64 (t106 - 1)) - (Int.tmod (wrap64 (a1)) t106))) 1024).bind fun bt108 => (if t107 = 0 then (none) else ((rlp_Get.f t105 16 (wrap64 ((wrap64 (t107 - 1)) - (Int.tmod (wrap64 (a1)) t107)))).bind fun bt115 => ((rlp_Get.f t105 t106 t107).bind fun bt122 => (if bt108.2.2.2 = 6 then (if bt115.2.2.2 = 4 then (some (bt122.2.2.2 == 0)) else (some false)) else (some false))))))) = some r := H
     have A20 := Aside0.mk A200
     clear A200
     by_cases c21 : t106 = 0
     ·rw [if_pos c21] at H
      exact absurd H (by simp)
     ·rw [if_neg c21] at H
      have c21b0 : (t106 == 0) = false := beq_eq_false_iff_ne.mpr c21
      have c21b1 : (t106 != 0) = true := bne_iff_ne.mpr c21
      replace H := Option.bind_eq_some_iff.mp H
      obtain ⟨⟨t108, t109, t110, t113⟩, A220, H⟩ := H
      replace H : (if t107 = 0 then (none) else ((rlp_Get.f t105 16 (wrap64 ((wrap64 (t107 - 1)) - (Int.tmod (wrap64 (a1)) t107)))).bind fun bt115 => ((rlp_Get.f t105 t106 t107).bind fun bt122 => (if t113 = 6 then (if bt115.2.2.2 = 4 then (some (bt122.2.2.2 == 0)) else (some false)) else (some false))))) = some r := H
      have A22 := Aside0.mk A220
      clear A220
      by_cases c23 : t107 = 0
      ·rw [if_pos c23] at H
       exact absurd H (by simp)
      ·rw [if_neg c23] at H
       have c23b0 : (t107 == 0) = false := beq_eq_false_iff_ne.mpr c23
       have c23b1 : (t107 != 0) = true := bne_iff_ne.mpr c23
       replace H := Option.bind_eq_some_iff.mp H
       obtain ⟨⟨t115, t116, t117, t120⟩, A240, H⟩ := H
       replace H : ((rlp_Get.f t105 t106 t107).bind fun bt122 => (if t113 = 6 then (if t120 = 4 then (some (bt122.2.2.2 == 0)) else (some false)) else (some false))) = some r := H
       have A24 := Aside0.mk A240
       clear A240
       replace H := Option.bind_eq_some_iff.mp H
       obtain ⟨⟨t122, t123, t124, t127⟩, A250, H⟩ := H
       replace H : (if t113 = 6 then (if t120 = 4 then (some (t127 == 0)) else (some false)) else (some false)) = some r := H
       have A25 := Aside0.mk A250
       clear A250
       by_cases c26 : t113 = 6
       ·rw [if_pos c26] at H
        have c26b0 : (t113 == 6) = true := beq_iff_eq.mpr c26
        have c26b1 : (t113 != 6) = false := bne_eq_false_iff_eq.mpr c26
        clear c26
        by_cases c27 : t120 = 4
        ·rw [if_pos c27] at H
         have c27b0 : (t120 == 4) = true := beq_iff_eq.mpr c27
         have c27b1 : (t120 != 4) = false := bne_eq_false_iff_eq.mpr c27
         clear c27
         obtain rfl := Option.some.inj H
         have hcz28_0 : wc.cell? ⟨gb101, 0, none⟩ = some (.string a0_0) := (blk_cell BK101.out 0).trans rfl
         have hcz28_1 : wc.cell? ⟨gb101, 1, none⟩ = some (.bool a0_1) := (blk_cell BK101.out 1).trans rfl
         have hcz28_2 : wc.cell? ⟨gb101, 2, none⟩ = some (.slice A0_2 l0_2.length c0_2) := (blk_cell BK101.out 2).trans rfl
         have hfz28_0 := blk_frozen BK101.out 0
         have hfz28_1 := blk_frozen BK101.out 1
         have hfz28_2 := blk_frozen BK101.out 2
         try go_wp2_with (first | ((with_reducible refine gate_callee (f := 45) rfl ?_); refine goesL_ (some 24) rfl rfl Try.func45 (by kernel_rfl) rfl #[.agg #[.string a0_0, .bool a0_1, .slice A0_2 l0_2.length c0_2]] rfl (by (try simp only [List.map_toArray, List.map_cons, List.map_nil]); first | done | rfl | (simp only [List.length_drop, List.length_take]; rfl)) ?_; (with_reducible refine (hatchwayref09_Put.calls kj4 a0_0 a0_1 _ _ l0_2 t105 _ ?side1 ?side2 A18.out).mono ?_); (case side1 => repeat (first | exact (Kd.C_below HR0_2.out HB.out) | (with_reducible refine Kd.C_alloc ?_ _) | (with_reducible refine Kd.C_drewN ?_ _) | (with_reducible refine Kd.C_drew ?_))); (case side2 => exact HC0_2.out); rintro e w29 ⟨rfl, hb⟩; refine ⟨_, rfl, ?_⟩; have n0_ := Aside0.mk (blk_below (g := gb101) (o := .cells #[.string a0_0, .bool a0_1, .slice A0_2 l0_2.length c0_2] 62 (0, 0)) (by (with_reducible repeat (first | refine blk_drewN ?_ _ | refine blk_drew ?_ | refine blk_alloc ?_ _)); exact BK101.out) hb); have n1_ := Aside0.mk (below_step (by repeat (first | (with_reducible first | exact HB.out | apply below_alloc | apply pw_below_drewN | apply below_drew1 | refine below_set ?_ GE101.out) | exact HB.out)) hb); clear BK101; clear HB; have BK101 := n0_; have HB := n1_; clear n0_ n1_; (try clear hb); (try clear hb2); (try clear hk); (try clear hi)))
         have n0_ := Aside0.mk (blk_drew BK101.out)
         have n1_ := Aside0.mk (below_drew1 HB.out)
         clear BK101
         clear HB
         have BK101 := n0_
         have HB := n1_
         clear n0_ n1_
         refine start_ (n := 6) (S := fun w' => w'.cell? ⟨gb101, 0, none⟩ = some (.string a0_0) ∧ w'.cell? ⟨gb101, 1, none⟩ = some (.bool a0_1) ∧ w'.cell? ⟨gb101, 2, none⟩ = some (.slice A0_2 l0_2.length c0_2)) (ds := []) #[false, false, false, false, false, false] (by kernel_rfl) rfl rfl ⟨(blk_cell BK101.out 0).trans rfl, (blk_cell BK101.out 1).trans rfl, (blk_cell BK101.out 2).trans rfl⟩ (fun hHeld => ?_)
         generalize w29.drew = w30 at BK101 HB hHeld ⊢
         refine take_ (i := 0) (N := some 25) (v := ?_) (a' := ?_) #[true, false, false, false, false, false] rfl rfl (by kernel_rfl) (fun _ _ _ h => h) (Or.inl ⟨by rfl, ?_⟩) hHeld ?_ ?_
         rotate_left
         ·rintro w' ⟨s0, s1, s2⟩
          go_simp
          with_reducible rfl
         rotate_left
         ·simp only [Act.put, List.setIfInBounds_toArray, List.set_cons_zero, List.set_cons_succ, i64_w, i32_w]
          rfl
         refine take_ (i := 2) (N := some 27) (v := ?_) (a' := ?_) #[true, false, true, false, false, false] rfl rfl (by kernel_rfl) (fun _ _ _ h => h) (Or.inl ⟨by rfl, ?_⟩) hHeld ?_ ?_
         rotate_left
         ·rintro w' ⟨s0, s1, s2⟩
          go_simp
          with_reducible rfl
         rotate_left
         ·simp only [Act.put, List.setIfInBounds_toArray, List.set_cons_zero, List.set_cons_succ, i64_w, i32_w]
          rfl
         refine one_ (i := 1) (N := some 26) #[true, true, true, false, false, false] rfl rfl (by kernel_rfl) (by decide) (fun K hK => ?_)
         refine goes_ Try.func50 (by kernel_rfl) rfl #[.agg #[.string a0_0, .bool a0_1, .slice A0_2 l0_2.length c0_2]] (by rfl) rfl rfl (by (try simp only [List.map_toArray, List.map_cons, List.map_nil]); first | done | rfl | (simp only [List.length_drop, List.length_take]; rfl)) ?_
         with_reducible refine (hatchwayref08_Deep.calls kj4 a0_0 a0_1 _ _ l0_2 t106 _ ?side1 ?side2 A19.out).mono ?_
         (case side1 => repeat (first | exact (Kd.C_below HR0_2.out HB.out) | (with_reducible refine Kd.C_alloc ?_ _) | (with_reducible refine Kd.C_drewN ?_ _) | (with_reducible refine Kd.C_drew ?_)))
         (case side2 => exact HC0_2.out)
         rintro e w31 ⟨rfl, hb⟩
         refine ⟨_, rfl, ?_⟩
         have n0_ := Aside0.mk (blk_below (g := gb101) (o := .cells #[.string a0_0, .bool a0_1, .slice A0_2 l0_2.length c0_2] 62 (0, 0)) (by (with_reducible repeat (first | refine blk_drewN ?_ _ | refine blk_drew ?_ | refine blk_alloc ?_ _)); exact BK101.out) hb)
         have n1_ := Aside0.mk (below_step (by repeat (first | (with_reducible first | exact HB.out | apply below_alloc | apply pw_below_drewN | apply below_drew1 | refine below_set ?_ GE101.out) | exact HB.out)) hb)
         clear BK101
         clear HB
         have BK101 := n0_
         have HB := n1_
         clear n0_ n1_
         (try clear hb)
         (try clear hb2)
         (try clear hk)
         (try clear hi)
         refine hK.out _ _ ⟨(blk_cell BK101.out 0).trans rfl, (blk_cell BK101.out 1).trans rfl, (blk_cell BK101.out 2).trans rfl⟩ (fun hHeld => ?_)
         clear hK K
         refine norm_ (a' := ?_) ?_ ?_
         rotate_left
         ·show Act.put _ (some 26) _ = _
          simp only [Act.put, List.setIfInBounds_toArray, List.set_cons_zero, List.set_cons_succ, i64_w, i32_w]
          rfl
         refine one_ (i := 3) (N := some 28) #[true, true, true, true, false, false] rfl rfl (by kernel_rfl) (by decide) (fun K hK => ?_)
         refine goes_ Try.func51 (by kernel_rfl) rfl #[.agg #[.string a0_0, .bool a0_1, .slice A0_2 l0_2.length c0_2]] (by rfl) rfl rfl (by (try simp only [List.map_toArray, List.map_cons, List.map_nil]); first | done | rfl | (simp only [List.length_drop, List.length_take]; rfl)) ?_
         with_reducible refine (hatchwayref08_Count.calls kj4 a0_0 a0_1 _ _ l0_2 t107 _ ?side1 ?side2 A20.out).mono ?_
         (case side1 => repeat (first | exact (Kd.C_below HR0_2.out HB.out) | (with_reducible refine Kd.C_alloc ?_ _) | (with_reducible refine Kd.C_drewN ?_ _) | (with_reducible refine Kd.C_drew ?_)))
         (case side2 => exact HC0_2.out)
         rintro e w32 ⟨rfl, hb⟩
         refine ⟨_, rfl, ?_⟩
         have n0_ := Aside0.mk (blk_below (g := gb101) (o := .cells #[.string a0_0, .bool a0_1, .slice A0_2 l0_2.length c0_2] 62 (0, 0)) (by (with_reducible repeat (first | refine blk_drewN ?_ _ | refine blk_drew ?_ | refine blk_alloc ?_ _)); exact BK101.out) hb)
         have n1_ := Aside0.mk (below_step (by repeat (first | (with_reducible first | exact HB.out | apply below_alloc | apply pw_below_drewN | apply below_drew1 | refine below_set ?_ GE101.out) | exact HB.out)) hb)
         clear BK101
         clear HB
         have BK101 := n0_
         have HB := n1_
         clear n0_ n1_
         (try clear hb)
         (try clear hb2)
         (try clear hk)
         (try clear hi)
         refine hK.out _ _ ⟨(blk_cell BK101.out 0).trans rfl, (blk_cell BK101.out 1).trans rfl, (blk_cell BK101.out 2).trans rfl⟩ (fun hHeld => ?_)
         clear hK K
         refine norm_ (a' := ?_) ?_ ?_
         rotate_left
         ·show Act.put _ (some 28) _ = _
          simp only [Act.put, List.setIfInBounds_toArray, List.set_cons_zero, List.set_cons_succ, i64_w, i32_w]
          rfl
         refine pure_ (i := 4) (N := some 6) (v := ?_) (a' := ?_) #[true, true, true, true, true, false] rfl rfl (by kernel_rfl) (fun _ _ _ h => h) (Or.inl ⟨by rfl, ?_⟩) ?_ ?_
         rotate_left
         ·intro w'
          go_simp
          with_reducible rfl
         rotate_left
         ·simp only [Act.put, List.setIfInBounds_toArray, List.set_cons_zero, List.set_cons_succ, i64_w, i32_w]
          rfl
         refine pure_ (i := 5) (N := some 7) (v := ?_) (a' := ?_) #[true, true, true, true, true, true] rfl rfl (by kernel_rfl) (fun _ _ _ h => h) (Or.inl ⟨by rfl, ?_⟩) ?_ ?_
         rotate_left
         ·intro w'
          go_simp
          with_reducible rfl
         rotate_left
         ·simp only [Act.put, List.setIfInBounds_toArray, List.set_cons_zero, List.set_cons_succ, i64_w, i32_w]
          rfl
         refine done_ (by kernel_rfl) ?_
         try go_wp2_with (first | ((with_reducible refine gate_callee (f := 52) rfl ?_); refine goesL_ (some 38) rfl rfl Try.func52 (by kernel_rfl) rfl #[.string t105, .int .i64 (wrap64 ((wrap64 (t106 - 1)) - (Int.tmod (wrap64 (a1)) t106))), .int .i64 1024] rfl (by (try simp only [List.map_toArray, List.map_cons, List.map_nil]); first | done | rfl | (simp only [List.length_drop, List.length_take]; rfl)) ?_; (with_reducible refine (rlp_Get.calls t105 (wrap64 ((wrap64 (t106 - 1)) - (Int.tmod (wrap64 (a1)) t106))) 1024 t108 t109 t110 t113 _ A22.out).mono ?_); rintro e w33 ⟨v111, rfl, ho0, hb⟩; refine ⟨_, rfl, ?_⟩; have n0_ := Aside0.mk (Kd.R_lower (Kd.R_newB ho0 (g := gb101) (o := .cells #[.string a0_0, .bool a0_1, .slice A0_2 l0_2.length c0_2] 62 (0, 0)) (by (with_reducible repeat (first | refine blk_drewN ?_ _ | refine blk_drew ?_ | refine blk_alloc ?_ _)); exact BK101.out)) (below_size (by repeat (first | (with_reducible first | exact HB.out | apply below_alloc | apply pw_below_drewN | apply below_drew1 | refine below_set ?_ GE101.out) | exact HB.out)))); have n1_ := Aside0.mk (blk_below (g := gb101) (o := .cells #[.string a0_0, .bool a0_1, .slice A0_2 l0_2.length c0_2] 62 (0, 0)) (by (with_reducible repeat (first | refine blk_drewN ?_ _ | refine blk_drew ?_ | refine blk_alloc ?_ _)); exact BK101.out) hb); have n2_ := Aside0.mk (below_step (by repeat (first | (with_reducible first | exact HB.out | apply below_alloc | apply pw_below_drewN | apply below_drew1 | refine below_set ?_ GE101.out) | exact HB.out)) hb); clear BK101; clear HB; have HO112 := n0_; have BK101 := n1_; have HB := n2_; clear n0_ n1_ n2_; (try clear hb); (try clear hb2); (try clear hk); (try clear hi); (try clear ho0)) | ((with_reducible refine gate_dst (N := 8) rfl ?_); refine box_event ?hg (N := 8) ?hd (cs := #[.string (⟨#[]⟩ : ByteArray), .bool false, .slice none 0 0]) (t := 62) ?hr ?_; (case hd => rfl); (case hg => rfl); (case hr => first | (go_simp; done) | (go_simp; rfl)); intro gb114 hg w34 hbox hb; have n0_ := Aside0.mk (Kd.R_below (Kd.R_elderB (by (with_reducible repeat (first | apply Kd.R_alloc | apply Kd.R_drewN | apply Kd.R_drew)); exact HO112.out) gb114 (Nat.le_of_eq hg.symm)) hb); have n1_ := Aside0.mk (blk_below (g := gb101) (o := .cells #[.string a0_0, .bool a0_1, .slice A0_2 l0_2.length c0_2] 62 (0, 0)) (by (with_reducible repeat (first | refine blk_drewN ?_ _ | refine blk_drew ?_ | refine blk_alloc ?_ _)); exact BK101.out) hb); have n2_ := Aside0.mk (below_step (by repeat (first | (with_reducible first | exact HB.out | apply below_alloc | apply pw_below_drewN | apply below_drew1 | refine below_set ?_ GE101.out) | exact HB.out)) hb); have n3_ := Aside0.mk (hbox); have n4_ := Aside0.mk ((by rw [hg]; exact (below_size (by repeat (first | (with_reducible first | exact HB.out | apply below_alloc | apply pw_below_drewN | apply below_drew1 | refine below_set ?_ GE101.out) | exact HB.out))) : w.heap.size ≤ gb114)); have n5_ := Aside0.mk ((by rw [hg]; exact (below_size (by repeat (first | (with_reducible first | exact HB.out | apply below_alloc | apply pw_below_drewN | apply below_drew1 | refine below_set ?_ GE101.out) | exact HB.out))) : w.heap.size ≤ gb114)); have n6_ := Aside0.mk ((by rw [hg]; exact Nat.ne_of_lt (blk_lt (g := gb101) (o := .cells #[.string a0_0, .bool a0_1, .slice A0_2 l0_2.length c0_2] 62 (0, 0)) (by (with_reducible repeat (first | refine blk_drewN ?_ _ | refine blk_drew ?_ | refine blk_alloc ?_ _)); exact BK101.out)) : gb101 ≠ gb114)); have n7_ := Aside0.mk ((by rw [hg]; exact Nat.ne_of_gt (blk_lt (g := gb101) (o := .cells #[.string a0_0, .bool a0_1, .slice A0_2 l0_2.length c0_2] 62 (0, 0)) (by (with_reducible repeat (first | refine blk_drewN ?_ _ | refine blk_drew ?_ | refine blk_alloc ?_ _)); exact BK101.out)) : gb114 ≠ gb101)); clear HO112; clear BK101; clear HB; have HO112 := n0_; have BK101 := n1_; have HB := n2_; have BK114 := n3_; have GW114 := n4_; have GE114 := n5_; have NB101_114 := n6_; have NB114_101 := n7_; clear n0_ n1_ n2_ n3_ n4_ n5_ n6_ n7_; clear hb hbox hg; have hnb35 := NB114_101.out; have hnc35 := NB101_114.out; have hcz36_0 : w34.cell? ⟨gb114, 0, none⟩ = some (.string (⟨#[]⟩ : ByteArray)) := (blk_cell BK114.out 0).trans rfl; have hcz36_1 : w34.cell? ⟨gb114, 1, none⟩ = some (.bool false) := (blk_cell BK114.out 1).trans rfl; have hcz36_2 : w34.cell? ⟨gb114, 2, none⟩ = some (.slice none 0 0) := (blk_cell BK114.out 2).trans rfl; have hfz36_0 := blk_frozen BK114.out 0; have hfz36_1 := blk_frozen BK114.out 1; have hfz36_2 := blk_frozen BK114.out 2; obtain ⟨Ao37, co37, eo37⟩ := Kd.R_slice HO112.out; subst eo37) | ((with_reducible refine gate_callee (f := 52) rfl ?_); refine goesL_ (some 50) rfl rfl Try.func52 (by kernel_rfl) rfl #[.string t105, .int .i64 16, .int .i64 (wrap64 ((wrap64 (t107 - 1)) - (Int.tmod (wrap64 (a1)) t107)))] rfl (by (try simp only [List.map_toArray, List.map_cons, List.map_nil]); first | done | rfl | (simp only [List.length_drop, List.length_take]; rfl)) ?_; (with_reducible refine (rlp_Get.calls t105 16 (wrap64 ((wrap64 (t107 - 1)) - (Int.tmod (wrap64 (a1)) t107))) t115 t116 t117 t120 _ A24.out).mono ?_); rintro e w38 ⟨v118, rfl, ho0, hb⟩; refine ⟨_, rfl, ?_⟩; have n0_ := Aside0.mk (Kd.R_elder' (by (with_reducible repeat (first | apply Kd.R_alloc | apply Kd.R_drewN | apply Kd.R_drew)); exact (Kd.R_mono (Kd.R_far (p := ⟨gb114, 2, none⟩) (Kd.R_far (p := ⟨gb114, 1, none⟩) (Kd.R_far (p := ⟨gb114, 0, none⟩) (Kd.R_mono HO112.out (fun k_ hk => (⟨hk, hk.2⟩ : _ ∧ k_ ≠ gb114))) (fun _ hk => hk.2) (.string t108)) (fun _ hk => hk.2) (.bool t109)) (fun _ hk => hk.2) (.slice Ao37 t110.length co37)) (fun _ h_ => h_.1))) (Kd.R_base ho0) hb); have n1_ := Aside0.mk (Kd.R_lower (Kd.R_newB (Kd.R_newB (Kd.R_new' ho0 (Kd.R_lt (by (with_reducible repeat (first | apply Kd.R_alloc | apply Kd.R_drewN | apply Kd.R_drew)); exact (Kd.R_mono (Kd.R_far (p := ⟨gb114, 2, none⟩) (Kd.R_far (p := ⟨gb114, 1, none⟩) (Kd.R_far (p := ⟨gb114, 0, none⟩) (Kd.R_mono HO112.out (fun k_ hk => (⟨hk, hk.2⟩ : _ ∧ k_ ≠ gb114))) (fun _ hk => hk.2) (.string t108)) (fun _ hk => hk.2) (.bool t109)) (fun _ hk => hk.2) (.slice Ao37 t110.length co37)) (fun _ h_ => h_.1))))) (g := gb101) (o := .cells #[.string a0_0, .bool a0_1, .slice A0_2 l0_2.length c0_2] 62 (0, 0)) (by (with_reducible repeat (first | refine blk_drewN ?_ _ | refine blk_drew ?_ | refine blk_alloc ?_ _)); refine blk_far ?_ NB101_114.out _; (with_reducible repeat (first | refine blk_drewN ?_ _ | refine blk_drew ?_ | refine blk_alloc ?_ _)); refine blk_far ?_ NB101_114.out _; (with_reducible repeat (first | refine blk_drewN ?_ _ | refine blk_drew ?_ | refine blk_alloc ?_ _)); refine blk_far ?_ NB101_114.out _; (with_reducible repeat (first | refine blk_drewN ?_ _ | refine blk_drew ?_ | refine blk_alloc ?_ _)); exact BK101.out)) (g := gb114) (o := .cells #[.string t108, .bool t109, .slice Ao37 t110.length co37] 62 (0, 0)) (by (with_reducible repeat (first | refine blk_drewN ?_ _ | refine blk_drew ?_ | refine blk_alloc ?_ _)); refine blk_put (cs := #[.string t108, .bool t109, .slice none 0 0]) ?_ 2 _ rfl; (with_reducible repeat (first | refine blk_drewN ?_ _ | refine blk_drew ?_ | refine blk_alloc ?_ _)); refine blk_put (cs := #[.string t108, .bool false, .slice none 0 0]) ?_ 1 _ rfl; (with_reducible repeat (first | refine blk_drewN ?_ _ | refine blk_drew ?_ | refine blk_alloc ?_ _)); refine blk_put (cs := #[.string (⟨#[]⟩ : ByteArray), .bool false, .slice none 0 0]) ?_ 0 _ rfl; (with_reducible repeat (first | refine blk_drewN ?_ _ | refine blk_drew ?_ | refine blk_alloc ?_ _)); exact BK114.out)) (below_size (by repeat (first | (with_reducible first | exact HB.out | apply below_alloc | apply pw_below_drewN | apply below_drew1 | refine below_set ?_ GE101.out | refine below_set ?_ GE114.out) | exact HB.out)))); have n2_ := Aside0.mk (blk_below (g := gb101) (o := .cells #[.string a0_0, .bool a0_1, .slice A0_2 l0_2.length c0_2] 62 (0, 0)) (by (with_reducible repeat (first | refine blk_drewN ?_ _ | refine blk_drew ?_ | refine blk_alloc ?_ _)); refine blk_far ?_ NB101_114.out _; (with_reducible repeat (first | refine blk_drewN ?_ _ | refine blk_drew ?_ | refine blk_alloc ?_ _)); refine blk_far ?_ NB101_114.out _; (with_reducible repeat (first | refine blk_drewN ?_ _ | refine blk_drew ?_ | refine blk_alloc ?_ _)); refine blk_far ?_ NB101_114.out _; (with_reducible repeat (first | refine blk_drewN ?_ _ | refine blk_drew ?_ | refine blk_alloc ?_ _)); exact BK101.out) hb); have n3_ := Aside0.mk (blk_below (g := gb114) (o := .cells #[.string t108, .bool t109, .slice Ao37 t110.length co37] 62 (0, 0)) (by (with_reducible repeat (first | refine blk_drewN ?_ _ | refine blk_drew ?_ | refine blk_alloc ?_ _)); refine blk_put (cs := #[.string t108, .bool t109, .slice none 0 0]) ?_ 2 _ rfl; (with_reducible repeat (first | refine blk_drewN ?_ _ | refine blk_drew ?_ | refine blk_alloc ?_ _)); refine blk_put (cs := #[.string t108, .bool false, .slice none 0 0]) ?_ 1 _ rfl; (with_reducible repeat (first | refine blk_drewN ?_ _ | refine blk_drew ?_ | refine blk_alloc ?_ _)); refine blk_put (cs := #[.string (⟨#[]⟩ : ByteArray), .bool false, .slice none 0 0]) ?_ 0 _ rfl; (with_reducible repeat (first | refine blk_drewN ?_ _ | refine blk_drew ?_ | refine blk_alloc ?_ _)); exact BK114.out) hb); have n4_ := Aside0.mk (below_step (by repeat (first | (with_reducible first | exact HB.out | apply below_alloc | apply pw_below_drewN | apply below_drew1 | refine below_set ?_ GE101.out | refine below_set ?_ GE114.out) | exact HB.out)) hb); clear HO112; clear BK101; clear BK114; clear HB; have HO112 := n0_; have HO119 := n1_; have BK101 := n2_; have BK114 := n3_; have HB := n4_; clear n0_ n1_ n2_ n3_ n4_; (try clear hb); (try clear hb2); (try clear hk); (try clear hi); (try clear ho0)) | ((with_reducible refine gate_dst (N := 10) rfl ?_); refine box_event ?hg (N := 10) ?hd (cs := #[.string (⟨#[]⟩ : ByteArray), .bool false, .slice none 0 0]) (t := 62) ?hr ?_; (case hd => rfl); (case hg => rfl); (case hr => first | (go_simp; done) | (go_simp; rfl)); intro gb121 hg w39 hbox hb; have n0_ := Aside0.mk (Kd.R_below (Kd.R_elderB (by (with_reducible repeat (first | apply Kd.R_alloc | apply Kd.R_drewN | apply Kd.R_drew)); exact HO112.out) gb121 (Nat.le_of_eq hg.symm)) hb); have n1_ := Aside0.mk (Kd.R_below (Kd.R_elderB (by (with_reducible repeat (first | apply Kd.R_alloc | apply Kd.R_drewN | apply Kd.R_drew)); exact HO119.out) gb121 (Nat.le_of_eq hg.symm)) hb); have n2_ := Aside0.mk (blk_below (g := gb101) (o := .cells #[.string a0_0, .bool a0_1, .slice A0_2 l0_2.length c0_2] 62 (0, 0)) (by (with_reducible repeat (first | refine blk_drewN ?_ _ | refine blk_drew ?_ | refine blk_alloc ?_ _)); exact BK101.out) hb); have n3_ := Aside0.mk (blk_below (g := gb114) (o := .cells #[.string t108, .bool t109, .slice Ao37 t110.length co37] 62 (0, 0)) (by (with_reducible repeat (first | refine blk_drewN ?_ _ | refine blk_drew ?_ | refine blk_alloc ?_ _)); exact BK114.out) hb); have n4_ := Aside0.mk (below_step (by repeat (first | (with_reducible first | exact HB.out | apply below_alloc | apply pw_below_drewN | apply below_drew1 | refine below_set ?_ GE101.out | refine below_set ?_ GE114.out) | exact HB.out)) hb); have n5_ := Aside0.mk (hbox); have n6_ := Aside0.mk ((by rw [hg]; exact (below_size (by repeat (first | (with_reducible first | exact HB.out | apply below_alloc | apply pw_below_drewN | apply below_drew1 | refine below_set ?_ GE101.out | refine below_set ?_ GE114.out) | exact HB.out))) : w.heap.size ≤ gb121)); have n7_ := Aside0.mk ((by rw [hg]; exact (below_size (by repeat (first | (with_reducible first | exact HB.out | apply below_alloc | apply pw_below_drewN | apply below_drew1 | refine below_set ?_ GE101.out | refine below_set ?_ GE114.out) | exact HB.out))) : w.heap.size ≤ gb121)); have n8_ := Aside0.mk ((by rw [hg]; exact Nat.ne_of_lt (blk_lt (g := gb101) (o := .cells #[.string a0_0, .bool a0_1, .slice A0_2 l0_2.length c0_2] 62 (0, 0)) (by (with_reducible repeat (first | refine blk_drewN ?_ _ | refine blk_drew ?_ | refine blk_alloc ?_ _)); exact BK101.out)) : gb101 ≠ gb121)); have n9_ := Aside0.mk ((by rw [hg]; exact Nat.ne_of_gt (blk_lt (g := gb101) (o := .cells #[.string a0_0, .bool a0_1, .slice A0_2 l0_2.length c0_2] 62 (0, 0)) (by (with_reducible repeat (first | refine blk_drewN ?_ _ | refine blk_drew ?_ | refine blk_alloc ?_ _)); exact BK101.out)) : gb121 ≠ gb101)); have n10_ := Aside0.mk ((by rw [hg]; exact Nat.ne_of_lt (blk_lt (g := gb114) (o := .cells #[.string t108, .bool t109, .slice Ao37 t110.length co37] 62 (0, 0)) (by (with_reducible repeat (first | refine blk_drewN ?_ _ | refine blk_drew ?_ | refine blk_alloc ?_ _)); exact BK114.out)) : gb114 ≠ gb121)); have n11_ := Aside0.mk ((by rw [hg]; exact Nat.ne_of_gt (blk_lt (g := gb114) (o := .cells #[.string t108, .bool t109, .slice Ao37 t110.length co37] 62 (0, 0)) (by (with_reducible repeat (first | refine blk_drewN ?_ _ | refine blk_drew ?_ | refine blk_alloc ?_ _)); exact BK114.out)) : gb121 ≠ gb114)); clear HO112; clear HO119; clear BK101; clear BK114; clear HB; have HO112 := n0_; have HO119 := n1_; have BK101 := n2_; have BK114 := n3_; have HB := n4_; have BK121 := n5_; have GW121 := n6_; have GE121 := n7_; have NB101_121 := n8_; have NB121_101 := n9_; have NB114_121 := n10_; have NB121_114 := n11_; clear n0_ n1_ n2_ n3_ n4_ n5_ n6_ n7_ n8_ n9_ n10_ n11_; clear hb hbox hg; have hnb40 := NB121_101.out; have hnc40 := NB101_121.out; have hnb41 := NB121_114.out; have hnc41 := NB114_121.out; have hcz42_0 : w39.cell? ⟨gb121, 0, none⟩ = some (.string (⟨#[]⟩ : ByteArray)) := (blk_cell BK121.out 0).trans rfl; have hcz42_1 : w39.cell? ⟨gb121, 1, none⟩ = some (.bool false) := (blk_cell BK121.out 1).trans rfl; have hcz42_2 : w39.cell? ⟨gb121, 2, none⟩ = some (.slice none 0 0) := (blk_cell BK121.out 2).trans rfl; have hfz42_0 := blk_frozen BK121.out 0; have hfz42_1 := blk_frozen BK121.out 1; have hfz42_2 := blk_frozen BK121.out 2; obtain ⟨Ao43, co43, eo43⟩ := Kd.R_slice HO119.out; subst eo43) | ((with_reducible refine gate_callee (f := 52) rfl ?_); refine goesL_ (some 57) rfl rfl Try.func52 (by kernel_rfl) rfl #[.string t105, .int .i64 t106, .int .i64 t107] rfl (by (try simp only [List.map_toArray, List.map_cons, List.map_nil]); first | done | rfl | (simp only [List.length_drop, List.length_take]; rfl)) ?_; (with_reducible refine (rlp_Get.calls t105 t106 t107 t122 t123 t124 t127 _ A25.out).mono ?_); rintro e w44 ⟨v125, rfl, ho0, hb⟩; refine ⟨_, rfl, ?_⟩; have n0_ := Aside0.mk (Kd.R_elder' (by (with_reducible repeat (first | apply Kd.R_alloc | apply Kd.R_drewN | apply Kd.R_drew)); exact (Kd.R_mono (Kd.R_far (p := ⟨gb121, 2, none⟩) (Kd.R_far (p := ⟨gb121, 1, none⟩) (Kd.R_far (p := ⟨gb121, 0, none⟩) (Kd.R_mono HO112.out (fun k_ hk => (⟨hk, hk.2⟩ : _ ∧ k_ ≠ gb121))) (fun _ hk => hk.2) (.string t115)) (fun _ hk => hk.2) (.bool t116)) (fun _ hk => hk.2) (.slice Ao43 t117.length co43)) (fun _ h_ => h_.1))) (Kd.R_base ho0) hb); have n1_ := Aside0.mk (Kd.R_elder' (by (with_reducible repeat (first | apply Kd.R_alloc | apply Kd.R_drewN | apply Kd.R_drew)); exact (Kd.R_mono (Kd.R_far (p := ⟨gb121, 2, none⟩) (Kd.R_far (p := ⟨gb121, 1, none⟩) (Kd.R_far (p := ⟨gb121, 0, none⟩) (Kd.R_mono HO119.out (fun k_ hk => (⟨hk, hk.2⟩ : _ ∧ k_ ≠ gb121))) (fun _ hk => hk.2) (.string t115)) (fun _ hk => hk.2) (.bool t116)) (fun _ hk => hk.2) (.slice Ao43 t117.length co43)) (fun _ h_ => h_.1))) (Kd.R_base ho0) hb); have n2_ := Aside0.mk (Kd.R_lower (Kd.R_newB (Kd.R_newB (Kd.R_newB (Kd.R_new' (Kd.R_new' ho0 (Kd.R_lt (by (with_reducible repeat (first | apply Kd.R_alloc | apply Kd.R_drewN | apply Kd.R_drew)); exact (Kd.R_mono (Kd.R_far (p := ⟨gb121, 2, none⟩) (Kd.R_far (p := ⟨gb121, 1, none⟩) (Kd.R_far (p := ⟨gb121, 0, none⟩) (Kd.R_mono HO112.out (fun k_ hk => (⟨hk, hk.2⟩ : _ ∧ k_ ≠ gb121))) (fun _ hk => hk.2) (.string t115)) (fun _ hk => hk.2) (.bool t116)) (fun _ hk => hk.2) (.slice Ao43 t117.length co43)) (fun _ h_ => h_.1))))) (Kd.R_lt (by (with_reducible repeat (first | apply Kd.R_alloc | apply Kd.R_drewN | apply Kd.R_drew)); exact (Kd.R_mono (Kd.R_far (p := ⟨gb121, 2, none⟩) (Kd.R_far (p := ⟨gb121, 1, none⟩) (Kd.R_far (p := ⟨gb121, 0, none⟩) (Kd.R_mono HO119.out (fun k_ hk => (⟨hk, hk.2⟩ : _ ∧ k_ ≠ gb121))) (fun _ hk => hk.2) (.string t115)) (fun _ hk => hk.2) (.bool t116)) (fun _ hk => hk.2) (.slice Ao43 t117.length co43)) (fun _ h_ => h_.1))))) (g := gb101) (o := .cells #[.string a0_0, .bool a0_1, .slice A0_2 l0_2.length c0_2] 62 (0, 0)) (by (with_reducible repeat (first | refine blk_drewN ?_ _ | refine blk_drew ?_ | refine blk_alloc ?_ _)); refine blk_far ?_ NB101_121.out _; (with_reducible repeat (first | refine blk_drewN ?_ _ | refine blk_drew ?_ | refine blk_alloc ?_ _)); refine blk_far ?_ NB101_121.out _; (with_reducible repeat (first | refine blk_drewN ?_ _ | refine blk_drew ?_ | refine blk_alloc ?_ _)); refine blk_far ?_ NB101_121.out _; (with_reducible repeat (first | refine blk_drewN ?_ _ | refine blk_drew ?_ | refine blk_alloc ?_ _)); exact BK101.out)) (g := gb114) (o := .cells #[.string t108, .bool t109, .slice Ao37 t110.length co37] 62 (0, 0)) (by (with_reducible repeat (first | refine blk_drewN ?_ _ | refine blk_drew ?_ | refine blk_alloc ?_ _)); refine blk_far ?_ NB114_121.out _; (with_reducible repeat (first | refine blk_drewN ?_ _ | refine blk_drew ?_ | refine blk_alloc ?_ _)); refine blk_far ?_ NB114_121.out _; (with_reducible repeat (first | refine blk_drewN ?_ _ | refine blk_drew ?_ | refine blk_alloc ?_ _)); refine blk_far ?_ NB114_121.out _; (with_reducible repeat (first | refine blk_drewN ?_ _ | refine blk_drew ?_ | refine blk_alloc ?_ _)); exact BK114.out)) (g := gb121) (o := .cells #[.string t115, .bool t116, .slice Ao43 t117.length co43] 62 (0, 0)) (by (with_reducible repeat (first | refine blk_drewN ?_ _ | refine blk_drew ?_ | refine blk_alloc ?_ _)); refine blk_put (cs := #[.string t115, .bool t116, .slice none 0 0]) ?_ 2 _ rfl; (with_reducible repeat (first | refine blk_drewN ?_ _ | refine blk_drew ?_ | refine blk_alloc ?_ _)); refine blk_put (cs := #[.string t115, .bool false, .slice none 0 0]) ?_ 1 _ rfl; (with_reducible repeat (first | refine blk_drewN ?_ _ | refine blk_drew ?_ | refine blk_alloc ?_ _)); refine blk_put (cs := #[.string (⟨#[]⟩ : ByteArray), .bool false, .slice none 0 0]) ?_ 0 _ rfl; (with_reducible repeat (first | refine blk_drewN ?_ _ | refine blk_drew ?_ | refine blk_alloc ?_ _)); exact BK121.out)) (below_size (by repeat (first | (with_reducible first | exact HB.out | apply below_alloc | apply pw_below_drewN | apply below_drew1 | refine below_set ?_ GE101.out | refine below_set ?_ GE114.out | refine below_set ?_ GE121.out) | exact HB.out)))); have n3_ := Aside0.mk (blk_below (g := gb101) (o := .cells #[.string a0_0, .bool a0_1, .slice A0_2 l0_2.length c0_2] 62 (0, 0)) (by (with_reducible repeat (first | refine blk_drewN ?_ _ | refine blk_drew ?_ | refine blk_alloc ?_ _)); refine blk_far ?_ NB101_121.out _; (with_reducible repeat (first | refine blk_drewN ?_ _ | refine blk_drew ?_ | refine blk_alloc ?_ _)); refine blk_far ?_ NB101_121.out _; (with_reducible repeat (first | refine blk_drewN ?_ _ | refine blk_drew ?_ | refine blk_alloc ?_ _)); refine blk_far ?_ NB101_121.out _; (with_reducible repeat (first | refine blk_drewN ?_ _ | refine blk_drew ?_ | refine blk_alloc ?_ _)); exact BK101.out) hb); have n4_ := Aside0.mk (blk_below (g := gb114) (o := .cells #[.string t108, .bool t109, .slice Ao37 t110.length co37] 62 (0, 0)) (by (with_reducible repeat (first | refine blk_drewN ?_ _ | refine blk_drew ?_ | refine blk_alloc ?_ _)); refine blk_far ?_ NB114_121.out _; (with_reducible repeat (first | refine blk_drewN ?_ _ | refine blk_drew ?_ | refine blk_alloc ?_ _)); refine blk_far ?_ NB114_121.out _; (with_reducible repeat (first | refine blk_drewN ?_ _ | refine blk_drew ?_ | refine blk_alloc ?_ _)); refine blk_far ?_ NB114_121.out _; (with_reducible repeat (first | refine blk_drewN ?_ _ | refine blk_drew ?_ | refine blk_alloc ?_ _)); exact BK114.out) hb); have n5_ := Aside0.mk (blk_below (g := gb121) (o := .cells #[.string t115, .bool t116, .slice Ao43 t117.length co43] 62 (0, 0)) (by (with_reducible repeat (first | refine blk_drewN ?_ _ | refine blk_drew ?_ | refine blk_alloc ?_ _)); refine blk_put (cs := #[.string t115, .bool t116, .slice none 0 0]) ?_ 2 _ rfl; (with_reducible repeat (first | refine blk_drewN ?_ _ | refine blk_drew ?_ | refine blk_alloc ?_ _)); refine blk_put (cs := #[.string t115, .bool false, .slice none 0 0]) ?_ 1 _ rfl; (with_reducible repeat (first | refine blk_drewN ?_ _ | refine blk_drew ?_ | refine blk_alloc ?_ _)); refine blk_put (cs := #[.string (⟨#[]⟩ : ByteArray), .bool false, .slice none 0 0]) ?_ 0 _ rfl; (with_reducible repeat (first | refine blk_drewN ?_ _ | refine blk_drew ?_ | refine blk_alloc ?_ _)); exact BK121.out) hb); have n6_ := Aside0.mk (below_step (by repeat (first | (with_reducible first | exact HB.out | apply below_alloc | apply pw_below_drewN | apply below_drew1 | refine below_set ?_ GE101.out | refine below_set ?_ GE114.out | refine below_set ?_ GE121.out) | exact HB.out)) hb); clear HO112; clear HO119; clear BK101; clear BK114; clear BK121; clear HB; have HO112 := n0_; have HO119 := n1_; have HO126 := n2_; have BK101 := n3_; have BK114 := n4_; have BK121 := n5_; have HB := n6_; clear n0_ n1_ n2_ n3_ n4_ n5_ n6_; (try clear hb); (try clear hb2); (try clear hk); (try clear hi); (try clear ho0)) | ((with_reducible refine gate_dst (N := 12) rfl ?_); refine box_event ?hg (N := 12) ?hd (cs := #[.string (⟨#[]⟩ : ByteArray), .bool false, .slice none 0 0]) (t := 62) ?hr ?_; (case hd => rfl); (case hg => rfl); (case hr => first | (go_simp; done) | (go_simp; rfl)); intro gb128 hg w45 hbox hb; have n0_ := Aside0.mk (Kd.R_below (Kd.R_elderB (by (with_reducible repeat (first | apply Kd.R_alloc | apply Kd.R_drewN | apply Kd.R_drew)); exact HO112.out) gb128 (Nat.le_of_eq hg.symm)) hb); have n1_ := Aside0.mk (Kd.R_below (Kd.R_elderB (by (with_reducible repeat (first | apply Kd.R_alloc | apply Kd.R_drewN | apply Kd.R_drew)); exact HO119.out) gb128 (Nat.le_of_eq hg.symm)) hb); have n2_ := Aside0.mk (Kd.R_below (Kd.R_elderB (by (with_reducible repeat (first | apply Kd.R_alloc | apply Kd.R_drewN | apply Kd.R_drew)); exact HO126.out) gb128 (Nat.le_of_eq hg.symm)) hb); have n3_ := Aside0.mk (blk_below (g := gb101) (o := .cells #[.string a0_0, .bool a0_1, .slice A0_2 l0_2.length c0_2] 62 (0, 0)) (by (with_reducible repeat (first | refine blk_drewN ?_ _ | refine blk_drew ?_ | refine blk_alloc ?_ _)); exact BK101.out) hb); have n4_ := Aside0.mk (blk_below (g := gb114) (o := .cells #[.string t108, .bool t109, .slice Ao37 t110.length co37] 62 (0, 0)) (by (with_reducible repeat (first | refine blk_drewN ?_ _ | refine blk_drew ?_ | refine blk_alloc ?_ _)); exact BK114.out) hb); have n5_ := Aside0.mk (blk_below (g := gb121) (o := .cells #[.string t115, .bool t116, .slice Ao43 t117.length co43] 62 (0, 0)) (by (with_reducible repeat (first | refine blk_drewN ?_ _ | refine blk_drew ?_ | refine blk_alloc ?_ _)); exact BK121.out) hb); have n6_ := Aside0.mk (below_step (by repeat (first | (with_reducible first | exact HB.out | apply below_alloc | apply pw_below_drewN | apply below_drew1 | refine below_set ?_ GE101.out | refine below_set ?_ GE114.out | refine below_set ?_ GE121.out) | exact HB.out)) hb); have n7_ := Aside0.mk (hbox); have n8_ := Aside0.mk ((by rw [hg]; exact (below_size (by repeat (first | (with_reducible first | exact HB.out | apply below_alloc | apply pw_below_drewN | apply below_drew1 | refine below_set ?_ GE101.out | refine below_set ?_ GE114.out | refine below_set ?_ GE121.out) | exact HB.out))) : w.heap.size ≤ gb128)); have n9_ := Aside0.mk ((by rw [hg]; exact (below_size (by repeat (first | (with_reducible first | exact HB.out | apply below_alloc | apply pw_below_drewN | apply below_drew1 | refine below_set ?_ GE101.out | refine below_set ?_ GE114.out | refine below_set ?_ GE121.out) | exact HB.out))) : w.heap.size ≤ gb128)); have n10_ := Aside0.mk ((by rw [hg]; exact Nat.ne_of_lt (blk_lt (g := gb101) (o := .cells #[.string a0_0, .bool a0_1, .slice A0_2 l0_2.length c0_2] 62 (0, 0)) (by (with_reducible repeat (first | refine blk_drewN ?_ _ | refine blk_drew ?_ | refine blk_alloc ?_ _)); exact BK101.out)) : gb101 ≠ gb128)); have n11_ := Aside0.mk ((by rw [hg]; exact Nat.ne_of_gt (blk_lt (g := gb101) (o := .cells #[.string a0_0, .bool a0_1, .slice A0_2 l0_2.length c0_2] 62 (0, 0)) (by (with_reducible repeat (first | refine blk_drewN ?_ _ | refine blk_drew ?_ | refine blk_alloc ?_ _)); exact BK101.out)) : gb128 ≠ gb101)); have n12_ := Aside0.mk ((by rw [hg]; exact Nat.ne_of_lt (blk_lt (g := gb114) (o := .cells #[.string t108, .bool t109, .slice Ao37 t110.length co37] 62 (0, 0)) (by (with_reducible repeat (first | refine blk_drewN ?_ _ | refine blk_drew ?_ | refine blk_alloc ?_ _)); exact BK114.out)) : gb114 ≠ gb128)); have n13_ := Aside0.mk ((by rw [hg]; exact Nat.ne_of_gt (blk_lt (g := gb114) (o := .cells #[.string t108, .bool t109, .slice Ao37 t110.length co37] 62 (0, 0)) (by (with_reducible repeat (first | refine blk_drewN ?_ _ | refine blk_drew ?_ | refine blk_alloc ?_ _)); exact BK114.out)) : gb128 ≠ gb114)); have n14_ := Aside0.mk ((by rw [hg]; exact Nat.ne_of_lt (blk_lt (g := gb121) (o := .cells #[.string t115, .bool t116, .slice Ao43 t117.length co43] 62 (0, 0)) (by (with_reducible repeat (first | refine blk_drewN ?_ _ | refine blk_drew ?_ | refine blk_alloc ?_ _)); exact BK121.out)) : gb121 ≠ gb128)); have n15_ := Aside0.mk ((by rw [hg]; exact Nat.ne_of_gt (blk_lt (g := gb121) (o := .cells #[.string t115, .bool t116, .slice Ao43 t117.length co43] 62 (0, 0)) (by (with_reducible repeat (first | refine blk_drewN ?_ _ | refine blk_drew ?_ | refine blk_alloc ?_ _)); exact BK121.out)) : gb128 ≠ gb121)); clear HO112; clear HO119; clear HO126; clear BK101; clear BK114; clear BK121; clear HB; have HO112 := n0_; have HO119 := n1_; have HO126 := n2_; have BK101 := n3_; have BK114 := n4_; have BK121 := n5_; have HB := n6_; have BK128 := n7_; have GW128 := n8_; have GE128 := n9_; have NB101_128 := n10_; have NB128_101 := n11_; have NB114_128 := n12_; have NB128_114 := n13_; have NB121_128 := n14_; have NB128_121 := n15_; clear n0_ n1_ n2_ n3_ n4_ n5_ n6_ n7_ n8_ n9_ n10_ n11_ n12_ n13_ n14_ n15_; clear hb hbox hg; have hnb46 := NB128_101.out; have hnc46 := NB101_128.out; have hnb47 := NB128_114.out; have hnc47 := NB114_128.out; have hnb48 := NB128_121.out; have hnc48 := NB121_128.out; have hcz49_0 : w45.cell? ⟨gb128, 0, none⟩ = some (.string (⟨#[]⟩ : ByteArray)) := (blk_cell BK128.out 0).trans rfl; have hcz49_1 : w45.cell? ⟨gb128, 1, none⟩ = some (.bool false) := (blk_cell BK128.out 1).trans rfl; have hcz49_2 : w45.cell? ⟨gb128, 2, none⟩ = some (.slice none 0 0) := (blk_cell BK128.out 2).trans rfl; have hfz49_0 := blk_frozen BK128.out 0; have hfz49_1 := blk_frozen BK128.out 1; have hfz49_2 := blk_frozen BK128.out 2; obtain ⟨Ao50, co50, eo50⟩ := Kd.R_slice HO126.out; subst eo50))
         go_ret
         exact ⟨by first | rfl | (simp [errW_none, errW_some] <;> rfl) | (simp [*, errW_none, errW_some] <;> rfl), by repeat (first | (with_reducible first | exact HB.out | apply below_alloc | apply pw_below_drewN | apply below_drew1 | refine below_set ?_ GE101.out | refine below_set ?_ GE114.out | refine below_set ?_ GE121.out | refine below_set ?_ GE128.out) | exact HB.out)⟩
        ·rw [if_neg c27] at H
         have c27b0 : (t120 == 4) = false := beq_eq_false_iff_ne.mpr c27
         have c27b1 : (t120 != 4) = true := bne_iff_ne.mpr c27
         obtain rfl := Option.some.inj H
         have hcz51_0 : wc.cell? ⟨gb101, 0, none⟩ = some (.string a0_0) := (blk_cell BK101.out 0).trans rfl
         have hcz51_1 : wc.cell? ⟨gb101, 1, none⟩ = some (.bool a0_1) := (blk_cell BK101.out 1).trans rfl
         have hcz51_2 : wc.cell? ⟨gb101, 2, none⟩ = some (.slice A0_2 l0_2.length c0_2) := (blk_cell BK101.out 2).trans rfl
         have hfz51_0 := blk_frozen BK101.out 0
         have hfz51_1 := blk_frozen BK101.out 1
         have hfz51_2 := blk_frozen BK101.out 2
         try go_wp2_with (first | ((with_reducible refine gate_callee (f := 45) rfl ?_); refine goesL_ (some 24) rfl rfl Try.func45 (by kernel_rfl) rfl #[.agg #[.string a0_0, .bool a0_1, .slice A0_2 l0_2.length c0_2]] rfl (by (try simp only [List.map_toArray, List.map_cons, List.map_nil]); first | done | rfl | (simp only [List.length_drop, List.length_take]; rfl)) ?_; (with_reducible refine (hatchwayref09_Put.calls kj4 a0_0 a0_1 _ _ l0_2 t105 _ ?side1 ?side2 A18.out).mono ?_); (case side1 => repeat (first | exact (Kd.C_below HR0_2.out HB.out) | (with_reducible refine Kd.C_alloc ?_ _) | (with_reducible refine Kd.C_drewN ?_ _) | (with_reducible refine Kd.C_drew ?_))); (case side2 => exact HC0_2.out); rintro e w52 ⟨rfl, hb⟩; refine ⟨_, rfl, ?_⟩; have n0_ := Aside0.mk (blk_below (g := gb101) (o := .cells #[.string a0_0, .bool a0_1, .slice A0_2 l0_2.length c0_2] 62 (0, 0)) (by (with_reducible repeat (first | refine blk_drewN ?_ _ | refine blk_drew ?_ | refine blk_alloc ?_ _)); exact BK101.out) hb); have n1_ := Aside0.mk (below_step (by repeat (first | (with_reducible first | exact HB.out | apply below_alloc | apply pw_below_drewN | apply below_drew1 | refine below_set ?_ GE101.out) | exact HB.out)) hb); clear BK101; clear HB; have BK101 := n0_; have HB := n1_; clear n0_ n1_; (try clear hb); (try clear hb2); (try clear hk); (try clear hi)))
         have n0_ := Aside0.mk (blk_drew BK101.out)
         have n1_ := Aside0.mk (below_drew1 HB.out)
         clear BK101
         clear HB
         have BK101 := n0_
         have HB := n1_
         clear n0_ n1_
         refine start_ (n := 6) (S := fun w' => w'.cell? ⟨gb101, 0, none⟩ = some (.string a0_0) ∧ w'.cell? ⟨gb101, 1, none⟩ = some (.bool a0_1) ∧ w'.cell? ⟨gb101, 2, none⟩ = some (.slice A0_2 l0_2.length c0_2)) (ds := []) #[false, false, false, false, false, false] (by kernel_rfl) rfl rfl ⟨(blk_cell BK101.out 0).trans rfl, (blk_cell BK101.out 1).trans rfl, (blk_cell BK101.out 2).trans rfl⟩ (fun hHeld => ?_)
         generalize w52.drew = w53 at BK101 HB hHeld ⊢
         refine take_ (i := 0) (N := some 25) (v := ?_) (a' := ?_) #[true, false, false, false, false, false] rfl rfl (by kernel_rfl) (fun _ _ _ h => h) (Or.inl ⟨by rfl, ?_⟩) hHeld ?_ ?_
         rotate_left
         ·rintro w' ⟨s0, s1, s2⟩
          go_simp
          with_reducible rfl
         rotate_left
         ·simp only [Act.put, List.setIfInBounds_toArray, List.set_cons_zero, List.set_cons_succ, i64_w, i32_w]
          rfl
         refine take_ (i := 2) (N := some 27) (v := ?_) (a' := ?_) #[true, false, true, false, false, false] rfl rfl (by kernel_rfl) (fun _ _ _ h => h) (Or.inl ⟨by rfl, ?_⟩) hHeld ?_ ?_
         rotate_left
         ·rintro w' ⟨s0, s1, s2⟩
          go_simp
          with_reducible rfl
         rotate_left
         ·simp only [Act.put, List.setIfInBounds_toArray, List.set_cons_zero, List.set_cons_succ, i64_w, i32_w]
          rfl
         refine one_ (i := 1) (N := some 26) #[true, true, true, false, false, false] rfl rfl (by kernel_rfl) (by decide) (fun K hK => ?_)
         refine goes_ Try.func50 (by kernel_rfl) rfl #[.agg #[.string a0_0, .bool a0_1, .slice A0_2 l0_2.length c0_2]] (by rfl) rfl rfl (by (try simp only [List.map_toArray, List.map_cons, List.map_nil]); first | done | rfl | (simp only [List.length_drop, List.length_take]; rfl)) ?_
         with_reducible refine (hatchwayref08_Deep.calls kj4 a0_0 a0_1 _ _ l0_2 t106 _ ?side1 ?side2 A19.out).mono ?_
         (case side1 => repeat (first | exact (Kd.C_below HR0_2.out HB.out) | (with_reducible refine Kd.C_alloc ?_ _) | (with_reducible refine Kd.C_drewN ?_ _) | (with_reducible refine Kd.C_drew ?_)))
         (case side2 => exact HC0_2.out)
         rintro e w54 ⟨rfl, hb⟩
         refine ⟨_, rfl, ?_⟩
         have n0_ := Aside0.mk (blk_below (g := gb101) (o := .cells #[.string a0_0, .bool a0_1, .slice A0_2 l0_2.length c0_2] 62 (0, 0)) (by (with_reducible repeat (first | refine blk_drewN ?_ _ | refine blk_drew ?_ | refine blk_alloc ?_ _)); exact BK101.out) hb)
         have n1_ := Aside0.mk (below_step (by repeat (first | (with_reducible first | exact HB.out | apply below_alloc | apply pw_below_drewN | apply below_drew1 | refine below_set ?_ GE101.out) | exact HB.out)) hb)
         clear BK101
         clear HB
         have BK101 := n0_
         have HB := n1_
         clear n0_ n1_
         (try clear hb)
         (try clear hb2)
         (try clear hk)
         (try clear hi)
         refine hK.out _ _ ⟨(blk_cell BK101.out 0).trans rfl, (blk_cell BK101.out 1).trans rfl, (blk_cell BK101.out 2).trans rfl⟩ (fun hHeld => ?_)
         clear hK K
         refine norm_ (a' := ?_) ?_ ?_
         rotate_left
         ·show Act.put _ (some 26) _ = _
          simp only [Act.put, List.setIfInBounds_toArray, List.set_cons_zero, List.set_cons_succ, i64_w, i32_w]
          rfl
         refine one_ (i := 3) (N := some 28) #[true, true, true, true, false, false] rfl rfl (by kernel_rfl) (by decide) (fun K hK => ?_)
         refine goes_ Try.func51 (by kernel_rfl) rfl #[.agg #[.string a0_0, .bool a0_1, .slice A0_2 l0_2.length c0_2]] (by rfl) rfl rfl (by (try simp only [List.map_toArray, List.map_cons, List.map_nil]); first | done | rfl | (simp only [List.length_drop, List.length_take]; rfl)) ?_
         with_reducible refine (hatchwayref08_Count.calls kj4 a0_0 a0_1 _ _ l0_2 t107 _ ?side1 ?side2 A20.out).mono ?_
         (case side1 => repeat (first | exact (Kd.C_below HR0_2.out HB.out) | (with_reducible refine Kd.C_alloc ?_ _) | (with_reducible refine Kd.C_drewN ?_ _) | (with_reducible refine Kd.C_drew ?_)))
         (case side2 => exact HC0_2.out)
         rintro e w55 ⟨rfl, hb⟩
         refine ⟨_, rfl, ?_⟩
         have n0_ := Aside0.mk (blk_below (g := gb101) (o := .cells #[.string a0_0, .bool a0_1, .slice A0_2 l0_2.length c0_2] 62 (0, 0)) (by (with_reducible repeat (first | refine blk_drewN ?_ _ | refine blk_drew ?_ | refine blk_alloc ?_ _)); exact BK101.out) hb)
         have n1_ := Aside0.mk (below_step (by repeat (first | (with_reducible first | exact HB.out | apply below_alloc | apply pw_below_drewN | apply below_drew1 | refine below_set ?_ GE101.out) | exact HB.out)) hb)
         clear BK101
         clear HB
         have BK101 := n0_
         have HB := n1_
         clear n0_ n1_
         (try clear hb)
         (try clear hb2)
         (try clear hk)
         (try clear hi)
         refine hK.out _ _ ⟨(blk_cell BK101.out 0).trans rfl, (blk_cell BK101.out 1).trans rfl, (blk_cell BK101.out 2).trans rfl⟩ (fun hHeld => ?_)
         clear hK K
         refine norm_ (a' := ?_) ?_ ?_
         rotate_left
         ·show Act.put _ (some 28) _ = _
          simp only [Act.put, List.setIfInBounds_toArray, List.set_cons_zero, List.set_cons_succ, i64_w, i32_w]
          rfl
         refine pure_ (i := 4) (N := some 6) (v := ?_) (a' := ?_) #[true, true, true, true, true, false] rfl rfl (by kernel_rfl) (fun _ _ _ h => h) (Or.inl ⟨by rfl, ?_⟩) ?_ ?_
         rotate_left
         ·intro w'
          go_simp
          with_reducible rfl
         rotate_left
         ·simp only [Act.put, List.setIfInBounds_toArray, List.set_cons_zero, List.set_cons_succ, i64_w, i32_w]
          rfl
         refine pure_ (i := 5) (N := some 7) (v := ?_) (a' := ?_) #[true, true, true, true, true, true] rfl rfl (by kernel_rfl) (fun _ _ _ h => h) (Or.inl ⟨by rfl, ?_⟩) ?_ ?_
         rotate_left
         ·intro w'
          go_simp
          with_reducible rfl
         rotate_left
         ·simp only [Act.put, List.setIfInBounds_toArray, List.set_cons_zero, List.set_cons_succ, i64_w, i32_w]
          rfl
         refine done_ (by kernel_rfl) ?_
         try go_wp2_with (first | ((with_reducible refine gate_callee (f := 52) rfl ?_); refine goesL_ (some 38) rfl rfl Try.func52 (by kernel_rfl) rfl #[.string t105, .int .i64 (wrap64 ((wrap64 (t106 - 1)) - (Int.tmod (wrap64 (a1)) t106))), .int .i64 1024] rfl (by (try simp only [List.map_toArray, List.map_cons, List.map_nil]); first | done | rfl | (simp only [List.length_drop, List.length_take]; rfl)) ?_; (with_reducible refine (rlp_Get.calls t105 (wrap64 ((wrap64 (t106 - 1)) - (Int.tmod (wrap64 (a1)) t106))) 1024 t108 t109 t110 t113 _ A22.out).mono ?_); rintro e w56 ⟨v111, rfl, ho0, hb⟩; refine ⟨_, rfl, ?_⟩; have n0_ := Aside0.mk (Kd.R_lower (Kd.R_newB ho0 (g := gb101) (o := .cells #[.string a0_0, .bool a0_1, .slice A0_2 l0_2.length c0_2] 62 (0, 0)) (by (with_reducible repeat (first | refine blk_drewN ?_ _ | refine blk_drew ?_ | refine blk_alloc ?_ _)); exact BK101.out)) (below_size (by repeat (first | (with_reducible first | exact HB.out | apply below_alloc | apply pw_below_drewN | apply below_drew1 | refine below_set ?_ GE101.out) | exact HB.out)))); have n1_ := Aside0.mk (blk_below (g := gb101) (o := .cells #[.string a0_0, .bool a0_1, .slice A0_2 l0_2.length c0_2] 62 (0, 0)) (by (with_reducible repeat (first | refine blk_drewN ?_ _ | refine blk_drew ?_ | refine blk_alloc ?_ _)); exact BK101.out) hb); have n2_ := Aside0.mk (below_step (by repeat (first | (with_reducible first | exact HB.out | apply below_alloc | apply pw_below_drewN | apply below_drew1 | refine below_set ?_ GE101.out) | exact HB.out)) hb); clear BK101; clear HB; have HO112 := n0_; have BK101 := n1_; have HB := n2_; clear n0_ n1_ n2_; (try clear hb); (try clear hb2); (try clear hk); (try clear hi); (try clear ho0)) | ((with_reducible refine gate_dst (N := 8) rfl ?_); refine box_event ?hg (N := 8) ?hd (cs := #[.string (⟨#[]⟩ : ByteArray), .bool false, .slice none 0 0]) (t := 62) ?hr ?_; (case hd => rfl); (case hg => rfl); (case hr => first | (go_simp; done) | (go_simp; rfl)); intro gb114 hg w57 hbox hb; have n0_ := Aside0.mk (Kd.R_below (Kd.R_elderB (by (with_reducible repeat (first | apply Kd.R_alloc | apply Kd.R_drewN | apply Kd.R_drew)); exact HO112.out) gb114 (Nat.le_of_eq hg.symm)) hb); have n1_ := Aside0.mk (blk_below (g := gb101) (o := .cells #[.string a0_0, .bool a0_1, .slice A0_2 l0_2.length c0_2] 62 (0, 0)) (by (with_reducible repeat (first | refine blk_drewN ?_ _ | refine blk_drew ?_ | refine blk_alloc ?_ _)); exact BK101.out) hb); have n2_ := Aside0.mk (below_step (by repeat (first | (with_reducible first | exact HB.out | apply below_alloc | apply pw_below_drewN | apply below_drew1 | refine below_set ?_ GE101.out) | exact HB.out)) hb); have n3_ := Aside0.mk (hbox); have n4_ := Aside0.mk ((by rw [hg]; exact (below_size (by repeat (first | (with_reducible first | exact HB.out | apply below_alloc | apply pw_below_drewN | apply below_drew1 | refine below_set ?_ GE101.out) | exact HB.out))) : w.heap.size ≤ gb114)); have n5_ := Aside0.mk ((by rw [hg]; exact (below_size (by repeat (first | (with_reducible first | exact HB.out | apply below_alloc | apply pw_below_drewN | apply below_drew1 | refine below_set ?_ GE101.out) | exact HB.out))) : w.heap.size ≤ gb114)); have n6_ := Aside0.mk ((by rw [hg]; exact Nat.ne_of_lt (blk_lt (g := gb101) (o := .cells #[.string a0_0, .bool a0_1, .slice A0_2 l0_2.length c0_2] 62 (0, 0)) (by (with_reducible repeat (first | refine blk_drewN ?_ _ | refine blk_drew ?_ | refine blk_alloc ?_ _)); exact BK101.out)) : gb101 ≠ gb114)); have n7_ := Aside0.mk ((by rw [hg]; exact Nat.ne_of_gt (blk_lt (g := gb101) (o := .cells #[.string a0_0, .bool a0_1, .slice A0_2 l0_2.length c0_2] 62 (0, 0)) (by (with_reducible repeat (first | refine blk_drewN ?_ _ | refine blk_drew ?_ | refine blk_alloc ?_ _)); exact BK101.out)) : gb114 ≠ gb101)); clear HO112; clear BK101; clear HB; have HO112 := n0_; have BK101 := n1_; have HB := n2_; have BK114 := n3_; have GW114 := n4_; have GE114 := n5_; have NB101_114 := n6_; have NB114_101 := n7_; clear n0_ n1_ n2_ n3_ n4_ n5_ n6_ n7_; clear hb hbox hg; have hnb58 := NB114_101.out; have hnc58 := NB101_114.out; have hcz59_0 : w57.cell? ⟨gb114, 0, none⟩ = some (.string (⟨#[]⟩ : ByteArray)) := (blk_cell BK114.out 0).trans rfl; have hcz59_1 : w57.cell? ⟨gb114, 1, none⟩ = some (.bool false) := (blk_cell BK114.out 1).trans rfl; have hcz59_2 : w57.cell? ⟨gb114, 2, none⟩ = some (.slice none 0 0) := (blk_cell BK114.out 2).trans rfl; have hfz59_0 := blk_frozen BK114.out 0; have hfz59_1 := blk_frozen BK114.out 1; have hfz59_2 := blk_frozen BK114.out 2; obtain ⟨Ao60, co60, eo60⟩ := Kd.R_slice HO112.out; subst eo60) | ((with_reducible refine gate_callee (f := 52) rfl ?_); refine goesL_ (some 50) rfl rfl Try.func52 (by kernel_rfl) rfl #[.string t105, .int .i64 16, .int .i64 (wrap64 ((wrap64 (t107 - 1)) - (Int.tmod (wrap64 (a1)) t107)))] rfl (by (try simp only [List.map_toArray, List.map_cons, List.map_nil]); first | done | rfl | (simp only [List.length_drop, List.length_take]; rfl)) ?_; (with_reducible refine (rlp_Get.calls t105 16 (wrap64 ((wrap64 (t107 - 1)) - (Int.tmod (wrap64 (a1)) t107))) t115 t116 t117 t120 _ A24.out).mono ?_); rintro e w61 ⟨v118, rfl, ho0, hb⟩; refine ⟨_, rfl, ?_⟩; have n0_ := Aside0.mk (Kd.R_elder' (by (with_reducible repeat (first | apply Kd.R_alloc | apply Kd.R_drewN | apply Kd.R_drew)); exact (Kd.R_mono (Kd.R_far (p := ⟨gb114, 2, none⟩) (Kd.R_far (p := ⟨gb114, 1, none⟩) (Kd.R_far (p := ⟨gb114, 0, none⟩) (Kd.R_mono HO112.out (fun k_ hk => (⟨hk, hk.2⟩ : _ ∧ k_ ≠ gb114))) (fun _ hk => hk.2) (.string t108)) (fun _ hk => hk.2) (.bool t109)) (fun _ hk => hk.2) (.slice Ao60 t110.length co60)) (fun _ h_ => h_.1))) (Kd.R_base ho0) hb); have n1_ := Aside0.mk (Kd.R_lower (Kd.R_newB (Kd.R_newB (Kd.R_new' ho0 (Kd.R_lt (by (with_reducible repeat (first | apply Kd.R_alloc | apply Kd.R_drewN | apply Kd.R_drew)); exact (Kd.R_mono (Kd.R_far (p := ⟨gb114, 2, none⟩) (Kd.R_far (p := ⟨gb114, 1, none⟩) (Kd.R_far (p := ⟨gb114, 0, none⟩) (Kd.R_mono HO112.out (fun k_ hk => (⟨hk, hk.2⟩ : _ ∧ k_ ≠ gb114))) (fun _ hk => hk.2) (.string t108)) (fun _ hk => hk.2) (.bool t109)) (fun _ hk => hk.2) (.slice Ao60 t110.length co60)) (fun _ h_ => h_.1))))) (g := gb101) (o := .cells #[.string a0_0, .bool a0_1, .slice A0_2 l0_2.length c0_2] 62 (0, 0)) (by (with_reducible repeat (first | refine blk_drewN ?_ _ | refine blk_drew ?_ | refine blk_alloc ?_ _)); refine blk_far ?_ NB101_114.out _; (with_reducible repeat (first | refine blk_drewN ?_ _ | refine blk_drew ?_ | refine blk_alloc ?_ _)); refine blk_far ?_ NB101_114.out _; (with_reducible repeat (first | refine blk_drewN ?_ _ | refine blk_drew ?_ | refine blk_alloc ?_ _)); refine blk_far ?_ NB101_114.out _; (with_reducible repeat (first | refine blk_drewN ?_ _ | refine blk_drew ?_ | refine blk_alloc ?_ _)); exact BK101.out)) (g := gb114) (o := .cells #[.string t108, .bool t109, .slice Ao60 t110.length co60] 62 (0, 0)) (by (with_reducible repeat (first | refine blk_drewN ?_ _ | refine blk_drew ?_ | refine blk_alloc ?_ _)); refine blk_put (cs := #[.string t108, .bool t109, .slice none 0 0]) ?_ 2 _ rfl; (with_reducible repeat (first | refine blk_drewN ?_ _ | refine blk_drew ?_ | refine blk_alloc ?_ _)); refine blk_put (cs := #[.string t108, .bool false, .slice none 0 0]) ?_ 1 _ rfl; (with_reducible repeat (first | refine blk_drewN ?_ _ | refine blk_drew ?_ | refine blk_alloc ?_ _)); refine blk_put (cs := #[.string (⟨#[]⟩ : ByteArray), .bool false, .slice none 0 0]) ?_ 0 _ rfl; (with_reducible repeat (first | refine blk_drewN ?_ _ | refine blk_drew ?_ | refine blk_alloc ?_ _)); exact BK114.out)) (below_size (by repeat (first | (with_reducible first | exact HB.out | apply below_alloc | apply pw_below_drewN | apply below_drew1 | refine below_set ?_ GE101.out | refine below_set ?_ GE114.out) | exact HB.out)))); have n2_ := Aside0.mk (blk_below (g := gb101) (o := .cells #[.string a0_0, .bool a0_1, .slice A0_2 l0_2.length c0_2] 62 (0, 0)) (by (with_reducible repeat (first | refine blk_drewN ?_ _ | refine blk_drew ?_ | refine blk_alloc ?_ _)); refine blk_far ?_ NB101_114.out _; (with_reducible repeat (first | refine blk_drewN ?_ _ | refine blk_drew ?_ | refine blk_alloc ?_ _)); refine blk_far ?_ NB101_114.out _; (with_reducible repeat (first | refine blk_drewN ?_ _ | refine blk_drew ?_ | refine blk_alloc ?_ _)); refine blk_far ?_ NB101_114.out _; (with_reducible repeat (first | refine blk_drewN ?_ _ | refine blk_drew ?_ | refine blk_alloc ?_ _)); exact BK101.out) hb); have n3_ := Aside0.mk (blk_below (g := gb114) (o := .cells #[.string t108, .bool t109, .slice Ao60 t110.length co60] 62 (0, 0)) (by (with_reducible repeat (first | refine blk_drewN ?_ _ | refine blk_drew ?_ | refine blk_alloc ?_ _)); refine blk_put (cs := #[.string t108, .bool t109, .slice none 0 0]) ?_ 2 _ rfl; (with_reducible repeat (first | refine blk_drewN ?_ _ | refine blk_drew ?_ | refine blk_alloc ?_ _)); refine blk_put (cs := #[.string t108, .bool false, .slice none 0 0]) ?_ 1 _ rfl; (with_reducible repeat (first | refine blk_drewN ?_ _ | refine blk_drew ?_ | refine blk_alloc ?_ _)); refine blk_put (cs := #[.string (⟨#[]⟩ : ByteArray), .bool false, .slice none 0 0]) ?_ 0 _ rfl; (with_reducible repeat (first | refine blk_drewN ?_ _ | refine blk_drew ?_ | refine blk_alloc ?_ _)); exact BK114.out) hb); have n4_ := Aside0.mk (below_step (by repeat (first | (with_reducible first | exact HB.out | apply below_alloc | apply pw_below_drewN | apply below_drew1 | refine below_set ?_ GE101.out | refine below_set ?_ GE114.out) | exact HB.out)) hb); clear HO112; clear BK101; clear BK114; clear HB; have HO112 := n0_; have HO119 := n1_; have BK101 := n2_; have BK114 := n3_; have HB := n4_; clear n0_ n1_ n2_ n3_ n4_; (try clear hb); (try clear hb2); (try clear hk); (try clear hi); (try clear ho0)) | ((with_reducible refine gate_dst (N := 10) rfl ?_); refine box_event ?hg (N := 10) ?hd (cs := #[.string (⟨#[]⟩ : ByteArray), .bool false, .slice none 0 0]) (t := 62) ?hr ?_; (case hd => rfl); (case hg => rfl); (case hr => first | (go_simp; done) | (go_simp; rfl)); intro gb121 hg w62 hbox hb; have n0_ := Aside0.mk (Kd.R_below (Kd.R_elderB (by (with_reducible repeat (first | apply Kd.R_alloc | apply Kd.R_drewN | apply Kd.R_drew)); exact HO112.out) gb121 (Nat.le_of_eq hg.symm)) hb); have n1_ := Aside0.mk (Kd.R_below (Kd.R_elderB (by (with_reducible repeat (first | apply Kd.R_alloc | apply Kd.R_drewN | apply Kd.R_drew)); exact HO119.out) gb121 (Nat.le_of_eq hg.symm)) hb); have n2_ := Aside0.mk (blk_below (g := gb101) (o := .cells #[.string a0_0, .bool a0_1, .slice A0_2 l0_2.length c0_2] 62 (0, 0)) (by (with_reducible repeat (first | refine blk_drewN ?_ _ | refine blk_drew ?_ | refine blk_alloc ?_ _)); exact BK101.out) hb); have n3_ := Aside0.mk (blk_below (g := gb114) (o := .cells #[.string t108, .bool t109, .slice Ao60 t110.length co60] 62 (0, 0)) (by (with_reducible repeat (first | refine blk_drewN ?_ _ | refine blk_drew ?_ | refine blk_alloc ?_ _)); exact BK114.out) hb); have n4_ := Aside0.mk (below_step (by repeat (first | (with_reducible first | exact HB.out | apply below_alloc | apply pw_below_drewN | apply below_drew1 | refine below_set ?_ GE101.out | refine below_set ?_ GE114.out) | exact HB.out)) hb); have n5_ := Aside0.mk (hbox); have n6_ := Aside0.mk ((by rw [hg]; exact (below_size (by repeat (first | (with_reducible first | exact HB.out | apply below_alloc | apply pw_below_drewN | apply below_drew1 | refine below_set ?_ GE101.out | refine below_set ?_ GE114.out) | exact HB.out))) : w.heap.size ≤ gb121)); have n7_ := Aside0.mk ((by rw [hg]; exact (below_size (by repeat (first | (with_reducible first | exact HB.out | apply below_alloc | apply pw_below_drewN | apply below_drew1 | refine below_set ?_ GE101.out | refine below_set ?_ GE114.out) | exact HB.out))) : w.heap.size ≤ gb121)); have n8_ := Aside0.mk ((by rw [hg]; exact Nat.ne_of_lt (blk_lt (g := gb101) (o := .cells #[.string a0_0, .bool a0_1, .slice A0_2 l0_2.length c0_2] 62 (0, 0)) (by (with_reducible repeat (first | refine blk_drewN ?_ _ | refine blk_drew ?_ | refine blk_alloc ?_ _)); exact BK101.out)) : gb101 ≠ gb121)); have n9_ := Aside0.mk ((by rw [hg]; exact Nat.ne_of_gt (blk_lt (g := gb101) (o := .cells #[.string a0_0, .bool a0_1, .slice A0_2 l0_2.length c0_2] 62 (0, 0)) (by (with_reducible repeat (first | refine blk_drewN ?_ _ | refine blk_drew ?_ | refine blk_alloc ?_ _)); exact BK101.out)) : gb121 ≠ gb101)); have n10_ := Aside0.mk ((by rw [hg]; exact Nat.ne_of_lt (blk_lt (g := gb114) (o := .cells #[.string t108, .bool t109, .slice Ao60 t110.length co60] 62 (0, 0)) (by (with_reducible repeat (first | refine blk_drewN ?_ _ | refine blk_drew ?_ | refine blk_alloc ?_ _)); exact BK114.out)) : gb114 ≠ gb121)); have n11_ := Aside0.mk ((by rw [hg]; exact Nat.ne_of_gt (blk_lt (g := gb114) (o := .cells #[.string t108, .bool t109, .slice Ao60 t110.length co60] 62 (0, 0)) (by (with_reducible repeat (first | refine blk_drewN ?_ _ | refine blk_drew ?_ | refine blk_alloc ?_ _)); exact BK114.out)) : gb121 ≠ gb114)); clear HO112; clear HO119; clear BK101; clear BK114; clear HB; have HO112 := n0_; have HO119 := n1_; have BK101 := n2_; have BK114 := n3_; have HB := n4_; have BK121 := n5_; have GW121 := n6_; have GE121 := n7_; have NB101_121 := n8_; have NB121_101 := n9_; have NB114_121 := n10_; have NB121_114 := n11_; clear n0_ n1_ n2_ n3_ n4_ n5_ n6_ n7_ n8_ n9_ n10_ n11_; clear hb hbox hg; have hnb63 := NB121_101.out; have hnc63 := NB101_121.out; have hnb64 := NB121_114.out; have hnc64 := NB114_121.out; have hcz65_0 : w62.cell? ⟨gb121, 0, none⟩ = some (.string (⟨#[]⟩ : ByteArray)) := (blk_cell BK121.out 0).trans rfl; have hcz65_1 : w62.cell? ⟨gb121, 1, none⟩ = some (.bool false) := (blk_cell BK121.out 1).trans rfl; have hcz65_2 : w62.cell? ⟨gb121, 2, none⟩ = some (.slice none 0 0) := (blk_cell BK121.out 2).trans rfl; have hfz65_0 := blk_frozen BK121.out 0; have hfz65_1 := blk_frozen BK121.out 1; have hfz65_2 := blk_frozen BK121.out 2; obtain ⟨Ao66, co66, eo66⟩ := Kd.R_slice HO119.out; subst eo66) | ((with_reducible refine gate_callee (f := 52) rfl ?_); refine goesL_ (some 57) rfl rfl Try.func52 (by kernel_rfl) rfl #[.string t105, .int .i64 t106, .int .i64 t107] rfl (by (try simp only [List.map_toArray, List.map_cons, List.map_nil]); first | done | rfl | (simp only [List.length_drop, List.length_take]; rfl)) ?_; (with_reducible refine (rlp_Get.calls t105 t106 t107 t122 t123 t124 t127 _ A25.out).mono ?_); rintro e w67 ⟨v125, rfl, ho0, hb⟩; refine ⟨_, rfl, ?_⟩; have n0_ := Aside0.mk (Kd.R_elder' (by (with_reducible repeat (first | apply Kd.R_alloc | apply Kd.R_drewN | apply Kd.R_drew)); exact (Kd.R_mono (Kd.R_far (p := ⟨gb121, 2, none⟩) (Kd.R_far (p := ⟨gb121, 1, none⟩) (Kd.R_far (p := ⟨gb121, 0, none⟩) (Kd.R_mono HO112.out (fun k_ hk => (⟨hk, hk.2⟩ : _ ∧ k_ ≠ gb121))) (fun _ hk => hk.2) (.string t115)) (fun _ hk => hk.2) (.bool t116)) (fun _ hk => hk.2) (.slice Ao66 t117.length co66)) (fun _ h_ => h_.1))) (Kd.R_base ho0) hb); have n1_ := Aside0.mk (Kd.R_elder' (by (with_reducible repeat (first | apply Kd.R_alloc | apply Kd.R_drewN | apply Kd.R_drew)); exact (Kd.R_mono (Kd.R_far (p := ⟨gb121, 2, none⟩) (Kd.R_far (p := ⟨gb121, 1, none⟩) (Kd.R_far (p := ⟨gb121, 0, none⟩) (Kd.R_mono HO119.out (fun k_ hk => (⟨hk, hk.2⟩ : _ ∧ k_ ≠ gb121))) (fun _ hk => hk.2) (.string t115)) (fun _ hk => hk.2) (.bool t116)) (fun _ hk => hk.2) (.slice Ao66 t117.length co66)) (fun _ h_ => h_.1))) (Kd.R_base ho0) hb); have n2_ := Aside0.mk (Kd.R_lower (Kd.R_newB (Kd.R_newB (Kd.R_newB (Kd.R_new' (Kd.R_new' ho0 (Kd.R_lt (by (with_reducible repeat (first | apply Kd.R_alloc | apply Kd.R_drewN | apply Kd.R_drew)); exact (Kd.R_mono (Kd.R_far (p := ⟨gb121, 2, none⟩) (Kd.R_far (p := ⟨gb121, 1, none⟩) (Kd.R_far (p := ⟨gb121, 0, none⟩) (Kd.R_mono HO112.out (fun k_ hk => (⟨hk, hk.2⟩ : _ ∧ k_ ≠ gb121))) (fun _ hk => hk.2) (.string t115)) (fun _ hk => hk.2) (.bool t116)) (fun _ hk => hk.2) (.slice Ao66 t117.length co66)) (fun _ h_ => h_.1))))) (Kd.R_lt (by (with_reducible repeat (first | apply Kd.R_alloc | apply Kd.R_drewN | apply Kd.R_drew)); exact (Kd.R_mono (Kd.R_far (p := ⟨gb121, 2, none⟩) (Kd.R_far (p := ⟨gb121, 1, none⟩) (Kd.R_far (p := ⟨gb121, 0, none⟩) (Kd.R_mono HO119.out (fun k_ hk => (⟨hk, hk.2⟩ : _ ∧ k_ ≠ gb121))) (fun _ hk => hk.2) (.string t115)) (fun _ hk => hk.2) (.bool t116)) (fun _ hk => hk.2) (.slice Ao66 t117.length co66)) (fun _ h_ => h_.1))))) (g := gb101) (o := .cells #[.string a0_0, .bool a0_1, .slice A0_2 l0_2.length c0_2] 62 (0, 0)) (by (with_reducible repeat (first | refine blk_drewN ?_ _ | refine blk_drew ?_ | refine blk_alloc ?_ _)); refine blk_far ?_ NB101_121.out _; (with_reducible repeat (first | refine blk_drewN ?_ _ | refine blk_drew ?_ | refine blk_alloc ?_ _)); refine blk_far ?_ NB101_121.out _; (with_reducible repeat (first | refine blk_drewN ?_ _ | refine blk_drew ?_ | refine blk_alloc ?_ _)); refine blk_far ?_ NB101_121.out _; (with_reducible repeat (first | refine blk_drewN ?_ _ | refine blk_drew ?_ | refine blk_alloc ?_ _)); exact BK101.out)) (g := gb114) (o := .cells #[.string t108, .bool t109, .slice Ao60 t110.length co60] 62 (0, 0)) (by (with_reducible repeat (first | refine blk_drewN ?_ _ | refine blk_drew ?_ | refine blk_alloc ?_ _)); refine blk_far ?_ NB114_121.out _; (with_reducible repeat (first | refine blk_drewN ?_ _ | refine blk_drew ?_ | refine blk_alloc ?_ _)); refine blk_far ?_ NB114_121.out _; (with_reducible repeat (first | refine blk_drewN ?_ _ | refine blk_drew ?_ | refine blk_alloc ?_ _)); refine blk_far ?_ NB114_121.out _; (with_reducible repeat (first | refine blk_drewN ?_ _ | refine blk_drew ?_ | refine blk_alloc ?_ _)); exact BK114.out)) (g := gb121) (o := .cells #[.string t115, .bool t116, .slice Ao66 t117.length co66] 62 (0, 0)) (by (with_reducible repeat (first | refine blk_drewN ?_ _ | refine blk_drew ?_ | refine blk_alloc ?_ _)); refine blk_put (cs := #[.string t115, .bool t116, .slice none 0 0]) ?_ 2 _ rfl; (with_reducible repeat (first | refine blk_drewN ?_ _ | refine blk_drew ?_ | refine blk_alloc ?_ _)); refine blk_put (cs := #[.string t115, .bool false, .slice none 0 0]) ?_ 1 _ rfl; (with_reducible repeat (first | refine blk_drewN ?_ _ | refine blk_drew ?_ | refine blk_alloc ?_ _)); refine blk_put (cs := #[.string (⟨#[]⟩ : ByteArray), .bool false, .slice none 0 0]) ?_ 0 _ rfl; (with_reducible repeat (first | refine blk_drewN ?_ _ | refine blk_drew ?_ | refine blk_alloc ?_ _)); exact BK121.out)) (below_size (by repeat (first | (with_reducible first | exact HB.out | apply below_alloc | apply pw_below_drewN | apply below_drew1 | refine below_set ?_ GE101.out | refine below_set ?_ GE114.out | refine below_set ?_ GE121.out) | exact HB.out)))); have n3_ := Aside0.mk (blk_below (g := gb101) (o := .cells #[.string a0_0, .bool a0_1, .slice A0_2 l0_2.length c0_2] 62 (0, 0)) (by (with_reducible repeat (first | refine blk_drewN ?_ _ | refine blk_drew ?_ | refine blk_alloc ?_ _)); refine blk_far ?_ NB101_121.out _; (with_reducible repeat (first | refine blk_drewN ?_ _ | refine blk_drew ?_ | refine blk_alloc ?_ _)); refine blk_far ?_ NB101_121.out _; (with_reducible repeat (first | refine blk_drewN ?_ _ | refine blk_drew ?_ | refine blk_alloc ?_ _)); refine blk_far ?_ NB101_121.out _; (with_reducible repeat (first | refine blk_drewN ?_ _ | refine blk_drew ?_ | refine blk_alloc ?_ _)); exact BK101.out) hb); have n4_ := Aside0.mk (blk_below (g := gb114) (o := .cells #[.string t108, .bool t109, .slice Ao60 t110.length co60] 62 (0, 0)) (by (with_reducible repeat (first | refine blk_drewN ?_ _ | refine blk_drew ?_ | refine blk_alloc ?_ _)); refine blk_far ?_ NB114_121.out _; (with_reducible repeat (first | refine blk_drewN ?_ _ | refine blk_drew ?_ | refine blk_alloc ?_ _)); refine blk_far ?_ NB114_121.out _; (with_reducible repeat (first | refine blk_drewN ?_ _ | refine blk_drew ?_ | refine blk_alloc ?_ _)); refine blk_far ?_ NB114_121.out _; (with_reducible repeat (first | refine blk_drewN ?_ _ | refine blk_drew ?_ | refine blk_alloc ?_ _)); exact BK114.out) hb); have n5_ := Aside0.mk (blk_below (g := gb121) (o := .cells #[.string t115, .bool t116, .slice Ao66 t117.length co66] 62 (0, 0)) (by (with_reducible repeat (first | refine blk_drewN ?_ _ | refine blk_drew ?_ | refine blk_alloc ?_ _)); refine blk_put (cs := #[.string t115, .bool t116, .slice none 0 0]) ?_ 2 _ rfl; (with_reducible repeat (first | refine blk_drewN ?_ _ | refine blk_drew ?_ | refine blk_alloc ?_ _)); refine blk_put (cs := #[.string t115, .bool false, .slice none 0 0]) ?_ 1 _ rfl; (with_reducible repeat (first | refine blk_drewN ?_ _ | refine blk_drew ?_ | refine blk_alloc ?_ _)); refine blk_put (cs := #[.string (⟨#[]⟩ : ByteArray), .bool false, .slice none 0 0]) ?_ 0 _ rfl; (with_reducible repeat (first | refine blk_drewN ?_ _ | refine blk_drew ?_ | refine blk_alloc ?_ _)); exact BK121.out) hb); have n6_ := Aside0.mk (below_step (by repeat (first | (with_reducible first | exact HB.out | apply below_alloc | apply pw_below_drewN | apply below_drew1 | refine below_set ?_ GE101.out | refine below_set ?_ GE114.out | refine below_set ?_ GE121.out) | exact HB.out)) hb); clear HO112; clear HO119; clear BK101; clear BK114; clear BK121; clear HB; have HO112 := n0_; have HO119 := n1_; have HO126 := n2_; have BK101 := n3_; have BK114 := n4_; have BK121 := n5_; have HB := n6_; clear n0_ n1_ n2_ n3_ n4_ n5_ n6_; (try clear hb); (try clear hb2); (try clear hk); (try clear hi); (try clear ho0)) | ((with_reducible refine gate_dst (N := 12) rfl ?_); refine box_event ?hg (N := 12) ?hd (cs := #[.string (⟨#[]⟩ : ByteArray), .bool false, .slice none 0 0]) (t := 62) ?hr ?_; (case hd => rfl); (case hg => rfl); (case hr => first | (go_simp; done) | (go_simp; rfl)); intro gb128 hg w68 hbox hb; have n0_ := Aside0.mk (Kd.R_below (Kd.R_elderB (by (with_reducible repeat (first | apply Kd.R_alloc | apply Kd.R_drewN | apply Kd.R_drew)); exact HO112.out) gb128 (Nat.le_of_eq hg.symm)) hb); have n1_ := Aside0.mk (Kd.R_below (Kd.R_elderB (by (with_reducible repeat (first | apply Kd.R_alloc | apply Kd.R_drewN | apply Kd.R_drew)); exact HO119.out) gb128 (Nat.le_of_eq hg.symm)) hb); have n2_ := Aside0.mk (Kd.R_below (Kd.R_elderB (by (with_reducible repeat (first | apply Kd.R_alloc | apply Kd.R_drewN | apply Kd.R_drew)); exact HO126.out) gb128 (Nat.le_of_eq hg.symm)) hb); have n3_ := Aside0.mk (blk_below (g := gb101) (o := .cells #[.string a0_0, .bool a0_1, .slice A0_2 l0_2.length c0_2] 62 (0, 0)) (by (with_reducible repeat (first | refine blk_drewN ?_ _ | refine blk_drew ?_ | refine blk_alloc ?_ _)); exact BK101.out) hb); have n4_ := Aside0.mk (blk_below (g := gb114) (o := .cells #[.string t108, .bool t109, .slice Ao60 t110.length co60] 62 (0, 0)) (by (with_reducible repeat (first | refine blk_drewN ?_ _ | refine blk_drew ?_ | refine blk_alloc ?_ _)); exact BK114.out) hb); have n5_ := Aside0.mk (blk_below (g := gb121) (o := .cells #[.string t115, .bool t116, .slice Ao66 t117.length co66] 62 (0, 0)) (by (with_reducible repeat (first | refine blk_drewN ?_ _ | refine blk_drew ?_ | refine blk_alloc ?_ _)); exact BK121.out) hb); have n6_ := Aside0.mk (below_step (by repeat (first | (with_reducible first | exact HB.out | apply below_alloc | apply pw_below_drewN | apply below_drew1 | refine below_set ?_ GE101.out | refine below_set ?_ GE114.out | refine below_set ?_ GE121.out) | exact HB.out)) hb); have n7_ := Aside0.mk (hbox); have n8_ := Aside0.mk ((by rw [hg]; exact (below_size (by repeat (first | (with_reducible first | exact HB.out | apply below_alloc | apply pw_below_drewN | apply below_drew1 | refine below_set ?_ GE101.out | refine below_set ?_ GE114.out | refine below_set ?_ GE121.out) | exact HB.out))) : w.heap.size ≤ gb128)); have n9_ := Aside0.mk ((by rw [hg]; exact (below_size (by repeat (first | (with_reducible first | exact HB.out | apply below_alloc | apply pw_below_drewN | apply below_drew1 | refine below_set ?_ GE101.out | refine below_set ?_ GE114.out | refine below_set ?_ GE121.out) | exact HB.out))) : w.heap.size ≤ gb128)); have n10_ := Aside0.mk ((by rw [hg]; exact Nat.ne_of_lt (blk_lt (g := gb101) (o := .cells #[.string a0_0, .bool a0_1, .slice A0_2 l0_2.length c0_2] 62 (0, 0)) (by (with_reducible repeat (first | refine blk_drewN ?_ _ | refine blk_drew ?_ | refine blk_alloc ?_ _)); exact BK101.out)) : gb101 ≠ gb128)); have n11_ := Aside0.mk ((by rw [hg]; exact Nat.ne_of_gt (blk_lt (g := gb101) (o := .cells #[.string a0_0, .bool a0_1, .slice A0_2 l0_2.length c0_2] 62 (0, 0)) (by (with_reducible repeat (first | refine blk_drewN ?_ _ | refine blk_drew ?_ | refine blk_alloc ?_ _)); exact BK101.out)) : gb128 ≠ gb101)); have n12_ := Aside0.mk ((by rw [hg]; exact Nat.ne_of_lt (blk_lt (g := gb114) (o := .cells #[.string t108, .bool t109, .slice Ao60 t110.length co60] 62 (0, 0)) (by (with_reducible repeat (first | refine blk_drewN ?_ _ | refine blk_drew ?_ | refine blk_alloc ?_ _)); exact BK114.out)) : gb114 ≠ gb128)); have n13_ := Aside0.mk ((by rw [hg]; exact Nat.ne_of_gt (blk_lt (g := gb114) (o := .cells #[.string t108, .bool t109, .slice Ao60 t110.length co60] 62 (0, 0)) (by (with_reducible repeat (first | refine blk_drewN ?_ _ | refine blk_drew ?_ | refine blk_alloc ?_ _)); exact BK114.out)) : gb128 ≠ gb114)); have n14_ := Aside0.mk ((by rw [hg]; exact Nat.ne_of_lt (blk_lt (g := gb121) (o := .cells #[.string t115, .bool t116, .slice Ao66 t117.length co66] 62 (0, 0)) (by (with_reducible repeat (first | refine blk_drewN ?_ _ | refine blk_drew ?_ | refine blk_alloc ?_ _)); exact BK121.out)) : gb121 ≠ gb128)); have n15_ := Aside0.mk ((by rw [hg]; exact Nat.ne_of_gt (blk_lt (g := gb121) (o := .cells #[.string t115, .bool t116, .slice Ao66 t117.length co66] 62 (0, 0)) (by (with_reducible repeat (first | refine blk_drewN ?_ _ | refine blk_drew ?_ | refine blk_alloc ?_ _)); exact BK121.out)) : gb128 ≠ gb121)); clear HO112; clear HO119; clear HO126; clear BK101; clear BK114; clear BK121; clear HB; have HO112 := n0_; have HO119 := n1_; have HO126 := n2_; have BK101 := n3_; have BK114 := n4_; have BK121 := n5_; have HB := n6_; have BK128 := n7_; have GW128 := n8_; have GE128 := n9_; have NB101_128 := n10_; have NB128_101 := n11_; have NB114_128 := n12_; have NB128_114 := n13_; have NB121_128 := n14_; have NB128_121 := n15_; clear n0_ n1_ n2_ n3_ n4_ n5_ n6_ n7_ n8_ n9_ n10_ n11_ n12_ n13_ n14_ n15_; clear hb hbox hg; have hnb69 := NB128_101.out; have hnc69 := NB101_128.out; have hnb70 := NB128_114.out; have hnc70 := NB114_128.out; have hnb71 := NB128_121.out; have hnc71 := NB121_128.out; have hcz72_0 : w68.cell? ⟨gb128, 0, none⟩ = some (.string (⟨#[]⟩ : ByteArray)) := (blk_cell BK128.out 0).trans rfl; have hcz72_1 : w68.cell? ⟨gb128, 1, none⟩ = some (.bool false) := (blk_cell BK128.out 1).trans rfl; have hcz72_2 : w68.cell? ⟨gb128, 2, none⟩ = some (.slice none 0 0) := (blk_cell BK128.out 2).trans rfl; have hfz72_0 := blk_frozen BK128.out 0; have hfz72_1 := blk_frozen BK128.out 1; have hfz72_2 := blk_frozen BK128.out 2; obtain ⟨Ao73, co73, eo73⟩ := Kd.R_slice HO126.out; subst eo73))
         go_ret
         exact ⟨by first | rfl | (simp [errW_none, errW_some] <;> rfl) | (simp [*, errW_none, errW_some] <;> rfl), by repeat (first | (with_reducible first | exact HB.out | apply below_alloc | apply pw_below_drewN | apply below_drew1 | refine below_set ?_ GE101.out | refine below_set ?_ GE114.out | refine below_set ?_ GE121.out | refine below_set ?_ GE128.out) | exact HB.out)⟩
       ·rw [if_neg c26] at H
        have c26b0 : (t113 == 6) = false := beq_eq_false_iff_ne.mpr c26
        have c26b1 : (t113 != 6) = true := bne_iff_ne.mpr c26
        obtain rfl := Option.some.inj H
        have hcz74_0 : wc.cell? ⟨gb101, 0, none⟩ = some (.string a0_0) := (blk_cell BK101.out 0).trans rfl
        have hcz74_1 : wc.cell? ⟨gb101, 1, none⟩ = some (.bool a0_1) := (blk_cell BK101.out 1).trans rfl
        have hcz74_2 : wc.cell? ⟨gb101, 2, none⟩ = some (.slice A0_2 l0_2.length c0_2) := (blk_cell BK101.out 2).trans rfl
        have hfz74_0 := blk_frozen BK101.out 0
        have hfz74_1 := blk_frozen BK101.out 1
        have hfz74_2 := blk_frozen BK101.out 2
        try go_wp2_with (first | ((with_reducible refine gate_callee (f := 45) rfl ?_); refine goesL_ (some 24) rfl rfl Try.func45 (by kernel_rfl) rfl #[.agg #[.string a0_0, .bool a0_1, .slice A0_2 l0_2.length c0_2]] rfl (by (try simp only [List.map_toArray, List.map_cons, List.map_nil]); first | done | rfl | (simp only [List.length_drop, List.length_take]; rfl)) ?_; (with_reducible refine (hatchwayref09_Put.calls kj4 a0_0 a0_1 _ _ l0_2 t105 _ ?side1 ?side2 A18.out).mono ?_); (case side1 => repeat (first | exact (Kd.C_below HR0_2.out HB.out) | (with_reducible refine Kd.C_alloc ?_ _) | (with_reducible refine Kd.C_drewN ?_ _) | (with_reducible refine Kd.C_drew ?_))); (case side2 => exact HC0_2.out); rintro e w75 ⟨rfl, hb⟩; refine ⟨_, rfl, ?_⟩; have n0_ := Aside0.mk (blk_below (g := gb101) (o := .cells #[.string a0_0, .bool a0_1, .slice A0_2 l0_2.length c0_2] 62 (0, 0)) (by (with_reducible repeat (first | refine blk_drewN ?_ _ | refine blk_drew ?_ | refine blk_alloc ?_ _)); exact BK101.out) hb); have n1_ := Aside0.mk (below_step (by repeat (first | (with_reducible first | exact HB.out | apply below_alloc | apply pw_below_drewN | apply below_drew1 | refine below_set ?_ GE101.out) | exact HB.out)) hb); clear BK101; clear HB; have BK101 := n0_; have HB := n1_; clear n0_ n1_; (try clear hb); (try clear hb2); (try clear hk); (try clear hi)))
        have n0_ := Aside0.mk (blk_drew BK101.out)
        have n1_ := Aside0.mk (below_drew1 HB.out)
        clear BK101
        clear HB
        have BK101 := n0_
        have HB := n1_
        clear n0_ n1_
        refine start_ (n := 6) (S := fun w' => w'.cell? ⟨gb101, 0, none⟩ = some (.string a0_0) ∧ w'.cell? ⟨gb101, 1, none⟩ = some (.bool a0_1) ∧ w'.cell? ⟨gb101, 2, none⟩ = some (.slice A0_2 l0_2.length c0_2)) (ds := []) #[false, false, false, false, false, false] (by kernel_rfl) rfl rfl ⟨(blk_cell BK101.out 0).trans rfl, (blk_cell BK101.out 1).trans rfl, (blk_cell BK101.out 2).trans rfl⟩ (fun hHeld => ?_)
        generalize w75.drew = w76 at BK101 HB hHeld ⊢
        refine take_ (i := 0) (N := some 25) (v := ?_) (a' := ?_) #[true, false, false, false, false, false] rfl rfl (by kernel_rfl) (fun _ _ _ h => h) (Or.inl ⟨by rfl, ?_⟩) hHeld ?_ ?_
        rotate_left
        ·rintro w' ⟨s0, s1, s2⟩
         go_simp
         with_reducible rfl
        rotate_left
        ·simp only [Act.put, List.setIfInBounds_toArray, List.set_cons_zero, List.set_cons_succ, i64_w, i32_w]
         rfl
        refine take_ (i := 2) (N := some 27) (v := ?_) (a' := ?_) #[true, false, true, false, false, false] rfl rfl (by kernel_rfl) (fun _ _ _ h => h) (Or.inl ⟨by rfl, ?_⟩) hHeld ?_ ?_
        rotate_left
        ·rintro w' ⟨s0, s1, s2⟩
         go_simp
         with_reducible rfl
        rotate_left
        ·simp only [Act.put, List.setIfInBounds_toArray, List.set_cons_zero, List.set_cons_succ, i64_w, i32_w]
         rfl
        refine one_ (i := 1) (N := some 26) #[true, true, true, false, false, false] rfl rfl (by kernel_rfl) (by decide) (fun K hK => ?_)
        refine goes_ Try.func50 (by kernel_rfl) rfl #[.agg #[.string a0_0, .bool a0_1, .slice A0_2 l0_2.length c0_2]] (by rfl) rfl rfl (by (try simp only [List.map_toArray, List.map_cons, List.map_nil]); first | done | rfl | (simp only [List.length_drop, List.length_take]; rfl)) ?_
        with_reducible refine (hatchwayref08_Deep.calls kj4 a0_0 a0_1 _ _ l0_2 t106 _ ?side1 ?side2 A19.out).mono ?_
        (case side1 => repeat (first | exact (Kd.C_below HR0_2.out HB.out) | (with_reducible refine Kd.C_alloc ?_ _) | (with_reducible refine Kd.C_drewN ?_ _) | (with_reducible refine Kd.C_drew ?_)))
        (case side2 => exact HC0_2.out)
        rintro e w77 ⟨rfl, hb⟩
        refine ⟨_, rfl, ?_⟩
        have n0_ := Aside0.mk (blk_below (g := gb101) (o := .cells #[.string a0_0, .bool a0_1, .slice A0_2 l0_2.length c0_2] 62 (0, 0)) (by (with_reducible repeat (first | refine blk_drewN ?_ _ | refine blk_drew ?_ | refine blk_alloc ?_ _)); exact BK101.out) hb)
        have n1_ := Aside0.mk (below_step (by repeat (first | (with_reducible first | exact HB.out | apply below_alloc | apply pw_below_drewN | apply below_drew1 | refine below_set ?_ GE101.out) | exact HB.out)) hb)
        clear BK101
        clear HB
        have BK101 := n0_
        have HB := n1_
        clear n0_ n1_
        (try clear hb)
        (try clear hb2)
        (try clear hk)
        (try clear hi)
        refine hK.out _ _ ⟨(blk_cell BK101.out 0).trans rfl, (blk_cell BK101.out 1).trans rfl, (blk_cell BK101.out 2).trans rfl⟩ (fun hHeld => ?_)
        clear hK K
        refine norm_ (a' := ?_) ?_ ?_
        rotate_left
        ·show Act.put _ (some 26) _ = _
         simp only [Act.put, List.setIfInBounds_toArray, List.set_cons_zero, List.set_cons_succ, i64_w, i32_w]
         rfl
        refine one_ (i := 3) (N := some 28) #[true, true, true, true, false, false] rfl rfl (by kernel_rfl) (by decide) (fun K hK => ?_)
        refine goes_ Try.func51 (by kernel_rfl) rfl #[.agg #[.string a0_0, .bool a0_1, .slice A0_2 l0_2.length c0_2]] (by rfl) rfl rfl (by (try simp only [List.map_toArray, List.map_cons, List.map_nil]); first | done | rfl | (simp only [List.length_drop, List.length_take]; rfl)) ?_
        with_reducible refine (hatchwayref08_Count.calls kj4 a0_0 a0_1 _ _ l0_2 t107 _ ?side1 ?side2 A20.out).mono ?_
        (case side1 => repeat (first | exact (Kd.C_below HR0_2.out HB.out) | (with_reducible refine Kd.C_alloc ?_ _) | (with_reducible refine Kd.C_drewN ?_ _) | (with_reducible refine Kd.C_drew ?_)))
        (case side2 => exact HC0_2.out)
        rintro e w78 ⟨rfl, hb⟩
        refine ⟨_, rfl, ?_⟩
        have n0_ := Aside0.mk (blk_below (g := gb101) (o := .cells #[.string a0_0, .bool a0_1, .slice A0_2 l0_2.length c0_2] 62 (0, 0)) (by (with_reducible repeat (first | refine blk_drewN ?_ _ | refine blk_drew ?_ | refine blk_alloc ?_ _)); exact BK101.out) hb)
        have n1_ := Aside0.mk (below_step (by repeat (first | (with_reducible first | exact HB.out | apply below_alloc | apply pw_below_drewN | apply below_drew1 | refine below_set ?_ GE101.out) | exact HB.out)) hb)
        clear BK101
        clear HB
        have BK101 := n0_
        have HB := n1_
        clear n0_ n1_
        (try clear hb)
        (try clear hb2)
        (try clear hk)
        (try clear hi)
        refine hK.out _ _ ⟨(blk_cell BK101.out 0).trans rfl, (blk_cell BK101.out 1).trans rfl, (blk_cell BK101.out 2).trans rfl⟩ (fun hHeld => ?_)
        clear hK K
        refine norm_ (a' := ?_) ?_ ?_
        rotate_left
        ·show Act.put _ (some 28) _ = _
         simp only [Act.put, List.setIfInBounds_toArray, List.set_cons_zero, List.set_cons_succ, i64_w, i32_w]
         rfl
        refine pure_ (i := 4) (N := some 6) (v := ?_) (a' := ?_) #[true, true, true, true, true, false] rfl rfl (by kernel_rfl) (fun _ _ _ h => h) (Or.inl ⟨by rfl, ?_⟩) ?_ ?_
        rotate_left
        ·intro w'
         go_simp
         with_reducible rfl
        rotate_left
        ·simp only [Act.put, List.setIfInBounds_toArray, List.set_cons_zero, List.set_cons_succ, i64_w, i32_w]
         rfl
        refine pure_ (i := 5) (N := some 7) (v := ?_) (a' := ?_) #[true, true, true, true, true, true] rfl rfl (by kernel_rfl) (fun _ _ _ h => h) (Or.inl ⟨by rfl, ?_⟩) ?_ ?_
        rotate_left
        ·intro w'
         go_simp
         with_reducible rfl
        rotate_left
        ·simp only [Act.put, List.setIfInBounds_toArray, List.set_cons_zero, List.set_cons_succ, i64_w, i32_w]
         rfl
        refine done_ (by kernel_rfl) ?_
        try go_wp2_with (first | ((with_reducible refine gate_callee (f := 52) rfl ?_); refine goesL_ (some 38) rfl rfl Try.func52 (by kernel_rfl) rfl #[.string t105, .int .i64 (wrap64 ((wrap64 (t106 - 1)) - (Int.tmod (wrap64 (a1)) t106))), .int .i64 1024] rfl (by (try simp only [List.map_toArray, List.map_cons, List.map_nil]); first | done | rfl | (simp only [List.length_drop, List.length_take]; rfl)) ?_; (with_reducible refine (rlp_Get.calls t105 (wrap64 ((wrap64 (t106 - 1)) - (Int.tmod (wrap64 (a1)) t106))) 1024 t108 t109 t110 t113 _ A22.out).mono ?_); rintro e w79 ⟨v111, rfl, ho0, hb⟩; refine ⟨_, rfl, ?_⟩; have n0_ := Aside0.mk (Kd.R_lower (Kd.R_newB ho0 (g := gb101) (o := .cells #[.string a0_0, .bool a0_1, .slice A0_2 l0_2.length c0_2] 62 (0, 0)) (by (with_reducible repeat (first | refine blk_drewN ?_ _ | refine blk_drew ?_ | refine blk_alloc ?_ _)); exact BK101.out)) (below_size (by repeat (first | (with_reducible first | exact HB.out | apply below_alloc | apply pw_below_drewN | apply below_drew1 | refine below_set ?_ GE101.out) | exact HB.out)))); have n1_ := Aside0.mk (blk_below (g := gb101) (o := .cells #[.string a0_0, .bool a0_1, .slice A0_2 l0_2.length c0_2] 62 (0, 0)) (by (with_reducible repeat (first | refine blk_drewN ?_ _ | refine blk_drew ?_ | refine blk_alloc ?_ _)); exact BK101.out) hb); have n2_ := Aside0.mk (below_step (by repeat (first | (with_reducible first | exact HB.out | apply below_alloc | apply pw_below_drewN | apply below_drew1 | refine below_set ?_ GE101.out) | exact HB.out)) hb); clear BK101; clear HB; have HO112 := n0_; have BK101 := n1_; have HB := n2_; clear n0_ n1_ n2_; (try clear hb); (try clear hb2); (try clear hk); (try clear hi); (try clear ho0)) | ((with_reducible refine gate_dst (N := 8) rfl ?_); refine box_event ?hg (N := 8) ?hd (cs := #[.string (⟨#[]⟩ : ByteArray), .bool false, .slice none 0 0]) (t := 62) ?hr ?_; (case hd => rfl); (case hg => rfl); (case hr => first | (go_simp; done) | (go_simp; rfl)); intro gb114 hg w80 hbox hb; have n0_ := Aside0.mk (Kd.R_below (Kd.R_elderB (by (with_reducible repeat (first | apply Kd.R_alloc | apply Kd.R_drewN | apply Kd.R_drew)); exact HO112.out) gb114 (Nat.le_of_eq hg.symm)) hb); have n1_ := Aside0.mk (blk_below (g := gb101) (o := .cells #[.string a0_0, .bool a0_1, .slice A0_2 l0_2.length c0_2] 62 (0, 0)) (by (with_reducible repeat (first | refine blk_drewN ?_ _ | refine blk_drew ?_ | refine blk_alloc ?_ _)); exact BK101.out) hb); have n2_ := Aside0.mk (below_step (by repeat (first | (with_reducible first | exact HB.out | apply below_alloc | apply pw_below_drewN | apply below_drew1 | refine below_set ?_ GE101.out) | exact HB.out)) hb); have n3_ := Aside0.mk (hbox); have n4_ := Aside0.mk ((by rw [hg]; exact (below_size (by repeat (first | (with_reducible first | exact HB.out | apply below_alloc | apply pw_below_drewN | apply below_drew1 | refine below_set ?_ GE101.out) | exact HB.out))) : w.heap.size ≤ gb114)); have n5_ := Aside0.mk ((by rw [hg]; exact (below_size (by repeat (first | (with_reducible first | exact HB.out | apply below_alloc | apply pw_below_drewN | apply below_drew1 | refine below_set ?_ GE101.out) | exact HB.out))) : w.heap.size ≤ gb114)); have n6_ := Aside0.mk ((by rw [hg]; exact Nat.ne_of_lt (blk_lt (g := gb101) (o := .cells #[.string a0_0, .bool a0_1, .slice A0_2 l0_2.length c0_2] 62 (0, 0)) (by (with_reducible repeat (first | refine blk_drewN ?_ _ | refine blk_drew ?_ | refine blk_alloc ?_ _)); exact BK101.out)) : gb101 ≠ gb114)); have n7_ := Aside0.mk ((by rw [hg]; exact Nat.ne_of_gt (blk_lt (g := gb101) (o := .cells #[.string a0_0, .bool a0_1, .slice A0_2 l0_2.length c0_2] 62 (0, 0)) (by (with_reducible repeat (first | refine blk_drewN ?_ _ | refine blk_drew ?_ | refine blk_alloc ?_ _)); exact BK101.out)) : gb114 ≠ gb101)); clear HO112; clear BK101; clear HB; have HO112 := n0_; have BK101 := n1_; have HB := n2_; have BK114 := n3_; have GW114 := n4_; have GE114 := n5_; have NB101_114 := n6_; have NB114_101 := n7_; clear n0_ n1_ n2_ n3_ n4_ n5_ n6_ n7_; clear hb hbox hg; have hnb81 := NB114_101.out; have hnc81 := NB101_114.out; have hcz82_0 : w80.cell? ⟨gb114, 0, none⟩ = some (.string (⟨#[]⟩ : ByteArray)) := (blk_cell BK114.out 0).trans rfl; have hcz82_1 : w80.cell? ⟨gb114, 1, none⟩ = some (.bool false) := (blk_cell BK114.out 1).trans rfl; have hcz82_2 : w80.cell? ⟨gb114, 2, none⟩ = some (.slice none 0 0) := (blk_cell BK114.out 2).trans rfl; have hfz82_0 := blk_frozen BK114.out 0; have hfz82_1 := blk_frozen BK114.out 1; have hfz82_2 := blk_frozen BK114.out 2; obtain ⟨Ao83, co83, eo83⟩ := Kd.R_slice HO112.out; subst eo83) | ((with_reducible refine gate_callee (f := 52) rfl ?_); refine goesL_ (some 50) rfl rfl Try.func52 (by kernel_rfl) rfl #[.string t105, .int .i64 16, .int .i64 (wrap64 ((wrap64 (t107 - 1)) - (Int.tmod (wrap64 (a1)) t107)))] rfl (by (try simp only [List.map_toArray, List.map_cons, List.map_nil]); first | done | rfl | (simp only [List.length_drop, List.length_take]; rfl)) ?_; (with_reducible refine (rlp_Get.calls t105 16 (wrap64 ((wrap64 (t107 - 1)) - (Int.tmod (wrap64 (a1)) t107))) t115 t116 t117 t120 _ A24.out).mono ?_); rintro e w84 ⟨v118, rfl, ho0, hb⟩; refine ⟨_, rfl, ?_⟩; have n0_ := Aside0.mk (Kd.R_elder' (by (with_reducible repeat (first | apply Kd.R_alloc | apply Kd.R_drewN | apply Kd.R_drew)); exact (Kd.R_mono (Kd.R_far (p := ⟨gb114, 2, none⟩) (Kd.R_far (p := ⟨gb114, 1, none⟩) (Kd.R_far (p := ⟨gb114, 0, none⟩) (Kd.R_mono HO112.out (fun k_ hk => (⟨hk, hk.2⟩ : _ ∧ k_ ≠ gb114))) (fun _ hk => hk.2) (.string t108)) (fun _ hk => hk.2) (.bool t109)) (fun _ hk => hk.2) (.slice Ao83 t110.length co83)) (fun _ h_ => h_.1))) (Kd.R_base ho0) hb); have n1_ := Aside0.mk (Kd.R_lower (Kd.R_newB (Kd.R_newB (Kd.R_new' ho0 (Kd.R_lt (by (with_reducible repeat (first | apply Kd.R_alloc | apply Kd.R_drewN | apply Kd.R_drew)); exact (Kd.R_mono (Kd.R_far (p := ⟨gb114, 2, none⟩) (Kd.R_far (p := ⟨gb114, 1, none⟩) (Kd.R_far (p := ⟨gb114, 0, none⟩) (Kd.R_mono HO112.out (fun k_ hk => (⟨hk, hk.2⟩ : _ ∧ k_ ≠ gb114))) (fun _ hk => hk.2) (.string t108)) (fun _ hk => hk.2) (.bool t109)) (fun _ hk => hk.2) (.slice Ao83 t110.length co83)) (fun _ h_ => h_.1))))) (g := gb101) (o := .cells #[.string a0_0, .bool a0_1, .slice A0_2 l0_2.length c0_2] 62 (0, 0)) (by (with_reducible repeat (first | refine blk_drewN ?_ _ | refine blk_drew ?_ | refine blk_alloc ?_ _)); refine blk_far ?_ NB101_114.out _; (with_reducible repeat (first | refine blk_drewN ?_ _ | refine blk_drew ?_ | refine blk_alloc ?_ _)); refine blk_far ?_ NB101_114.out _; (with_reducible repeat (first | refine blk_drewN ?_ _ | refine blk_drew ?_ | refine blk_alloc ?_ _)); refine blk_far ?_ NB101_114.out _; (with_reducible repeat (first | refine blk_drewN ?_ _ | refine blk_drew ?_ | refine blk_alloc ?_ _)); exact BK101.out)) (g := gb114) (o := .cells #[.string t108, .bool t109, .slice Ao83 t110.length co83] 62 (0, 0)) (by (with_reducible repeat (first | refine blk_drewN ?_ _ | refine blk_drew ?_ | refine blk_alloc ?_ _)); refine blk_put (cs := #[.string t108, .bool t109, .slice none 0 0]) ?_ 2 _ rfl; (with_reducible repeat (first | refine blk_drewN ?_ _ | refine blk_drew ?_ | refine blk_alloc ?_ _)); refine blk_put (cs := #[.string t108, .bool false, .slice none 0 0]) ?_ 1 _ rfl; (with_reducible repeat (first | refine blk_drewN ?_ _ | refine blk_drew ?_ | refine blk_alloc ?_ _)); refine blk_put (cs := #[.string (⟨#[]⟩ : ByteArray), .bool false, .slice none 0 0]) ?_ 0 _ rfl; (with_reducible repeat (first | refine blk_drewN ?_ _ | refine blk_drew ?_ | refine blk_alloc ?_ _)); exact BK114.out)) (below_size (by repeat (first | (with_reducible first | exact HB.out | apply below_alloc | apply pw_below_drewN | apply below_drew1 | refine below_set ?_ GE101.out | refine below_set ?_ GE114.out) | exact HB.out)))); have n2_ := Aside0.mk (blk_below (g := gb101) (o := .cells #[.string a0_0, .bool a0_1, .slice A0_2 l0_2.length c0_2] 62 (0, 0)) (by (with_reducible repeat (first | refine blk_drewN ?_ _ | refine blk_drew ?_ | refine blk_alloc ?_ _)); refine blk_far ?_ NB101_114.out _; (with_reducible repeat (first | refine blk_drewN ?_ _ | refine blk_drew ?_ | refine blk_alloc ?_ _)); refine blk_far ?_ NB101_114.out _; (with_reducible repeat (first | refine blk_drewN ?_ _ | refine blk_drew ?_ | refine blk_alloc ?_ _)); refine blk_far ?_ NB101_114.out _; (with_reducible repeat (first | refine blk_drewN ?_ _ | refine blk_drew ?_ | refine blk_alloc ?_ _)); exact BK101.out) hb); have n3_ := Aside0.mk (blk_below (g := gb114) (o := .cells #[.string t108, .bool t109, .slice Ao83 t110.length co83] 62 (0, 0)) (by (with_reducible repeat (first | refine blk_drewN ?_ _ | refine blk_drew ?_ | refine blk_alloc ?_ _)); refine blk_put (cs := #[.string t108, .bool t109, .slice none 0 0]) ?_ 2 _ rfl; (with_reducible repeat (first | refine blk_drewN ?_ _ | refine blk_drew ?_ | refine blk_alloc ?_ _)); refine blk_put (cs := #[.string t108, .bool false, .slice none 0 0]) ?_ 1 _ rfl; (with_reducible repeat (first | refine blk_drewN ?_ _ | refine blk_drew ?_ | refine blk_alloc ?_ _)); refine blk_put (cs := #[.string (⟨#[]⟩ : ByteArray), .bool false, .slice none 0 0]) ?_ 0 _ rfl; (with_reducible repeat (first | refine blk_drewN ?_ _ | refine blk_drew ?_ | refine blk_alloc ?_ _)); exact BK114.out) hb); have n4_ := Aside0.mk (below_step (by repeat (first | (with_reducible first | exact HB.out | apply below_alloc | apply pw_below_drewN | apply below_drew1 | refine below_set ?_ GE101.out | refine below_set ?_ GE114.out) | exact HB.out)) hb); clear HO112; clear BK101; clear BK114; clear HB; have HO112 := n0_; have HO119 := n1_; have BK101 := n2_; have BK114 := n3_; have HB := n4_; clear n0_ n1_ n2_ n3_ n4_; (try clear hb); (try clear hb2); (try clear hk); (try clear hi); (try clear ho0)) | ((with_reducible refine gate_dst (N := 10) rfl ?_); refine box_event ?hg (N := 10) ?hd (cs := #[.string (⟨#[]⟩ : ByteArray), .bool false, .slice none 0 0]) (t := 62) ?hr ?_; (case hd => rfl); (case hg => rfl); (case hr => first | (go_simp; done) | (go_simp; rfl)); intro gb121 hg w85 hbox hb; have n0_ := Aside0.mk (Kd.R_below (Kd.R_elderB (by (with_reducible repeat (first | apply Kd.R_alloc | apply Kd.R_drewN | apply Kd.R_drew)); exact HO112.out) gb121 (Nat.le_of_eq hg.symm)) hb); have n1_ := Aside0.mk (Kd.R_below (Kd.R_elderB (by (with_reducible repeat (first | apply Kd.R_alloc | apply Kd.R_drewN | apply Kd.R_drew)); exact HO119.out) gb121 (Nat.le_of_eq hg.symm)) hb); have n2_ := Aside0.mk (blk_below (g := gb101) (o := .cells #[.string a0_0, .bool a0_1, .slice A0_2 l0_2.length c0_2] 62 (0, 0)) (by (with_reducible repeat (first | refine blk_drewN ?_ _ | refine blk_drew ?_ | refine blk_alloc ?_ _)); exact BK101.out) hb); have n3_ := Aside0.mk (blk_below (g := gb114) (o := .cells #[.string t108, .bool t109, .slice Ao83 t110.length co83] 62 (0, 0)) (by (with_reducible repeat (first | refine blk_drewN ?_ _ | refine blk_drew ?_ | refine blk_alloc ?_ _)); exact BK114.out) hb); have n4_ := Aside0.mk (below_step (by repeat (first | (with_reducible first | exact HB.out | apply below_alloc | apply pw_below_drewN | apply below_drew1 | refine below_set ?_ GE101.out | refine below_set ?_ GE114.out) | exact HB.out)) hb); have n5_ := Aside0.mk (hbox); have n6_ := Aside0.mk ((by rw [hg]; exact (below_size (by repeat (first | (with_reducible first | exact HB.out | apply below_alloc | apply pw_below_drewN | apply below_drew1 | refine below_set ?_ GE101.out | refine below_set ?_ GE114.out) | exact HB.out))) : w.heap.size ≤ gb121)); have n7_ := Aside0.mk ((by rw [hg]; exact (below_size (by repeat (first | (with_reducible first | exact HB.out | apply below_alloc | apply pw_below_drewN | apply below_drew1 | refine below_set ?_ GE101.out | refine below_set ?_ GE114.out) | exact HB.out))) : w.heap.size ≤ gb121)); have n8_ := Aside0.mk ((by rw [hg]; exact Nat.ne_of_lt (blk_lt (g := gb101) (o := .cells #[.string a0_0, .bool a0_1, .slice A0_2 l0_2.length c0_2] 62 (0, 0)) (by (with_reducible repeat (first | refine blk_drewN ?_ _ | refine blk_drew ?_ | refine blk_alloc ?_ _)); exact BK101.out)) : gb101 ≠ gb121)); have n9_ := Aside0.mk ((by rw [hg]; exact Nat.ne_of_gt (blk_lt (g := gb101) (o := .cells #[.string a0_0, .bool a0_1, .slice A0_2 l0_2.length c0_2] 62 (0, 0)) (by (with_reducible repeat (first | refine blk_drewN ?_ _ | refine blk_drew ?_ | refine blk_alloc ?_ _)); exact BK101.out)) : gb121 ≠ gb101)); have n10_ := Aside0.mk ((by rw [hg]; exact Nat.ne_of_lt (blk_lt (g := gb114) (o := .cells #[.string t108, .bool t109, .slice Ao83 t110.length co83] 62 (0, 0)) (by (with_reducible repeat (first | refine blk_drewN ?_ _ | refine blk_drew ?_ | refine blk_alloc ?_ _)); exact BK114.out)) : gb114 ≠ gb121)); have n11_ := Aside0.mk ((by rw [hg]; exact Nat.ne_of_gt (blk_lt (g := gb114) (o := .cells #[.string t108, .bool t109, .slice Ao83 t110.length co83] 62 (0, 0)) (by (with_reducible repeat (first | refine blk_drewN ?_ _ | refine blk_drew ?_ | refine blk_alloc ?_ _)); exact BK114.out)) : gb121 ≠ gb114)); clear HO112; clear HO119; clear BK101; clear BK114; clear HB; have HO112 := n0_; have HO119 := n1_; have BK101 := n2_; have BK114 := n3_; have HB := n4_; have BK121 := n5_; have GW121 := n6_; have GE121 := n7_; have NB101_121 := n8_; have NB121_101 := n9_; have NB114_121 := n10_; have NB121_114 := n11_; clear n0_ n1_ n2_ n3_ n4_ n5_ n6_ n7_ n8_ n9_ n10_ n11_; clear hb hbox hg; have hnb86 := NB121_101.out; have hnc86 := NB101_121.out; have hnb87 := NB121_114.out; have hnc87 := NB114_121.out; have hcz88_0 : w85.cell? ⟨gb121, 0, none⟩ = some (.string (⟨#[]⟩ : ByteArray)) := (blk_cell BK121.out 0).trans rfl; have hcz88_1 : w85.cell? ⟨gb121, 1, none⟩ = some (.bool false) := (blk_cell BK121.out 1).trans rfl; have hcz88_2 : w85.cell? ⟨gb121, 2, none⟩ = some (.slice none 0 0) := (blk_cell BK121.out 2).trans rfl; have hfz88_0 := blk_frozen BK121.out 0; have hfz88_1 := blk_frozen BK121.out 1; have hfz88_2 := blk_frozen BK121.out 2; obtain ⟨Ao89, co89, eo89⟩ := Kd.R_slice HO119.out; subst eo89) | ((with_reducible refine gate_callee (f := 52) rfl ?_); refine goesL_ (some 57) rfl rfl Try.func52 (by kernel_rfl) rfl #[.string t105, .int .i64 t106, .int .i64 t107] rfl (by (try simp only [List.map_toArray, List.map_cons, List.map_nil]); first | done | rfl | (simp only [List.length_drop, List.length_take]; rfl)) ?_; (with_reducible refine (rlp_Get.calls t105 t106 t107 t122 t123 t124 t127 _ A25.out).mono ?_); rintro e w90 ⟨v125, rfl, ho0, hb⟩; refine ⟨_, rfl, ?_⟩; have n0_ := Aside0.mk (Kd.R_elder' (by (with_reducible repeat (first | apply Kd.R_alloc | apply Kd.R_drewN | apply Kd.R_drew)); exact (Kd.R_mono (Kd.R_far (p := ⟨gb121, 2, none⟩) (Kd.R_far (p := ⟨gb121, 1, none⟩) (Kd.R_far (p := ⟨gb121, 0, none⟩) (Kd.R_mono HO112.out (fun k_ hk => (⟨hk, hk.2⟩ : _ ∧ k_ ≠ gb121))) (fun _ hk => hk.2) (.string t115)) (fun _ hk => hk.2) (.bool t116)) (fun _ hk => hk.2) (.slice Ao89 t117.length co89)) (fun _ h_ => h_.1))) (Kd.R_base ho0) hb); have n1_ := Aside0.mk (Kd.R_elder' (by (with_reducible repeat (first | apply Kd.R_alloc | apply Kd.R_drewN | apply Kd.R_drew)); exact (Kd.R_mono (Kd.R_far (p := ⟨gb121, 2, none⟩) (Kd.R_far (p := ⟨gb121, 1, none⟩) (Kd.R_far (p := ⟨gb121, 0, none⟩) (Kd.R_mono HO119.out (fun k_ hk => (⟨hk, hk.2⟩ : _ ∧ k_ ≠ gb121))) (fun _ hk => hk.2) (.string t115)) (fun _ hk => hk.2) (.bool t116)) (fun _ hk => hk.2) (.slice Ao89 t117.length co89)) (fun _ h_ => h_.1))) (Kd.R_base ho0) hb); have n2_ := Aside0.mk (Kd.R_lower (Kd.R_newB (Kd.R_newB (Kd.R_newB (Kd.R_new' (Kd.R_new' ho0 (Kd.R_lt (by (with_reducible repeat (first | apply Kd.R_alloc | apply Kd.R_drewN | apply Kd.R_drew)); exact (Kd.R_mono (Kd.R_far (p := ⟨gb121, 2, none⟩) (Kd.R_far (p := ⟨gb121, 1, none⟩) (Kd.R_far (p := ⟨gb121, 0, none⟩) (Kd.R_mono HO112.out (fun k_ hk => (⟨hk, hk.2⟩ : _ ∧ k_ ≠ gb121))) (fun _ hk => hk.2) (.string t115)) (fun _ hk => hk.2) (.bool t116)) (fun _ hk => hk.2) (.slice Ao89 t117.length co89)) (fun _ h_ => h_.1))))) (Kd.R_lt (by (with_reducible repeat (first | apply Kd.R_alloc | apply Kd.R_drewN | apply Kd.R_drew)); exact (Kd.R_mono (Kd.R_far (p := ⟨gb121, 2, none⟩) (Kd.R_far (p := ⟨gb121, 1, none⟩) (Kd.R_far (p := ⟨gb121, 0, none⟩) (Kd.R_mono HO119.out (fun k_ hk => (⟨hk, hk.2⟩ : _ ∧ k_ ≠ gb121))) (fun _ hk => hk.2) (.string t115)) (fun _ hk => hk.2) (.bool t116)) (fun _ hk => hk.2) (.slice Ao89 t117.length co89)) (fun _ h_ => h_.1))))) (g := gb101) (o := .cells #[.string a0_0, .bool a0_1, .slice A0_2 l0_2.length c0_2] 62 (0, 0)) (by (with_reducible repeat (first | refine blk_drewN ?_ _ | refine blk_drew ?_ | refine blk_alloc ?_ _)); refine blk_far ?_ NB101_121.out _; (with_reducible repeat (first | refine blk_drewN ?_ _ | refine blk_drew ?_ | refine blk_alloc ?_ _)); refine blk_far ?_ NB101_121.out _; (with_reducible repeat (first | refine blk_drewN ?_ _ | refine blk_drew ?_ | refine blk_alloc ?_ _)); refine blk_far ?_ NB101_121.out _; (with_reducible repeat (first | refine blk_drewN ?_ _ | refine blk_drew ?_ | refine blk_alloc ?_ _)); exact BK101.out)) (g := gb114) (o := .cells #[.string t108, .bool t109, .slice Ao83 t110.length co83] 62 (0, 0)) (by (with_reducible repeat (first | refine blk_drewN ?_ _ | refine blk_drew ?_ | refine blk_alloc ?_ _)); refine blk_far ?_ NB114_121.out _; (with_reducible repeat (first | refine blk_drewN ?_ _ | refine blk_drew ?_ | refine blk_alloc ?_ _)); refine blk_far ?_ NB114_121.out _; (with_reducible repeat (first | refine blk_drewN ?_ _ | refine blk_drew ?_ | refine blk_alloc ?_ _)); refine blk_far ?_ NB114_121.out _; (with_reducible repeat (first | refine blk_drewN ?_ _ | refine blk_drew ?_ | refine blk_alloc ?_ _)); exact BK114.out)) (g := gb121) (o := .cells #[.string t115, .bool t116, .slice Ao89 t117.length co89] 62 (0, 0)) (by (with_reducible repeat (first | refine blk_drewN ?_ _ | refine blk_drew ?_ | refine blk_alloc ?_ _)); refine blk_put (cs := #[.string t115, .bool t116, .slice none 0 0]) ?_ 2 _ rfl; (with_reducible repeat (first | refine blk_drewN ?_ _ | refine blk_drew ?_ | refine blk_alloc ?_ _)); refine blk_put (cs := #[.string t115, .bool false, .slice none 0 0]) ?_ 1 _ rfl; (with_reducible repeat (first | refine blk_drewN ?_ _ | refine blk_drew ?_ | refine blk_alloc ?_ _)); refine blk_put (cs := #[.string (⟨#[]⟩ : ByteArray), .bool false, .slice none 0 0]) ?_ 0 _ rfl; (with_reducible repeat (first | refine blk_drewN ?_ _ | refine blk_drew ?_ | refine blk_alloc ?_ _)); exact BK121.out)) (below_size (by repeat (first | (with_reducible first | exact HB.out | apply below_alloc | apply pw_below_drewN | apply below_drew1 | refine below_set ?_ GE101.out | refine below_set ?_ GE114.out | refine below_set ?_ GE121.out) | exact HB.out)))); have n3_ := Aside0.mk (blk_below (g := gb101) (o := .cells #[.string a0_0, .bool a0_1, .slice A0_2 l0_2.length c0_2] 62 (0, 0)) (by (with_reducible repeat (first | refine blk_drewN ?_ _ | refine blk_drew ?_ | refine blk_alloc ?_ _)); refine blk_far ?_ NB101_121.out _; (with_reducible repeat (first | refine blk_drewN ?_ _ | refine blk_drew ?_ | refine blk_alloc ?_ _)); refine blk_far ?_ NB101_121.out _; (with_reducible repeat (first | refine blk_drewN ?_ _ | refine blk_drew ?_ | refine blk_alloc ?_ _)); refine blk_far ?_ NB101_121.out _; (with_reducible repeat (first | refine blk_drewN ?_ _ | refine blk_drew ?_ | refine blk_alloc ?_ _)); exact BK101.out) hb); have n4_ := Aside0.mk (blk_below (g := gb114) (o := .cells #[.string t108, .bool t109, .slice Ao83 t110.length co83] 62 (0, 0)) (by (with_reducible repeat (first | refine blk_drewN ?_ _ | refine blk_drew ?_ | refine blk_alloc ?_ _)); refine blk_far ?_ NB114_121.out _; (with_reducible repeat (first | refine blk_drewN ?_ _ | refine blk_drew ?_ | refine blk_alloc ?_ _)); refine blk_far ?_ NB114_121.out _; (with_reducible repeat (first | refine blk_drewN ?_ _ | refine blk_drew ?_ | refine blk_alloc ?_ _)); refine blk_far ?_ NB114_121.out _; (with_reducible repeat (first | refine blk_drewN ?_ _ | refine blk_drew ?_ | refine blk_alloc ?_ _)); exact BK114.out) hb); have n5_ := Aside0.mk (blk_below (g := gb121) (o := .cells #[.string t115, .bool t116, .slice Ao89 t117.length co89] 62 (0, 0)) (by (with_reducible repeat (first | refine blk_drewN ?_ _ | refine blk_drew ?_ | refine blk_alloc ?_ _)); refine blk_put (cs := #[.string t115, .bool t116, .slice none 0 0]) ?_ 2 _ rfl; (with_reducible repeat (first | refine blk_drewN ?_ _ | refine blk_drew ?_ | refine blk_alloc ?_ _)); refine blk_put (cs := #[.string t115, .bool false, .slice none 0 0]) ?_ 1 _ rfl; (with_reducible repeat (first | refine blk_drewN ?_ _ | refine blk_drew ?_ | refine blk_alloc ?_ _)); refine blk_put (cs := #[.string (⟨#[]⟩ : ByteArray), .bool false, .slice none 0 0]) ?_ 0 _ rfl; (with_reducible repeat (first | refine blk_drewN ?_ _ | refine blk_drew ?_ | refine blk_alloc ?_ _)); exact BK121.out) hb); have n6_ := Aside0.mk (below_step (by repeat (first | (with_reducible first | exact HB.out | apply below_alloc | apply pw_below_drewN | apply below_drew1 | refine below_set ?_ GE101.out | refine below_set ?_ GE114.out | refine below_set ?_ GE121.out) | exact HB.out)) hb); clear HO112; clear HO119; clear BK101; clear BK114; clear BK121; clear HB; have HO112 := n0_; have HO119 := n1_; have HO126 := n2_; have BK101 := n3_; have BK114 := n4_; have BK121 := n5_; have HB := n6_; clear n0_ n1_ n2_ n3_ n4_ n5_ n6_; (try clear hb); (try clear hb2); (try clear hk); (try clear hi); (try clear ho0)) | ((with_reducible refine gate_dst (N := 12) rfl ?_); refine box_event ?hg (N := 12) ?hd (cs := #[.string (⟨#[]⟩ : ByteArray), .bool false, .slice none 0 0]) (t := 62) ?hr ?_; (case hd => rfl); (case hg => rfl); (case hr => first | (go_simp; done) | (go_simp; rfl)); intro gb128 hg w91 hbox hb; have n0_ := Aside0.mk (Kd.R_below (Kd.R_elderB (by (with_reducible repeat (first | apply Kd.R_alloc | apply Kd.R_drewN | apply Kd.R_drew)); exact HO112.out) gb128 (Nat.le_of_eq hg.symm)) hb); have n1_ := Aside0.mk (Kd.R_below (Kd.R_elderB (by (with_reducible repeat (first | apply Kd.R_alloc | apply Kd.R_drewN | apply Kd.R_drew)); exact HO119.out) gb128 (Nat.le_of_eq hg.symm)) hb); have n2_ := Aside0.mk (Kd.R_below (Kd.R_elderB (by (with_reducible repeat (first | apply Kd.R_alloc | apply Kd.R_drewN | apply Kd.R_drew)); exact HO126.out) gb128 (Nat.le_of_eq hg.symm)) hb); have n3_ := Aside0.mk (blk_below (g := gb101) (o := .cells #[.string a0_0, .bool a0_1, .slice A0_2 l0_2.length c0_2] 62 (0, 0)) (by (with_reducible repeat (first | refine blk_drewN ?_ _ | refine blk_drew ?_ | refine blk_alloc ?_ _)); exact BK101.out) hb); have n4_ := Aside0.mk (blk_below (g := gb114) (o := .cells #[.string t108, .bool t109, .slice Ao83 t110.length co83] 62 (0, 0)) (by (with_reducible repeat (first | refine blk_drewN ?_ _ | refine blk_drew ?_ | refine blk_alloc ?_ _)); exact BK114.out) hb); have n5_ := Aside0.mk (blk_below (g := gb121) (o := .cells #[.string t115, .bool t116, .slice Ao89 t117.length co89] 62 (0, 0)) (by (with_reducible repeat (first | refine blk_drewN ?_ _ | refine blk_drew ?_ | refine blk_alloc ?_ _)); exact BK121.out) hb); have n6_ := Aside0.mk (below_step (by repeat (first | (with_reducible first | exact HB.out | apply below_alloc | apply pw_below_drewN | apply below_drew1 | refine below_set ?_ GE101.out | refine below_set ?_ GE114.out | refine below_set ?_ GE121.out) | exact HB.out)) hb); have n7_ := Aside0.mk (hbox); have n8_ := Aside0.mk ((by rw [hg]; exact (below_size (by repeat (first | (with_reducible first | exact HB.out | apply below_alloc | apply pw_below_drewN | apply below_drew1 | refine below_set ?_ GE101.out | refine below_set ?_ GE114.out | refine below_set ?_ GE121.out) | exact HB.out))) : w.heap.size ≤ gb128)); have n9_ := Aside0.mk ((by rw [hg]; exact (below_size (by repeat (first | (with_reducible first | exact HB.out | apply below_alloc | apply pw_below_drewN | apply below_drew1 | refine below_set ?_ GE101.out | refine below_set ?_ GE114.out | refine below_set ?_ GE121.out) | exact HB.out))) : w.heap.size ≤ gb128)); have n10_ := Aside0.mk ((by rw [hg]; exact Nat.ne_of_lt (blk_lt (g := gb101) (o := .cells #[.string a0_0, .bool a0_1, .slice A0_2 l0_2.length c0_2] 62 (0, 0)) (by (with_reducible repeat (first | refine blk_drewN ?_ _ | refine blk_drew ?_ | refine blk_alloc ?_ _)); exact BK101.out)) : gb101 ≠ gb128)); have n11_ := Aside0.mk ((by rw [hg]; exact Nat.ne_of_gt (blk_lt (g := gb101) (o := .cells #[.string a0_0, .bool a0_1, .slice A0_2 l0_2.length c0_2] 62 (0, 0)) (by (with_reducible repeat (first | refine blk_drewN ?_ _ | refine blk_drew ?_ | refine blk_alloc ?_ _)); exact BK101.out)) : gb128 ≠ gb101)); have n12_ := Aside0.mk ((by rw [hg]; exact Nat.ne_of_lt (blk_lt (g := gb114) (o := .cells #[.string t108, .bool t109, .slice Ao83 t110.length co83] 62 (0, 0)) (by (with_reducible repeat (first | refine blk_drewN ?_ _ | refine blk_drew ?_ | refine blk_alloc ?_ _)); exact BK114.out)) : gb114 ≠ gb128)); have n13_ := Aside0.mk ((by rw [hg]; exact Nat.ne_of_gt (blk_lt (g := gb114) (o := .cells #[.string t108, .bool t109, .slice Ao83 t110.length co83] 62 (0, 0)) (by (with_reducible repeat (first | refine blk_drewN ?_ _ | refine blk_drew ?_ | refine blk_alloc ?_ _)); exact BK114.out)) : gb128 ≠ gb114)); have n14_ := Aside0.mk ((by rw [hg]; exact Nat.ne_of_lt (blk_lt (g := gb121) (o := .cells #[.string t115, .bool t116, .slice Ao89 t117.length co89] 62 (0, 0)) (by (with_reducible repeat (first | refine blk_drewN ?_ _ | refine blk_drew ?_ | refine blk_alloc ?_ _)); exact BK121.out)) : gb121 ≠ gb128)); have n15_ := Aside0.mk ((by rw [hg]; exact Nat.ne_of_gt (blk_lt (g := gb121) (o := .cells #[.string t115, .bool t116, .slice Ao89 t117.length co89] 62 (0, 0)) (by (with_reducible repeat (first | refine blk_drewN ?_ _ | refine blk_drew ?_ | refine blk_alloc ?_ _)); exact BK121.out)) : gb128 ≠ gb121)); clear HO112; clear HO119; clear HO126; clear BK101; clear BK114; clear BK121; clear HB; have HO112 := n0_; have HO119 := n1_; have HO126 := n2_; have BK101 := n3_; have BK114 := n4_; have BK121 := n5_; have HB := n6_; have BK128 := n7_; have GW128 := n8_; have GE128 := n9_; have NB101_128 := n10_; have NB128_101 := n11_; have NB114_128 := n12_; have NB128_114 := n13_; have NB121_128 := n14_; have NB128_121 := n15_; clear n0_ n1_ n2_ n3_ n4_ n5_ n6_ n7_ n8_ n9_ n10_ n11_ n12_ n13_ n14_ n15_; clear hb hbox hg; have hnb92 := NB128_101.out; have hnc92 := NB101_128.out; have hnb93 := NB128_114.out; have hnc93 := NB114_128.out; have hnb94 := NB128_121.out; have hnc94 := NB121_128.out; have hcz95_0 : w91.cell? ⟨gb128, 0, none⟩ = some (.string (⟨#[]⟩ : ByteArray)) := (blk_cell BK128.out 0).trans rfl; have hcz95_1 : w91.cell? ⟨gb128, 1, none⟩ = some (.bool false) := (blk_cell BK128.out 1).trans rfl; have hcz95_2 : w91.cell? ⟨gb128, 2, none⟩ = some (.slice none 0 0) := (blk_cell BK128.out 2).trans rfl; have hfz95_0 := blk_frozen BK128.out 0; have hfz95_1 := blk_frozen BK128.out 1; have hfz95_2 := blk_frozen BK128.out 2; obtain ⟨Ao96, co96, eo96⟩ := Kd.R_slice HO126.out; subst eo96))
        go_ret
        exact ⟨by first | rfl | (simp [errW_none, errW_some] <;> rfl) | (simp [*, errW_none, errW_some] <;> rfl), by repeat (first | (with_reducible first | exact HB.out | apply below_alloc | apply pw_below_drewN | apply below_drew1 | refine below_set ?_ GE101.out | refine below_set ?_ GE114.out | refine below_set ?_ GE121.out | refine below_set ?_ GE128.out) | exact HB.out)⟩
 ·replace c4 := Bool.eq_false_iff.mpr c4
  subst c4
  have H1 : (some false) = some r := by rw [if_neg (show ¬ (false = true) by decide)] at H; exact H
  clear H
  have H := H1
  clear H1
  obtain rfl := Option.some.inj H
  go_enter Try.func9, Try.ntmps9
  go_wp2_with (first | ((with_reducible refine gate_dst (N := 2) rfl ?_); refine box_event ?hg (N := 2) ?hd (cs := #[.string a0_0, .bool a0_1, .slice A0_2 l0_2.length c0_2]) (t := 62) ?hr ?_; (case hd => rfl); (case hg => rfl); (case hr => first | (go_simp; done) | (go_simp; rfl)); intro gb101 hg w97 hbox hb; have n0_ := Aside0.mk (below_step (by repeat (first | (with_reducible first | exact HB.out | apply below_alloc | apply pw_below_drewN | apply below_drew1) | exact HB.out)) hb); have n1_ := Aside0.mk (hbox); have n2_ := Aside0.mk ((by rw [hg]; exact (below_size (by repeat (first | (with_reducible first | exact HB.out | apply below_alloc | apply pw_below_drewN | apply below_drew1) | exact HB.out))) : w.heap.size ≤ gb101)); have n3_ := Aside0.mk ((by rw [hg]; exact (below_size (by repeat (first | (with_reducible first | exact HB.out | apply below_alloc | apply pw_below_drewN | apply below_drew1) | exact HB.out))) : w.heap.size ≤ gb101)); clear HB; have HB := n0_; have BK101 := n1_; have GW101 := n2_; have GE101 := n3_; clear n0_ n1_ n2_ n3_; clear hb hbox hg) | ((with_reducible refine gate_callee (f := 49) rfl ?_); refine goesL_ (some 14) rfl rfl Try.func49 (by kernel_rfl) rfl #[] rfl (by (try simp only [List.map_toArray, List.map_cons, List.map_nil]); first | done | rfl | (simp only [List.length_drop, List.length_take]; rfl)) ?_; (with_reducible refine (hatchwaylaw09_alive.calls  false _ A3.out).mono ?_); rintro e w98 ⟨rfl, hb⟩; refine ⟨_, rfl, ?_⟩; have n0_ := Aside0.mk (blk_below (g := gb101) (o := .cells #[.string a0_0, .bool a0_1, .slice A0_2 l0_2.length c0_2] 62 (0, 0)) (by (with_reducible repeat (first | refine blk_drewN ?_ _ | refine blk_drew ?_ | refine blk_alloc ?_ _)); exact BK101.out) hb); have n1_ := Aside0.mk (below_step (by repeat (first | (with_reducible first | exact HB.out | apply below_alloc | apply pw_below_drewN | apply below_drew1 | refine below_set ?_ GE101.out) | exact HB.out)) hb); clear BK101; clear HB; have BK101 := n0_; have HB := n1_; clear n0_ n1_; (try clear hb); (try clear hb2); (try clear hk); (try clear hi)))
  go_ret
  exact ⟨by first | rfl | (simp [errW_none, errW_some] <;> rfl) | (simp [*, errW_none, errW_some] <;> rfl), by repeat (first | (with_reducible first | exact HB.out | apply below_alloc | apply pw_below_drewN | apply below_drew1 | refine below_set ?_ GE101.out) | exact HB.out)⟩
end Go.Proofs.Yteoibgpkimlahaa.P
end
section
namespace Go.Proofs.Yteoibgpkimlahaa.P
open Go.RowKit Go.Proofs.YteoibgpkimlahaaW.PrintWords Go.Proofs.YteoibgpkimlahaaW.PrintLast Go.Proofs.YteoibgpkimlahaaW.PrintMore
theorem getLeast_dg (n : Int) (h0 : 0 ≤ n) (h1 : n < 18446744073709551616) : fixed_GetLeast.f (strOfNums (digs n)) = some (n, 0) := by
 unfold fixed_GetLeast.f
 have hb := bytesOf_str (digs n) (digs_byte n)
 rw [if_neg (by rw [strOfNums_size, digs_length]; have := sz_u64 h0 h1; omega), if_neg ?_, hb, numL_digs n h0]
 rintro ⟨h2, h3⟩
 have hn : 0 < n := by
  rcases Int.lt_or_le 0 n with h | h
  ·exact h
  ·exfalso
   have : n = 0 := by omega
   subst this
   rw [digs_zero] at h2
   exact h2 (by rw [toList_str]; rfl)
 have h4 := digs_head n hn
 have h5 := bt_getD (strOfNums (digs n)) 0
 rw [hb] at h5
 rw [show ((0 : Nat) : Int) = 0 from rfl, h3] at h5
 cases hd : digs n with
 | nil =>
  have := digs_length n
  rw [hd, sz_pos hn] at this
  simp at this
 | cons a l =>
  rw [hd] at h5 h4
  simp at h5 h4
  omega
section
variable {s : ByteArray}
theorem bt_drop {a : Nat} {b : Int} {r : List Int} (h : (bytesOf s).drop a = b :: r) : bt s a = b := by
 rw [bt_getD]
 have h2 : (bytesOf s)[a]? = some b := by
  have := congrArg (fun l => l[0]?) h
  simpa using this
 simp [List.getD, h2]
theorem drop_more {a : Nat} {p r : List Int} (h : (bytesOf s).drop a = p ++ r) : (bytesOf s).drop (a + p.length) = r := by
 rw [← List.drop_drop, h, List.drop_left]
theorem bytesOf_ext (s : ByteArray) (a b : Nat) : bytesOf (s.extract a b) = ((bytesOf s).drop a).take (b - a) := by
 unfold bytesOf
 rw [← List.map_drop, ← List.map_take]
 congr 1
 rw [ByteArray.data_extract, Array.toList_extract]
theorem ext_text {a : Nat} {t : ByteArray} {r : List Int} (h : (bytesOf s).drop a = bytesOf t ++ r) : s.extract a (a + t.size) = t := by
 refine bytesOf_inj ?_
 rw [bytesOf_ext, h, Nat.add_sub_cancel_left, ← bytesOf_length t, List.take_left]
theorem ext_digs {a : Nat} {n : Int} {r : List Int} (h : (bytesOf s).drop a = digs n ++ r) : s.extract a (a + sz n) = strOfNums (digs n) := by
 refine bytesOf_inj ?_
 rw [bytesOf_ext, h, bytesOf_str _ (digs_byte n), Nat.add_sub_cancel_left, ← digs_length n, List.take_left]
theorem start_ok {a d t : Int} {st : List S151} (h1 : a < endD s st) (h2 : (st.length : Int) < d) (h3 : 1 ≤ t) : startF s a d t st = 0 := by
 unfold startF startF2 startF1
 rw [if_neg (by omega), if_neg (by omega), if_neg (by omega)]
 rfl
theorem start_deep {a d t : Int} {st : List S151} (h1 : a < endD s st) (h2 : d ≤ (st.length : Int)) : startF s a d t st = 6 := by
 unfold startF startF2 startF1
 rw [if_neg (by omega), if_pos h2]
 rfl
theorem start_many {a d t : Int} {st : List S151} (h1 : a < endD s st) (h2 : (st.length : Int) < d) (h3 : t < 1) : startF s a d t st = 4 := by
 unfold startF startF2 startF1
 rw [if_neg (by omega), if_neg (by omega), if_pos (by omega)]
 rfl
theorem lenD_head {by_ : Int} {n a : Nat} {st : List S151} {r : List Int} (hn : n ≤ 1099511627776) (h : (bytesOf s).drop a = headL by_ n ++ r) (he : (a + (headL by_ n).length + n : Nat) ≤ endD s st) :
  by_ ≤ bt s a ∧ bt s a < by_ + 64 ∧ lenD s ((a : Int) + 1) st (bt s a - by_) = ((n : Int), ((a + (headL by_ n).length : Nat) : Int), 0) := by
 unfold headL at h he ⊢
 by_cases c : (n : Int) ≤ 55
 ·rw [if_pos c] at h he ⊢
  have hbt := bt_drop (b := by_ + n) h
  rw [hbt, show by_ + (n : Int) - by_ = n by omega]
  refine ⟨by omega, by omega, ?_⟩
  unfold lenD
  simp only [List.length_cons, List.length_nil] at he ⊢
  rw [if_pos c, if_neg (by omega)]
  refine Prod.ext rfl (Prod.ext ?_ rfl)
  show (a : Int) + 1 = ((a + (0 + 1) : Nat) : Int)
  omega
 ·rw [if_neg c] at h he ⊢
  have hs8 := sz_u64 (n := (n : Int)) (by omega) (by omega)
  have hs1 : 1 ≤ sz (n : Int) := by rw [sz_pos (by omega)]; omega
  have hbt := bt_drop (b := by_ + 55 + sz (n : Int)) h
  have hd : (bytesOf s).drop (a + 1) = digs n ++ r := drop_more (p := [by_ + 55 + (sz (n : Int) : Int)]) h
  have hx := ext_digs hd
  rw [hbt, show by_ + 55 + (sz (n : Int) : Int) - by_ = 55 + sz (n : Int) by omega]
  refine ⟨by omega, by omega, ?_⟩
  simp only [List.length_cons, digs_length] at he ⊢
  unfold lenD
  rw [if_neg (by omega), if_neg (by omega), show ((a : Int) + 1).toNat = a + 1 by omega, show ((a : Int) + 1 + (55 + (sz (n : Int) : Int) - 55)).toNat = a + 1 + sz (n : Int) by omega, hx, getLeast_dg n (by omega) (by omega)]
  simp only
  rw [if_neg (by omega), if_pos ⟨trivial, by omega⟩]
  refine Prod.ext rfl (Prod.ext ?_ rfl)
  show (a : Int) + 1 + (55 + (sz (n : Int) : Int) - 55) = ((a + (sz (n : Int) + 1) : Nat) : Int)
  omega
theorem one_text {t : ByteArray} {a : Nat} {d tt : Int} {st : List S151} {r : List Int} (ht : t.size ≤ 1099511627776) (h : (bytesOf s).drop a = putL ⟨t, false, []⟩ ++ r) (he : (a + (putL ⟨t, false, []⟩).length : Nat) ≤ endD s st) (hd : (st.length : Int) < d) (h1 : 1 ≤ tt) :
  oneD s a d tt st = (t, true, ((a + (putL ⟨t, false, []⟩).length : Nat) : Int), st, 0) := by
 have hp := putL_pos ⟨t, false, []⟩
 have h0 := start_ok (s := s) (a := a) (d := d) (t := tt) (st := st) (by omega) hd h1
 rw [show putL ⟨t, false, []⟩ = if t.size = 1 ∧ bt t 0 < 128 then bytesOf t else headL 128 t.size ++ bytesOf t by rw [putL_eq, if_neg (by simp)]] at h he ⊢
 unfold oneD
 rw [if_neg (by rw [h0]; simp)]
 by_cases c : t.size = 1 ∧ bt t 0 < 128
 ·rw [if_pos c] at h he ⊢
  have e1 : bytesOf t = [bt t 0] := by
   have hl := bytesOf_length t
   rw [c.1] at hl
   obtain ⟨b, hb⟩ := List.length_eq_one_iff.1 hl
   rw [hb, show bt t 0 = bt t ((0 : Nat) : Int) from rfl, bt_getD, hb]
   rfl
  have hbt := bt_drop (b := bt t 0) (r := r) (by rw [h, e1]; rfl)
  rw [hbt, if_pos c.2, ← e1, str_bytesOf, bytesOf_length, c.1]
  exact Prod.ext rfl (Prod.ext rfl (Prod.ext (show (a : Int) + 1 = ((a + 1 : Nat) : Int) by omega) rfl))
 ·rw [if_neg c] at h he ⊢
  rw [List.append_assoc] at h
  rw [List.length_append, bytesOf_length] at he ⊢
  obtain ⟨b1, b2, b3⟩ := lenD_head (by_ := 128) (st := st) ht h (by omega)
  have hh := headL_len 128 t.size (by omega) (by omega)
  rw [if_neg (by omega), if_pos (by omega), b3]
  simp only
  have hx := ext_text (drop_more h)
  rw [if_pos trivial, show ((a + (headL 128 (t.size : Int)).length : Nat) : Int).toNat = a + (headL 128 (t.size : Int)).length by omega, show (((a + (headL 128 (t.size : Int)).length : Nat) : Int) + (t.size : Int)).toNat = a + (headL 128 (t.size : Int)).length + t.size by omega, hx]
  have hc : ¬ ((t.size : Int) = 1 ∧ bt s ((a + (headL 128 (t.size : Int)).length : Nat) : Int) < 128) := by
   rintro ⟨q1, q2⟩
   refine c ⟨by omega, ?_⟩
   have e1 : bytesOf t = [bt t 0] := by
    have hl := bytesOf_length t
    obtain ⟨b, hb⟩ := List.length_eq_one_iff.1 (show (bytesOf t).length = 1 by omega)
    rw [hb, show bt t 0 = bt t ((0 : Nat) : Int) from rfl, bt_getD, hb]
    rfl
   have hbt := bt_drop (b := bt t 0) (r := r) (by rw [drop_more h, e1]; rfl)
   rw [hbt] at q2
   exact q2
  rw [if_neg hc]
  exact Prod.ext rfl (Prod.ext rfl (Prod.ext (show ((a + (headL 128 (t.size : Int)).length : Nat) : Int) + (t.size : Int) = ((a + ((headL 128 (t.size : Int)).length + t.size) : Nat) : Int) by omega) rfl))
theorem one_list {n a : Nat} {d tt : Int} {st : List S151} {r : List Int} (hn : n ≤ 1099511627776) (h : (bytesOf s).drop a = headL 192 n ++ r) (he : (a + (headL 192 n).length + n : Nat) ≤ endD s st) (hd : (st.length : Int) < d) (h1 : 1 ≤ tt) :
  oneD s a d tt st = (⟨#[]⟩, false, ((a + (headL 192 n).length : Nat) : Int), st ++ [⟨[], ((a + (headL 192 n).length + n : Nat) : Int)⟩], 0) := by
 have hp := headL_pos 192 n
 have h0 := start_ok (s := s) (a := a) (d := d) (t := tt) (st := st) (by omega) hd h1
 obtain ⟨b1, b2, b3⟩ := lenD_head (by_ := 192) (st := st) hn h he
 unfold oneD
 rw [if_neg (by rw [h0]; simp), if_neg (by omega), if_neg (by omega), b3]
 rw [show ((a + (headL 192 (n : Int)).length : Nat) : Int) + (n : Int) = ((a + (headL 192 (n : Int)).length + n : Nat) : Int) by omega]
theorem rd_top (st : List S151) (o : S151) : rd_T151 (st ++ [o]) (st.length : Int) = o := by
 unfold rd_T151
 rw [Int.toNat_natCast, List.getD, List.getElem?_append_right (Nat.le_refl _), Nat.sub_self]
 rfl
theorem endD_top (st : List S151) (o : S151) : endD s (st ++ [o]) = o.f1 := by
 unfold endD
 rw [if_neg (by simp), show ((st ++ [o]).length : Int) - 1 = (st.length : Int) by simp, rd_top]
def shutThen (s : ByteArray) (d : Int) (k : Nat) (a t : Int) (st : List S151) (x : S62) : S62 × Int × Int :=
 if (shutD a st.length true x st).1 = true then ((shutD a st.length true x st).2.1, a, 0) else nextL s d k a t (shutD a st.length true x st).2.2
theorem shutThen_nil (d : Int) (k : Nat) (a t : Int) (x : S62) : shutThen s d k a t [] x = (x, a, 0) := rfl
theorem shut_top (a : Int) (ok : Bool) (x : S62) (st : List S151) (o : S151) : shutD a (st ++ [o]).length ok x (st ++ [o]) =
  if a < o.f1 then (false, z62, if ok = true then st ++ [⟨o.f0 ++ [x], o.f1⟩] else st ++ [o]) else shutD a st.length true ⟨⟨#[]⟩, true, if ok = true then o.f0 ++ [x] else o.f0⟩ st := by
 rw [List.length_append, List.length_singleton, shutD, rd_top, List.set_append_right _ _ (Nat.le_refl _), Nat.sub_self, List.take_left]
 rfl
theorem shutThen_in {d : Int} {k : Nat} {a t : Int} {st : List S151} {x : S62} {l : List S62} {e : Int} (h : a < e) : shutThen s d k a t (st ++ [⟨l, e⟩]) x = nextL s d k a t (st ++ [⟨l ++ [x], e⟩]) := by
 unfold shutThen
 rw [shut_top, if_pos h]
 rfl
theorem shutThen_end {d : Int} {k : Nat} {a t : Int} {st : List S151} {x : S62} {l : List S62} {e : Int} (h : ¬ a < e) : shutThen s d k a t (st ++ [⟨l, e⟩]) x = shutThen s d k a t st ⟨⟨#[]⟩, true, l ++ [x]⟩ := by
 unfold shutThen
 rw [shut_top, if_neg h]
 rfl
theorem next_text {d : Int} {k : Nat} {a t a' : Int} {st : List S151} {x : ByteArray} (h : oneD s a d t st = (x, true, a', st, 0)) : nextL s d (k + 1) a t st = shutThen s d k a' (t - 1) st ⟨x, false, []⟩ := by
 rw [nextL, h]
 rfl
theorem next_list {d : Int} {k : Nat} {a t a' e : Int} {st : List S151} (h : oneD s a d t st = (⟨#[]⟩, false, a', st ++ [⟨[], e⟩], 0)) : nextL s d (k + 1) a t st = if a' < e then nextL s d k a' (t - 1) (st ++ [⟨[], e⟩]) else shutThen s d k a' (t - 1) st ⟨⟨#[]⟩, true, []⟩ := by
 rw [nextL, h]
 simp only
 rw [shut_top]
 by_cases c : a' < e
 ·rw [if_pos c, if_pos c]
  rfl
 ·rw [if_neg c, if_neg c]
  rfl
theorem next_fault {d : Int} {k : Nat} {a t f : Int} {st : List S151} (h : startF s a d t st = f) (hf : f ≠ 0) : nextL s d (k + 1) a t st = (z62, 0, f) := by
 have e : (oneD s a d t st).2.2.2.2 = f := by
  unfold oneD
  rw [if_pos (by rw [h]; exact hf), h]
 rw [nextL, if_neg (by rw [e]; exact hf), e]
theorem rgt_text {t : ByteArray} {sub : List S62} (h : rgt ⟨t, false, sub⟩ = true) : sub = [] := by
 rw [rgt_eq, Bool.and_eq_true] at h
 exact List.isEmpty_iff.1 h.1
theorem rgt_list {t : ByteArray} {sub : List S62} (h : rgt ⟨t, true, sub⟩ = true) : t = ⟨#[]⟩ ∧ rgts sub = true := by
 rw [rgt_eq, Bool.and_eq_true] at h
 exact ⟨toList_inj ((List.isEmpty_iff.1 h.1 : t.toList = []).trans (by rw [ByteArray.toList_eq])), h.2⟩
theorem rgts_mem : ∀ (ys : List S62) (y : S62), y ∈ ys → rgts ys = true → rgt y = true
 | z :: zs, y, h, hr => by
  rw [rgts_cons, Bool.and_eq_true] at hr
  rcases List.mem_cons.1 h with rfl | h
  ·exact hr.1
  ·exact rgts_mem zs y h hr.2
def Reads (s : ByteArray) (d : Int) (x : S62) : Prop := ∀ (a : Nat) (t : Int) (st : List S151) (k : Nat) (r : List Int), (bytesOf s).drop a = putL x ++ r → ((a + (putL x).length : Nat) : Int) ≤ endD s st → (st.length : Int) + dep x ≤ d → (cnt x : Int) ≤ t → cnt x ≤ k →
 nextL s d k a t st = shutThen s d (k - cnt x) ((a + (putL x).length : Nat) : Int) (t - cnt x) st x
theorem run_items {d : Int} : ∀ (ys : List S62), (∀ y ∈ ys, Reads s d y) → ys ≠ [] → ∀ (a : Nat) (t : Int) (st : List S151) (l : List S62) (k : Nat) (r : List Int), (bytesOf s).drop a = putsL ys ++ r → (st.length : Int) + 1 + deps ys ≤ d → (cnts ys : Int) ≤ t → cnts ys ≤ k →
  nextL s d k a t (st ++ [⟨l, ((a + (putsL ys).length : Nat) : Int)⟩]) = shutThen s d (k - cnts ys) ((a + (putsL ys).length : Nat) : Int) (t - cnts ys) st ⟨⟨#[]⟩, true, l ++ ys⟩ := by
 intro ys
 induction ys with
 | nil => intro _ h; exact absurd rfl h
 | cons y ys ih =>
  intro hy _ a t st l k r h hd ht hk
  rw [deps_cons] at hd
  rw [cnts_cons] at ht hk ⊢
  rw [putsL_cons, List.append_assoc] at h
  rw [putsL_cons, List.length_append]
  have h1 := hy y (by simp) a t (st ++ [⟨l, ((a + ((putL y).length + (putsL ys).length) : Nat) : Int)⟩]) k _ h (by rw [endD_top]; show _ ≤ ((a + ((putL y).length + (putsL ys).length) : Nat) : Int); omega) (by rw [List.length_append, List.length_singleton]; omega) (by omega) (by omega)
  rw [h1]
  cases hys : ys with
  | nil =>
   subst hys
   simp only [putsL, cnts, List.length_nil, Nat.add_zero]
   rw [shutThen_end (by omega)]
  | cons z zs =>
   rw [← hys]
   have hp : 1 ≤ (putsL ys).length := by rw [hys, putsL_cons, List.length_append]; have := putL_pos z; omega
   rw [shutThen_in (by omega)]
   have h2 := ih (fun q hq => hy q (List.mem_cons_of_mem _ hq)) (by rw [hys]; simp) (a + (putL y).length) (t - cnt y) st (l ++ [y]) (k - cnt y) r (drop_more h) (by omega) (by omega) (by omega)
   rw [show a + (putL y).length + (putsL ys).length = a + ((putL y).length + (putsL ys).length) by omega] at h2
   rw [h2, List.append_assoc, show k - cnt y - cnts ys = k - (cnt y + cnts ys) by omega, show t - (cnt y : Int) - (cnts ys : Int) = t - ((cnt y + cnts ys : Nat) : Int) by omega]
   rfl
theorem run_item (hs : s.size ≤ 1099511627776) {d : Int} : ∀ x : S62, rgt x = true → Reads s d x
 | ⟨t, false, sub⟩, hr => by
  obtain rfl := rgt_text hr
  intro a tt st k r h he hd ht hk
  rw [dep_eq] at hd
  have hc : cnt ⟨t, false, []⟩ = 1 := by rw [cnt_eq, cnts]
  rw [hc] at ht hk ⊢
  have hsz : t.size ≤ 1099511627776 := by
   have h1 := congrArg List.length h
   rw [List.length_drop, bytesOf_length, List.length_append, putL_eq, if_neg (by simp)] at h1
   split at h1
   ·rename_i q; omega
   ·rw [List.length_append, bytesOf_length] at h1; omega
  obtain ⟨k, rfl⟩ : ∃ q, k = q + 1 := ⟨k - 1, by omega⟩
  rw [next_text (one_text hsz h he (by omega) (by omega))]
  rfl
 | ⟨t, true, sub⟩, hr => by
  obtain ⟨rfl, hrs⟩ := rgt_list hr
  intro a tt st k r h he hd ht hk
  rw [dep_eq] at hd
  rw [cnt_eq] at ht hk ⊢
  rw [putL_eq, if_pos rfl, List.append_assoc] at h
  rw [putL_eq, if_pos rfl, List.length_append] at he ⊢
  have hsz : (putsL sub).length ≤ 1099511627776 := by
   have h1 := congrArg List.length h
   rw [List.length_drop, bytesOf_length, List.length_append, List.length_append] at h1
   omega
  obtain ⟨k, rfl⟩ : ∃ q, k = q + 1 := ⟨k - 1, by omega⟩
  rw [next_list (one_list hsz h (by omega) (by omega) (by omega))]
  cases hsub : sub with
  | nil =>
   subst hsub
   have hz : (putsL ([] : List S62)).length = 0 := by simp [putsL]
   rw [if_neg (by omega)]
   simp only [putsL, cnts, List.length_nil, Nat.add_zero]
   rfl
  | cons z zs =>
   rw [← hsub]
   have hp : 1 ≤ (putsL sub).length := by rw [hsub, putsL_cons, List.length_append]; have := putL_pos z; omega
   rw [if_pos (by omega)]
   have h2 := run_items (d := d) sub (fun y hy => run_item hs y (rgts_mem sub y hy hrs)) (by rw [hsub]; simp) (a + (headL 192 (putsL sub).length).length) (tt - 1) st [] k r (drop_more h) (by omega) (by omega) (by omega)
   rw [h2, List.nil_append, show k + 1 - (1 + cnts sub) = k - cnts sub by omega, show tt - ((1 + cnts sub : Nat) : Int) = tt - 1 - (cnts sub : Int) by omega, Nat.add_assoc]
 termination_by x => SizeOf.sizeOf x
 decreasing_by
 have := List.sizeOf_lt_of_mem hy
 simp
 omega
end
end Go.Proofs.Yteoibgpkimlahaa.P
end
section
namespace Go.Proofs.Yteoibgpkimlahaa.P
open Go.RowKit Go.Proofs.YteoibgpkimlahaaW.PrintWords Go.Proofs.YteoibgpkimlahaaW.PrintLast Go.Proofs.YteoibgpkimlahaaW.PrintMore
section
variable {s : ByteArray}
def Deepens (s : ByteArray) (d : Int) (x : S62) : Prop := ∀ (a : Nat) (t : Int) (st : List S151) (k : Nat) (r : List Int), (bytesOf s).drop a = putL x ++ r → ((a + (putL x).length : Nat) : Int) ≤ endD s st → d < (st.length : Int) + dep x → (cnt x : Int) ≤ t → cnt x ≤ k → nextL s d k a t st = (z62, 0, 6)
theorem deep_items {d : Int} : ∀ (ys : List S62), (∀ y ∈ ys, Reads s d y ∧ Deepens s d y) → ∀ (a : Nat) (t : Int) (st : List S151) (l : List S62) (k : Nat) (r : List Int), (bytesOf s).drop a = putsL ys ++ r → (st.length : Int) < d → d < (st.length : Int) + 1 + deps ys → (cnts ys : Int) ≤ t → cnts ys ≤ k →
  nextL s d k a t (st ++ [⟨l, ((a + (putsL ys).length : Nat) : Int)⟩]) = (z62, 0, 6) := by
 intro ys
 induction ys with
 | nil => intro _ a t st l k r _ hd1 hd2; rw [deps] at hd2; omega
 | cons y ys ih =>
  intro hy a t st l k r h hd1 hd ht hk
  rw [deps_cons] at hd
  rw [cnts_cons] at ht hk
  rw [putsL_cons, List.append_assoc] at h
  rw [putsL_cons, List.length_append]
  have he : ((a + (putL y).length : Nat) : Int) ≤ endD s (st ++ [⟨l, ((a + ((putL y).length + (putsL ys).length) : Nat) : Int)⟩]) := by rw [endD_top]; show _ ≤ ((a + ((putL y).length + (putsL ys).length) : Nat) : Int); omega
  by_cases c : (st.length : Int) + 1 + dep y ≤ d
  ·have h1 := (hy y (by simp)).1 a t (st ++ [⟨l, ((a + ((putL y).length + (putsL ys).length) : Nat) : Int)⟩]) k _ h he (by rw [List.length_append, List.length_singleton]; omega) (by omega) (by omega)
   rw [h1]
   cases hys : ys with
   | nil => rw [hys, deps] at hd; omega
   | cons z zs =>
    rw [← hys]
    have hp : 1 ≤ (putsL ys).length := by rw [hys, putsL_cons, List.length_append]; have := putL_pos z; omega
    rw [shutThen_in (by omega)]
    have h2 := ih (fun q hq => hy q (List.mem_cons_of_mem _ hq)) (a + (putL y).length) (t - cnt y) st (l ++ [y]) (k - cnt y) r (drop_more h) hd1 (by omega) (by omega) (by omega)
    rw [show a + (putL y).length + (putsL ys).length = a + ((putL y).length + (putsL ys).length) by omega] at h2
    exact h2
  ·exact (hy y (by simp)).2 a t _ k _ h he (by rw [List.length_append, List.length_singleton]; omega) (by omega) (by omega)
theorem deep_item (hs : s.size ≤ 1099511627776) {d : Int} : ∀ x : S62, rgt x = true → Deepens s d x
 | ⟨t, l, sub⟩, hr => by
  intro a tt st k r h he hd ht hk
  have hp := putL_pos ⟨t, l, sub⟩
  rw [dep_eq] at hd
  rw [cnt_eq] at ht hk
  obtain ⟨k, rfl⟩ : ∃ q, k = q + 1 := ⟨k - 1, by omega⟩
  by_cases c : d ≤ (st.length : Int)
  ·exact next_fault (start_deep (by omega) c) (by decide)
  ·cases l with
   | false =>
    obtain rfl := rgt_text hr
    rw [deps] at hd
    omega
   | true =>
    obtain ⟨rfl, hrs⟩ := rgt_list hr
    rw [putL_eq, if_pos rfl, List.append_assoc] at h
    rw [putL_eq, if_pos rfl, List.length_append] at he
    have hsz : (putsL sub).length ≤ 1099511627776 := by
     have h1 := congrArg List.length h
     rw [List.length_drop, bytesOf_length, List.length_append, List.length_append] at h1
     omega
    rw [next_list (one_list hsz h (by omega) (by omega) (by omega))]
    cases hsub : sub with
    | nil => rw [hsub, deps] at hd; omega
    | cons z zs =>
     rw [← hsub]
     have hp : 1 ≤ (putsL sub).length := by rw [hsub, putsL_cons, List.length_append]; have := putL_pos z; omega
     rw [if_pos (by omega)]
     exact deep_items (d := d) sub (fun y hy => ⟨run_item hs y (rgts_mem sub y hy hrs), deep_item hs y (rgts_mem sub y hy hrs)⟩) (a + (headL 192 (putsL sub).length).length) (tt - 1) st [] k r (drop_more h) (by omega) (by omega) (by omega) (by omega)
 termination_by x => SizeOf.sizeOf x
 decreasing_by
 have := List.sizeOf_lt_of_mem hy
 simp
 omega
def Many (s : ByteArray) (d : Int) (x : S62) : Prop := ∀ (a : Nat) (t : Int) (st : List S151) (k : Nat) (r : List Int), (bytesOf s).drop a = putL x ++ r → ((a + (putL x).length : Nat) : Int) ≤ endD s st → (st.length : Int) + dep x ≤ d → 0 ≤ t → t < cnt x → t < k → nextL s d k a t st = (z62, 0, 4)
theorem many_items {d : Int} : ∀ (ys : List S62), (∀ y ∈ ys, Reads s d y ∧ Many s d y) → ∀ (a : Nat) (t : Int) (st : List S151) (l : List S62) (k : Nat) (r : List Int), (bytesOf s).drop a = putsL ys ++ r → (st.length : Int) + 1 + deps ys ≤ d → 0 ≤ t → t < cnts ys → t < k →
  nextL s d k a t (st ++ [⟨l, ((a + (putsL ys).length : Nat) : Int)⟩]) = (z62, 0, 4) := by
 intro ys
 induction ys with
 | nil => intro _ a t st l k r _ _ h0 h1; rw [cnts] at h1; omega
 | cons y ys ih =>
  intro hy a t st l k r h hd h0 ht hk
  rw [deps_cons] at hd
  rw [cnts_cons] at ht
  rw [putsL_cons, List.append_assoc] at h
  rw [putsL_cons, List.length_append]
  have he : ((a + (putL y).length : Nat) : Int) ≤ endD s (st ++ [⟨l, ((a + ((putL y).length + (putsL ys).length) : Nat) : Int)⟩]) := by rw [endD_top]; show _ ≤ ((a + ((putL y).length + (putsL ys).length) : Nat) : Int); omega
  by_cases c : (cnt y : Int) ≤ t
  ·have h1 := (hy y (by simp)).1 a t (st ++ [⟨l, ((a + ((putL y).length + (putsL ys).length) : Nat) : Int)⟩]) k _ h he (by rw [List.length_append, List.length_singleton]; omega) c (by omega)
   rw [h1]
   cases hys : ys with
   | nil => rw [hys, cnts] at ht; omega
   | cons z zs =>
    rw [← hys]
    have hp : 1 ≤ (putsL ys).length := by rw [hys, putsL_cons, List.length_append]; have := putL_pos z; omega
    rw [shutThen_in (by omega)]
    have h2 := ih (fun q hq => hy q (List.mem_cons_of_mem _ hq)) (a + (putL y).length) (t - cnt y) st (l ++ [y]) (k - cnt y) r (drop_more h) (by omega) (by omega) (by omega) (by omega)
    rw [show a + (putL y).length + (putsL ys).length = a + ((putL y).length + (putsL ys).length) by omega] at h2
    exact h2
  ·exact (hy y (by simp)).2 a t _ k _ h he (by rw [List.length_append, List.length_singleton]; omega) h0 (by omega) hk
theorem many_item (hs : s.size ≤ 1099511627776) {d : Int} : ∀ x : S62, rgt x = true → Many s d x
 | ⟨t, l, sub⟩, hr => by
  intro a tt st k r h he hd h0 ht hk
  have hp := putL_pos ⟨t, l, sub⟩
  rw [dep_eq] at hd
  rw [cnt_eq] at ht
  obtain ⟨k, rfl⟩ : ∃ q, k = q + 1 := ⟨k - 1, by omega⟩
  by_cases c : tt < 1
  ·exact next_fault (start_many (by omega) (by omega) c) (by decide)
  ·cases l with
   | false =>
    obtain rfl := rgt_text hr
    rw [cnts] at ht
    omega
   | true =>
    obtain ⟨rfl, hrs⟩ := rgt_list hr
    rw [putL_eq, if_pos rfl, List.append_assoc] at h
    rw [putL_eq, if_pos rfl, List.length_append] at he
    have hsz : (putsL sub).length ≤ 1099511627776 := by
     have h1 := congrArg List.length h
     rw [List.length_drop, bytesOf_length, List.length_append, List.length_append] at h1
     omega
    rw [next_list (one_list hsz h (by omega) (by omega) (by omega))]
    cases hsub : sub with
    | nil => rw [hsub, cnts] at ht; omega
    | cons z zs =>
     rw [← hsub]
     have hp : 1 ≤ (putsL sub).length := by rw [hsub, putsL_cons, List.length_append]; have := putL_pos z; omega
     rw [if_pos (by omega)]
     exact many_items (d := d) sub (fun y hy => ⟨run_item hs y (rgts_mem sub y hy hrs), many_item hs y (rgts_mem sub y hy hrs)⟩) (a + (headL 192 (putsL sub).length).length) (tt - 1) st [] k r (drop_more h) (by omega) (by omega) (by omega) (by omega)
 termination_by x => SizeOf.sizeOf x
 decreasing_by
 have := List.sizeOf_lt_of_mem hy
 simp
 omega
theorem endD_nil : endD s [] = (s.size : Int) := rfl
theorem next_whole {x : S62} {r : List Int} {depth items : Int} (hr : rgt x = true) (h : bytesOf s = putL x ++ r) (hs : s.size ≤ 1099511627776) (hd : (dep x : Int) ≤ depth) (hd2 : dep x ≤ 16) (hc : (cnt x : Int) ≤ items) (hc2 : cnt x ≤ 1024) :
  nextF s depth items = (x, ((putL x).length : Int), 0) := by
 have hlen : (putL x).length ≤ s.size := by
  have := congrArg List.length h
  rw [bytesOf_length, List.length_append] at this
  omega
 have hI : (cnt x : Int) ≤ capI items := by unfold capI; split <;> split <;> omega
 have hD : (dep x : Int) ≤ capD depth := by unfold capD; split <;> omega
 have h1 := run_item hs (d := capD depth) x hr 0 (capI items) [] ((capI items).toNat + 1) r (by rw [List.drop_zero]; exact h) (by rw [endD_nil]; omega) (by rw [List.length_nil]; omega) hI (by omega)
 unfold nextF
 rw [shutThen_nil, Nat.zero_add] at h1
 exact h1
theorem next_deep {x : S62} {depth items : Int} (hr : rgt x = true) (h : bytesOf s = putL x) (hs : s.size ≤ 1099511627776) (hd : depth < dep x) (hd2 : dep x ≤ 16) (hc : (cnt x : Int) ≤ items) (hc2 : cnt x ≤ 1024) : nextF s depth items = (z62, 0, 6) := by
 have hlen : (putL x).length = s.size := by rw [← h, bytesOf_length]
 have hI : (cnt x : Int) ≤ capI items := by unfold capI; split <;> split <;> omega
 have hD : capD depth < dep x := by unfold capD; split <;> omega
 exact deep_item hs (d := capD depth) x hr 0 (capI items) [] ((capI items).toNat + 1) [] (by rw [List.drop_zero, List.append_nil]; exact h) (by rw [endD_nil]; omega) (by rw [List.length_nil]; omega) hI (by omega)
theorem next_many {x : S62} {depth items : Int} (hr : rgt x = true) (h : bytesOf s = putL x) (hs : s.size ≤ 1099511627776) (hd : (dep x : Int) ≤ depth) (hd2 : dep x ≤ 16) (h0 : 0 ≤ items) (hc : items < cnt x) (hc2 : cnt x ≤ 1024) : nextF s depth items = (z62, 0, 4) := by
 have hlen : (putL x).length = s.size := by rw [← h, bytesOf_length]
 have hI : capI items < cnt x ∧ 0 ≤ capI items := by unfold capI; split <;> split <;> omega
 have hD : (dep x : Int) ≤ capD depth := by unfold capD; split <;> omega
 exact many_item hs (d := capD depth) x hr 0 (capI items) [] ((capI items).toNat + 1) [] (by rw [List.drop_zero, List.append_nil]; exact h) (by rw [endD_nil]; omega) (by rw [List.length_nil]; omega) hI.2 hI.1 (by omega)
end
end Go.Proofs.Yteoibgpkimlahaa.P
end
section
namespace Go.Proofs.Yteoibgpkimlahaa.P
open Go.RowKit Go.Proofs.YteoibgpkimlahaaW.PrintWords Go.Proofs.YteoibgpkimlahaaW.PrintLast Go.Proofs.YteoibgpkimlahaaW.PrintMore
theorem next_is {s : ByteArray} {depth items : Int} {x : S62} {n e : Int} (hs : s.size ≤ 1099511627776) (h : nextF s depth items = (x, n, e)) : rlp_Next.f s depth items = some (x.f0, x.f1, x.f2, n, e) := by
 unfold rlp_Next.f
 rw [if_pos hs, h]
theorem get_is {s : ByteArray} {depth items : Int} {x : S62} {n e : Int} (hs : s.size ≤ 1099511627776) (h : nextF s depth items = (x, n, e)) :
  rlp_Get.f s depth items = some (if e = 0 then if n < (s.size : Int) then (⟨#[]⟩, false, [], 3) else (x.f0, x.f1, x.f2, 0) else (⟨#[]⟩, false, [], e)) := by
 unfold rlp_Get.f
 rw [next_is hs h, Option.bind_some]
 simp only
 split <;> (try split) <;> rfl
theorem mayI_of {x : S62} (h : mayI x = true) : rgt x = true ∧ dep x ≤ 16 ∧ cnt x ≤ 1024 := by
 unfold mayI at h
 rw [Bool.and_eq_true, Bool.and_eq_true] at h
 exact ⟨h.1.1, of_decide_eq_true h.1.2, of_decide_eq_true h.2⟩
theorem isByte_headL (by_ n : Int) (hb : by_ = 128 ∨ by_ = 192) (h0 : 0 ≤ n) (h1 : n ≤ 1099511627776) : IsByte (headL by_ n) := by
 unfold headL
 have hs := sz_u64 h0 (show n < 18446744073709551616 by omega)
 split
 ·intro b hb2
  rw [List.mem_singleton] at hb2
  omega
 ·intro b hb2
  rcases List.mem_cons.1 hb2 with rfl | hb2
  ·omega
  ·exact digs_byte n b hb2
theorem isByte_puts : ∀ (ys : List S62), (∀ y ∈ ys, IsByte (putL y)) → IsByte (putsL ys)
 | [], _ => by rw [putsL]; intro b hb; cases hb
 | y :: ys, h => by
  rw [putsL_cons]
  intro b hb
  rcases List.mem_append.1 hb with hb | hb
  ·exact h y (by simp) b hb
  ·exact isByte_puts ys (fun z hz => h z (List.mem_cons_of_mem _ hz)) b hb
theorem isByte_put : ∀ (x : S62), cnt x ≤ 1200 → tot x ≤ 6000 → IsByte (putL x)
 | ⟨t, l, sub⟩, hc, ht => by
  rw [cnt_eq] at hc
  rw [tot_eq] at ht
  have hr := putsL_room sub (fun y hy => putL_room y (by have := cnts_mem sub y hy; omega) (by have := tots_mem sub y hy; omega))
  have h := isByte_puts sub (fun y hy => isByte_put y (by have := cnts_mem sub y hy; omega) (by have := tots_mem sub y hy; omega))
  rw [putL_eq]
  split
  ·intro b hb
   rcases List.mem_append.1 hb with hb | hb
   ·exact isByte_headL 192 _ (.inr rfl) (by omega) (by omega) b hb
   ·exact h b hb
  ·split
   ·exact bytesOf_byte t
   ·intro b hb
    rcases List.mem_append.1 hb with hb | hb
    ·exact isByte_headL 128 _ (.inl rfl) (by omega) (by omega) b hb
    ·exact bytesOf_byte t b hb
theorem bytesOf_put (x : S62) (h1 : cnt x ≤ 1200) (h2 : tot x ≤ 6000) : bytesOf (strOfNums (putL x)) = putL x := bytesOf_str _ (isByte_put x h1 h2)
end Go.Proofs.Yteoibgpkimlahaa.P
end
section
namespace Go.Proofs.Yteoibgpkimlahaa.P
open Go.RowKit Go.Proofs.YteoibgpkimlahaaW.PrintWords Go.Proofs.YteoibgpkimlahaaW.PrintLast Go.Proofs.YteoibgpkimlahaaW.PrintMore
theorem wf_u8 {a : Int} (h : (Lit.int .u8 a).wf = true) : 0 ≤ a ∧ a < 256 := by
 have hmin : IntKind.u8.min = 0 := rfl
 have hmax : IntKind.u8.max = 255 := rfl
 simp only [Lit.wf, Bool.and_eq_true, decide_eq_true_eq] at h
 omega
set_option maxRecDepth 100000 in
theorem alive09 : hatchwaylaw09_alive.f = some true := by decide +kernel
theorem less_is (a : Int) (n : Nat) (h0 : 0 ≤ a) (h1 : a < 256) (hn : 1 ≤ n) (hn2 : n ≤ 1024) : ∃ m : Nat, wrap64 (wrap64 ((n : Int) - 1) - Int.tmod (wrap64 a) n) = m ∧ m < n := by
 have e1 : wrap64 a = a := by unfold wrap64; omega
 have e2 : wrap64 ((n : Int) - 1) = (n : Int) - 1 := by unfold wrap64; omega
 have e3 : Int.tmod a n = a % n := Int.tmod_eq_emod_of_nonneg h0
 have e4 := Int.emod_nonneg a (show (n : Int) ≠ 0 by omega)
 have e5 := Int.emod_lt_of_pos a (show (0 : Int) < n by omega)
 rw [e1, e2, e3]
 refine ⟨(((n : Int) - 1) - a % n).toNat, ?_, by omega⟩
 unfold wrap64
 omega
theorem rlpCaps (a0_0 : ByteArray) (a0_1 : Bool) (l0 : List S62) (a1 : Int) (w1 : (Lit.int .u8 a1).wf = true) : Ev (fun k => hatchwaylaw09_RlpCaps.f k a0_0 a0_1 l0 a1) true := by
 obtain ⟨w0, w2⟩ := wf_u8 w1
 obtain ⟨x, hx⟩ : ∃ x : S62, x = ⟨a0_0, a0_1, l0⟩ := ⟨_, rfl⟩
 obtain ⟨b, hb, hsm⟩ := great_ev x
 have hT : Ev (fun k => hatchwaylaw09_RlpCaps.j0 k a1 true a0_0 a0_1 l0) true := Ev.step (f := fun _ => some true) (fun k => by rw [hatchwaylaw09_RlpCaps.j0, if_pos rfl]) (Ev.now _)
 refine Ev.congr (f := fun k => (hatchwaylaw08_Great.f k a0_0 a0_1 l0).bind fun t103 => if t103 = true then hatchwaylaw09_RlpCaps.j0 k a1 true a0_0 a0_1 l0 else (hatchwayref08_May.f k a0_0 a0_1 l0).bind fun t104 => hatchwaylaw09_RlpCaps.j0 k a1 (!t104) a0_0 a0_1 l0) (fun k => by rw [hatchwaylaw09_RlpCaps.f, alive09, Option.bind_some, if_pos rfl]) ?_
 have hb2 : Ev (fun k => hatchwaylaw08_Great.f k a0_0 a0_1 l0) b := by subst hx; exact hb
 refine Ev.bind hb2 ?_
 cases b with
 | true => exact Ev.congr (fun k => if_pos rfl) hT
 | false =>
  obtain ⟨hc, ht⟩ := hsm rfl
  have hmay : Ev (fun k => hatchwayref08_May.f k a0_0 a0_1 l0) (mayI x) := by subst hx; exact may_ev _ hc
  have hput : Ev (fun k => hatchwayref09_Put.f k a0_0 a0_1 l0) (strOfNums (putL x)) := by subst hx; exact put_ev _ hc ht
  have hdeep : Ev (fun k => hatchwayref08_Deep.f k a0_0 a0_1 l0) (dep x : Int) := by subst hx; exact deep_ev _ hc
  have hcount : Ev (fun k => hatchwayref08_Count.f k a0_0 a0_1 l0) (cnt x : Int) := by subst hx; exact count_ev _ hc
  have hbs := bytesOf_put x hc ht
  have hroom := putL_room x hc ht
  have hsz : (strOfNums (putL x)).size ≤ 1099511627776 := by rw [strOfNums_size]; omega
  have hd1 := dep_pos x
  have hc1 := cnt_pos x
  refine Ev.congr (fun k => if_neg (by simp)) (Ev.bind hmay ?_)
  cases hm : mayI x with
  | false => exact hT
  | true =>
   obtain ⟨hr, hd, hn⟩ := mayI_of hm
   obtain ⟨d', hd', hd2⟩ := less_is a1 (dep x) w0 w2 hd1 (by omega)
   obtain ⟨n', hn', hn2⟩ := less_is a1 (cnt x) w0 w2 hc1 (by omega)
   have g1 := get_is hsz (next_deep (depth := (d' : Int)) (items := 1024) hr hbs hsz (by omega) hd (by omega) hn)
   have g2 := get_is hsz (next_many (depth := 16) (items := (n' : Int)) hr hbs hsz (by omega) hd (by omega) (by omega) hn)
   have g3 := get_is hsz (next_whole (r := []) (depth := (dep x : Int)) (items := (cnt x : Int)) hr (by rw [List.append_nil]; exact hbs) hsz (by omega) hd (by omega) hn)
   rw [if_neg (by decide)] at g1 g2
   rw [if_pos rfl, if_neg (by rw [strOfNums_size]; omega)] at g3
   refine Ev.step (f := fun k => (hatchwayref09_Put.f k a0_0 a0_1 l0).bind fun t105 => ((hatchwayref08_Deep.f k a0_0 a0_1 l0).bind fun t106 => ((hatchwayref08_Count.f k a0_0 a0_1 l0).bind fun t107 => (if t106 = 0 then (none) else ((rlp_Get.f t105 (wrap64 ((wrap64 (t106 - 1)) - (Int.tmod (wrap64 (a1)) t106))) 1024).bind fun bt108 => (if t107 = 0 then (none) else ((rlp_Get.f t105 16 (wrap64 ((wrap64 (t107 - 1)) - (Int.tmod (wrap64 (a1)) t107)))).bind fun bt115 => ((rlp_Get.f t105 t106 t107).bind fun bt122 => (if bt108.2.2.2 = 6 then (if bt115.2.2.2 = 4 then (some (bt122.2.2.2 == 0)) else (some false)) else (some false))))))))))
    (fun k => by rw [hatchwaylaw09_RlpCaps.j0, if_neg (by simp)]) ?_
   refine Ev.bind hput (Ev.bind hdeep (Ev.bind hcount ?_))
   refine Ev.congr (fun k => if_neg (by omega)) ?_
   rw [hd', g1, hn', g2, g3]
   refine Ev.congr (f := fun _ => some true) (fun k => ?_) (Ev.now _)
   rw [Option.bind_some, if_neg (by omega)]
   rfl
end Go.Proofs.Yteoibgpkimlahaa.P
end
