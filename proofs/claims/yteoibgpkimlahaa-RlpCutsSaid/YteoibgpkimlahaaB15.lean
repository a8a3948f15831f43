/- An item's bytes cut are short; with others behind them Next tells the same, and Get that they aren't of the form. (part 15 of 16) -/
import Derived.Test.YteoibgpkimlahaaB5
import Derived.Test.YteoibgpkimlahaaB10
import Derived.Test.YteoibgpkimlahaaB13
import Derived.Test.YteoibgpkimlahaaB6
section
namespace Go.Proofs.Yteoibgpkimlahaa.P
open Go.RowKit Go.Proofs.YteoibgpkimlahaaW.PrintWords Go.Proofs.YteoibgpkimlahaaW.PrintLast Go.Proofs.YteoibgpkimlahaaW.PrintMore
attribute [local go_sem] max2_int min2_int max_two min_two max_three min_three max_four min_four   
set_option linter.unusedVariables false
set_option linter.unusedSimpArgs false
def hatchwaylaw09_alive.f  : Option (Bool) := (rlp_Put.f (⟨#[100, 111, 103]⟩ : ByteArray) false ([] : List (S62))).bind fun bt101 => ((rlp_Put.f (⟨#[]⟩ : ByteArray) true ([] : List (S62))).bind fun bt103 => ((rlp_Get.f (⟨#[129, 5]⟩ : ByteArray) 9 9).bind fun bt105 => (if bt101.2 = 0 then (if bt101.1.toList = ([131, 100, 111, 103] : List UInt8) then (if bt103.2 = 0 then (if bt103.1.toList = ([192] : List UInt8) then (some (bt105.2.2.2 == 3)) else (some false)) else (some false)) else (some false)) else (some false))))
set_option maxHeartbeats 8000000 in
set_option maxRecDepth 100000 in
theorem hatchwaylaw09_alive.calls  (r : Bool) (w : World) (h : hatchwaylaw09_alive.f  = some r) :
  Calls Try.prog 49 #[] w fun e w' => e = .returned (.bool r) ∧ Below w.heap.size w w' := by
 have hu62 := Try.underlying62
 have HB := Aside0.mk (Below.refl w.heap.size w)
 have H : ((rlp_Put.f (⟨#[100, 111, 103]⟩ : ByteArray) false ([] : List (S62))).bind fun bt101 => ((rlp_Put.f (⟨#[]⟩ : ByteArray) true ([] : List (S62))).bind fun bt103 => ((rlp_Get.f (⟨#[129, 5]⟩ : ByteArray) 9 9).bind fun bt105 => (if bt101.2 = 0 then (if bt101.1.toList = ([131, 100, 111, 103] : List UInt8) then (if bt103.2 = 0 then (if bt103.1.toList = ([192] : List UInt8) then (some (bt105.2.2.2 == 3)) else (some false)) else (some false)) else (some false)) else (some false))))) = some r := h
 clear h
 replace H := Option.bind_eq_some_iff.mp H
 obtain ⟨⟨t101, t102⟩, A10, H⟩ := H
 replace H : ((rlp_Put.f (⟨#[]⟩ : ByteArray) true ([] : List (S62))).bind fun bt103 => ((rlp_Get.f (⟨#[129, 5]⟩ : ByteArray) 9 9).bind fun bt105 => (if t102 = 0 then (if t101.toList = ([131, 100, 111, 103] : List UInt8) then (if bt103.2 = 0 then (if bt103.1.toList = ([192] : List UInt8) then (some (bt105.2.2.2 == 3)) else (some false)) else (some false)) else (some false)) else (some false)))) = some r := H
 have A1 := Aside0.mk A10
 clear A10
 replace H := Option.bind_eq_some_iff.mp H
 obtain ⟨⟨t103, t104⟩, A20, H⟩ := H
 replace H : ((rlp_Get.f (⟨#[129, 5]⟩ : ByteArray) 9 9).bind fun bt105 => (if t102 = 0 then (if t101.toList = ([131, 100, 111, 103] : List UInt8) then (if t104 = 0 then (if t103.toList = ([192] : List UInt8) then (some (bt105.2.2.2 == 3)) else (some false)) else (some false)) else (some false)) else (some false))) = some r := H
 have A2 := Aside0.mk A20
 clear A20
 replace H := Option.bind_eq_some_iff.mp H
 obtain ⟨⟨t105, t106, t107, t110⟩, A30, H⟩ := H
 replace H : (if t102 = 0 then (if t101.toList = ([131, 100, 111, 103] : List UInt8) then (if t104 = 0 then (if t103.toList = ([192] : List UInt8) then (some (t110 == 3)) else (some false)) else (some false)) else (some false)) else (some false)) = some r := H
 have A3 := Aside0.mk A30
 clear A30
 by_cases c4 : t102 = 0
 ·rw [if_pos c4] at H
  have c4b0 : (t102 == 0) = true := beq_iff_eq.mpr c4
  have c4b1 : (t102 != 0) = false := bne_eq_false_iff_eq.mpr c4
  clear c4
  by_cases c5 : t101.toList = ([131, 100, 111, 103] : List UInt8)
  ·rw [if_pos c5] at H
   have c5b0 : (t101.toList == ([131, 100, 111, 103] : List UInt8)) = true := beq_iff_eq.mpr c5
   have c5b1 : (t101.toList != ([131, 100, 111, 103] : List UInt8)) = false := bne_eq_false_iff_eq.mpr c5
   clear c5
   by_cases c6 : t104 = 0
   ·rw [if_pos c6] at H
    have c6b0 : (t104 == 0) = true := beq_iff_eq.mpr c6
    have c6b1 : (t104 != 0) = false := bne_eq_false_iff_eq.mpr c6
    clear c6
    by_cases c7 : t103.toList = ([192] : List UInt8)
    ·rw [if_pos c7] at H
     have c7b0 : (t103.toList == ([192] : List UInt8)) = true := beq_iff_eq.mpr c7
     have c7b1 : (t103.toList != ([192] : List UInt8)) = false := bne_eq_false_iff_eq.mpr c7
     clear c7
     obtain rfl := Option.some.inj H
     go_enter Try.func49, Try.ntmps49
     go_wp2_with (first | ((with_reducible refine gate_callee (f := 54) rfl ?_); refine goesL_ (some 9) rfl rfl Try.func54 (by kernel_rfl) rfl #[.agg #[.string (⟨#[100, 111, 103]⟩ : ByteArray), .bool false, .slice none 0 0]] rfl (by (try simp only [List.map_toArray, List.map_cons, List.map_nil]); first | done | rfl | (simp only [List.length_drop, List.length_take]; rfl)) ?_; (refine (rlp_Put.calls (⟨#[100, 111, 103]⟩ : ByteArray) false _ _ ([] : List (S62)) t101 t102 _ ?side1 ?side2 A1.out).mono ?_); (case side1 => exact Kd.C_nil _ _); (case side2 => exact Nat.le_refl _); rintro e w8 ⟨rfl, hb⟩; refine ⟨_, rfl, ?_⟩; have n0_ := Aside0.mk (below_step (by repeat (first | (with_reducible first | exact HB.out | apply below_alloc | apply pw_below_drewN | apply below_drew1) | exact HB.out)) hb); clear HB; have HB := n0_; clear n0_; (try clear hb); (try clear hb2); (try clear hk); (try clear hi)) | ((with_reducible refine gate_callee (f := 54) rfl ?_); refine goesL_ (some 14) rfl rfl Try.func54 (by kernel_rfl) rfl #[.agg #[.string (⟨#[]⟩ : ByteArray), .bool true, .slice none 0 0]] rfl (by (try simp only [List.map_toArray, List.map_cons, List.map_nil]); first | done | rfl | (simp only [List.length_drop, List.length_take]; rfl)) ?_; (refine (rlp_Put.calls (⟨#[]⟩ : ByteArray) true _ _ ([] : List (S62)) t103 t104 _ ?side1 ?side2 A2.out).mono ?_); (case side1 => exact Kd.C_nil _ _); (case side2 => exact Nat.le_refl _); rintro e w9 ⟨rfl, hb⟩; refine ⟨_, rfl, ?_⟩; have n0_ := Aside0.mk (below_step (by repeat (first | (with_reducible first | exact HB.out | apply below_alloc | apply pw_below_drewN | apply below_drew1) | exact HB.out)) hb); clear HB; have HB := n0_; clear n0_; (try clear hb); (try clear hb2); (try clear hk); (try clear hi)) | ((with_reducible refine gate_callee (f := 52) rfl ?_); refine goesL_ (some 18) rfl rfl Try.func52 (by kernel_rfl) rfl #[.string (⟨#[129, 5]⟩ : ByteArray), .int .i64 9, .int .i64 9] rfl (by (try simp only [List.map_toArray, List.map_cons, List.map_nil]); first | done | rfl | (simp only [List.length_drop, List.length_take]; rfl)) ?_; (with_reducible refine (rlp_Get.calls (⟨#[129, 5]⟩ : ByteArray) 9 9 t105 t106 t107 t110 _ A3.out).mono ?_); rintro e w10 ⟨v108, rfl, ho0, hb⟩; refine ⟨_, rfl, ?_⟩; have n0_ := Aside0.mk (Kd.R_lower ho0 (below_size (by repeat (first | (with_reducible first | exact HB.out | apply below_alloc | apply pw_below_drewN | apply below_drew1) | exact HB.out)))); have n1_ := Aside0.mk (below_step (by repeat (first | (with_reducible first | exact HB.out | apply below_alloc | apply pw_below_drewN | apply below_drew1) | exact HB.out)) hb); clear HB; have HO109 := n0_; have HB := n1_; clear n0_ n1_; (try clear hb); (try clear hb2); (try clear hk); (try clear hi); (try clear ho0)) | ((with_reducible refine gate_dst (N := 5) rfl ?_); refine box_event ?hg (N := 5) ?hd (cs := #[.string (⟨#[]⟩ : ByteArray), .bool false, .slice none 0 0]) (t := 62) ?hr ?_; (case hd => rfl); (case hg => rfl); (case hr => first | (go_simp; done) | (go_simp; rfl)); intro gb111 hg w11 hbox hb; have n0_ := Aside0.mk (Kd.R_below (Kd.R_elderB (by (with_reducible repeat (first | apply Kd.R_alloc | apply Kd.R_drewN | apply Kd.R_drew)); exact HO109.out) gb111 (Nat.le_of_eq hg.symm)) hb); have n1_ := Aside0.mk (below_step (by repeat (first | (with_reducible first | exact HB.out | apply below_alloc | apply pw_below_drewN | apply below_drew1) | exact HB.out)) hb); have n2_ := Aside0.mk (hbox); have n3_ := Aside0.mk ((by rw [hg]; exact (below_size (by repeat (first | (with_reducible first | exact HB.out | apply below_alloc | apply pw_below_drewN | apply below_drew1) | exact HB.out))) : w.heap.size ≤ gb111)); have n4_ := Aside0.mk ((by rw [hg]; exact (below_size (by repeat (first | (with_reducible first | exact HB.out | apply below_alloc | apply pw_below_drewN | apply below_drew1) | exact HB.out))) : w.heap.size ≤ gb111)); clear HO109; clear HB; have HO109 := n0_; have HB := n1_; have BK111 := n2_; have GW111 := n3_; have GE111 := n4_; clear n0_ n1_ n2_ n3_ n4_; clear hb hbox hg; have hcz12_0 : w11.cell? ⟨gb111, 0, none⟩ = some (.string (⟨#[]⟩ : ByteArray)) := (blk_cell BK111.out 0).trans rfl; have hcz12_1 : w11.cell? ⟨gb111, 1, none⟩ = some (.bool false) := (blk_cell BK111.out 1).trans rfl; have hcz12_2 : w11.cell? ⟨gb111, 2, none⟩ = some (.slice none 0 0) := (blk_cell BK111.out 2).trans rfl; have hfz12_0 := blk_frozen BK111.out 0; have hfz12_1 := blk_frozen BK111.out 1; have hfz12_2 := blk_frozen BK111.out 2; obtain ⟨Ao13, co13, eo13⟩ := Kd.R_slice HO109.out; subst eo13))
     go_ret
     exact ⟨by first | rfl | (simp [errW_none, errW_some] <;> rfl) | (simp [*, errW_none, errW_some] <;> rfl), by repeat (first | (with_reducible first | exact HB.out | apply below_alloc | apply pw_below_drewN | apply below_drew1 | refine below_set ?_ GE111.out) | exact HB.out)⟩
    ·rw [if_neg c7] at H
     have c7b0 : (t103.toList == ([192] : List UInt8)) = false := beq_eq_false_iff_ne.mpr c7
     have c7b1 : (t103.toList != ([192] : List UInt8)) = true := bne_iff_ne.mpr c7
     obtain rfl := Option.some.inj H
     go_enter Try.func49, Try.ntmps49
     go_wp2_with (first | ((with_reducible refine gate_callee (f := 54) rfl ?_); refine goesL_ (some 9) rfl rfl Try.func54 (by kernel_rfl) rfl #[.agg #[.string (⟨#[100, 111, 103]⟩ : ByteArray), .bool false, .slice none 0 0]] rfl (by (try simp only [List.map_toArray, List.map_cons, List.map_nil]); first | done | rfl | (simp only [List.length_drop, List.length_take]; rfl)) ?_; (refine (rlp_Put.calls (⟨#[100, 111, 103]⟩ : ByteArray) false _ _ ([] : List (S62)) t101 t102 _ ?side1 ?side2 A1.out).mono ?_); (case side1 => exact Kd.C_nil _ _); (case side2 => exact Nat.le_refl _); rintro e w14 ⟨rfl, hb⟩; refine ⟨_, rfl, ?_⟩; have n0_ := Aside0.mk (below_step (by repeat (first | (with_reducible first | exact HB.out | apply below_alloc | apply pw_below_drewN | apply below_drew1) | exact HB.out)) hb); clear HB; have HB := n0_; clear n0_; (try clear hb); (try clear hb2); (try clear hk); (try clear hi)) | ((with_reducible refine gate_callee (f := 54) rfl ?_); refine goesL_ (some 14) rfl rfl Try.func54 (by kernel_rfl) rfl #[.agg #[.string (⟨#[]⟩ : ByteArray), .bool true, .slice none 0 0]] rfl (by (try simp only [List.map_toArray, List.map_cons, List.map_nil]); first | done | rfl | (simp only [List.length_drop, List.length_take]; rfl)) ?_; (refine (rlp_Put.calls (⟨#[]⟩ : ByteArray) true _ _ ([] : List (S62)) t103 t104 _ ?side1 ?side2 A2.out).mono ?_); (case side1 => exact Kd.C_nil _ _); (case side2 => exact Nat.le_refl _); rintro e w15 ⟨rfl, hb⟩; refine ⟨_, rfl, ?_⟩; have n0_ := Aside0.mk (below_step (by repeat (first | (with_reducible first | exact HB.out | apply below_alloc | apply pw_below_drewN | apply below_drew1) | exact HB.out)) hb); clear HB; have HB := n0_; clear n0_; (try clear hb); (try clear hb2); (try clear hk); (try clear hi)) | ((with_reducible refine gate_callee (f := 52) rfl ?_); refine goesL_ (some 18) rfl rfl Try.func52 (by kernel_rfl) rfl #[.string (⟨#[129, 5]⟩ : ByteArray), .int .i64 9, .int .i64 9] rfl (by (try simp only [List.map_toArray, List.map_cons, List.map_nil]); first | done | rfl | (simp only [List.length_drop, List.length_take]; rfl)) ?_; (with_reducible refine (rlp_Get.calls (⟨#[129, 5]⟩ : ByteArray) 9 9 t105 t106 t107 t110 _ A3.out).mono ?_); rintro e w16 ⟨v108, rfl, ho0, hb⟩; refine ⟨_, rfl, ?_⟩; have n0_ := Aside0.mk (Kd.R_lower ho0 (below_size (by repeat (first | (with_reducible first | exact HB.out | apply below_alloc | apply pw_below_drewN | apply below_drew1) | exact HB.out)))); have n1_ := Aside0.mk (below_step (by repeat (first | (with_reducible first | exact HB.out | apply below_alloc | apply pw_below_drewN | apply below_drew1) | exact HB.out)) hb); clear HB; have HO109 := n0_; have HB := n1_; clear n0_ n1_; (try clear hb); (try clear hb2); (try clear hk); (try clear hi); (try clear ho0)) | ((with_reducible refine gate_dst (N := 5) rfl ?_); refine box_event ?hg (N := 5) ?hd (cs := #[.string (⟨#[]⟩ : ByteArray), .bool false, .slice none 0 0]) (t := 62) ?hr ?_; (case hd => rfl); (case hg => rfl); (case hr => first | (go_simp; done) | (go_simp; rfl)); intro gb111 hg w17 hbox hb; have n0_ := Aside0.mk (Kd.R_below (Kd.R_elderB (by (with_reducible repeat (first | apply Kd.R_alloc | apply Kd.R_drewN | apply Kd.R_drew)); exact HO109.out) gb111 (Nat.le_of_eq hg.symm)) hb); have n1_ := Aside0.mk (below_step (by repeat (first | (with_reducible first | exact HB.out | apply below_alloc | apply pw_below_drewN | apply below_drew1) | exact HB.out)) hb); have n2_ := Aside0.mk (hbox); have n3_ := Aside0.mk ((by rw [hg]; exact (below_size (by repeat (first | (with_reducible first | exact HB.out | apply below_alloc | apply pw_below_drewN | apply below_drew1) | exact HB.out))) : w.heap.size ≤ gb111)); have n4_ := Aside0.mk ((by rw [hg]; exact (below_size (by repeat (first | (with_reducible first | exact HB.out | apply below_alloc | apply pw_below_drewN | apply below_drew1) | exact HB.out))) : w.heap.size ≤ gb111)); clear HO109; clear HB; have HO109 := n0_; have HB := n1_; have BK111 := n2_; have GW111 := n3_; have GE111 := n4_; clear n0_ n1_ n2_ n3_ n4_; clear hb hbox hg; have hcz18_0 : w17.cell? ⟨gb111, 0, none⟩ = some (.string (⟨#[]⟩ : ByteArray)) := (blk_cell BK111.out 0).trans rfl; have hcz18_1 : w17.cell? ⟨gb111, 1, none⟩ = some (.bool false) := (blk_cell BK111.out 1).trans rfl; have hcz18_2 : w17.cell? ⟨gb111, 2, none⟩ = some (.slice none 0 0) := (blk_cell BK111.out 2).trans rfl; have hfz18_0 := blk_frozen BK111.out 0; have hfz18_1 := blk_frozen BK111.out 1; have hfz18_2 := blk_frozen BK111.out 2; obtain ⟨Ao19, co19, eo19⟩ := Kd.R_slice HO109.out; subst eo19))
     go_ret
     exact ⟨by first | rfl | (simp [errW_none, errW_some] <;> rfl) | (simp [*, errW_none, errW_some] <;> rfl), by repeat (first | (with_reducible first | exact HB.out | apply below_alloc | apply pw_below_drewN | apply below_drew1 | refine below_set ?_ GE111.out) | exact HB.out)⟩
   ·rw [if_neg c6] at H
    have c6b0 : (t104 == 0) = false := beq_eq_false_iff_ne.mpr c6
    have c6b1 : (t104 != 0) = true := bne_iff_ne.mpr c6
    obtain rfl := Option.some.inj H
    go_enter Try.func49, Try.ntmps49
    go_wp2_with (first | ((with_reducible refine gate_callee (f := 54) rfl ?_); refine goesL_ (some 9) rfl rfl Try.func54 (by kernel_rfl) rfl #[.agg #[.string (⟨#[100, 111, 103]⟩ : ByteArray), .bool false, .slice none 0 0]] rfl (by (try simp only [List.map_toArray, List.map_cons, List.map_nil]); first | done | rfl | (simp only [List.length_drop, List.length_take]; rfl)) ?_; (refine (rlp_Put.calls (⟨#[100, 111, 103]⟩ : ByteArray) false _ _ ([] : List (S62)) t101 t102 _ ?side1 ?side2 A1.out).mono ?_); (case side1 => exact Kd.C_nil _ _); (case side2 => exact Nat.le_refl _); rintro e w20 ⟨rfl, hb⟩; refine ⟨_, rfl, ?_⟩; have n0_ := Aside0.mk (below_step (by repeat (first | (with_reducible first | exact HB.out | apply below_alloc | apply pw_below_drewN | apply below_drew1) | exact HB.out)) hb); clear HB; have HB := n0_; clear n0_; (try clear hb); (try clear hb2); (try clear hk); (try clear hi)) | ((with_reducible refine gate_callee (f := 54) rfl ?_); refine goesL_ (some 14) rfl rfl Try.func54 (by kernel_rfl) rfl #[.agg #[.string (⟨#[]⟩ : ByteArray), .bool true, .slice none 0 0]] rfl (by (try simp only [List.map_toArray, List.map_cons, List.map_nil]); first | done | rfl | (simp only [List.length_drop, List.length_take]; rfl)) ?_; (refine (rlp_Put.calls (⟨#[]⟩ : ByteArray) true _ _ ([] : List (S62)) t103 t104 _ ?side1 ?side2 A2.out).mono ?_); (case side1 => exact Kd.C_nil _ _); (case side2 => exact Nat.le_refl _); rintro e w21 ⟨rfl, hb⟩; refine ⟨_, rfl, ?_⟩; have n0_ := Aside0.mk (below_step (by repeat (first | (with_reducible first | exact HB.out | apply below_alloc | apply pw_below_drewN | apply below_drew1) | exact HB.out)) hb); clear HB; have HB := n0_; clear n0_; (try clear hb); (try clear hb2); (try clear hk); (try clear hi)) | ((with_reducible refine gate_callee (f := 52) rfl ?_); refine goesL_ (some 18) rfl rfl Try.func52 (by kernel_rfl) rfl #[.string (⟨#[129, 5]⟩ : ByteArray), .int .i64 9, .int .i64 9] rfl (by (try simp only [List.map_toArray, List.map_cons, List.map_nil]); first | done | rfl | (simp only [List.length_drop, List.length_take]; rfl)) ?_; (with_reducible refine (rlp_Get.calls (⟨#[129, 5]⟩ : ByteArray) 9 9 t105 t106 t107 t110 _ A3.out).mono ?_); rintro e w22 ⟨v108, rfl, ho0, hb⟩; refine ⟨_, rfl, ?_⟩; have n0_ := Aside0.mk (Kd.R_lower ho0 (below_size (by repeat (first | (with_reducible first | exact HB.out | apply below_alloc | apply pw_below_drewN | apply below_drew1) | exact HB.out)))); have n1_ := Aside0.mk (below_step (by repeat (first | (with_reducible first | exact HB.out | apply below_alloc | apply pw_below_drewN | apply below_drew1) | exact HB.out)) hb); clear HB; have HO109 := n0_; have HB := n1_; clear n0_ n1_; (try clear hb); (try clear hb2); (try clear hk); (try clear hi); (try clear ho0)) | ((with_reducible refine gate_dst (N := 5) rfl ?_); refine box_event ?hg (N := 5) ?hd (cs := #[.string (⟨#[]⟩ : ByteArray), .bool false, .slice none 0 0]) (t := 62) ?hr ?_; (case hd => rfl); (case hg => rfl); (case hr => first | (go_simp; done) | (go_simp; rfl)); intro gb111 hg w23 hbox hb; have n0_ := Aside0.mk (Kd.R_below (Kd.R_elderB (by (with_reducible repeat (first | apply Kd.R_alloc | apply Kd.R_drewN | apply Kd.R_drew)); exact HO109.out) gb111 (Nat.le_of_eq hg.symm)) hb); have n1_ := Aside0.mk (below_step (by repeat (first | (with_reducible first | exact HB.out | apply below_alloc | apply pw_below_drewN | apply below_drew1) | exact HB.out)) hb); have n2_ := Aside0.mk (hbox); have n3_ := Aside0.mk ((by rw [hg]; exact (below_size (by repeat (first | (with_reducible first | exact HB.out | apply below_alloc | apply pw_below_drewN | apply below_drew1) | exact HB.out))) : w.heap.size ≤ gb111)); have n4_ := Aside0.mk ((by rw [hg]; exact (below_size (by repeat (first | (with_reducible first | exact HB.out | apply below_alloc | apply pw_below_drewN | apply below_drew1) | exact HB.out))) : w.heap.size ≤ gb111)); clear HO109; clear HB; have HO109 := n0_; have HB := n1_; have BK111 := n2_; have GW111 := n3_; have GE111 := n4_; clear n0_ n1_ n2_ n3_ n4_; clear hb hbox hg; have hcz24_0 : w23.cell? ⟨gb111, 0, none⟩ = some (.string (⟨#[]⟩ : ByteArray)) := (blk_cell BK111.out 0).trans rfl; have hcz24_1 : w23.cell? ⟨gb111, 1, none⟩ = some (.bool false) := (blk_cell BK111.out 1).trans rfl; have hcz24_2 : w23.cell? ⟨gb111, 2, none⟩ = some (.slice none 0 0) := (blk_cell BK111.out 2).trans rfl; have hfz24_0 := blk_frozen BK111.out 0; have hfz24_1 := blk_frozen BK111.out 1; have hfz24_2 := blk_frozen BK111.out 2; obtain ⟨Ao25, co25, eo25⟩ := Kd.R_slice HO109.out; subst eo25))
    go_ret
    exact ⟨by first | rfl | (simp [errW_none, errW_some] <;> rfl) | (simp [*, errW_none, errW_some] <;> rfl), by repeat (first | (with_reducible first | exact HB.out | apply below_alloc | apply pw_below_drewN | apply below_drew1 | refine below_set ?_ GE111.out) | exact HB.out)⟩
  ·rw [if_neg c5] at H
   have c5b0 : (t101.toList == ([131, 100, 111, 103] : List UInt8)) = false := beq_eq_false_iff_ne.mpr c5
   have c5b1 : (t101.toList != ([131, 100, 111, 103] : List UInt8)) = true := bne_iff_ne.mpr c5
   obtain rfl := Option.some.inj H
   go_enter Try.func49, Try.ntmps49
   go_wp2_with (first | ((with_reducible refine gate_callee (f := 54) rfl ?_); refine goesL_ (some 9) rfl rfl Try.func54 (by kernel_rfl) rfl #[.agg #[.string (⟨#[100, 111, 103]⟩ : ByteArray), .bool false, .slice none 0 0]] rfl (by (try simp only [List.map_toArray, List.map_cons, List.map_nil]); first | done | rfl | (simp only [List.length_drop, List.length_take]; rfl)) ?_; (refine (rlp_Put.calls (⟨#[100, 111, 103]⟩ : ByteArray) false _ _ ([] : List (S62)) t101 t102 _ ?side1 ?side2 A1.out).mono ?_); (case side1 => exact Kd.C_nil _ _); (case side2 => exact Nat.le_refl _); rintro e w26 ⟨rfl, hb⟩; refine ⟨_, rfl, ?_⟩; have n0_ := Aside0.mk (below_step (by repeat (first | (with_reducible first | exact HB.out | apply below_alloc | apply pw_below_drewN | apply below_drew1) | exact HB.out)) hb); clear HB; have HB := n0_; clear n0_; (try clear hb); (try clear hb2); (try clear hk); (try clear hi)) | ((with_reducible refine gate_callee (f := 54) rfl ?_); refine goesL_ (some 14) rfl rfl Try.func54 (by kernel_rfl) rfl #[.agg #[.string (⟨#[]⟩ : ByteArray), .bool true, .slice none 0 0]] rfl (by (try simp only [List.map_toArray, List.map_cons, List.map_nil]); first | done | rfl | (simp only [List.length_drop, List.length_take]; rfl)) ?_; (refine (rlp_Put.calls (⟨#[]⟩ : ByteArray) true _ _ ([] : List (S62)) t103 t104 _ ?side1 ?side2 A2.out).mono ?_); (case side1 => exact Kd.C_nil _ _); (case side2 => exact Nat.le_refl _); rintro e w27 ⟨rfl, hb⟩; refine ⟨_, rfl, ?_⟩; have n0_ := Aside0.mk (below_step (by repeat (first | (with_reducible first | exact HB.out | apply below_alloc | apply pw_below_drewN | apply below_drew1) | exact HB.out)) hb); clear HB; have HB := n0_; clear n0_; (try clear hb); (try clear hb2); (try clear hk); (try clear hi)) | ((with_reducible refine gate_callee (f := 52) rfl ?_); refine goesL_ (some 18) rfl rfl Try.func52 (by kernel_rfl) rfl #[.string (⟨#[129, 5]⟩ : ByteArray), .int .i64 9, .int .i64 9] rfl (by (try simp only [List.map_toArray, List.map_cons, List.map_nil]); first | done | rfl | (simp only [List.length_drop, List.length_take]; rfl)) ?_; (with_reducible refine (rlp_Get.calls (⟨#[129, 5]⟩ : ByteArray) 9 9 t105 t106 t107 t110 _ A3.out).mono ?_); rintro e w28 ⟨v108, rfl, ho0, hb⟩; refine ⟨_, rfl, ?_⟩; have n0_ := Aside0.mk (Kd.R_lower ho0 (below_size (by repeat (first | (with_reducible first | exact HB.out | apply below_alloc | apply pw_below_drewN | apply below_drew1) | exact HB.out)))); have n1_ := Aside0.mk (below_step (by repeat (first | (with_reducible first | exact HB.out | apply below_alloc | apply pw_below_drewN | apply below_drew1) | exact HB.out)) hb); clear HB; have HO109 := n0_; have HB := n1_; clear n0_ n1_; (try clear hb); (try clear hb2); (try clear hk); (try clear hi); (try clear ho0)) | ((with_reducible refine gate_dst (N := 5) rfl ?_); refine box_event ?hg (N := 5) ?hd (cs := #[.string (⟨#[]⟩ : ByteArray), .bool false, .slice none 0 0]) (t := 62) ?hr ?_; (case hd => rfl); (case hg => rfl); (case hr => first | (go_simp; done) | (go_simp; rfl)); intro gb111 hg w29 hbox hb; have n0_ := Aside0.mk (Kd.R_below (Kd.R_elderB (by (with_reducible repeat (first | apply Kd.R_alloc | apply Kd.R_drewN | apply Kd.R_drew)); exact HO109.out) gb111 (Nat.le_of_eq hg.symm)) hb); have n1_ := Aside0.mk (below_step (by repeat (first | (with_reducible first | exact HB.out | apply below_alloc | apply pw_below_drewN | apply below_drew1) | exact HB.out)) hb); have n2_ := Aside0.mk (hbox); have n3_ := Aside0.mk ((by rw [hg]; exact (below_size (by repeat (first | (with_reducible first | exact HB.out | apply below_alloc | apply pw_below_drewN | apply below_drew1) | exact HB.out))) : w.heap.size ≤ gb111)); have n4_ := Aside0.mk ((by rw [hg]; exact (below_size (by repeat (first | (with_reducible first | exact HB.out | apply below_alloc | apply pw_below_drewN | apply below_drew1) | exact HB.out))) : w.heap.size ≤ gb111)); clear HO109; clear HB; have HO109 := n0_; have HB := n1_; have BK111 := n2_; have GW111 := n3_; have GE111 := n4_; clear n0_ n1_ n2_ n3_ n4_; clear hb hbox hg; have hcz30_0 : w29.cell? ⟨gb111, 0, none⟩ = some (.string (⟨#[]⟩ : ByteArray)) := (blk_cell BK111.out 0).trans rfl; have hcz30_1 : w29.cell? ⟨gb111, 1, none⟩ = some (.bool false) := (blk_cell BK111.out 1).trans rfl; have hcz30_2 : w29.cell? ⟨gb111, 2, none⟩ = some (.slice none 0 0) := (blk_cell BK111.out 2).trans rfl; have hfz30_0 := blk_frozen BK111.out 0; have hfz30_1 := blk_frozen BK111.out 1; have hfz30_2 := blk_frozen BK111.out 2; obtain ⟨Ao31, co31, eo31⟩ := Kd.R_slice HO109.out; subst eo31))
   go_ret
   exact ⟨by first | rfl | (simp [errW_none, errW_some] <;> rfl) | (simp [*, errW_none, errW_some] <;> rfl), by repeat (first | (with_reducible first | exact HB.out | apply below_alloc | apply pw_below_drewN | apply below_drew1 | refine below_set ?_ GE111.out) | exact HB.out)⟩
 ·rw [if_neg c4] at H
  have c4b0 : (t102 == 0) = false := beq_eq_false_iff_ne.mpr c4
  have c4b1 : (t102 != 0) = true := bne_iff_ne.mpr c4
  obtain rfl := Option.some.inj H
  go_enter Try.func49, Try.ntmps49
  go_wp2_with (first | ((with_reducible refine gate_callee (f := 54) rfl ?_); refine goesL_ (some 9) rfl rfl Try.func54 (by kernel_rfl) rfl #[.agg #[.string (⟨#[100, 111, 103]⟩ : ByteArray), .bool false, .slice none 0 0]] rfl (by (try simp only [List.map_toArray, List.map_cons, List.map_nil]); first | done | rfl | (simp only [List.length_drop, List.length_take]; rfl)) ?_; (refine (rlp_Put.calls (⟨#[100, 111, 103]⟩ : ByteArray) false _ _ ([] : List (S62)) t101 t102 _ ?side1 ?side2 A1.out).mono ?_); (case side1 => exact Kd.C_nil _ _); (case side2 => exact Nat.le_refl _); rintro e w32 ⟨rfl, hb⟩; refine ⟨_, rfl, ?_⟩; have n0_ := Aside0.mk (below_step (by repeat (first | (with_reducible first | exact HB.out | apply below_alloc | apply pw_below_drewN | apply below_drew1) | exact HB.out)) hb); clear HB; have HB := n0_; clear n0_; (try clear hb); (try clear hb2); (try clear hk); (try clear hi)) | ((with_reducible refine gate_callee (f := 54) rfl ?_); refine goesL_ (some 14) rfl rfl Try.func54 (by kernel_rfl) rfl #[.agg #[.string (⟨#[]⟩ : ByteArray), .bool true, .slice none 0 0]] rfl (by (try simp only [List.map_toArray, List.map_cons, List.map_nil]); first | done | rfl | (simp only [List.length_drop, List.length_take]; rfl)) ?_; (refine (rlp_Put.calls (⟨#[]⟩ : ByteArray) true _ _ ([] : List (S62)) t103 t104 _ ?side1 ?side2 A2.out).mono ?_); (case side1 => exact Kd.C_nil _ _); (case side2 => exact Nat.le_refl _); rintro e w33 ⟨rfl, hb⟩; refine ⟨_, rfl, ?_⟩; have n0_ := Aside0.mk (below_step (by repeat (first | (with_reducible first | exact HB.out | apply below_alloc | apply pw_below_drewN | apply below_drew1) | exact HB.out)) hb); clear HB; have HB := n0_; clear n0_; (try clear hb); (try clear hb2); (try clear hk); (try clear hi)) | ((with_reducible refine gate_callee (f := 52) rfl ?_); refine goesL_ (some 18) rfl rfl Try.func52 (by kernel_rfl) rfl #[.string (⟨#[129, 5]⟩ : ByteArray), .int .i64 9, .int .i64 9] rfl (by (try simp only [List.map_toArray, List.map_cons, List.map_nil]); first | done | rfl | (simp only [List.length_drop, List.length_take]; rfl)) ?_; (with_reducible refine (rlp_Get.calls (⟨#[129, 5]⟩ : ByteArray) 9 9 t105 t106 t107 t110 _ A3.out).mono ?_); rintro e w34 ⟨v108, rfl, ho0, hb⟩; refine ⟨_, rfl, ?_⟩; have n0_ := Aside0.mk (Kd.R_lower ho0 (below_size (by repeat (first | (with_reducible first | exact HB.out | apply below_alloc | apply pw_below_drewN | apply below_drew1) | exact HB.out)))); have n1_ := Aside0.mk (below_step (by repeat (first | (with_reducible first | exact HB.out | apply below_alloc | apply pw_below_drewN | apply below_drew1) | exact HB.out)) hb); clear HB; have HO109 := n0_; have HB := n1_; clear n0_ n1_; (try clear hb); (try clear hb2); (try clear hk); (try clear hi); (try clear ho0)) | ((with_reducible refine gate_dst (N := 5) rfl ?_); refine box_event ?hg (N := 5) ?hd (cs := #[.string (⟨#[]⟩ : ByteArray), .bool false, .slice none 0 0]) (t := 62) ?hr ?_; (case hd => rfl); (case hg => rfl); (case hr => first | (go_simp; done) | (go_simp; rfl)); intro gb111 hg w35 hbox hb; have n0_ := Aside0.mk (Kd.R_below (Kd.R_elderB (by (with_reducible repeat (first | apply Kd.R_alloc | apply Kd.R_drewN | apply Kd.R_drew)); exact HO109.out) gb111 (Nat.le_of_eq hg.symm)) hb); have n1_ := Aside0.mk (below_step (by repeat (first | (with_reducible first | exact HB.out | apply below_alloc | apply pw_below_drewN | apply below_drew1) | exact HB.out)) hb); have n2_ := Aside0.mk (hbox); have n3_ := Aside0.mk ((by rw [hg]; exact (below_size (by repeat (first | (with_reducible first | exact HB.out | apply below_alloc | apply pw_below_drewN | apply below_drew1) | exact HB.out))) : w.heap.size ≤ gb111)); have n4_ := Aside0.mk ((by rw [hg]; exact (below_size (by repeat (first | (with_reducible first | exact HB.out | apply below_alloc | apply pw_below_drewN | apply below_drew1) | exact HB.out))) : w.heap.size ≤ gb111)); clear HO109; clear HB; have HO109 := n0_; have HB := n1_; have BK111 := n2_; have GW111 := n3_; have GE111 := n4_; clear n0_ n1_ n2_ n3_ n4_; clear hb hbox hg; have hcz36_0 : w35.cell? ⟨gb111, 0, none⟩ = some (.string (⟨#[]⟩ : ByteArray)) := (blk_cell BK111.out 0).trans rfl; have hcz36_1 : w35.cell? ⟨gb111, 1, none⟩ = some (.bool false) := (blk_cell BK111.out 1).trans rfl; have hcz36_2 : w35.cell? ⟨gb111, 2, none⟩ = some (.slice none 0 0) := (blk_cell BK111.out 2).trans rfl; have hfz36_0 := blk_frozen BK111.out 0; have hfz36_1 := blk_frozen BK111.out 1; have hfz36_2 := blk_frozen BK111.out 2; obtain ⟨Ao37, co37, eo37⟩ := Kd.R_slice HO109.out; subst eo37))
  go_ret
  exact ⟨by first | rfl | (simp [errW_none, errW_some] <;> rfl) | (simp [*, errW_none, errW_some] <;> rfl), by repeat (first | (with_reducible first | exact HB.out | apply below_alloc | apply pw_below_drewN | apply below_drew1 | refine below_set ?_ GE111.out) | exact HB.out)⟩
end Go.Proofs.Yteoibgpkimlahaa.P
end
section
namespace Go.Proofs.Yteoibgpkimlahaa.P
open Go.RowKit Go.Proofs.YteoibgpkimlahaaW.PrintWords Go.Proofs.YteoibgpkimlahaaW.PrintLast Go.Proofs.YteoibgpkimlahaaW.PrintMore
attribute [local go_sem] max2_int min2_int max_two min_two max_three min_three max_four min_four   
set_option linter.unusedVariables false
set_option linter.unusedSimpArgs false
def hatchwaylaw09_RlpCuts.j0 : Nat → Int → ByteArray → Bool → ByteArray → Bool → List (S62) → Option (Bool)
 | 0, _, _, _, _, _, _ => none
 | k + 1, x1, x2, x29, x102000, x102001, x102002 => if x29 = true then (some true) else ((hatchwayref09_Put.f k x102000 x102001 x102002).bind fun t105 => (if (t105.size : Int) = 0 then (none) else (if 0 ≤ (Int.tmod (wrap64 (x1)) (t105.size : Int)) then (if (Int.tmod (wrap64 (x1)) (t105.size : Int)) ≤ (t105.size : Int) then ((rlp_Next.f (t105.extract 0 ((Int.tmod (wrap64 (x1)) (t105.size : Int)) : Int).toNat) 16 1024).bind fun bt106 => (if t105.size + x2.size ≤ 9223372036854775807 then ((rlp_Next.f (t105 ++ x2) 16 1024).bind fun bt114 => ((rlp_Get.f (t105 ++ x2) 16 1024).bind fun bt122 => (if bt106.2.2.2.2 = 2 then (if bt106.2.2.2.1 = 0 then (if bt114.2.2.2.2 = 0 then (if bt114.2.2.2.1 = (t105.size : Int) then ((hatchwayref08_Same.f k x102000 x102001 x102002 bt114.1 bt114.2.1 bt114.2.2.1).bind fun t129 => (if t129 = true then (if ((bt122.2.2.2 == 0) == (x2.toList == ([] : List UInt8))) = true then (if x2.toList = ([] : List UInt8) then (some true) else (some (bt122.2.2.2 == 3))) else (some false)) else (some false))) else (some false)) else (some false)) else (some false)) else (some false)))) else (none))) else (none)) else (none))))
def hatchwaylaw09_RlpCuts.f (k : Nat) (a0_0 : ByteArray) (a0_1 : Bool) (l0_2 : List (S62)) (a1 : Int) (a2 : ByteArray) : Option (Bool) := (hatchwaylaw09_alive.f).bind fun t102 => (if t102 = true then ((hatchwaylaw08_Great.f k a0_0 a0_1 l0_2).bind fun t103 => (if t103 = true then (hatchwaylaw09_RlpCuts.j0 k a1 a2 true a0_0 a0_1 l0_2) else ((hatchwayref08_May.f k a0_0 a0_1 l0_2).bind fun t104 => (if t104 = true then (hatchwaylaw09_RlpCuts.j0 k a1 a2 (decide ((a2.size : Int) > 300)) a0_0 a0_1 l0_2) else (hatchwaylaw09_RlpCuts.j0 k a1 a2 true a0_0 a0_1 l0_2))))) else (some false))
theorem hatchwaylaw09_RlpCuts.mono_l : ∀ k, (∀ y0 y1 y2 y3 y4 y5, LeO (hatchwaylaw09_RlpCuts.j0 k y0 y1 y2 y3 y4 y5) (hatchwaylaw09_RlpCuts.j0 (k + 1) y0 y1 y2 y3 y4 y5))
 | 0 => fun _ _ _ _ _ _ r h => by simp [hatchwaylaw09_RlpCuts.j0] at h
 | k + 1 => by
  have ih0 := hatchwaylaw09_RlpCuts.mono_l k
  ·intro y0 y1 y2 y3 y4 y5
   unfold hatchwaylaw09_RlpCuts.j0
   repeat' first
   | (with_reducible exact ih0 _ _ _ _ _ _)
   | (with_reducible exact hatchwaylaw08_Great.mono _ _ _ _)
   | (with_reducible exact hatchwayref08_May.mono _ _ _ _)
   | (with_reducible exact hatchwayref08_Same.mono _ _ _ _ _ _ _)
   | (with_reducible exact hatchwayref09_Put.mono _ _ _ _)
   | (with_reducible exact LeO.refl _)
   | (with_reducible exact LeO.none _)
   | (with_reducible refine LeO.ite ?_ ?_)
   | (with_reducible refine LeO.bind ?_ (fun _ => ?_))
   | exact ih0 _ _ _ _ _ _
   | exact hatchwaylaw08_Great.mono _ _ _ _
   | exact hatchwayref08_May.mono _ _ _ _
   | exact hatchwayref08_Same.mono _ _ _ _ _ _ _
   | exact hatchwayref09_Put.mono _ _ _ _
   | exact LeO.none _
   | refine LeO.ite ?_ ?_
   | refine LeO.bind ?_ (fun _ => ?_)
theorem hatchwaylaw09_RlpCuts.mono : ∀ a0 a1 a2 a3 a4 k, LeO (hatchwaylaw09_RlpCuts.f k a0 a1 a2 a3 a4) (hatchwaylaw09_RlpCuts.f (k + 1) a0 a1 a2 a3 a4) := by
 intro a0 a1 a2 a3 a4 k
 have ih0 := hatchwaylaw09_RlpCuts.mono_l k
 unfold hatchwaylaw09_RlpCuts.f
 repeat' first
   | (with_reducible exact ih0 _ _ _ _ _ _)
   | (with_reducible exact hatchwaylaw08_Great.mono _ _ _ _)
   | (with_reducible exact hatchwayref08_May.mono _ _ _ _)
   | (with_reducible exact hatchwayref08_Same.mono _ _ _ _ _ _ _)
   | (with_reducible exact hatchwayref09_Put.mono _ _ _ _)
   | (with_reducible exact LeO.refl _)
   | (with_reducible exact LeO.none _)
   | (with_reducible refine LeO.ite ?_ ?_)
   | (with_reducible refine LeO.bind ?_ (fun _ => ?_))
   | exact ih0 _ _ _ _ _ _
   | exact hatchwaylaw08_Great.mono _ _ _ _
   | exact hatchwayref08_May.mono _ _ _ _
   | exact hatchwayref08_Same.mono _ _ _ _ _ _ _
   | exact hatchwayref09_Put.mono _ _ _ _
   | exact LeO.none _
   | refine LeO.ite ?_ ?_
   | refine LeO.bind ?_ (fun _ => ?_)
set_option maxHeartbeats 8000000 in
set_option maxRecDepth 100000 in
theorem hatchwaylaw09_RlpCuts.calls (k : Nat) (a0_0 : ByteArray) (a0_1 : Bool) (A0_2 : Option Addr) (c0_2 : Nat) (l0_2 : List (S62)) (a1 : Int) (a2 : ByteArray) (r : Bool) (w : World) (hr0_2 : Kd.C k62 w A0_2 l0_2.length l0_2) (hc0_2 : l0_2.length ≤ c0_2) (h : hatchwaylaw09_RlpCuts.f k a0_0 a0_1 l0_2 a1 a2 = some r) (ht_ : r = true) :
  Calls Try.prog 10 #[.agg #[.string a0_0, .bool a0_1, .slice A0_2 l0_2.length c0_2], .int .u16 a1, .string a2] w fun e w' => e = .returned (.bool r) ∧ Below w.heap.size w w' := by
 have hu62 := Try.underlying62
 have HR0_2 := Aside0.mk hr0_2
 have HC0_2 := Aside0.mk hc0_2
 clear hr0_2 hc0_2
 have HB := Aside0.mk (Below.refl w.heap.size w)
 have H : ((hatchwaylaw09_alive.f).bind fun t102 => (if t102 = true then ((hatchwaylaw08_Great.f k a0_0 a0_1 l0_2).bind fun t103 => (if t103 = true then (hatchwaylaw09_RlpCuts.j0 k a1 a2 true a0_0 a0_1 l0_2) else ((hatchwayref08_May.f k a0_0 a0_1 l0_2).bind fun t104 => (if t104 = true then (hatchwaylaw09_RlpCuts.j0 k a1 a2 (decide ((a2.size : Int) > 300)) a0_0 a0_1 l0_2) else (hatchwaylaw09_RlpCuts.j0 k a1 a2 true a0_0 a0_1 l0_2))))) else (some false))) = some r := h
 clear h
 replace H := Option.bind_eq_some_iff.mp H
 obtain ⟨t102, A40, H⟩ := H
 replace H : (if t102 = true then ((hatchwaylaw08_Great.f k a0_0 a0_1 l0_2).bind fun t103 => (if t103 = true then (hatchwaylaw09_RlpCuts.j0 k a1 a2 true a0_0 a0_1 l0_2) else ((hatchwayref08_May.f k a0_0 a0_1 l0_2).bind fun t104 => (if t104 = true then (hatchwaylaw09_RlpCuts.j0 k a1 a2 (decide ((a2.size : Int) > 300)) a0_0 a0_1 l0_2) else (hatchwaylaw09_RlpCuts.j0 k a1 a2 true a0_0 a0_1 l0_2))))) else (some false)) = some r := H
 have A4 := Aside0.mk A40
 clear A40
 by_cases c5 : t102 = true
 ·subst c5
  have H1 : ((hatchwaylaw08_Great.f k a0_0 a0_1 l0_2).bind fun t103 => (if t103 = true then (hatchwaylaw09_RlpCuts.j0 k a1 a2 true a0_0 a0_1 l0_2) else ((hatchwayref08_May.f k a0_0 a0_1 l0_2).bind fun t104 => (if t104 = true then (hatchwaylaw09_RlpCuts.j0 k a1 a2 (decide ((a2.size : Int) > 300)) a0_0 a0_1 l0_2) else (hatchwaylaw09_RlpCuts.j0 k a1 a2 true a0_0 a0_1 l0_2))))) = some r := by rw [if_pos rfl] at H; exact H
  clear H
  have H := H1
  clear H1
  have HC6 := Aside0.mk H
  clear H
  go_enter Try.func10, Try.ntmps10
  go_upto_region 3 with (first | ((with_reducible refine gate_dst (N := 3) rfl ?_); (try (refine gate_guard (by rfl) ?_; dsimp only)); refine box_event ?hg (N := 3) ?hd (cs := #[.string a0_0, .bool a0_1, .slice A0_2 l0_2.length c0_2]) (t := 62) ?hr ?_; (case hd => rfl); (case hg => rfl); (case hr => first | (go_simp; done) | (go_simp; rfl)); intro gb101 hg w7 hbox hb; have n0_ := Aside0.mk (below_step (by repeat (first | (with_reducible first | exact HB.out | apply below_alloc | apply pw_below_drewN | apply below_drew1) | exact HB.out)) hb); have n1_ := Aside0.mk (hbox); have n2_ := Aside0.mk ((by rw [hg]; exact (below_size (by repeat (first | (with_reducible first | exact HB.out | apply below_alloc | apply pw_below_drewN | apply below_drew1) | exact HB.out))) : w.heap.size ≤ gb101)); have n3_ := Aside0.mk ((by rw [hg]; exact (below_size (by repeat (first | (with_reducible first | exact HB.out | apply below_alloc | apply pw_below_drewN | apply below_drew1) | exact HB.out))) : w.heap.size ≤ gb101)); clear HB; have HB := n0_; have BK101 := n1_; have GW101 := n2_; have GE101 := n3_; clear n0_ n1_ n2_ n3_; clear hb hbox hg) | ((with_reducible refine gate_callee (f := 49) rfl ?_); refine goesL_ (some 16) rfl rfl Try.func49 (by kernel_rfl) rfl #[] rfl (by (try simp only [List.map_toArray, List.map_cons, List.map_nil]); first | done | rfl | (simp only [List.length_drop, List.length_take]; rfl)) ?_; (with_reducible refine (hatchwaylaw09_alive.calls  true _ A4.out).mono ?_); rintro e w8 ⟨rfl, hb⟩; refine ⟨_, rfl, ?_⟩; have n0_ := Aside0.mk (blk_below (g := gb101) (o := .cells #[.string a0_0, .bool a0_1, .slice A0_2 l0_2.length c0_2] 62 (0, 0)) (by (with_reducible repeat (first | refine blk_drewN ?_ _ | refine blk_drew ?_ | refine blk_alloc ?_ _)); exact BK101.out) hb); have n1_ := Aside0.mk (below_step (by repeat (first | (with_reducible first | exact HB.out | apply below_alloc | apply pw_below_drewN | apply below_drew1 | refine below_set ?_ GE101.out) | exact HB.out)) hb); clear BK101; clear HB; have BK101 := n0_; have HB := n1_; clear n0_ n1_; (try clear hb); (try clear hb2); (try clear hk); (try clear hi)))
  (try simp only [Act.put, List.setIfInBounds_toArray, List.set_cons_zero, List.set_cons_succ])
  go_cut [29] (fun v29 wc => ∃ (kq : Nat) (x29_5 : Bool), v29 = .bool x29_5 ∧ Aside0 (hatchwaylaw09_RlpCuts.j0 kq a1 a2 x29_5 a0_0 a0_1 l0_2 = some r) ∧ Aside0 (kq ≤ k) ∧ Aside0 (wc.heap[gb101]? = some (.cells #[.string a0_0, .bool a0_1, (.slice A0_2 l0_2.length c0_2)] 62 (0, 0))) ∧ Aside0 (Below w.heap.size w wc))
  case first =>
   have H := HC6.out
   clear HC6
   replace H := Option.bind_eq_some_iff.mp H
   obtain ⟨t103, A90, H⟩ := H
   replace H : (if t103 = true then (hatchwaylaw09_RlpCuts.j0 k a1 a2 true a0_0 a0_1 l0_2) else ((hatchwayref08_May.f k a0_0 a0_1 l0_2).bind fun t104 => (if t104 = true then (hatchwaylaw09_RlpCuts.j0 k a1 a2 (decide ((a2.size : Int) > 300)) a0_0 a0_1 l0_2) else (hatchwaylaw09_RlpCuts.j0 k a1 a2 true a0_0 a0_1 l0_2)))) = some r := H
   have A9 := Aside0.mk A90
   clear A90
   by_cases c10 : t103 = true
   ·subst c10
    have H1 : (hatchwaylaw09_RlpCuts.j0 k a1 a2 true a0_0 a0_1 l0_2) = some r := by rw [if_pos rfl] at H; exact H
    clear H
    have H := H1
    clear H1
    have H' := Aside0.mk H
    clear H
    have hcz11_0 : w8.cell? ⟨gb101, 0, none⟩ = some (.string a0_0) := (blk_cell BK101.out 0).trans rfl
    have hcz11_1 : w8.cell? ⟨gb101, 1, none⟩ = some (.bool a0_1) := (blk_cell BK101.out 1).trans rfl
    have hcz11_2 : w8.cell? ⟨gb101, 2, none⟩ = some (.slice A0_2 l0_2.length c0_2) := (blk_cell BK101.out 2).trans rfl
    have hfz11_0 := blk_frozen BK101.out 0
    have hfz11_1 := blk_frozen BK101.out 1
    have hfz11_2 := blk_frozen BK101.out 2
    go_wp2_with (first | ((with_reducible refine gate_callee (f := 35) rfl ?_); refine goesL_ (some 19) rfl rfl Try.func35 (by kernel_rfl) rfl #[.agg #[.string a0_0, .bool a0_1, .slice A0_2 l0_2.length c0_2]] rfl (by (try simp only [List.map_toArray, List.map_cons, List.map_nil]); first | done | rfl | (simp only [List.length_drop, List.length_take]; rfl)) ?_; (with_reducible refine (hatchwaylaw08_Great.calls k a0_0 a0_1 _ _ l0_2 true _ ?side1 ?side2 A9.out).mono ?_); (case side1 => repeat (first | exact (Kd.C_below HR0_2.out HB.out) | (with_reducible refine Kd.C_alloc ?_ _) | (with_reducible refine Kd.C_drewN ?_ _) | (with_reducible refine Kd.C_drew ?_))); (case side2 => exact HC0_2.out); rintro e w12 ⟨rfl, hb⟩; refine ⟨_, rfl, ?_⟩; have n0_ := Aside0.mk (blk_below (g := gb101) (o := .cells #[.string a0_0, .bool a0_1, .slice A0_2 l0_2.length c0_2] 62 (0, 0)) (by (with_reducible repeat (first | refine blk_drewN ?_ _ | refine blk_drew ?_ | refine blk_alloc ?_ _)); exact BK101.out) hb); have n1_ := Aside0.mk (below_step (by repeat (first | (with_reducible first | exact HB.out | apply below_alloc | apply pw_below_drewN | apply below_drew1 | refine below_set ?_ GE101.out) | exact HB.out)) hb); clear BK101; clear HB; have BK101 := n0_; have HB := n1_; clear n0_ n1_; (try clear hb); (try clear hb2); (try clear hk); (try clear hi)))
    go_meet
    case rel => exact ⟨_, (true), (by first | rfl | (simp; done) | (simp [*]; done)), H', ⟨by first | omega | exact Nat.le_refl _⟩, ⟨by (with_reducible repeat (first | refine blk_drewN ?_ _ | refine blk_drew ?_ | refine blk_alloc ?_ _)); exact BK101.out⟩, ⟨by repeat (first | (with_reducible first | exact HB.out | apply below_alloc | apply pw_below_drewN | apply below_drew1 | refine below_set ?_ GE101.out) | exact HB.out)⟩⟩
   ·replace c10 := Bool.eq_false_iff.mpr c10
    subst c10
    have H1 : ((hatchwayref08_May.f k a0_0 a0_1 l0_2).bind fun t104 => (if t104 = true then (hatchwaylaw09_RlpCuts.j0 k a1 a2 (decide ((a2.size : Int) > 300)) a0_0 a0_1 l0_2) else (hatchwaylaw09_RlpCuts.j0 k a1 a2 true a0_0 a0_1 l0_2))) = some r := by rw [if_neg (show ¬ (false = true) by decide)] at H; exact H
    clear H
    have H := H1
    clear H1
    replace H := Option.bind_eq_some_iff.mp H
    obtain ⟨t104, A130, H⟩ := H
    replace H : (if t104 = true then (hatchwaylaw09_RlpCuts.j0 k a1 a2 (decide ((a2.size : Int) > 300)) a0_0 a0_1 l0_2) else (hatchwaylaw09_RlpCuts.j0 k a1 a2 true a0_0 a0_1 l0_2)) = some r := H
    have A13 := Aside0.mk A130
    clear A130
    by_cases c14 : t104 = true
    ·subst c14
     have H1 : (hatchwaylaw09_RlpCuts.j0 k a1 a2 (decide ((a2.size : Int) > 300)) a0_0 a0_1 l0_2) = some r := by rw [if_pos rfl] at H; exact H
     clear H
     have H := H1
     clear H1
     have H' := Aside0.mk H
     clear H
     have hcz15_0 : w8.cell? ⟨gb101, 0, none⟩ = some (.string a0_0) := (blk_cell BK101.out 0).trans rfl
     have hcz15_1 : w8.cell? ⟨gb101, 1, none⟩ = some (.bool a0_1) := (blk_cell BK101.out 1).trans rfl
     have hcz15_2 : w8.cell? ⟨gb101, 2, none⟩ = some (.slice A0_2 l0_2.length c0_2) := (blk_cell BK101.out 2).trans rfl
     have hfz15_0 := blk_frozen BK101.out 0
     have hfz15_1 := blk_frozen BK101.out 1
     have hfz15_2 := blk_frozen BK101.out 2
     go_wp2_with (first | ((with_reducible refine gate_callee (f := 35) rfl ?_); refine goesL_ (some 19) rfl rfl Try.func35 (by kernel_rfl) rfl #[.agg #[.string a0_0, .bool a0_1, .slice A0_2 l0_2.length c0_2]] rfl (by (try simp only [List.map_toArray, List.map_cons, List.map_nil]); first | done | rfl | (simp only [List.length_drop, List.length_take]; rfl)) ?_; (with_reducible refine (hatchwaylaw08_Great.calls k a0_0 a0_1 _ _ l0_2 false _ ?side1 ?side2 A9.out).mono ?_); (case side1 => repeat (first | exact (Kd.C_below HR0_2.out HB.out) | (with_reducible refine Kd.C_alloc ?_ _) | (with_reducible refine Kd.C_drewN ?_ _) | (with_reducible refine Kd.C_drew ?_))); (case side2 => exact HC0_2.out); rintro e w16 ⟨rfl, hb⟩; refine ⟨_, rfl, ?_⟩; have n0_ := Aside0.mk (blk_below (g := gb101) (o := .cells #[.string a0_0, .bool a0_1, .slice A0_2 l0_2.length c0_2] 62 (0, 0)) (by (with_reducible repeat (first | refine blk_drewN ?_ _ | refine blk_drew ?_ | refine blk_alloc ?_ _)); exact BK101.out) hb); have n1_ := Aside0.mk (below_step (by repeat (first | (with_reducible first | exact HB.out | apply below_alloc | apply pw_below_drewN | apply below_drew1 | refine below_set ?_ GE101.out) | exact HB.out)) hb); clear BK101; clear HB; have BK101 := n0_; have HB := n1_; clear n0_ n1_; (try clear hb); (try clear hb2); (try clear hk); (try clear hi); have hcz17_0 : w16.cell? ⟨gb101, 0, none⟩ = some (.string a0_0) := (blk_cell BK101.out 0).trans rfl; have hcz17_1 : w16.cell? ⟨gb101, 1, none⟩ = some (.bool a0_1) := (blk_cell BK101.out 1).trans rfl; have hcz17_2 : w16.cell? ⟨gb101, 2, none⟩ = some (.slice A0_2 l0_2.length c0_2) := (blk_cell BK101.out 2).trans rfl; have hfz17_0 := blk_frozen BK101.out 0; have hfz17_1 := blk_frozen BK101.out 1; have hfz17_2 := blk_frozen BK101.out 2) | (go_at_call 37; (with_reducible refine (hatchwayref08_May.calls k a0_0 a0_1 _ _ l0_2 true _ ?side1 ?side2 A13.out).mono ?_); (case side1 => repeat (first | exact (Kd.C_below HR0_2.out HB.out) | (with_reducible refine Kd.C_alloc ?_ _) | (with_reducible refine Kd.C_drewN ?_ _) | (with_reducible refine Kd.C_drew ?_))); (case side2 => exact HC0_2.out); rintro e w18 ⟨rfl, hb⟩; have n0_ := Aside0.mk (blk_below (g := gb101) (o := .cells #[.string a0_0, .bool a0_1, .slice A0_2 l0_2.length c0_2] 62 (0, 0)) (by (with_reducible repeat (first | refine blk_drewN ?_ _ | refine blk_drew ?_ | refine blk_alloc ?_ _)); exact BK101.out) hb); have n1_ := Aside0.mk (below_step (by repeat (first | (with_reducible first | exact HB.out | apply below_alloc | apply pw_below_drewN | apply below_drew1 | refine below_set ?_ GE101.out) | exact HB.out)) hb); clear BK101; clear HB; have BK101 := n0_; have HB := n1_; clear n0_ n1_; (try clear hb); (try clear hb2); (try clear hk); (try clear hi)))
     go_meet
     case rel => exact ⟨_, (decide ((a2.size : Int) > 300)), (by first | rfl | (simp; done) | (simp [*]; done)), H', ⟨by first | omega | exact Nat.le_refl _⟩, ⟨by (with_reducible repeat (first | refine blk_drewN ?_ _ | refine blk_drew ?_ | refine blk_alloc ?_ _)); exact BK101.out⟩, ⟨by repeat (first | (with_reducible first | exact HB.out | apply below_alloc | apply pw_below_drewN | apply below_drew1 | refine below_set ?_ GE101.out) | exact HB.out)⟩⟩
    ·replace c14 := Bool.eq_false_iff.mpr c14
     subst c14
     have H1 : (hatchwaylaw09_RlpCuts.j0 k a1 a2 true a0_0 a0_1 l0_2) = some r := by rw [if_neg (show ¬ (false = true) by decide)] at H; exact H
     clear H
     have H := H1
     clear H1
     have H' := Aside0.mk H
     clear H
     have hcz19_0 : w8.cell? ⟨gb101, 0, none⟩ = some (.string a0_0) := (blk_cell BK101.out 0).trans rfl
     have hcz19_1 : w8.cell? ⟨gb101, 1, none⟩ = some (.bool a0_1) := (blk_cell BK101.out 1).trans rfl
     have hcz19_2 : w8.cell? ⟨gb101, 2, none⟩ = some (.slice A0_2 l0_2.length c0_2) := (blk_cell BK101.out 2).trans rfl
     have hfz19_0 := blk_frozen BK101.out 0
     have hfz19_1 := blk_frozen BK101.out 1
     have hfz19_2 := blk_frozen BK101.out 2
     go_wp2_with (first | ((with_reducible refine gate_callee (f := 35) rfl ?_); refine goesL_ (some 19) rfl rfl Try.func35 (by kernel_rfl) rfl #[.agg #[.string a0_0, .bool a0_1, .slice A0_2 l0_2.length c0_2]] rfl (by (try simp only [List.map_toArray, List.map_cons, List.map_nil]); first | done | rfl | (simp only [List.length_drop, List.length_take]; rfl)) ?_; (with_reducible refine (hatchwaylaw08_Great.calls k a0_0 a0_1 _ _ l0_2 false _ ?side1 ?side2 A9.out).mono ?_); (case side1 => repeat (first | exact (Kd.C_below HR0_2.out HB.out) | (with_reducible refine Kd.C_alloc ?_ _) | (with_reducible refine Kd.C_drewN ?_ _) | (with_reducible refine Kd.C_drew ?_))); (case side2 => exact HC0_2.out); rintro e w20 ⟨rfl, hb⟩; refine ⟨_, rfl, ?_⟩; have n0_ := Aside0.mk (blk_below (g := gb101) (o := .cells #[.string a0_0, .bool a0_1, .slice A0_2 l0_2.length c0_2] 62 (0, 0)) (by (with_reducible repeat (first | refine blk_drewN ?_ _ | refine blk_drew ?_ | refine blk_alloc ?_ _)); exact BK101.out) hb); have n1_ := Aside0.mk (below_step (by repeat (first | (with_reducible first | exact HB.out | apply below_alloc | apply pw_below_drewN | apply below_drew1 | refine below_set ?_ GE101.out) | exact HB.out)) hb); clear BK101; clear HB; have BK101 := n0_; have HB := n1_; clear n0_ n1_; (try clear hb); (try clear hb2); (try clear hk); (try clear hi); have hcz21_0 : w20.cell? ⟨gb101, 0, none⟩ = some (.string a0_0) := (blk_cell BK101.out 0).trans rfl; have hcz21_1 : w20.cell? ⟨gb101, 1, none⟩ = some (.bool a0_1) := (blk_cell BK101.out 1).trans rfl; have hcz21_2 : w20.cell? ⟨gb101, 2, none⟩ = some (.slice A0_2 l0_2.length c0_2) := (blk_cell BK101.out 2).trans rfl; have hfz21_0 := blk_frozen BK101.out 0; have hfz21_1 := blk_frozen BK101.out 1; have hfz21_2 := blk_frozen BK101.out 2) | (go_at_call 37; (with_reducible refine (hatchwayref08_May.calls k a0_0 a0_1 _ _ l0_2 false _ ?side1 ?side2 A13.out).mono ?_); (case side1 => repeat (first | exact (Kd.C_below HR0_2.out HB.out) | (with_reducible refine Kd.C_alloc ?_ _) | (with_reducible refine Kd.C_drewN ?_ _) | (with_reducible refine Kd.C_drew ?_))); (case side2 => exact HC0_2.out); rintro e w22 ⟨rfl, hb⟩; have n0_ := Aside0.mk (blk_below (g := gb101) (o := .cells #[.string a0_0, .bool a0_1, .slice A0_2 l0_2.length c0_2] 62 (0, 0)) (by (with_reducible repeat (first | refine blk_drewN ?_ _ | refine blk_drew ?_ | refine blk_alloc ?_ _)); exact BK101.out) hb); have n1_ := Aside0.mk (below_step (by repeat (first | (with_reducible first | exact HB.out | apply below_alloc | apply pw_below_drewN | apply below_drew1 | refine below_set ?_ GE101.out) | exact HB.out)) hb); clear BK101; clear HB; have BK101 := n0_; have HB := n1_; clear n0_ n1_; (try clear hb); (try clear hb2); (try clear hk); (try clear hi)))
     go_meet
     case rel => exact ⟨_, (true), (by first | rfl | (simp; done) | (simp [*]; done)), H', ⟨by first | omega | exact Nat.le_refl _⟩, ⟨by (with_reducible repeat (first | refine blk_drewN ?_ _ | refine blk_drew ?_ | refine blk_alloc ?_ _)); exact BK101.out⟩, ⟨by repeat (first | (with_reducible first | exact HB.out | apply below_alloc | apply pw_below_drewN | apply below_drew1 | refine below_set ?_ GE101.out) | exact HB.out)⟩⟩
  case rest =>
   clear HC6
   try clear c1
   try clear p2
   try clear c3
   try clear c4
   try clear c5
   try clear c10
   try clear c14
   try clear hcz11_0
   try clear hcz11_1
   try clear hcz11_2
   try clear hcz15_0
   try clear hcz15_1
   try clear hcz15_2
   try clear hcz17_0
   try clear hcz17_1
   try clear hcz17_2
   try clear hcz19_0
   try clear hcz19_1
   try clear hcz19_2
   try clear hcz21_0
   try clear hcz21_1
   try clear hcz21_2
   try clear hfz11_0
   try clear hfz11_1
   try clear hfz11_2
   try clear hfz15_0
   try clear hfz15_1
   try clear hfz15_2
   try clear hfz17_0
   try clear hfz17_1
   try clear hfz17_2
   try clear hfz19_0
   try clear hfz19_1
   try clear hfz19_2
   try clear hfz21_0
   try clear hfz21_1
   try clear hfz21_2
   obtain ⟨kq, x29_5, rfl, HA, HJ5, BK101, HB⟩ := hcut
   cases kq with
   | zero => exact absurd HA.out (by simp [hatchwaylaw09_RlpCuts.j0])
   | succ kj5 =>
    have H := HA.out
    clear HA
    simp only [hatchwaylaw09_RlpCuts.j0] at H
    by_cases c23 : x29_5 = true
    ·subst c23
     have H1 : (some true) = some r := by rw [if_pos rfl] at H; exact H
     clear H
     have H := H1
     clear H1
     obtain rfl := Option.some.inj H
     go_wp2
     go_ret
     exact ⟨by first | rfl | (simp [errW_none, errW_some] <;> rfl) | (simp [*, errW_none, errW_some] <;> rfl), by repeat (first | (with_reducible first | exact HB.out | apply below_alloc | apply pw_below_drewN | apply below_drew1 | refine below_set ?_ GE101.out) | exact HB.out)⟩
    ·replace c23 := Bool.eq_false_iff.mpr c23
     subst c23
     have H1 : ((hatchwayref09_Put.f kj5 a0_0 a0_1 l0_2).bind fun t105 => (if (t105.size : Int) = 0 then (none) else (if 0 ≤ (Int.tmod (wrap64 (a1)) (t105.size : Int)) then (if (Int.tmod (wrap64 (a1)) (t105.size : Int)) ≤ (t105.size : Int) then ((rlp_Next.f (t105.extract 0 ((Int.tmod (wrap64 (a1)) (t105.size : Int)) : Int).toNat) 16 1024).bind fun bt106 => (if t105.size + a2.size ≤ 9223372036854775807 then ((rlp_Next.f (t105 ++ a2) 16 1024).bind fun bt114 => ((rlp_Get.f (t105 ++ a2) 16 1024).bind fun bt122 => (if bt106.2.2.2.2 = 2 then (if bt106.2.2.2.1 = 0 then (if bt114.2.2.2.2 = 0 then (if bt114.2.2.2.1 = (t105.size : Int) then ((hatchwayref08_Same.f kj5 a0_0 a0_1 l0_2 bt114.1 bt114.2.1 bt114.2.2.1).bind fun t129 => (if t129 = true then (if ((bt122.2.2.2 == 0) == (a2.toList == ([] : List UInt8))) = true then (if a2.toList = ([] : List UInt8) then (some true) else (some (bt122.2.2.2 == 3))) else (some false)) else (some false))) else (some false)) else (some false)) else (some false)) else (some false)))) else (none))) else (none)) else (none)))) = some r := by rw [if_neg (show ¬ (false = true) by decide)] at H; exact H
     clear H
     have H := H1
     clear H1
     replace H := Option.bind_eq_some_iff.mp H
     obtain ⟨t105, A240, H⟩ := H
     replace H : (if (t105.size : Int) = 0 then (none) else (if 0 ≤ (Int.tmod (wrap64 (a1)) (t105.size : Int)) then (if (Int.tmod (wrap64 (a1)) (t105.size : Int)) ≤ (t105.size : Int) then ((rlp_Next.f (t105.extract 0 ((Int.tmod (wrap64 (a1)) (t105.size : Int)) : Int).toNat) 16 1024).bind fun bt106 => (if t105.size + a2.size ≤ 9223372036854775807 then ((rlp_Next.f (t105 ++ a2) 16 1024).bind fun bt114 => ((rlp_Get.f (t105 ++ a2) 16 1024).bind fun bt122 => (if bt106.2.2.2.2 = 2 then (if bt106.2.2.2.1 = 0 then (if bt114.2.2.2.2 = 0 then (if bt114.2.2.2.1 = (t105.size : Int) then ((hatchwayref08_Same.f kj5 a0_0 a0_1 l0_2 bt114.1 bt114.2.1 bt114.2.2.1).bind fun t129 => (if t129 = true then (if ((bt122.2.2.2 == 0) == (a2.toList == ([] : List UInt8))) = true then (if a2.toList = ([] : List UInt8) then (some true) else (some (bt122.2.2.2 == 3))) else (some false)) else (some false))) else (some false)) else (some false)) else (some false)) else (some false)))) else (none))) else (none)) else (none))) = some r := H
     have A24 := Aside0.mk A240
     clear A240
     by_cases c25 : (t105.size : Int) = 0
     ·rw [if_pos c25] at H
      exact absurd H (by simp)
     ·rw [if_neg c25] at H
      have c25b0 : ((t105.size : Int) == 0) = false := beq_eq_false_iff_ne.mpr c25
      have c25b1 : ((t105.size : Int) != 0) = true := bne_iff_ne.mpr c25
      obtain ⟨ji26, hji26⟩ : ∃ j_ : Int, (Int.tmod (wrap64 (a1)) (t105.size : Int)) = j_ := ⟨_, rfl⟩
      replace H : (if 0 ≤ (ji26) then (if (ji26) ≤ (t105.size : Int) then ((rlp_Next.f (t105.extract 0 ((ji26) : Int).toNat) 16 1024).bind fun bt106 => (if t105.size + a2.size ≤ 9223372036854775807 then ((rlp_Next.f (t105 ++ a2) 16 1024).bind fun bt114 => ((rlp_Get.f (t105 ++ a2) 16 1024).bind fun bt122 => (if bt106.2.2.2.2 = 2 then (if bt106.2.2.2.1 = 0 then (if bt114.2.2.2.2 = 0 then (if bt114.2.2.2.1 = (t105.size : Int) then ((hatchwayref08_Same.f kj5 a0_0 a0_1 l0_2 bt114.1 bt114.2.1 bt114.2.2.1).bind fun t129 => (if t129 = true then (if ((bt122.2.2.2 == 0) == (a2.toList == ([] : List UInt8))) = true then (if a2.toList = ([] : List UInt8) then (some true) else (some (bt122.2.2.2 == 3))) else (some false)) else (some false))) else (some false)) else (some false)) else (some false)) else (some false)))) else (none))) else (none)) else (none)) = some r := by first | (rw [hji26] at H; exact H) | (simp only [hji26] at H ⊢; exact H)
      (try rw [hji26] at A24)
      by_cases c27 : 0 ≤ (ji26)
      ·rw [if_pos c27] at H
       have c27b0 := eq_true c27
       have c27b1 : decide (0 ≤ (ji26)) = true := decide_eq_true c27
       clear c27
       by_cases c28 : (ji26) ≤ (t105.size : Int)
       ·rw [if_pos c28] at H
        have c28b0 := eq_true c28
        have c28b1 : decide ((ji26) ≤ (t105.size : Int)) = true := decide_eq_true c28
        clear c28
        replace H := Option.bind_eq_some_iff.mp H
        obtain ⟨⟨t106, t107, t108, t111, t112⟩, A290, H⟩ := H
        replace H : (if t105.size + a2.size ≤ 9223372036854775807 then ((rlp_Next.f (t105 ++ a2) 16 1024).bind fun bt114 => ((rlp_Get.f (t105 ++ a2) 16 1024).bind fun bt122 => (if t112 = 2 then (if t111 = 0 then (if bt114.2.2.2.2 = 0 then (if bt114.2.2.2.1 = (t105.size : Int) then ((hatchwayref08_Same.f kj5 a0_0 a0_1 l0_2 bt114.1 bt114.2.1 bt114.2.2.1).bind fun t129 => (if t129 = true then (if ((bt122.2.2.2 == 0) == (a2.toList == ([] : List UInt8))) = true then (if a2.toList = ([] : List UInt8) then (some true) else (some (bt122.2.2.2 == 3))) else (some false)) else (some false))) else (some false)) else (some false)) else (some false)) else (some false)))) else (none)) = some r := H
        have A29 := Aside0.mk A290
        clear A290
        by_cases c30 : t105.size + a2.size ≤ 9223372036854775807
        ·rw [if_pos c30] at H
         have c30b0 := eq_true c30
         have c30b1 : decide (t105.size + a2.size ≤ 9223372036854775807) = true := decide_eq_true c30
         try have c30b2 : (9223372036854775807 < t105.size + a2.size) = False := eq_false (Nat.not_lt.2 c30)
         replace H := Option.bind_eq_some_iff.mp H
         obtain ⟨⟨t114, t115, t116, t119, t120⟩, A310, H⟩ := H
         replace H : ((rlp_Get.f (t105 ++ a2) 16 1024).bind fun bt122 => (if t112 = 2 then (if t111 = 0 then (if t120 = 0 then (if t119 = (t105.size : Int) then ((hatchwayref08_Same.f kj5 a0_0 a0_1 l0_2 t114 t115 t116).bind fun t129 => (if t129 = true then (if ((bt122.2.2.2 == 0) == (a2.toList == ([] : List UInt8))) = true then (if a2.toList = ([] : List UInt8) then (some true) else (some (bt122.2.2.2 == 3))) else (some false)) else (some false))) else (some false)) else (some false)) else (some false)) else (some false))) = some r := H
         have A31 := Aside0.mk A310
         clear A310
         replace H := Option.bind_eq_some_iff.mp H
         obtain ⟨⟨t122, t123, t124, t127⟩, A320, H⟩ := H
         replace H : (if t112 = 2 then (if t111 = 0 then (if t120 = 0 then (if t119 = (t105.size : Int) then ((hatchwayref08_Same.f kj5 a0_0 a0_1 l0_2 t114 t115 t116).bind fun t129 => (if t129 = true then (if ((t127 == 0) == (a2.toList == ([] : List UInt8))) = true then (if a2.toList = ([] : List UInt8) then (some true) else (some (t127 == 3))) else (some false)) else (some false))) else (some false)) else (some false)) else (some false)) else (some false)) = some r := H
         have A32 := Aside0.mk A320
         clear A320
         by_cases c33 : t112 = 2
         ·rw [if_pos c33] at H
          have c33b0 : (t112 == 2) = true := beq_iff_eq.mpr c33
          have c33b1 : (t112 != 2) = false := bne_eq_false_iff_eq.mpr c33
          clear c33
          by_cases c34 : t111 = 0
          ·rw [if_pos c34] at H
           have c34b0 : (t111 == 0) = true := beq_iff_eq.mpr c34
           have c34b1 : (t111 != 0) = false := bne_eq_false_iff_eq.mpr c34
           clear c34
           by_cases c35 : t120 = 0
           ·rw [if_pos c35] at H
            have c35b0 : (t120 == 0) = true := beq_iff_eq.mpr c35
            have c35b1 : (t120 != 0) = false := bne_eq_false_iff_eq.mpr c35
            clear c35
            by_cases c36 : t119 = (t105.size : Int)
            ·rw [if_pos c36] at H
             have c36b0 : (t119 == (t105.size : Int)) = true := beq_iff_eq.mpr c36
             have c36b1 : (t119 != (t105.size : Int)) = false := bne_eq_false_iff_eq.mpr c36
             clear c36
             replace H := Option.bind_eq_some_iff.mp H
             obtain ⟨t129, A370, H⟩ := H
             replace H : (if t129 = true then (if ((t127 == 0) == (a2.toList == ([] : List UInt8))) = true then (if a2.toList = ([] : List UInt8) then (some true) else (some (t127 == 3))) else (some false)) else (some false)) = some r := H
             have A37 := Aside0.mk A370
             clear A370
             by_cases c38 : t129 = true
             ·subst c38
              have H1 : (if ((t127 == 0) == (a2.toList == ([] : List UInt8))) = true then (if a2.toList = ([] : List UInt8) then (some true) else (some (t127 == 3))) else (some false)) = some r := by rw [if_pos rfl] at H; exact H
              clear H
              have H := H1
              clear H1
              by_cases c39 : ((t127 == 0) == (a2.toList == ([] : List UInt8))) = true
              ·rw [if_pos c39] at H
               have c39b0 : ((t127 == 0) == (a2.toList == ([] : List UInt8))) = true := c39
               (try (have c39b1 : decide ((t127 == 0) = (a2.toList == ([] : List UInt8))) = true := by simpa using c39))
               (try (have c39b2 : ((t127 == 0) == (a2.toList == ([] : List UInt8))) = true := by simpa using c39))
               clear c39
               by_cases c40 : a2.toList = ([] : List UInt8)
               ·rw [if_pos c40] at H
                have c40b0 : (a2.toList == ([] : List UInt8)) = true := beq_iff_eq.mpr c40
                have c40b1 : (a2.toList != ([] : List UInt8)) = false := bne_eq_false_iff_eq.mpr c40
                clear c40
                have c39z : (t127 == 0) = true := by simpa [c40b0] using c39b0
                obtain rfl := Option.some.inj H
                have hcz41_0 : wc.cell? ⟨gb101, 0, none⟩ = some (.string a0_0) := (blk_cell BK101.out 0).trans rfl
                have hcz41_1 : wc.cell? ⟨gb101, 1, none⟩ = some (.bool a0_1) := (blk_cell BK101.out 1).trans rfl
                have hcz41_2 : wc.cell? ⟨gb101, 2, none⟩ = some (.slice A0_2 l0_2.length c0_2) := (blk_cell BK101.out 2).trans rfl
                have hfz41_0 := blk_frozen BK101.out 0
                have hfz41_1 := blk_frozen BK101.out 1
                have hfz41_2 := blk_frozen BK101.out 2
                go_wp2_with (first | ((with_reducible refine gate_callee (f := 45) rfl ?_); refine goesL_ (some 31) rfl rfl Try.func45 (by kernel_rfl) rfl #[.agg #[.string a0_0, .bool a0_1, .slice A0_2 l0_2.length c0_2]] rfl (by (try simp only [List.map_toArray, List.map_cons, List.map_nil]); first | done | rfl | (simp only [List.length_drop, List.length_take]; rfl)) ?_; (with_reducible refine (hatchwayref09_Put.calls kj5 a0_0 a0_1 _ _ l0_2 t105 _ ?side1 ?side2 A24.out).mono ?_); (case side1 => repeat (first | exact (Kd.C_below HR0_2.out HB.out) | (with_reducible refine Kd.C_alloc ?_ _) | (with_reducible refine Kd.C_drewN ?_ _) | (with_reducible refine Kd.C_drew ?_))); (case side2 => exact HC0_2.out); rintro e w42 ⟨rfl, hb⟩; refine ⟨_, rfl, ?_⟩; have n0_ := Aside0.mk (blk_below (g := gb101) (o := .cells #[.string a0_0, .bool a0_1, .slice A0_2 l0_2.length c0_2] 62 (0, 0)) (by (with_reducible repeat (first | refine blk_drewN ?_ _ | refine blk_drew ?_ | refine blk_alloc ?_ _)); exact BK101.out) hb); have n1_ := Aside0.mk (below_step (by repeat (first | (with_reducible first | exact HB.out | apply below_alloc | apply pw_below_drewN | apply below_drew1 | refine below_set ?_ GE101.out) | exact HB.out)) hb); clear BK101; clear HB; have BK101 := n0_; have HB := n1_; clear n0_ n1_; (try clear hb); (try clear hb2); (try clear hk); (try clear hi)) | ((with_reducible refine gate_callee (f := 53) rfl ?_); refine goesL_ (some 40) rfl rfl Try.func53 (by kernel_rfl) rfl #[.string (t105.extract 0 ((ji26) : Int).toNat), .int .i64 16, .int .i64 1024] rfl (by (try simp only [List.map_toArray, List.map_cons, List.map_nil]); first | done | (simp only [hji26]; rfl) | rfl | (simp only [List.length_drop, List.length_take]; rfl)) ?_; (with_reducible refine (rlp_Next.calls (t105.extract 0 ((ji26) : Int).toNat) 16 1024 t106 t107 t108 t111 t112 _ A29.out).mono ?_); rintro e w43 ⟨v109, rfl, ho0, hb⟩; refine ⟨_, rfl, ?_⟩; have n0_ := Aside0.mk (Kd.R_lower (Kd.R_newB ho0 (g := gb101) (o := .cells #[.string a0_0, .bool a0_1, .slice A0_2 l0_2.length c0_2] 62 (0, 0)) (by (with_reducible repeat (first | refine blk_drewN ?_ _ | refine blk_drew ?_ | refine blk_alloc ?_ _)); exact BK101.out)) (below_size (by repeat (first | (with_reducible first | exact HB.out | apply below_alloc | apply pw_below_drewN | apply below_drew1 | refine below_set ?_ GE101.out) | exact HB.out)))); have n1_ := Aside0.mk (blk_below (g := gb101) (o := .cells #[.string a0_0, .bool a0_1, .slice A0_2 l0_2.length c0_2] 62 (0, 0)) (by (with_reducible repeat (first | refine blk_drewN ?_ _ | refine blk_drew ?_ | refine blk_alloc ?_ _)); exact BK101.out) hb); have n2_ := Aside0.mk (below_step (by repeat (first | (with_reducible first | exact HB.out | apply below_alloc | apply pw_below_drewN | apply below_drew1 | refine below_set ?_ GE101.out) | exact HB.out)) hb); clear BK101; clear HB; have HO110 := n0_; have BK101 := n1_; have HB := n2_; clear n0_ n1_ n2_; (try clear hb); (try clear hb2); (try clear hk); (try clear hi); (try clear ho0)) | ((with_reducible refine gate_dst (N := 8) rfl ?_); (try (refine gate_guard (by rfl) ?_; dsimp only)); refine box_event ?hg (N := 8) ?hd (cs := #[.string (⟨#[]⟩ : ByteArray), .bool false, .slice none 0 0]) (t := 62) ?hr ?_; (case hd => rfl); (case hg => rfl); (case hr => first | (go_simp; done) | (go_simp; rfl)); intro gb113 hg w44 hbox hb; have n0_ := Aside0.mk (Kd.R_below (Kd.R_elderB (by (with_reducible repeat (first | apply Kd.R_alloc | apply Kd.R_drewN | apply Kd.R_drew)); exact HO110.out) gb113 (Nat.le_of_eq hg.symm)) hb); have n1_ := Aside0.mk (blk_below (g := gb101) (o := .cells #[.string a0_0, .bool a0_1, .slice A0_2 l0_2.length c0_2] 62 (0, 0)) (by (with_reducible repeat (first | refine blk_drewN ?_ _ | refine blk_drew ?_ | refine blk_alloc ?_ _)); exact BK101.out) hb); have n2_ := Aside0.mk (below_step (by repeat (first | (with_reducible first | exact HB.out | apply below_alloc | apply pw_below_drewN | apply below_drew1 | refine below_set ?_ GE101.out) | exact HB.out)) hb); have n3_ := Aside0.mk (hbox); have n4_ := Aside0.mk ((by rw [hg]; exact (below_size (by repeat (first | (with_reducible first | exact HB.out | apply below_alloc | apply pw_below_drewN | apply below_drew1 | refine below_set ?_ GE101.out) | exact HB.out))) : w.heap.size ≤ gb113)); have n5_ := Aside0.mk ((by rw [hg]; exact (below_size (by repeat (first | (with_reducible first | exact HB.out | apply below_alloc | apply pw_below_drewN | apply below_drew1 | refine below_set ?_ GE101.out) | exact HB.out))) : w.heap.size ≤ gb113)); have n6_ := Aside0.mk ((by rw [hg]; exact Nat.ne_of_lt (blk_lt (g := gb101) (o := .cells #[.string a0_0, .bool a0_1, .slice A0_2 l0_2.length c0_2] 62 (0, 0)) (by (with_reducible repeat (first | refine blk_drewN ?_ _ | refine blk_drew ?_ | refine blk_alloc ?_ _)); exact BK101.out)) : gb101 ≠ gb113)); have n7_ := Aside0.mk ((by rw [hg]; exact Nat.ne_of_gt (blk_lt (g := gb101) (o := .cells #[.string a0_0, .bool a0_1, .slice A0_2 l0_2.length c0_2] 62 (0, 0)) (by (with_reducible repeat (first | refine blk_drewN ?_ _ | refine blk_drew ?_ | refine blk_alloc ?_ _)); exact BK101.out)) : gb113 ≠ gb101)); clear HO110; clear BK101; clear HB; have HO110 := n0_; have BK101 := n1_; have HB := n2_; have BK113 := n3_; have GW113 := n4_; have GE113 := n5_; have NB101_113 := n6_; have NB113_101 := n7_; clear n0_ n1_ n2_ n3_ n4_ n5_ n6_ n7_; clear hb hbox hg; have hnb45 := NB113_101.out; have hnc45 := NB101_113.out; have hcz46_0 : w44.cell? ⟨gb113, 0, none⟩ = some (.string (⟨#[]⟩ : ByteArray)) := (blk_cell BK113.out 0).trans rfl; have hcz46_1 : w44.cell? ⟨gb113, 1, none⟩ = some (.bool false) := (blk_cell BK113.out 1).trans rfl; have hcz46_2 : w44.cell? ⟨gb113, 2, none⟩ = some (.slice none 0 0) := (blk_cell BK113.out 2).trans rfl; have hfz46_0 := blk_frozen BK113.out 0; have hfz46_1 := blk_frozen BK113.out 1; have hfz46_2 := blk_frozen BK113.out 2; obtain ⟨Ao47, co47, eo47⟩ := Kd.R_slice HO110.out; subst eo47) | ((with_reducible refine gate_callee (f := 53) rfl ?_); refine goesL_ (some 48) rfl rfl Try.func53 (by kernel_rfl) rfl #[.string (t105 ++ a2), .int .i64 16, .int .i64 1024] rfl (by (try simp only [List.map_toArray, List.map_cons, List.map_nil]); first | done | rfl | (simp only [List.length_drop, List.length_take]; rfl)) ?_; (with_reducible refine (rlp_Next.calls (t105 ++ a2) 16 1024 t114 t115 t116 t119 t120 _ A31.out).mono ?_); rintro e w48 ⟨v117, rfl, ho0, hb⟩; refine ⟨_, rfl, ?_⟩; have n0_ := Aside0.mk (Kd.R_elder' (by (with_reducible repeat (first | apply Kd.R_alloc | apply Kd.R_drewN | apply Kd.R_drew)); exact (Kd.R_mono (Kd.R_far (p := ⟨gb113, 2, none⟩) (Kd.R_far (p := ⟨gb113, 1, none⟩) (Kd.R_far (p := ⟨gb113, 0, none⟩) (Kd.R_mono HO110.out (fun k_ hk => (⟨hk, hk.2⟩ : _ ∧ k_ ≠ gb113))) (fun _ hk => hk.2) (.string t106)) (fun _ hk => hk.2) (.bool t107)) (fun _ hk => hk.2) (.slice Ao47 t108.length co47)) (fun _ h_ => h_.1))) (Kd.R_base ho0) hb); have n1_ := Aside0.mk (Kd.R_lower (Kd.R_newB (Kd.R_newB (Kd.R_new' ho0 (Kd.R_lt (by (with_reducible repeat (first | apply Kd.R_alloc | apply Kd.R_drewN | apply Kd.R_drew)); exact (Kd.R_mono (Kd.R_far (p := ⟨gb113, 2, none⟩) (Kd.R_far (p := ⟨gb113, 1, none⟩) (Kd.R_far (p := ⟨gb113, 0, none⟩) (Kd.R_mono HO110.out (fun k_ hk => (⟨hk, hk.2⟩ : _ ∧ k_ ≠ gb113))) (fun _ hk => hk.2) (.string t106)) (fun _ hk => hk.2) (.bool t107)) (fun _ hk => hk.2) (.slice Ao47 t108.length co47)) (fun _ h_ => h_.1))))) (g := gb101) (o := .cells #[.string a0_0, .bool a0_1, .slice A0_2 l0_2.length c0_2] 62 (0, 0)) (by (with_reducible repeat (first | refine blk_drewN ?_ _ | refine blk_drew ?_ | refine blk_alloc ?_ _)); refine blk_far ?_ NB101_113.out _; (with_reducible repeat (first | refine blk_drewN ?_ _ | refine blk_drew ?_ | refine blk_alloc ?_ _)); refine blk_far ?_ NB101_113.out _; (with_reducible repeat (first | refine blk_drewN ?_ _ | refine blk_drew ?_ | refine blk_alloc ?_ _)); refine blk_far ?_ NB101_113.out _; (with_reducible repeat (first | refine blk_drewN ?_ _ | refine blk_drew ?_ | refine blk_alloc ?_ _)); exact BK101.out)) (g := gb113) (o := .cells #[.string t106, .bool t107, .slice Ao47 t108.length co47] 62 (0, 0)) (by (with_reducible repeat (first | refine blk_drewN ?_ _ | refine blk_drew ?_ | refine blk_alloc ?_ _)); refine blk_put (cs := #[.string t106, .bool t107, .slice none 0 0]) ?_ 2 _ rfl; (with_reducible repeat (first | refine blk_drewN ?_ _ | refine blk_drew ?_ | refine blk_alloc ?_ _)); refine blk_put (cs := #[.string t106, .bool false, .slice none 0 0]) ?_ 1 _ rfl; (with_reducible repeat (first | refine blk_drewN ?_ _ | refine blk_drew ?_ | refine blk_alloc ?_ _)); refine blk_put (cs := #[.string (⟨#[]⟩ : ByteArray), .bool false, .slice none 0 0]) ?_ 0 _ rfl; (with_reducible repeat (first | refine blk_drewN ?_ _ | refine blk_drew ?_ | refine blk_alloc ?_ _)); exact BK113.out)) (below_size (by repeat (first | (with_reducible first | exact HB.out | apply below_alloc | apply pw_below_drewN | apply below_drew1 | refine below_set ?_ GE101.out | refine below_set ?_ GE113.out) | exact HB.out)))); have n2_ := Aside0.mk (blk_below (g := gb101) (o := .cells #[.string a0_0, .bool a0_1, .slice A0_2 l0_2.length c0_2] 62 (0, 0)) (by (with_reducible repeat (first | refine blk_drewN ?_ _ | refine blk_drew ?_ | refine blk_alloc ?_ _)); refine blk_far ?_ NB101_113.out _; (with_reducible repeat (first | refine blk_drewN ?_ _ | refine blk_drew ?_ | refine blk_alloc ?_ _)); refine blk_far ?_ NB101_113.out _; (with_reducible repeat (first | refine blk_drewN ?_ _ | refine blk_drew ?_ | refine blk_alloc ?_ _)); refine blk_far ?_ NB101_113.out _; (with_reducible repeat (first | refine blk_drewN ?_ _ | refine blk_drew ?_ | refine blk_alloc ?_ _)); exact BK101.out) hb); have n3_ := Aside0.mk (blk_below (g := gb113) (o := .cells #[.string t106, .bool t107, .slice Ao47 t108.length co47] 62 (0, 0)) (by (with_reducible repeat (first | refine blk_drewN ?_ _ | refine blk_drew ?_ | refine blk_alloc ?_ _)); refine blk_put (cs := #[.string t106, .bool t107, .slice none 0 0]) ?_ 2 _ rfl; (with_reducible repeat (first | refine blk_drewN ?_ _ | refine blk_drew ?_ | refine blk_alloc ?_ _)); refine blk_put (cs := #[.string t106, .bool false, .slice none 0 0]) ?_ 1 _ rfl; (with_reducible repeat (first | refine blk_drewN ?_ _ | refine blk_drew ?_ | refine blk_alloc ?_ _)); refine blk_put (cs := #[.string (⟨#[]⟩ : ByteArray), .bool false, .slice none 0 0]) ?_ 0 _ rfl; (with_reducible repeat (first | refine blk_drewN ?_ _ | refine blk_drew ?_ | refine blk_alloc ?_ _)); exact BK113.out) hb); have n4_ := Aside0.mk (below_step (by repeat (first | (with_reducible first | exact HB.out | apply below_alloc | apply pw_below_drewN | apply below_drew1 | refine below_set ?_ GE101.out | refine below_set ?_ GE113.out) | exact HB.out)) hb); clear HO110; clear BK101; clear BK113; clear HB; have HO110 := n0_; have HO118 := n1_; have BK101 := n2_; have BK113 := n3_; have HB := n4_; clear n0_ n1_ n2_ n3_ n4_; (try clear hb); (try clear hb2); (try clear hk); (try clear hi); (try clear ho0)) | ((with_reducible refine gate_dst (N := 11) rfl ?_); (try (refine gate_guard (by rfl) ?_; dsimp only)); refine box_event ?hg (N := 11) ?hd (cs := #[.string (⟨#[]⟩ : ByteArray), .bool false, .slice none 0 0]) (t := 62) ?hr ?_; (case hd => rfl); (case hg => rfl); (case hr => first | (go_simp; done) | (go_simp; rfl)); intro gb121 hg w49 hbox hb; have n0_ := Aside0.mk (Kd.R_below (Kd.R_elderB (by (with_reducible repeat (first | apply Kd.R_alloc | apply Kd.R_drewN | apply Kd.R_drew)); exact HO110.out) gb121 (Nat.le_of_eq hg.symm)) hb); have n1_ := Aside0.mk (Kd.R_below (Kd.R_elderB (by (with_reducible repeat (first | apply Kd.R_alloc | apply Kd.R_drewN | apply Kd.R_drew)); exact HO118.out) gb121 (Nat.le_of_eq hg.symm)) hb); have n2_ := Aside0.mk (blk_below (g := gb101) (o := .cells #[.string a0_0, .bool a0_1, .slice A0_2 l0_2.length c0_2] 62 (0, 0)) (by (with_reducible repeat (first | refine blk_drewN ?_ _ | refine blk_drew ?_ | refine blk_alloc ?_ _)); exact BK101.out) hb); have n3_ := Aside0.mk (blk_below (g := gb113) (o := .cells #[.string t106, .bool t107, .slice Ao47 t108.length co47] 62 (0, 0)) (by (with_reducible repeat (first | refine blk_drewN ?_ _ | refine blk_drew ?_ | refine blk_alloc ?_ _)); exact BK113.out) hb); have n4_ := Aside0.mk (below_step (by repeat (first | (with_reducible first | exact HB.out | apply below_alloc | apply pw_below_drewN | apply below_drew1 | refine below_set ?_ GE101.out | refine below_set ?_ GE113.out) | exact HB.out)) hb); have n5_ := Aside0.mk (hbox); have n6_ := Aside0.mk ((by rw [hg]; exact (below_size (by repeat (first | (with_reducible first | exact HB.out | apply below_alloc | apply pw_below_drewN | apply below_drew1 | refine below_set ?_ GE101.out | refine below_set ?_ GE113.out) | exact HB.out))) : w.heap.size ≤ gb121)); have n7_ := Aside0.mk ((by rw [hg]; exact (below_size (by repeat (first | (with_reducible first | exact HB.out | apply below_alloc | apply pw_below_drewN | apply below_drew1 | refine below_set ?_ GE101.out | refine below_set ?_ GE113.out) | exact HB.out))) : w.heap.size ≤ gb121)); have n8_ := Aside0.mk ((by rw [hg]; exact Nat.ne_of_lt (blk_lt (g := gb101) (o := .cells #[.string a0_0, .bool a0_1, .slice A0_2 l0_2.length c0_2] 62 (0, 0)) (by (with_reducible repeat (first | refine blk_drewN ?_ _ | refine blk_drew ?_ | refine blk_alloc ?_ _)); exact BK101.out)) : gb101 ≠ gb121)); have n9_ := Aside0.mk ((by rw [hg]; exact Nat.ne_of_gt (blk_lt (g := gb101) (o := .cells #[.string a0_0, .bool a0_1, .slice A0_2 l0_2.length c0_2] 62 (0, 0)) (by (with_reducible repeat (first | refine blk_drewN ?_ _ | refine blk_drew ?_ | refine blk_alloc ?_ _)); exact BK101.out)) : gb121 ≠ gb101)); have n10_ := Aside0.mk ((by rw [hg]; exact Nat.ne_of_lt (blk_lt (g := gb113) (o := .cells #[.string t106, .bool t107, .slice Ao47 t108.length co47] 62 (0, 0)) (by (with_reducible repeat (first | refine blk_drewN ?_ _ | refine blk_drew ?_ | refine blk_alloc ?_ _)); exact BK113.out)) : gb113 ≠ gb121)); have n11_ := Aside0.mk ((by rw [hg]; exact Nat.ne_of_gt (blk_lt (g := gb113) (o := .cells #[.string t106, .bool t107, .slice Ao47 t108.length co47] 62 (0, 0)) (by (with_reducible repeat (first | refine blk_drewN ?_ _ | refine blk_drew ?_ | refine blk_alloc ?_ _)); exact BK113.out)) : gb121 ≠ gb113)); clear HO110; clear HO118; clear BK101; clear BK113; clear HB; have HO110 := n0_; have HO118 := n1_; have BK101 := n2_; have BK113 := n3_; have HB := n4_; have BK121 := n5_; have GW121 := n6_; have GE121 := n7_; have NB101_121 := n8_; have NB121_101 := n9_; have NB113_121 := n10_; have NB121_113 := n11_; clear n0_ n1_ n2_ n3_ n4_ n5_ n6_ n7_ n8_ n9_ n10_ n11_; clear hb hbox hg; have hnb50 := NB121_101.out; have hnc50 := NB101_121.out; have hnb51 := NB121_113.out; have hnc51 := NB113_121.out; have hcz52_0 : w49.cell? ⟨gb121, 0, none⟩ = some (.string (⟨#[]⟩ : ByteArray)) := (blk_cell BK121.out 0).trans rfl; have hcz52_1 : w49.cell? ⟨gb121, 1, none⟩ = some (.bool false) := (blk_cell BK121.out 1).trans rfl; have hcz52_2 : w49.cell? ⟨gb121, 2, none⟩ = some (.slice none 0 0) := (blk_cell BK121.out 2).trans rfl; have hfz52_0 := blk_frozen BK121.out 0; have hfz52_1 := blk_frozen BK121.out 1; have hfz52_2 := blk_frozen BK121.out 2; obtain ⟨Ao53, co53, eo53⟩ := Kd.R_slice HO118.out; subst eo53) | ((with_reducible refine gate_callee (f := 52) rfl ?_); refine goesL_ (some 56) rfl rfl Try.func52 (by kernel_rfl) rfl #[.string (t105 ++ a2), .int .i64 16, .int .i64 1024] rfl (by (try simp only [List.map_toArray, List.map_cons, List.map_nil]); first | done | rfl | (simp only [List.length_drop, List.length_take]; rfl)) ?_; (with_reducible refine (rlp_Get.calls (t105 ++ a2) 16 1024 t122 t123 t124 t127 _ A32.out).mono ?_); rintro e w54 ⟨v125, rfl, ho0, hb⟩; refine ⟨_, rfl, ?_⟩; have n0_ := Aside0.mk (Kd.R_elder' (by (with_reducible repeat (first | apply Kd.R_alloc | apply Kd.R_drewN | apply Kd.R_drew)); exact (Kd.R_mono (Kd.R_far (p := ⟨gb121, 2, none⟩) (Kd.R_far (p := ⟨gb121, 1, none⟩) (Kd.R_far (p := ⟨gb121, 0, none⟩) (Kd.R_mono HO110.out (fun k_ hk => (⟨hk, hk.2⟩ : _ ∧ k_ ≠ gb121))) (fun _ hk => hk.2) (.string t114)) (fun _ hk => hk.2) (.bool t115)) (fun _ hk => hk.2) (.slice Ao53 t116.length co53)) (fun _ h_ => h_.1))) (Kd.R_base ho0) hb); have n1_ := Aside0.mk (Kd.R_elder' (by (with_reducible repeat (first | apply Kd.R_alloc | apply Kd.R_drewN | apply Kd.R_drew)); exact (Kd.R_mono (Kd.R_far (p := ⟨gb121, 2, none⟩) (Kd.R_far (p := ⟨gb121, 1, none⟩) (Kd.R_far (p := ⟨gb121, 0, none⟩) (Kd.R_mono HO118.out (fun k_ hk => (⟨hk, hk.2⟩ : _ ∧ k_ ≠ gb121))) (fun _ hk => hk.2) (.string t114)) (fun _ hk => hk.2) (.bool t115)) (fun _ hk => hk.2) (.slice Ao53 t116.length co53)) (fun _ h_ => h_.1))) (Kd.R_base ho0) hb); have n2_ := Aside0.mk (Kd.R_lower (Kd.R_newB (Kd.R_newB (Kd.R_newB (Kd.R_new' (Kd.R_new' ho0 (Kd.R_lt (by (with_reducible repeat (first | apply Kd.R_alloc | apply Kd.R_drewN | apply Kd.R_drew)); exact (Kd.R_mono (Kd.R_far (p := ⟨gb121, 2, none⟩) (Kd.R_far (p := ⟨gb121, 1, none⟩) (Kd.R_far (p := ⟨gb121, 0, none⟩) (Kd.R_mono HO110.out (fun k_ hk => (⟨hk, hk.2⟩ : _ ∧ k_ ≠ gb121))) (fun _ hk => hk.2) (.string t114)) (fun _ hk => hk.2) (.bool t115)) (fun _ hk => hk.2) (.slice Ao53 t116.length co53)) (fun _ h_ => h_.1))))) (Kd.R_lt (by (with_reducible repeat (first | apply Kd.R_alloc | apply Kd.R_drewN | apply Kd.R_drew)); exact (Kd.R_mono (Kd.R_far (p := ⟨gb121, 2, none⟩) (Kd.R_far (p := ⟨gb121, 1, none⟩) (Kd.R_far (p := ⟨gb121, 0, none⟩) (Kd.R_mono HO118.out (fun k_ hk => (⟨hk, hk.2⟩ : _ ∧ k_ ≠ gb121))) (fun _ hk => hk.2) (.string t114)) (fun _ hk => hk.2) (.bool t115)) (fun _ hk => hk.2) (.slice Ao53 t116.length co53)) (fun _ h_ => h_.1))))) (g := gb101) (o := .cells #[.string a0_0, .bool a0_1, .slice A0_2 l0_2.length c0_2] 62 (0, 0)) (by (with_reducible repeat (first | refine blk_drewN ?_ _ | refine blk_drew ?_ | refine blk_alloc ?_ _)); refine blk_far ?_ NB101_121.out _; (with_reducible repeat (first | refine blk_drewN ?_ _ | refine blk_drew ?_ | refine blk_alloc ?_ _)); refine blk_far ?_ NB101_121.out _; (with_reducible repeat (first | refine blk_drewN ?_ _ | refine blk_drew ?_ | refine blk_alloc ?_ _)); refine blk_far ?_ NB101_121.out _; (with_reducible repeat (first | refine blk_drewN ?_ _ | refine blk_drew ?_ | refine blk_alloc ?_ _)); exact BK101.out)) (g := gb113) (o := .cells #[.string t106, .bool t107, .slice Ao47 t108.length co47] 62 (0, 0)) (by (with_reducible repeat (first | refine blk_drewN ?_ _ | refine blk_drew ?_ | refine blk_alloc ?_ _)); refine blk_far ?_ NB113_121.out _; (with_reducible repeat (first | refine blk_drewN ?_ _ | refine blk_drew ?_ | refine blk_alloc ?_ _)); refine blk_far ?_ NB113_121.out _; (with_reducible repeat (first | refine blk_drewN ?_ _ | refine blk_drew ?_ | refine blk_alloc ?_ _)); refine blk_far ?_ NB113_121.out _; (with_reducible repeat (first | refine blk_drewN ?_ _ | refine blk_drew ?_ | refine blk_alloc ?_ _)); exact BK113.out)) (g := gb121) (o := .cells #[.string t114, .bool t115, .slice Ao53 t116.length co53] 62 (0, 0)) (by (with_reducible repeat (first | refine blk_drewN ?_ _ | refine blk_drew ?_ | refine blk_alloc ?_ _)); refine blk_put (cs := #[.string t114, .bool t115, .slice none 0 0]) ?_ 2 _ rfl; (with_reducible repeat (first | refine blk_drewN ?_ _ | refine blk_drew ?_ | refine blk_alloc ?_ _)); refine blk_put (cs := #[.string t114, .bool false, .slice none 0 0]) ?_ 1 _ rfl; (with_reducible repeat (first | refine blk_drewN ?_ _ | refine blk_drew ?_ | refine blk_alloc ?_ _)); refine blk_put (cs := #[.string (⟨#[]⟩ : ByteArray), .bool false, .slice none 0 0]) ?_ 0 _ rfl; (with_reducible repeat (first | refine blk_drewN ?_ _ | refine blk_drew ?_ | refine blk_alloc ?_ _)); exact BK121.out)) (below_size (by repeat (first | (with_reducible first | exact HB.out | apply below_alloc | apply pw_below_drewN | apply below_drew1 | refine below_set ?_ GE101.out | refine below_set ?_ GE113.out | refine below_set ?_ GE121.out) | exact HB.out)))); have n3_ := Aside0.mk (blk_below (g := gb101) (o := .cells #[.string a0_0, .bool a0_1, .slice A0_2 l0_2.length c0_2] 62 (0, 0)) (by (with_reducible repeat (first | refine blk_drewN ?_ _ | refine blk_drew ?_ | refine blk_alloc ?_ _)); refine blk_far ?_ NB101_121.out _; (with_reducible repeat (first | refine blk_drewN ?_ _ | refine blk_drew ?_ | refine blk_alloc ?_ _)); refine blk_far ?_ NB101_121.out _; (with_reducible repeat (first | refine blk_drewN ?_ _ | refine blk_drew ?_ | refine blk_alloc ?_ _)); refine blk_far ?_ NB101_121.out _; (with_reducible repeat (first | refine blk_drewN ?_ _ | refine blk_drew ?_ | refine blk_alloc ?_ _)); exact BK101.out) hb); have n4_ := Aside0.mk (blk_below (g := gb113) (o := .cells #[.string t106, .bool t107, .slice Ao47 t108.length co47] 62 (0, 0)) (by (with_reducible repeat (first | refine blk_drewN ?_ _ | refine blk_drew ?_ | refine blk_alloc ?_ _)); refine blk_far ?_ NB113_121.out _; (with_reducible repeat (first | refine blk_drewN ?_ _ | refine blk_drew ?_ | refine blk_alloc ?_ _)); refine blk_far ?_ NB113_121.out _; (with_reducible repeat (first | refine blk_drewN ?_ _ | refine blk_drew ?_ | refine blk_alloc ?_ _)); refine blk_far ?_ NB113_121.out _; (with_reducible repeat (first | refine blk_drewN ?_ _ | refine blk_drew ?_ | refine blk_alloc ?_ _)); exact BK113.out) hb); have n5_ := Aside0.mk (blk_below (g := gb121) (o := .cells #[.string t114, .bool t115, .slice Ao53 t116.length co53] 62 (0, 0)) (by (with_reducible repeat (first | refine blk_drewN ?_ _ | refine blk_drew ?_ | refine blk_alloc ?_ _)); refine blk_put (cs := #[.string t114, .bool t115, .slice none 0 0]) ?_ 2 _ rfl; (with_reducible repeat (first | refine blk_drewN ?_ _ | refine blk_drew ?_ | refine blk_alloc ?_ _)); refine blk_put (cs := #[.string t114, .bool false, .slice none 0 0]) ?_ 1 _ rfl; (with_reducible repeat (first | refine blk_drewN ?_ _ | refine blk_drew ?_ | refine blk_alloc ?_ _)); refine blk_put (cs := #[.string (⟨#[]⟩ : ByteArray), .bool false, .slice none 0 0]) ?_ 0 _ rfl; (with_reducible repeat (first | refine blk_drewN ?_ _ | refine blk_drew ?_ | refine blk_alloc ?_ _)); exact BK121.out) hb); have n6_ := Aside0.mk (below_step (by repeat (first | (with_reducible first | exact HB.out | apply below_alloc | apply pw_below_drewN | apply below_drew1 | refine below_set ?_ GE101.out | refine below_set ?_ GE113.out | refine below_set ?_ GE121.out) | exact HB.out)) hb); clear HO110; clear HO118; clear BK101; clear BK113; clear BK121; clear HB; have HO110 := n0_; have HO118 := n1_; have HO126 := n2_; have BK101 := n3_; have BK113 := n4_; have BK121 := n5_; have HB := n6_; clear n0_ n1_ n2_ n3_ n4_ n5_ n6_; (try clear hb); (try clear hb2); (try clear hk); (try clear hi); (try clear ho0)) | ((with_reducible refine gate_dst (N := 14) rfl ?_); (try (refine gate_guard (by rfl) ?_; dsimp only)); refine box_event ?hg (N := 14) ?hd (cs := #[.string (⟨#[]⟩ : ByteArray), .bool false, .slice none 0 0]) (t := 62) ?hr ?_; (case hd => rfl); (case hg => rfl); (case hr => first | (go_simp; done) | (go_simp; rfl)); intro gb128 hg w55 hbox hb; have n0_ := Aside0.mk (Kd.R_below (Kd.R_elderB (by (with_reducible repeat (first | apply Kd.R_alloc | apply Kd.R_drewN | apply Kd.R_drew)); exact HO110.out) gb128 (Nat.le_of_eq hg.symm)) hb); have n1_ := Aside0.mk (Kd.R_below (Kd.R_elderB (by (with_reducible repeat (first | apply Kd.R_alloc | apply Kd.R_drewN | apply Kd.R_drew)); exact HO118.out) gb128 (Nat.le_of_eq hg.symm)) hb); have n2_ := Aside0.mk (Kd.R_below (Kd.R_elderB (by (with_reducible repeat (first | apply Kd.R_alloc | apply Kd.R_drewN | apply Kd.R_drew)); exact HO126.out) gb128 (Nat.le_of_eq hg.symm)) hb); have n3_ := Aside0.mk (blk_below (g := gb101) (o := .cells #[.string a0_0, .bool a0_1, .slice A0_2 l0_2.length c0_2] 62 (0, 0)) (by (with_reducible repeat (first | refine blk_drewN ?_ _ | refine blk_drew ?_ | refine blk_alloc ?_ _)); exact BK101.out) hb); have n4_ := Aside0.mk (blk_below (g := gb113) (o := .cells #[.string t106, .bool t107, .slice Ao47 t108.length co47] 62 (0, 0)) (by (with_reducible repeat (first | refine blk_drewN ?_ _ | refine blk_drew ?_ | refine blk_alloc ?_ _)); exact BK113.out) hb); have n5_ := Aside0.mk (blk_below (g := gb121) (o := .cells #[.string t114, .bool t115, .slice Ao53 t116.length co53] 62 (0, 0)) (by (with_reducible repeat (first | refine blk_drewN ?_ _ | refine blk_drew ?_ | refine blk_alloc ?_ _)); exact BK121.out) hb); have n6_ := Aside0.mk (below_step (by repeat (first | (with_reducible first | exact HB.out | apply below_alloc | apply pw_below_drewN | apply below_drew1 | refine below_set ?_ GE101.out | refine below_set ?_ GE113.out | refine below_set ?_ GE121.out) | exact HB.out)) hb); have n7_ := Aside0.mk (hbox); have n8_ := Aside0.mk ((by rw [hg]; exact (below_size (by repeat (first | (with_reducible first | exact HB.out | apply below_alloc | apply pw_below_drewN | apply below_drew1 | refine below_set ?_ GE101.out | refine below_set ?_ GE113.out | refine below_set ?_ GE121.out) | exact HB.out))) : w.heap.size ≤ gb128)); have n9_ := Aside0.mk ((by rw [hg]; exact (below_size (by repeat (first | (with_reducible first | exact HB.out | apply below_alloc | apply pw_below_drewN | apply below_drew1 | refine below_set ?_ GE101.out | refine below_set ?_ GE113.out | refine below_set ?_ GE121.out) | exact HB.out))) : w.heap.size ≤ gb128)); have n10_ := Aside0.mk ((by rw [hg]; exact Nat.ne_of_lt (blk_lt (g := gb101) (o := .cells #[.string a0_0, .bool a0_1, .slice A0_2 l0_2.length c0_2] 62 (0, 0)) (by (with_reducible repeat (first | refine blk_drewN ?_ _ | refine blk_drew ?_ | refine blk_alloc ?_ _)); exact BK101.out)) : gb101 ≠ gb128)); have n11_ := Aside0.mk ((by rw [hg]; exact Nat.ne_of_gt (blk_lt (g := gb101) (o := .cells #[.string a0_0, .bool a0_1, .slice A0_2 l0_2.length c0_2] 62 (0, 0)) (by (with_reducible repeat (first | refine blk_drewN ?_ _ | refine blk_drew ?_ | refine blk_alloc ?_ _)); exact BK101.out)) : gb128 ≠ gb101)); have n12_ := Aside0.mk ((by rw [hg]; exact Nat.ne_of_lt (blk_lt (g := gb113) (o := .cells #[.string t106, .bool t107, .slice Ao47 t108.length co47] 62 (0, 0)) (by (with_reducible repeat (first | refine blk_drewN ?_ _ | refine blk_drew ?_ | refine blk_alloc ?_ _)); exact BK113.out)) : gb113 ≠ gb128)); have n13_ := Aside0.mk ((by rw [hg]; exact Nat.ne_of_gt (blk_lt (g := gb113) (o := .cells #[.string t106, .bool t107, .slice Ao47 t108.length co47] 62 (0, 0)) (by (with_reducible repeat (first | refine blk_drewN ?_ _ | refine blk_drew ?_ | refine blk_alloc ?_ _)); exact BK113.out)) : gb128 ≠ gb113)); have n14_ := Aside0.mk ((by rw [hg]; exact Nat.ne_of_lt (blk_lt (g := gb121) (o := .cells #[.string t114, .bool t115, .slice Ao53 t116.length co53] 62 (0, 0)) (by (with_reducible repeat (first | refine blk_drewN ?_ _ | refine blk_drew ?_ | refine blk_alloc ?_ _)); exact BK121.out)) : gb121 ≠ gb128)); have n15_ := Aside0.mk ((by rw [hg]; exact Nat.ne_of_gt (blk_lt (g := gb121) (o := .cells #[.string t114, .bool t115, .slice Ao53 t116.length co53] 62 (0, 0)) (by (with_reducible repeat (first | refine blk_drewN ?_ _ | refine blk_drew ?_ | refine blk_alloc ?_ _)); exact BK121.out)) : gb128 ≠ gb121)); clear HO110; clear HO118; clear HO126; clear BK101; clear BK113; clear BK121; clear HB; have HO110 := n0_; have HO118 := n1_; have HO126 := n2_; have BK101 := n3_; have BK113 := n4_; have BK121 := n5_; have HB := n6_; have BK128 := n7_; have GW128 := n8_; have GE128 := n9_; have NB101_128 := n10_; have NB128_101 := n11_; have NB113_128 := n12_; have NB128_113 := n13_; have NB121_128 := n14_; have NB128_121 := n15_; clear n0_ n1_ n2_ n3_ n4_ n5_ n6_ n7_ n8_ n9_ n10_ n11_ n12_ n13_ n14_ n15_; clear hb hbox hg; have hnb56 := NB128_101.out; have hnc56 := NB101_128.out; have hnb57 := NB128_113.out; have hnc57 := NB113_128.out; have hnb58 := NB128_121.out; have hnc58 := NB121_128.out; have hcz59_0 : w55.cell? ⟨gb128, 0, none⟩ = some (.string (⟨#[]⟩ : ByteArray)) := (blk_cell BK128.out 0).trans rfl; have hcz59_1 : w55.cell? ⟨gb128, 1, none⟩ = some (.bool false) := (blk_cell BK128.out 1).trans rfl; have hcz59_2 : w55.cell? ⟨gb128, 2, none⟩ = some (.slice none 0 0) := (blk_cell BK128.out 2).trans rfl; have hfz59_0 := blk_frozen BK128.out 0; have hfz59_1 := blk_frozen BK128.out 1; have hfz59_2 := blk_frozen BK128.out 2; obtain ⟨Ao60, co60, eo60⟩ := Kd.R_slice HO126.out; subst eo60; have hcz61_0 : w55.cell? ⟨gb101, 0, none⟩ = some (.string a0_0) := (blk_cell BK101.out 0).trans rfl; have hcz61_1 : w55.cell? ⟨gb101, 1, none⟩ = some (.bool a0_1) := (blk_cell BK101.out 1).trans rfl; have hcz61_2 : w55.cell? ⟨gb101, 2, none⟩ = some (.slice A0_2 l0_2.length c0_2) := (blk_cell BK101.out 2).trans rfl; have hfz61_0 := blk_frozen BK101.out 0; have hfz61_1 := blk_frozen BK101.out 1; have hfz61_2 := blk_frozen BK101.out 2; have hcz62_0 : w55.cell? ⟨gb121, 0, none⟩ = some (.string t114) := (blk_cell BK121.out 0).trans rfl; have hcz62_1 : w55.cell? ⟨gb121, 1, none⟩ = some (.bool t115) := (blk_cell BK121.out 1).trans rfl; have hcz62_2 : w55.cell? ⟨gb121, 2, none⟩ = some (.slice Ao53 t116.length co53) := (blk_cell BK121.out 2).trans rfl; have hfz62_0 := blk_frozen BK121.out 0; have hfz62_1 := blk_frozen BK121.out 1; have hfz62_2 := blk_frozen BK121.out 2) | (go_at_call 44; (with_reducible refine (hatchwayref08_Same.calls kj5 a0_0 a0_1 _ _ l0_2 t114 t115 _ _ t116 true _ ?side1 ?side2 ?side3 ?side4 A37.out).mono ?_); (case side1 => exact Kd.C_below HR0_2.out (by repeat (first | (with_reducible first | exact HB.out | apply below_alloc | apply pw_below_drewN | apply below_drew1 | refine below_set ?_ GE101.out | refine below_set ?_ GE113.out | refine below_set ?_ GE121.out | refine below_set ?_ GE128.out) | exact HB.out))); (case side2 => exact HC0_2.out); (case side3 => refine (Kd.R_reads' (e := 62) (base := w.heap.size) (ok := fun k_ => ((((((True ∧ some k_ ≠ (.slice Ao47 t108.length co47 : Value).ownBlock) ∧ k_ ≠ gb101) ∧ k_ ≠ gb113) ∧ k_ ≠ gb121) ∧ some k_ ≠ (.slice Ao60 t124.length co60 : Value).ownBlock) ∧ k_ ≠ gb128)) (n := t116.length) (c := co53) ?_).2.2; exact (by (with_reducible repeat (first | apply Kd.R_alloc | apply Kd.R_drewN | apply Kd.R_drew)); exact (Kd.R_mono (Kd.R_far (p := ⟨gb128, 2, none⟩) (Kd.R_far (p := ⟨gb128, 1, none⟩) (Kd.R_far (p := ⟨gb128, 0, none⟩) (Kd.R_mono HO118.out (fun k_ hk => (⟨hk, hk.2⟩ : _ ∧ k_ ≠ gb128))) (fun _ hk => hk.2) (.string t122)) (fun _ hk => hk.2) (.bool t123)) (fun _ hk => hk.2) (.slice Ao60 t124.length co60)) (fun _ h_ => h_.1)))); (case side4 => exact (Kd.R_reads' HO118.out).2.1); rintro e w63 ⟨rfl, hb⟩; have n0_ := Aside0.mk (Kd.R_below (by (with_reducible repeat (first | apply Kd.R_alloc | apply Kd.R_drewN | apply Kd.R_drew)); exact (Kd.R_mono (Kd.R_far (p := ⟨gb128, 2, none⟩) (Kd.R_far (p := ⟨gb128, 1, none⟩) (Kd.R_far (p := ⟨gb128, 0, none⟩) (Kd.R_mono HO110.out (fun k_ hk => (⟨hk, hk.2⟩ : _ ∧ k_ ≠ gb128))) (fun _ hk => hk.2) (.string t122)) (fun _ hk => hk.2) (.bool t123)) (fun _ hk => hk.2) (.slice Ao60 t124.length co60)) (fun _ h_ => h_.1))) hb); have n1_ := Aside0.mk (Kd.R_below (by (with_reducible repeat (first | apply Kd.R_alloc | apply Kd.R_drewN | apply Kd.R_drew)); exact (Kd.R_mono (Kd.R_far (p := ⟨gb128, 2, none⟩) (Kd.R_far (p := ⟨gb128, 1, none⟩) (Kd.R_far (p := ⟨gb128, 0, none⟩) (Kd.R_mono HO118.out (fun k_ hk => (⟨hk, hk.2⟩ : _ ∧ k_ ≠ gb128))) (fun _ hk => hk.2) (.string t122)) (fun _ hk => hk.2) (.bool t123)) (fun _ hk => hk.2) (.slice Ao60 t124.length co60)) (fun _ h_ => h_.1))) hb); have n2_ := Aside0.mk (Kd.R_below (by (with_reducible repeat (first | apply Kd.R_alloc | apply Kd.R_drewN | apply Kd.R_drew)); exact (Kd.R_mono (Kd.R_far (p := ⟨gb128, 2, none⟩) (Kd.R_far (p := ⟨gb128, 1, none⟩) (Kd.R_far (p := ⟨gb128, 0, none⟩) (Kd.R_mono HO126.out (fun k_ hk => (⟨hk, hk.2⟩ : _ ∧ k_ ≠ gb128))) (fun _ hk => hk.2) (.string t122)) (fun _ hk => hk.2) (.bool t123)) (fun _ hk => hk.2) (.slice Ao60 t124.length co60)) (fun _ h_ => h_.1))) hb); have n3_ := Aside0.mk (blk_below (g := gb101) (o := .cells #[.string a0_0, .bool a0_1, .slice A0_2 l0_2.length c0_2] 62 (0, 0)) (by (with_reducible repeat (first | refine blk_drewN ?_ _ | refine blk_drew ?_ | refine blk_alloc ?_ _)); refine blk_far ?_ NB101_128.out _; (with_reducible repeat (first | refine blk_drewN ?_ _ | refine blk_drew ?_ | refine blk_alloc ?_ _)); refine blk_far ?_ NB101_128.out _; (with_reducible repeat (first | refine blk_drewN ?_ _ | refine blk_drew ?_ | refine blk_alloc ?_ _)); refine blk_far ?_ NB101_128.out _; (with_reducible repeat (first | refine blk_drewN ?_ _ | refine blk_drew ?_ | refine blk_alloc ?_ _)); exact BK101.out) hb); have n4_ := Aside0.mk (blk_below (g := gb113) (o := .cells #[.string t106, .bool t107, .slice Ao47 t108.length co47] 62 (0, 0)) (by (with_reducible repeat (first | refine blk_drewN ?_ _ | refine blk_drew ?_ | refine blk_alloc ?_ _)); refine blk_far ?_ NB113_128.out _; (with_reducible repeat (first | refine blk_drewN ?_ _ | refine blk_drew ?_ | refine blk_alloc ?_ _)); refine blk_far ?_ NB113_128.out _; (with_reducible repeat (first | refine blk_drewN ?_ _ | refine blk_drew ?_ | refine blk_alloc ?_ _)); refine blk_far ?_ NB113_128.out _; (with_reducible repeat (first | refine blk_drewN ?_ _ | refine blk_drew ?_ | refine blk_alloc ?_ _)); exact BK113.out) hb); have n5_ := Aside0.mk (blk_below (g := gb121) (o := .cells #[.string t114, .bool t115, .slice Ao53 t116.length co53] 62 (0, 0)) (by (with_reducible repeat (first | refine blk_drewN ?_ _ | refine blk_drew ?_ | refine blk_alloc ?_ _)); refine blk_far ?_ NB121_128.out _; (with_reducible repeat (first | refine blk_drewN ?_ _ | refine blk_drew ?_ | refine blk_alloc ?_ _)); refine blk_far ?_ NB121_128.out _; (with_reducible repeat (first | refine blk_drewN ?_ _ | refine blk_drew ?_ | refine blk_alloc ?_ _)); refine blk_far ?_ NB121_128.out _; (with_reducible repeat (first | refine blk_drewN ?_ _ | refine blk_drew ?_ | refine blk_alloc ?_ _)); exact BK121.out) hb); have n6_ := Aside0.mk (blk_below (g := gb128) (o := .cells #[.string t122, .bool t123, .slice Ao60 t124.length co60] 62 (0, 0)) (by (with_reducible repeat (first | refine blk_drewN ?_ _ | refine blk_drew ?_ | refine blk_alloc ?_ _)); refine blk_put (cs := #[.string t122, .bool t123, .slice none 0 0]) ?_ 2 _ rfl; (with_reducible repeat (first | refine blk_drewN ?_ _ | refine blk_drew ?_ | refine blk_alloc ?_ _)); refine blk_put (cs := #[.string t122, .bool false, .slice none 0 0]) ?_ 1 _ rfl; (with_reducible repeat (first | refine blk_drewN ?_ _ | refine blk_drew ?_ | refine blk_alloc ?_ _)); refine blk_put (cs := #[.string (⟨#[]⟩ : ByteArray), .bool false, .slice none 0 0]) ?_ 0 _ rfl; (with_reducible repeat (first | refine blk_drewN ?_ _ | refine blk_drew ?_ | refine blk_alloc ?_ _)); exact BK128.out) hb); have n7_ := Aside0.mk (below_step (by repeat (first | (with_reducible first | exact HB.out | apply below_alloc | apply pw_below_drewN | apply below_drew1 | refine below_set ?_ GE101.out | refine below_set ?_ GE113.out | refine below_set ?_ GE121.out | refine below_set ?_ GE128.out) | exact HB.out)) hb); clear HO110; clear HO118; clear HO126; clear BK101; clear BK113; clear BK121; clear BK128; clear HB; have HO110 := n0_; have HO118 := n1_; have HO126 := n2_; have BK101 := n3_; have BK113 := n4_; have BK121 := n5_; have BK128 := n6_; have HB := n7_; clear n0_ n1_ n2_ n3_ n4_ n5_ n6_ n7_; (try clear hb); (try clear hb2); (try clear hk); (try clear hi)))
                go_ret
                exact ⟨by first | rfl | (simp [errW_none, errW_some] <;> rfl) | (simp only [← hji26]; first | rfl | (simp [errW_none, errW_some] <;> rfl)) | (simp [*, errW_none, errW_some] <;> rfl), by repeat (first | (with_reducible first | exact HB.out | apply below_alloc | apply pw_below_drewN | apply below_drew1 | refine below_set ?_ GE101.out | refine below_set ?_ GE113.out | refine below_set ?_ GE121.out | refine below_set ?_ GE128.out) | exact HB.out)⟩
               ·rw [if_neg c40] at H
                have c40b0 : (a2.toList == ([] : List UInt8)) = false := beq_eq_false_iff_ne.mpr c40
                have c39z : (t127 == 0) = false := by simpa [c40b0] using c39b0
                have c40b1 : (a2.toList != ([] : List UInt8)) = true := bne_iff_ne.mpr c40
                obtain rfl := Option.some.inj H
                have hcz64_0 : wc.cell? ⟨gb101, 0, none⟩ = some (.string a0_0) := (blk_cell BK101.out 0).trans rfl
                have hcz64_1 : wc.cell? ⟨gb101, 1, none⟩ = some (.bool a0_1) := (blk_cell BK101.out 1).trans rfl
                have hcz64_2 : wc.cell? ⟨gb101, 2, none⟩ = some (.slice A0_2 l0_2.length c0_2) := (blk_cell BK101.out 2).trans rfl
                have hfz64_0 := blk_frozen BK101.out 0
                have hfz64_1 := blk_frozen BK101.out 1
                have hfz64_2 := blk_frozen BK101.out 2
                go_wp2_with (first | ((with_reducible refine gate_callee (f := 45) rfl ?_); refine goesL_ (some 31) rfl rfl Try.func45 (by kernel_rfl) rfl #[.agg #[.string a0_0, .bool a0_1, .slice A0_2 l0_2.length c0_2]] rfl (by (try simp only [List.map_toArray, List.map_cons, List.map_nil]); first | done | rfl | (simp only [List.length_drop, List.length_take]; rfl)) ?_; (with_reducible refine (hatchwayref09_Put.calls kj5 a0_0 a0_1 _ _ l0_2 t105 _ ?side1 ?side2 A24.out).mono ?_); (case side1 => repeat (first | exact (Kd.C_below HR0_2.out HB.out) | (with_reducible refine Kd.C_alloc ?_ _) | (with_reducible refine Kd.C_drewN ?_ _) | (with_reducible refine Kd.C_drew ?_))); (case side2 => exact HC0_2.out); rintro e w65 ⟨rfl, hb⟩; refine ⟨_, rfl, ?_⟩; have n0_ := Aside0.mk (blk_below (g := gb101) (o := .cells #[.string a0_0, .bool a0_1, .slice A0_2 l0_2.length c0_2] 62 (0, 0)) (by (with_reducible repeat (first | refine blk_drewN ?_ _ | refine blk_drew ?_ | refine blk_alloc ?_ _)); exact BK101.out) hb); have n1_ := Aside0.mk (below_step (by repeat (first | (with_reducible first | exact HB.out | apply below_alloc | apply pw_below_drewN | apply below_drew1 | refine below_set ?_ GE101.out) | exact HB.out)) hb); clear BK101; clear HB; have BK101 := n0_; have HB := n1_; clear n0_ n1_; (try clear hb); (try clear hb2); (try clear hk); (try clear hi)) | ((with_reducible refine gate_callee (f := 53) rfl ?_); refine goesL_ (some 40) rfl rfl Try.func53 (by kernel_rfl) rfl #[.string (t105.extract 0 ((ji26) : Int).toNat), .int .i64 16, .int .i64 1024] rfl (by (try simp only [List.map_toArray, List.map_cons, List.map_nil]); first | done | (simp only [hji26]; rfl) | rfl | (simp only [List.length_drop, List.length_take]; rfl)) ?_; (with_reducible refine (rlp_Next.calls (t105.extract 0 ((ji26) : Int).toNat) 16 1024 t106 t107 t108 t111 t112 _ A29.out).mono ?_); rintro e w66 ⟨v109, rfl, ho0, hb⟩; refine ⟨_, rfl, ?_⟩; have n0_ := Aside0.mk (Kd.R_lower (Kd.R_newB ho0 (g := gb101) (o := .cells #[.string a0_0, .bool a0_1, .slice A0_2 l0_2.length c0_2] 62 (0, 0)) (by (with_reducible repeat (first | refine blk_drewN ?_ _ | refine blk_drew ?_ | refine blk_alloc ?_ _)); exact BK101.out)) (below_size (by repeat (first | (with_reducible first | exact HB.out | apply below_alloc | apply pw_below_drewN | apply below_drew1 | refine below_set ?_ GE101.out) | exact HB.out)))); have n1_ := Aside0.mk (blk_below (g := gb101) (o := .cells #[.string a0_0, .bool a0_1, .slice A0_2 l0_2.length c0_2] 62 (0, 0)) (by (with_reducible repeat (first | refine blk_drewN ?_ _ | refine blk_drew ?_ | refine blk_alloc ?_ _)); exact BK101.out) hb); have n2_ := Aside0.mk (below_step (by repeat (first | (with_reducible first | exact HB.out | apply below_alloc | apply pw_below_drewN | apply below_drew1 | refine below_set ?_ GE101.out) | exact HB.out)) hb); clear BK101; clear HB; have HO110 := n0_; have BK101 := n1_; have HB := n2_; clear n0_ n1_ n2_; (try clear hb); (try clear hb2); (try clear hk); (try clear hi); (try clear ho0)) | ((with_reducible refine gate_dst (N := 8) rfl ?_); (try (refine gate_guard (by rfl) ?_; dsimp only)); refine box_event ?hg (N := 8) ?hd (cs := #[.string (⟨#[]⟩ : ByteArray), .bool false, .slice none 0 0]) (t := 62) ?hr ?_; (case hd => rfl); (case hg => rfl); (case hr => first | (go_simp; done) | (go_simp; rfl)); intro gb113 hg w67 hbox hb; have n0_ := Aside0.mk (Kd.R_below (Kd.R_elderB (by (with_reducible repeat (first | apply Kd.R_alloc | apply Kd.R_drewN | apply Kd.R_drew)); exact HO110.out) gb113 (Nat.le_of_eq hg.symm)) hb); have n1_ := Aside0.mk (blk_below (g := gb101) (o := .cells #[.string a0_0, .bool a0_1, .slice A0_2 l0_2.length c0_2] 62 (0, 0)) (by (with_reducible repeat (first | refine blk_drewN ?_ _ | refine blk_drew ?_ | refine blk_alloc ?_ _)); exact BK101.out) hb); have n2_ := Aside0.mk (below_step (by repeat (first | (with_reducible first | exact HB.out | apply below_alloc | apply pw_below_drewN | apply below_drew1 | refine below_set ?_ GE101.out) | exact HB.out)) hb); have n3_ := Aside0.mk (hbox); have n4_ := Aside0.mk ((by rw [hg]; exact (below_size (by repeat (first | (with_reducible first | exact HB.out | apply below_alloc | apply pw_below_drewN | apply below_drew1 | refine below_set ?_ GE101.out) | exact HB.out))) : w.heap.size ≤ gb113)); have n5_ := Aside0.mk ((by rw [hg]; exact (below_size (by repeat (first | (with_reducible first | exact HB.out | apply below_alloc | apply pw_below_drewN | apply below_drew1 | refine below_set ?_ GE101.out) | exact HB.out))) : w.heap.size ≤ gb113)); have n6_ := Aside0.mk ((by rw [hg]; exact Nat.ne_of_lt (blk_lt (g := gb101) (o := .cells #[.string a0_0, .bool a0_1, .slice A0_2 l0_2.length c0_2] 62 (0, 0)) (by (with_reducible repeat (first | refine blk_drewN ?_ _ | refine blk_drew ?_ | refine blk_alloc ?_ _)); exact BK101.out)) : gb101 ≠ gb113)); have n7_ := Aside0.mk ((by rw [hg]; exact Nat.ne_of_gt (blk_lt (g := gb101) (o := .cells #[.string a0_0, .bool a0_1, .slice A0_2 l0_2.length c0_2] 62 (0, 0)) (by (with_reducible repeat (first | refine blk_drewN ?_ _ | refine blk_drew ?_ | refine blk_alloc ?_ _)); exact BK101.out)) : gb113 ≠ gb101)); clear HO110; clear BK101; clear HB; have HO110 := n0_; have BK101 := n1_; have HB := n2_; have BK113 := n3_; have GW113 := n4_; have GE113 := n5_; have NB101_113 := n6_; have NB113_101 := n7_; clear n0_ n1_ n2_ n3_ n4_ n5_ n6_ n7_; clear hb hbox hg; have hnb68 := NB113_101.out; have hnc68 := NB101_113.out; have hcz69_0 : w67.cell? ⟨gb113, 0, none⟩ = some (.string (⟨#[]⟩ : ByteArray)) := (blk_cell BK113.out 0).trans rfl; have hcz69_1 : w67.cell? ⟨gb113, 1, none⟩ = some (.bool false) := (blk_cell BK113.out 1).trans rfl; have hcz69_2 : w67.cell? ⟨gb113, 2, none⟩ = some (.slice none 0 0) := (blk_cell BK113.out 2).trans rfl; have hfz69_0 := blk_frozen BK113.out 0; have hfz69_1 := blk_frozen BK113.out 1; have hfz69_2 := blk_frozen BK113.out 2; obtain ⟨Ao70, co70, eo70⟩ := Kd.R_slice HO110.out; subst eo70) | ((with_reducible refine gate_callee (f := 53) rfl ?_); refine goesL_ (some 48) rfl rfl Try.func53 (by kernel_rfl) rfl #[.string (t105 ++ a2), .int .i64 16, .int .i64 1024] rfl (by (try simp only [List.map_toArray, List.map_cons, List.map_nil]); first | done | rfl | (simp only [List.length_drop, List.length_take]; rfl)) ?_; (with_reducible refine (rlp_Next.calls (t105 ++ a2) 16 1024 t114 t115 t116 t119 t120 _ A31.out).mono ?_); rintro e w71 ⟨v117, rfl, ho0, hb⟩; refine ⟨_, rfl, ?_⟩; have n0_ := Aside0.mk (Kd.R_elder' (by (with_reducible repeat (first | apply Kd.R_alloc | apply Kd.R_drewN | apply Kd.R_drew)); exact (Kd.R_mono (Kd.R_far (p := ⟨gb113, 2, none⟩) (Kd.R_far (p := ⟨gb113, 1, none⟩) (Kd.R_far (p := ⟨gb113, 0, none⟩) (Kd.R_mono HO110.out (fun k_ hk => (⟨hk, hk.2⟩ : _ ∧ k_ ≠ gb113))) (fun _ hk => hk.2) (.string t106)) (fun _ hk => hk.2) (.bool t107)) (fun _ hk => hk.2) (.slice Ao70 t108.length co70)) (fun _ h_ => h_.1))) (Kd.R_base ho0) hb); have n1_ := Aside0.mk (Kd.R_lower (Kd.R_newB (Kd.R_newB (Kd.R_new' ho0 (Kd.R_lt (by (with_reducible repeat (first | apply Kd.R_alloc | apply Kd.R_drewN | apply Kd.R_drew)); exact (Kd.R_mono (Kd.R_far (p := ⟨gb113, 2, none⟩) (Kd.R_far (p := ⟨gb113, 1, none⟩) (Kd.R_far (p := ⟨gb113, 0, none⟩) (Kd.R_mono HO110.out (fun k_ hk => (⟨hk, hk.2⟩ : _ ∧ k_ ≠ gb113))) (fun _ hk => hk.2) (.string t106)) (fun _ hk => hk.2) (.bool t107)) (fun _ hk => hk.2) (.slice Ao70 t108.length co70)) (fun _ h_ => h_.1))))) (g := gb101) (o := .cells #[.string a0_0, .bool a0_1, .slice A0_2 l0_2.length c0_2] 62 (0, 0)) (by (with_reducible repeat (first | refine blk_drewN ?_ _ | refine blk_drew ?_ | refine blk_alloc ?_ _)); refine blk_far ?_ NB101_113.out _; (with_reducible repeat (first | refine blk_drewN ?_ _ | refine blk_drew ?_ | refine blk_alloc ?_ _)); refine blk_far ?_ NB101_113.out _; (with_reducible repeat (first | refine blk_drewN ?_ _ | refine blk_drew ?_ | refine blk_alloc ?_ _)); refine blk_far ?_ NB101_113.out _; (with_reducible repeat (first | refine blk_drewN ?_ _ | refine blk_drew ?_ | refine blk_alloc ?_ _)); exact BK101.out)) (g := gb113) (o := .cells #[.string t106, .bool t107, .slice Ao70 t108.length co70] 62 (0, 0)) (by (with_reducible repeat (first | refine blk_drewN ?_ _ | refine blk_drew ?_ | refine blk_alloc ?_ _)); refine blk_put (cs := #[.string t106, .bool t107, .slice none 0 0]) ?_ 2 _ rfl; (with_reducible repeat (first | refine blk_drewN ?_ _ | refine blk_drew ?_ | refine blk_alloc ?_ _)); refine blk_put (cs := #[.string t106, .bool false, .slice none 0 0]) ?_ 1 _ rfl; (with_reducible repeat (first | refine blk_drewN ?_ _ | refine blk_drew ?_ | refine blk_alloc ?_ _)); refine blk_put (cs := #[.string (⟨#[]⟩ : ByteArray), .bool false, .slice none 0 0]) ?_ 0 _ rfl; (with_reducible repeat (first | refine blk_drewN ?_ _ | refine blk_drew ?_ | refine blk_alloc ?_ _)); exact BK113.out)) (below_size (by repeat (first | (with_reducible first | exact HB.out | apply below_alloc | apply pw_below_drewN | apply below_drew1 | refine below_set ?_ GE101.out | refine below_set ?_ GE113.out) | exact HB.out)))); have n2_ := Aside0.mk (blk_below (g := gb101) (o := .cells #[.string a0_0, .bool a0_1, .slice A0_2 l0_2.length c0_2] 62 (0, 0)) (by (with_reducible repeat (first | refine blk_drewN ?_ _ | refine blk_drew ?_ | refine blk_alloc ?_ _)); refine blk_far ?_ NB101_113.out _; (with_reducible repeat (first | refine blk_drewN ?_ _ | refine blk_drew ?_ | refine blk_alloc ?_ _)); refine blk_far ?_ NB101_113.out _; (with_reducible repeat (first | refine blk_drewN ?_ _ | refine blk_drew ?_ | refine blk_alloc ?_ _)); refine blk_far ?_ NB101_113.out _; (with_reducible repeat (first | refine blk_drewN ?_ _ | refine blk_drew ?_ | refine blk_alloc ?_ _)); exact BK101.out) hb); have n3_ := Aside0.mk (blk_below (g := gb113) (o := .cells #[.string t106, .bool t107, .slice Ao70 t108.length co70] 62 (0, 0)) (by (with_reducible repeat (first | refine blk_drewN ?_ _ | refine blk_drew ?_ | refine blk_alloc ?_ _)); refine blk_put (cs := #[.string t106, .bool t107, .slice none 0 0]) ?_ 2 _ rfl; (with_reducible repeat (first | refine blk_drewN ?_ _ | refine blk_drew ?_ | refine blk_alloc ?_ _)); refine blk_put (cs := #[.string t106, .bool false, .slice none 0 0]) ?_ 1 _ rfl; (with_reducible repeat (first | refine blk_drewN ?_ _ | refine blk_drew ?_ | refine blk_alloc ?_ _)); refine blk_put (cs := #[.string (⟨#[]⟩ : ByteArray), .bool false, .slice none 0 0]) ?_ 0 _ rfl; (with_reducible repeat (first | refine blk_drewN ?_ _ | refine blk_drew ?_ | refine blk_alloc ?_ _)); exact BK113.out) hb); have n4_ := Aside0.mk (below_step (by repeat (first | (with_reducible first | exact HB.out | apply below_alloc | apply pw_below_drewN | apply below_drew1 | refine below_set ?_ GE101.out | refine below_set ?_ GE113.out) | exact HB.out)) hb); clear HO110; clear BK101; clear BK113; clear HB; have HO110 := n0_; have HO118 := n1_; have BK101 := n2_; have BK113 := n3_; have HB := n4_; clear n0_ n1_ n2_ n3_ n4_; (try clear hb); (try clear hb2); (try clear hk); (try clear hi); (try clear ho0)) | ((with_reducible refine gate_dst (N := 11) rfl ?_); (try (refine gate_guard (by rfl) ?_; dsimp only)); refine box_event ?hg (N := 11) ?hd (cs := #[.string (⟨#[]⟩ : ByteArray), .bool false, .slice none 0 0]) (t := 62) ?hr ?_; (case hd => rfl); (case hg => rfl); (case hr => first | (go_simp; done) | (go_simp; rfl)); intro gb121 hg w72 hbox hb; have n0_ := Aside0.mk (Kd.R_below (Kd.R_elderB (by (with_reducible repeat (first | apply Kd.R_alloc | apply Kd.R_drewN | apply Kd.R_drew)); exact HO110.out) gb121 (Nat.le_of_eq hg.symm)) hb); have n1_ := Aside0.mk (Kd.R_below (Kd.R_elderB (by (with_reducible repeat (first | apply Kd.R_alloc | apply Kd.R_drewN | apply Kd.R_drew)); exact HO118.out) gb121 (Nat.le_of_eq hg.symm)) hb); have n2_ := Aside0.mk (blk_below (g := gb101) (o := .cells #[.string a0_0, .bool a0_1, .slice A0_2 l0_2.length c0_2] 62 (0, 0)) (by (with_reducible repeat (first | refine blk_drewN ?_ _ | refine blk_drew ?_ | refine blk_alloc ?_ _)); exact BK101.out) hb); have n3_ := Aside0.mk (blk_below (g := gb113) (o := .cells #[.string t106, .bool t107, .slice Ao70 t108.length co70] 62 (0, 0)) (by (with_reducible repeat (first | refine blk_drewN ?_ _ | refine blk_drew ?_ | refine blk_alloc ?_ _)); exact BK113.out) hb); have n4_ := Aside0.mk (below_step (by repeat (first | (with_reducible first | exact HB.out | apply below_alloc | apply pw_below_drewN | apply below_drew1 | refine below_set ?_ GE101.out | refine below_set ?_ GE113.out) | exact HB.out)) hb); have n5_ := Aside0.mk (hbox); have n6_ := Aside0.mk ((by rw [hg]; exact (below_size (by repeat (first | (with_reducible first | exact HB.out | apply below_alloc | apply pw_below_drewN | apply below_drew1 | refine below_set ?_ GE101.out | refine below_set ?_ GE113.out) | exact HB.out))) : w.heap.size ≤ gb121)); have n7_ := Aside0.mk ((by rw [hg]; exact (below_size (by repeat (first | (with_reducible first | exact HB.out | apply below_alloc | apply pw_below_drewN | apply below_drew1 | refine below_set ?_ GE101.out | refine below_set ?_ GE113.out) | exact HB.out))) : w.heap.size ≤ gb121)); have n8_ := Aside0.mk ((by rw [hg]; exact Nat.ne_of_lt (blk_lt (g := gb101) (o := .cells #[.string a0_0, .bool a0_1, .slice A0_2 l0_2.length c0_2] 62 (0, 0)) (by (with_reducible repeat (first | refine blk_drewN ?_ _ | refine blk_drew ?_ | refine blk_alloc ?_ _)); exact BK101.out)) : gb101 ≠ gb121)); have n9_ := Aside0.mk ((by rw [hg]; exact Nat.ne_of_gt (blk_lt (g := gb101) (o := .cells #[.string a0_0, .bool a0_1, .slice A0_2 l0_2.length c0_2] 62 (0, 0)) (by (with_reducible repeat (first | refine blk_drewN ?_ _ | refine blk_drew ?_ | refine blk_alloc ?_ _)); exact BK101.out)) : gb121 ≠ gb101)); have n10_ := Aside0.mk ((by rw [hg]; exact Nat.ne_of_lt (blk_lt (g := gb113) (o := .cells #[.string t106, .bool t107, .slice Ao70 t108.length co70] 62 (0, 0)) (by (with_reducible repeat (first | refine blk_drewN ?_ _ | refine blk_drew ?_ | refine blk_alloc ?_ _)); exact BK113.out)) : gb113 ≠ gb121)); have n11_ := Aside0.mk ((by rw [hg]; exact Nat.ne_of_gt (blk_lt (g := gb113) (o := .cells #[.string t106, .bool t107, .slice Ao70 t108.length co70] 62 (0, 0)) (by (with_reducible repeat (first | refine blk_drewN ?_ _ | refine blk_drew ?_ | refine blk_alloc ?_ _)); exact BK113.out)) : gb121 ≠ gb113)); clear HO110; clear HO118; clear BK101; clear BK113; clear HB; have HO110 := n0_; have HO118 := n1_; have BK101 := n2_; have BK113 := n3_; have HB := n4_; have BK121 := n5_; have GW121 := n6_; have GE121 := n7_; have NB101_121 := n8_; have NB121_101 := n9_; have NB113_121 := n10_; have NB121_113 := n11_; clear n0_ n1_ n2_ n3_ n4_ n5_ n6_ n7_ n8_ n9_ n10_ n11_; clear hb hbox hg; have hnb73 := NB121_101.out; have hnc73 := NB101_121.out; have hnb74 := NB121_113.out; have hnc74 := NB113_121.out; have hcz75_0 : w72.cell? ⟨gb121, 0, none⟩ = some (.string (⟨#[]⟩ : ByteArray)) := (blk_cell BK121.out 0).trans rfl; have hcz75_1 : w72.cell? ⟨gb121, 1, none⟩ = some (.bool false) := (blk_cell BK121.out 1).trans rfl; have hcz75_2 : w72.cell? ⟨gb121, 2, none⟩ = some (.slice none 0 0) := (blk_cell BK121.out 2).trans rfl; have hfz75_0 := blk_frozen BK121.out 0; have hfz75_1 := blk_frozen BK121.out 1; have hfz75_2 := blk_frozen BK121.out 2; obtain ⟨Ao76, co76, eo76⟩ := Kd.R_slice HO118.out; subst eo76) | ((with_reducible refine gate_callee (f := 52) rfl ?_); refine goesL_ (some 56) rfl rfl Try.func52 (by kernel_rfl) rfl #[.string (t105 ++ a2), .int .i64 16, .int .i64 1024] rfl (by (try simp only [List.map_toArray, List.map_cons, List.map_nil]); first | done | rfl | (simp only [List.length_drop, List.length_take]; rfl)) ?_; (with_reducible refine (rlp_Get.calls (t105 ++ a2) 16 1024 t122 t123 t124 t127 _ A32.out).mono ?_); rintro e w77 ⟨v125, rfl, ho0, hb⟩; refine ⟨_, rfl, ?_⟩; have n0_ := Aside0.mk (Kd.R_elder' (by (with_reducible repeat (first | apply Kd.R_alloc | apply Kd.R_drewN | apply Kd.R_drew)); exact (Kd.R_mono (Kd.R_far (p := ⟨gb121, 2, none⟩) (Kd.R_far (p := ⟨gb121, 1, none⟩) (Kd.R_far (p := ⟨gb121, 0, none⟩) (Kd.R_mono HO110.out (fun k_ hk => (⟨hk, hk.2⟩ : _ ∧ k_ ≠ gb121))) (fun _ hk => hk.2) (.string t114)) (fun _ hk => hk.2) (.bool t115)) (fun _ hk => hk.2) (.slice Ao76 t116.length co76)) (fun _ h_ => h_.1))) (Kd.R_base ho0) hb); have n1_ := Aside0.mk (Kd.R_elder' (by (with_reducible repeat (first | apply Kd.R_alloc | apply Kd.R_drewN | apply Kd.R_drew)); exact (Kd.R_mono (Kd.R_far (p := ⟨gb121, 2, none⟩) (Kd.R_far (p := ⟨gb121, 1, none⟩) (Kd.R_far (p := ⟨gb121, 0, none⟩) (Kd.R_mono HO118.out (fun k_ hk => (⟨hk, hk.2⟩ : _ ∧ k_ ≠ gb121))) (fun _ hk => hk.2) (.string t114)) (fun _ hk => hk.2) (.bool t115)) (fun _ hk => hk.2) (.slice Ao76 t116.length co76)) (fun _ h_ => h_.1))) (Kd.R_base ho0) hb); have n2_ := Aside0.mk (Kd.R_lower (Kd.R_newB (Kd.R_newB (Kd.R_newB (Kd.R_new' (Kd.R_new' ho0 (Kd.R_lt (by (with_reducible repeat (first | apply Kd.R_alloc | apply Kd.R_drewN | apply Kd.R_drew)); exact (Kd.R_mono (Kd.R_far (p := ⟨gb121, 2, none⟩) (Kd.R_far (p := ⟨gb121, 1, none⟩) (Kd.R_far (p := ⟨gb121, 0, none⟩) (Kd.R_mono HO110.out (fun k_ hk => (⟨hk, hk.2⟩ : _ ∧ k_ ≠ gb121))) (fun _ hk => hk.2) (.string t114)) (fun _ hk => hk.2) (.bool t115)) (fun _ hk => hk.2) (.slice Ao76 t116.length co76)) (fun _ h_ => h_.1))))) (Kd.R_lt (by (with_reducible repeat (first | apply Kd.R_alloc | apply Kd.R_drewN | apply Kd.R_drew)); exact (Kd.R_mono (Kd.R_far (p := ⟨gb121, 2, none⟩) (Kd.R_far (p := ⟨gb121, 1, none⟩) (Kd.R_far (p := ⟨gb121, 0, none⟩) (Kd.R_mono HO118.out (fun k_ hk => (⟨hk, hk.2⟩ : _ ∧ k_ ≠ gb121))) (fun _ hk => hk.2) (.string t114)) (fun _ hk => hk.2) (.bool t115)) (fun _ hk => hk.2) (.slice Ao76 t116.length co76)) (fun _ h_ => h_.1))))) (g := gb101) (o := .cells #[.string a0_0, .bool a0_1, .slice A0_2 l0_2.length c0_2] 62 (0, 0)) (by (with_reducible repeat (first | refine blk_drewN ?_ _ | refine blk_drew ?_ | refine blk_alloc ?_ _)); refine blk_far ?_ NB101_121.out _; (with_reducible repeat (first | refine blk_drewN ?_ _ | refine blk_drew ?_ | refine blk_alloc ?_ _)); refine blk_far ?_ NB101_121.out _; (with_reducible repeat (first | refine blk_drewN ?_ _ | refine blk_drew ?_ | refine blk_alloc ?_ _)); refine blk_far ?_ NB101_121.out _; (with_reducible repeat (first | refine blk_drewN ?_ _ | refine blk_drew ?_ | refine blk_alloc ?_ _)); exact BK101.out)) (g := gb113) (o := .cells #[.string t106, .bool t107, .slice Ao70 t108.length co70] 62 (0, 0)) (by (with_reducible repeat (first | refine blk_drewN ?_ _ | refine blk_drew ?_ | refine blk_alloc ?_ _)); refine blk_far ?_ NB113_121.out _; (with_reducible repeat (first | refine blk_drewN ?_ _ | refine blk_drew ?_ | refine blk_alloc ?_ _)); refine blk_far ?_ NB113_121.out _; (with_reducible repeat (first | refine blk_drewN ?_ _ | refine blk_drew ?_ | refine blk_alloc ?_ _)); refine blk_far ?_ NB113_121.out _; (with_reducible repeat (first | refine blk_drewN ?_ _ | refine blk_drew ?_ | refine blk_alloc ?_ _)); exact BK113.out)) (g := gb121) (o := .cells #[.string t114, .bool t115, .slice Ao76 t116.length co76] 62 (0, 0)) (by (with_reducible repeat (first | refine blk_drewN ?_ _ | refine blk_drew ?_ | refine blk_alloc ?_ _)); refine blk_put (cs := #[.string t114, .bool t115, .slice none 0 0]) ?_ 2 _ rfl; (with_reducible repeat (first | refine blk_drewN ?_ _ | refine blk_drew ?_ | refine blk_alloc ?_ _)); refine blk_put (cs := #[.string t114, .bool false, .slice none 0 0]) ?_ 1 _ rfl; (with_reducible repeat (first | refine blk_drewN ?_ _ | refine blk_drew ?_ | refine blk_alloc ?_ _)); refine blk_put (cs := #[.string (⟨#[]⟩ : ByteArray), .bool false, .slice none 0 0]) ?_ 0 _ rfl; (with_reducible repeat (first | refine blk_drewN ?_ _ | refine blk_drew ?_ | refine blk_alloc ?_ _)); exact BK121.out)) (below_size (by repeat (first | (with_reducible first | exact HB.out | apply below_alloc | apply pw_below_drewN | apply below_drew1 | refine below_set ?_ GE101.out | refine below_set ?_ GE113.out | refine below_set ?_ GE121.out) | exact HB.out)))); have n3_ := Aside0.mk (blk_below (g := gb101) (o := .cells #[.string a0_0, .bool a0_1, .slice A0_2 l0_2.length c0_2] 62 (0, 0)) (by (with_reducible repeat (first | refine blk_drewN ?_ _ | refine blk_drew ?_ | refine blk_alloc ?_ _)); refine blk_far ?_ NB101_121.out _; (with_reducible repeat (first | refine blk_drewN ?_ _ | refine blk_drew ?_ | refine blk_alloc ?_ _)); refine blk_far ?_ NB101_121.out _; (with_reducible repeat (first | refine blk_drewN ?_ _ | refine blk_drew ?_ | refine blk_alloc ?_ _)); refine blk_far ?_ NB101_121.out _; (with_reducible repeat (first | refine blk_drewN ?_ _ | refine blk_drew ?_ | refine blk_alloc ?_ _)); exact BK101.out) hb); have n4_ := Aside0.mk (blk_below (g := gb113) (o := .cells #[.string t106, .bool t107, .slice Ao70 t108.length co70] 62 (0, 0)) (by (with_reducible repeat (first | refine blk_drewN ?_ _ | refine blk_drew ?_ | refine blk_alloc ?_ _)); refine blk_far ?_ NB113_121.out _; (with_reducible repeat (first | refine blk_drewN ?_ _ | refine blk_drew ?_ | refine blk_alloc ?_ _)); refine blk_far ?_ NB113_121.out _; (with_reducible repeat (first | refine blk_drewN ?_ _ | refine blk_drew ?_ | refine blk_alloc ?_ _)); refine blk_far ?_ NB113_121.out _; (with_reducible repeat (first | refine blk_drewN ?_ _ | refine blk_drew ?_ | refine blk_alloc ?_ _)); exact BK113.out) hb); have n5_ := Aside0.mk (blk_below (g := gb121) (o := .cells #[.string t114, .bool t115, .slice Ao76 t116.length co76] 62 (0, 0)) (by (with_reducible repeat (first | refine blk_drewN ?_ _ | refine blk_drew ?_ | refine blk_alloc ?_ _)); refine blk_put (cs := #[.string t114, .bool t115, .slice none 0 0]) ?_ 2 _ rfl; (with_reducible repeat (first | refine blk_drewN ?_ _ | refine blk_drew ?_ | refine blk_alloc ?_ _)); refine blk_put (cs := #[.string t114, .bool false, .slice none 0 0]) ?_ 1 _ rfl; (with_reducible repeat (first | refine blk_drewN ?_ _ | refine blk_drew ?_ | refine blk_alloc ?_ _)); refine blk_put (cs := #[.string (⟨#[]⟩ : ByteArray), .bool false, .slice none 0 0]) ?_ 0 _ rfl; (with_reducible repeat (first | refine blk_drewN ?_ _ | refine blk_drew ?_ | refine blk_alloc ?_ _)); exact BK121.out) hb); have n6_ := Aside0.mk (below_step (by repeat (first | (with_reducible first | exact HB.out | apply below_alloc | apply pw_below_drewN | apply below_drew1 | refine below_set ?_ GE101.out | refine below_set ?_ GE113.out | refine below_set ?_ GE121.out) | exact HB.out)) hb); clear HO110; clear HO118; clear BK101; clear BK113; clear BK121; clear HB; have HO110 := n0_; have HO118 := n1_; have HO126 := n2_; have BK101 := n3_; have BK113 := n4_; have BK121 := n5_; have HB := n6_; clear n0_ n1_ n2_ n3_ n4_ n5_ n6_; (try clear hb); (try clear hb2); (try clear hk); (try clear hi); (try clear ho0)) | ((with_reducible refine gate_dst (N := 14) rfl ?_); (try (refine gate_guard (by rfl) ?_; dsimp only)); refine box_event ?hg (N := 14) ?hd (cs := #[.string (⟨#[]⟩ : ByteArray), .bool false, .slice none 0 0]) (t := 62) ?hr ?_; (case hd => rfl); (case hg => rfl); (case hr => first | (go_simp; done) | (go_simp; rfl)); intro gb128 hg w78 hbox hb; have n0_ := Aside0.mk (Kd.R_below (Kd.R_elderB (by (with_reducible repeat (first | apply Kd.R_alloc | apply Kd.R_drewN | apply Kd.R_drew)); exact HO110.out) gb128 (Nat.le_of_eq hg.symm)) hb); have n1_ := Aside0.mk (Kd.R_below (Kd.R_elderB (by (with_reducible repeat (first | apply Kd.R_alloc | apply Kd.R_drewN | apply Kd.R_drew)); exact HO118.out) gb128 (Nat.le_of_eq hg.symm)) hb); have n2_ := Aside0.mk (Kd.R_below (Kd.R_elderB (by (with_reducible repeat (first | apply Kd.R_alloc | apply Kd.R_drewN | apply Kd.R_drew)); exact HO126.out) gb128 (Nat.le_of_eq hg.symm)) hb); have n3_ := Aside0.mk (blk_below (g := gb101) (o := .cells #[.string a0_0, .bool a0_1, .slice A0_2 l0_2.length c0_2] 62 (0, 0)) (by (with_reducible repeat (first | refine blk_drewN ?_ _ | refine blk_drew ?_ | refine blk_alloc ?_ _)); exact BK101.out) hb); have n4_ := Aside0.mk (blk_below (g := gb113) (o := .cells #[.string t106, .bool t107, .slice Ao70 t108.length co70] 62 (0, 0)) (by (with_reducible repeat (first | refine blk_drewN ?_ _ | refine blk_drew ?_ | refine blk_alloc ?_ _)); exact BK113.out) hb); have n5_ := Aside0.mk (blk_below (g := gb121) (o := .cells #[.string t114, .bool t115, .slice Ao76 t116.length co76] 62 (0, 0)) (by (with_reducible repeat (first | refine blk_drewN ?_ _ | refine blk_drew ?_ | refine blk_alloc ?_ _)); exact BK121.out) hb); have n6_ := Aside0.mk (below_step (by repeat (first | (with_reducible first | exact HB.out | apply below_alloc | apply pw_below_drewN | apply below_drew1 | refine below_set ?_ GE101.out | refine below_set ?_ GE113.out | refine below_set ?_ GE121.out) | exact HB.out)) hb); have n7_ := Aside0.mk (hbox); have n8_ := Aside0.mk ((by rw [hg]; exact (below_size (by repeat (first | (with_reducible first | exact HB.out | apply below_alloc | apply pw_below_drewN | apply below_drew1 | refine below_set ?_ GE101.out | refine below_set ?_ GE113.out | refine below_set ?_ GE121.out) | exact HB.out))) : w.heap.size ≤ gb128)); have n9_ := Aside0.mk ((by rw [hg]; exact (below_size (by repeat (first | (with_reducible first | exact HB.out | apply below_alloc | apply pw_below_drewN | apply below_drew1 | refine below_set ?_ GE101.out | refine below_set ?_ GE113.out | refine below_set ?_ GE121.out) | exact HB.out))) : w.heap.size ≤ gb128)); have n10_ := Aside0.mk ((by rw [hg]; exact Nat.ne_of_lt (blk_lt (g := gb101) (o := .cells #[.string a0_0, .bool a0_1, .slice A0_2 l0_2.length c0_2] 62 (0, 0)) (by (with_reducible repeat (first | refine blk_drewN ?_ _ | refine blk_drew ?_ | refine blk_alloc ?_ _)); exact BK101.out)) : gb101 ≠ gb128)); have n11_ := Aside0.mk ((by rw [hg]; exact Nat.ne_of_gt (blk_lt (g := gb101) (o := .cells #[.string a0_0, .bool a0_1, .slice A0_2 l0_2.length c0_2] 62 (0, 0)) (by (with_reducible repeat (first | refine blk_drewN ?_ _ | refine blk_drew ?_ | refine blk_alloc ?_ _)); exact BK101.out)) : gb128 ≠ gb101)); have n12_ := Aside0.mk ((by rw [hg]; exact Nat.ne_of_lt (blk_lt (g := gb113) (o := .cells #[.string t106, .bool t107, .slice Ao70 t108.length co70] 62 (0, 0)) (by (with_reducible repeat (first | refine blk_drewN ?_ _ | refine blk_drew ?_ | refine blk_alloc ?_ _)); exact BK113.out)) : gb113 ≠ gb128)); have n13_ := Aside0.mk ((by rw [hg]; exact Nat.ne_of_gt (blk_lt (g := gb113) (o := .cells #[.string t106, .bool t107, .slice Ao70 t108.length co70] 62 (0, 0)) (by (with_reducible repeat (first | refine blk_drewN ?_ _ | refine blk_drew ?_ | refine blk_alloc ?_ _)); exact BK113.out)) : gb128 ≠ gb113)); have n14_ := Aside0.mk ((by rw [hg]; exact Nat.ne_of_lt (blk_lt (g := gb121) (o := .cells #[.string t114, .bool t115, .slice Ao76 t116.length co76] 62 (0, 0)) (by (with_reducible repeat (first | refine blk_drewN ?_ _ | refine blk_drew ?_ | refine blk_alloc ?_ _)); exact BK121.out)) : gb121 ≠ gb128)); have n15_ := Aside0.mk ((by rw [hg]; exact Nat.ne_of_gt (blk_lt (g := gb121) (o := .cells #[.string t114, .bool t115, .slice Ao76 t116.length co76] 62 (0, 0)) (by (with_reducible repeat (first | refine blk_drewN ?_ _ | refine blk_drew ?_ | refine blk_alloc ?_ _)); exact BK121.out)) : gb128 ≠ gb121)); clear HO110; clear HO118; clear HO126; clear BK101; clear BK113; clear BK121; clear HB; have HO110 := n0_; have HO118 := n1_; have HO126 := n2_; have BK101 := n3_; have BK113 := n4_; have BK121 := n5_; have HB := n6_; have BK128 := n7_; have GW128 := n8_; have GE128 := n9_; have NB101_128 := n10_; have NB128_101 := n11_; have NB113_128 := n12_; have NB128_113 := n13_; have NB121_128 := n14_; have NB128_121 := n15_; clear n0_ n1_ n2_ n3_ n4_ n5_ n6_ n7_ n8_ n9_ n10_ n11_ n12_ n13_ n14_ n15_; clear hb hbox hg; have hnb79 := NB128_101.out; have hnc79 := NB101_128.out; have hnb80 := NB128_113.out; have hnc80 := NB113_128.out; have hnb81 := NB128_121.out; have hnc81 := NB121_128.out; have hcz82_0 : w78.cell? ⟨gb128, 0, none⟩ = some (.string (⟨#[]⟩ : ByteArray)) := (blk_cell BK128.out 0).trans rfl; have hcz82_1 : w78.cell? ⟨gb128, 1, none⟩ = some (.bool false) := (blk_cell BK128.out 1).trans rfl; have hcz82_2 : w78.cell? ⟨gb128, 2, none⟩ = some (.slice none 0 0) := (blk_cell BK128.out 2).trans rfl; have hfz82_0 := blk_frozen BK128.out 0; have hfz82_1 := blk_frozen BK128.out 1; have hfz82_2 := blk_frozen BK128.out 2; obtain ⟨Ao83, co83, eo83⟩ := Kd.R_slice HO126.out; subst eo83; have hcz84_0 : w78.cell? ⟨gb101, 0, none⟩ = some (.string a0_0) := (blk_cell BK101.out 0).trans rfl; have hcz84_1 : w78.cell? ⟨gb101, 1, none⟩ = some (.bool a0_1) := (blk_cell BK101.out 1).trans rfl; have hcz84_2 : w78.cell? ⟨gb101, 2, none⟩ = some (.slice A0_2 l0_2.length c0_2) := (blk_cell BK101.out 2).trans rfl; have hfz84_0 := blk_frozen BK101.out 0; have hfz84_1 := blk_frozen BK101.out 1; have hfz84_2 := blk_frozen BK101.out 2; have hcz85_0 : w78.cell? ⟨gb121, 0, none⟩ = some (.string t114) := (blk_cell BK121.out 0).trans rfl; have hcz85_1 : w78.cell? ⟨gb121, 1, none⟩ = some (.bool t115) := (blk_cell BK121.out 1).trans rfl; have hcz85_2 : w78.cell? ⟨gb121, 2, none⟩ = some (.slice Ao76 t116.length co76) := (blk_cell BK121.out 2).trans rfl; have hfz85_0 := blk_frozen BK121.out 0; have hfz85_1 := blk_frozen BK121.out 1; have hfz85_2 := blk_frozen BK121.out 2) | (go_at_call 44; (with_reducible refine (hatchwayref08_Same.calls kj5 a0_0 a0_1 _ _ l0_2 t114 t115 _ _ t116 true _ ?side1 ?side2 ?side3 ?side4 A37.out).mono ?_); (case side1 => exact Kd.C_below HR0_2.out (by repeat (first | (with_reducible first | exact HB.out | apply below_alloc | apply pw_below_drewN | apply below_drew1 | refine below_set ?_ GE101.out | refine below_set ?_ GE113.out | refine below_set ?_ GE121.out | refine below_set ?_ GE128.out) | exact HB.out))); (case side2 => exact HC0_2.out); (case side3 => refine (Kd.R_reads' (e := 62) (base := w.heap.size) (ok := fun k_ => ((((((True ∧ some k_ ≠ (.slice Ao70 t108.length co70 : Value).ownBlock) ∧ k_ ≠ gb101) ∧ k_ ≠ gb113) ∧ k_ ≠ gb121) ∧ some k_ ≠ (.slice Ao83 t124.length co83 : Value).ownBlock) ∧ k_ ≠ gb128)) (n := t116.length) (c := co76) ?_).2.2; exact (by (with_reducible repeat (first | apply Kd.R_alloc | apply Kd.R_drewN | apply Kd.R_drew)); exact (Kd.R_mono (Kd.R_far (p := ⟨gb128, 2, none⟩) (Kd.R_far (p := ⟨gb128, 1, none⟩) (Kd.R_far (p := ⟨gb128, 0, none⟩) (Kd.R_mono HO118.out (fun k_ hk => (⟨hk, hk.2⟩ : _ ∧ k_ ≠ gb128))) (fun _ hk => hk.2) (.string t122)) (fun _ hk => hk.2) (.bool t123)) (fun _ hk => hk.2) (.slice Ao83 t124.length co83)) (fun _ h_ => h_.1)))); (case side4 => exact (Kd.R_reads' HO118.out).2.1); rintro e w86 ⟨rfl, hb⟩; have n0_ := Aside0.mk (Kd.R_below (by (with_reducible repeat (first | apply Kd.R_alloc | apply Kd.R_drewN | apply Kd.R_drew)); exact (Kd.R_mono (Kd.R_far (p := ⟨gb128, 2, none⟩) (Kd.R_far (p := ⟨gb128, 1, none⟩) (Kd.R_far (p := ⟨gb128, 0, none⟩) (Kd.R_mono HO110.out (fun k_ hk => (⟨hk, hk.2⟩ : _ ∧ k_ ≠ gb128))) (fun _ hk => hk.2) (.string t122)) (fun _ hk => hk.2) (.bool t123)) (fun _ hk => hk.2) (.slice Ao83 t124.length co83)) (fun _ h_ => h_.1))) hb); have n1_ := Aside0.mk (Kd.R_below (by (with_reducible repeat (first | apply Kd.R_alloc | apply Kd.R_drewN | apply Kd.R_drew)); exact (Kd.R_mono (Kd.R_far (p := ⟨gb128, 2, none⟩) (Kd.R_far (p := ⟨gb128, 1, none⟩) (Kd.R_far (p := ⟨gb128, 0, none⟩) (Kd.R_mono HO118.out (fun k_ hk => (⟨hk, hk.2⟩ : _ ∧ k_ ≠ gb128))) (fun _ hk => hk.2) (.string t122)) (fun _ hk => hk.2) (.bool t123)) (fun _ hk => hk.2) (.slice Ao83 t124.length co83)) (fun _ h_ => h_.1))) hb); have n2_ := Aside0.mk (Kd.R_below (by (with_reducible repeat (first | apply Kd.R_alloc | apply Kd.R_drewN | apply Kd.R_drew)); exact (Kd.R_mono (Kd.R_far (p := ⟨gb128, 2, none⟩) (Kd.R_far (p := ⟨gb128, 1, none⟩) (Kd.R_far (p := ⟨gb128, 0, none⟩) (Kd.R_mono HO126.out (fun k_ hk => (⟨hk, hk.2⟩ : _ ∧ k_ ≠ gb128))) (fun _ hk => hk.2) (.string t122)) (fun _ hk => hk.2) (.bool t123)) (fun _ hk => hk.2) (.slice Ao83 t124.length co83)) (fun _ h_ => h_.1))) hb); have n3_ := Aside0.mk (blk_below (g := gb101) (o := .cells #[.string a0_0, .bool a0_1, .slice A0_2 l0_2.length c0_2] 62 (0, 0)) (by (with_reducible repeat (first | refine blk_drewN ?_ _ | refine blk_drew ?_ | refine blk_alloc ?_ _)); refine blk_far ?_ NB101_128.out _; (with_reducible repeat (first | refine blk_drewN ?_ _ | refine blk_drew ?_ | refine blk_alloc ?_ _)); refine blk_far ?_ NB101_128.out _; (with_reducible repeat (first | refine blk_drewN ?_ _ | refine blk_drew ?_ | refine blk_alloc ?_ _)); refine blk_far ?_ NB101_128.out _; (with_reducible repeat (first | refine blk_drewN ?_ _ | refine blk_drew ?_ | refine blk_alloc ?_ _)); exact BK101.out) hb); have n4_ := Aside0.mk (blk_below (g := gb113) (o := .cells #[.string t106, .bool t107, .slice Ao70 t108.length co70] 62 (0, 0)) (by (with_reducible repeat (first | refine blk_drewN ?_ _ | refine blk_drew ?_ | refine blk_alloc ?_ _)); refine blk_far ?_ NB113_128.out _; (with_reducible repeat (first | refine blk_drewN ?_ _ | refine blk_drew ?_ | refine blk_alloc ?_ _)); refine blk_far ?_ NB113_128.out _; (with_reducible repeat (first | refine blk_drewN ?_ _ | refine blk_drew ?_ | refine blk_alloc ?_ _)); refine blk_far ?_ NB113_128.out _; (with_reducible repeat (first | refine blk_drewN ?_ _ | refine blk_drew ?_ | refine blk_alloc ?_ _)); exact BK113.out) hb); have n5_ := Aside0.mk (blk_below (g := gb121) (o := .cells #[.string t114, .bool t115, .slice Ao76 t116.length co76] 62 (0, 0)) (by (with_reducible repeat (first | refine blk_drewN ?_ _ | refine blk_drew ?_ | refine blk_alloc ?_ _)); refine blk_far ?_ NB121_128.out _; (with_reducible repeat (first | refine blk_drewN ?_ _ | refine blk_drew ?_ | refine blk_alloc ?_ _)); refine blk_far ?_ NB121_128.out _; (with_reducible repeat (first | refine blk_drewN ?_ _ | refine blk_drew ?_ | refine blk_alloc ?_ _)); refine blk_far ?_ NB121_128.out _; (with_reducible repeat (first | refine blk_drewN ?_ _ | refine blk_drew ?_ | refine blk_alloc ?_ _)); exact BK121.out) hb); have n6_ := Aside0.mk (blk_below (g := gb128) (o := .cells #[.string t122, .bool t123, .slice Ao83 t124.length co83] 62 (0, 0)) (by (with_reducible repeat (first | refine blk_drewN ?_ _ | refine blk_drew ?_ | refine blk_alloc ?_ _)); refine blk_put (cs := #[.string t122, .bool t123, .slice none 0 0]) ?_ 2 _ rfl; (with_reducible repeat (first | refine blk_drewN ?_ _ | refine blk_drew ?_ | refine blk_alloc ?_ _)); refine blk_put (cs := #[.string t122, .bool false, .slice none 0 0]) ?_ 1 _ rfl; (with_reducible repeat (first | refine blk_drewN ?_ _ | refine blk_drew ?_ | refine blk_alloc ?_ _)); refine blk_put (cs := #[.string (⟨#[]⟩ : ByteArray), .bool false, .slice none 0 0]) ?_ 0 _ rfl; (with_reducible repeat (first | refine blk_drewN ?_ _ | refine blk_drew ?_ | refine blk_alloc ?_ _)); exact BK128.out) hb); have n7_ := Aside0.mk (below_step (by repeat (first | (with_reducible first | exact HB.out | apply below_alloc | apply pw_below_drewN | apply below_drew1 | refine below_set ?_ GE101.out | refine below_set ?_ GE113.out | refine below_set ?_ GE121.out | refine below_set ?_ GE128.out) | exact HB.out)) hb); clear HO110; clear HO118; clear HO126; clear BK101; clear BK113; clear BK121; clear BK128; clear HB; have HO110 := n0_; have HO118 := n1_; have HO126 := n2_; have BK101 := n3_; have BK113 := n4_; have BK121 := n5_; have BK128 := n6_; have HB := n7_; clear n0_ n1_ n2_ n3_ n4_ n5_ n6_ n7_; (try clear hb); (try clear hb2); (try clear hk); (try clear hi)))
                go_ret
                exact ⟨by first | rfl | (simp [errW_none, errW_some] <;> rfl) | (simp only [← hji26]; first | rfl | (simp [errW_none, errW_some] <;> rfl)) | (simp [*, errW_none, errW_some] <;> rfl), by repeat (first | (with_reducible first | exact HB.out | apply below_alloc | apply pw_below_drewN | apply below_drew1 | refine below_set ?_ GE101.out | refine below_set ?_ GE113.out | refine below_set ?_ GE121.out | refine below_set ?_ GE128.out) | exact HB.out)⟩
              ·rw [if_neg c39] at H
               exact absurd ((Option.some.inj H).trans ht_) (by decide)
             ·replace c38 := Bool.eq_false_iff.mpr c38
              subst c38
              have H1 : (some false) = some r := by rw [if_neg (show ¬ (false = true) by decide)] at H; exact H
              clear H
              have H := H1
              clear H1
              exact absurd ((Option.some.inj H).trans ht_) (by decide)
            ·rw [if_neg c36] at H
             exact absurd ((Option.some.inj H).trans ht_) (by decide)
           ·rw [if_neg c35] at H
            exact absurd ((Option.some.inj H).trans ht_) (by decide)
          ·rw [if_neg c34] at H
           exact absurd ((Option.some.inj H).trans ht_) (by decide)
         ·rw [if_neg c33] at H
          exact absurd ((Option.some.inj H).trans ht_) (by decide)
        ·rw [if_neg c30] at H
         exact absurd H (by simp)
       ·rw [if_neg c28] at H
        exact absurd H (by simp)
      ·rw [if_neg c27] at H
       exact absurd H (by simp)
 ·replace c5 := Bool.eq_false_iff.mpr c5
  subst c5
  have H1 : (some false) = some r := by rw [if_neg (show ¬ (false = true) by decide)] at H; exact H
  clear H
  have H := H1
  clear H1
  exact absurd ((Option.some.inj H).trans ht_) (by decide)
end Go.Proofs.Yteoibgpkimlahaa.P
end
section
namespace Go.Proofs.Yteoibgpkimlahaa.P
open Go.RowKit Go.Proofs.YteoibgpkimlahaaW.PrintWords Go.Proofs.YteoibgpkimlahaaW.PrintLast Go.Proofs.YteoibgpkimlahaaW.PrintMore
theorem getLeast_dg (n : Int) (h0 : 0 ≤ n) (h1 : n < 18446744073709551616) : fixed_GetLeast.f (strOfNums (digs n)) = some (n, 0) := by
 unfold fixed_GetLeast.f
 have hb := bytesOf_str (digs n) (digs_byte n)
 rw [if_neg (by rw [strOfNums_size, digs_length]; have := sz_u64 h0 h1; omega), if_neg ?_, hb, numL_digs n h0]
 rintro ⟨h2, h3⟩
 have hn : 0 < n := by
  rcases Int.lt_or_le 0 n with h | h
  ·exact h
  ·exfalso
   have : n = 0 := by omega
   subst this
   rw [digs_zero] at h2
   exact h2 (by rw [toList_str]; rfl)
 have h4 := digs_head n hn
 have h5 := bt_getD (strOfNums (digs n)) 0
 rw [hb] at h5
 rw [show ((0 : Nat) : Int) = 0 from rfl, h3] at h5
 cases hd : digs n with
 | nil =>
  have := digs_length n
  rw [hd, sz_pos hn] at this
  simp at this
 | cons a l =>
  rw [hd] at h5 h4
  simp at h5 h4
  omega
section
variable {s : ByteArray}
theorem bt_drop {a : Nat} {b : Int} {r : List Int} (h : (bytesOf s).drop a = b :: r) : bt s a = b := by
 rw [bt_getD]
 have h2 : (bytesOf s)[a]? = some b := by
  have := congrArg (fun l => l[0]?) h
  simpa using this
 simp [List.getD, h2]
theorem drop_more {a : Nat} {p r : List Int} (h : (bytesOf s).drop a = p ++ r) : (bytesOf s).drop (a + p.length) = r := by
 rw [← List.drop_drop, h, List.drop_left]
theorem bytesOf_ext (s : ByteArray) (a b : Nat) : bytesOf (s.extract a b) = ((bytesOf s).drop a).take (b - a) := by
 unfold bytesOf
 rw [← List.map_drop, ← List.map_take]
 congr 1
 rw [ByteArray.data_extract, Array.toList_extract]
theorem ext_text {a : Nat} {t : ByteArray} {r : List Int} (h : (bytesOf s).drop a = bytesOf t ++ r) : s.extract a (a + t.size) = t := by
 refine bytesOf_inj ?_
 rw [bytesOf_ext, h, Nat.add_sub_cancel_left, ← bytesOf_length t, List.take_left]
theorem ext_digs {a : Nat} {n : Int} {r : List Int} (h : (bytesOf s).drop a = digs n ++ r) : s.extract a (a + sz n) = strOfNums (digs n) := by
 refine bytesOf_inj ?_
 rw [bytesOf_ext, h, bytesOf_str _ (digs_byte n), Nat.add_sub_cancel_left, ← digs_length n, List.take_left]
theorem start_ok {a d t : Int} {st : List S151} (h1 : a < endD s st) (h2 : (st.length : Int) < d) (h3 : 1 ≤ t) : startF s a d t st = 0 := by
 unfold startF startF2 startF1
 rw [if_neg (by omega), if_neg (by omega), if_neg (by omega)]
 rfl
theorem lenD_head {by_ : Int} {n a : Nat} {st : List S151} {r : List Int} (hn : n ≤ 1099511627776) (h : (bytesOf s).drop a = headL by_ n ++ r) (he : (a + (headL by_ n).length + n : Nat) ≤ endD s st) :
  by_ ≤ bt s a ∧ bt s a < by_ + 64 ∧ lenD s ((a : Int) + 1) st (bt s a - by_) = ((n : Int), ((a + (headL by_ n).length : Nat) : Int), 0) := by
 unfold headL at h he ⊢
 by_cases c : (n : Int) ≤ 55
 ·rw [if_pos c] at h he ⊢
  have hbt := bt_drop (b := by_ + n) h
  rw [hbt, show by_ + (n : Int) - by_ = n by omega]
  refine ⟨by omega, by omega, ?_⟩
  unfold lenD
  simp only [List.length_cons, List.length_nil] at he ⊢
  rw [if_pos c, if_neg (by omega)]
  refine Prod.ext rfl (Prod.ext ?_ rfl)
  show (a : Int) + 1 = ((a + (0 + 1) : Nat) : Int)
  omega
 ·rw [if_neg c] at h he ⊢
  have hs8 := sz_u64 (n := (n : Int)) (by omega) (by omega)
  have hs1 : 1 ≤ sz (n : Int) := by rw [sz_pos (by omega)]; omega
  have hbt := bt_drop (b := by_ + 55 + sz (n : Int)) h
  have hd : (bytesOf s).drop (a + 1) = digs n ++ r := drop_more (p := [by_ + 55 + (sz (n : Int) : Int)]) h
  have hx := ext_digs hd
  rw [hbt, show by_ + 55 + (sz (n : Int) : Int) - by_ = 55 + sz (n : Int) by omega]
  refine ⟨by omega, by omega, ?_⟩
  simp only [List.length_cons, digs_length] at he ⊢
  unfold lenD
  rw [if_neg (by omega), if_neg (by omega), show ((a : Int) + 1).toNat = a + 1 by omega, show ((a : Int) + 1 + (55 + (sz (n : Int) : Int) - 55)).toNat = a + 1 + sz (n : Int) by omega, hx, getLeast_dg n (by omega) (by omega)]
  simp only
  rw [if_neg (by omega), if_pos ⟨trivial, by omega⟩]
  refine Prod.ext rfl (Prod.ext ?_ rfl)
  show (a : Int) + 1 + (55 + (sz (n : Int) : Int) - 55) = ((a + (sz (n : Int) + 1) : Nat) : Int)
  omega
theorem one_text {t : ByteArray} {a : Nat} {d tt : Int} {st : List S151} {r : List Int} (ht : t.size ≤ 1099511627776) (h : (bytesOf s).drop a = putL ⟨t, false, []⟩ ++ r) (he : (a + (putL ⟨t, false, []⟩).length : Nat) ≤ endD s st) (hd : (st.length : Int) < d) (h1 : 1 ≤ tt) :
  oneD s a d tt st = (t, true, ((a + (putL ⟨t, false, []⟩).length : Nat) : Int), st, 0) := by
 have hp := putL_pos ⟨t, false, []⟩
 have h0 := start_ok (s := s) (a := a) (d := d) (t := tt) (st := st) (by omega) hd h1
 rw [show putL ⟨t, false, []⟩ = if t.size = 1 ∧ bt t 0 < 128 then bytesOf t else headL 128 t.size ++ bytesOf t by rw [putL_eq, if_neg (by simp)]] at h he ⊢
 unfold oneD
 rw [if_neg (by rw [h0]; simp)]
 by_cases c : t.size = 1 ∧ bt t 0 < 128
 ·rw [if_pos c] at h he ⊢
  have e1 : bytesOf t = [bt t 0] := by
   have hl := bytesOf_length t
   rw [c.1] at hl
   obtain ⟨b, hb⟩ := List.length_eq_one_iff.1 hl
   rw [hb, show bt t 0 = bt t ((0 : Nat) : Int) from rfl, bt_getD, hb]
   rfl
  have hbt := bt_drop (b := bt t 0) (r := r) (by rw [h, e1]; rfl)
  rw [hbt, if_pos c.2, ← e1, str_bytesOf, bytesOf_length, c.1]
  exact Prod.ext rfl (Prod.ext rfl (Prod.ext (show (a : Int) + 1 = ((a + 1 : Nat) : Int) by omega) rfl))
 ·rw [if_neg c] at h he ⊢
  rw [List.append_assoc] at h
  rw [List.length_append, bytesOf_length] at he ⊢
  obtain ⟨b1, b2, b3⟩ := lenD_head (by_ := 128) (st := st) ht h (by omega)
  have hh := headL_len 128 t.size (by omega) (by omega)
  rw [if_neg (by omega), if_pos (by omega), b3]
  simp only
  have hx := ext_text (drop_more h)
  rw [if_pos trivial, show ((a + (headL 128 (t.size : Int)).length : Nat) : Int).toNat = a + (headL 128 (t.size : Int)).length by omega, show (((a + (headL 128 (t.size : Int)).length : Nat) : Int) + (t.size : Int)).toNat = a + (headL 128 (t.size : Int)).length + t.size by omega, hx]
  have hc : ¬ ((t.size : Int) = 1 ∧ bt s ((a + (headL 128 (t.size : Int)).length : Nat) : Int) < 128) := by
   rintro ⟨q1, q2⟩
   refine c ⟨by omega, ?_⟩
   have e1 : bytesOf t = [bt t 0] := by
    have hl := bytesOf_length t
    obtain ⟨b, hb⟩ := List.length_eq_one_iff.1 (show (bytesOf t).length = 1 by omega)
    rw [hb, show bt t 0 = bt t ((0 : Nat) : Int) from rfl, bt_getD, hb]
    rfl
   have hbt := bt_drop (b := bt t 0) (r := r) (by rw [drop_more h, e1]; rfl)
   rw [hbt] at q2
   exact q2
  rw [if_neg hc]
  exact Prod.ext rfl (Prod.ext rfl (Prod.ext (show ((a + (headL 128 (t.size : Int)).length : Nat) : Int) + (t.size : Int) = ((a + ((headL 128 (t.size : Int)).length + t.size) : Nat) : Int) by omega) rfl))
theorem one_list {n a : Nat} {d tt : Int} {st : List S151} {r : List Int} (hn : n ≤ 1099511627776) (h : (bytesOf s).drop a = headL 192 n ++ r) (he : (a + (headL 192 n).length + n : Nat) ≤ endD s st) (hd : (st.length : Int) < d) (h1 : 1 ≤ tt) :
  oneD s a d tt st = (⟨#[]⟩, false, ((a + (headL 192 n).length : Nat) : Int), st ++ [⟨[], ((a + (headL 192 n).length + n : Nat) : Int)⟩], 0) := by
 have hp := headL_pos 192 n
 have h0 := start_ok (s := s) (a := a) (d := d) (t := tt) (st := st) (by omega) hd h1
 obtain ⟨b1, b2, b3⟩ := lenD_head (by_ := 192) (st := st) hn h he
 unfold oneD
 rw [if_neg (by rw [h0]; simp), if_neg (by omega), if_neg (by omega), b3]
 rw [show ((a + (headL 192 (n : Int)).length : Nat) : Int) + (n : Int) = ((a + (headL 192 (n : Int)).length + n : Nat) : Int) by omega]
theorem rd_top (st : List S151) (o : S151) : rd_T151 (st ++ [o]) (st.length : Int) = o := by
 unfold rd_T151
 rw [Int.toNat_natCast, List.getD, List.getElem?_append_right (Nat.le_refl _), Nat.sub_self]
 rfl
theorem endD_top (st : List S151) (o : S151) : endD s (st ++ [o]) = o.f1 := by
 unfold endD
 rw [if_neg (by simp), show ((st ++ [o]).length : Int) - 1 = (st.length : Int) by simp, rd_top]
def shutThen (s : ByteArray) (d : Int) (k : Nat) (a t : Int) (st : List S151) (x : S62) : S62 × Int × Int :=
 if (shutD a st.length true x st).1 = true then ((shutD a st.length true x st).2.1, a, 0) else nextL s d k a t (shutD a st.length true x st).2.2
theorem shutThen_nil (d : Int) (k : Nat) (a t : Int) (x : S62) : shutThen s d k a t [] x = (x, a, 0) := rfl
theorem shut_top (a : Int) (ok : Bool) (x : S62) (st : List S151) (o : S151) : shutD a (st ++ [o]).length ok x (st ++ [o]) =
  if a < o.f1 then (false, z62, if ok = true then st ++ [⟨o.f0 ++ [x], o.f1⟩] else st ++ [o]) else shutD a st.length true ⟨⟨#[]⟩, true, if ok = true then o.f0 ++ [x] else o.f0⟩ st := by
 rw [List.length_append, List.length_singleton, shutD, rd_top, List.set_append_right _ _ (Nat.le_refl _), Nat.sub_self, List.take_left]
 rfl
theorem shutThen_in {d : Int} {k : Nat} {a t : Int} {st : List S151} {x : S62} {l : List S62} {e : Int} (h : a < e) : shutThen s d k a t (st ++ [⟨l, e⟩]) x = nextL s d k a t (st ++ [⟨l ++ [x], e⟩]) := by
 unfold shutThen
 rw [shut_top, if_pos h]
 rfl
theorem shutThen_end {d : Int} {k : Nat} {a t : Int} {st : List S151} {x : S62} {l : List S62} {e : Int} (h : ¬ a < e) : shutThen s d k a t (st ++ [⟨l, e⟩]) x = shutThen s d k a t st ⟨⟨#[]⟩, true, l ++ [x]⟩ := by
 unfold shutThen
 rw [shut_top, if_neg h]
 rfl
theorem next_text {d : Int} {k : Nat} {a t a' : Int} {st : List S151} {x : ByteArray} (h : oneD s a d t st = (x, true, a', st, 0)) : nextL s d (k + 1) a t st = shutThen s d k a' (t - 1) st ⟨x, false, []⟩ := by
 rw [nextL, h]
 rfl
theorem next_list {d : Int} {k : Nat} {a t a' e : Int} {st : List S151} (h : oneD s a d t st = (⟨#[]⟩, false, a', st ++ [⟨[], e⟩], 0)) : nextL s d (k + 1) a t st = if a' < e then nextL s d k a' (t - 1) (st ++ [⟨[], e⟩]) else shutThen s d k a' (t - 1) st ⟨⟨#[]⟩, true, []⟩ := by
 rw [nextL, h]
 simp only
 rw [shut_top]
 by_cases c : a' < e
 ·rw [if_pos c, if_pos c]
  rfl
 ·rw [if_neg c, if_neg c]
  rfl
theorem next_fault {d : Int} {k : Nat} {a t f : Int} {st : List S151} (h : startF s a d t st = f) (hf : f ≠ 0) : nextL s d (k + 1) a t st = (z62, 0, f) := by
 have e : (oneD s a d t st).2.2.2.2 = f := by
  unfold oneD
  rw [if_pos (by rw [h]; exact hf), h]
 rw [nextL, if_neg (by rw [e]; exact hf), e]
theorem rgt_text {t : ByteArray} {sub : List S62} (h : rgt ⟨t, false, sub⟩ = true) : sub = [] := by
 rw [rgt_eq, Bool.and_eq_true] at h
 exact List.isEmpty_iff.1 h.1
theorem rgt_list {t : ByteArray} {sub : List S62} (h : rgt ⟨t, true, sub⟩ = true) : t = ⟨#[]⟩ ∧ rgts sub = true := by
 rw [rgt_eq, Bool.and_eq_true] at h
 exact ⟨toList_inj ((List.isEmpty_iff.1 h.1 : t.toList = []).trans (by rw [ByteArray.toList_eq])), h.2⟩
theorem rgts_mem : ∀ (ys : List S62) (y : S62), y ∈ ys → rgts ys = true → rgt y = true
 | z :: zs, y, h, hr => by
  rw [rgts_cons, Bool.and_eq_true] at hr
  rcases List.mem_cons.1 h with rfl | h
  ·exact hr.1
  ·exact rgts_mem zs y h hr.2
def Reads (s : ByteArray) (d : Int) (x : S62) : Prop := ∀ (a : Nat) (t : Int) (st : List S151) (k : Nat) (r : List Int), (bytesOf s).drop a = putL x ++ r → ((a + (putL x).length : Nat) : Int) ≤ endD s st → (st.length : Int) + dep x ≤ d → (cnt x : Int) ≤ t → cnt x ≤ k →
 nextL s d k a t st = shutThen s d (k - cnt x) ((a + (putL x).length : Nat) : Int) (t - cnt x) st x
theorem run_items {d : Int} : ∀ (ys : List S62), (∀ y ∈ ys, Reads s d y) → ys ≠ [] → ∀ (a : Nat) (t : Int) (st : List S151) (l : List S62) (k : Nat) (r : List Int), (bytesOf s).drop a = putsL ys ++ r → (st.length : Int) + 1 + deps ys ≤ d → (cnts ys : Int) ≤ t → cnts ys ≤ k →
  nextL s d k a t (st ++ [⟨l, ((a + (putsL ys).length : Nat) : Int)⟩]) = shutThen s d (k - cnts ys) ((a + (putsL ys).length : Nat) : Int) (t - cnts ys) st ⟨⟨#[]⟩, true, l ++ ys⟩ := by
 intro ys
 induction ys with
 | nil => intro _ h; exact absurd rfl h
 | cons y ys ih =>
  intro hy _ a t st l k r h hd ht hk
  rw [deps_cons] at hd
  rw [cnts_cons] at ht hk ⊢
  rw [putsL_cons, List.append_assoc] at h
  rw [putsL_cons, List.length_append]
  have h1 := hy y (by simp) a t (st ++ [⟨l, ((a + ((putL y).length + (putsL ys).length) : Nat) : Int)⟩]) k _ h (by rw [endD_top]; show _ ≤ ((a + ((putL y).length + (putsL ys).length) : Nat) : Int); omega) (by rw [List.length_append, List.length_singleton]; omega) (by omega) (by omega)
  rw [h1]
  cases hys : ys with
  | nil =>
   subst hys
   simp only [putsL, cnts, List.length_nil, Nat.add_zero]
   rw [shutThen_end (by omega)]
  | cons z zs =>
   rw [← hys]
   have hp : 1 ≤ (putsL ys).length := by rw [hys, putsL_cons, List.length_append]; have := putL_pos z; omega
   rw [shutThen_in (by omega)]
   have h2 := ih (fun q hq => hy q (List.mem_cons_of_mem _ hq)) (by rw [hys]; simp) (a + (putL y).length) (t - cnt y) st (l ++ [y]) (k - cnt y) r (drop_more h) (by omega) (by omega) (by omega)
   rw [show a + (putL y).length + (putsL ys).length = a + ((putL y).length + (putsL ys).length) by omega] at h2
   rw [h2, List.append_assoc, show k - cnt y - cnts ys = k - (cnt y + cnts ys) by omega, show t - (cnt y : Int) - (cnts ys : Int) = t - ((cnt y + cnts ys : Nat) : Int) by omega]
   rfl
theorem run_item (hs : s.size ≤ 1099511627776) {d : Int} : ∀ x : S62, rgt x = true → Reads s d x
 | ⟨t, false, sub⟩, hr => by
  obtain rfl := rgt_text hr
  intro a tt st k r h he hd ht hk
  rw [dep_eq] at hd
  have hc : cnt ⟨t, false, []⟩ = 1 := by rw [cnt_eq, cnts]
  rw [hc] at ht hk ⊢
  have hsz : t.size ≤ 1099511627776 := by
   have h1 := congrArg List.length h
   rw [List.length_drop, bytesOf_length, List.length_append, putL_eq, if_neg (by simp)] at h1
   split at h1
   ·rename_i q; omega
   ·rw [List.length_append, bytesOf_length] at h1; omega
  obtain ⟨k, rfl⟩ : ∃ q, k = q + 1 := ⟨k - 1, by omega⟩
  rw [next_text (one_text hsz h he (by omega) (by omega))]
  rfl
 | ⟨t, true, sub⟩, hr => by
  obtain ⟨rfl, hrs⟩ := rgt_list hr
  intro a tt st k r h he hd ht hk
  rw [dep_eq] at hd
  rw [cnt_eq] at ht hk ⊢
  rw [putL_eq, if_pos rfl, List.append_assoc] at h
  rw [putL_eq, if_pos rfl, List.length_append] at he ⊢
  have hsz : (putsL sub).length ≤ 1099511627776 := by
   have h1 := congrArg List.length h
   rw [List.length_drop, bytesOf_length, List.length_append, List.length_append] at h1
   omega
  obtain ⟨k, rfl⟩ : ∃ q, k = q + 1 := ⟨k - 1, by omega⟩
  rw [next_list (one_list hsz h (by omega) (by omega) (by omega))]
  cases hsub : sub with
  | nil =>
   subst hsub
   have hz : (putsL ([] : List S62)).length = 0 := by simp [putsL]
   rw [if_neg (by omega)]
   simp only [putsL, cnts, List.length_nil, Nat.add_zero]
   rfl
  | cons z zs =>
   rw [← hsub]
   have hp : 1 ≤ (putsL sub).length := by rw [hsub, putsL_cons, List.length_append]; have := putL_pos z; omega
   rw [if_pos (by omega)]
   have h2 := run_items (d := d) sub (fun y hy => run_item hs y (rgts_mem sub y hy hrs)) (by rw [hsub]; simp) (a + (headL 192 (putsL sub).length).length) (tt - 1) st [] k r (drop_more h) (by omega) (by omega) (by omega)
   rw [h2, List.nil_append, show k + 1 - (1 + cnts sub) = k - cnts sub by omega, show tt - ((1 + cnts sub : Nat) : Int) = tt - 1 - (cnts sub : Int) by omega, Nat.add_assoc]
 termination_by x => SizeOf.sizeOf x
 decreasing_by
 have := List.sizeOf_lt_of_mem hy
 simp
 omega
end
end Go.Proofs.Yteoibgpkimlahaa.P
end
section
namespace Go.Proofs.Yteoibgpkimlahaa.P
open Go.RowKit Go.Proofs.YteoibgpkimlahaaW.PrintWords Go.Proofs.YteoibgpkimlahaaW.PrintLast Go.Proofs.YteoibgpkimlahaaW.PrintMore
section
variable {s : ByteArray}
theorem endD_nil : endD s [] = (s.size : Int) := rfl
theorem next_whole {x : S62} {r : List Int} {depth items : Int} (hr : rgt x = true) (h : bytesOf s = putL x ++ r) (hs : s.size ≤ 1099511627776) (hd : (dep x : Int) ≤ depth) (hd2 : dep x ≤ 16) (hc : (cnt x : Int) ≤ items) (hc2 : cnt x ≤ 1024) :
  nextF s depth items = (x, ((putL x).length : Int), 0) := by
 have hlen : (putL x).length ≤ s.size := by
  have := congrArg List.length h
  rw [bytesOf_length, List.length_append] at this
  omega
 have hI : (cnt x : Int) ≤ capI items := by unfold capI; split <;> split <;> omega
 have hD : (dep x : Int) ≤ capD depth := by unfold capD; split <;> omega
 have h1 := run_item hs (d := capD depth) x hr 0 (capI items) [] ((capI items).toNat + 1) r (by rw [List.drop_zero]; exact h) (by rw [endD_nil]; omega) (by rw [List.length_nil]; omega) hI (by omega)
 unfold nextF
 rw [shutThen_nil, Nat.zero_add] at h1
 exact h1
end
end Go.Proofs.Yteoibgpkimlahaa.P
end
section
namespace Go.Proofs.Yteoibgpkimlahaa.P
open Go.RowKit Go.Proofs.YteoibgpkimlahaaW.PrintWords Go.Proofs.YteoibgpkimlahaaW.PrintLast Go.Proofs.YteoibgpkimlahaaW.PrintMore
theorem next_is {s : ByteArray} {depth items : Int} {x : S62} {n e : Int} (hs : s.size ≤ 1099511627776) (h : nextF s depth items = (x, n, e)) : rlp_Next.f s depth items = some (x.f0, x.f1, x.f2, n, e) := by
 unfold rlp_Next.f
 rw [if_pos hs, h]
theorem get_is {s : ByteArray} {depth items : Int} {x : S62} {n e : Int} (hs : s.size ≤ 1099511627776) (h : nextF s depth items = (x, n, e)) :
  rlp_Get.f s depth items = some (if e = 0 then if n < (s.size : Int) then (⟨#[]⟩, false, [], 3) else (x.f0, x.f1, x.f2, 0) else (⟨#[]⟩, false, [], e)) := by
 unfold rlp_Get.f
 rw [next_is hs h, Option.bind_some]
 simp only
 split <;> (try split) <;> rfl
theorem mayI_of {x : S62} (h : mayI x = true) : rgt x = true ∧ dep x ≤ 16 ∧ cnt x ≤ 1024 := by
 unfold mayI at h
 rw [Bool.and_eq_true, Bool.and_eq_true] at h
 exact ⟨h.1.1, of_decide_eq_true h.1.2, of_decide_eq_true h.2⟩
theorem isByte_headL (by_ n : Int) (hb : by_ = 128 ∨ by_ = 192) (h0 : 0 ≤ n) (h1 : n ≤ 1099511627776) : IsByte (headL by_ n) := by
 unfold headL
 have hs := sz_u64 h0 (show n < 18446744073709551616 by omega)
 split
 ·intro b hb2
  rw [List.mem_singleton] at hb2
  omega
 ·intro b hb2
  rcases List.mem_cons.1 hb2 with rfl | hb2
  ·omega
  ·exact digs_byte n b hb2
theorem isByte_puts : ∀ (ys : List S62), (∀ y ∈ ys, IsByte (putL y)) → IsByte (putsL ys)
 | [], _ => by rw [putsL]; intro b hb; cases hb
 | y :: ys, h => by
  rw [putsL_cons]
  intro b hb
  rcases List.mem_append.1 hb with hb | hb
  ·exact h y (by simp) b hb
  ·exact isByte_puts ys (fun z hz => h z (List.mem_cons_of_mem _ hz)) b hb
theorem isByte_put : ∀ (x : S62), cnt x ≤ 1200 → tot x ≤ 6000 → IsByte (putL x)
 | ⟨t, l, sub⟩, hc, ht => by
  rw [cnt_eq] at hc
  rw [tot_eq] at ht
  have hr := putsL_room sub (fun y hy => putL_room y (by have := cnts_mem sub y hy; omega) (by have := tots_mem sub y hy; omega))
  have h := isByte_puts sub (fun y hy => isByte_put y (by have := cnts_mem sub y hy; omega) (by have := tots_mem sub y hy; omega))
  rw [putL_eq]
  split
  ·intro b hb
   rcases List.mem_append.1 hb with hb | hb
   ·exact isByte_headL 192 _ (.inr rfl) (by omega) (by omega) b hb
   ·exact h b hb
  ·split
   ·exact bytesOf_byte t
   ·intro b hb
    rcases List.mem_append.1 hb with hb | hb
    ·exact isByte_headL 128 _ (.inl rfl) (by omega) (by omega) b hb
    ·exact bytesOf_byte t b hb
theorem bytesOf_put (x : S62) (h1 : cnt x ≤ 1200) (h2 : tot x ≤ 6000) : bytesOf (strOfNums (putL x)) = putL x := bytesOf_str _ (isByte_put x h1 h2)
end Go.Proofs.Yteoibgpkimlahaa.P
end
section
namespace Go.Proofs.Yteoibgpkimlahaa.P
open Go.RowKit Go.Proofs.YteoibgpkimlahaaW.PrintWords Go.Proofs.YteoibgpkimlahaaW.PrintLast Go.Proofs.YteoibgpkimlahaaW.PrintMore
theorem wf_u16 {a : Int} (h : (Lit.int .u16 a).wf = true) : 0 ≤ a ∧ a < 65536 := by
 have hmin : IntKind.u16.min = 0 := rfl
 have hmax : IntKind.u16.max = 65535 := rfl
 simp only [Lit.wf, Bool.and_eq_true, decide_eq_true_eq] at h
 omega
set_option maxRecDepth 100000 in
theorem alive09 : hatchwaylaw09_alive.f = some true := by decide +kernel
section
variable {s : ByteArray}
theorem lack_nil : lackE [] = 2 := rfl
theorem lenD_cut {by_ : Int} {n c : Nat} {body : List Int} (hn : n ≤ 1099511627776) (hbl : body.length = n) (h : bytesOf s = (headL by_ n ++ body).take c) (h1 : 1 ≤ c) (h2 : c < (headL by_ n).length + n) :
  by_ ≤ bt s 0 ∧ bt s 0 < by_ + 64 ∧ (lenD s 1 [] (bt s 0 - by_)).2.2 = 2 := by
 have hs : s.size = c := by
  have := congrArg List.length h
  rw [bytesOf_length, List.length_take, List.length_append] at this
  omega
 have hE : endD s [] = c := by rw [endD_nil, hs]
 obtain ⟨c, rfl⟩ : ∃ q, c = q + 1 := ⟨c - 1, by omega⟩
 unfold headL at h h2
 by_cases k : (n : Int) ≤ 55
 ·rw [if_pos k] at h h2
  have hbt : bt s 0 = by_ + n := bt_drop (s := s) (a := 0) (r := (body.take c)) (by rw [List.drop_zero, h]; rfl)
  rw [hbt, show by_ + (n : Int) - by_ = n by omega]
  refine ⟨by omega, by omega, ?_⟩
  rw [List.length_singleton] at h2
  unfold lenD
  rw [if_pos k, hE, if_pos (by omega)]
  exact lack_nil
 ·rw [if_neg k] at h h2
  have hs8 := sz_u64 (n := (n : Int)) (by omega) (by omega)
  have hs1 : 1 ≤ sz (n : Int) := by rw [sz_pos (by omega)]; omega
  have hbt : bt s 0 = by_ + 55 + sz (n : Int) := bt_drop (s := s) (a := 0) (r := ((digs n ++ body).take c)) (by rw [List.drop_zero, h]; rfl)
  rw [hbt, show by_ + 55 + (sz (n : Int) : Int) - by_ = 55 + sz (n : Int) by omega]
  refine ⟨by omega, by omega, ?_⟩
  rw [List.length_cons, digs_length] at h2
  unfold lenD
  rw [if_neg (by omega), hE]
  by_cases k2 : ((c + 1 : Nat) : Int) - 1 < 55 + (sz (n : Int) : Int) - 55
  ·rw [if_pos k2]
   exact lack_nil
  ·rw [if_neg k2]
   have hd : (bytesOf s).drop 1 = digs n ++ body.take (c - sz (n : Int)) := by
    rw [h, List.cons_append, List.take_succ_cons, List.drop_succ_cons, List.drop_zero, List.take_append, digs_length, List.take_of_length_le (by rw [digs_length]; omega)]
   have hx := ext_digs hd
   rw [show (1 : Int).toNat = 1 from rfl, show ((1 : Int) + (55 + (sz (n : Int) : Int) - 55)).toNat = 1 + sz (n : Int) by omega, hx, getLeast_dg n (by omega) (by omega)]
   simp only
   rw [if_pos (by omega), if_pos ⟨trivial, by omega⟩]
   rfl
theorem next_short {k : Nat} {a d t f : Int} {st : List S151} (h : (oneD s a d t st).2.2.2.2 = f) (hf : f ≠ 0) : nextL s d (k + 1) a t st = (z62, 0, f) := by
 rw [nextL, if_neg (by rw [h]; exact hf), h]
theorem next_cut {x : S62} {c : Nat} (h : bytesOf s = (putL x).take c) (hc : c < (putL x).length) (hl : (putL x).length ≤ 1099511627776) : nextF s 16 1024 = (z62, 0, 2) := by
 have hs : s.size = c := by
  have := congrArg List.length h
  rw [bytesOf_length, List.length_take] at this
  omega
 have hD : capD 16 = 16 := rfl
 have hI : capI 1024 = 1024 := rfl
 unfold nextF
 rw [hD, hI]
 cases c with
 | zero =>
  refine next_fault ?_ (by decide)
  unfold startF startF2 startF1
  rw [if_pos (by rw [endD_nil, hs]; rfl), if_neg (by simp), if_neg (by decide)]
  rfl
 | succ c =>
  have h0 := start_ok (s := s) (a := 0) (d := 16) (t := 1024) (st := []) (by rw [endD_nil, hs]; omega) (by simp) (by decide)
  refine next_short (f := 2) ?_ (by decide)
  unfold oneD
  rw [if_neg (by rw [h0]; simp)]
  cases x with
  | mk t l sub =>
   rw [putL_eq] at h hc hl
   cases l with
   | true =>
    rw [if_pos rfl] at h hc hl
    rw [List.length_append] at hc hl
    obtain ⟨b1, b2, b3⟩ := lenD_cut (s := s) (by omega) rfl h (by omega) hc
    rw [if_neg (by omega), if_neg (by omega)]
    exact b3
   | false =>
    rw [if_neg (by simp)] at h hc hl
    by_cases q : t.size = 1 ∧ bt t 0 < 128
    ·rw [if_pos q, bytesOf_length] at hc
     omega
    ·rw [if_neg q] at h hc hl
     rw [List.length_append] at hl hc
     rw [bytesOf_length] at hl hc
     obtain ⟨b1, b2, b3⟩ := lenD_cut (s := s) (by omega) (bytesOf_length t) h (by omega) hc
     have b3' : (lenD s (0 + 1) [] (bt s 0 - 128)).2.2 = 2 := b3
     rw [if_neg (by omega), if_pos (by omega), if_neg (by rw [b3']; decide)]
     exact b3
end
theorem cut_is (a : Int) (n : Nat) (h0 : 0 ≤ a) (h1 : a < 65536) (hn : 1 ≤ n) : ∃ m : Nat, Int.tmod (wrap64 a) n = m ∧ m < n := by
 have e1 : wrap64 a = a := by unfold wrap64; omega
 have e3 : Int.tmod a n = a % n := Int.tmod_eq_emod_of_nonneg h0
 have e4 := Int.emod_nonneg a (show (n : Int) ≠ 0 by omega)
 have e5 := Int.emod_lt_of_pos a (show (0 : Int) < n by omega)
 rw [e1, e3]
 exact ⟨(a % n).toNat, by omega, by omega⟩
theorem rlpCuts (a0_0 : ByteArray) (a0_1 : Bool) (l0 : List S62) (a1 : Int) (a2 : ByteArray) (w1 : (Lit.int .u16 a1).wf = true) : Ev (fun k => hatchwaylaw09_RlpCuts.f k a0_0 a0_1 l0 a1 a2) true := by
 obtain ⟨w0, w2⟩ := wf_u16 w1
 obtain ⟨x, hx⟩ : ∃ x : S62, x = ⟨a0_0, a0_1, l0⟩ := ⟨_, rfl⟩
 obtain ⟨b, hb, hsm⟩ := great_ev x
 have hb2 : Ev (fun k => hatchwaylaw08_Great.f k a0_0 a0_1 l0) b := by subst hx; exact hb
 have hT : Ev (fun k => hatchwaylaw09_RlpCuts.j0 k a1 a2 true a0_0 a0_1 l0) true := Ev.step (f := fun _ => some true) (fun k => by rw [hatchwaylaw09_RlpCuts.j0, if_pos rfl]) (Ev.now _)
 unfold hatchwaylaw09_RlpCuts.f
 rw [alive09]
 simp only [Option.bind_some, if_true]
 refine Ev.bind hb2 ?_
 cases b with
 | true => exact Ev.congr (fun k => if_pos rfl) hT
 | false =>
  obtain ⟨hc, ht⟩ := hsm rfl
  have hmay : Ev (fun k => hatchwayref08_May.f k a0_0 a0_1 l0) (mayI x) := by subst hx; exact may_ev _ hc
  have hput : Ev (fun k => hatchwayref09_Put.f k a0_0 a0_1 l0) (strOfNums (putL x)) := by subst hx; exact put_ev _ hc ht
  have hsame : Ev (fun k => hatchwayref08_Same.f k a0_0 a0_1 l0 x.f0 x.f1 x.f2) true := by subst hx; exact same_ev _ hc
  have hbs := bytesOf_put x hc ht
  have hroom := putL_room x hc ht
  have hpos := putL_pos x
  have hsz : (strOfNums (putL x)).size = (putL x).length := strOfNums_size _
  refine Ev.congr (fun k => if_neg (by simp)) (Ev.bind hmay ?_)
  cases hm : mayI x with
  | false => exact Ev.congr (fun k => if_neg (by simp)) hT
  | true =>
   refine Ev.congr (fun k => if_pos rfl) ?_
   by_cases hmore : (a2.size : Int) > 300
   ·rw [decide_eq_true hmore]
    exact hT
   ·rw [decide_eq_false hmore]
    obtain ⟨hr, hd, hn⟩ := mayI_of hm
    obtain ⟨c, hc1, hc2⟩ := cut_is a1 (putL x).length w0 w2 hpos
    have e1 : bytesOf ((strOfNums (putL x)).extract 0 c) = (putL x).take c := by rw [bytesOf_ext, hbs, List.drop_zero, Nat.sub_zero]
    have z1 : ((strOfNums (putL x)).extract 0 c).size ≤ 1099511627776 := by rw [ByteArray.size_extract]; omega
    have e2 : bytesOf (strOfNums (putL x) ++ a2) = putL x ++ bytesOf a2 := by rw [bytesOf_append, hbs]
    have z2 : (strOfNums (putL x) ++ a2).size = (putL x).length + a2.size := by rw [ByteArray.size_append, hsz]
    have n1 := next_is z1 (next_cut e1 hc2 (by omega))
    have hw := next_whole (s := strOfNums (putL x) ++ a2) (r := bytesOf a2) (depth := 16) (items := 1024) hr e2 (by omega) (by omega) hd (by omega) hn
    have n2 := next_is (by omega) hw
    have g2 := get_is (by omega) hw
    rw [if_pos rfl] at g2
    have hG : ∃ p q r e, rlp_Get.f (strOfNums (putL x) ++ a2) 16 1024 = some (p, q, r, e) ∧ e = if a2.size = 0 then (0 : Int) else 3 := by
     by_cases hz : a2.size = 0
     ·rw [if_neg (by omega)] at g2
      exact ⟨_, _, _, _, g2, (if_pos hz).symm⟩
     ·rw [if_pos (by omega)] at g2
      exact ⟨_, _, _, _, g2, (if_neg hz).symm⟩
    obtain ⟨gp, gq, gr, ge, hg, hge⟩ := hG
    refine Ev.step (f := fun k => (hatchwayref09_Put.f k a0_0 a0_1 l0).bind fun t105 => (if (t105.size : Int) = 0 then (none) else (if 0 ≤ (Int.tmod (wrap64 (a1)) (t105.size : Int)) then (if (Int.tmod (wrap64 (a1)) (t105.size : Int)) ≤ (t105.size : Int) then ((rlp_Next.f (t105.extract 0 ((Int.tmod (wrap64 (a1)) (t105.size : Int)) : Int).toNat) 16 1024).bind fun bt106 => (if t105.size + a2.size ≤ 9223372036854775807 then ((rlp_Next.f (t105 ++ a2) 16 1024).bind fun bt114 => ((rlp_Get.f (t105 ++ a2) 16 1024).bind fun bt122 => (if bt106.2.2.2.2 = 2 then (if bt106.2.2.2.1 = 0 then (if bt114.2.2.2.2 = 0 then (if bt114.2.2.2.1 = (t105.size : Int) then ((hatchwayref08_Same.f k a0_0 a0_1 l0 bt114.1 bt114.2.1 bt114.2.2.1).bind fun t129 => (if t129 = true then (if ((bt122.2.2.2 == 0) == (a2.toList == ([] : List UInt8))) = true then (if a2.toList = ([] : List UInt8) then (some true) else (some (bt122.2.2.2 == 3))) else (some false)) else (some false))) else (some false)) else (some false)) else (some false)) else (some false)))) else (none))) else (none)) else (none))))
     (fun k => by rw [hatchwaylaw09_RlpCuts.j0, if_neg (by simp)]) ?_
    refine Ev.bind hput ?_
    rw [hsz, hc1]
    refine Ev.congr (fun k => if_neg (by omega)) (Ev.congr (fun k => if_pos (by omega)) (Ev.congr (fun k => if_pos (by omega)) ?_))
    rw [Int.toNat_natCast, n1, n2, hg]
    refine Ev.bind (Ev.now _) (Ev.congr (fun k => if_pos (by omega)) (Ev.bind (Ev.now _) (Ev.bind (Ev.now _) ?_)))
    refine Ev.congr (fun k => if_pos rfl) (Ev.congr (fun k => if_pos rfl) (Ev.congr (fun k => if_pos rfl) (Ev.congr (fun k => if_pos rfl) (Ev.bind hsame ?_))))
    refine Ev.congr (f := fun _ => some true) (fun k => ?_) (Ev.now _)
    rw [if_pos rfl]
    have hE : a2.toList = [] ↔ a2.size = 0 := by rw [ByteArray.toList_eq, ← List.length_eq_zero_iff, data_length]
    dsimp only
    by_cases hz : a2.size = 0
    ·rw [if_pos hz] at hge
     rw [hge, hE.2 hz]
     rfl
    ·rw [if_neg hz] at hge
     have hne : ¬ a2.toList = [] := fun h => hz (hE.1 h)
     rw [hge, if_neg hne, if_pos (by simp [hne])]
     rfl
end Go.Proofs.Yteoibgpkimlahaa.P
end
