/- The bytes of any item are the document's, as many as are told, or the error; they are got again, by caps that are just enough. (part 15 of 16) -/
import Derived.Test.YteoibgpkimlahaaB5
import Derived.Test.YteoibgpkimlahaaB10
import Derived.Test.YteoibgpkimlahaaB13
import Derived.Test.YteoibgpkimlahaaB6
section
namespace Go.Proofs.Yteoibgpkimlahaa.P
open Go.RowKit Go.Proofs.YteoibgpkimlahaaW.PrintWords Go.Proofs.YteoibgpkimlahaaW.PrintLast Go.Proofs.YteoibgpkimlahaaW.PrintMore
attribute [local go_sem] max2_int min2_int max_two min_two max_three min_three max_four min_four   
set_option linter.unusedVariables false
set_option linter.unusedSimpArgs false
def hatchwaylaw09_alive.f  : Option (Bool) := (rlp_Put.f (⟨#[100, 111, 103]⟩ : ByteArray) false ([] : List (S62))).bind fun bt101 => ((rlp_Put.f (⟨#[]⟩ : ByteArray) true ([] : List (S62))).bind fun bt103 => ((rlp_Get.f (⟨#[129, 5]⟩ : ByteArray) 9 9).bind fun bt105 => (if bt101.2 = 0 then (if bt101.1.toList = ([131, 100, 111, 103] : List UInt8) then (if bt103.2 = 0 then (if bt103.1.toList = ([192] : List UInt8) then (some (bt105.2.2.2 == 3)) else (some false)) else (some false)) else (some false)) else (some false))))
set_option maxHeartbeats 8000000 in
set_option maxRecDepth 100000 in
theorem hatchwaylaw09_alive.calls  (r : Bool) (w : World) (h : hatchwaylaw09_alive.f  = some r) :
  Calls Try.prog 49 #[] w fun e w' => e = .returned (.bool r) ∧ Below w.heap.size w w' := by
 have hu62 := Try.underlying62
 have HB := Aside0.mk (Below.refl w.heap.size w)
 have H : ((rlp_Put.f (⟨#[100, 111, 103]⟩ : ByteArray) false ([] : List (S62))).bind fun bt101 => ((rlp_Put.f (⟨#[]⟩ : ByteArray) true ([] : List (S62))).bind fun bt103 => ((rlp_Get.f (⟨#[129, 5]⟩ : ByteArray) 9 9).bind fun bt105 => (if bt101.2 = 0 then (if bt101.1.toList = ([131, 100, 111, 103] : List UInt8) then (if bt103.2 = 0 then (if bt103.1.toList = ([192] : List UInt8) then (some (bt105.2.2.2 == 3)) else (some false)) else (some false)) else (some false)) else (some false))))) = some r := h
 clear h
 replace H := Option.bind_eq_some_iff.mp H
 obtain ⟨⟨t101, t102⟩, A10, H⟩ := H
 replace H : ((rlp_Put.f (⟨#[]⟩ : ByteArray) true ([] : List (S62))).bind fun bt103 => ((rlp_Get.f (⟨#[129, 5]⟩ : ByteArray) 9 9).bind fun bt105 => (if t102 = 0 then (if t101.toList = ([131, 100, 111, 103] : List UInt8) then (if bt103.2 = 0 then (if bt103.1.toList = ([192] : List UInt8) then (some (bt105.2.2.2 == 3)) else (some false)) else (some false)) else (some false)) else (some false)))) = some r := H
 have A1 := Aside0.mk A10
 clear A10
 replace H := Option.bind_eq_some_iff.mp H
 obtain ⟨⟨t103, t104⟩, A20, H⟩ := H
 replace H : ((rlp_Get.f (⟨#[129, 5]⟩ : ByteArray) 9 9).bind fun bt105 => (if t102 = 0 then (if t101.toList = ([131, 100, 111, 103] : List UInt8) then (if t104 = 0 then (if t103.toList = ([192] : List UInt8) then (some (bt105.2.2.2 == 3)) else (some false)) else (some false)) else (some false)) else (some false))) = some r := H
 have A2 := Aside0.mk A20
 clear A20
 replace H := Option.bind_eq_some_iff.mp H
 obtain ⟨⟨t105, t106, t107, t110⟩, A30, H⟩ := H
 replace H : (if t102 = 0 then (if t101.toList = ([131, 100, 111, 103] : List UInt8) then (if t104 = 0 then (if t103.toList = ([192] : List UInt8) then (some (t110 == 3)) else (some false)) else (some false)) else (some false)) else (some false)) = some r := H
 have A3 := Aside0.mk A30
 clear A30
 by_cases c4 : t102 = 0
 ·rw [if_pos c4] at H
  have c4b0 : (t102 == 0) = true := beq_iff_eq.mpr c4
  have c4b1 : (t102 != 0) = false := bne_eq_false_iff_eq.mpr c4
  clear c4
  by_cases c5 : t101.toList = ([131, 100, 111, 103] : List UInt8)
  ·rw [if_pos c5] at H
   have c5b0 : (t101.toList == ([131, 100, 111, 103] : List UInt8)) = true := beq_iff_eq.mpr c5
   have c5b1 : (t101.toList != ([131, 100, 111, 103] : List UInt8)) = false := bne_eq_false_iff_eq.mpr c5
   clear c5
   by_cases c6 : t104 = 0
   ·rw [if_pos c6] at H
    have c6b0 : (t104 == 0) = true := beq_iff_eq.mpr c6
    have c6b1 : (t104 != 0) = false := bne_eq_false_iff_eq.mpr c6
    clear c6
    by_cases c7 : t103.toList = ([192] : List UInt8)
    ·rw [if_pos c7] at H
     have c7b0 : (t103.toList == ([192] : List UInt8)) = true := beq_iff_eq.mpr c7
     have c7b1 : (t103.toList != ([192] : List UInt8)) = false := bne_eq_false_iff_eq.mpr c7
     clear c7
     obtain rfl := Option.some.inj H
     go_enter Try.func49, Try.ntmps49
     go_wp2_with (first | ((with_reducible refine gate_callee (f := 54) rfl ?_); refine goesL_ (some 9) rfl rfl Try.func54 (by kernel_rfl) rfl #[.agg #[.string (⟨#[100, 111, 103]⟩ : ByteArray), .bool false, .slice none 0 0]] rfl (by (try simp only [List.map_toArray, List.map_cons, List.map_nil]); first | done | rfl | (simp only [List.length_drop, List.length_take]; rfl)) ?_; (refine (rlp_Put.calls (⟨#[100, 111, 103]⟩ : ByteArray) false _ _ ([] : List (S62)) t101 t102 _ ?side1 ?side2 A1.out).mono ?_); (case side1 => exact Kd.C_nil _ _); (case side2 => exact Nat.le_refl _); rintro e w8 ⟨rfl, hb⟩; refine ⟨_, rfl, ?_⟩; have n0_ := Aside0.mk (below_step (by repeat (first | (with_reducible first | exact HB.out | apply below_alloc | apply pw_below_drewN | apply below_drew1) | exact HB.out)) hb); clear HB; have HB := n0_; clear n0_; (try clear hb); (try clear hb2); (try clear hk); (try clear hi)) | ((with_reducible refine gate_callee (f := 54) rfl ?_); refine goesL_ (some 14) rfl rfl Try.func54 (by kernel_rfl) rfl #[.agg #[.string (⟨#[]⟩ : ByteArray), .bool true, .slice none 0 0]] rfl (by (try simp only [List.map_toArray, List.map_cons, List.map_nil]); first | done | rfl | (simp only [List.length_drop, List.length_take]; rfl)) ?_; (refine (rlp_Put.calls (⟨#[]⟩ : ByteArray) true _ _ ([] : List (S62)) t103 t104 _ ?side1 ?side2 A2.out).mono ?_); (case side1 => exact Kd.C_nil _ _); (case side2 => exact Nat.le_refl _); rintro e w9 ⟨rfl, hb⟩; refine ⟨_, rfl, ?_⟩; have n0_ := Aside0.mk (below_step (by repeat (first | (with_reducible first | exact HB.out | apply below_alloc | apply pw_below_drewN | apply below_drew1) | exact HB.out)) hb); clear HB; have HB := n0_; clear n0_; (try clear hb); (try clear hb2); (try clear hk); (try clear hi)) | ((with_reducible refine gate_callee (f := 52) rfl ?_); refine goesL_ (some 18) rfl rfl Try.func52 (by kernel_rfl) rfl #[.string (⟨#[129, 5]⟩ : ByteArray), .int .i64 9, .int .i64 9] rfl (by (try simp only [List.map_toArray, List.map_cons, List.map_nil]); first | done | rfl | (simp only [List.length_drop, List.length_take]; rfl)) ?_; (with_reducible refine (rlp_Get.calls (⟨#[129, 5]⟩ : ByteArray) 9 9 t105 t106 t107 t110 _ A3.out).mono ?_); rintro e w10 ⟨v108, rfl, ho0, hb⟩; refine ⟨_, rfl, ?_⟩; have n0_ := Aside0.mk (Kd.R_lower ho0 (below_size (by repeat (first | (with_reducible first | exact HB.out | apply below_alloc | apply pw_below_drewN | apply below_drew1) | exact HB.out)))); have n1_ := Aside0.mk (below_step (by repeat (first | (with_reducible first | exact HB.out | apply below_alloc | apply pw_below_drewN | apply below_drew1) | exact HB.out)) hb); clear HB; have HO109 := n0_; have HB := n1_; clear n0_ n1_; (try clear hb); (try clear hb2); (try clear hk); (try clear hi); (try clear ho0)) | ((with_reducible refine gate_dst (N := 5) rfl ?_); refine box_event ?hg (N := 5) ?hd (cs := #[.string (⟨#[]⟩ : ByteArray), .bool false, .slice none 0 0]) (t := 62) ?hr ?_; (case hd => rfl); (case hg => rfl); (case hr => first | (go_simp; done) | (go_simp; rfl)); intro gb111 hg w11 hbox hb; have n0_ := Aside0.mk (Kd.R_below (Kd.R_elderB (by (with_reducible repeat (first | apply Kd.R_alloc | apply Kd.R_drewN | apply Kd.R_drew)); exact HO109.out) gb111 (Nat.le_of_eq hg.symm)) hb); have n1_ := Aside0.mk (below_step (by repeat (first | (with_reducible first | exact HB.out | apply below_alloc | apply pw_below_drewN | apply below_drew1) | exact HB.out)) hb); have n2_ := Aside0.mk (hbox); have n3_ := Aside0.mk ((by rw [hg]; exact (below_size (by repeat (first | (with_reducible first | exact HB.out | apply below_alloc | apply pw_below_drewN | apply below_drew1) | exact HB.out))) : w.heap.size ≤ gb111)); have n4_ := Aside0.mk ((by rw [hg]; exact (below_size (by repeat (first | (with_reducible first | exact HB.out | apply below_alloc | apply pw_below_drewN | apply below_drew1) | exact HB.out))) : w.heap.size ≤ gb111)); clear HO109; clear HB; have HO109 := n0_; have HB := n1_; have BK111 := n2_; have GW111 := n3_; have GE111 := n4_; clear n0_ n1_ n2_ n3_ n4_; clear hb hbox hg; have hcz12_0 : w11.cell? ⟨gb111, 0, none⟩ = some (.string (⟨#[]⟩ : ByteArray)) := (blk_cell BK111.out 0).trans rfl; have hcz12_1 : w11.cell? ⟨gb111, 1, none⟩ = some (.bool false) := (blk_cell BK111.out 1).trans rfl; have hcz12_2 : w11.cell? ⟨gb111, 2, none⟩ = some (.slice none 0 0) := (blk_cell BK111.out 2).trans rfl; have hfz12_0 := blk_frozen BK111.out 0; have hfz12_1 := blk_frozen BK111.out 1; have hfz12_2 := blk_frozen BK111.out 2; obtain ⟨Ao13, co13, eo13⟩ := Kd.R_slice HO109.out; subst eo13))
     go_ret
     exact ⟨by first | rfl | (simp [errW_none, errW_some] <;> rfl) | (simp [*, errW_none, errW_some] <;> rfl), by repeat (first | (with_reducible first | exact HB.out | apply below_alloc | apply pw_below_drewN | apply below_drew1 | refine below_set ?_ GE111.out) | exact HB.out)⟩
    ·rw [if_neg c7] at H
     have c7b0 : (t103.toList == ([192] : List UInt8)) = false := beq_eq_false_iff_ne.mpr c7
     have c7b1 : (t103.toList != ([192] : List UInt8)) = true := bne_iff_ne.mpr c7
     obtain rfl := Option.some.inj H
     go_enter Try.func49, Try.ntmps49
     go_wp2_with (first | ((with_reducible refine gate_callee (f := 54) rfl ?_); refine goesL_ (some 9) rfl rfl Try.func54 (by kernel_rfl) rfl #[.agg #[.string (⟨#[100, 111, 103]⟩ : ByteArray), .bool false, .slice none 0 0]] rfl (by (try simp only [List.map_toArray, List.map_cons, List.map_nil]); first | done | rfl | (simp only [List.length_drop, List.length_take]; rfl)) ?_; (refine (rlp_Put.calls (⟨#[100, 111, 103]⟩ : ByteArray) false _ _ ([] : List (S62)) t101 t102 _ ?side1 ?side2 A1.out).mono ?_); (case side1 => exact Kd.C_nil _ _); (case side2 => exact Nat.le_refl _); rintro e w14 ⟨rfl, hb⟩; refine ⟨_, rfl, ?_⟩; have n0_ := Aside0.mk (below_step (by repeat (first | (with_reducible first | exact HB.out | apply below_alloc | apply pw_below_drewN | apply below_drew1) | exact HB.out)) hb); clear HB; have HB := n0_; clear n0_; (try clear hb); (try clear hb2); (try clear hk); (try clear hi)) | ((with_reducible refine gate_callee (f := 54) rfl ?_); refine goesL_ (some 14) rfl rfl Try.func54 (by kernel_rfl) rfl #[.agg #[.string (⟨#[]⟩ : ByteArray), .bool true, .slice none 0 0]] rfl (by (try simp only [List.map_toArray, List.map_cons, List.map_nil]); first | done | rfl | (simp only [List.length_drop, List.length_take]; rfl)) ?_; (refine (rlp_Put.calls (⟨#[]⟩ : ByteArray) true _ _ ([] : List (S62)) t103 t104 _ ?side1 ?side2 A2.out).mono ?_); (case side1 => exact Kd.C_nil _ _); (case side2 => exact Nat.le_refl _); rintro e w15 ⟨rfl, hb⟩; refine ⟨_, rfl, ?_⟩; have n0_ := Aside0.mk (below_step (by repeat (first | (with_reducible first | exact HB.out | apply below_alloc | apply pw_below_drewN | apply below_drew1) | exact HB.out)) hb); clear HB; have HB := n0_; clear n0_; (try clear hb); (try clear hb2); (try clear hk); (try clear hi)) | ((with_reducible refine gate_callee (f := 52) rfl ?_); refine goesL_ (some 18) rfl rfl Try.func52 (by kernel_rfl) rfl #[.string (⟨#[129, 5]⟩ : ByteArray), .int .i64 9, .int .i64 9] rfl (by (try simp only [List.map_toArray, List.map_cons, List.map_nil]); first | done | rfl | (simp only [List.length_drop, List.length_take]; rfl)) ?_; (with_reducible refine (rlp_Get.calls (⟨#[129, 5]⟩ : ByteArray) 9 9 t105 t106 t107 t110 _ A3.out).mono ?_); rintro e w16 ⟨v108, rfl, ho0, hb⟩; refine ⟨_, rfl, ?_⟩; have n0_ := Aside0.mk (Kd.R_lower ho0 (below_size (by repeat (first | (with_reducible first | exact HB.out | apply below_alloc | apply pw_below_drewN | apply below_drew1) | exact HB.out)))); have n1_ := Aside0.mk (below_step (by repeat (first | (with_reducible first | exact HB.out | apply below_alloc | apply pw_below_drewN | apply below_drew1) | exact HB.out)) hb); clear HB; have HO109 := n0_; have HB := n1_; clear n0_ n1_; (try clear hb); (try clear hb2); (try clear hk); (try clear hi); (try clear ho0)) | ((with_reducible refine gate_dst (N := 5) rfl ?_); refine box_event ?hg (N := 5) ?hd (cs := #[.string (⟨#[]⟩ : ByteArray), .bool false, .slice none 0 0]) (t := 62) ?hr ?_; (case hd => rfl); (case hg => rfl); (case hr => first | (go_simp; done) | (go_simp; rfl)); intro gb111 hg w17 hbox hb; have n0_ := Aside0.mk (Kd.R_below (Kd.R_elderB (by (with_reducible repeat (first | apply Kd.R_alloc | apply Kd.R_drewN | apply Kd.R_drew)); exact HO109.out) gb111 (Nat.le_of_eq hg.symm)) hb); have n1_ := Aside0.mk (below_step (by repeat (first | (with_reducible first | exact HB.out | apply below_alloc | apply pw_below_drewN | apply below_drew1) | exact HB.out)) hb); have n2_ := Aside0.mk (hbox); have n3_ := Aside0.mk ((by rw [hg]; exact (below_size (by repeat (first | (with_reducible first | exact HB.out | apply below_alloc | apply pw_below_drewN | apply below_drew1) | exact HB.out))) : w.heap.size ≤ gb111)); have n4_ := Aside0.mk ((by rw [hg]; exact (below_size (by repeat (first | (with_reducible first | exact HB.out | apply below_alloc | apply pw_below_drewN | apply below_drew1) | exact HB.out))) : w.heap.size ≤ gb111)); clear HO109; clear HB; have HO109 := n0_; have HB := n1_; have BK111 := n2_; have GW111 := n3_; have GE111 := n4_; clear n0_ n1_ n2_ n3_ n4_; clear hb hbox hg; have hcz18_0 : w17.cell? ⟨gb111, 0, none⟩ = some (.string (⟨#[]⟩ : ByteArray)) := (blk_cell BK111.out 0).trans rfl; have hcz18_1 : w17.cell? ⟨gb111, 1, none⟩ = some (.bool false) := (blk_cell BK111.out 1).trans rfl; have hcz18_2 : w17.cell? ⟨gb111, 2, none⟩ = some (.slice none 0 0) := (blk_cell BK111.out 2).trans rfl; have hfz18_0 := blk_frozen BK111.out 0; have hfz18_1 := blk_frozen BK111.out 1; have hfz18_2 := blk_frozen BK111.out 2; obtain ⟨Ao19, co19, eo19⟩ := Kd.R_slice HO109.out; subst eo19))
     go_ret
     exact ⟨by first | rfl | (simp [errW_none, errW_some] <;> rfl) | (simp [*, errW_none, errW_some] <;> rfl), by repeat (first | (with_reducible first | exact HB.out | apply below_alloc | apply pw_below_drewN | apply below_drew1 | refine below_set ?_ GE111.out) | exact HB.out)⟩
   ·rw [if_neg c6] at H
    have c6b0 : (t104 == 0) = false := beq_eq_false_iff_ne.mpr c6
    have c6b1 : (t104 != 0) = true := bne_iff_ne.mpr c6
    obtain rfl := Option.some.inj H
    go_enter Try.func49, Try.ntmps49
    go_wp2_with (first | ((with_reducible refine gate_callee (f := 54) rfl ?_); refine goesL_ (some 9) rfl rfl Try.func54 (by kernel_rfl) rfl #[.agg #[.string (⟨#[100, 111, 103]⟩ : ByteArray), .bool false, .slice none 0 0]] rfl (by (try simp only [List.map_toArray, List.map_cons, List.map_nil]); first | done | rfl | (simp only [List.length_drop, List.length_take]; rfl)) ?_; (refine (rlp_Put.calls (⟨#[100, 111, 103]⟩ : ByteArray) false _ _ ([] : List (S62)) t101 t102 _ ?side1 ?side2 A1.out).mono ?_); (case side1 => exact Kd.C_nil _ _); (case side2 => exact Nat.le_refl _); rintro e w20 ⟨rfl, hb⟩; refine ⟨_, rfl, ?_⟩; have n0_ := Aside0.mk (below_step (by repeat (first | (with_reducible first | exact HB.out | apply below_alloc | apply pw_below_drewN | apply below_drew1) | exact HB.out)) hb); clear HB; have HB := n0_; clear n0_; (try clear hb); (try clear hb2); (try clear hk); (try clear hi)) | ((with_reducible refine gate_callee (f := 54) rfl ?_); refine goesL_ (some 14) rfl rfl Try.func54 (by kernel_rfl) rfl #[.agg #[.string (⟨#[]⟩ : ByteArray), .bool true, .slice none 0 0]] rfl (by (try simp only [List.map_toArray, List.map_cons, List.map_nil]); first | done | rfl | (simp only [List.length_drop, List.length_take]; rfl)) ?_; (refine (rlp_Put.calls (⟨#[]⟩ : ByteArray) true _ _ ([] : List (S62)) t103 t104 _ ?side1 ?side2 A2.out).mono ?_); (case side1 => exact Kd.C_nil _ _); (case side2 => exact Nat.le_refl _); rintro e w21 ⟨rfl, hb⟩; refine ⟨_, rfl, ?_⟩; have n0_ := Aside0.mk (below_step (by repeat (first | (with_reducible first | exact HB.out | apply below_alloc | apply pw_below_drewN | apply below_drew1) | exact HB.out)) hb); clear HB; have HB := n0_; clear n0_; (try clear hb); (try clear hb2); (try clear hk); (try clear hi)) | ((with_reducible refine gate_callee (f := 52) rfl ?_); refine goesL_ (some 18) rfl rfl Try.func52 (by kernel_rfl) rfl #[.string (⟨#[129, 5]⟩ : ByteArray), .int .i64 9, .int .i64 9] rfl (by (try simp only [List.map_toArray, List.map_cons, List.map_nil]); first | done | rfl | (simp only [List.length_drop, List.length_take]; rfl)) ?_; (with_reducible refine (rlp_Get.calls (⟨#[129, 5]⟩ : ByteArray) 9 9 t105 t106 t107 t110 _ A3.out).mono ?_); rintro e w22 ⟨v108, rfl, ho0, hb⟩; refine ⟨_, rfl, ?_⟩; have n0_ := Aside0.mk (Kd.R_lower ho0 (below_size (by repeat (first | (with_reducible first | exact HB.out | apply below_alloc | apply pw_below_drewN | apply below_drew1) | exact HB.out)))); have n1_ := Aside0.mk (below_step (by repeat (first | (with_reducible first | exact HB.out | apply below_alloc | apply pw_below_drewN | apply below_drew1) | exact HB.out)) hb); clear HB; have HO109 := n0_; have HB := n1_; clear n0_ n1_; (try clear hb); (try clear hb2); (try clear hk); (try clear hi); (try clear ho0)) | ((with_reducible refine gate_dst (N := 5) rfl ?_); refine box_event ?hg (N := 5) ?hd (cs := #[.string (⟨#[]⟩ : ByteArray), .bool false, .slice none 0 0]) (t := 62) ?hr ?_; (case hd => rfl); (case hg => rfl); (case hr => first | (go_simp; done) | (go_simp; rfl)); intro gb111 hg w23 hbox hb; have n0_ := Aside0.mk (Kd.R_below (Kd.R_elderB (by (with_reducible repeat (first | apply Kd.R_alloc | apply Kd.R_drewN | apply Kd.R_drew)); exact HO109.out) gb111 (Nat.le_of_eq hg.symm)) hb); have n1_ := Aside0.mk (below_step (by repeat (first | (with_reducible first | exact HB.out | apply below_alloc | apply pw_below_drewN | apply below_drew1) | exact HB.out)) hb); have n2_ := Aside0.mk (hbox); have n3_ := Aside0.mk ((by rw [hg]; exact (below_size (by repeat (first | (with_reducible first | exact HB.out | apply below_alloc | apply pw_below_drewN | apply below_drew1) | exact HB.out))) : w.heap.size ≤ gb111)); have n4_ := Aside0.mk ((by rw [hg]; exact (below_size (by repeat (first | (with_reducible first | exact HB.out | apply below_alloc | apply pw_below_drewN | apply below_drew1) | exact HB.out))) : w.heap.size ≤ gb111)); clear HO109; clear HB; have HO109 := n0_; have HB := n1_; have BK111 := n2_; have GW111 := n3_; have GE111 := n4_; clear n0_ n1_ n2_ n3_ n4_; clear hb hbox hg; have hcz24_0 : w23.cell? ⟨gb111, 0, none⟩ = some (.string (⟨#[]⟩ : ByteArray)) := (blk_cell BK111.out 0).trans rfl; have hcz24_1 : w23.cell? ⟨gb111, 1, none⟩ = some (.bool false) := (blk_cell BK111.out 1).trans rfl; have hcz24_2 : w23.cell? ⟨gb111, 2, none⟩ = some (.slice none 0 0) := (blk_cell BK111.out 2).trans rfl; have hfz24_0 := blk_frozen BK111.out 0; have hfz24_1 := blk_frozen BK111.out 1; have hfz24_2 := blk_frozen BK111.out 2; obtain ⟨Ao25, co25, eo25⟩ := Kd.R_slice HO109.out; subst eo25))
    go_ret
    exact ⟨by first | rfl | (simp [errW_none, errW_some] <;> rfl) | (simp [*, errW_none, errW_some] <;> rfl), by repeat (first | (with_reducible first | exact HB.out | apply below_alloc | apply pw_below_drewN | apply below_drew1 | refine below_set ?_ GE111.out) | exact HB.out)⟩
  ·rw [if_neg c5] at H
   have c5b0 : (t101.toList == ([131, 100, 111, 103] : List UInt8)) = false := beq_eq_false_iff_ne.mpr c5
   have c5b1 : (t101.toList != ([131, 100, 111, 103] : List UInt8)) = true := bne_iff_ne.mpr c5
   obtain rfl := Option.some.inj H
   go_enter Try.func49, Try.ntmps49
   go_wp2_with (first | ((with_reducible refine gate_callee (f := 54) rfl ?_); refine goesL_ (some 9) rfl rfl Try.func54 (by kernel_rfl) rfl #[.agg #[.string (⟨#[100, 111, 103]⟩ : ByteArray), .bool false, .slice none 0 0]] rfl (by (try simp only [List.map_toArray, List.map_cons, List.map_nil]); first | done | rfl | (simp only [List.length_drop, List.length_take]; rfl)) ?_; (refine (rlp_Put.calls (⟨#[100, 111, 103]⟩ : ByteArray) false _ _ ([] : List (S62)) t101 t102 _ ?side1 ?side2 A1.out).mono ?_); (case side1 => exact Kd.C_nil _ _); (case side2 => exact Nat.le_refl _); rintro e w26 ⟨rfl, hb⟩; refine ⟨_, rfl, ?_⟩; have n0_ := Aside0.mk (below_step (by repeat (first | (with_reducible first | exact HB.out | apply below_alloc | apply pw_below_drewN | apply below_drew1) | exact HB.out)) hb); clear HB; have HB := n0_; clear n0_; (try clear hb); (try clear hb2); (try clear hk); (try clear hi)) | ((with_reducible refine gate_callee (f := 54) rfl ?_); refine goesL_ (some 14) rfl rfl Try.func54 (by kernel_rfl) rfl #[.agg #[.string (⟨#[]⟩ : ByteArray), .bool true, .slice none 0 0]] rfl (by (try simp only [List.map_toArray, List.map_cons, List.map_nil]); first | done | rfl | (simp only [List.length_drop, List.length_take]; rfl)) ?_; (refine (rlp_Put.calls (⟨#[]⟩ : ByteArray) true _ _ ([] : List (S62)) t103 t104 _ ?side1 ?side2 A2.out).mono ?_); (case side1 => exact Kd.C_nil _ _); (case side2 => exact Nat.le_refl _); rintro e w27 ⟨rfl, hb⟩; refine ⟨_, rfl, ?_⟩; have n0_ := Aside0.mk (below_step (by repeat (first | (with_reducible first | exact HB.out | apply below_alloc | apply pw_below_drewN | apply below_drew1) | exact HB.out)) hb); clear HB; have HB := n0_; clear n0_; (try clear hb); (try clear hb2); (try clear hk); (try clear hi)) | ((with_reducible refine gate_callee (f := 52) rfl ?_); refine goesL_ (some 18) rfl rfl Try.func52 (by kernel_rfl) rfl #[.string (⟨#[129, 5]⟩ : ByteArray), .int .i64 9, .int .i64 9] rfl (by (try simp only [List.map_toArray, List.map_cons, List.map_nil]); first | done | rfl | (simp only [List.length_drop, List.length_take]; rfl)) ?_; (with_reducible refine (rlp_Get.calls (⟨#[129, 5]⟩ : ByteArray) 9 9 t105 t106 t107 t110 _ A3.out).mono ?_); rintro e w28 ⟨v108, rfl, ho0, hb⟩; refine ⟨_, rfl, ?_⟩; have n0_ := Aside0.mk (Kd.R_lower ho0 (below_size (by repeat (first | (with_reducible first | exact HB.out | apply below_alloc | apply pw_below_drewN | apply below_drew1) | exact HB.out)))); have n1_ := Aside0.mk (below_step (by repeat (first | (with_reducible first | exact HB.out | apply below_alloc | apply pw_below_drewN | apply below_drew1) | exact HB.out)) hb); clear HB; have HO109 := n0_; have HB := n1_; clear n0_ n1_; (try clear hb); (try clear hb2); (try clear hk); (try clear hi); (try clear ho0)) | ((with_reducible refine gate_dst (N := 5) rfl ?_); refine box_event ?hg (N := 5) ?hd (cs := #[.string (⟨#[]⟩ : ByteArray), .bool false, .slice none 0 0]) (t := 62) ?hr ?_; (case hd => rfl); (case hg => rfl); (case hr => first | (go_simp; done) | (go_simp; rfl)); intro gb111 hg w29 hbox hb; have n0_ := Aside0.mk (Kd.R_below (Kd.R_elderB (by (with_reducible repeat (first | apply Kd.R_alloc | apply Kd.R_drewN | apply Kd.R_drew)); exact HO109.out) gb111 (Nat.le_of_eq hg.symm)) hb); have n1_ := Aside0.mk (below_step (by repeat (first | (with_reducible first | exact HB.out | apply below_alloc | apply pw_below_drewN | apply below_drew1) | exact HB.out)) hb); have n2_ := Aside0.mk (hbox); have n3_ := Aside0.mk ((by rw [hg]; exact (below_size (by repeat (first | (with_reducible first | exact HB.out | apply below_alloc | apply pw_below_drewN | apply below_drew1) | exact HB.out))) : w.heap.size ≤ gb111)); have n4_ := Aside0.mk ((by rw [hg]; exact (below_size (by repeat (first | (with_reducible first | exact HB.out | apply below_alloc | apply pw_below_drewN | apply below_drew1) | exact HB.out))) : w.heap.size ≤ gb111)); clear HO109; clear HB; have HO109 := n0_; have HB := n1_; have BK111 := n2_; have GW111 := n3_; have GE111 := n4_; clear n0_ n1_ n2_ n3_ n4_; clear hb hbox hg; have hcz30_0 : w29.cell? ⟨gb111, 0, none⟩ = some (.string (⟨#[]⟩ : ByteArray)) := (blk_cell BK111.out 0).trans rfl; have hcz30_1 : w29.cell? ⟨gb111, 1, none⟩ = some (.bool false) := (blk_cell BK111.out 1).trans rfl; have hcz30_2 : w29.cell? ⟨gb111, 2, none⟩ = some (.slice none 0 0) := (blk_cell BK111.out 2).trans rfl; have hfz30_0 := blk_frozen BK111.out 0; have hfz30_1 := blk_frozen BK111.out 1; have hfz30_2 := blk_frozen BK111.out 2; obtain ⟨Ao31, co31, eo31⟩ := Kd.R_slice HO109.out; subst eo31))
   go_ret
   exact ⟨by first | rfl | (simp [errW_none, errW_some] <;> rfl) | (simp [*, errW_none, errW_some] <;> rfl), by repeat (first | (with_reducible first | exact HB.out | apply below_alloc | apply pw_below_drewN | apply below_drew1 | refine below_set ?_ GE111.out) | exact HB.out)⟩
 ·rw [if_neg c4] at H
  have c4b0 : (t102 == 0) = false := beq_eq_false_iff_ne.mpr c4
  have c4b1 : (t102 != 0) = true := bne_iff_ne.mpr c4
  obtain rfl := Option.some.inj H
  go_enter Try.func49, Try.ntmps49
  go_wp2_with (first | ((with_reducible refine gate_callee (f := 54) rfl ?_); refine goesL_ (some 9) rfl rfl Try.func54 (by kernel_rfl) rfl #[.agg #[.string (⟨#[100, 111, 103]⟩ : ByteArray), .bool false, .slice none 0 0]] rfl (by (try simp only [List.map_toArray, List.map_cons, List.map_nil]); first | done | rfl | (simp only [List.length_drop, List.length_take]; rfl)) ?_; (refine (rlp_Put.calls (⟨#[100, 111, 103]⟩ : ByteArray) false _ _ ([] : List (S62)) t101 t102 _ ?side1 ?side2 A1.out).mono ?_); (case side1 => exact Kd.C_nil _ _); (case side2 => exact Nat.le_refl _); rintro e w32 ⟨rfl, hb⟩; refine ⟨_, rfl, ?_⟩; have n0_ := Aside0.mk (below_step (by repeat (first | (with_reducible first | exact HB.out | apply below_alloc | apply pw_below_drewN | apply below_drew1) | exact HB.out)) hb); clear HB; have HB := n0_; clear n0_; (try clear hb); (try clear hb2); (try clear hk); (try clear hi)) | ((with_reducible refine gate_callee (f := 54) rfl ?_); refine goesL_ (some 14) rfl rfl Try.func54 (by kernel_rfl) rfl #[.agg #[.string (⟨#[]⟩ : ByteArray), .bool true, .slice none 0 0]] rfl (by (try simp only [List.map_toArray, List.map_cons, List.map_nil]); first | done | rfl | (simp only [List.length_drop, List.length_take]; rfl)) ?_; (refine (rlp_Put.calls (⟨#[]⟩ : ByteArray) true _ _ ([] : List (S62)) t103 t104 _ ?side1 ?side2 A2.out).mono ?_); (case side1 => exact Kd.C_nil _ _); (case side2 => exact Nat.le_refl _); rintro e w33 ⟨rfl, hb⟩; refine ⟨_, rfl, ?_⟩; have n0_ := Aside0.mk (below_step (by repeat (first | (with_reducible first | exact HB.out | apply below_alloc | apply pw_below_drewN | apply below_drew1) | exact HB.out)) hb); clear HB; have HB := n0_; clear n0_; (try clear hb); (try clear hb2); (try clear hk); (try clear hi)) | ((with_reducible refine gate_callee (f := 52) rfl ?_); refine goesL_ (some 18) rfl rfl Try.func52 (by kernel_rfl) rfl #[.string (⟨#[129, 5]⟩ : ByteArray), .int .i64 9, .int .i64 9] rfl (by (try simp only [List.map_toArray, List.map_cons, List.map_nil]); first | done | rfl | (simp only [List.length_drop, List.length_take]; rfl)) ?_; (with_reducible refine (rlp_Get.calls (⟨#[129, 5]⟩ : ByteArray) 9 9 t105 t106 t107 t110 _ A3.out).mono ?_); rintro e w34 ⟨v108, rfl, ho0, hb⟩; refine ⟨_, rfl, ?_⟩; have n0_ := Aside0.mk (Kd.R_lower ho0 (below_size (by repeat (first | (with_reducible first | exact HB.out | apply below_alloc | apply pw_below_drewN | apply below_drew1) | exact HB.out)))); have n1_ := Aside0.mk (below_step (by repeat (first | (with_reducible first | exact HB.out | apply below_alloc | apply pw_below_drewN | apply below_drew1) | exact HB.out)) hb); clear HB; have HO109 := n0_; have HB := n1_; clear n0_ n1_; (try clear hb); (try clear hb2); (try clear hk); (try clear hi); (try clear ho0)) | ((with_reducible refine gate_dst (N := 5) rfl ?_); refine box_event ?hg (N := 5) ?hd (cs := #[.string (⟨#[]⟩ : ByteArray), .bool false, .slice none 0 0]) (t := 62) ?hr ?_; (case hd => rfl); (case hg => rfl); (case hr => first | (go_simp; done) | (go_simp; rfl)); intro gb111 hg w35 hbox hb; have n0_ := Aside0.mk (Kd.R_below (Kd.R_elderB (by (with_reducible repeat (first | apply Kd.R_alloc | apply Kd.R_drewN | apply Kd.R_drew)); exact HO109.out) gb111 (Nat.le_of_eq hg.symm)) hb); have n1_ := Aside0.mk (below_step (by repeat (first | (with_reducible first | exact HB.out | apply below_alloc | apply pw_below_drewN | apply below_drew1) | exact HB.out)) hb); have n2_ := Aside0.mk (hbox); have n3_ := Aside0.mk ((by rw [hg]; exact (below_size (by repeat (first | (with_reducible first | exact HB.out | apply below_alloc | apply pw_below_drewN | apply below_drew1) | exact HB.out))) : w.heap.size ≤ gb111)); have n4_ := Aside0.mk ((by rw [hg]; exact (below_size (by repeat (first | (with_reducible first | exact HB.out | apply below_alloc | apply pw_below_drewN | apply below_drew1) | exact HB.out))) : w.heap.size ≤ gb111)); clear HO109; clear HB; have HO109 := n0_; have HB := n1_; have BK111 := n2_; have GW111 := n3_; have GE111 := n4_; clear n0_ n1_ n2_ n3_ n4_; clear hb hbox hg; have hcz36_0 : w35.cell? ⟨gb111, 0, none⟩ = some (.string (⟨#[]⟩ : ByteArray)) := (blk_cell BK111.out 0).trans rfl; have hcz36_1 : w35.cell? ⟨gb111, 1, none⟩ = some (.bool false) := (blk_cell BK111.out 1).trans rfl; have hcz36_2 : w35.cell? ⟨gb111, 2, none⟩ = some (.slice none 0 0) := (blk_cell BK111.out 2).trans rfl; have hfz36_0 := blk_frozen BK111.out 0; have hfz36_1 := blk_frozen BK111.out 1; have hfz36_2 := blk_frozen BK111.out 2; obtain ⟨Ao37, co37, eo37⟩ := Kd.R_slice HO109.out; subst eo37))
  go_ret
  exact ⟨by first | rfl | (simp [errW_none, errW_some] <;> rfl) | (simp [*, errW_none, errW_some] <;> rfl), by repeat (first | (with_reducible first | exact HB.out | apply below_alloc | apply pw_below_drewN | apply below_drew1 | refine below_set ?_ GE111.out) | exact HB.out)⟩
end Go.Proofs.Yteoibgpkimlahaa.P
end
section
namespace Go.Proofs.Yteoibgpkimlahaa.P
open Go.RowKit Go.Proofs.YteoibgpkimlahaaW.PrintWords Go.Proofs.YteoibgpkimlahaaW.PrintLast Go.Proofs.YteoibgpkimlahaaW.PrintMore
attribute [local go_sem] max2_int min2_int max_two min_two max_three min_three max_four min_four   
set_option linter.unusedVariables false
set_option linter.unusedSimpArgs false
def hatchwaylaw09_RlpPuts.f (k : Nat) (a0_0 : ByteArray) (a0_1 : Bool) (l0_2 : List (S62)) : Option (Bool) := (hatchwaylaw09_alive.f).bind fun t102 => (if t102 = true then ((hatchwaylaw08_Great.f k a0_0 a0_1 l0_2).bind fun t103 => (if t103 = true then (some true) else ((rlp_Put.f a0_0 a0_1 l0_2).bind fun bt104 => ((hatchwayref08_May.f k a0_0 a0_1 l0_2).bind fun t106 => (if t106 = true then ((hatchwayref08_Deep.f k a0_0 a0_1 l0_2).bind fun t108 => ((hatchwayref08_Count.f k a0_0 a0_1 l0_2).bind fun t109 => ((rlp_Get.f bt104.1 t108 t109).bind fun bt110 => (if bt104.2 = 0 then ((hatchwayref09_Put.f k a0_0 a0_1 l0_2).bind fun t117 => (if bt104.1.toList = t117.toList then ((rlp_Size.f a0_0 a0_1 l0_2).bind fun t118 => (if t118 = (bt104.1.size : Int) then (if bt110.2.2.2 = 0 then ((hatchwayref08_Same.f k a0_0 a0_1 l0_2 bt110.1 bt110.2.1 bt110.2.2.1).bind fun t119 => (some t119)) else (some false)) else (some false))) else (some false))) else (some false))))) else (if bt104.2 = 1 then (if bt104.1.toList = ([] : List UInt8) then ((rlp_Size.f a0_0 a0_1 l0_2).bind fun t107 => (some (t107 == 0))) else (some false)) else (some false))))))) else (some false))
theorem hatchwaylaw09_RlpPuts.mono : ∀ a0 a1 a2 k, LeO (hatchwaylaw09_RlpPuts.f k a0 a1 a2) (hatchwaylaw09_RlpPuts.f (k + 1) a0 a1 a2) := by
 intro a0 a1 a2 k
 unfold hatchwaylaw09_RlpPuts.f
 repeat' first
   | (with_reducible exact hatchwaylaw08_Great.mono _ _ _ _)
   | (with_reducible exact hatchwayref08_Count.mono _ _ _ _)
   | (with_reducible exact hatchwayref08_Deep.mono _ _ _ _)
   | (with_reducible exact hatchwayref08_May.mono _ _ _ _)
   | (with_reducible exact hatchwayref08_Same.mono _ _ _ _ _ _ _)
   | (with_reducible exact hatchwayref09_Put.mono _ _ _ _)
   | (with_reducible exact LeO.refl _)
   | (with_reducible exact LeO.none _)
   | (with_reducible refine LeO.ite ?_ ?_)
   | (with_reducible refine LeO.bind ?_ (fun _ => ?_))
   | exact hatchwaylaw08_Great.mono _ _ _ _
   | exact hatchwayref08_Count.mono _ _ _ _
   | exact hatchwayref08_Deep.mono _ _ _ _
   | exact hatchwayref08_May.mono _ _ _ _
   | exact hatchwayref08_Same.mono _ _ _ _ _ _ _
   | exact hatchwayref09_Put.mono _ _ _ _
   | exact LeO.none _
   | refine LeO.ite ?_ ?_
   | refine LeO.bind ?_ (fun _ => ?_)
def hatchwaylaw09_RlpPuts.T8 : Bool × List (List Nat × List Nat) := (true, [([], []), ([], []), ([1], [1]), ([], []), ([3, 2], [3]), ([0, 2, 4, 4], [0, 2, 4]), ([5], [5]), ([6], [6]), ([6], [6]), ([], []), ([9, 7, 5, 0, 1, 2, 3, 4, 5, 6, 7, 9], [7, 9]), ([8, 10, 0, 1, 2, 3, 4, 5, 6, 7, 8, 9, 10], [8])])
def hatchwaylaw09_RlpPuts.B8 : List Nat := [0, 0, 2, 0, 14, 31, 63, 127, 127, 0, 767, 2047]
theorem hatchwaylaw09_RlpPuts.tab8 : rtab .any (opsOf Try.f11 8) = hatchwaylaw09_RlpPuts.T8 := by kernel_rfl
theorem hatchwaylaw09_RlpPuts.bits8 : waitsOk hatchwaylaw09_RlpPuts.T8.2 hatchwaylaw09_RlpPuts.B8 = true := by kernel_rfl
set_option maxHeartbeats 8000000 in
set_option maxRecDepth 100000 in
theorem hatchwaylaw09_RlpPuts.calls (k : Nat) (a0_0 : ByteArray) (a0_1 : Bool) (A0_2 : Option Addr) (c0_2 : Nat) (l0_2 : List (S62)) (r : Bool) (w : World) (hr0_2 : Kd.C k62 w A0_2 l0_2.length l0_2) (hc0_2 : l0_2.length ≤ c0_2) (h : hatchwaylaw09_RlpPuts.f k a0_0 a0_1 l0_2 = some r) (ht_ : r = true) :
  Calls Try.prog 11 #[.agg #[.string a0_0, .bool a0_1, .slice A0_2 l0_2.length c0_2]] w fun e w' => e = .returned (.bool r) ∧ Below w.heap.size w w' := by
 have hu62 := Try.underlying62
 have HR0_2 := Aside0.mk hr0_2
 have HC0_2 := Aside0.mk hc0_2
 clear hr0_2 hc0_2
 have HB := Aside0.mk (Below.refl w.heap.size w)
 have H : ((hatchwaylaw09_alive.f).bind fun t102 => (if t102 = true then ((hatchwaylaw08_Great.f k a0_0 a0_1 l0_2).bind fun t103 => (if t103 = true then (some true) else ((rlp_Put.f a0_0 a0_1 l0_2).bind fun bt104 => ((hatchwayref08_May.f k a0_0 a0_1 l0_2).bind fun t106 => (if t106 = true then ((hatchwayref08_Deep.f k a0_0 a0_1 l0_2).bind fun t108 => ((hatchwayref08_Count.f k a0_0 a0_1 l0_2).bind fun t109 => ((rlp_Get.f bt104.1 t108 t109).bind fun bt110 => (if bt104.2 = 0 then ((hatchwayref09_Put.f k a0_0 a0_1 l0_2).bind fun t117 => (if bt104.1.toList = t117.toList then ((rlp_Size.f a0_0 a0_1 l0_2).bind fun t118 => (if t118 = (bt104.1.size : Int) then (if bt110.2.2.2 = 0 then ((hatchwayref08_Same.f k a0_0 a0_1 l0_2 bt110.1 bt110.2.1 bt110.2.2.1).bind fun t119 => (some t119)) else (some false)) else (some false))) else (some false))) else (some false))))) else (if bt104.2 = 1 then (if bt104.1.toList = ([] : List UInt8) then ((rlp_Size.f a0_0 a0_1 l0_2).bind fun t107 => (some (t107 == 0))) else (some false)) else (some false))))))) else (some false))) = some r := h
 clear h
 replace H := Option.bind_eq_some_iff.mp H
 obtain ⟨t102, A20, H⟩ := H
 replace H : (if t102 = true then ((hatchwaylaw08_Great.f k a0_0 a0_1 l0_2).bind fun t103 => (if t103 = true then (some true) else ((rlp_Put.f a0_0 a0_1 l0_2).bind fun bt104 => ((hatchwayref08_May.f k a0_0 a0_1 l0_2).bind fun t106 => (if t106 = true then ((hatchwayref08_Deep.f k a0_0 a0_1 l0_2).bind fun t108 => ((hatchwayref08_Count.f k a0_0 a0_1 l0_2).bind fun t109 => ((rlp_Get.f bt104.1 t108 t109).bind fun bt110 => (if bt104.2 = 0 then ((hatchwayref09_Put.f k a0_0 a0_1 l0_2).bind fun t117 => (if bt104.1.toList = t117.toList then ((rlp_Size.f a0_0 a0_1 l0_2).bind fun t118 => (if t118 = (bt104.1.size : Int) then (if bt110.2.2.2 = 0 then ((hatchwayref08_Same.f k a0_0 a0_1 l0_2 bt110.1 bt110.2.1 bt110.2.2.1).bind fun t119 => (some t119)) else (some false)) else (some false))) else (some false))) else (some false))))) else (if bt104.2 = 1 then (if bt104.1.toList = ([] : List UInt8) then ((rlp_Size.f a0_0 a0_1 l0_2).bind fun t107 => (some (t107 == 0))) else (some false)) else (some false))))))) else (some false)) = some r := H
 have A2 := Aside0.mk A20
 clear A20
 by_cases c3 : t102 = true
 ·subst c3
  have H1 : ((hatchwaylaw08_Great.f k a0_0 a0_1 l0_2).bind fun t103 => (if t103 = true then (some true) else ((rlp_Put.f a0_0 a0_1 l0_2).bind fun bt104 => ((hatchwayref08_May.f k a0_0 a0_1 l0_2).bind fun t106 => (if t106 = true then ((hatchwayref08_Deep.f k a0_0 a0_1 l0_2).bind fun t108 => ((hatchwayref08_Count.f k a0_0 a0_1 l0_2).bind fun t109 => ((rlp_Get.f bt104.1 t108 t109).bind fun bt110 => (if bt104.2 = 0 then ((hatchwayref09_Put.f k a0_0 a0_1 l0_2).bind fun t117 => (if bt104.1.toList = t117.toList then ((rlp_Size.f a0_0 a0_1 l0_2).bind fun t118 => (if t118 = (bt104.1.size : Int) then (if bt110.2.2.2 = 0 then ((hatchwayref08_Same.f k a0_0 a0_1 l0_2 bt110.1 bt110.2.1 bt110.2.2.1).bind fun t119 => (some t119)) else (some false)) else (some false))) else (some false))) else (some false))))) else (if bt104.2 = 1 then (if bt104.1.toList = ([] : List UInt8) then ((rlp_Size.f a0_0 a0_1 l0_2).bind fun t107 => (some (t107 == 0))) else (some false)) else (some false))))))) = some r := by rw [if_pos rfl] at H; exact H
  clear H
  have H := H1
  clear H1
  replace H := Option.bind_eq_some_iff.mp H
  obtain ⟨t103, A40, H⟩ := H
  replace H : (if t103 = true then (some true) else ((rlp_Put.f a0_0 a0_1 l0_2).bind fun bt104 => ((hatchwayref08_May.f k a0_0 a0_1 l0_2).bind fun t106 => (if t106 = true then ((hatchwayref08_Deep.f k a0_0 a0_1 l0_2).bind fun t108 => ((hatchwayref08_Count.f k a0_0 a0_1 l0_2).bind fun t109 => ((rlp_Get.f bt104.1 t108 t109).bind fun bt110 => (if bt104.2 = 0 then ((hatchwayref09_Put.f k a0_0 a0_1 l0_2).bind fun t117 => (if bt104.1.toList = t117.toList then ((rlp_Size.f a0_0 a0_1 l0_2).bind fun t118 => (if t118 = (bt104.1.size : Int) then (if bt110.2.2.2 = 0 then ((hatchwayref08_Same.f k a0_0 a0_1 l0_2 bt110.1 bt110.2.1 bt110.2.2.1).bind fun t119 => (some t119)) else (some false)) else (some false))) else (some false))) else (some false))))) else (if bt104.2 = 1 then (if bt104.1.toList = ([] : List UInt8) then ((rlp_Size.f a0_0 a0_1 l0_2).bind fun t107 => (some (t107 == 0))) else (some false)) else (some false)))))) = some r := H
  have A4 := Aside0.mk A40
  clear A40
  by_cases c5 : t103 = true
  ·subst c5
   have H1 : (some true) = some r := by rw [if_pos rfl] at H; exact H
   clear H
   have H := H1
   clear H1
   obtain rfl := Option.some.inj H
   go_enter Try.func11, Try.ntmps11
   go_wp2_with (first | ((with_reducible refine gate_dst (N := 1) rfl ?_); (try (refine gate_guard (by rfl) ?_; dsimp only)); refine box_event ?hg (N := 1) ?hd (cs := #[.string a0_0, .bool a0_1, .slice A0_2 l0_2.length c0_2]) (t := 62) ?hr ?_; (case hd => rfl); (case hg => rfl); (case hr => first | (go_simp; done) | (go_simp; rfl)); intro gb101 hg w6 hbox hb; have n0_ := Aside0.mk (below_step (by repeat (first | (with_reducible first | exact HB.out | apply below_alloc | apply pw_below_drewN | apply below_drew1) | exact HB.out)) hb); have n1_ := Aside0.mk (hbox); have n2_ := Aside0.mk ((by rw [hg]; exact (below_size (by repeat (first | (with_reducible first | exact HB.out | apply below_alloc | apply pw_below_drewN | apply below_drew1) | exact HB.out))) : w.heap.size ≤ gb101)); have n3_ := Aside0.mk ((by rw [hg]; exact (below_size (by repeat (first | (with_reducible first | exact HB.out | apply below_alloc | apply pw_below_drewN | apply below_drew1) | exact HB.out))) : w.heap.size ≤ gb101)); clear HB; have HB := n0_; have BK101 := n1_; have GW101 := n2_; have GE101 := n3_; clear n0_ n1_ n2_ n3_; clear hb hbox hg) | ((with_reducible refine gate_callee (f := 49) rfl ?_); refine goesL_ (some 7) rfl rfl Try.func49 (by kernel_rfl) rfl #[] rfl (by (try simp only [List.map_toArray, List.map_cons, List.map_nil]); first | done | rfl | (simp only [List.length_drop, List.length_take]; rfl)) ?_; (with_reducible refine (hatchwaylaw09_alive.calls  true _ A2.out).mono ?_); rintro e w7 ⟨rfl, hb⟩; refine ⟨_, rfl, ?_⟩; have n0_ := Aside0.mk (blk_below (g := gb101) (o := .cells #[.string a0_0, .bool a0_1, .slice A0_2 l0_2.length c0_2] 62 (0, 0)) (by (with_reducible repeat (first | refine blk_drewN ?_ _ | refine blk_drew ?_ | refine blk_alloc ?_ _)); exact BK101.out) hb); have n1_ := Aside0.mk (below_step (by repeat (first | (with_reducible first | exact HB.out | apply below_alloc | apply pw_below_drewN | apply below_drew1 | refine below_set ?_ GE101.out) | exact HB.out)) hb); clear BK101; clear HB; have BK101 := n0_; have HB := n1_; clear n0_ n1_; (try clear hb); (try clear hb2); (try clear hk); (try clear hi); have hcz8_0 : w7.cell? ⟨gb101, 0, none⟩ = some (.string a0_0) := (blk_cell BK101.out 0).trans rfl; have hcz8_1 : w7.cell? ⟨gb101, 1, none⟩ = some (.bool a0_1) := (blk_cell BK101.out 1).trans rfl; have hcz8_2 : w7.cell? ⟨gb101, 2, none⟩ = some (.slice A0_2 l0_2.length c0_2) := (blk_cell BK101.out 2).trans rfl; have hfz8_0 := blk_frozen BK101.out 0; have hfz8_1 := blk_frozen BK101.out 1; have hfz8_2 := blk_frozen BK101.out 2) | ((with_reducible refine gate_callee (f := 35) rfl ?_); refine goesL_ (some 10) rfl rfl Try.func35 (by kernel_rfl) rfl #[.agg #[.string a0_0, .bool a0_1, .slice A0_2 l0_2.length c0_2]] rfl (by (try simp only [List.map_toArray, List.map_cons, List.map_nil]); first | done | rfl | (simp only [List.length_drop, List.length_take]; rfl)) ?_; (with_reducible refine (hatchwaylaw08_Great.calls k a0_0 a0_1 _ _ l0_2 true _ ?side1 ?side2 A4.out).mono ?_); (case side1 => repeat (first | exact (Kd.C_below HR0_2.out HB.out) | (with_reducible refine Kd.C_alloc ?_ _) | (with_reducible refine Kd.C_drewN ?_ _) | (with_reducible refine Kd.C_drew ?_))); (case side2 => exact HC0_2.out); rintro e w9 ⟨rfl, hb⟩; refine ⟨_, rfl, ?_⟩; have n0_ := Aside0.mk (blk_below (g := gb101) (o := .cells #[.string a0_0, .bool a0_1, .slice A0_2 l0_2.length c0_2] 62 (0, 0)) (by (with_reducible repeat (first | refine blk_drewN ?_ _ | refine blk_drew ?_ | refine blk_alloc ?_ _)); exact BK101.out) hb); have n1_ := Aside0.mk (below_step (by repeat (first | (with_reducible first | exact HB.out | apply below_alloc | apply pw_below_drewN | apply below_drew1 | refine below_set ?_ GE101.out) | exact HB.out)) hb); clear BK101; clear HB; have BK101 := n0_; have HB := n1_; clear n0_ n1_; (try clear hb); (try clear hb2); (try clear hk); (try clear hi)))
   go_ret
   exact ⟨by first | rfl | (simp [errW_none, errW_some] <;> rfl) | (simp [*, errW_none, errW_some] <;> rfl), by repeat (first | (with_reducible first | exact HB.out | apply below_alloc | apply pw_below_drewN | apply below_drew1 | refine below_set ?_ GE101.out) | exact HB.out)⟩
  ·replace c5 := Bool.eq_false_iff.mpr c5
   subst c5
   have H1 : ((rlp_Put.f a0_0 a0_1 l0_2).bind fun bt104 => ((hatchwayref08_May.f k a0_0 a0_1 l0_2).bind fun t106 => (if t106 = true then ((hatchwayref08_Deep.f k a0_0 a0_1 l0_2).bind fun t108 => ((hatchwayref08_Count.f k a0_0 a0_1 l0_2).bind fun t109 => ((rlp_Get.f bt104.1 t108 t109).bind fun bt110 => (if bt104.2 = 0 then ((hatchwayref09_Put.f k a0_0 a0_1 l0_2).bind fun t117 => (if bt104.1.toList = t117.toList then ((rlp_Size.f a0_0 a0_1 l0_2).bind fun t118 => (if t118 = (bt104.1.size : Int) then (if bt110.2.2.2 = 0 then ((hatchwayref08_Same.f k a0_0 a0_1 l0_2 bt110.1 bt110.2.1 bt110.2.2.1).bind fun t119 => (some t119)) else (some false)) else (some false))) else (some false))) else (some false))))) else (if bt104.2 = 1 then (if bt104.1.toList = ([] : List UInt8) then ((rlp_Size.f a0_0 a0_1 l0_2).bind fun t107 => (some (t107 == 0))) else (some false)) else (some false))))) = some r := by rw [if_neg (show ¬ (false = true) by decide)] at H; exact H
   clear H
   have H := H1
   clear H1
   replace H := Option.bind_eq_some_iff.mp H
   obtain ⟨⟨t104, t105⟩, A100, H⟩ := H
   replace H : ((hatchwayref08_May.f k a0_0 a0_1 l0_2).bind fun t106 => (if t106 = true then ((hatchwayref08_Deep.f k a0_0 a0_1 l0_2).bind fun t108 => ((hatchwayref08_Count.f k a0_0 a0_1 l0_2).bind fun t109 => ((rlp_Get.f t104 t108 t109).bind fun bt110 => (if t105 = 0 then ((hatchwayref09_Put.f k a0_0 a0_1 l0_2).bind fun t117 => (if t104.toList = t117.toList then ((rlp_Size.f a0_0 a0_1 l0_2).bind fun t118 => (if t118 = (t104.size : Int) then (if bt110.2.2.2 = 0 then ((hatchwayref08_Same.f k a0_0 a0_1 l0_2 bt110.1 bt110.2.1 bt110.2.2.1).bind fun t119 => (some t119)) else (some false)) else (some false))) else (some false))) else (some false))))) else (if t105 = 1 then (if t104.toList = ([] : List UInt8) then ((rlp_Size.f a0_0 a0_1 l0_2).bind fun t107 => (some (t107 == 0))) else (some false)) else (some false)))) = some r := H
   have A10 := Aside0.mk A100
   clear A100
   replace H := Option.bind_eq_some_iff.mp H
   obtain ⟨t106, A110, H⟩ := H
   replace H : (if t106 = true then ((hatchwayref08_Deep.f k a0_0 a0_1 l0_2).bind fun t108 => ((hatchwayref08_Count.f k a0_0 a0_1 l0_2).bind fun t109 => ((rlp_Get.f t104 t108 t109).bind fun bt110 => (if t105 = 0 then ((hatchwayref09_Put.f k a0_0 a0_1 l0_2).bind fun t117 => (if t104.toList = t117.toList then ((rlp_Size.f a0_0 a0_1 l0_2).bind fun t118 => (if t118 = (t104.size : Int) then (if bt110.2.2.2 = 0 then ((hatchwayref08_Same.f k a0_0 a0_1 l0_2 bt110.1 bt110.2.1 bt110.2.2.1).bind fun t119 => (some t119)) else (some false)) else (some false))) else (some false))) else (some false))))) else (if t105 = 1 then (if t104.toList = ([] : List UInt8) then ((rlp_Size.f a0_0 a0_1 l0_2).bind fun t107 => (some (t107 == 0))) else (some false)) else (some false))) = some r := H
   have A11 := Aside0.mk A110
   clear A110
   by_cases c12 : t106 = true
   ·subst c12
    have H1 : ((hatchwayref08_Deep.f k a0_0 a0_1 l0_2).bind fun t108 => ((hatchwayref08_Count.f k a0_0 a0_1 l0_2).bind fun t109 => ((rlp_Get.f t104 t108 t109).bind fun bt110 => (if t105 = 0 then ((hatchwayref09_Put.f k a0_0 a0_1 l0_2).bind fun t117 => (if t104.toList = t117.toList then ((rlp_Size.f a0_0 a0_1 l0_2).bind fun t118 => (if t118 = (t104.size : Int) then (if bt110.2.2.2 = 0 then ((hatchwayref08_Same.f k a0_0 a0_1 l0_2 bt110.1 bt110.2.1 bt110.2.2.1).bind fun t119 => (some t119)) else (some false)) else (some false))) else (some false))) else (some false))))) = some r := by rw [if_pos rfl] at H; exact H
    clear H
    have H := H1
    clear H1
    replace H := Option.bind_eq_some_iff.mp H
    obtain ⟨t108, A130, H⟩ := H
    replace H : ((hatchwayref08_Count.f k a0_0 a0_1 l0_2).bind fun t109 => ((rlp_Get.f t104 t108 t109).bind fun bt110 => (if t105 = 0 then ((hatchwayref09_Put.f k a0_0 a0_1 l0_2).bind fun t117 => (if t104.toList = t117.toList then ((rlp_Size.f a0_0 a0_1 l0_2).bind fun t118 => (if t118 = (t104.size : Int) then (if bt110.2.2.2 = 0 then ((hatchwayref08_Same.f k a0_0 a0_1 l0_2 bt110.1 bt110.2.1 bt110.2.2.1).bind fun t119 => (some t119)) else (some false)) else (some false))) else (some false))) else (some false)))) = some r := H
    have A13 := Aside0.mk A130
    clear A130
    replace H := Option.bind_eq_some_iff.mp H
    obtain ⟨t109, A140, H⟩ := H
    replace H : ((rlp_Get.f t104 t108 t109).bind fun bt110 => (if t105 = 0 then ((hatchwayref09_Put.f k a0_0 a0_1 l0_2).bind fun t117 => (if t104.toList = t117.toList then ((rlp_Size.f a0_0 a0_1 l0_2).bind fun t118 => (if t118 = (t104.size : Int) then (if bt110.2.2.2 = 0 then ((hatchwayref08_Same.f k a0_0 a0_1 l0_2 bt110.1 bt110.2.1 bt110.2.2.1).bind fun t119 => (some t119)) else (some false)) else (some false))) else (some false))) else (some false))) = some r := H
    have A14 := Aside0.mk A140
    clear A140
    replace H := Option.bind_eq_some_iff.mp H
    obtain ⟨⟨t110, t111, t112, t115⟩, A150, H⟩ := H
    replace H : (if t105 = 0 then ((hatchwayref09_Put.f k a0_0 a0_1 l0_2).bind fun t117 => (if t104.toList = t117.toList then ((rlp_Size.f a0_0 a0_1 l0_2).bind fun t118 => (if t118 = (t104.size : Int) then (if t115 = 0 then ((hatchwayref08_Same.f k a0_0 a0_1 l0_2 t110 t111 t112).bind fun t119 => (some t119)) else (some false)) else (some false))) else (some false))) else (some false)) = some r := H
    have A15 := Aside0.mk A150
    clear A150
    by_cases c16 : t105 = 0
    ·rw [if_pos c16] at H
     have c16b0 : (t105 == 0) = true := beq_iff_eq.mpr c16
     have c16b1 : (t105 != 0) = false := bne_eq_false_iff_eq.mpr c16
     clear c16
     replace H := Option.bind_eq_some_iff.mp H
     obtain ⟨t117, A170, H⟩ := H
     replace H : (if t104.toList = t117.toList then ((rlp_Size.f a0_0 a0_1 l0_2).bind fun t118 => (if t118 = (t104.size : Int) then (if t115 = 0 then ((hatchwayref08_Same.f k a0_0 a0_1 l0_2 t110 t111 t112).bind fun t119 => (some t119)) else (some false)) else (some false))) else (some false)) = some r := H
     have A17 := Aside0.mk A170
     clear A170
     by_cases c18 : t104.toList = t117.toList
     ·rw [if_pos c18] at H
      have c18b0 : (t104.toList == t117.toList) = true := beq_iff_eq.mpr c18
      have c18b1 : (t104.toList != t117.toList) = false := bne_eq_false_iff_eq.mpr c18
      clear c18
      replace H := Option.bind_eq_some_iff.mp H
      obtain ⟨t118, A190, H⟩ := H
      replace H : (if t118 = (t104.size : Int) then (if t115 = 0 then ((hatchwayref08_Same.f k a0_0 a0_1 l0_2 t110 t111 t112).bind fun t119 => (some t119)) else (some false)) else (some false)) = some r := H
      have A19 := Aside0.mk A190
      clear A190
      by_cases c20 : t118 = (t104.size : Int)
      ·rw [if_pos c20] at H
       have c20b0 : (t118 == (t104.size : Int)) = true := beq_iff_eq.mpr c20
       have c20b1 : (t118 != (t104.size : Int)) = false := bne_eq_false_iff_eq.mpr c20
       clear c20
       by_cases c21 : t115 = 0
       ·rw [if_pos c21] at H
        have c21b0 : (t115 == 0) = true := beq_iff_eq.mpr c21
        have c21b1 : (t115 != 0) = false := bne_eq_false_iff_eq.mpr c21
        clear c21
        replace H := Option.bind_eq_some_iff.mp H
        obtain ⟨t119, A220, H⟩ := H
        replace H : (some t119) = some r := H
        have A22 := Aside0.mk A220
        clear A220
        obtain rfl := Option.some.inj H
        go_enter Try.func11, Try.ntmps11
        try go_wp2_with (first | ((with_reducible refine gate_dst (N := 1) rfl ?_); (try (refine gate_guard (by rfl) ?_; dsimp only)); refine box_event ?hg (N := 1) ?hd (cs := #[.string a0_0, .bool a0_1, .slice A0_2 l0_2.length c0_2]) (t := 62) ?hr ?_; (case hd => rfl); (case hg => rfl); (case hr => first | (go_simp; done) | (go_simp; rfl)); intro gb101 hg w23 hbox hb; have n0_ := Aside0.mk (below_step (by repeat (first | (with_reducible first | exact HB.out | apply below_alloc | apply pw_below_drewN | apply below_drew1) | exact HB.out)) hb); have n1_ := Aside0.mk (hbox); have n2_ := Aside0.mk ((by rw [hg]; exact (below_size (by repeat (first | (with_reducible first | exact HB.out | apply below_alloc | apply pw_below_drewN | apply below_drew1) | exact HB.out))) : w.heap.size ≤ gb101)); have n3_ := Aside0.mk ((by rw [hg]; exact (below_size (by repeat (first | (with_reducible first | exact HB.out | apply below_alloc | apply pw_below_drewN | apply below_drew1) | exact HB.out))) : w.heap.size ≤ gb101)); clear HB; have HB := n0_; have BK101 := n1_; have GW101 := n2_; have GE101 := n3_; clear n0_ n1_ n2_ n3_; clear hb hbox hg) | ((with_reducible refine gate_callee (f := 49) rfl ?_); refine goesL_ (some 7) rfl rfl Try.func49 (by kernel_rfl) rfl #[] rfl (by (try simp only [List.map_toArray, List.map_cons, List.map_nil]); first | done | rfl | (simp only [List.length_drop, List.length_take]; rfl)) ?_; (with_reducible refine (hatchwaylaw09_alive.calls  true _ A2.out).mono ?_); rintro e w24 ⟨rfl, hb⟩; refine ⟨_, rfl, ?_⟩; have n0_ := Aside0.mk (blk_below (g := gb101) (o := .cells #[.string a0_0, .bool a0_1, .slice A0_2 l0_2.length c0_2] 62 (0, 0)) (by (with_reducible repeat (first | refine blk_drewN ?_ _ | refine blk_drew ?_ | refine blk_alloc ?_ _)); exact BK101.out) hb); have n1_ := Aside0.mk (below_step (by repeat (first | (with_reducible first | exact HB.out | apply below_alloc | apply pw_below_drewN | apply below_drew1 | refine below_set ?_ GE101.out) | exact HB.out)) hb); clear BK101; clear HB; have BK101 := n0_; have HB := n1_; clear n0_ n1_; (try clear hb); (try clear hb2); (try clear hk); (try clear hi); have hcz25_0 : w24.cell? ⟨gb101, 0, none⟩ = some (.string a0_0) := (blk_cell BK101.out 0).trans rfl; have hcz25_1 : w24.cell? ⟨gb101, 1, none⟩ = some (.bool a0_1) := (blk_cell BK101.out 1).trans rfl; have hcz25_2 : w24.cell? ⟨gb101, 2, none⟩ = some (.slice A0_2 l0_2.length c0_2) := (blk_cell BK101.out 2).trans rfl; have hfz25_0 := blk_frozen BK101.out 0; have hfz25_1 := blk_frozen BK101.out 1; have hfz25_2 := blk_frozen BK101.out 2) | ((with_reducible refine gate_callee (f := 35) rfl ?_); refine goesL_ (some 10) rfl rfl Try.func35 (by kernel_rfl) rfl #[.agg #[.string a0_0, .bool a0_1, .slice A0_2 l0_2.length c0_2]] rfl (by (try simp only [List.map_toArray, List.map_cons, List.map_nil]); first | done | rfl | (simp only [List.length_drop, List.length_take]; rfl)) ?_; (with_reducible refine (hatchwaylaw08_Great.calls k a0_0 a0_1 _ _ l0_2 false _ ?side1 ?side2 A4.out).mono ?_); (case side1 => repeat (first | exact (Kd.C_below HR0_2.out HB.out) | (with_reducible refine Kd.C_alloc ?_ _) | (with_reducible refine Kd.C_drewN ?_ _) | (with_reducible refine Kd.C_drew ?_))); (case side2 => exact HC0_2.out); rintro e w26 ⟨rfl, hb⟩; refine ⟨_, rfl, ?_⟩; have n0_ := Aside0.mk (blk_below (g := gb101) (o := .cells #[.string a0_0, .bool a0_1, .slice A0_2 l0_2.length c0_2] 62 (0, 0)) (by (with_reducible repeat (first | refine blk_drewN ?_ _ | refine blk_drew ?_ | refine blk_alloc ?_ _)); exact BK101.out) hb); have n1_ := Aside0.mk (below_step (by repeat (first | (with_reducible first | exact HB.out | apply below_alloc | apply pw_below_drewN | apply below_drew1 | refine below_set ?_ GE101.out) | exact HB.out)) hb); clear BK101; clear HB; have BK101 := n0_; have HB := n1_; clear n0_ n1_; (try clear hb); (try clear hb2); (try clear hk); (try clear hi); have hcz27_0 : w26.cell? ⟨gb101, 0, none⟩ = some (.string a0_0) := (blk_cell BK101.out 0).trans rfl; have hcz27_1 : w26.cell? ⟨gb101, 1, none⟩ = some (.bool a0_1) := (blk_cell BK101.out 1).trans rfl; have hcz27_2 : w26.cell? ⟨gb101, 2, none⟩ = some (.slice A0_2 l0_2.length c0_2) := (blk_cell BK101.out 2).trans rfl; have hfz27_0 := blk_frozen BK101.out 0; have hfz27_1 := blk_frozen BK101.out 1; have hfz27_2 := blk_frozen BK101.out 2) | ((with_reducible refine gate_callee (f := 54) rfl ?_); refine goesL_ (some 13) rfl rfl Try.func54 (by kernel_rfl) rfl #[.agg #[.string a0_0, .bool a0_1, .slice A0_2 l0_2.length c0_2]] rfl (by (try simp only [List.map_toArray, List.map_cons, List.map_nil]); first | done | rfl | (simp only [List.length_drop, List.length_take]; rfl)) ?_; (with_reducible refine (rlp_Put.calls a0_0 a0_1 _ _ l0_2 t104 t105 _ ?side1 ?side2 A10.out).mono ?_); (case side1 => repeat (first | exact (Kd.C_below HR0_2.out HB.out) | (with_reducible refine Kd.C_alloc ?_ _) | (with_reducible refine Kd.C_drewN ?_ _) | (with_reducible refine Kd.C_drew ?_))); (case side2 => exact HC0_2.out); rintro e w28 ⟨rfl, hb⟩; refine ⟨_, rfl, ?_⟩; have n0_ := Aside0.mk (blk_below (g := gb101) (o := .cells #[.string a0_0, .bool a0_1, .slice A0_2 l0_2.length c0_2] 62 (0, 0)) (by (with_reducible repeat (first | refine blk_drewN ?_ _ | refine blk_drew ?_ | refine blk_alloc ?_ _)); exact BK101.out) hb); have n1_ := Aside0.mk (below_step (by repeat (first | (with_reducible first | exact HB.out | apply below_alloc | apply pw_below_drewN | apply below_drew1 | refine below_set ?_ GE101.out) | exact HB.out)) hb); clear BK101; clear HB; have BK101 := n0_; have HB := n1_; clear n0_ n1_; (try clear hb); (try clear hb2); (try clear hk); (try clear hi); have hcz29_0 : w28.cell? ⟨gb101, 0, none⟩ = some (.string a0_0) := (blk_cell BK101.out 0).trans rfl; have hcz29_1 : w28.cell? ⟨gb101, 1, none⟩ = some (.bool a0_1) := (blk_cell BK101.out 1).trans rfl; have hcz29_2 : w28.cell? ⟨gb101, 2, none⟩ = some (.slice A0_2 l0_2.length c0_2) := (blk_cell BK101.out 2).trans rfl; have hfz29_0 := blk_frozen BK101.out 0; have hfz29_1 := blk_frozen BK101.out 1; have hfz29_2 := blk_frozen BK101.out 2) | ((with_reducible refine gate_callee (f := 37) rfl ?_); refine goesL_ (some 17) rfl rfl Try.func37 (by kernel_rfl) rfl #[.agg #[.string a0_0, .bool a0_1, .slice A0_2 l0_2.length c0_2]] rfl (by (try simp only [List.map_toArray, List.map_cons, List.map_nil]); first | done | rfl | (simp only [List.length_drop, List.length_take]; rfl)) ?_; (with_reducible refine (hatchwayref08_May.calls k a0_0 a0_1 _ _ l0_2 true _ ?side1 ?side2 A11.out).mono ?_); (case side1 => repeat (first | exact (Kd.C_below HR0_2.out HB.out) | (with_reducible refine Kd.C_alloc ?_ _) | (with_reducible refine Kd.C_drewN ?_ _) | (with_reducible refine Kd.C_drew ?_))); (case side2 => exact HC0_2.out); rintro e w30 ⟨rfl, hb⟩; refine ⟨_, rfl, ?_⟩; have n0_ := Aside0.mk (blk_below (g := gb101) (o := .cells #[.string a0_0, .bool a0_1, .slice A0_2 l0_2.length c0_2] 62 (0, 0)) (by (with_reducible repeat (first | refine blk_drewN ?_ _ | refine blk_drew ?_ | refine blk_alloc ?_ _)); exact BK101.out) hb); have n1_ := Aside0.mk (below_step (by repeat (first | (with_reducible first | exact HB.out | apply below_alloc | apply pw_below_drewN | apply below_drew1 | refine below_set ?_ GE101.out) | exact HB.out)) hb); clear BK101; clear HB; have BK101 := n0_; have HB := n1_; clear n0_ n1_; (try clear hb); (try clear hb2); (try clear hk); (try clear hi)))
        have n0_ := Aside0.mk (blk_drew BK101.out)
        have n1_ := Aside0.mk (below_drew1 HB.out)
        clear BK101
        clear HB
        have BK101 := n0_
        have HB := n1_
        clear n0_ n1_
        refine start_ (n := 12) (S := fun w' => w'.cell? ⟨gb101, 0, none⟩ = some (.string a0_0) ∧ w'.cell? ⟨gb101, 1, none⟩ = some (.bool a0_1) ∧ w'.cell? ⟨gb101, 2, none⟩ = some (.slice A0_2 l0_2.length c0_2)) (ds := []) #[false, false, false, false, false, false, false, false, false, false, false, false] (by kernel_rfl) rfl rfl ⟨(blk_cell BK101.out 0).trans rfl, (blk_cell BK101.out 1).trans rfl, (blk_cell BK101.out 2).trans rfl⟩ (fun hHeld => ?_); refine with_tabW hatchwaylaw09_RlpPuts.tab8 hatchwaylaw09_RlpPuts.bits8 (fun HT_ HW_ => ?_)
        generalize w30.drew = w31 at BK101 HB hHeld ⊢
        refine pure_ (i := 0) (N := some 31) (v := ?_) (a' := ?_) #[true, false, false, false, false, false, false, false, false, false, false, false] rfl rfl (any_of HT_.out (by kernel_rfl)) (fun _ _ _ h => h) (Or.inl ⟨by rfl, ?_⟩) ?_ ?_
        rotate_left
        ·intro w'
         go_simp
         with_reducible rfl
        rotate_left
        ·simp only [Act.put, List.setIfInBounds_toArray, List.set_cons_zero, List.set_cons_succ, i64_w, i32_w]
         rfl
        refine take_ (i := 1) (N := some 32) (v := ?_) (a' := ?_) #[true, true, false, false, false, false, false, false, false, false, false, false] rfl rfl (take_ofW HT_.out HW_.out (by kernel_rfl)) (fun _ _ _ h => h) (Or.inl ⟨by rfl, ?_⟩) hHeld ?_ ?_
        rotate_left
        ·rintro w' ⟨s0, s1, s2⟩
         go_simp
         with_reducible rfl
        rotate_left
        ·simp only [Act.put, List.setIfInBounds_toArray, List.set_cons_zero, List.set_cons_succ, i64_w, i32_w]
         rfl
        refine take_ (i := 3) (N := some 34) (v := ?_) (a' := ?_) #[true, true, false, true, false, false, false, false, false, false, false, false] rfl rfl (take_ofW HT_.out HW_.out (by kernel_rfl)) (fun _ _ _ h => h) (Or.inl ⟨by rfl, ?_⟩) hHeld ?_ ?_
        rotate_left
        ·rintro w' ⟨s0, s1, s2⟩
         go_simp
         with_reducible rfl
        rotate_left
        ·simp only [Act.put, List.setIfInBounds_toArray, List.set_cons_zero, List.set_cons_succ, i64_w, i32_w]
         rfl
        refine join_ (σ := Value × Nat) 2 #[true, true, true, true, true, true, true, true, true, true, false, false] (fun s_ => [(33, .int .i64 t108), (35, .int .i64 t109), (36, .tuple #[.agg #[.string t110, .bool t111, s_.1], .int .i64 t115]), (5, .pointer (some ⟨s_.2, 0, none⟩)), (30, .tuple #[.agg #[.string t110, .bool t111, s_.1], .int .i64 t115]), (37, .agg #[.string t110, .bool t111, s_.1]), (38, .int .i64 t115)]) (fun s_ w' => (w'.cell? ⟨gb101, 0, none⟩ = some (.string a0_0) ∧ w'.cell? ⟨gb101, 1, none⟩ = some (.bool a0_1) ∧ w'.cell? ⟨gb101, 2, none⟩ = some (.slice A0_2 l0_2.length c0_2)) ∧ (Kd.R k62 62 w' w.heap.size (fun k_ => k_ ≠ gb101 ∧ k_ ≠ s_.2) s_.1 t112) ∧ (w'.heap[gb101]? = some (.cells #[.string a0_0, .bool a0_1, .slice A0_2 l0_2.length c0_2] 62 (0, 0))) ∧ (w'.heap[s_.2]? = some (.cells #[.string (⟨#[]⟩ : ByteArray), .bool false, .slice none 0 0] 62 (0, 0))) ∧ (w.heap.size ≤ s_.2) ∧ (w.heap.size ≤ s_.2) ∧ (gb101 ≠ s_.2) ∧ (s_.2 ≠ gb101) ∧ (Below w.heap.size w w')) ?_ ?_
        rotate_left
        ·intro hCont
         refine two_ (i := 2) (j := 9) (Ni := some 33) (Nj := some 5) #[true, true, true, true, false, false, false, false, false, false, false, false] #[true, true, false, true, false, false, false, false, false, true, false, false] rfl rfl rfl rfl (two_of HT_.out (by kernel_rfl)) (by decide) (by decide) (fun K hK => ?_) (fun K hK => ?_)
         ·skip
          refine goes_ Try.func50 (by kernel_rfl) rfl #[.agg #[.string a0_0, .bool a0_1, .slice A0_2 l0_2.length c0_2]] (by rfl) rfl rfl (by (try simp only [List.map_toArray, List.map_cons, List.map_nil]); first | done | rfl | (simp only [List.length_drop, List.length_take]; rfl)) ?_
          with_reducible refine (hatchwayref08_Deep.calls k a0_0 a0_1 _ _ l0_2 t108 _ ?side1 ?side2 A13.out).mono ?_
          (case side1 => repeat (first | exact (Kd.C_below HR0_2.out HB.out) | (with_reducible refine Kd.C_alloc ?_ _) | (with_reducible refine Kd.C_drewN ?_ _) | (with_reducible refine Kd.C_drew ?_)))
          (case side2 => exact HC0_2.out)
          rintro e w32 ⟨rfl, hb⟩
          refine ⟨_, rfl, ?_⟩
          have n0_ := Aside0.mk (blk_below (g := gb101) (o := .cells #[.string a0_0, .bool a0_1, .slice A0_2 l0_2.length c0_2] 62 (0, 0)) (by (with_reducible repeat (first | refine blk_drewN ?_ _ | refine blk_drew ?_ | refine blk_alloc ?_ _)); exact BK101.out) hb)
          have n1_ := Aside0.mk (below_step (by repeat (first | (with_reducible first | exact HB.out | apply below_alloc | apply pw_below_drewN | apply below_drew1 | refine below_set ?_ GE101.out) | exact HB.out)) hb)
          clear BK101
          clear HB
          have BK101 := n0_
          have HB := n1_
          clear n0_ n1_
          (try clear hb)
          (try clear hb2)
          (try clear hk)
          (try clear hi)
          refine hK.out _ _ ⟨(blk_cell BK101.out 0).trans rfl, (blk_cell BK101.out 1).trans rfl, (blk_cell BK101.out 2).trans rfl⟩ (fun hHeld => ?_)
          clear hK K
          refine norm_ (a' := ?_) ?_ ?_
          rotate_left
          ·show Act.put _ (some 33) _ = _
           simp only [Act.put, List.setIfInBounds_toArray, List.set_cons_zero, List.set_cons_succ, i64_w, i32_w]
           rfl
          refine two_ (i := 4) (j := 9) (Ni := some 35) (Nj := some 5) #[true, true, true, true, true, false, false, false, false, false, false, false] #[true, true, true, true, false, false, false, false, false, true, false, false] rfl rfl rfl rfl (two_of HT_.out (by kernel_rfl)) (by decide) (by decide) (fun K hK => ?_) (fun K hK => ?_)
          ·skip
           refine goes_ Try.func51 (by kernel_rfl) rfl #[.agg #[.string a0_0, .bool a0_1, .slice A0_2 l0_2.length c0_2]] (by rfl) rfl rfl (by (try simp only [List.map_toArray, List.map_cons, List.map_nil]); first | done | rfl | (simp only [List.length_drop, List.length_take]; rfl)) ?_
           with_reducible refine (hatchwayref08_Count.calls k a0_0 a0_1 _ _ l0_2 t109 _ ?side1 ?side2 A14.out).mono ?_
           (case side1 => repeat (first | exact (Kd.C_below HR0_2.out HB.out) | (with_reducible refine Kd.C_alloc ?_ _) | (with_reducible refine Kd.C_drewN ?_ _) | (with_reducible refine Kd.C_drew ?_)))
           (case side2 => exact HC0_2.out)
           rintro e w33 ⟨rfl, hb⟩
           refine ⟨_, rfl, ?_⟩
           have n0_ := Aside0.mk (blk_below (g := gb101) (o := .cells #[.string a0_0, .bool a0_1, .slice A0_2 l0_2.length c0_2] 62 (0, 0)) (by (with_reducible repeat (first | refine blk_drewN ?_ _ | refine blk_drew ?_ | refine blk_alloc ?_ _)); exact BK101.out) hb)
           have n1_ := Aside0.mk (below_step (by repeat (first | (with_reducible first | exact HB.out | apply below_alloc | apply pw_below_drewN | apply below_drew1 | refine below_set ?_ GE101.out) | exact HB.out)) hb)
           clear BK101
           clear HB
           have BK101 := n0_
           have HB := n1_
           clear n0_ n1_
           (try clear hb)
           (try clear hb2)
           (try clear hk)
           (try clear hi)
           refine hK.out _ _ ⟨(blk_cell BK101.out 0).trans rfl, (blk_cell BK101.out 1).trans rfl, (blk_cell BK101.out 2).trans rfl⟩ (fun hHeld => ?_)
           clear hK K
           refine norm_ (a' := ?_) ?_ ?_
           rotate_left
           ·show Act.put _ (some 35) _ = _
            simp only [Act.put, List.setIfInBounds_toArray, List.set_cons_zero, List.set_cons_succ, i64_w, i32_w]
            rfl
           refine two_ (i := 5) (j := 9) (Ni := some 36) (Nj := some 5) #[true, true, true, true, true, true, false, false, false, false, false, false] #[true, true, true, true, true, false, false, false, false, true, false, false] rfl rfl rfl rfl (two_of HT_.out (by kernel_rfl)) (by decide) (by decide) (fun K hK => ?_) (fun K hK => ?_)
           ·skip
            refine goes_ Try.func52 (by kernel_rfl) rfl #[.string t104, .int .i64 t108, .int .i64 t109] (by rfl) rfl rfl (by (try simp only [List.map_toArray, List.map_cons, List.map_nil]); first | done | rfl | (simp only [List.length_drop, List.length_take]; rfl)) ?_
            with_reducible refine (rlp_Get.calls t104 t108 t109 t110 t111 t112 t115 _ A15.out).mono ?_
            rintro e w34 ⟨v113, rfl, ho0, hb⟩
            refine ⟨_, rfl, ?_⟩
            have n0_ := Aside0.mk (Kd.R_lower (Kd.R_newB ho0 (g := gb101) (o := .cells #[.string a0_0, .bool a0_1, .slice A0_2 l0_2.length c0_2] 62 (0, 0)) (by (with_reducible repeat (first | refine blk_drewN ?_ _ | refine blk_drew ?_ | refine blk_alloc ?_ _)); exact BK101.out)) (below_size (by repeat (first | (with_reducible first | exact HB.out | apply below_alloc | apply pw_below_drewN | apply below_drew1 | refine below_set ?_ GE101.out) | exact HB.out))))
            have n1_ := Aside0.mk (blk_below (g := gb101) (o := .cells #[.string a0_0, .bool a0_1, .slice A0_2 l0_2.length c0_2] 62 (0, 0)) (by (with_reducible repeat (first | refine blk_drewN ?_ _ | refine blk_drew ?_ | refine blk_alloc ?_ _)); exact BK101.out) hb)
            have n2_ := Aside0.mk (below_step (by repeat (first | (with_reducible first | exact HB.out | apply below_alloc | apply pw_below_drewN | apply below_drew1 | refine below_set ?_ GE101.out) | exact HB.out)) hb)
            clear BK101
            clear HB
            have HO114 := n0_
            have BK101 := n1_
            have HB := n2_
            clear n0_ n1_ n2_
            (try clear hb)
            (try clear hb2)
            (try clear hk)
            (try clear hi)
            (try clear ho0)
            refine hK.out _ _ ⟨(blk_cell BK101.out 0).trans rfl, (blk_cell BK101.out 1).trans rfl, (blk_cell BK101.out 2).trans rfl⟩ (fun hHeld => ?_)
            clear hK K
            refine norm_ (a' := ?_) ?_ ?_
            rotate_left
            ·show Act.put _ (some 36) _ = _
             simp only [Act.put, List.setIfInBounds_toArray, List.set_cons_zero, List.set_cons_succ, i64_w, i32_w]
             rfl
            refine pure_ (i := 6) (N := some 30) (v := ?_) (a' := ?_) #[true, true, true, true, true, true, true, false, false, false, false, false] rfl rfl (any_of HT_.out (by kernel_rfl)) (fun _ _ _ h => h) (Or.inl ⟨by rfl, ?_⟩) ?_ ?_
            rotate_left
            ·intro w'
             go_simp
             with_reducible rfl
            rotate_left
            ·simp only [Act.put, List.setIfInBounds_toArray, List.set_cons_zero, List.set_cons_succ, i64_w, i32_w]
             rfl
            refine pure_ (i := 7) (N := some 37) (v := ?_) (a' := ?_) #[true, true, true, true, true, true, true, true, false, false, false, false] rfl rfl (any_of HT_.out (by kernel_rfl)) (fun _ _ _ h => h) (Or.inl ⟨by rfl, ?_⟩) ?_ ?_
            rotate_left
            ·intro w'
             go_simp
             with_reducible rfl
            rotate_left
            ·simp only [Act.put, List.setIfInBounds_toArray, List.set_cons_zero, List.set_cons_succ, i64_w, i32_w]
             rfl
            refine pure_ (i := 8) (N := some 38) (v := ?_) (a' := ?_) #[true, true, true, true, true, true, true, true, true, false, false, false] rfl rfl (any_of HT_.out (by kernel_rfl)) (fun _ _ _ h => h) (Or.inl ⟨by rfl, ?_⟩) ?_ ?_
            rotate_left
            ·intro w'
             go_simp
             with_reducible rfl
            rotate_left
            ·simp only [Act.put, List.setIfInBounds_toArray, List.set_cons_zero, List.set_cons_succ, i64_w, i32_w]
             rfl
            refine one_ (i := 9) (N := some 5) #[true, true, true, true, true, true, true, true, true, true, false, false] rfl rfl (one_of HT_.out (by kernel_rfl)) (by decide) (fun K hK => ?_)
            refine box_step ?hg (N := 5) ?hd (cs := #[.string (⟨#[]⟩ : ByteArray), .bool false, .slice none 0 0]) (t := 62) ?hr ?_; (case hd => rfl); (case hg => rfl); (case hr => first | (go_simp; done) | (go_simp; rfl))
            intro gb116 hg w35 hbox hb
            have n0_ := Aside0.mk (Kd.R_below (Kd.R_elderB (by (with_reducible repeat (first | apply Kd.R_alloc | apply Kd.R_drewN | apply Kd.R_drew)); exact HO114.out) gb116 (Nat.le_of_eq hg.symm)) hb)
            have n1_ := Aside0.mk (blk_below (g := gb101) (o := .cells #[.string a0_0, .bool a0_1, .slice A0_2 l0_2.length c0_2] 62 (0, 0)) (by (with_reducible repeat (first | refine blk_drewN ?_ _ | refine blk_drew ?_ | refine blk_alloc ?_ _)); exact BK101.out) hb)
            have n2_ := Aside0.mk (below_step (by repeat (first | (with_reducible first | exact HB.out | apply below_alloc | apply pw_below_drewN | apply below_drew1 | refine below_set ?_ GE101.out) | exact HB.out)) hb)
            have n3_ := Aside0.mk (hbox)
            have n4_ := Aside0.mk ((by rw [hg]; exact (below_size (by repeat (first | (with_reducible first | exact HB.out | apply below_alloc | apply pw_below_drewN | apply below_drew1 | refine below_set ?_ GE101.out) | exact HB.out))) : w.heap.size ≤ gb116))
            have n5_ := Aside0.mk ((by rw [hg]; exact (below_size (by repeat (first | (with_reducible first | exact HB.out | apply below_alloc | apply pw_below_drewN | apply below_drew1 | refine below_set ?_ GE101.out) | exact HB.out))) : w.heap.size ≤ gb116))
            have n6_ := Aside0.mk ((by rw [hg]; exact Nat.ne_of_lt (blk_lt (g := gb101) (o := .cells #[.string a0_0, .bool a0_1, .slice A0_2 l0_2.length c0_2] 62 (0, 0)) (by (with_reducible repeat (first | refine blk_drewN ?_ _ | refine blk_drew ?_ | refine blk_alloc ?_ _)); exact BK101.out)) : gb101 ≠ gb116))
            have n7_ := Aside0.mk ((by rw [hg]; exact Nat.ne_of_gt (blk_lt (g := gb101) (o := .cells #[.string a0_0, .bool a0_1, .slice A0_2 l0_2.length c0_2] 62 (0, 0)) (by (with_reducible repeat (first | refine blk_drewN ?_ _ | refine blk_drew ?_ | refine blk_alloc ?_ _)); exact BK101.out)) : gb116 ≠ gb101))
            clear HO114
            clear BK101
            clear HB
            have HO114 := n0_
            have BK101 := n1_
            have HB := n2_
            have BK116 := n3_
            have GW116 := n4_
            have GE116 := n5_
            have NB101_116 := n6_
            have NB116_101 := n7_
            clear n0_ n1_ n2_ n3_ n4_ n5_ n6_ n7_
            clear hb hbox hg
            refine hK.out _ _ ⟨(blk_cell BK101.out 0).trans rfl, (blk_cell BK101.out 1).trans rfl, (blk_cell BK101.out 2).trans rfl⟩ (fun hHeld => ?_)
            clear hK K
            refine norm_ (a' := ?_) ?_ ?_
            rotate_left
            ·show Act.put _ (some 5) _ = _
             simp only [Act.put, List.setIfInBounds_toArray, List.set_cons_zero, List.set_cons_succ, i64_w, i32_w]
             rfl
            exact norm_ (by simp only [putAll, Act.put, List.setIfInBounds_toArray, List.set_cons_zero, List.set_cons_succ]) (hCont (v113, gb116) _ ⟨hHeld, (by (with_reducible repeat (first | apply Kd.R_alloc | apply Kd.R_drewN | apply Kd.R_drew)); exact Kd.R_mono HO114.out (fun _ hk => ⟨hk.1.2, hk.2⟩)), (by (with_reducible repeat (first | refine blk_drewN ?_ _ | refine blk_drew ?_ | refine blk_alloc ?_ _)); exact BK101.out), (by (with_reducible repeat (first | refine blk_drewN ?_ _ | refine blk_drew ?_ | refine blk_alloc ?_ _)); exact BK116.out), GW116.out, GE116.out, NB101_116.out, NB116_101.out, (by repeat (first | (with_reducible first | exact HB.out | apply below_alloc | apply pw_below_drewN | apply below_drew1 | refine below_set ?_ GE101.out | refine below_set ?_ GE116.out) | exact HB.out))⟩)
           ·skip
            refine box_step ?hg (N := 5) ?hd (cs := #[.string (⟨#[]⟩ : ByteArray), .bool false, .slice none 0 0]) (t := 62) ?hr ?_; (case hd => rfl); (case hg => rfl); (case hr => first | (go_simp; done) | (go_simp; rfl))
            intro gb116 hg w34 hbox hb
            have n0_ := Aside0.mk (blk_below (g := gb101) (o := .cells #[.string a0_0, .bool a0_1, .slice A0_2 l0_2.length c0_2] 62 (0, 0)) (by (with_reducible repeat (first | refine blk_drewN ?_ _ | refine blk_drew ?_ | refine blk_alloc ?_ _)); exact BK101.out) hb)
            have n1_ := Aside0.mk (below_step (by repeat (first | (with_reducible first | exact HB.out | apply below_alloc | apply pw_below_drewN | apply below_drew1 | refine below_set ?_ GE101.out) | exact HB.out)) hb)
            have n2_ := Aside0.mk (hbox)
            have n3_ := Aside0.mk ((by rw [hg]; exact (below_size (by repeat (first | (with_reducible first | exact HB.out | apply below_alloc | apply pw_below_drewN | apply below_drew1 | refine below_set ?_ GE101.out) | exact HB.out))) : w.heap.size ≤ gb116))
            have n4_ := Aside0.mk ((by rw [hg]; exact (below_size (by repeat (first | (with_reducible first | exact HB.out | apply below_alloc | apply pw_below_drewN | apply below_drew1 | refine below_set ?_ GE101.out) | exact HB.out))) : w.heap.size ≤ gb116))
            have n5_ := Aside0.mk ((by rw [hg]; exact Nat.ne_of_lt (blk_lt (g := gb101) (o := .cells #[.string a0_0, .bool a0_1, .slice A0_2 l0_2.length c0_2] 62 (0, 0)) (by (with_reducible repeat (first | refine blk_drewN ?_ _ | refine blk_drew ?_ | refine blk_alloc ?_ _)); exact BK101.out)) : gb101 ≠ gb116))
            have n6_ := Aside0.mk ((by rw [hg]; exact Nat.ne_of_gt (blk_lt (g := gb101) (o := .cells #[.string a0_0, .bool a0_1, .slice A0_2 l0_2.length c0_2] 62 (0, 0)) (by (with_reducible repeat (first | refine blk_drewN ?_ _ | refine blk_drew ?_ | refine blk_alloc ?_ _)); exact BK101.out)) : gb116 ≠ gb101))
            clear BK101
            clear HB
            have BK101 := n0_
            have HB := n1_
            have BK116 := n2_
            have GW116 := n3_
            have GE116 := n4_
            have NB101_116 := n5_
            have NB116_101 := n6_
            clear n0_ n1_ n2_ n3_ n4_ n5_ n6_
            clear hb hbox hg
            refine hK.out _ _ ⟨(blk_cell BK101.out 0).trans rfl, (blk_cell BK101.out 1).trans rfl, (blk_cell BK101.out 2).trans rfl⟩ (fun hHeld => ?_)
            clear hK K
            refine norm_ (a' := ?_) ?_ ?_
            rotate_left
            ·show Act.put _ (some 5) _ = _
             simp only [Act.put, List.setIfInBounds_toArray, List.set_cons_zero, List.set_cons_succ, i64_w, i32_w]
             rfl
            refine one_ (i := 5) (N := some 36) #[true, true, true, true, true, true, false, false, false, true, false, false] rfl rfl (one_of HT_.out (by kernel_rfl)) (by decide) (fun K hK => ?_)
            refine goes_ Try.func52 (by kernel_rfl) rfl #[.string t104, .int .i64 t108, .int .i64 t109] (by rfl) rfl rfl (by (try simp only [List.map_toArray, List.map_cons, List.map_nil]); first | done | rfl | (simp only [List.length_drop, List.length_take]; rfl)) ?_
            with_reducible refine (rlp_Get.calls t104 t108 t109 t110 t111 t112 t115 _ A15.out).mono ?_
            rintro e w35 ⟨v113, rfl, ho0, hb⟩
            refine ⟨_, rfl, ?_⟩
            have n0_ := Aside0.mk (Kd.R_lower (Kd.R_newB (Kd.R_newB ho0 (g := gb101) (o := .cells #[.string a0_0, .bool a0_1, .slice A0_2 l0_2.length c0_2] 62 (0, 0)) (by (with_reducible repeat (first | refine blk_drewN ?_ _ | refine blk_drew ?_ | refine blk_alloc ?_ _)); exact BK101.out)) (g := gb116) (o := .cells #[.string (⟨#[]⟩ : ByteArray), .bool false, .slice none 0 0] 62 (0, 0)) (by (with_reducible repeat (first | refine blk_drewN ?_ _ | refine blk_drew ?_ | refine blk_alloc ?_ _)); exact BK116.out)) (below_size (by repeat (first | (with_reducible first | exact HB.out | apply below_alloc | apply pw_below_drewN | apply below_drew1 | refine below_set ?_ GE101.out | refine below_set ?_ GE116.out) | exact HB.out))))
            have n1_ := Aside0.mk (blk_below (g := gb101) (o := .cells #[.string a0_0, .bool a0_1, .slice A0_2 l0_2.length c0_2] 62 (0, 0)) (by (with_reducible repeat (first | refine blk_drewN ?_ _ | refine blk_drew ?_ | refine blk_alloc ?_ _)); exact BK101.out) hb)
            have n2_ := Aside0.mk (blk_below (g := gb116) (o := .cells #[.string (⟨#[]⟩ : ByteArray), .bool false, .slice none 0 0] 62 (0, 0)) (by (with_reducible repeat (first | refine blk_drewN ?_ _ | refine blk_drew ?_ | refine blk_alloc ?_ _)); exact BK116.out) hb)
            have n3_ := Aside0.mk (below_step (by repeat (first | (with_reducible first | exact HB.out | apply below_alloc | apply pw_below_drewN | apply below_drew1 | refine below_set ?_ GE101.out | refine below_set ?_ GE116.out) | exact HB.out)) hb)
            clear BK101
            clear BK116
            clear HB
            have HO114 := n0_
            have BK101 := n1_
            have BK116 := n2_
            have HB := n3_
            clear n0_ n1_ n2_ n3_
            (try clear hb)
            (try clear hb2)
            (try clear hk)
            (try clear hi)
            (try clear ho0)
            refine hK.out _ _ ⟨(blk_cell BK101.out 0).trans rfl, (blk_cell BK101.out 1).trans rfl, (blk_cell BK101.out 2).trans rfl⟩ (fun hHeld => ?_)
            clear hK K
            refine norm_ (a' := ?_) ?_ ?_
            rotate_left
            ·show Act.put _ (some 36) _ = _
             simp only [Act.put, List.setIfInBounds_toArray, List.set_cons_zero, List.set_cons_succ, i64_w, i32_w]
             rfl
            refine pure_ (i := 6) (N := some 30) (v := ?_) (a' := ?_) #[true, true, true, true, true, true, true, false, false, true, false, false] rfl rfl (any_of HT_.out (by kernel_rfl)) (fun _ _ _ h => h) (Or.inl ⟨by rfl, ?_⟩) ?_ ?_
            rotate_left
            ·intro w'
             go_simp
             with_reducible rfl
            rotate_left
            ·simp only [Act.put, List.setIfInBounds_toArray, List.set_cons_zero, List.set_cons_succ, i64_w, i32_w]
             rfl
            refine pure_ (i := 7) (N := some 37) (v := ?_) (a' := ?_) #[true, true, true, true, true, true, true, true, false, true, false, false] rfl rfl (any_of HT_.out (by kernel_rfl)) (fun _ _ _ h => h) (Or.inl ⟨by rfl, ?_⟩) ?_ ?_
            rotate_left
            ·intro w'
             go_simp
             with_reducible rfl
            rotate_left
            ·simp only [Act.put, List.setIfInBounds_toArray, List.set_cons_zero, List.set_cons_succ, i64_w, i32_w]
             rfl
            refine pure_ (i := 8) (N := some 38) (v := ?_) (a' := ?_) #[true, true, true, true, true, true, true, true, true, true, false, false] rfl rfl (any_of HT_.out (by kernel_rfl)) (fun _ _ _ h => h) (Or.inl ⟨by rfl, ?_⟩) ?_ ?_
            rotate_left
            ·intro w'
             go_simp
             with_reducible rfl
            rotate_left
            ·simp only [Act.put, List.setIfInBounds_toArray, List.set_cons_zero, List.set_cons_succ, i64_w, i32_w]
             rfl
            exact norm_ (by simp only [putAll, Act.put, List.setIfInBounds_toArray, List.set_cons_zero, List.set_cons_succ]) (hCont (v113, gb116) _ ⟨hHeld, (by (with_reducible repeat (first | apply Kd.R_alloc | apply Kd.R_drewN | apply Kd.R_drew)); exact Kd.R_mono HO114.out (fun _ hk => ⟨hk.1.2, hk.2⟩)), (by (with_reducible repeat (first | refine blk_drewN ?_ _ | refine blk_drew ?_ | refine blk_alloc ?_ _)); exact BK101.out), (by (with_reducible repeat (first | refine blk_drewN ?_ _ | refine blk_drew ?_ | refine blk_alloc ?_ _)); exact BK116.out), GW116.out, GE116.out, NB101_116.out, NB116_101.out, (by repeat (first | (with_reducible first | exact HB.out | apply below_alloc | apply pw_below_drewN | apply below_drew1 | refine below_set ?_ GE101.out | refine below_set ?_ GE116.out) | exact HB.out))⟩)
          ·skip
           refine box_step ?hg (N := 5) ?hd (cs := #[.string (⟨#[]⟩ : ByteArray), .bool false, .slice none 0 0]) (t := 62) ?hr ?_; (case hd => rfl); (case hg => rfl); (case hr => first | (go_simp; done) | (go_simp; rfl))
           intro gb116 hg w33 hbox hb
           have n0_ := Aside0.mk (blk_below (g := gb101) (o := .cells #[.string a0_0, .bool a0_1, .slice A0_2 l0_2.length c0_2] 62 (0, 0)) (by (with_reducible repeat (first | refine blk_drewN ?_ _ | refine blk_drew ?_ | refine blk_alloc ?_ _)); exact BK101.out) hb)
           have n1_ := Aside0.mk (below_step (by repeat (first | (with_reducible first | exact HB.out | apply below_alloc | apply pw_below_drewN | apply below_drew1 | refine below_set ?_ GE101.out) | exact HB.out)) hb)
           have n2_ := Aside0.mk (hbox)
           have n3_ := Aside0.mk ((by rw [hg]; exact (below_size (by repeat (first | (with_reducible first | exact HB.out | apply below_alloc | apply pw_below_drewN | apply below_drew1 | refine below_set ?_ GE101.out) | exact HB.out))) : w.heap.size ≤ gb116))
           have n4_ := Aside0.mk ((by rw [hg]; exact (below_size (by repeat (first | (with_reducible first | exact HB.out | apply below_alloc | apply pw_below_drewN | apply below_drew1 | refine below_set ?_ GE101.out) | exact HB.out))) : w.heap.size ≤ gb116))
           have n5_ := Aside0.mk ((by rw [hg]; exact Nat.ne_of_lt (blk_lt (g := gb101) (o := .cells #[.string a0_0, .bool a0_1, .slice A0_2 l0_2.length c0_2] 62 (0, 0)) (by (with_reducible repeat (first | refine blk_drewN ?_ _ | refine blk_drew ?_ | refine blk_alloc ?_ _)); exact BK101.out)) : gb101 ≠ gb116))
           have n6_ := Aside0.mk ((by rw [hg]; exact Nat.ne_of_gt (blk_lt (g := gb101) (o := .cells #[.string a0_0, .bool a0_1, .slice A0_2 l0_2.length c0_2] 62 (0, 0)) (by (with_reducible repeat (first | refine blk_drewN ?_ _ | refine blk_drew ?_ | refine blk_alloc ?_ _)); exact BK101.out)) : gb116 ≠ gb101))
           clear BK101
           clear HB
           have BK101 := n0_
           have HB := n1_
           have BK116 := n2_
           have GW116 := n3_
           have GE116 := n4_
           have NB101_116 := n5_
           have NB116_101 := n6_
           clear n0_ n1_ n2_ n3_ n4_ n5_ n6_
           clear hb hbox hg
           refine hK.out _ _ ⟨(blk_cell BK101.out 0).trans rfl, (blk_cell BK101.out 1).trans rfl, (blk_cell BK101.out 2).trans rfl⟩ (fun hHeld => ?_)
           clear hK K
           refine norm_ (a' := ?_) ?_ ?_
           rotate_left
           ·show Act.put _ (some 5) _ = _
            simp only [Act.put, List.setIfInBounds_toArray, List.set_cons_zero, List.set_cons_succ, i64_w, i32_w]
            rfl
           refine one_ (i := 4) (N := some 35) #[true, true, true, true, true, false, false, false, false, true, false, false] rfl rfl (one_of HT_.out (by kernel_rfl)) (by decide) (fun K hK => ?_)
           refine goes_ Try.func51 (by kernel_rfl) rfl #[.agg #[.string a0_0, .bool a0_1, .slice A0_2 l0_2.length c0_2]] (by rfl) rfl rfl (by (try simp only [List.map_toArray, List.map_cons, List.map_nil]); first | done | rfl | (simp only [List.length_drop, List.length_take]; rfl)) ?_
           with_reducible refine (hatchwayref08_Count.calls k a0_0 a0_1 _ _ l0_2 t109 _ ?side1 ?side2 A14.out).mono ?_
           (case side1 => repeat (first | exact (Kd.C_below HR0_2.out HB.out) | (with_reducible refine Kd.C_alloc ?_ _) | (with_reducible refine Kd.C_drewN ?_ _) | (with_reducible refine Kd.C_drew ?_)))
           (case side2 => exact HC0_2.out)
           rintro e w34 ⟨rfl, hb⟩
           refine ⟨_, rfl, ?_⟩
           have n0_ := Aside0.mk (blk_below (g := gb101) (o := .cells #[.string a0_0, .bool a0_1, .slice A0_2 l0_2.length c0_2] 62 (0, 0)) (by (with_reducible repeat (first | refine blk_drewN ?_ _ | refine blk_drew ?_ | refine blk_alloc ?_ _)); exact BK101.out) hb)
           have n1_ := Aside0.mk (blk_below (g := gb116) (o := .cells #[.string (⟨#[]⟩ : ByteArray), .bool false, .slice none 0 0] 62 (0, 0)) (by (with_reducible repeat (first | refine blk_drewN ?_ _ | refine blk_drew ?_ | refine blk_alloc ?_ _)); exact BK116.out) hb)
           have n2_ := Aside0.mk (below_step (by repeat (first | (with_reducible first | exact HB.out | apply below_alloc | apply pw_below_drewN | apply below_drew1 | refine below_set ?_ GE101.out | refine below_set ?_ GE116.out) | exact HB.out)) hb)
           clear BK101
           clear BK116
           clear HB
           have BK101 := n0_
           have BK116 := n1_
           have HB := n2_
           clear n0_ n1_ n2_
           (try clear hb)
           (try clear hb2)
           (try clear hk)
           (try clear hi)
           refine hK.out _ _ ⟨(blk_cell BK101.out 0).trans rfl, (blk_cell BK101.out 1).trans rfl, (blk_cell BK101.out 2).trans rfl⟩ (fun hHeld => ?_)
           clear hK K
           refine norm_ (a' := ?_) ?_ ?_
           rotate_left
           ·show Act.put _ (some 35) _ = _
            simp only [Act.put, List.setIfInBounds_toArray, List.set_cons_zero, List.set_cons_succ, i64_w, i32_w]
            rfl
           refine one_ (i := 5) (N := some 36) #[true, true, true, true, true, true, false, false, false, true, false, false] rfl rfl (one_of HT_.out (by kernel_rfl)) (by decide) (fun K hK => ?_)
           refine goes_ Try.func52 (by kernel_rfl) rfl #[.string t104, .int .i64 t108, .int .i64 t109] (by rfl) rfl rfl (by (try simp only [List.map_toArray, List.map_cons, List.map_nil]); first | done | rfl | (simp only [List.length_drop, List.length_take]; rfl)) ?_
           with_reducible refine (rlp_Get.calls t104 t108 t109 t110 t111 t112 t115 _ A15.out).mono ?_
           rintro e w35 ⟨v113, rfl, ho0, hb⟩
           refine ⟨_, rfl, ?_⟩
           have n0_ := Aside0.mk (Kd.R_lower (Kd.R_newB (Kd.R_newB ho0 (g := gb101) (o := .cells #[.string a0_0, .bool a0_1, .slice A0_2 l0_2.length c0_2] 62 (0, 0)) (by (with_reducible repeat (first | refine blk_drewN ?_ _ | refine blk_drew ?_ | refine blk_alloc ?_ _)); exact BK101.out)) (g := gb116) (o := .cells #[.string (⟨#[]⟩ : ByteArray), .bool false, .slice none 0 0] 62 (0, 0)) (by (with_reducible repeat (first | refine blk_drewN ?_ _ | refine blk_drew ?_ | refine blk_alloc ?_ _)); exact BK116.out)) (below_size (by repeat (first | (with_reducible first | exact HB.out | apply below_alloc | apply pw_below_drewN | apply below_drew1 | refine below_set ?_ GE101.out | refine below_set ?_ GE116.out) | exact HB.out))))
           have n1_ := Aside0.mk (blk_below (g := gb101) (o := .cells #[.string a0_0, .bool a0_1, .slice A0_2 l0_2.length c0_2] 62 (0, 0)) (by (with_reducible repeat (first | refine blk_drewN ?_ _ | refine blk_drew ?_ | refine blk_alloc ?_ _)); exact BK101.out) hb)
           have n2_ := Aside0.mk (blk_below (g := gb116) (o := .cells #[.string (⟨#[]⟩ : ByteArray), .bool false, .slice none 0 0] 62 (0, 0)) (by (with_reducible repeat (first | refine blk_drewN ?_ _ | refine blk_drew ?_ | refine blk_alloc ?_ _)); exact BK116.out) hb)
           have n3_ := Aside0.mk (below_step (by repeat (first | (with_reducible first | exact HB.out | apply below_alloc | apply pw_below_drewN | apply below_drew1 | refine below_set ?_ GE101.out | refine below_set ?_ GE116.out) | exact HB.out)) hb)
           clear BK101
           clear BK116
           clear HB
           have HO114 := n0_
           have BK101 := n1_
           have BK116 := n2_
           have HB := n3_
           clear n0_ n1_ n2_ n3_
           (try clear hb)
           (try clear hb2)
           (try clear hk)
           (try clear hi)
           (try clear ho0)
           refine hK.out _ _ ⟨(blk_cell BK101.out 0).trans rfl, (blk_cell BK101.out 1).trans rfl, (blk_cell BK101.out 2).trans rfl⟩ (fun hHeld => ?_)
           clear hK K
           refine norm_ (a' := ?_) ?_ ?_
           rotate_left
           ·show Act.put _ (some 36) _ = _
            simp only [Act.put, List.setIfInBounds_toArray, List.set_cons_zero, List.set_cons_succ, i64_w, i32_w]
            rfl
           refine pure_ (i := 6) (N := some 30) (v := ?_) (a' := ?_) #[true, true, true, true, true, true, true, false, false, true, false, false] rfl rfl (any_of HT_.out (by kernel_rfl)) (fun _ _ _ h => h) (Or.inl ⟨by rfl, ?_⟩) ?_ ?_
           rotate_left
           ·intro w'
            go_simp
            with_reducible rfl
           rotate_left
           ·simp only [Act.put, List.setIfInBounds_toArray, List.set_cons_zero, List.set_cons_succ, i64_w, i32_w]
            rfl
           refine pure_ (i := 7) (N := some 37) (v := ?_) (a' := ?_) #[true, true, true, true, true, true, true, true, false, true, false, false] rfl rfl (any_of HT_.out (by kernel_rfl)) (fun _ _ _ h => h) (Or.inl ⟨by rfl, ?_⟩) ?_ ?_
           rotate_left
           ·intro w'
            go_simp
            with_reducible rfl
           rotate_left
           ·simp only [Act.put, List.setIfInBounds_toArray, List.set_cons_zero, List.set_cons_succ, i64_w, i32_w]
            rfl
           refine pure_ (i := 8) (N := some 38) (v := ?_) (a' := ?_) #[true, true, true, true, true, true, true, true, true, true, false, false] rfl rfl (any_of HT_.out (by kernel_rfl)) (fun _ _ _ h => h) (Or.inl ⟨by rfl, ?_⟩) ?_ ?_
           rotate_left
           ·intro w'
            go_simp
            with_reducible rfl
           rotate_left
           ·simp only [Act.put, List.setIfInBounds_toArray, List.set_cons_zero, List.set_cons_succ, i64_w, i32_w]
            rfl
           exact norm_ (by simp only [putAll, Act.put, List.setIfInBounds_toArray, List.set_cons_zero, List.set_cons_succ]) (hCont (v113, gb116) _ ⟨hHeld, (by (with_reducible repeat (first | apply Kd.R_alloc | apply Kd.R_drewN | apply Kd.R_drew)); exact Kd.R_mono HO114.out (fun _ hk => ⟨hk.1.2, hk.2⟩)), (by (with_reducible repeat (first | refine blk_drewN ?_ _ | refine blk_drew ?_ | refine blk_alloc ?_ _)); exact BK101.out), (by (with_reducible repeat (first | refine blk_drewN ?_ _ | refine blk_drew ?_ | refine blk_alloc ?_ _)); exact BK116.out), GW116.out, GE116.out, NB101_116.out, NB116_101.out, (by repeat (first | (with_reducible first | exact HB.out | apply below_alloc | apply pw_below_drewN | apply below_drew1 | refine below_set ?_ GE101.out | refine below_set ?_ GE116.out) | exact HB.out))⟩)
         ·skip
          refine box_step ?hg (N := 5) ?hd (cs := #[.string (⟨#[]⟩ : ByteArray), .bool false, .slice none 0 0]) (t := 62) ?hr ?_; (case hd => rfl); (case hg => rfl); (case hr => first | (go_simp; done) | (go_simp; rfl))
          intro gb116 hg w32 hbox hb
          have n0_ := Aside0.mk (blk_below (g := gb101) (o := .cells #[.string a0_0, .bool a0_1, .slice A0_2 l0_2.length c0_2] 62 (0, 0)) (by (with_reducible repeat (first | refine blk_drewN ?_ _ | refine blk_drew ?_ | refine blk_alloc ?_ _)); exact BK101.out) hb)
          have n1_ := Aside0.mk (below_step (by repeat (first | (with_reducible first | exact HB.out | apply below_alloc | apply pw_below_drewN | apply below_drew1 | refine below_set ?_ GE101.out) | exact HB.out)) hb)
          have n2_ := Aside0.mk (hbox)
          have n3_ := Aside0.mk ((by rw [hg]; exact (below_size (by repeat (first | (with_reducible first | exact HB.out | apply below_alloc | apply pw_below_drewN | apply below_drew1 | refine below_set ?_ GE101.out) | exact HB.out))) : w.heap.size ≤ gb116))
          have n4_ := Aside0.mk ((by rw [hg]; exact (below_size (by repeat (first | (with_reducible first | exact HB.out | apply below_alloc | apply pw_below_drewN | apply below_drew1 | refine below_set ?_ GE101.out) | exact HB.out))) : w.heap.size ≤ gb116))
          have n5_ := Aside0.mk ((by rw [hg]; exact Nat.ne_of_lt (blk_lt (g := gb101) (o := .cells #[.string a0_0, .bool a0_1, .slice A0_2 l0_2.length c0_2] 62 (0, 0)) (by (with_reducible repeat (first | refine blk_drewN ?_ _ | refine blk_drew ?_ | refine blk_alloc ?_ _)); exact BK101.out)) : gb101 ≠ gb116))
          have n6_ := Aside0.mk ((by rw [hg]; exact Nat.ne_of_gt (blk_lt (g := gb101) (o := .cells #[.string a0_0, .bool a0_1, .slice A0_2 l0_2.length c0_2] 62 (0, 0)) (by (with_reducible repeat (first | refine blk_drewN ?_ _ | refine blk_drew ?_ | refine blk_alloc ?_ _)); exact BK101.out)) : gb116 ≠ gb101))
          clear BK101
          clear HB
          have BK101 := n0_
          have HB := n1_
          have BK116 := n2_
          have GW116 := n3_
          have GE116 := n4_
          have NB101_116 := n5_
          have NB116_101 := n6_
          clear n0_ n1_ n2_ n3_ n4_ n5_ n6_
          clear hb hbox hg
          refine hK.out _ _ ⟨(blk_cell BK101.out 0).trans rfl, (blk_cell BK101.out 1).trans rfl, (blk_cell BK101.out 2).trans rfl⟩ (fun hHeld => ?_)
          clear hK K
          refine norm_ (a' := ?_) ?_ ?_
          rotate_left
          ·show Act.put _ (some 5) _ = _
           simp only [Act.put, List.setIfInBounds_toArray, List.set_cons_zero, List.set_cons_succ, i64_w, i32_w]
           rfl
          refine one_ (i := 2) (N := some 33) #[true, true, true, true, false, false, false, false, false, true, false, false] rfl rfl (one_of HT_.out (by kernel_rfl)) (by decide) (fun K hK => ?_)
          refine goes_ Try.func50 (by kernel_rfl) rfl #[.agg #[.string a0_0, .bool a0_1, .slice A0_2 l0_2.length c0_2]] (by rfl) rfl rfl (by (try simp only [List.map_toArray, List.map_cons, List.map_nil]); first | done | rfl | (simp only [List.length_drop, List.length_take]; rfl)) ?_
          with_reducible refine (hatchwayref08_Deep.calls k a0_0 a0_1 _ _ l0_2 t108 _ ?side1 ?side2 A13.out).mono ?_
          (case side1 => repeat (first | exact (Kd.C_below HR0_2.out HB.out) | (with_reducible refine Kd.C_alloc ?_ _) | (with_reducible refine Kd.C_drewN ?_ _) | (with_reducible refine Kd.C_drew ?_)))
          (case side2 => exact HC0_2.out)
          rintro e w33 ⟨rfl, hb⟩
          refine ⟨_, rfl, ?_⟩
          have n0_ := Aside0.mk (blk_below (g := gb101) (o := .cells #[.string a0_0, .bool a0_1, .slice A0_2 l0_2.length c0_2] 62 (0, 0)) (by (with_reducible repeat (first | refine blk_drewN ?_ _ | refine blk_drew ?_ | refine blk_alloc ?_ _)); exact BK101.out) hb)
          have n1_ := Aside0.mk (blk_below (g := gb116) (o := .cells #[.string (⟨#[]⟩ : ByteArray), .bool false, .slice none 0 0] 62 (0, 0)) (by (with_reducible repeat (first | refine blk_drewN ?_ _ | refine blk_drew ?_ | refine blk_alloc ?_ _)); exact BK116.out) hb)
          have n2_ := Aside0.mk (below_step (by repeat (first | (with_reducible first | exact HB.out | apply below_alloc | apply pw_below_drewN | apply below_drew1 | refine below_set ?_ GE101.out | refine below_set ?_ GE116.out) | exact HB.out)) hb)
          clear BK101
          clear BK116
          clear HB
          have BK101 := n0_
          have BK116 := n1_
          have HB := n2_
          clear n0_ n1_ n2_
          (try clear hb)
          (try clear hb2)
          (try clear hk)
          (try clear hi)
          refine hK.out _ _ ⟨(blk_cell BK101.out 0).trans rfl, (blk_cell BK101.out 1).trans rfl, (blk_cell BK101.out 2).trans rfl⟩ (fun hHeld => ?_)
          clear hK K
          refine norm_ (a' := ?_) ?_ ?_
          rotate_left
          ·show Act.put _ (some 33) _ = _
           simp only [Act.put, List.setIfInBounds_toArray, List.set_cons_zero, List.set_cons_succ, i64_w, i32_w]
           rfl
          refine one_ (i := 4) (N := some 35) #[true, true, true, true, true, false, false, false, false, true, false, false] rfl rfl (one_of HT_.out (by kernel_rfl)) (by decide) (fun K hK => ?_)
          refine goes_ Try.func51 (by kernel_rfl) rfl #[.agg #[.string a0_0, .bool a0_1, .slice A0_2 l0_2.length c0_2]] (by rfl) rfl rfl (by (try simp only [List.map_toArray, List.map_cons, List.map_nil]); first | done | rfl | (simp only [List.length_drop, List.length_take]; rfl)) ?_
          with_reducible refine (hatchwayref08_Count.calls k a0_0 a0_1 _ _ l0_2 t109 _ ?side1 ?side2 A14.out).mono ?_
          (case side1 => repeat (first | exact (Kd.C_below HR0_2.out HB.out) | (with_reducible refine Kd.C_alloc ?_ _) | (with_reducible refine Kd.C_drewN ?_ _) | (with_reducible refine Kd.C_drew ?_)))
          (case side2 => exact HC0_2.out)
          rintro e w34 ⟨rfl, hb⟩
          refine ⟨_, rfl, ?_⟩
          have n0_ := Aside0.mk (blk_below (g := gb101) (o := .cells #[.string a0_0, .bool a0_1, .slice A0_2 l0_2.length c0_2] 62 (0, 0)) (by (with_reducible repeat (first | refine blk_drewN ?_ _ | refine blk_drew ?_ | refine blk_alloc ?_ _)); exact BK101.out) hb)
          have n1_ := Aside0.mk (blk_below (g := gb116) (o := .cells #[.string (⟨#[]⟩ : ByteArray), .bool false, .slice none 0 0] 62 (0, 0)) (by (with_reducible repeat (first | refine blk_drewN ?_ _ | refine blk_drew ?_ | refine blk_alloc ?_ _)); exact BK116.out) hb)
          have n2_ := Aside0.mk (below_step (by repeat (first | (with_reducible first | exact HB.out | apply below_alloc | apply pw_below_drewN | apply below_drew1 | refine below_set ?_ GE101.out | refine below_set ?_ GE116.out) | exact HB.out)) hb)
          clear BK101
          clear BK116
          clear HB
          have BK101 := n0_
          have BK116 := n1_
          have HB := n2_
          clear n0_ n1_ n2_
          (try clear hb)
          (try clear hb2)
          (try clear hk)
          (try clear hi)
          refine hK.out _ _ ⟨(blk_cell BK101.out 0).trans rfl, (blk_cell BK101.out 1).trans rfl, (blk_cell BK101.out 2).trans rfl⟩ (fun hHeld => ?_)
          clear hK K
          refine norm_ (a' := ?_) ?_ ?_
          rotate_left
          ·show Act.put _ (some 35) _ = _
           simp only [Act.put, List.setIfInBounds_toArray, List.set_cons_zero, List.set_cons_succ, i64_w, i32_w]
           rfl
          refine one_ (i := 5) (N := some 36) #[true, true, true, true, true, true, false, false, false, true, false, false] rfl rfl (one_of HT_.out (by kernel_rfl)) (by decide) (fun K hK => ?_)
          refine goes_ Try.func52 (by kernel_rfl) rfl #[.string t104, .int .i64 t108, .int .i64 t109] (by rfl) rfl rfl (by (try simp only [List.map_toArray, List.map_cons, List.map_nil]); first | done | rfl | (simp only [List.length_drop, List.length_take]; rfl)) ?_
          with_reducible refine (rlp_Get.calls t104 t108 t109 t110 t111 t112 t115 _ A15.out).mono ?_
          rintro e w35 ⟨v113, rfl, ho0, hb⟩
          refine ⟨_, rfl, ?_⟩
          have n0_ := Aside0.mk (Kd.R_lower (Kd.R_newB (Kd.R_newB ho0 (g := gb101) (o := .cells #[.string a0_0, .bool a0_1, .slice A0_2 l0_2.length c0_2] 62 (0, 0)) (by (with_reducible repeat (first | refine blk_drewN ?_ _ | refine blk_drew ?_ | refine blk_alloc ?_ _)); exact BK101.out)) (g := gb116) (o := .cells #[.string (⟨#[]⟩ : ByteArray), .bool false, .slice none 0 0] 62 (0, 0)) (by (with_reducible repeat (first | refine blk_drewN ?_ _ | refine blk_drew ?_ | refine blk_alloc ?_ _)); exact BK116.out)) (below_size (by repeat (first | (with_reducible first | exact HB.out | apply below_alloc | apply pw_below_drewN | apply below_drew1 | refine below_set ?_ GE101.out | refine below_set ?_ GE116.out) | exact HB.out))))
          have n1_ := Aside0.mk (blk_below (g := gb101) (o := .cells #[.string a0_0, .bool a0_1, .slice A0_2 l0_2.length c0_2] 62 (0, 0)) (by (with_reducible repeat (first | refine blk_drewN ?_ _ | refine blk_drew ?_ | refine blk_alloc ?_ _)); exact BK101.out) hb)
          have n2_ := Aside0.mk (blk_below (g := gb116) (o := .cells #[.string (⟨#[]⟩ : ByteArray), .bool false, .slice none 0 0] 62 (0, 0)) (by (with_reducible repeat (first | refine blk_drewN ?_ _ | refine blk_drew ?_ | refine blk_alloc ?_ _)); exact BK116.out) hb)
          have n3_ := Aside0.mk (below_step (by repeat (first | (with_reducible first | exact HB.out | apply below_alloc | apply pw_below_drewN | apply below_drew1 | refine below_set ?_ GE101.out | refine below_set ?_ GE116.out) | exact HB.out)) hb)
          clear BK101
          clear BK116
          clear HB
          have HO114 := n0_
          have BK101 := n1_
          have BK116 := n2_
          have HB := n3_
          clear n0_ n1_ n2_ n3_
          (try clear hb)
          (try clear hb2)
          (try clear hk)
          (try clear hi)
          (try clear ho0)
          refine hK.out _ _ ⟨(blk_cell BK101.out 0).trans rfl, (blk_cell BK101.out 1).trans rfl, (blk_cell BK101.out 2).trans rfl⟩ (fun hHeld => ?_)
          clear hK K
          refine norm_ (a' := ?_) ?_ ?_
          rotate_left
          ·show Act.put _ (some 36) _ = _
           simp only [Act.put, List.setIfInBounds_toArray, List.set_cons_zero, List.set_cons_succ, i64_w, i32_w]
           rfl
          refine pure_ (i := 6) (N := some 30) (v := ?_) (a' := ?_) #[true, true, true, true, true, true, true, false, false, true, false, false] rfl rfl (any_of HT_.out (by kernel_rfl)) (fun _ _ _ h => h) (Or.inl ⟨by rfl, ?_⟩) ?_ ?_
          rotate_left
          ·intro w'
           go_simp
           with_reducible rfl
          rotate_left
          ·simp only [Act.put, List.setIfInBounds_toArray, List.set_cons_zero, List.set_cons_succ, i64_w, i32_w]
           rfl
          refine pure_ (i := 7) (N := some 37) (v := ?_) (a' := ?_) #[true, true, true, true, true, true, true, true, false, true, false, false] rfl rfl (any_of HT_.out (by kernel_rfl)) (fun _ _ _ h => h) (Or.inl ⟨by rfl, ?_⟩) ?_ ?_
          rotate_left
          ·intro w'
           go_simp
           with_reducible rfl
          rotate_left
          ·simp only [Act.put, List.setIfInBounds_toArray, List.set_cons_zero, List.set_cons_succ, i64_w, i32_w]
           rfl
          refine pure_ (i := 8) (N := some 38) (v := ?_) (a' := ?_) #[true, true, true, true, true, true, true, true, true, true, false, false] rfl rfl (any_of HT_.out (by kernel_rfl)) (fun _ _ _ h => h) (Or.inl ⟨by rfl, ?_⟩) ?_ ?_
          rotate_left
          ·intro w'
           go_simp
           with_reducible rfl
          rotate_left
          ·simp only [Act.put, List.setIfInBounds_toArray, List.set_cons_zero, List.set_cons_succ, i64_w, i32_w]
           rfl
          exact norm_ (by simp only [putAll, Act.put, List.setIfInBounds_toArray, List.set_cons_zero, List.set_cons_succ]) (hCont (v113, gb116) _ ⟨hHeld, (by (with_reducible repeat (first | apply Kd.R_alloc | apply Kd.R_drewN | apply Kd.R_drew)); exact Kd.R_mono HO114.out (fun _ hk => ⟨hk.1.2, hk.2⟩)), (by (with_reducible repeat (first | refine blk_drewN ?_ _ | refine blk_drew ?_ | refine blk_alloc ?_ _)); exact BK101.out), (by (with_reducible repeat (first | refine blk_drewN ?_ _ | refine blk_drew ?_ | refine blk_alloc ?_ _)); exact BK116.out), GW116.out, GE116.out, NB101_116.out, NB116_101.out, (by repeat (first | (with_reducible first | exact HB.out | apply below_alloc | apply pw_below_drewN | apply below_drew1 | refine below_set ?_ GE101.out | refine below_set ?_ GE116.out) | exact HB.out))⟩)
        rintro ⟨v113, gb116⟩ w36 ⟨hS_, h0_, h1_, h2_, h3_, h4_, h5_, h6_, h7_⟩
        have n0_ : Aside0 (Kd.R k62 62 w36 w.heap.size (fun k_ => k_ ≠ gb101 ∧ k_ ≠ gb116) v113 t112) := ⟨h0_⟩
        have n1_ : Aside0 (w36.heap[gb101]? = some (.cells #[.string a0_0, .bool a0_1, .slice A0_2 l0_2.length c0_2] 62 (0, 0))) := ⟨h1_⟩
        have n2_ : Aside0 (w36.heap[gb116]? = some (.cells #[.string (⟨#[]⟩ : ByteArray), .bool false, .slice none 0 0] 62 (0, 0))) := ⟨h2_⟩
        have n3_ : Aside0 (w.heap.size ≤ gb116) := ⟨h3_⟩
        have n4_ : Aside0 (w.heap.size ≤ gb116) := ⟨h4_⟩
        have n5_ : Aside0 (gb101 ≠ gb116) := ⟨h5_⟩
        have n6_ : Aside0 (gb116 ≠ gb101) := ⟨h6_⟩
        have n7_ : Aside0 (Below w.heap.size w w36) := ⟨h7_⟩
        clear BK101
        clear HB
        clear h0_ h1_ h2_ h3_ h4_ h5_ h6_ h7_
        have HO114 := n0_
        have BK101 := n1_
        have BK116 := n2_
        have GW116 := n3_
        have GE116 := n4_
        have NB101_116 := n5_
        have NB116_101 := n6_
        have HB := n7_
        clear n0_ n1_ n2_ n3_ n4_ n5_ n6_ n7_
        have hHeld : w36.cell? ⟨gb101, 0, none⟩ = some (.string a0_0) ∧ w36.cell? ⟨gb101, 1, none⟩ = some (.bool a0_1) ∧ w36.cell? ⟨gb101, 2, none⟩ = some (.slice A0_2 l0_2.length c0_2) := hS_
        obtain ⟨Ao39, co39, eo39⟩ := Kd.R_slice HO114.out
        (first | subst eo39 | (injection eo39 with f1_ f2_ f3_; have f4_ := f1_.symm; have f5_ := f3_.symm; clear f1_ f2_ f3_; subst f4_; subst f5_))
        refine norm_ (a' := ?_) ?_ ?_
        rotate_left
        ·simp only [putAll, Act.put, List.setIfInBounds_toArray, List.set_cons_zero, List.set_cons_succ]
         rfl
        refine one_ (i := 10) (N := none) #[true, true, true, true, true, true, true, true, true, true, true, false] rfl rfl (one_of HT_.out (by kernel_rfl)) (by decide) (fun K hK => ?_)
        have hs37 : w36.cell? ⟨gb116, 0, none⟩ = some (.string (⟨#[]⟩ : ByteArray)) := (blk_cell BK116.out 0).trans rfl
        have hfs37 := blk_frozen BK116.out 0
        have hns37_0 := NB101_116.out
        have hms37_0 := NB116_101.out
        have hs38 : w36.cell? ⟨gb116, 1, none⟩ = some (.bool false) := (blk_cell BK116.out 1).trans rfl
        have hfs38 := blk_frozen BK116.out 1
        have hns38_0 := NB101_116.out
        have hms38_0 := NB116_101.out
        have hs40 : w36.cell? ⟨gb116, 2, none⟩ = some (.slice none 0 0) := (blk_cell BK116.out 2).trans rfl
        have hfs40 := blk_frozen BK116.out 2
        have hns40_0 := NB101_116.out
        have hms40_0 := NB116_101.out
        refine skip_ (w1 := ?_) (by rfl) rfl ?_ ?_
        rotate_left
        ·go_simp
         rfl
        refine hK.out _ _ ⟨((cell_far (p := ⟨gb116, _, none⟩) NB101_116.out _).trans (((cell_far (p := ⟨gb116, _, none⟩) NB101_116.out _).trans (((cell_far (p := ⟨gb116, _, none⟩) NB101_116.out _).trans (hHeld.1)))))), ((cell_far (p := ⟨gb116, _, none⟩) NB101_116.out _).trans (((cell_far (p := ⟨gb116, _, none⟩) NB101_116.out _).trans (((cell_far (p := ⟨gb116, _, none⟩) NB101_116.out _).trans (hHeld.2.1)))))), ((cell_far (p := ⟨gb116, _, none⟩) NB101_116.out _).trans (((cell_far (p := ⟨gb116, _, none⟩) NB101_116.out _).trans (((cell_far (p := ⟨gb116, _, none⟩) NB101_116.out _).trans (hHeld.2.2))))))⟩ (fun hHeld => ?_)
        clear hK K
        refine pure_ (i := 11) (N := some 6) (v := ?_) (a' := ?_) #[true, true, true, true, true, true, true, true, true, true, true, true] rfl rfl (any_of HT_.out (by kernel_rfl)) (fun _ _ _ h => h) (Or.inl ⟨by rfl, ?_⟩) ?_ ?_
        rotate_left
        ·intro w'
         go_simp
         with_reducible rfl
        rotate_left
        ·simp only [Act.put, List.setIfInBounds_toArray, List.set_cons_zero, List.set_cons_succ, i64_w, i32_w]
         rfl
        refine done_ (done_of HT_.out (by kernel_rfl)) ?_
        have hnb41 := NB101_116.out
        have hnc41 := NB116_101.out
        have hcz42_0 : w36.cell? ⟨gb101, 0, none⟩ = some (.string a0_0) := (blk_cell BK101.out 0).trans rfl
        have hcz42_1 : w36.cell? ⟨gb101, 1, none⟩ = some (.bool a0_1) := (blk_cell BK101.out 1).trans rfl
        have hcz42_2 : w36.cell? ⟨gb101, 2, none⟩ = some (.slice A0_2 l0_2.length c0_2) := (blk_cell BK101.out 2).trans rfl
        have hfz42_0 := blk_frozen BK101.out 0
        have hfz42_1 := blk_frozen BK101.out 1
        have hfz42_2 := blk_frozen BK101.out 2
        try go_wp2_with (first | (go_at_call 45; (with_reducible refine (hatchwayref09_Put.calls k a0_0 a0_1 _ _ l0_2 t117 _ ?side1 ?side2 A17.out).mono ?_); (case side1 => exact Kd.C_below HR0_2.out (by repeat (first | (with_reducible first | exact HB.out | apply below_alloc | apply pw_below_drewN | apply below_drew1 | refine below_set ?_ GE101.out | refine below_set ?_ GE116.out) | exact HB.out))); (case side2 => exact HC0_2.out); rintro e w43 ⟨rfl, hb⟩; have n0_ := Aside0.mk (Kd.R_below (by (with_reducible repeat (first | apply Kd.R_alloc | apply Kd.R_drewN | apply Kd.R_drew)); exact (Kd.R_mono (Kd.R_far (p := ⟨gb116, 2, none⟩) (Kd.R_far (p := ⟨gb116, 1, none⟩) (Kd.R_far (p := ⟨gb116, 0, none⟩) (Kd.R_mono HO114.out (fun k_ hk => (⟨hk, hk.2⟩ : _ ∧ k_ ≠ gb116))) (fun _ hk => hk.2) (.string t110)) (fun _ hk => hk.2) (.bool t111)) (fun _ hk => hk.2) (.slice Ao39 t112.length co39)) (fun _ h_ => h_.1))) hb); have n1_ := Aside0.mk (blk_below (g := gb101) (o := .cells #[.string a0_0, .bool a0_1, .slice A0_2 l0_2.length c0_2] 62 (0, 0)) (by (with_reducible repeat (first | refine blk_drewN ?_ _ | refine blk_drew ?_ | refine blk_alloc ?_ _)); refine blk_far ?_ NB101_116.out _; (with_reducible repeat (first | refine blk_drewN ?_ _ | refine blk_drew ?_ | refine blk_alloc ?_ _)); refine blk_far ?_ NB101_116.out _; (with_reducible repeat (first | refine blk_drewN ?_ _ | refine blk_drew ?_ | refine blk_alloc ?_ _)); refine blk_far ?_ NB101_116.out _; (with_reducible repeat (first | refine blk_drewN ?_ _ | refine blk_drew ?_ | refine blk_alloc ?_ _)); exact BK101.out) hb); have n2_ := Aside0.mk (blk_below (g := gb116) (o := .cells #[.string t110, .bool t111, .slice Ao39 t112.length co39] 62 (0, 0)) (by (with_reducible repeat (first | refine blk_drewN ?_ _ | refine blk_drew ?_ | refine blk_alloc ?_ _)); refine blk_put (cs := #[.string t110, .bool t111, .slice none 0 0]) ?_ 2 _ rfl; (with_reducible repeat (first | refine blk_drewN ?_ _ | refine blk_drew ?_ | refine blk_alloc ?_ _)); refine blk_put (cs := #[.string t110, .bool false, .slice none 0 0]) ?_ 1 _ rfl; (with_reducible repeat (first | refine blk_drewN ?_ _ | refine blk_drew ?_ | refine blk_alloc ?_ _)); refine blk_put (cs := #[.string (⟨#[]⟩ : ByteArray), .bool false, .slice none 0 0]) ?_ 0 _ rfl; (with_reducible repeat (first | refine blk_drewN ?_ _ | refine blk_drew ?_ | refine blk_alloc ?_ _)); exact BK116.out) hb); have n3_ := Aside0.mk (below_step (by repeat (first | (with_reducible first | exact HB.out | apply below_alloc | apply pw_below_drewN | apply below_drew1 | refine below_set ?_ GE101.out | refine below_set ?_ GE116.out) | exact HB.out)) hb); clear HO114; clear BK101; clear BK116; clear HB; have HO114 := n0_; have BK101 := n1_; have BK116 := n2_; have HB := n3_; clear n0_ n1_ n2_ n3_; (try clear hb); (try clear hb2); (try clear hk); (try clear hi); have hcz44_0 : w43.cell? ⟨gb101, 0, none⟩ = some (.string a0_0) := (blk_cell BK101.out 0).trans rfl; have hcz44_1 : w43.cell? ⟨gb101, 1, none⟩ = some (.bool a0_1) := (blk_cell BK101.out 1).trans rfl; have hcz44_2 : w43.cell? ⟨gb101, 2, none⟩ = some (.slice A0_2 l0_2.length c0_2) := (blk_cell BK101.out 2).trans rfl; have hfz44_0 := blk_frozen BK101.out 0; have hfz44_1 := blk_frozen BK101.out 1; have hfz44_2 := blk_frozen BK101.out 2) | (go_at_call 55; (with_reducible refine (rlp_Size.calls a0_0 a0_1 _ _ l0_2 t118 _ ?side1 ?side2 A19.out).mono ?_); (case side1 => repeat (first | exact (Kd.C_below HR0_2.out HB.out) | (with_reducible refine Kd.C_alloc ?_ _) | (with_reducible refine Kd.C_drewN ?_ _) | (with_reducible refine Kd.C_drew ?_))); (case side2 => exact HC0_2.out); rintro e w45 ⟨rfl, hb⟩; have n0_ := Aside0.mk (Kd.R_below (by (with_reducible repeat (first | apply Kd.R_alloc | apply Kd.R_drewN | apply Kd.R_drew)); exact HO114.out) hb); have n1_ := Aside0.mk (blk_below (g := gb101) (o := .cells #[.string a0_0, .bool a0_1, .slice A0_2 l0_2.length c0_2] 62 (0, 0)) (by (with_reducible repeat (first | refine blk_drewN ?_ _ | refine blk_drew ?_ | refine blk_alloc ?_ _)); exact BK101.out) hb); have n2_ := Aside0.mk (blk_below (g := gb116) (o := .cells #[.string t110, .bool t111, .slice Ao39 t112.length co39] 62 (0, 0)) (by (with_reducible repeat (first | refine blk_drewN ?_ _ | refine blk_drew ?_ | refine blk_alloc ?_ _)); exact BK116.out) hb); have n3_ := Aside0.mk (below_step (by repeat (first | (with_reducible first | exact HB.out | apply below_alloc | apply pw_below_drewN | apply below_drew1 | refine below_set ?_ GE101.out | refine below_set ?_ GE116.out) | exact HB.out)) hb); clear HO114; clear BK101; clear BK116; clear HB; have HO114 := n0_; have BK101 := n1_; have BK116 := n2_; have HB := n3_; clear n0_ n1_ n2_ n3_; (try clear hb); (try clear hb2); (try clear hk); (try clear hi); have hcz46_0 : w45.cell? ⟨gb101, 0, none⟩ = some (.string a0_0) := (blk_cell BK101.out 0).trans rfl; have hcz46_1 : w45.cell? ⟨gb101, 1, none⟩ = some (.bool a0_1) := (blk_cell BK101.out 1).trans rfl; have hcz46_2 : w45.cell? ⟨gb101, 2, none⟩ = some (.slice A0_2 l0_2.length c0_2) := (blk_cell BK101.out 2).trans rfl; have hfz46_0 := blk_frozen BK101.out 0; have hfz46_1 := blk_frozen BK101.out 1; have hfz46_2 := blk_frozen BK101.out 2; have hcz47_0 : w45.cell? ⟨gb116, 0, none⟩ = some (.string t110) := (blk_cell BK116.out 0).trans rfl; have hcz47_1 : w45.cell? ⟨gb116, 1, none⟩ = some (.bool t111) := (blk_cell BK116.out 1).trans rfl; have hcz47_2 : w45.cell? ⟨gb116, 2, none⟩ = some (.slice Ao39 t112.length co39) := (blk_cell BK116.out 2).trans rfl; have hfz47_0 := blk_frozen BK116.out 0; have hfz47_1 := blk_frozen BK116.out 1; have hfz47_2 := blk_frozen BK116.out 2) | (go_at_call 44; (with_reducible refine (hatchwayref08_Same.calls k a0_0 a0_1 _ _ l0_2 t110 t111 _ _ t112 t119 _ ?side1 ?side2 ?side3 ?side4 A22.out).mono ?_); (case side1 => repeat (first | exact (Kd.C_below HR0_2.out HB.out) | (with_reducible refine Kd.C_alloc ?_ _) | (with_reducible refine Kd.C_drewN ?_ _) | (with_reducible refine Kd.C_drew ?_))); (case side2 => exact HC0_2.out); (case side3 => repeat (first | exact (Kd.R_reads' HO114.out).2.2 | (with_reducible refine Kd.C_alloc ?_ _) | (with_reducible refine Kd.C_drewN ?_ _) | (with_reducible refine Kd.C_drew ?_))); (case side4 => exact (Kd.R_reads' HO114.out).2.1); rintro e w48 ⟨rfl, hb⟩; have n0_ := Aside0.mk (Kd.R_below (by (with_reducible repeat (first | apply Kd.R_alloc | apply Kd.R_drewN | apply Kd.R_drew)); exact HO114.out) hb); have n1_ := Aside0.mk (blk_below (g := gb101) (o := .cells #[.string a0_0, .bool a0_1, .slice A0_2 l0_2.length c0_2] 62 (0, 0)) (by (with_reducible repeat (first | refine blk_drewN ?_ _ | refine blk_drew ?_ | refine blk_alloc ?_ _)); exact BK101.out) hb); have n2_ := Aside0.mk (blk_below (g := gb116) (o := .cells #[.string t110, .bool t111, .slice Ao39 t112.length co39] 62 (0, 0)) (by (with_reducible repeat (first | refine blk_drewN ?_ _ | refine blk_drew ?_ | refine blk_alloc ?_ _)); exact BK116.out) hb); have n3_ := Aside0.mk (below_step (by repeat (first | (with_reducible first | exact HB.out | apply below_alloc | apply pw_below_drewN | apply below_drew1 | refine below_set ?_ GE101.out | refine below_set ?_ GE116.out) | exact HB.out)) hb); clear HO114; clear BK101; clear BK116; clear HB; have HO114 := n0_; have BK101 := n1_; have BK116 := n2_; have HB := n3_; clear n0_ n1_ n2_ n3_; (try clear hb); (try clear hb2); (try clear hk); (try clear hi)))
        go_ret
        exact ⟨by first | rfl | (simp [errW_none, errW_some] <;> rfl) | (simp [*, errW_none, errW_some] <;> rfl), by repeat (first | (with_reducible first | exact HB.out | apply below_alloc | apply pw_below_drewN | apply below_drew1 | refine below_set ?_ GE101.out | refine below_set ?_ GE116.out) | exact HB.out)⟩
       ·rw [if_neg c21] at H
        exact absurd ((Option.some.inj H).trans ht_) (by decide)
      ·rw [if_neg c20] at H
       exact absurd ((Option.some.inj H).trans ht_) (by decide)
     ·rw [if_neg c18] at H
      exact absurd ((Option.some.inj H).trans ht_) (by decide)
    ·rw [if_neg c16] at H
     exact absurd ((Option.some.inj H).trans ht_) (by decide)
   ·replace c12 := Bool.eq_false_iff.mpr c12
    subst c12
    have H1 : (if t105 = 1 then (if t104.toList = ([] : List UInt8) then ((rlp_Size.f a0_0 a0_1 l0_2).bind fun t107 => (some (t107 == 0))) else (some false)) else (some false)) = some r := by rw [if_neg (show ¬ (false = true) by decide)] at H; exact H
    clear H
    have H := H1
    clear H1
    by_cases c134 : t105 = 1
    ·rw [if_pos c134] at H
     have c134b0 : (t105 == 1) = true := beq_iff_eq.mpr c134
     have c134b1 : (t105 != 1) = false := bne_eq_false_iff_eq.mpr c134
     clear c134
     by_cases c135 : t104.toList = ([] : List UInt8)
     ·rw [if_pos c135] at H
      have c135b0 : (t104.toList == ([] : List UInt8)) = true := beq_iff_eq.mpr c135
      have c135b1 : (t104.toList != ([] : List UInt8)) = false := bne_eq_false_iff_eq.mpr c135
      clear c135
      replace H := Option.bind_eq_some_iff.mp H
      obtain ⟨t107, A1360, H⟩ := H
      replace H : (some (t107 == 0)) = some r := H
      have A136 := Aside0.mk A1360
      clear A1360
      obtain rfl := Option.some.inj H
      go_enter Try.func11, Try.ntmps11
      go_wp2_with (first | ((with_reducible refine gate_dst (N := 1) rfl ?_); (try (refine gate_guard (by rfl) ?_; dsimp only)); refine box_event ?hg (N := 1) ?hd (cs := #[.string a0_0, .bool a0_1, .slice A0_2 l0_2.length c0_2]) (t := 62) ?hr ?_; (case hd => rfl); (case hg => rfl); (case hr => first | (go_simp; done) | (go_simp; rfl)); intro gb101 hg w137 hbox hb; have n0_ := Aside0.mk (below_step (by repeat (first | (with_reducible first | exact HB.out | apply below_alloc | apply pw_below_drewN | apply below_drew1) | exact HB.out)) hb); have n1_ := Aside0.mk (hbox); have n2_ := Aside0.mk ((by rw [hg]; exact (below_size (by repeat (first | (with_reducible first | exact HB.out | apply below_alloc | apply pw_below_drewN | apply below_drew1) | exact HB.out))) : w.heap.size ≤ gb101)); have n3_ := Aside0.mk ((by rw [hg]; exact (below_size (by repeat (first | (with_reducible first | exact HB.out | apply below_alloc | apply pw_below_drewN | apply below_drew1) | exact HB.out))) : w.heap.size ≤ gb101)); clear HB; have HB := n0_; have BK101 := n1_; have GW101 := n2_; have GE101 := n3_; clear n0_ n1_ n2_ n3_; clear hb hbox hg) | ((with_reducible refine gate_callee (f := 49) rfl ?_); refine goesL_ (some 7) rfl rfl Try.func49 (by kernel_rfl) rfl #[] rfl (by (try simp only [List.map_toArray, List.map_cons, List.map_nil]); first | done | rfl | (simp only [List.length_drop, List.length_take]; rfl)) ?_; (with_reducible refine (hatchwaylaw09_alive.calls  true _ A2.out).mono ?_); rintro e w138 ⟨rfl, hb⟩; refine ⟨_, rfl, ?_⟩; have n0_ := Aside0.mk (blk_below (g := gb101) (o := .cells #[.string a0_0, .bool a0_1, .slice A0_2 l0_2.length c0_2] 62 (0, 0)) (by (with_reducible repeat (first | refine blk_drewN ?_ _ | refine blk_drew ?_ | refine blk_alloc ?_ _)); exact BK101.out) hb); have n1_ := Aside0.mk (below_step (by repeat (first | (with_reducible first | exact HB.out | apply below_alloc | apply pw_below_drewN | apply below_drew1 | refine below_set ?_ GE101.out) | exact HB.out)) hb); clear BK101; clear HB; have BK101 := n0_; have HB := n1_; clear n0_ n1_; (try clear hb); (try clear hb2); (try clear hk); (try clear hi); have hcz139_0 : w138.cell? ⟨gb101, 0, none⟩ = some (.string a0_0) := (blk_cell BK101.out 0).trans rfl; have hcz139_1 : w138.cell? ⟨gb101, 1, none⟩ = some (.bool a0_1) := (blk_cell BK101.out 1).trans rfl; have hcz139_2 : w138.cell? ⟨gb101, 2, none⟩ = some (.slice A0_2 l0_2.length c0_2) := (blk_cell BK101.out 2).trans rfl; have hfz139_0 := blk_frozen BK101.out 0; have hfz139_1 := blk_frozen BK101.out 1; have hfz139_2 := blk_frozen BK101.out 2) | ((with_reducible refine gate_callee (f := 35) rfl ?_); refine goesL_ (some 10) rfl rfl Try.func35 (by kernel_rfl) rfl #[.agg #[.string a0_0, .bool a0_1, .slice A0_2 l0_2.length c0_2]] rfl (by (try simp only [List.map_toArray, List.map_cons, List.map_nil]); first | done | rfl | (simp only [List.length_drop, List.length_take]; rfl)) ?_; (with_reducible refine (hatchwaylaw08_Great.calls k a0_0 a0_1 _ _ l0_2 false _ ?side1 ?side2 A4.out).mono ?_); (case side1 => repeat (first | exact (Kd.C_below HR0_2.out HB.out) | (with_reducible refine Kd.C_alloc ?_ _) | (with_reducible refine Kd.C_drewN ?_ _) | (with_reducible refine Kd.C_drew ?_))); (case side2 => exact HC0_2.out); rintro e w140 ⟨rfl, hb⟩; refine ⟨_, rfl, ?_⟩; have n0_ := Aside0.mk (blk_below (g := gb101) (o := .cells #[.string a0_0, .bool a0_1, .slice A0_2 l0_2.length c0_2] 62 (0, 0)) (by (with_reducible repeat (first | refine blk_drewN ?_ _ | refine blk_drew ?_ | refine blk_alloc ?_ _)); exact BK101.out) hb); have n1_ := Aside0.mk (below_step (by repeat (first | (with_reducible first | exact HB.out | apply below_alloc | apply pw_below_drewN | apply below_drew1 | refine below_set ?_ GE101.out) | exact HB.out)) hb); clear BK101; clear HB; have BK101 := n0_; have HB := n1_; clear n0_ n1_; (try clear hb); (try clear hb2); (try clear hk); (try clear hi); have hcz141_0 : w140.cell? ⟨gb101, 0, none⟩ = some (.string a0_0) := (blk_cell BK101.out 0).trans rfl; have hcz141_1 : w140.cell? ⟨gb101, 1, none⟩ = some (.bool a0_1) := (blk_cell BK101.out 1).trans rfl; have hcz141_2 : w140.cell? ⟨gb101, 2, none⟩ = some (.slice A0_2 l0_2.length c0_2) := (blk_cell BK101.out 2).trans rfl; have hfz141_0 := blk_frozen BK101.out 0; have hfz141_1 := blk_frozen BK101.out 1; have hfz141_2 := blk_frozen BK101.out 2) | ((with_reducible refine gate_callee (f := 54) rfl ?_); refine goesL_ (some 13) rfl rfl Try.func54 (by kernel_rfl) rfl #[.agg #[.string a0_0, .bool a0_1, .slice A0_2 l0_2.length c0_2]] rfl (by (try simp only [List.map_toArray, List.map_cons, List.map_nil]); first | done | rfl | (simp only [List.length_drop, List.length_take]; rfl)) ?_; (with_reducible refine (rlp_Put.calls a0_0 a0_1 _ _ l0_2 t104 t105 _ ?side1 ?side2 A10.out).mono ?_); (case side1 => repeat (first | exact (Kd.C_below HR0_2.out HB.out) | (with_reducible refine Kd.C_alloc ?_ _) | (with_reducible refine Kd.C_drewN ?_ _) | (with_reducible refine Kd.C_drew ?_))); (case side2 => exact HC0_2.out); rintro e w142 ⟨rfl, hb⟩; refine ⟨_, rfl, ?_⟩; have n0_ := Aside0.mk (blk_below (g := gb101) (o := .cells #[.string a0_0, .bool a0_1, .slice A0_2 l0_2.length c0_2] 62 (0, 0)) (by (with_reducible repeat (first | refine blk_drewN ?_ _ | refine blk_drew ?_ | refine blk_alloc ?_ _)); exact BK101.out) hb); have n1_ := Aside0.mk (below_step (by repeat (first | (with_reducible first | exact HB.out | apply below_alloc | apply pw_below_drewN | apply below_drew1 | refine below_set ?_ GE101.out) | exact HB.out)) hb); clear BK101; clear HB; have BK101 := n0_; have HB := n1_; clear n0_ n1_; (try clear hb); (try clear hb2); (try clear hk); (try clear hi); have hcz143_0 : w142.cell? ⟨gb101, 0, none⟩ = some (.string a0_0) := (blk_cell BK101.out 0).trans rfl; have hcz143_1 : w142.cell? ⟨gb101, 1, none⟩ = some (.bool a0_1) := (blk_cell BK101.out 1).trans rfl; have hcz143_2 : w142.cell? ⟨gb101, 2, none⟩ = some (.slice A0_2 l0_2.length c0_2) := (blk_cell BK101.out 2).trans rfl; have hfz143_0 := blk_frozen BK101.out 0; have hfz143_1 := blk_frozen BK101.out 1; have hfz143_2 := blk_frozen BK101.out 2) | ((with_reducible refine gate_callee (f := 37) rfl ?_); refine goesL_ (some 17) rfl rfl Try.func37 (by kernel_rfl) rfl #[.agg #[.string a0_0, .bool a0_1, .slice A0_2 l0_2.length c0_2]] rfl (by (try simp only [List.map_toArray, List.map_cons, List.map_nil]); first | done | rfl | (simp only [List.length_drop, List.length_take]; rfl)) ?_; (with_reducible refine (hatchwayref08_May.calls k a0_0 a0_1 _ _ l0_2 false _ ?side1 ?side2 A11.out).mono ?_); (case side1 => repeat (first | exact (Kd.C_below HR0_2.out HB.out) | (with_reducible refine Kd.C_alloc ?_ _) | (with_reducible refine Kd.C_drewN ?_ _) | (with_reducible refine Kd.C_drew ?_))); (case side2 => exact HC0_2.out); rintro e w144 ⟨rfl, hb⟩; refine ⟨_, rfl, ?_⟩; have n0_ := Aside0.mk (blk_below (g := gb101) (o := .cells #[.string a0_0, .bool a0_1, .slice A0_2 l0_2.length c0_2] 62 (0, 0)) (by (with_reducible repeat (first | refine blk_drewN ?_ _ | refine blk_drew ?_ | refine blk_alloc ?_ _)); exact BK101.out) hb); have n1_ := Aside0.mk (below_step (by repeat (first | (with_reducible first | exact HB.out | apply below_alloc | apply pw_below_drewN | apply below_drew1 | refine below_set ?_ GE101.out) | exact HB.out)) hb); clear BK101; clear HB; have BK101 := n0_; have HB := n1_; clear n0_ n1_; (try clear hb); (try clear hb2); (try clear hk); (try clear hi); have hcz145_0 : w144.cell? ⟨gb101, 0, none⟩ = some (.string a0_0) := (blk_cell BK101.out 0).trans rfl; have hcz145_1 : w144.cell? ⟨gb101, 1, none⟩ = some (.bool a0_1) := (blk_cell BK101.out 1).trans rfl; have hcz145_2 : w144.cell? ⟨gb101, 2, none⟩ = some (.slice A0_2 l0_2.length c0_2) := (blk_cell BK101.out 2).trans rfl; have hfz145_0 := blk_frozen BK101.out 0; have hfz145_1 := blk_frozen BK101.out 1; have hfz145_2 := blk_frozen BK101.out 2) | (go_at_call 55; (with_reducible refine (rlp_Size.calls a0_0 a0_1 _ _ l0_2 t107 _ ?side1 ?side2 A136.out).mono ?_); (case side1 => repeat (first | exact (Kd.C_below HR0_2.out HB.out) | (with_reducible refine Kd.C_alloc ?_ _) | (with_reducible refine Kd.C_drewN ?_ _) | (with_reducible refine Kd.C_drew ?_))); (case side2 => exact HC0_2.out); rintro e w146 ⟨rfl, hb⟩; have n0_ := Aside0.mk (blk_below (g := gb101) (o := .cells #[.string a0_0, .bool a0_1, .slice A0_2 l0_2.length c0_2] 62 (0, 0)) (by (with_reducible repeat (first | refine blk_drewN ?_ _ | refine blk_drew ?_ | refine blk_alloc ?_ _)); exact BK101.out) hb); have n1_ := Aside0.mk (below_step (by repeat (first | (with_reducible first | exact HB.out | apply below_alloc | apply pw_below_drewN | apply below_drew1 | refine below_set ?_ GE101.out) | exact HB.out)) hb); clear BK101; clear HB; have BK101 := n0_; have HB := n1_; clear n0_ n1_; (try clear hb); (try clear hb2); (try clear hk); (try clear hi)))
      go_ret
      exact ⟨by first | rfl | (simp [errW_none, errW_some] <;> rfl) | (simp [*, errW_none, errW_some] <;> rfl), by repeat (first | (with_reducible first | exact HB.out | apply below_alloc | apply pw_below_drewN | apply below_drew1 | refine below_set ?_ GE101.out) | exact HB.out)⟩
     ·rw [if_neg c135] at H
      exact absurd ((Option.some.inj H).trans ht_) (by decide)
    ·rw [if_neg c134] at H
     exact absurd ((Option.some.inj H).trans ht_) (by decide)
 ·replace c3 := Bool.eq_false_iff.mpr c3
  subst c3
  have H1 : (some false) = some r := by rw [if_neg (show ¬ (false = true) by decide)] at H; exact H
  clear H
  have H := H1
  clear H1
  exact absurd ((Option.some.inj H).trans ht_) (by decide)
end Go.Proofs.Yteoibgpkimlahaa.P
end
section
namespace Go.Proofs.Yteoibgpkimlahaa.P
open Go.RowKit Go.Proofs.YteoibgpkimlahaaW.PrintWords Go.Proofs.YteoibgpkimlahaaW.PrintLast Go.Proofs.YteoibgpkimlahaaW.PrintMore
theorem getLeast_dg (n : Int) (h0 : 0 ≤ n) (h1 : n < 18446744073709551616) : fixed_GetLeast.f (strOfNums (digs n)) = some (n, 0) := by
 unfold fixed_GetLeast.f
 have hb := bytesOf_str (digs n) (digs_byte n)
 rw [if_neg (by rw [strOfNums_size, digs_length]; have := sz_u64 h0 h1; omega), if_neg ?_, hb, numL_digs n h0]
 rintro ⟨h2, h3⟩
 have hn : 0 < n := by
  rcases Int.lt_or_le 0 n with h | h
  ·exact h
  ·exfalso
   have : n = 0 := by omega
   subst this
   rw [digs_zero] at h2
   exact h2 (by rw [toList_str]; rfl)
 have h4 := digs_head n hn
 have h5 := bt_getD (strOfNums (digs n)) 0
 rw [hb] at h5
 rw [show ((0 : Nat) : Int) = 0 from rfl, h3] at h5
 cases hd : digs n with
 | nil =>
  have := digs_length n
  rw [hd, sz_pos hn] at this
  simp at this
 | cons a l =>
  rw [hd] at h5 h4
  simp at h5 h4
  omega
section
variable {s : ByteArray}
theorem bt_drop {a : Nat} {b : Int} {r : List Int} (h : (bytesOf s).drop a = b :: r) : bt s a = b := by
 rw [bt_getD]
 have h2 : (bytesOf s)[a]? = some b := by
  have := congrArg (fun l => l[0]?) h
  simpa using this
 simp [List.getD, h2]
theorem drop_more {a : Nat} {p r : List Int} (h : (bytesOf s).drop a = p ++ r) : (bytesOf s).drop (a + p.length) = r := by
 rw [← List.drop_drop, h, List.drop_left]
theorem bytesOf_ext (s : ByteArray) (a b : Nat) : bytesOf (s.extract a b) = ((bytesOf s).drop a).take (b - a) := by
 unfold bytesOf
 rw [← List.map_drop, ← List.map_take]
 congr 1
 rw [ByteArray.data_extract, Array.toList_extract]
theorem ext_text {a : Nat} {t : ByteArray} {r : List Int} (h : (bytesOf s).drop a = bytesOf t ++ r) : s.extract a (a + t.size) = t := by
 refine bytesOf_inj ?_
 rw [bytesOf_ext, h, Nat.add_sub_cancel_left, ← bytesOf_length t, List.take_left]
theorem ext_digs {a : Nat} {n : Int} {r : List Int} (h : (bytesOf s).drop a = digs n ++ r) : s.extract a (a + sz n) = strOfNums (digs n) := by
 refine bytesOf_inj ?_
 rw [bytesOf_ext, h, bytesOf_str _ (digs_byte n), Nat.add_sub_cancel_left, ← digs_length n, List.take_left]
theorem start_ok {a d t : Int} {st : List S151} (h1 : a < endD s st) (h2 : (st.length : Int) < d) (h3 : 1 ≤ t) : startF s a d t st = 0 := by
 unfold startF startF2 startF1
 rw [if_neg (by omega), if_neg (by omega), if_neg (by omega)]
 rfl
theorem lenD_head {by_ : Int} {n a : Nat} {st : List S151} {r : List Int} (hn : n ≤ 1099511627776) (h : (bytesOf s).drop a = headL by_ n ++ r) (he : (a + (headL by_ n).length + n : Nat) ≤ endD s st) :
  by_ ≤ bt s a ∧ bt s a < by_ + 64 ∧ lenD s ((a : Int) + 1) st (bt s a - by_) = ((n : Int), ((a + (headL by_ n).length : Nat) : Int), 0) := by
 unfold headL at h he ⊢
 by_cases c : (n : Int) ≤ 55
 ·rw [if_pos c] at h he ⊢
  have hbt := bt_drop (b := by_ + n) h
  rw [hbt, show by_ + (n : Int) - by_ = n by omega]
  refine ⟨by omega, by omega, ?_⟩
  unfold lenD
  simp only [List.length_cons, List.length_nil] at he ⊢
  rw [if_pos c, if_neg (by omega)]
  refine Prod.ext rfl (Prod.ext ?_ rfl)
  show (a : Int) + 1 = ((a + (0 + 1) : Nat) : Int)
  omega
 ·rw [if_neg c] at h he ⊢
  have hs8 := sz_u64 (n := (n : Int)) (by omega) (by omega)
  have hs1 : 1 ≤ sz (n : Int) := by rw [sz_pos (by omega)]; omega
  have hbt := bt_drop (b := by_ + 55 + sz (n : Int)) h
  have hd : (bytesOf s).drop (a + 1) = digs n ++ r := drop_more (p := [by_ + 55 + (sz (n : Int) : Int)]) h
  have hx := ext_digs hd
  rw [hbt, show by_ + 55 + (sz (n : Int) : Int) - by_ = 55 + sz (n : Int) by omega]
  refine ⟨by omega, by omega, ?_⟩
  simp only [List.length_cons, digs_length] at he ⊢
  unfold lenD
  rw [if_neg (by omega), if_neg (by omega), show ((a : Int) + 1).toNat = a + 1 by omega, show ((a : Int) + 1 + (55 + (sz (n : Int) : Int) - 55)).toNat = a + 1 + sz (n : Int) by omega, hx, getLeast_dg n (by omega) (by omega)]
  simp only
  rw [if_neg (by omega), if_pos ⟨trivial, by omega⟩]
  refine Prod.ext rfl (Prod.ext ?_ rfl)
  show (a : Int) + 1 + (55 + (sz (n : Int) : Int) - 55) = ((a + (sz (n : Int) + 1) : Nat) : Int)
  omega
theorem one_text {t : ByteArray} {a : Nat} {d tt : Int} {st : List S151} {r : List Int} (ht : t.size ≤ 1099511627776) (h : (bytesOf s).drop a = putL ⟨t, false, []⟩ ++ r) (he : (a + (putL ⟨t, false, []⟩).length : Nat) ≤ endD s st) (hd : (st.length : Int) < d) (h1 : 1 ≤ tt) :
  oneD s a d tt st = (t, true, ((a + (putL ⟨t, false, []⟩).length : Nat) : Int), st, 0) := by
 have hp := putL_pos ⟨t, false, []⟩
 have h0 := start_ok (s := s) (a := a) (d := d) (t := tt) (st := st) (by omega) hd h1
 rw [show putL ⟨t, false, []⟩ = if t.size = 1 ∧ bt t 0 < 128 then bytesOf t else headL 128 t.size ++ bytesOf t by rw [putL_eq, if_neg (by simp)]] at h he ⊢
 unfold oneD
 rw [if_neg (by rw [h0]; simp)]
 by_cases c : t.size = 1 ∧ bt t 0 < 128
 ·rw [if_pos c] at h he ⊢
  have e1 : bytesOf t = [bt t 0] := by
   have hl := bytesOf_length t
   rw [c.1] at hl
   obtain ⟨b, hb⟩ := List.length_eq_one_iff.1 hl
   rw [hb, show bt t 0 = bt t ((0 : Nat) : Int) from rfl, bt_getD, hb]
   rfl
  have hbt := bt_drop (b := bt t 0) (r := r) (by rw [h, e1]; rfl)
  rw [hbt, if_pos c.2, ← e1, str_bytesOf, bytesOf_length, c.1]
  exact Prod.ext rfl (Prod.ext rfl (Prod.ext (show (a : Int) + 1 = ((a + 1 : Nat) : Int) by omega) rfl))
 ·rw [if_neg c] at h he ⊢
  rw [List.append_assoc] at h
  rw [List.length_append, bytesOf_length] at he ⊢
  obtain ⟨b1, b2, b3⟩ := lenD_head (by_ := 128) (st := st) ht h (by omega)
  have hh := headL_len 128 t.size (by omega) (by omega)
  rw [if_neg (by omega), if_pos (by omega), b3]
  simp only
  have hx := ext_text (drop_more h)
  rw [if_pos trivial, show ((a + (headL 128 (t.size : Int)).length : Nat) : Int).toNat = a + (headL 128 (t.size : Int)).length by omega, show (((a + (headL 128 (t.size : Int)).length : Nat) : Int) + (t.size : Int)).toNat = a + (headL 128 (t.size : Int)).length + t.size by omega, hx]
  have hc : ¬ ((t.size : Int) = 1 ∧ bt s ((a + (headL 128 (t.size : Int)).length : Nat) : Int) < 128) := by
   rintro ⟨q1, q2⟩
   refine c ⟨by omega, ?_⟩
   have e1 : bytesOf t = [bt t 0] := by
    have hl := bytesOf_length t
    obtain ⟨b, hb⟩ := List.length_eq_one_iff.1 (show (bytesOf t).length = 1 by omega)
    rw [hb, show bt t 0 = bt t ((0 : Nat) : Int) from rfl, bt_getD, hb]
    rfl
   have hbt := bt_drop (b := bt t 0) (r := r) (by rw [drop_more h, e1]; rfl)
   rw [hbt] at q2
   exact q2
  rw [if_neg hc]
  exact Prod.ext rfl (Prod.ext rfl (Prod.ext (show ((a + (headL 128 (t.size : Int)).length : Nat) : Int) + (t.size : Int) = ((a + ((headL 128 (t.size : Int)).length + t.size) : Nat) : Int) by omega) rfl))
theorem one_list {n a : Nat} {d tt : Int} {st : List S151} {r : List Int} (hn : n ≤ 1099511627776) (h : (bytesOf s).drop a = headL 192 n ++ r) (he : (a + (headL 192 n).length + n : Nat) ≤ endD s st) (hd : (st.length : Int) < d) (h1 : 1 ≤ tt) :
  oneD s a d tt st = (⟨#[]⟩, false, ((a + (headL 192 n).length : Nat) : Int), st ++ [⟨[], ((a + (headL 192 n).length + n : Nat) : Int)⟩], 0) := by
 have hp := headL_pos 192 n
 have h0 := start_ok (s := s) (a := a) (d := d) (t := tt) (st := st) (by omega) hd h1
 obtain ⟨b1, b2, b3⟩ := lenD_head (by_ := 192) (st := st) hn h he
 unfold oneD
 rw [if_neg (by rw [h0]; simp), if_neg (by omega), if_neg (by omega), b3]
 rw [show ((a + (headL 192 (n : Int)).length : Nat) : Int) + (n : Int) = ((a + (headL 192 (n : Int)).length + n : Nat) : Int) by omega]
theorem rd_top (st : List S151) (o : S151) : rd_T151 (st ++ [o]) (st.length : Int) = o := by
 unfold rd_T151
 rw [Int.toNat_natCast, List.getD, List.getElem?_append_right (Nat.le_refl _), Nat.sub_self]
 rfl
theorem endD_top (st : List S151) (o : S151) : endD s (st ++ [o]) = o.f1 := by
 unfold endD
 rw [if_neg (by simp), show ((st ++ [o]).length : Int) - 1 = (st.length : Int) by simp, rd_top]
def shutThen (s : ByteArray) (d : Int) (k : Nat) (a t : Int) (st : List S151) (x : S62) : S62 × Int × Int :=
 if (shutD a st.length true x st).1 = true then ((shutD a st.length true x st).2.1, a, 0) else nextL s d k a t (shutD a st.length true x st).2.2
theorem shutThen_nil (d : Int) (k : Nat) (a t : Int) (x : S62) : shutThen s d k a t [] x = (x, a, 0) := rfl
theorem shut_top (a : Int) (ok : Bool) (x : S62) (st : List S151) (o : S151) : shutD a (st ++ [o]).length ok x (st ++ [o]) =
  if a < o.f1 then (false, z62, if ok = true then st ++ [⟨o.f0 ++ [x], o.f1⟩] else st ++ [o]) else shutD a st.length true ⟨⟨#[]⟩, true, if ok = true then o.f0 ++ [x] else o.f0⟩ st := by
 rw [List.length_append, List.length_singleton, shutD, rd_top, List.set_append_right _ _ (Nat.le_refl _), Nat.sub_self, List.take_left]
 rfl
theorem shutThen_in {d : Int} {k : Nat} {a t : Int} {st : List S151} {x : S62} {l : List S62} {e : Int} (h : a < e) : shutThen s d k a t (st ++ [⟨l, e⟩]) x = nextL s d k a t (st ++ [⟨l ++ [x], e⟩]) := by
 unfold shutThen
 rw [shut_top, if_pos h]
 rfl
theorem shutThen_end {d : Int} {k : Nat} {a t : Int} {st : List S151} {x : S62} {l : List S62} {e : Int} (h : ¬ a < e) : shutThen s d k a t (st ++ [⟨l, e⟩]) x = shutThen s d k a t st ⟨⟨#[]⟩, true, l ++ [x]⟩ := by
 unfold shutThen
 rw [shut_top, if_neg h]
 rfl
theorem next_text {d : Int} {k : Nat} {a t a' : Int} {st : List S151} {x : ByteArray} (h : oneD s a d t st = (x, true, a', st, 0)) : nextL s d (k + 1) a t st = shutThen s d k a' (t - 1) st ⟨x, false, []⟩ := by
 rw [nextL, h]
 rfl
theorem next_list {d : Int} {k : Nat} {a t a' e : Int} {st : List S151} (h : oneD s a d t st = (⟨#[]⟩, false, a', st ++ [⟨[], e⟩], 0)) : nextL s d (k + 1) a t st = if a' < e then nextL s d k a' (t - 1) (st ++ [⟨[], e⟩]) else shutThen s d k a' (t - 1) st ⟨⟨#[]⟩, true, []⟩ := by
 rw [nextL, h]
 simp only
 rw [shut_top]
 by_cases c : a' < e
 ·rw [if_pos c, if_pos c]
  rfl
 ·rw [if_neg c, if_neg c]
  rfl
theorem rgt_text {t : ByteArray} {sub : List S62} (h : rgt ⟨t, false, sub⟩ = true) : sub = [] := by
 rw [rgt_eq, Bool.and_eq_true] at h
 exact List.isEmpty_iff.1 h.1
theorem rgt_list {t : ByteArray} {sub : List S62} (h : rgt ⟨t, true, sub⟩ = true) : t = ⟨#[]⟩ ∧ rgts sub = true := by
 rw [rgt_eq, Bool.and_eq_true] at h
 exact ⟨toList_inj ((List.isEmpty_iff.1 h.1 : t.toList = []).trans (by rw [ByteArray.toList_eq])), h.2⟩
theorem rgts_mem : ∀ (ys : List S62) (y : S62), y ∈ ys → rgts ys = true → rgt y = true
 | z :: zs, y, h, hr => by
  rw [rgts_cons, Bool.and_eq_true] at hr
  rcases List.mem_cons.1 h with rfl | h
  ·exact hr.1
  ·exact rgts_mem zs y h hr.2
def Reads (s : ByteArray) (d : Int) (x : S62) : Prop := ∀ (a : Nat) (t : Int) (st : List S151) (k : Nat) (r : List Int), (bytesOf s).drop a = putL x ++ r → ((a + (putL x).length : Nat) : Int) ≤ endD s st → (st.length : Int) + dep x ≤ d → (cnt x : Int) ≤ t → cnt x ≤ k →
 nextL s d k a t st = shutThen s d (k - cnt x) ((a + (putL x).length : Nat) : Int) (t - cnt x) st x
theorem run_items {d : Int} : ∀ (ys : List S62), (∀ y ∈ ys, Reads s d y) → ys ≠ [] → ∀ (a : Nat) (t : Int) (st : List S151) (l : List S62) (k : Nat) (r : List Int), (bytesOf s).drop a = putsL ys ++ r → (st.length : Int) + 1 + deps ys ≤ d → (cnts ys : Int) ≤ t → cnts ys ≤ k →
  nextL s d k a t (st ++ [⟨l, ((a + (putsL ys).length : Nat) : Int)⟩]) = shutThen s d (k - cnts ys) ((a + (putsL ys).length : Nat) : Int) (t - cnts ys) st ⟨⟨#[]⟩, true, l ++ ys⟩ := by
 intro ys
 induction ys with
 | nil => intro _ h; exact absurd rfl h
 | cons y ys ih =>
  intro hy _ a t st l k r h hd ht hk
  rw [deps_cons] at hd
  rw [cnts_cons] at ht hk ⊢
  rw [putsL_cons, List.append_assoc] at h
  rw [putsL_cons, List.length_append]
  have h1 := hy y (by simp) a t (st ++ [⟨l, ((a + ((putL y).length + (putsL ys).length) : Nat) : Int)⟩]) k _ h (by rw [endD_top]; show _ ≤ ((a + ((putL y).length + (putsL ys).length) : Nat) : Int); omega) (by rw [List.length_append, List.length_singleton]; omega) (by omega) (by omega)
  rw [h1]
  cases hys : ys with
  | nil =>
   subst hys
   simp only [putsL, cnts, List.length_nil, Nat.add_zero]
   rw [shutThen_end (by omega)]
  | cons z zs =>
   rw [← hys]
   have hp : 1 ≤ (putsL ys).length := by rw [hys, putsL_cons, List.length_append]; have := putL_pos z; omega
   rw [shutThen_in (by omega)]
   have h2 := ih (fun q hq => hy q (List.mem_cons_of_mem _ hq)) (by rw [hys]; simp) (a + (putL y).length) (t - cnt y) st (l ++ [y]) (k - cnt y) r (drop_more h) (by omega) (by omega) (by omega)
   rw [show a + (putL y).length + (putsL ys).length = a + ((putL y).length + (putsL ys).length) by omega] at h2
   rw [h2, List.append_assoc, show k - cnt y - cnts ys = k - (cnt y + cnts ys) by omega, show t - (cnt y : Int) - (cnts ys : Int) = t - ((cnt y + cnts ys : Nat) : Int) by omega]
   rfl
theorem run_item (hs : s.size ≤ 1099511627776) {d : Int} : ∀ x : S62, rgt x = true → Reads s d x
 | ⟨t, false, sub⟩, hr => by
  obtain rfl := rgt_text hr
  intro a tt st k r h he hd ht hk
  rw [dep_eq] at hd
  have hc : cnt ⟨t, false, []⟩ = 1 := by rw [cnt_eq, cnts]
  rw [hc] at ht hk ⊢
  have hsz : t.size ≤ 1099511627776 := by
   have h1 := congrArg List.length h
   rw [List.length_drop, bytesOf_length, List.length_append, putL_eq, if_neg (by simp)] at h1
   split at h1
   ·rename_i q; omega
   ·rw [List.length_append, bytesOf_length] at h1; omega
  obtain ⟨k, rfl⟩ : ∃ q, k = q + 1 := ⟨k - 1, by omega⟩
  rw [next_text (one_text hsz h he (by omega) (by omega))]
  rfl
 | ⟨t, true, sub⟩, hr => by
  obtain ⟨rfl, hrs⟩ := rgt_list hr
  intro a tt st k r h he hd ht hk
  rw [dep_eq] at hd
  rw [cnt_eq] at ht hk ⊢
  rw [putL_eq, if_pos rfl, List.append_assoc] at h
  rw [putL_eq, if_pos rfl, List.length_append] at he ⊢
  have hsz : (putsL sub).length ≤ 1099511627776 := by
   have h1 := congrArg List.length h
   rw [List.length_drop, bytesOf_length, List.length_append, List.length_append] at h1
   omega
  obtain ⟨k, rfl⟩ : ∃ q, k = q + 1 := ⟨k - 1, by omega⟩
  rw [next_list (one_list hsz h (by omega) (by omega) (by omega))]
  cases hsub : sub with
  | nil =>
   subst hsub
   have hz : (putsL ([] : List S62)).length = 0 := by simp [putsL]
   rw [if_neg (by omega)]
   simp only [putsL, cnts, List.length_nil, Nat.add_zero]
   rfl
  | cons z zs =>
   rw [← hsub]
   have hp : 1 ≤ (putsL sub).length := by rw [hsub, putsL_cons, List.length_append]; have := putL_pos z; omega
   rw [if_pos (by omega)]
   have h2 := run_items (d := d) sub (fun y hy => run_item hs y (rgts_mem sub y hy hrs)) (by rw [hsub]; simp) (a + (headL 192 (putsL sub).length).length) (tt - 1) st [] k r (drop_more h) (by omega) (by omega) (by omega)
   rw [h2, List.nil_append, show k + 1 - (1 + cnts sub) = k - cnts sub by omega, show tt - ((1 + cnts sub : Nat) : Int) = tt - 1 - (cnts sub : Int) by omega, Nat.add_assoc]
 termination_by x => SizeOf.sizeOf x
 decreasing_by
 have := List.sizeOf_lt_of_mem hy
 simp
 omega
end
end Go.Proofs.Yteoibgpkimlahaa.P
end
section
namespace Go.Proofs.Yteoibgpkimlahaa.P
open Go.RowKit Go.Proofs.YteoibgpkimlahaaW.PrintWords Go.Proofs.YteoibgpkimlahaaW.PrintLast Go.Proofs.YteoibgpkimlahaaW.PrintMore
section
variable {s : ByteArray}
theorem endD_nil : endD s [] = (s.size : Int) := rfl
theorem next_whole {x : S62} {r : List Int} {depth items : Int} (hr : rgt x = true) (h : bytesOf s = putL x ++ r) (hs : s.size ≤ 1099511627776) (hd : (dep x : Int) ≤ depth) (hd2 : dep x ≤ 16) (hc : (cnt x : Int) ≤ items) (hc2 : cnt x ≤ 1024) :
  nextF s depth items = (x, ((putL x).length : Int), 0) := by
 have hlen : (putL x).length ≤ s.size := by
  have := congrArg List.length h
  rw [bytesOf_length, List.length_append] at this
  omega
 have hI : (cnt x : Int) ≤ capI items := by unfold capI; split <;> split <;> omega
 have hD : (dep x : Int) ≤ capD depth := by unfold capD; split <;> omega
 have h1 := run_item hs (d := capD depth) x hr 0 (capI items) [] ((capI items).toNat + 1) r (by rw [List.drop_zero]; exact h) (by rw [endD_nil]; omega) (by rw [List.length_nil]; omega) hI (by omega)
 unfold nextF
 rw [shutThen_nil, Nat.zero_add] at h1
 exact h1
end
end Go.Proofs.Yteoibgpkimlahaa.P
end
section
namespace Go.Proofs.Yteoibgpkimlahaa.P
open Go.RowKit Go.Proofs.YteoibgpkimlahaaW.PrintWords Go.Proofs.YteoibgpkimlahaaW.PrintLast Go.Proofs.YteoibgpkimlahaaW.PrintMore
theorem next_is {s : ByteArray} {depth items : Int} {x : S62} {n e : Int} (hs : s.size ≤ 1099511627776) (h : nextF s depth items = (x, n, e)) : rlp_Next.f s depth items = some (x.f0, x.f1, x.f2, n, e) := by
 unfold rlp_Next.f
 rw [if_pos hs, h]
theorem get_is {s : ByteArray} {depth items : Int} {x : S62} {n e : Int} (hs : s.size ≤ 1099511627776) (h : nextF s depth items = (x, n, e)) :
  rlp_Get.f s depth items = some (if e = 0 then if n < (s.size : Int) then (⟨#[]⟩, false, [], 3) else (x.f0, x.f1, x.f2, 0) else (⟨#[]⟩, false, [], e)) := by
 unfold rlp_Get.f
 rw [next_is hs h, Option.bind_some]
 simp only
 split <;> (try split) <;> rfl
theorem mayI_of {x : S62} (h : mayI x = true) : rgt x = true ∧ dep x ≤ 16 ∧ cnt x ≤ 1024 := by
 unfold mayI at h
 rw [Bool.and_eq_true, Bool.and_eq_true] at h
 exact ⟨h.1.1, of_decide_eq_true h.1.2, of_decide_eq_true h.2⟩
theorem isByte_headL (by_ n : Int) (hb : by_ = 128 ∨ by_ = 192) (h0 : 0 ≤ n) (h1 : n ≤ 1099511627776) : IsByte (headL by_ n) := by
 unfold headL
 have hs := sz_u64 h0 (show n < 18446744073709551616 by omega)
 split
 ·intro b hb2
  rw [List.mem_singleton] at hb2
  omega
 ·intro b hb2
  rcases List.mem_cons.1 hb2 with rfl | hb2
  ·omega
  ·exact digs_byte n b hb2
theorem isByte_puts : ∀ (ys : List S62), (∀ y ∈ ys, IsByte (putL y)) → IsByte (putsL ys)
 | [], _ => by rw [putsL]; intro b hb; cases hb
 | y :: ys, h => by
  rw [putsL_cons]
  intro b hb
  rcases List.mem_append.1 hb with hb | hb
  ·exact h y (by simp) b hb
  ·exact isByte_puts ys (fun z hz => h z (List.mem_cons_of_mem _ hz)) b hb
theorem isByte_put : ∀ (x : S62), cnt x ≤ 1200 → tot x ≤ 6000 → IsByte (putL x)
 | ⟨t, l, sub⟩, hc, ht => by
  rw [cnt_eq] at hc
  rw [tot_eq] at ht
  have hr := putsL_room sub (fun y hy => putL_room y (by have := cnts_mem sub y hy; omega) (by have := tots_mem sub y hy; omega))
  have h := isByte_puts sub (fun y hy => isByte_put y (by have := cnts_mem sub y hy; omega) (by have := tots_mem sub y hy; omega))
  rw [putL_eq]
  split
  ·intro b hb
   rcases List.mem_append.1 hb with hb | hb
   ·exact isByte_headL 192 _ (.inr rfl) (by omega) (by omega) b hb
   ·exact h b hb
  ·split
   ·exact bytesOf_byte t
   ·intro b hb
    rcases List.mem_append.1 hb with hb | hb
    ·exact isByte_headL 128 _ (.inl rfl) (by omega) (by omega) b hb
    ·exact bytesOf_byte t b hb
theorem bytesOf_put (x : S62) (h1 : cnt x ≤ 1200) (h2 : tot x ≤ 6000) : bytesOf (strOfNums (putL x)) = putL x := bytesOf_str _ (isByte_put x h1 h2)
end Go.Proofs.Yteoibgpkimlahaa.P
end
section
namespace Go.Proofs.Yteoibgpkimlahaa.P
open Go.RowKit Go.Proofs.YteoibgpkimlahaaW.PrintWords Go.Proofs.YteoibgpkimlahaaW.PrintLast Go.Proofs.YteoibgpkimlahaaW.PrintMore
set_option maxRecDepth 100000 in
theorem alive09 : hatchwaylaw09_alive.f = some true := by decide +kernel
theorem rlpPuts (a0_0 : ByteArray) (a0_1 : Bool) (l0 : List S62) : Ev (fun k => hatchwaylaw09_RlpPuts.f k a0_0 a0_1 l0) true := by
 obtain ⟨x, hx⟩ : ∃ x : S62, x = ⟨a0_0, a0_1, l0⟩ := ⟨_, rfl⟩
 obtain ⟨b, hb, hsm⟩ := great_ev x
 have hb2 : Ev (fun k => hatchwaylaw08_Great.f k a0_0 a0_1 l0) b := by subst hx; exact hb
 unfold hatchwaylaw09_RlpPuts.f
 rw [alive09]
 simp only [Option.bind_some, if_true]
 refine Ev.bind hb2 ?_
 cases b with
 | true => exact Ev.congr (fun k => if_pos rfl) (Ev.now _)
 | false =>
  obtain ⟨hc, ht⟩ := hsm rfl
  have hmay : Ev (fun k => hatchwayref08_May.f k a0_0 a0_1 l0) (mayI x) := by subst hx; exact may_ev _ hc
  have hput : Ev (fun k => hatchwayref09_Put.f k a0_0 a0_1 l0) (strOfNums (putL x)) := by subst hx; exact put_ev _ hc ht
  have hdeep : Ev (fun k => hatchwayref08_Deep.f k a0_0 a0_1 l0) (dep x : Int) := by subst hx; exact deep_ev _ hc
  have hcount : Ev (fun k => hatchwayref08_Count.f k a0_0 a0_1 l0) (cnt x : Int) := by subst hx; exact count_ev _ hc
  have hsame : Ev (fun k => hatchwayref08_Same.f k a0_0 a0_1 l0 x.f0 x.f1 x.f2) true := by subst hx; exact same_ev _ hc
  have hbs := bytesOf_put x hc ht
  have hroom := putL_room x hc ht
  have hsz : (strOfNums (putL x)).size ≤ 1099511627776 := by rw [strOfNums_size]; omega
  refine Ev.congr (fun k => if_neg (by simp)) ?_
  cases hm : mayI x with
  | false =>
   rw [hm] at hmay
   have hp : rlp_Put.f a0_0 a0_1 l0 = some (⟨#[]⟩, 1) := by subst hx; exact rlpPut_not _ hm
   have hs : rlp_Size.f a0_0 a0_1 l0 = some 0 := by unfold rlp_Size.f; rw [hp]; rfl
   rw [hp, hs]
   refine Ev.bind (Ev.now _) (Ev.bind hmay ?_)
   refine Ev.congr (f := fun _ => some true) (fun k => ?_) (Ev.now _)
   rw [if_neg (by simp), if_pos rfl, if_pos (by rw [ByteArray.toList_eq])]
   rfl
  | true =>
   rw [hm] at hmay
   obtain ⟨hr, hd, hn⟩ := mayI_of hm
   have hp : rlp_Put.f a0_0 a0_1 l0 = some (strOfNums (putL x), 0) := by subst hx; exact rlpPut_may _ hc ht hm
   have hs : rlp_Size.f a0_0 a0_1 l0 = some ((strOfNums (putL x)).size : Int) := by unfold rlp_Size.f; rw [hp]; rfl
   have g3 := get_is hsz (next_whole (r := []) (depth := (dep x : Int)) (items := (cnt x : Int)) hr (by rw [List.append_nil]; exact hbs) hsz (by omega) hd (by omega) hn)
   rw [if_pos rfl, if_neg (by rw [strOfNums_size]; omega)] at g3
   rw [hp, hs]
   refine Ev.bind (Ev.now _) (Ev.bind hmay ?_)
   refine Ev.congr (fun k => if_pos rfl) (Ev.bind hdeep (Ev.bind hcount ?_))
   dsimp only
   rw [g3]
   refine Ev.bind (Ev.now _) (Ev.congr (fun k => if_pos rfl) (Ev.bind hput ?_))
   refine Ev.congr (fun k => if_pos rfl) ?_
   refine Ev.bind (Ev.now _) (Ev.congr (fun k => if_pos rfl) (Ev.congr (fun k => if_pos rfl) ?_))
   exact Ev.bind hsame (Ev.now _)
end Go.Proofs.Yteoibgpkimlahaa.P
end
