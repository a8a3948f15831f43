-- out of the translation, by a program of this session (wip/tools/pr.py)
import Derived.Test.YteoibgpkimlahaaF0
import Derived.Test.YteoibgpkimlahaaFFixedGetBig
import Derived.Test.YteoibgpkimlahaaFFixedGetLeast
import Derived.Test.YteoibgpkimlahaaFFixedGetLittle
import Derived.Test.YteoibgpkimlahaaFFixedLeast
import Derived.Test.YteoibgpkimlahaaFHatchwaylaw02Alive
import Derived.Test.YteoibgpkimlahaaFHatchwayref02Number
import Derived.Test.YteoibgpkimlahaaFHatchwayref02Turned
namespace Go.Proofs.Yteoibgpkimlahaa.P
open Go.RowKit Go.Proofs.YteoibgpkimlahaaW.PrintWords Go.Proofs.YteoibgpkimlahaaW.PrintLast Go.Proofs.YteoibgpkimlahaaW.PrintMore
attribute [local go_sem] max2_int min2_int max_two min_two max_three min_three max_four min_four   -- for this text's walks alone
set_option linter.unusedVariables false
set_option linter.unusedSimpArgs false

/-! ### hatchwaylaw02_FixedGets: function 5 -/
def hatchwaylaw02_FixedGets.j0 : Nat → ByteArray → Int → Int → Int → Bool → Option (Bool)
  | 0, _, _, _, _, _ => none
  | k + 1, x0, x5, x7, x8, x96 => if x96 = true then (some false) else (if 0 < (x0.size : Int) then (if (bt x0 0) = 0 then (if x8 = 3 then (some (x7 == 0)) else (some false)) else (if x8 = 0 then (if x7 = x5 then ((fixed_Least.f k x7).bind fun t111 => (some (t111.toList == x0.toList))) else (some false)) else (some false))) else (none))
def hatchwaylaw02_FixedGets.f (k : Nat) (a0 : ByteArray) : Option (Bool) := (hatchwaylaw02_alive.f k).bind fun t101 => (if t101 = true then (if (a0.size : Int) > 100 then (some true) else ((fixed_GetLittle.f a0).bind fun bt102 => ((fixed_GetBig.f a0).bind fun bt104 => ((fixed_GetLeast.f a0).bind fun bt106 => (if (a0.size : Int) > 8 then (if bt102.2 = 5 then (if bt104.2 = 5 then (if bt106.2 = 5 then (if bt102.1 = 0 then (if bt104.1 = 0 then (some (bt106.1 == 0)) else (some false)) else (some false)) else (some false)) else (some false)) else (some false)) else (if a0.toList = ([] : List UInt8) then (if bt102.2 = 1 then (if bt104.2 = 1 then (if bt102.1 = 0 then (if bt104.1 = 0 then (if bt106.2 = 0 then (some (bt106.1 == 0)) else (some false)) else (some false)) else (some false)) else (some false)) else (some false)) else (if bt102.2 = 0 then (if bt104.2 = 0 then ((hatchwayref02_Number.f k a0).bind fun t108 => (if bt104.1 = t108 then ((hatchwayref02_Turned.f k a0).bind fun t109 => ((hatchwayref02_Number.f k t109).bind fun t110 => (hatchwaylaw02_FixedGets.j0 k a0 bt104.1 bt106.1 bt106.2 (bt102.1 != t110)))) else (hatchwaylaw02_FixedGets.j0 k a0 bt104.1 bt106.1 bt106.2 true))) else (hatchwaylaw02_FixedGets.j0 k a0 bt104.1 bt106.1 bt106.2 true)) else (hatchwaylaw02_FixedGets.j0 k a0 bt104.1 bt106.1 bt106.2 true)))))))) else (some false))
theorem hatchwaylaw02_FixedGets.mono_l : ∀ k, (∀ y0 y1 y2 y3 y4, LeO (hatchwaylaw02_FixedGets.j0 k y0 y1 y2 y3 y4) (hatchwaylaw02_FixedGets.j0 (k + 1) y0 y1 y2 y3 y4))
  | 0 => fun _ _ _ _ _ r h => by simp [hatchwaylaw02_FixedGets.j0] at h
  | k + 1 => by
    have ih0 := hatchwaylaw02_FixedGets.mono_l k
    · intro y0 y1 y2 y3 y4
      unfold hatchwaylaw02_FixedGets.j0
      repeat' first
      | (with_reducible exact ih0 _ _ _ _ _)
      | (with_reducible exact fixed_Least.mono _ _)
      | (with_reducible exact hatchwaylaw02_alive.mono _)
      | (with_reducible exact hatchwayref02_Number.mono _ _)
      | (with_reducible exact hatchwayref02_Turned.mono _ _)
      | (with_reducible exact LeO.refl _)
      | (with_reducible exact LeO.none _)
      | (with_reducible refine LeO.ite ?_ ?_)
      | (with_reducible refine LeO.bind ?_ (fun _ => ?_))
      | exact ih0 _ _ _ _ _
      | exact fixed_Least.mono _ _
      | exact hatchwaylaw02_alive.mono _
      | exact hatchwayref02_Number.mono _ _
      | exact hatchwayref02_Turned.mono _ _
      | exact LeO.none _
      | refine LeO.ite ?_ ?_
      | refine LeO.bind ?_ (fun _ => ?_)
theorem hatchwaylaw02_FixedGets.mono : ∀ a0 k, LeO (hatchwaylaw02_FixedGets.f k a0) (hatchwaylaw02_FixedGets.f (k + 1) a0) := by
  intro a0 k
  have ih0 := hatchwaylaw02_FixedGets.mono_l k
  unfold hatchwaylaw02_FixedGets.f
  repeat' first
      | (with_reducible exact ih0 _ _ _ _ _)
      | (with_reducible exact fixed_Least.mono _ _)
      | (with_reducible exact hatchwaylaw02_alive.mono _)
      | (with_reducible exact hatchwayref02_Number.mono _ _)
      | (with_reducible exact hatchwayref02_Turned.mono _ _)
      | (with_reducible exact LeO.refl _)
      | (with_reducible exact LeO.none _)
      | (with_reducible refine LeO.ite ?_ ?_)
      | (with_reducible refine LeO.bind ?_ (fun _ => ?_))
      | exact ih0 _ _ _ _ _
      | exact fixed_Least.mono _ _
      | exact hatchwaylaw02_alive.mono _
      | exact hatchwayref02_Number.mono _ _
      | exact hatchwayref02_Turned.mono _ _
      | exact LeO.none _
      | refine LeO.ite ?_ ?_
      | refine LeO.bind ?_ (fun _ => ?_)
set_option maxHeartbeats 8000000 in
set_option maxRecDepth 100000 in
theorem hatchwaylaw02_FixedGets.calls (k : Nat) (a0 : ByteArray) (r : Bool) (w : World) (h : hatchwaylaw02_FixedGets.f k a0 = some r) :
    Calls Try.prog 5 #[.string a0] w fun e w' => e = .returned (.bool r) ∧ Below w.heap.size w w' := by
  have HB := Aside0.mk (Below.refl w.heap.size w)
  have H : ((hatchwaylaw02_alive.f k).bind fun t101 => (if t101 = true then (if (a0.size : Int) > 100 then (some true) else ((fixed_GetLittle.f a0).bind fun bt102 => ((fixed_GetBig.f a0).bind fun bt104 => ((fixed_GetLeast.f a0).bind fun bt106 => (if (a0.size : Int) > 8 then (if bt102.2 = 5 then (if bt104.2 = 5 then (if bt106.2 = 5 then (if bt102.1 = 0 then (if bt104.1 = 0 then (some (bt106.1 == 0)) else (some false)) else (some false)) else (some false)) else (some false)) else (some false)) else (if a0.toList = ([] : List UInt8) then (if bt102.2 = 1 then (if bt104.2 = 1 then (if bt102.1 = 0 then (if bt104.1 = 0 then (if bt106.2 = 0 then (some (bt106.1 == 0)) else (some false)) else (some false)) else (some false)) else (some false)) else (some false)) else (if bt102.2 = 0 then (if bt104.2 = 0 then ((hatchwayref02_Number.f k a0).bind fun t108 => (if bt104.1 = t108 then ((hatchwayref02_Turned.f k a0).bind fun t109 => ((hatchwayref02_Number.f k t109).bind fun t110 => (hatchwaylaw02_FixedGets.j0 k a0 bt104.1 bt106.1 bt106.2 (bt102.1 != t110)))) else (hatchwaylaw02_FixedGets.j0 k a0 bt104.1 bt106.1 bt106.2 true))) else (hatchwaylaw02_FixedGets.j0 k a0 bt104.1 bt106.1 bt106.2 true)) else (hatchwaylaw02_FixedGets.j0 k a0 bt104.1 bt106.1 bt106.2 true)))))))) else (some false))) = some r := h
  clear h
  replace H := Option.bind_eq_some_iff.mp H
  obtain ⟨t101, A20, H⟩ := H
  replace H : (if t101 = true then (if (a0.size : Int) > 100 then (some true) else ((fixed_GetLittle.f a0).bind fun bt102 => ((fixed_GetBig.f a0).bind fun bt104 => ((fixed_GetLeast.f a0).bind fun bt106 => (if (a0.size : Int) > 8 then (if bt102.2 = 5 then (if bt104.2 = 5 then (if bt106.2 = 5 then (if bt102.1 = 0 then (if bt104.1 = 0 then (some (bt106.1 == 0)) else (some false)) else (some false)) else (some false)) else (some false)) else (some false)) else (if a0.toList = ([] : List UInt8) then (if bt102.2 = 1 then (if bt104.2 = 1 then (if bt102.1 = 0 then (if bt104.1 = 0 then (if bt106.2 = 0 then (some (bt106.1 == 0)) else (some false)) else (some false)) else (some false)) else (some false)) else (some false)) else (if bt102.2 = 0 then (if bt104.2 = 0 then ((hatchwayref02_Number.f k a0).bind fun t108 => (if bt104.1 = t108 then ((hatchwayref02_Turned.f k a0).bind fun t109 => ((hatchwayref02_Number.f k t109).bind fun t110 => (hatchwaylaw02_FixedGets.j0 k a0 bt104.1 bt106.1 bt106.2 (bt102.1 != t110)))) else (hatchwaylaw02_FixedGets.j0 k a0 bt104.1 bt106.1 bt106.2 true))) else (hatchwaylaw02_FixedGets.j0 k a0 bt104.1 bt106.1 bt106.2 true)) else (hatchwaylaw02_FixedGets.j0 k a0 bt104.1 bt106.1 bt106.2 true)))))))) else (some false)) = some r := H
  have A2 := Aside0.mk A20
  clear A20
  by_cases c3 : t101 = true
  · subst c3
    have H1 : (if (a0.size : Int) > 100 then (some true) else ((fixed_GetLittle.f a0).bind fun bt102 => ((fixed_GetBig.f a0).bind fun bt104 => ((fixed_GetLeast.f a0).bind fun bt106 => (if (a0.size : Int) > 8 then (if bt102.2 = 5 then (if bt104.2 = 5 then (if bt106.2 = 5 then (if bt102.1 = 0 then (if bt104.1 = 0 then (some (bt106.1 == 0)) else (some false)) else (some false)) else (some false)) else (some false)) else (some false)) else (if a0.toList = ([] : List UInt8) then (if bt102.2 = 1 then (if bt104.2 = 1 then (if bt102.1 = 0 then (if bt104.1 = 0 then (if bt106.2 = 0 then (some (bt106.1 == 0)) else (some false)) else (some false)) else (some false)) else (some false)) else (some false)) else (if bt102.2 = 0 then (if bt104.2 = 0 then ((hatchwayref02_Number.f k a0).bind fun t108 => (if bt104.1 = t108 then ((hatchwayref02_Turned.f k a0).bind fun t109 => ((hatchwayref02_Number.f k t109).bind fun t110 => (hatchwaylaw02_FixedGets.j0 k a0 bt104.1 bt106.1 bt106.2 (bt102.1 != t110)))) else (hatchwaylaw02_FixedGets.j0 k a0 bt104.1 bt106.1 bt106.2 true))) else (hatchwaylaw02_FixedGets.j0 k a0 bt104.1 bt106.1 bt106.2 true)) else (hatchwaylaw02_FixedGets.j0 k a0 bt104.1 bt106.1 bt106.2 true)))))))) = some r := by rw [if_pos rfl] at H; exact H
    clear H
    have H := H1
    clear H1
    by_cases c4 : (a0.size : Int) > 100
    · rw [if_pos c4] at H
      have c4b0 : decide (100 < (a0.size : Int)) = true := decide_eq_true c4
      have c4b1 : decide (100 < a0.size) = true := decide_eq_true (by omega)
      clear c4
      obtain rfl := Option.some.inj H
      go_enter Try.func5, Try.ntmps5
      go_wp2_with (first | ((with_reducible refine gate_callee (f := 14) rfl ?_); refine goesL_ (some 9) rfl rfl Try.func14 (by kernel_rfl) rfl #[] rfl (by (try simp only [List.map_toArray, List.map_cons, List.map_nil]); first | done | rfl | (simp only [List.length_drop, List.length_take]; rfl)) ?_; (with_reducible refine (hatchwaylaw02_alive.calls k  true _ A2.out).mono ?_); rintro e w5 ⟨rfl, hb⟩; refine ⟨_, rfl, ?_⟩; have n0_ := Aside0.mk (below_step (by repeat (first | (with_reducible first | exact HB.out | apply below_alloc | apply pw_below_drewN | apply below_drew1) | exact HB.out)) hb); clear HB; have HB := n0_; clear n0_; (try clear hb); (try clear hb2); (try clear hk); (try clear hi)))
      go_ret
      exact ⟨by first | rfl | (simp [errW_none, errW_some] <;> rfl) | (simp [*, errW_none, errW_some] <;> rfl), by repeat (first | (with_reducible first | exact HB.out | apply below_alloc | apply pw_below_drewN | apply below_drew1) | exact HB.out)⟩
    · rw [if_neg c4] at H
      have c4b0 : decide (100 < (a0.size : Int)) = false := decide_eq_false c4
      have c4b1 : decide (100 < a0.size) = false := decide_eq_false (by omega)
      clear c4
      replace H := Option.bind_eq_some_iff.mp H
      obtain ⟨⟨t102, t103⟩, A60, H⟩ := H
      replace H : ((fixed_GetBig.f a0).bind fun bt104 => ((fixed_GetLeast.f a0).bind fun bt106 => (if (a0.size : Int) > 8 then (if t103 = 5 then (if bt104.2 = 5 then (if bt106.2 = 5 then (if t102 = 0 then (if bt104.1 = 0 then (some (bt106.1 == 0)) else (some false)) else (some false)) else (some false)) else (some false)) else (some false)) else (if a0.toList = ([] : List UInt8) then (if t103 = 1 then (if bt104.2 = 1 then (if t102 = 0 then (if bt104.1 = 0 then (if bt106.2 = 0 then (some (bt106.1 == 0)) else (some false)) else (some false)) else (some false)) else (some false)) else (some false)) else (if t103 = 0 then (if bt104.2 = 0 then ((hatchwayref02_Number.f k a0).bind fun t108 => (if bt104.1 = t108 then ((hatchwayref02_Turned.f k a0).bind fun t109 => ((hatchwayref02_Number.f k t109).bind fun t110 => (hatchwaylaw02_FixedGets.j0 k a0 bt104.1 bt106.1 bt106.2 (t102 != t110)))) else (hatchwaylaw02_FixedGets.j0 k a0 bt104.1 bt106.1 bt106.2 true))) else (hatchwaylaw02_FixedGets.j0 k a0 bt104.1 bt106.1 bt106.2 true)) else (hatchwaylaw02_FixedGets.j0 k a0 bt104.1 bt106.1 bt106.2 true)))))) = some r := H
      have A6 := Aside0.mk A60
      clear A60
      replace H := Option.bind_eq_some_iff.mp H
      obtain ⟨⟨t104, t105⟩, A70, H⟩ := H
      replace H : ((fixed_GetLeast.f a0).bind fun bt106 => (if (a0.size : Int) > 8 then (if t103 = 5 then (if t105 = 5 then (if bt106.2 = 5 then (if t102 = 0 then (if t104 = 0 then (some (bt106.1 == 0)) else (some false)) else (some false)) else (some false)) else (some false)) else (some false)) else (if a0.toList = ([] : List UInt8) then (if t103 = 1 then (if t105 = 1 then (if t102 = 0 then (if t104 = 0 then (if bt106.2 = 0 then (some (bt106.1 == 0)) else (some false)) else (some false)) else (some false)) else (some false)) else (some false)) else (if t103 = 0 then (if t105 = 0 then ((hatchwayref02_Number.f k a0).bind fun t108 => (if t104 = t108 then ((hatchwayref02_Turned.f k a0).bind fun t109 => ((hatchwayref02_Number.f k t109).bind fun t110 => (hatchwaylaw02_FixedGets.j0 k a0 t104 bt106.1 bt106.2 (t102 != t110)))) else (hatchwaylaw02_FixedGets.j0 k a0 t104 bt106.1 bt106.2 true))) else (hatchwaylaw02_FixedGets.j0 k a0 t104 bt106.1 bt106.2 true)) else (hatchwaylaw02_FixedGets.j0 k a0 t104 bt106.1 bt106.2 true))))) = some r := H
      have A7 := Aside0.mk A70
      clear A70
      replace H := Option.bind_eq_some_iff.mp H
      obtain ⟨⟨t106, t107⟩, A80, H⟩ := H
      replace H : (if (a0.size : Int) > 8 then (if t103 = 5 then (if t105 = 5 then (if t107 = 5 then (if t102 = 0 then (if t104 = 0 then (some (t106 == 0)) else (some false)) else (some false)) else (some false)) else (some false)) else (some false)) else (if a0.toList = ([] : List UInt8) then (if t103 = 1 then (if t105 = 1 then (if t102 = 0 then (if t104 = 0 then (if t107 = 0 then (some (t106 == 0)) else (some false)) else (some false)) else (some false)) else (some false)) else (some false)) else (if t103 = 0 then (if t105 = 0 then ((hatchwayref02_Number.f k a0).bind fun t108 => (if t104 = t108 then ((hatchwayref02_Turned.f k a0).bind fun t109 => ((hatchwayref02_Number.f k t109).bind fun t110 => (hatchwaylaw02_FixedGets.j0 k a0 t104 t106 t107 (t102 != t110)))) else (hatchwaylaw02_FixedGets.j0 k a0 t104 t106 t107 true))) else (hatchwaylaw02_FixedGets.j0 k a0 t104 t106 t107 true)) else (hatchwaylaw02_FixedGets.j0 k a0 t104 t106 t107 true)))) = some r := H
      have A8 := Aside0.mk A80
      clear A80
      by_cases c9 : (a0.size : Int) > 8
      · rw [if_pos c9] at H
        have c9b0 : decide (8 < (a0.size : Int)) = true := decide_eq_true c9
        have c9b1 : decide (8 < a0.size) = true := decide_eq_true (by omega)
        clear c9
        by_cases c10 : t103 = 5
        · rw [if_pos c10] at H
          have c10b0 : (t103 == 5) = true := beq_iff_eq.mpr c10
          have c10b1 : (t103 != 5) = false := bne_eq_false_iff_eq.mpr c10
          clear c10
          by_cases c11 : t105 = 5
          · rw [if_pos c11] at H
            have c11b0 : (t105 == 5) = true := beq_iff_eq.mpr c11
            have c11b1 : (t105 != 5) = false := bne_eq_false_iff_eq.mpr c11
            clear c11
            by_cases c12 : t107 = 5
            · rw [if_pos c12] at H
              have c12b0 : (t107 == 5) = true := beq_iff_eq.mpr c12
              have c12b1 : (t107 != 5) = false := bne_eq_false_iff_eq.mpr c12
              clear c12
              by_cases c13 : t102 = 0
              · rw [if_pos c13] at H
                have c13b0 : (t102 == 0) = true := beq_iff_eq.mpr c13
                have c13b1 : (t102 != 0) = false := bne_eq_false_iff_eq.mpr c13
                clear c13
                by_cases c14 : t104 = 0
                · rw [if_pos c14] at H
                  have c14b0 : (t104 == 0) = true := beq_iff_eq.mpr c14
                  have c14b1 : (t104 != 0) = false := bne_eq_false_iff_eq.mpr c14
                  clear c14
                  obtain rfl := Option.some.inj H
                  go_enter Try.func5, Try.ntmps5
                  go_wp2_with (first | ((with_reducible refine gate_callee (f := 14) rfl ?_); refine goesL_ (some 9) rfl rfl Try.func14 (by kernel_rfl) rfl #[] rfl (by (try simp only [List.map_toArray, List.map_cons, List.map_nil]); first | done | rfl | (simp only [List.length_drop, List.length_take]; rfl)) ?_; (with_reducible refine (hatchwaylaw02_alive.calls k  true _ A2.out).mono ?_); rintro e w15 ⟨rfl, hb⟩; refine ⟨_, rfl, ?_⟩; have n0_ := Aside0.mk (below_step (by repeat (first | (with_reducible first | exact HB.out | apply below_alloc | apply pw_below_drewN | apply below_drew1) | exact HB.out)) hb); clear HB; have HB := n0_; clear n0_; (try clear hb); (try clear hb2); (try clear hk); (try clear hi)) | ((with_reducible refine gate_callee (f := 21) rfl ?_); refine goesL_ (some 16) rfl rfl Try.func21 (by kernel_rfl) rfl #[.string a0] rfl (by (try simp only [List.map_toArray, List.map_cons, List.map_nil]); first | done | rfl | (simp only [List.length_drop, List.length_take]; rfl)) ?_; (with_reducible refine (fixed_GetLittle.calls a0 t102 t103 _ A6.out).mono ?_); rintro e w16 ⟨rfl, hb⟩; refine ⟨_, rfl, ?_⟩; have n0_ := Aside0.mk (below_step (by repeat (first | (with_reducible first | exact HB.out | apply below_alloc | apply pw_below_drewN | apply below_drew1) | exact HB.out)) hb); clear HB; have HB := n0_; clear n0_; (try clear hb); (try clear hb2); (try clear hk); (try clear hi)) | ((with_reducible refine gate_callee (f := 22) rfl ?_); refine goesL_ (some 21) rfl rfl Try.func22 (by kernel_rfl) rfl #[.string a0] rfl (by (try simp only [List.map_toArray, List.map_cons, List.map_nil]); first | done | rfl | (simp only [List.length_drop, List.length_take]; rfl)) ?_; (with_reducible refine (fixed_GetBig.calls a0 t104 t105 _ A7.out).mono ?_); rintro e w17 ⟨rfl, hb⟩; refine ⟨_, rfl, ?_⟩; have n0_ := Aside0.mk (below_step (by repeat (first | (with_reducible first | exact HB.out | apply below_alloc | apply pw_below_drewN | apply below_drew1) | exact HB.out)) hb); clear HB; have HB := n0_; clear n0_; (try clear hb); (try clear hb2); (try clear hk); (try clear hi)) | ((with_reducible refine gate_callee (f := 18) rfl ?_); refine goesL_ (some 26) rfl rfl Try.func18 (by kernel_rfl) rfl #[.string a0] rfl (by (try simp only [List.map_toArray, List.map_cons, List.map_nil]); first | done | rfl | (simp only [List.length_drop, List.length_take]; rfl)) ?_; (with_reducible refine (fixed_GetLeast.calls a0 t106 t107 _ A8.out).mono ?_); rintro e w18 ⟨rfl, hb⟩; refine ⟨_, rfl, ?_⟩; have n0_ := Aside0.mk (below_step (by repeat (first | (with_reducible first | exact HB.out | apply below_alloc | apply pw_below_drewN | apply below_drew1) | exact HB.out)) hb); clear HB; have HB := n0_; clear n0_; (try clear hb); (try clear hb2); (try clear hk); (try clear hi)))
                  go_ret
                  exact ⟨by first | rfl | (simp [errW_none, errW_some] <;> rfl) | (simp [*, errW_none, errW_some] <;> rfl), by repeat (first | (with_reducible first | exact HB.out | apply below_alloc | apply pw_below_drewN | apply below_drew1) | exact HB.out)⟩
                · rw [if_neg c14] at H
                  have c14b0 : (t104 == 0) = false := beq_eq_false_iff_ne.mpr c14
                  have c14b1 : (t104 != 0) = true := bne_iff_ne.mpr c14
                  obtain rfl := Option.some.inj H
                  go_enter Try.func5, Try.ntmps5
                  go_wp2_with (first | ((with_reducible refine gate_callee (f := 14) rfl ?_); refine goesL_ (some 9) rfl rfl Try.func14 (by kernel_rfl) rfl #[] rfl (by (try simp only [List.map_toArray, List.map_cons, List.map_nil]); first | done | rfl | (simp only [List.length_drop, List.length_take]; rfl)) ?_; (with_reducible refine (hatchwaylaw02_alive.calls k  true _ A2.out).mono ?_); rintro e w19 ⟨rfl, hb⟩; refine ⟨_, rfl, ?_⟩; have n0_ := Aside0.mk (below_step (by repeat (first | (with_reducible first | exact HB.out | apply below_alloc | apply pw_below_drewN | apply below_drew1) | exact HB.out)) hb); clear HB; have HB := n0_; clear n0_; (try clear hb); (try clear hb2); (try clear hk); (try clear hi)) | ((with_reducible refine gate_callee (f := 21) rfl ?_); refine goesL_ (some 16) rfl rfl Try.func21 (by kernel_rfl) rfl #[.string a0] rfl (by (try simp only [List.map_toArray, List.map_cons, List.map_nil]); first | done | rfl | (simp only [List.length_drop, List.length_take]; rfl)) ?_; (with_reducible refine (fixed_GetLittle.calls a0 t102 t103 _ A6.out).mono ?_); rintro e w20 ⟨rfl, hb⟩; refine ⟨_, rfl, ?_⟩; have n0_ := Aside0.mk (below_step (by repeat (first | (with_reducible first | exact HB.out | apply below_alloc | apply pw_below_drewN | apply below_drew1) | exact HB.out)) hb); clear HB; have HB := n0_; clear n0_; (try clear hb); (try clear hb2); (try clear hk); (try clear hi)) | ((with_reducible refine gate_callee (f := 22) rfl ?_); refine goesL_ (some 21) rfl rfl Try.func22 (by kernel_rfl) rfl #[.string a0] rfl (by (try simp only [List.map_toArray, List.map_cons, List.map_nil]); first | done | rfl | (simp only [List.length_drop, List.length_take]; rfl)) ?_; (with_reducible refine (fixed_GetBig.calls a0 t104 t105 _ A7.out).mono ?_); rintro e w21 ⟨rfl, hb⟩; refine ⟨_, rfl, ?_⟩; have n0_ := Aside0.mk (below_step (by repeat (first | (with_reducible first | exact HB.out | apply below_alloc | apply pw_below_drewN | apply below_drew1) | exact HB.out)) hb); clear HB; have HB := n0_; clear n0_; (try clear hb); (try clear hb2); (try clear hk); (try clear hi)) | ((with_reducible refine gate_callee (f := 18) rfl ?_); refine goesL_ (some 26) rfl rfl Try.func18 (by kernel_rfl) rfl #[.string a0] rfl (by (try simp only [List.map_toArray, List.map_cons, List.map_nil]); first | done | rfl | (simp only [List.length_drop, List.length_take]; rfl)) ?_; (with_reducible refine (fixed_GetLeast.calls a0 t106 t107 _ A8.out).mono ?_); rintro e w22 ⟨rfl, hb⟩; refine ⟨_, rfl, ?_⟩; have n0_ := Aside0.mk (below_step (by repeat (first | (with_reducible first | exact HB.out | apply below_alloc | apply pw_below_drewN | apply below_drew1) | exact HB.out)) hb); clear HB; have HB := n0_; clear n0_; (try clear hb); (try clear hb2); (try clear hk); (try clear hi)))
                  go_ret
                  exact ⟨by first | rfl | (simp [errW_none, errW_some] <;> rfl) | (simp [*, errW_none, errW_some] <;> rfl), by repeat (first | (with_reducible first | exact HB.out | apply below_alloc | apply pw_below_drewN | apply below_drew1) | exact HB.out)⟩
              · rw [if_neg c13] at H
                have c13b0 : (t102 == 0) = false := beq_eq_false_iff_ne.mpr c13
                have c13b1 : (t102 != 0) = true := bne_iff_ne.mpr c13
                obtain rfl := Option.some.inj H
                go_enter Try.func5, Try.ntmps5
                go_wp2_with (first | ((with_reducible refine gate_callee (f := 14) rfl ?_); refine goesL_ (some 9) rfl rfl Try.func14 (by kernel_rfl) rfl #[] rfl (by (try simp only [List.map_toArray, List.map_cons, List.map_nil]); first | done | rfl | (simp only [List.length_drop, List.length_take]; rfl)) ?_; (with_reducible refine (hatchwaylaw02_alive.calls k  true _ A2.out).mono ?_); rintro e w23 ⟨rfl, hb⟩; refine ⟨_, rfl, ?_⟩; have n0_ := Aside0.mk (below_step (by repeat (first | (with_reducible first | exact HB.out | apply below_alloc | apply pw_below_drewN | apply below_drew1) | exact HB.out)) hb); clear HB; have HB := n0_; clear n0_; (try clear hb); (try clear hb2); (try clear hk); (try clear hi)) | ((with_reducible refine gate_callee (f := 21) rfl ?_); refine goesL_ (some 16) rfl rfl Try.func21 (by kernel_rfl) rfl #[.string a0] rfl (by (try simp only [List.map_toArray, List.map_cons, List.map_nil]); first | done | rfl | (simp only [List.length_drop, List.length_take]; rfl)) ?_; (with_reducible refine (fixed_GetLittle.calls a0 t102 t103 _ A6.out).mono ?_); rintro e w24 ⟨rfl, hb⟩; refine ⟨_, rfl, ?_⟩; have n0_ := Aside0.mk (below_step (by repeat (first | (with_reducible first | exact HB.out | apply below_alloc | apply pw_below_drewN | apply below_drew1) | exact HB.out)) hb); clear HB; have HB := n0_; clear n0_; (try clear hb); (try clear hb2); (try clear hk); (try clear hi)) | ((with_reducible refine gate_callee (f := 22) rfl ?_); refine goesL_ (some 21) rfl rfl Try.func22 (by kernel_rfl) rfl #[.string a0] rfl (by (try simp only [List.map_toArray, List.map_cons, List.map_nil]); first | done | rfl | (simp only [List.length_drop, List.length_take]; rfl)) ?_; (with_reducible refine (fixed_GetBig.calls a0 t104 t105 _ A7.out).mono ?_); rintro e w25 ⟨rfl, hb⟩; refine ⟨_, rfl, ?_⟩; have n0_ := Aside0.mk (below_step (by repeat (first | (with_reducible first | exact HB.out | apply below_alloc | apply pw_below_drewN | apply below_drew1) | exact HB.out)) hb); clear HB; have HB := n0_; clear n0_; (try clear hb); (try clear hb2); (try clear hk); (try clear hi)) | ((with_reducible refine gate_callee (f := 18) rfl ?_); refine goesL_ (some 26) rfl rfl Try.func18 (by kernel_rfl) rfl #[.string a0] rfl (by (try simp only [List.map_toArray, List.map_cons, List.map_nil]); first | done | rfl | (simp only [List.length_drop, List.length_take]; rfl)) ?_; (with_reducible refine (fixed_GetLeast.calls a0 t106 t107 _ A8.out).mono ?_); rintro e w26 ⟨rfl, hb⟩; refine ⟨_, rfl, ?_⟩; have n0_ := Aside0.mk (below_step (by repeat (first | (with_reducible first | exact HB.out | apply below_alloc | apply pw_below_drewN | apply below_drew1) | exact HB.out)) hb); clear HB; have HB := n0_; clear n0_; (try clear hb); (try clear hb2); (try clear hk); (try clear hi)))
                go_ret
                exact ⟨by first | rfl | (simp [errW_none, errW_some] <;> rfl) | (simp [*, errW_none, errW_some] <;> rfl), by repeat (first | (with_reducible first | exact HB.out | apply below_alloc | apply pw_below_drewN | apply below_drew1) | exact HB.out)⟩
            · rw [if_neg c12] at H
              have c12b0 : (t107 == 5) = false := beq_eq_false_iff_ne.mpr c12
              have c12b1 : (t107 != 5) = true := bne_iff_ne.mpr c12
              obtain rfl := Option.some.inj H
              go_enter Try.func5, Try.ntmps5
              go_wp2_with (first | ((with_reducible refine gate_callee (f := 14) rfl ?_); refine goesL_ (some 9) rfl rfl Try.func14 (by kernel_rfl) rfl #[] rfl (by (try simp only [List.map_toArray, List.map_cons, List.map_nil]); first | done | rfl | (simp only [List.length_drop, List.length_take]; rfl)) ?_; (with_reducible refine (hatchwaylaw02_alive.calls k  true _ A2.out).mono ?_); rintro e w27 ⟨rfl, hb⟩; refine ⟨_, rfl, ?_⟩; have n0_ := Aside0.mk (below_step (by repeat (first | (with_reducible first | exact HB.out | apply below_alloc | apply pw_below_drewN | apply below_drew1) | exact HB.out)) hb); clear HB; have HB := n0_; clear n0_; (try clear hb); (try clear hb2); (try clear hk); (try clear hi)) | ((with_reducible refine gate_callee (f := 21) rfl ?_); refine goesL_ (some 16) rfl rfl Try.func21 (by kernel_rfl) rfl #[.string a0] rfl (by (try simp only [List.map_toArray, List.map_cons, List.map_nil]); first | done | rfl | (simp only [List.length_drop, List.length_take]; rfl)) ?_; (with_reducible refine (fixed_GetLittle.calls a0 t102 t103 _ A6.out).mono ?_); rintro e w28 ⟨rfl, hb⟩; refine ⟨_, rfl, ?_⟩; have n0_ := Aside0.mk (below_step (by repeat (first | (with_reducible first | exact HB.out | apply below_alloc | apply pw_below_drewN | apply below_drew1) | exact HB.out)) hb); clear HB; have HB := n0_; clear n0_; (try clear hb); (try clear hb2); (try clear hk); (try clear hi)) | ((with_reducible refine gate_callee (f := 22) rfl ?_); refine goesL_ (some 21) rfl rfl Try.func22 (by kernel_rfl) rfl #[.string a0] rfl (by (try simp only [List.map_toArray, List.map_cons, List.map_nil]); first | done | rfl | (simp only [List.length_drop, List.length_take]; rfl)) ?_; (with_reducible refine (fixed_GetBig.calls a0 t104 t105 _ A7.out).mono ?_); rintro e w29 ⟨rfl, hb⟩; refine ⟨_, rfl, ?_⟩; have n0_ := Aside0.mk (below_step (by repeat (first | (with_reducible first | exact HB.out | apply below_alloc | apply pw_below_drewN | apply below_drew1) | exact HB.out)) hb); clear HB; have HB := n0_; clear n0_; (try clear hb); (try clear hb2); (try clear hk); (try clear hi)) | ((with_reducible refine gate_callee (f := 18) rfl ?_); refine goesL_ (some 26) rfl rfl Try.func18 (by kernel_rfl) rfl #[.string a0] rfl (by (try simp only [List.map_toArray, List.map_cons, List.map_nil]); first | done | rfl | (simp only [List.length_drop, List.length_take]; rfl)) ?_; (with_reducible refine (fixed_GetLeast.calls a0 t106 t107 _ A8.out).mono ?_); rintro e w30 ⟨rfl, hb⟩; refine ⟨_, rfl, ?_⟩; have n0_ := Aside0.mk (below_step (by repeat (first | (with_reducible first | exact HB.out | apply below_alloc | apply pw_below_drewN | apply below_drew1) | exact HB.out)) hb); clear HB; have HB := n0_; clear n0_; (try clear hb); (try clear hb2); (try clear hk); (try clear hi)))
              go_ret
              exact ⟨by first | rfl | (simp [errW_none, errW_some] <;> rfl) | (simp [*, errW_none, errW_some] <;> rfl), by repeat (first | (with_reducible first | exact HB.out | apply below_alloc | apply pw_below_drewN | apply below_drew1) | exact HB.out)⟩
          · rw [if_neg c11] at H
            have c11b0 : (t105 == 5) = false := beq_eq_false_iff_ne.mpr c11
            have c11b1 : (t105 != 5) = true := bne_iff_ne.mpr c11
            obtain rfl := Option.some.inj H
            go_enter Try.func5, Try.ntmps5
            go_wp2_with (first | ((with_reducible refine gate_callee (f := 14) rfl ?_); refine goesL_ (some 9) rfl rfl Try.func14 (by kernel_rfl) rfl #[] rfl (by (try simp only [List.map_toArray, List.map_cons, List.map_nil]); first | done | rfl | (simp only [List.length_drop, List.length_take]; rfl)) ?_; (with_reducible refine (hatchwaylaw02_alive.calls k  true _ A2.out).mono ?_); rintro e w31 ⟨rfl, hb⟩; refine ⟨_, rfl, ?_⟩; have n0_ := Aside0.mk (below_step (by repeat (first | (with_reducible first | exact HB.out | apply below_alloc | apply pw_below_drewN | apply below_drew1) | exact HB.out)) hb); clear HB; have HB := n0_; clear n0_; (try clear hb); (try clear hb2); (try clear hk); (try clear hi)) | ((with_reducible refine gate_callee (f := 21) rfl ?_); refine goesL_ (some 16) rfl rfl Try.func21 (by kernel_rfl) rfl #[.string a0] rfl (by (try simp only [List.map_toArray, List.map_cons, List.map_nil]); first | done | rfl | (simp only [List.length_drop, List.length_take]; rfl)) ?_; (with_reducible refine (fixed_GetLittle.calls a0 t102 t103 _ A6.out).mono ?_); rintro e w32 ⟨rfl, hb⟩; refine ⟨_, rfl, ?_⟩; have n0_ := Aside0.mk (below_step (by repeat (first | (with_reducible first | exact HB.out | apply below_alloc | apply pw_below_drewN | apply below_drew1) | exact HB.out)) hb); clear HB; have HB := n0_; clear n0_; (try clear hb); (try clear hb2); (try clear hk); (try clear hi)) | ((with_reducible refine gate_callee (f := 22) rfl ?_); refine goesL_ (some 21) rfl rfl Try.func22 (by kernel_rfl) rfl #[.string a0] rfl (by (try simp only [List.map_toArray, List.map_cons, List.map_nil]); first | done | rfl | (simp only [List.length_drop, List.length_take]; rfl)) ?_; (with_reducible refine (fixed_GetBig.calls a0 t104 t105 _ A7.out).mono ?_); rintro e w33 ⟨rfl, hb⟩; refine ⟨_, rfl, ?_⟩; have n0_ := Aside0.mk (below_step (by repeat (first | (with_reducible first | exact HB.out | apply below_alloc | apply pw_below_drewN | apply below_drew1) | exact HB.out)) hb); clear HB; have HB := n0_; clear n0_; (try clear hb); (try clear hb2); (try clear hk); (try clear hi)) | ((with_reducible refine gate_callee (f := 18) rfl ?_); refine goesL_ (some 26) rfl rfl Try.func18 (by kernel_rfl) rfl #[.string a0] rfl (by (try simp only [List.map_toArray, List.map_cons, List.map_nil]); first | done | rfl | (simp only [List.length_drop, List.length_take]; rfl)) ?_; (with_reducible refine (fixed_GetLeast.calls a0 t106 t107 _ A8.out).mono ?_); rintro e w34 ⟨rfl, hb⟩; refine ⟨_, rfl, ?_⟩; have n0_ := Aside0.mk (below_step (by repeat (first | (with_reducible first | exact HB.out | apply below_alloc | apply pw_below_drewN | apply below_drew1) | exact HB.out)) hb); clear HB; have HB := n0_; clear n0_; (try clear hb); (try clear hb2); (try clear hk); (try clear hi)))
            go_ret
            exact ⟨by first | rfl | (simp [errW_none, errW_some] <;> rfl) | (simp [*, errW_none, errW_some] <;> rfl), by repeat (first | (with_reducible first | exact HB.out | apply below_alloc | apply pw_below_drewN | apply below_drew1) | exact HB.out)⟩
        · rw [if_neg c10] at H
          have c10b0 : (t103 == 5) = false := beq_eq_false_iff_ne.mpr c10
          have c10b1 : (t103 != 5) = true := bne_iff_ne.mpr c10
          obtain rfl := Option.some.inj H
          go_enter Try.func5, Try.ntmps5
          go_wp2_with (first | ((with_reducible refine gate_callee (f := 14) rfl ?_); refine goesL_ (some 9) rfl rfl Try.func14 (by kernel_rfl) rfl #[] rfl (by (try simp only [List.map_toArray, List.map_cons, List.map_nil]); first | done | rfl | (simp only [List.length_drop, List.length_take]; rfl)) ?_; (with_reducible refine (hatchwaylaw02_alive.calls k  true _ A2.out).mono ?_); rintro e w35 ⟨rfl, hb⟩; refine ⟨_, rfl, ?_⟩; have n0_ := Aside0.mk (below_step (by repeat (first | (with_reducible first | exact HB.out | apply below_alloc | apply pw_below_drewN | apply below_drew1) | exact HB.out)) hb); clear HB; have HB := n0_; clear n0_; (try clear hb); (try clear hb2); (try clear hk); (try clear hi)) | ((with_reducible refine gate_callee (f := 21) rfl ?_); refine goesL_ (some 16) rfl rfl Try.func21 (by kernel_rfl) rfl #[.string a0] rfl (by (try simp only [List.map_toArray, List.map_cons, List.map_nil]); first | done | rfl | (simp only [List.length_drop, List.length_take]; rfl)) ?_; (with_reducible refine (fixed_GetLittle.calls a0 t102 t103 _ A6.out).mono ?_); rintro e w36 ⟨rfl, hb⟩; refine ⟨_, rfl, ?_⟩; have n0_ := Aside0.mk (below_step (by repeat (first | (with_reducible first | exact HB.out | apply below_alloc | apply pw_below_drewN | apply below_drew1) | exact HB.out)) hb); clear HB; have HB := n0_; clear n0_; (try clear hb); (try clear hb2); (try clear hk); (try clear hi)) | ((with_reducible refine gate_callee (f := 22) rfl ?_); refine goesL_ (some 21) rfl rfl Try.func22 (by kernel_rfl) rfl #[.string a0] rfl (by (try simp only [List.map_toArray, List.map_cons, List.map_nil]); first | done | rfl | (simp only [List.length_drop, List.length_take]; rfl)) ?_; (with_reducible refine (fixed_GetBig.calls a0 t104 t105 _ A7.out).mono ?_); rintro e w37 ⟨rfl, hb⟩; refine ⟨_, rfl, ?_⟩; have n0_ := Aside0.mk (below_step (by repeat (first | (with_reducible first | exact HB.out | apply below_alloc | apply pw_below_drewN | apply below_drew1) | exact HB.out)) hb); clear HB; have HB := n0_; clear n0_; (try clear hb); (try clear hb2); (try clear hk); (try clear hi)) | ((with_reducible refine gate_callee (f := 18) rfl ?_); refine goesL_ (some 26) rfl rfl Try.func18 (by kernel_rfl) rfl #[.string a0] rfl (by (try simp only [List.map_toArray, List.map_cons, List.map_nil]); first | done | rfl | (simp only [List.length_drop, List.length_take]; rfl)) ?_; (with_reducible refine (fixed_GetLeast.calls a0 t106 t107 _ A8.out).mono ?_); rintro e w38 ⟨rfl, hb⟩; refine ⟨_, rfl, ?_⟩; have n0_ := Aside0.mk (below_step (by repeat (first | (with_reducible first | exact HB.out | apply below_alloc | apply pw_below_drewN | apply below_drew1) | exact HB.out)) hb); clear HB; have HB := n0_; clear n0_; (try clear hb); (try clear hb2); (try clear hk); (try clear hi)))
          go_ret
          exact ⟨by first | rfl | (simp [errW_none, errW_some] <;> rfl) | (simp [*, errW_none, errW_some] <;> rfl), by repeat (first | (with_reducible first | exact HB.out | apply below_alloc | apply pw_below_drewN | apply below_drew1) | exact HB.out)⟩
      · rw [if_neg c9] at H
        have c9b0 : decide (8 < (a0.size : Int)) = false := decide_eq_false c9
        have c9b1 : decide (8 < a0.size) = false := decide_eq_false (by omega)
        clear c9
        by_cases c39 : a0.toList = ([] : List UInt8)
        · rw [if_pos c39] at H
          have c39b0 : (a0.toList == ([] : List UInt8)) = true := beq_iff_eq.mpr c39
          have c39b1 : (a0.toList != ([] : List UInt8)) = false := bne_eq_false_iff_eq.mpr c39
          clear c39
          by_cases c40 : t103 = 1
          · rw [if_pos c40] at H
            have c40b0 : (t103 == 1) = true := beq_iff_eq.mpr c40
            have c40b1 : (t103 != 1) = false := bne_eq_false_iff_eq.mpr c40
            clear c40
            by_cases c41 : t105 = 1
            · rw [if_pos c41] at H
              have c41b0 : (t105 == 1) = true := beq_iff_eq.mpr c41
              have c41b1 : (t105 != 1) = false := bne_eq_false_iff_eq.mpr c41
              clear c41
              by_cases c42 : t102 = 0
              · rw [if_pos c42] at H
                have c42b0 : (t102 == 0) = true := beq_iff_eq.mpr c42
                have c42b1 : (t102 != 0) = false := bne_eq_false_iff_eq.mpr c42
                clear c42
                by_cases c43 : t104 = 0
                · rw [if_pos c43] at H
                  have c43b0 : (t104 == 0) = true := beq_iff_eq.mpr c43
                  have c43b1 : (t104 != 0) = false := bne_eq_false_iff_eq.mpr c43
                  clear c43
                  by_cases c44 : t107 = 0
                  · rw [if_pos c44] at H
                    have c44b0 : (t107 == 0) = true := beq_iff_eq.mpr c44
                    have c44b1 : (t107 != 0) = false := bne_eq_false_iff_eq.mpr c44
                    clear c44
                    obtain rfl := Option.some.inj H
                    go_enter Try.func5, Try.ntmps5
                    go_wp2_with (first | ((with_reducible refine gate_callee (f := 14) rfl ?_); refine goesL_ (some 9) rfl rfl Try.func14 (by kernel_rfl) rfl #[] rfl (by (try simp only [List.map_toArray, List.map_cons, List.map_nil]); first | done | rfl | (simp only [List.length_drop, List.length_take]; rfl)) ?_; (with_reducible refine (hatchwaylaw02_alive.calls k  true _ A2.out).mono ?_); rintro e w45 ⟨rfl, hb⟩; refine ⟨_, rfl, ?_⟩; have n0_ := Aside0.mk (below_step (by repeat (first | (with_reducible first | exact HB.out | apply below_alloc | apply pw_below_drewN | apply below_drew1) | exact HB.out)) hb); clear HB; have HB := n0_; clear n0_; (try clear hb); (try clear hb2); (try clear hk); (try clear hi)) | ((with_reducible refine gate_callee (f := 21) rfl ?_); refine goesL_ (some 16) rfl rfl Try.func21 (by kernel_rfl) rfl #[.string a0] rfl (by (try simp only [List.map_toArray, List.map_cons, List.map_nil]); first | done | rfl | (simp only [List.length_drop, List.length_take]; rfl)) ?_; (with_reducible refine (fixed_GetLittle.calls a0 t102 t103 _ A6.out).mono ?_); rintro e w46 ⟨rfl, hb⟩; refine ⟨_, rfl, ?_⟩; have n0_ := Aside0.mk (below_step (by repeat (first | (with_reducible first | exact HB.out | apply below_alloc | apply pw_below_drewN | apply below_drew1) | exact HB.out)) hb); clear HB; have HB := n0_; clear n0_; (try clear hb); (try clear hb2); (try clear hk); (try clear hi)) | ((with_reducible refine gate_callee (f := 22) rfl ?_); refine goesL_ (some 21) rfl rfl Try.func22 (by kernel_rfl) rfl #[.string a0] rfl (by (try simp only [List.map_toArray, List.map_cons, List.map_nil]); first | done | rfl | (simp only [List.length_drop, List.length_take]; rfl)) ?_; (with_reducible refine (fixed_GetBig.calls a0 t104 t105 _ A7.out).mono ?_); rintro e w47 ⟨rfl, hb⟩; refine ⟨_, rfl, ?_⟩; have n0_ := Aside0.mk (below_step (by repeat (first | (with_reducible first | exact HB.out | apply below_alloc | apply pw_below_drewN | apply below_drew1) | exact HB.out)) hb); clear HB; have HB := n0_; clear n0_; (try clear hb); (try clear hb2); (try clear hk); (try clear hi)) | ((with_reducible refine gate_callee (f := 18) rfl ?_); refine goesL_ (some 26) rfl rfl Try.func18 (by kernel_rfl) rfl #[.string a0] rfl (by (try simp only [List.map_toArray, List.map_cons, List.map_nil]); first | done | rfl | (simp only [List.length_drop, List.length_take]; rfl)) ?_; (with_reducible refine (fixed_GetLeast.calls a0 t106 t107 _ A8.out).mono ?_); rintro e w48 ⟨rfl, hb⟩; refine ⟨_, rfl, ?_⟩; have n0_ := Aside0.mk (below_step (by repeat (first | (with_reducible first | exact HB.out | apply below_alloc | apply pw_below_drewN | apply below_drew1) | exact HB.out)) hb); clear HB; have HB := n0_; clear n0_; (try clear hb); (try clear hb2); (try clear hk); (try clear hi)))
                    go_ret
                    exact ⟨by first | rfl | (simp [errW_none, errW_some] <;> rfl) | (simp [*, errW_none, errW_some] <;> rfl), by repeat (first | (with_reducible first | exact HB.out | apply below_alloc | apply pw_below_drewN | apply below_drew1) | exact HB.out)⟩
                  · rw [if_neg c44] at H
                    have c44b0 : (t107 == 0) = false := beq_eq_false_iff_ne.mpr c44
                    have c44b1 : (t107 != 0) = true := bne_iff_ne.mpr c44
                    obtain rfl := Option.some.inj H
                    go_enter Try.func5, Try.ntmps5
                    go_wp2_with (first | ((with_reducible refine gate_callee (f := 14) rfl ?_); refine goesL_ (some 9) rfl rfl Try.func14 (by kernel_rfl) rfl #[] rfl (by (try simp only [List.map_toArray, List.map_cons, List.map_nil]); first | done | rfl | (simp only [List.length_drop, List.length_take]; rfl)) ?_; (with_reducible refine (hatchwaylaw02_alive.calls k  true _ A2.out).mono ?_); rintro e w49 ⟨rfl, hb⟩; refine ⟨_, rfl, ?_⟩; have n0_ := Aside0.mk (below_step (by repeat (first | (with_reducible first | exact HB.out | apply below_alloc | apply pw_below_drewN | apply below_drew1) | exact HB.out)) hb); clear HB; have HB := n0_; clear n0_; (try clear hb); (try clear hb2); (try clear hk); (try clear hi)) | ((with_reducible refine gate_callee (f := 21) rfl ?_); refine goesL_ (some 16) rfl rfl Try.func21 (by kernel_rfl) rfl #[.string a0] rfl (by (try simp only [List.map_toArray, List.map_cons, List.map_nil]); first | done | rfl | (simp only [List.length_drop, List.length_take]; rfl)) ?_; (with_reducible refine (fixed_GetLittle.calls a0 t102 t103 _ A6.out).mono ?_); rintro e w50 ⟨rfl, hb⟩; refine ⟨_, rfl, ?_⟩; have n0_ := Aside0.mk (below_step (by repeat (first | (with_reducible first | exact HB.out | apply below_alloc | apply pw_below_drewN | apply below_drew1) | exact HB.out)) hb); clear HB; have HB := n0_; clear n0_; (try clear hb); (try clear hb2); (try clear hk); (try clear hi)) | ((with_reducible refine gate_callee (f := 22) rfl ?_); refine goesL_ (some 21) rfl rfl Try.func22 (by kernel_rfl) rfl #[.string a0] rfl (by (try simp only [List.map_toArray, List.map_cons, List.map_nil]); first | done | rfl | (simp only [List.length_drop, List.length_take]; rfl)) ?_; (with_reducible refine (fixed_GetBig.calls a0 t104 t105 _ A7.out).mono ?_); rintro e w51 ⟨rfl, hb⟩; refine ⟨_, rfl, ?_⟩; have n0_ := Aside0.mk (below_step (by repeat (first | (with_reducible first | exact HB.out | apply below_alloc | apply pw_below_drewN | apply below_drew1) | exact HB.out)) hb); clear HB; have HB := n0_; clear n0_; (try clear hb); (try clear hb2); (try clear hk); (try clear hi)) | ((with_reducible refine gate_callee (f := 18) rfl ?_); refine goesL_ (some 26) rfl rfl Try.func18 (by kernel_rfl) rfl #[.string a0] rfl (by (try simp only [List.map_toArray, List.map_cons, List.map_nil]); first | done | rfl | (simp only [List.length_drop, List.length_take]; rfl)) ?_; (with_reducible refine (fixed_GetLeast.calls a0 t106 t107 _ A8.out).mono ?_); rintro e w52 ⟨rfl, hb⟩; refine ⟨_, rfl, ?_⟩; have n0_ := Aside0.mk (below_step (by repeat (first | (with_reducible first | exact HB.out | apply below_alloc | apply pw_below_drewN | apply below_drew1) | exact HB.out)) hb); clear HB; have HB := n0_; clear n0_; (try clear hb); (try clear hb2); (try clear hk); (try clear hi)))
                    go_ret
                    exact ⟨by first | rfl | (simp [errW_none, errW_some] <;> rfl) | (simp [*, errW_none, errW_some] <;> rfl), by repeat (first | (with_reducible first | exact HB.out | apply below_alloc | apply pw_below_drewN | apply below_drew1) | exact HB.out)⟩
                · rw [if_neg c43] at H
                  have c43b0 : (t104 == 0) = false := beq_eq_false_iff_ne.mpr c43
                  have c43b1 : (t104 != 0) = true := bne_iff_ne.mpr c43
                  obtain rfl := Option.some.inj H
                  go_enter Try.func5, Try.ntmps5
                  go_wp2_with (first | ((with_reducible refine gate_callee (f := 14) rfl ?_); refine goesL_ (some 9) rfl rfl Try.func14 (by kernel_rfl) rfl #[] rfl (by (try simp only [List.map_toArray, List.map_cons, List.map_nil]); first | done | rfl | (simp only [List.length_drop, List.length_take]; rfl)) ?_; (with_reducible refine (hatchwaylaw02_alive.calls k  true _ A2.out).mono ?_); rintro e w53 ⟨rfl, hb⟩; refine ⟨_, rfl, ?_⟩; have n0_ := Aside0.mk (below_step (by repeat (first | (with_reducible first | exact HB.out | apply below_alloc | apply pw_below_drewN | apply below_drew1) | exact HB.out)) hb); clear HB; have HB := n0_; clear n0_; (try clear hb); (try clear hb2); (try clear hk); (try clear hi)) | ((with_reducible refine gate_callee (f := 21) rfl ?_); refine goesL_ (some 16) rfl rfl Try.func21 (by kernel_rfl) rfl #[.string a0] rfl (by (try simp only [List.map_toArray, List.map_cons, List.map_nil]); first | done | rfl | (simp only [List.length_drop, List.length_take]; rfl)) ?_; (with_reducible refine (fixed_GetLittle.calls a0 t102 t103 _ A6.out).mono ?_); rintro e w54 ⟨rfl, hb⟩; refine ⟨_, rfl, ?_⟩; have n0_ := Aside0.mk (below_step (by repeat (first | (with_reducible first | exact HB.out | apply below_alloc | apply pw_below_drewN | apply below_drew1) | exact HB.out)) hb); clear HB; have HB := n0_; clear n0_; (try clear hb); (try clear hb2); (try clear hk); (try clear hi)) | ((with_reducible refine gate_callee (f := 22) rfl ?_); refine goesL_ (some 21) rfl rfl Try.func22 (by kernel_rfl) rfl #[.string a0] rfl (by (try simp only [List.map_toArray, List.map_cons, List.map_nil]); first | done | rfl | (simp only [List.length_drop, List.length_take]; rfl)) ?_; (with_reducible refine (fixed_GetBig.calls a0 t104 t105 _ A7.out).mono ?_); rintro e w55 ⟨rfl, hb⟩; refine ⟨_, rfl, ?_⟩; have n0_ := Aside0.mk (below_step (by repeat (first | (with_reducible first | exact HB.out | apply below_alloc | apply pw_below_drewN | apply below_drew1) | exact HB.out)) hb); clear HB; have HB := n0_; clear n0_; (try clear hb); (try clear hb2); (try clear hk); (try clear hi)) | ((with_reducible refine gate_callee (f := 18) rfl ?_); refine goesL_ (some 26) rfl rfl Try.func18 (by kernel_rfl) rfl #[.string a0] rfl (by (try simp only [List.map_toArray, List.map_cons, List.map_nil]); first | done | rfl | (simp only [List.length_drop, List.length_take]; rfl)) ?_; (with_reducible refine (fixed_GetLeast.calls a0 t106 t107 _ A8.out).mono ?_); rintro e w56 ⟨rfl, hb⟩; refine ⟨_, rfl, ?_⟩; have n0_ := Aside0.mk (below_step (by repeat (first | (with_reducible first | exact HB.out | apply below_alloc | apply pw_below_drewN | apply below_drew1) | exact HB.out)) hb); clear HB; have HB := n0_; clear n0_; (try clear hb); (try clear hb2); (try clear hk); (try clear hi)))
                  go_ret
                  exact ⟨by first | rfl | (simp [errW_none, errW_some] <;> rfl) | (simp [*, errW_none, errW_some] <;> rfl), by repeat (first | (with_reducible first | exact HB.out | apply below_alloc | apply pw_below_drewN | apply below_drew1) | exact HB.out)⟩
              · rw [if_neg c42] at H
                have c42b0 : (t102 == 0) = false := beq_eq_false_iff_ne.mpr c42
                have c42b1 : (t102 != 0) = true := bne_iff_ne.mpr c42
                obtain rfl := Option.some.inj H
                go_enter Try.func5, Try.ntmps5
                go_wp2_with (first | ((with_reducible refine gate_callee (f := 14) rfl ?_); refine goesL_ (some 9) rfl rfl Try.func14 (by kernel_rfl) rfl #[] rfl (by (try simp only [List.map_toArray, List.map_cons, List.map_nil]); first | done | rfl | (simp only [List.length_drop, List.length_take]; rfl)) ?_; (with_reducible refine (hatchwaylaw02_alive.calls k  true _ A2.out).mono ?_); rintro e w57 ⟨rfl, hb⟩; refine ⟨_, rfl, ?_⟩; have n0_ := Aside0.mk (below_step (by repeat (first | (with_reducible first | exact HB.out | apply below_alloc | apply pw_below_drewN | apply below_drew1) | exact HB.out)) hb); clear HB; have HB := n0_; clear n0_; (try clear hb); (try clear hb2); (try clear hk); (try clear hi)) | ((with_reducible refine gate_callee (f := 21) rfl ?_); refine goesL_ (some 16) rfl rfl Try.func21 (by kernel_rfl) rfl #[.string a0] rfl (by (try simp only [List.map_toArray, List.map_cons, List.map_nil]); first | done | rfl | (simp only [List.length_drop, List.length_take]; rfl)) ?_; (with_reducible refine (fixed_GetLittle.calls a0 t102 t103 _ A6.out).mono ?_); rintro e w58 ⟨rfl, hb⟩; refine ⟨_, rfl, ?_⟩; have n0_ := Aside0.mk (below_step (by repeat (first | (with_reducible first | exact HB.out | apply below_alloc | apply pw_below_drewN | apply below_drew1) | exact HB.out)) hb); clear HB; have HB := n0_; clear n0_; (try clear hb); (try clear hb2); (try clear hk); (try clear hi)) | ((with_reducible refine gate_callee (f := 22) rfl ?_); refine goesL_ (some 21) rfl rfl Try.func22 (by kernel_rfl) rfl #[.string a0] rfl (by (try simp only [List.map_toArray, List.map_cons, List.map_nil]); first | done | rfl | (simp only [List.length_drop, List.length_take]; rfl)) ?_; (with_reducible refine (fixed_GetBig.calls a0 t104 t105 _ A7.out).mono ?_); rintro e w59 ⟨rfl, hb⟩; refine ⟨_, rfl, ?_⟩; have n0_ := Aside0.mk (below_step (by repeat (first | (with_reducible first | exact HB.out | apply below_alloc | apply pw_below_drewN | apply below_drew1) | exact HB.out)) hb); clear HB; have HB := n0_; clear n0_; (try clear hb); (try clear hb2); (try clear hk); (try clear hi)) | ((with_reducible refine gate_callee (f := 18) rfl ?_); refine goesL_ (some 26) rfl rfl Try.func18 (by kernel_rfl) rfl #[.string a0] rfl (by (try simp only [List.map_toArray, List.map_cons, List.map_nil]); first | done | rfl | (simp only [List.length_drop, List.length_take]; rfl)) ?_; (with_reducible refine (fixed_GetLeast.calls a0 t106 t107 _ A8.out).mono ?_); rintro e w60 ⟨rfl, hb⟩; refine ⟨_, rfl, ?_⟩; have n0_ := Aside0.mk (below_step (by repeat (first | (with_reducible first | exact HB.out | apply below_alloc | apply pw_below_drewN | apply below_drew1) | exact HB.out)) hb); clear HB; have HB := n0_; clear n0_; (try clear hb); (try clear hb2); (try clear hk); (try clear hi)))
                go_ret
                exact ⟨by first | rfl | (simp [errW_none, errW_some] <;> rfl) | (simp [*, errW_none, errW_some] <;> rfl), by repeat (first | (with_reducible first | exact HB.out | apply below_alloc | apply pw_below_drewN | apply below_drew1) | exact HB.out)⟩
            · rw [if_neg c41] at H
              have c41b0 : (t105 == 1) = false := beq_eq_false_iff_ne.mpr c41
              have c41b1 : (t105 != 1) = true := bne_iff_ne.mpr c41
              obtain rfl := Option.some.inj H
              go_enter Try.func5, Try.ntmps5
              go_wp2_with (first | ((with_reducible refine gate_callee (f := 14) rfl ?_); refine goesL_ (some 9) rfl rfl Try.func14 (by kernel_rfl) rfl #[] rfl (by (try simp only [List.map_toArray, List.map_cons, List.map_nil]); first | done | rfl | (simp only [List.length_drop, List.length_take]; rfl)) ?_; (with_reducible refine (hatchwaylaw02_alive.calls k  true _ A2.out).mono ?_); rintro e w61 ⟨rfl, hb⟩; refine ⟨_, rfl, ?_⟩; have n0_ := Aside0.mk (below_step (by repeat (first | (with_reducible first | exact HB.out | apply below_alloc | apply pw_below_drewN | apply below_drew1) | exact HB.out)) hb); clear HB; have HB := n0_; clear n0_; (try clear hb); (try clear hb2); (try clear hk); (try clear hi)) | ((with_reducible refine gate_callee (f := 21) rfl ?_); refine goesL_ (some 16) rfl rfl Try.func21 (by kernel_rfl) rfl #[.string a0] rfl (by (try simp only [List.map_toArray, List.map_cons, List.map_nil]); first | done | rfl | (simp only [List.length_drop, List.length_take]; rfl)) ?_; (with_reducible refine (fixed_GetLittle.calls a0 t102 t103 _ A6.out).mono ?_); rintro e w62 ⟨rfl, hb⟩; refine ⟨_, rfl, ?_⟩; have n0_ := Aside0.mk (below_step (by repeat (first | (with_reducible first | exact HB.out | apply below_alloc | apply pw_below_drewN | apply below_drew1) | exact HB.out)) hb); clear HB; have HB := n0_; clear n0_; (try clear hb); (try clear hb2); (try clear hk); (try clear hi)) | ((with_reducible refine gate_callee (f := 22) rfl ?_); refine goesL_ (some 21) rfl rfl Try.func22 (by kernel_rfl) rfl #[.string a0] rfl (by (try simp only [List.map_toArray, List.map_cons, List.map_nil]); first | done | rfl | (simp only [List.length_drop, List.length_take]; rfl)) ?_; (with_reducible refine (fixed_GetBig.calls a0 t104 t105 _ A7.out).mono ?_); rintro e w63 ⟨rfl, hb⟩; refine ⟨_, rfl, ?_⟩; have n0_ := Aside0.mk (below_step (by repeat (first | (with_reducible first | exact HB.out | apply below_alloc | apply pw_below_drewN | apply below_drew1) | exact HB.out)) hb); clear HB; have HB := n0_; clear n0_; (try clear hb); (try clear hb2); (try clear hk); (try clear hi)) | ((with_reducible refine gate_callee (f := 18) rfl ?_); refine goesL_ (some 26) rfl rfl Try.func18 (by kernel_rfl) rfl #[.string a0] rfl (by (try simp only [List.map_toArray, List.map_cons, List.map_nil]); first | done | rfl | (simp only [List.length_drop, List.length_take]; rfl)) ?_; (with_reducible refine (fixed_GetLeast.calls a0 t106 t107 _ A8.out).mono ?_); rintro e w64 ⟨rfl, hb⟩; refine ⟨_, rfl, ?_⟩; have n0_ := Aside0.mk (below_step (by repeat (first | (with_reducible first | exact HB.out | apply below_alloc | apply pw_below_drewN | apply below_drew1) | exact HB.out)) hb); clear HB; have HB := n0_; clear n0_; (try clear hb); (try clear hb2); (try clear hk); (try clear hi)))
              go_ret
              exact ⟨by first | rfl | (simp [errW_none, errW_some] <;> rfl) | (simp [*, errW_none, errW_some] <;> rfl), by repeat (first | (with_reducible first | exact HB.out | apply below_alloc | apply pw_below_drewN | apply below_drew1) | exact HB.out)⟩
          · rw [if_neg c40] at H
            have c40b0 : (t103 == 1) = false := beq_eq_false_iff_ne.mpr c40
            have c40b1 : (t103 != 1) = true := bne_iff_ne.mpr c40
            obtain rfl := Option.some.inj H
            go_enter Try.func5, Try.ntmps5
            go_wp2_with (first | ((with_reducible refine gate_callee (f := 14) rfl ?_); refine goesL_ (some 9) rfl rfl Try.func14 (by kernel_rfl) rfl #[] rfl (by (try simp only [List.map_toArray, List.map_cons, List.map_nil]); first | done | rfl | (simp only [List.length_drop, List.length_take]; rfl)) ?_; (with_reducible refine (hatchwaylaw02_alive.calls k  true _ A2.out).mono ?_); rintro e w65 ⟨rfl, hb⟩; refine ⟨_, rfl, ?_⟩; have n0_ := Aside0.mk (below_step (by repeat (first | (with_reducible first | exact HB.out | apply below_alloc | apply pw_below_drewN | apply below_drew1) | exact HB.out)) hb); clear HB; have HB := n0_; clear n0_; (try clear hb); (try clear hb2); (try clear hk); (try clear hi)) | ((with_reducible refine gate_callee (f := 21) rfl ?_); refine goesL_ (some 16) rfl rfl Try.func21 (by kernel_rfl) rfl #[.string a0] rfl (by (try simp only [List.map_toArray, List.map_cons, List.map_nil]); first | done | rfl | (simp only [List.length_drop, List.length_take]; rfl)) ?_; (with_reducible refine (fixed_GetLittle.calls a0 t102 t103 _ A6.out).mono ?_); rintro e w66 ⟨rfl, hb⟩; refine ⟨_, rfl, ?_⟩; have n0_ := Aside0.mk (below_step (by repeat (first | (with_reducible first | exact HB.out | apply below_alloc | apply pw_below_drewN | apply below_drew1) | exact HB.out)) hb); clear HB; have HB := n0_; clear n0_; (try clear hb); (try clear hb2); (try clear hk); (try clear hi)) | ((with_reducible refine gate_callee (f := 22) rfl ?_); refine goesL_ (some 21) rfl rfl Try.func22 (by kernel_rfl) rfl #[.string a0] rfl (by (try simp only [List.map_toArray, List.map_cons, List.map_nil]); first | done | rfl | (simp only [List.length_drop, List.length_take]; rfl)) ?_; (with_reducible refine (fixed_GetBig.calls a0 t104 t105 _ A7.out).mono ?_); rintro e w67 ⟨rfl, hb⟩; refine ⟨_, rfl, ?_⟩; have n0_ := Aside0.mk (below_step (by repeat (first | (with_reducible first | exact HB.out | apply below_alloc | apply pw_below_drewN | apply below_drew1) | exact HB.out)) hb); clear HB; have HB := n0_; clear n0_; (try clear hb); (try clear hb2); (try clear hk); (try clear hi)) | ((with_reducible refine gate_callee (f := 18) rfl ?_); refine goesL_ (some 26) rfl rfl Try.func18 (by kernel_rfl) rfl #[.string a0] rfl (by (try simp only [List.map_toArray, List.map_cons, List.map_nil]); first | done | rfl | (simp only [List.length_drop, List.length_take]; rfl)) ?_; (with_reducible refine (fixed_GetLeast.calls a0 t106 t107 _ A8.out).mono ?_); rintro e w68 ⟨rfl, hb⟩; refine ⟨_, rfl, ?_⟩; have n0_ := Aside0.mk (below_step (by repeat (first | (with_reducible first | exact HB.out | apply below_alloc | apply pw_below_drewN | apply below_drew1) | exact HB.out)) hb); clear HB; have HB := n0_; clear n0_; (try clear hb); (try clear hb2); (try clear hk); (try clear hi)))
            go_ret
            exact ⟨by first | rfl | (simp [errW_none, errW_some] <;> rfl) | (simp [*, errW_none, errW_some] <;> rfl), by repeat (first | (with_reducible first | exact HB.out | apply below_alloc | apply pw_below_drewN | apply below_drew1) | exact HB.out)⟩
        · rw [if_neg c39] at H
          have c39b0 : (a0.toList == ([] : List UInt8)) = false := beq_eq_false_iff_ne.mpr c39
          have c39b1 : (a0.toList != ([] : List UInt8)) = true := bne_iff_ne.mpr c39
          have HC69 := Aside0.mk H
          clear H
          go_enter Try.func5, Try.ntmps5
          go_upto_region 12 with (first | ((with_reducible refine gate_callee (f := 14) rfl ?_); refine goesL_ (some 9) rfl rfl Try.func14 (by kernel_rfl) rfl #[] rfl (by (try simp only [List.map_toArray, List.map_cons, List.map_nil]); first | done | rfl | (simp only [List.length_drop, List.length_take]; rfl)) ?_; (with_reducible refine (hatchwaylaw02_alive.calls k  true _ A2.out).mono ?_); rintro e w70 ⟨rfl, hb⟩; refine ⟨_, rfl, ?_⟩; have n0_ := Aside0.mk (below_step (by repeat (first | (with_reducible first | exact HB.out | apply below_alloc | apply pw_below_drewN | apply below_drew1) | exact HB.out)) hb); clear HB; have HB := n0_; clear n0_; (try clear hb); (try clear hb2); (try clear hk); (try clear hi)) | ((with_reducible refine gate_callee (f := 21) rfl ?_); refine goesL_ (some 16) rfl rfl Try.func21 (by kernel_rfl) rfl #[.string a0] rfl (by (try simp only [List.map_toArray, List.map_cons, List.map_nil]); first | done | rfl | (simp only [List.length_drop, List.length_take]; rfl)) ?_; (with_reducible refine (fixed_GetLittle.calls a0 t102 t103 _ A6.out).mono ?_); rintro e w71 ⟨rfl, hb⟩; refine ⟨_, rfl, ?_⟩; have n0_ := Aside0.mk (below_step (by repeat (first | (with_reducible first | exact HB.out | apply below_alloc | apply pw_below_drewN | apply below_drew1) | exact HB.out)) hb); clear HB; have HB := n0_; clear n0_; (try clear hb); (try clear hb2); (try clear hk); (try clear hi)) | ((with_reducible refine gate_callee (f := 22) rfl ?_); refine goesL_ (some 21) rfl rfl Try.func22 (by kernel_rfl) rfl #[.string a0] rfl (by (try simp only [List.map_toArray, List.map_cons, List.map_nil]); first | done | rfl | (simp only [List.length_drop, List.length_take]; rfl)) ?_; (with_reducible refine (fixed_GetBig.calls a0 t104 t105 _ A7.out).mono ?_); rintro e w72 ⟨rfl, hb⟩; refine ⟨_, rfl, ?_⟩; have n0_ := Aside0.mk (below_step (by repeat (first | (with_reducible first | exact HB.out | apply below_alloc | apply pw_below_drewN | apply below_drew1) | exact HB.out)) hb); clear HB; have HB := n0_; clear n0_; (try clear hb); (try clear hb2); (try clear hk); (try clear hi)) | ((with_reducible refine gate_callee (f := 18) rfl ?_); refine goesL_ (some 26) rfl rfl Try.func18 (by kernel_rfl) rfl #[.string a0] rfl (by (try simp only [List.map_toArray, List.map_cons, List.map_nil]); first | done | rfl | (simp only [List.length_drop, List.length_take]; rfl)) ?_; (with_reducible refine (fixed_GetLeast.calls a0 t106 t107 _ A8.out).mono ?_); rintro e w73 ⟨rfl, hb⟩; refine ⟨_, rfl, ?_⟩; have n0_ := Aside0.mk (below_step (by repeat (first | (with_reducible first | exact HB.out | apply below_alloc | apply pw_below_drewN | apply below_drew1) | exact HB.out)) hb); clear HB; have HB := n0_; clear n0_; (try clear hb); (try clear hb2); (try clear hk); (try clear hi)))
          (try simp only [Act.put, List.setIfInBounds_toArray, List.set_cons_zero, List.set_cons_succ])
          go_cut [96] (fun v96 wc => ∃ (kq : Nat) (x96_68 : Bool), v96 = .bool x96_68 ∧ Aside0 (hatchwaylaw02_FixedGets.j0 kq a0 t104 t106 t107 x96_68 = some r) ∧ Aside0 (kq ≤ k) ∧ Aside0 (Below w.heap.size w wc))
          case first =>
            have H := HC69.out
            clear HC69
            by_cases c74 : t103 = 0
            · rw [if_pos c74] at H
              have c74b0 : (t103 == 0) = true := beq_iff_eq.mpr c74
              have c74b1 : (t103 != 0) = false := bne_eq_false_iff_eq.mpr c74
              clear c74
              (first | rw [c74b0] | (simp only [i64_w, i32_w]; rw [c74b0]) | skip)
              by_cases c75 : t105 = 0
              · rw [if_pos c75] at H
                have c75b0 : (t105 == 0) = true := beq_iff_eq.mpr c75
                have c75b1 : (t105 != 0) = false := bne_eq_false_iff_eq.mpr c75
                clear c75
                replace H := Option.bind_eq_some_iff.mp H
                obtain ⟨t108, A760, H⟩ := H
                replace H : (if t104 = t108 then ((hatchwayref02_Turned.f k a0).bind fun t109 => ((hatchwayref02_Number.f k t109).bind fun t110 => (hatchwaylaw02_FixedGets.j0 k a0 t104 t106 t107 (t102 != t110)))) else (hatchwaylaw02_FixedGets.j0 k a0 t104 t106 t107 true)) = some r := H
                have A76 := Aside0.mk A760
                clear A760
                by_cases c77 : t104 = t108
                · rw [if_pos c77] at H
                  have c77b0 : (t104 == t108) = true := beq_iff_eq.mpr c77
                  have c77b1 : (t104 != t108) = false := bne_eq_false_iff_eq.mpr c77
                  clear c77
                  replace H := Option.bind_eq_some_iff.mp H
                  obtain ⟨t109, A780, H⟩ := H
                  replace H : ((hatchwayref02_Number.f k t109).bind fun t110 => (hatchwaylaw02_FixedGets.j0 k a0 t104 t106 t107 (t102 != t110))) = some r := H
                  have A78 := Aside0.mk A780
                  clear A780
                  replace H := Option.bind_eq_some_iff.mp H
                  obtain ⟨t110, A790, H⟩ := H
                  replace H : (hatchwaylaw02_FixedGets.j0 k a0 t104 t106 t107 (t102 != t110)) = some r := H
                  have A79 := Aside0.mk A790
                  clear A790
                  have H' := Aside0.mk H
                  clear H
                  go_wp2_with (first | (go_at_call 24; (with_reducible refine (hatchwayref02_Number.calls k a0 t108 _ A76.out).mono ?_); rintro e w' ⟨rfl, ⟨nd, rfl⟩⟩) | (go_at_call 23; (with_reducible refine (hatchwayref02_Turned.calls k a0 t109 _ A78.out).mono ?_); rintro e w' ⟨rfl, ⟨nd, rfl⟩⟩) | (go_at_call 24; (with_reducible refine (hatchwayref02_Number.calls k t109 t110 _ A79.out).mono ?_); rintro e w' ⟨rfl, ⟨nd, rfl⟩⟩))
                  go_meet
                  case rel => exact ⟨_, ((t102 != t110)), (by first | rfl | (simp; done) | (simp [*]; done)), H', ⟨by first | omega | exact Nat.le_refl _⟩, ⟨by repeat (first | (with_reducible first | exact HB.out | apply below_alloc | apply pw_below_drewN | apply below_drew1) | exact HB.out)⟩⟩
                · rw [if_neg c77] at H
                  have c77b0 : (t104 == t108) = false := beq_eq_false_iff_ne.mpr c77
                  have c77b1 : (t104 != t108) = true := bne_iff_ne.mpr c77
                  have H' := Aside0.mk H
                  clear H
                  go_wp2_with (first | (go_at_call 24; (with_reducible refine (hatchwayref02_Number.calls k a0 t108 _ A76.out).mono ?_); rintro e w' ⟨rfl, ⟨nd, rfl⟩⟩))
                  go_meet
                  case rel => exact ⟨_, (true), (by first | rfl | (simp; done) | (simp [*]; done)), H', ⟨by first | omega | exact Nat.le_refl _⟩, ⟨by repeat (first | (with_reducible first | exact HB.out | apply below_alloc | apply pw_below_drewN | apply below_drew1) | exact HB.out)⟩⟩
              · rw [if_neg c75] at H
                have c75b0 : (t105 == 0) = false := beq_eq_false_iff_ne.mpr c75
                have c75b1 : (t105 != 0) = true := bne_iff_ne.mpr c75
                have H' := Aside0.mk H
                clear H
                go_wp2
                go_meet
                case rel => exact ⟨_, (true), (by first | rfl | (simp; done) | (simp [*]; done)), H', ⟨by first | omega | exact Nat.le_refl _⟩, ⟨by repeat (first | (with_reducible first | exact HB.out | apply below_alloc | apply pw_below_drewN | apply below_drew1) | exact HB.out)⟩⟩
            · rw [if_neg c74] at H
              have c74b0 : (t103 == 0) = false := beq_eq_false_iff_ne.mpr c74
              have c74b1 : (t103 != 0) = true := bne_iff_ne.mpr c74
              (first | rw [c74b0] | (simp only [i64_w, i32_w]; rw [c74b0]) | skip)
              have H' := Aside0.mk H
              clear H
              go_wp2
              go_meet
              case rel => exact ⟨_, (true), (by first | rfl | (simp; done) | (simp [*]; done)), H', ⟨by first | omega | exact Nat.le_refl _⟩, ⟨by repeat (first | (with_reducible first | exact HB.out | apply below_alloc | apply pw_below_drewN | apply below_drew1) | exact HB.out)⟩⟩
          case rest =>
            clear HC69
            try clear c1
            try clear c2
            try clear p2
            try clear c3
            try clear c4
            try clear c4b0
            try clear c4b1
            try clear c5
            try clear c7
            try clear c9
            try clear c9b0
            try clear c9b1
            try clear c10
            try clear c10b0
            try clear c10b1
            try clear c11
            try clear c11b0
            try clear c11b1
            try clear c12
            try clear c12b0
            try clear c12b1
            try clear c13
            try clear c13b0
            try clear c13b1
            try clear c14
            try clear c14b0
            try clear c14b1
            try clear c18
            try clear c21
            try clear c22
            try clear c39
            try clear c39b0
            try clear c39b1
            try clear c40
            try clear c40b0
            try clear c40b1
            try clear c41
            try clear c41b0
            try clear c41b1
            try clear c42
            try clear c42b0
            try clear c42b1
            try clear c43
            try clear c43b0
            try clear c43b1
            try clear c44
            try clear c44b0
            try clear c44b1
            try clear c74
            try clear c74b0
            try clear c74b1
            try clear c75
            try clear c75b0
            try clear c75b1
            try clear c77
            try clear c77b0
            try clear c77b1
            obtain ⟨kq, x96_68, rfl, HA, HJ68, HB⟩ := hcut
            cases kq with
            | zero => exact absurd HA.out (by simp [hatchwaylaw02_FixedGets.j0])
            | succ kj68 =>
              have H := HA.out
              clear HA
              simp only [hatchwaylaw02_FixedGets.j0] at H
              by_cases c80 : x96_68 = true
              · subst c80
                have H1 : (some false) = some r := by rw [if_pos rfl] at H; exact H
                clear H
                have H := H1
                clear H1
                obtain rfl := Option.some.inj H
                go_wp2
                go_ret
                exact ⟨by first | rfl | (simp [errW_none, errW_some] <;> rfl) | (simp [*, errW_none, errW_some] <;> rfl), by repeat (first | (with_reducible first | exact HB.out | apply below_alloc | apply pw_below_drewN | apply below_drew1) | exact HB.out)⟩
              · replace c80 := Bool.eq_false_iff.mpr c80
                subst c80
                have H1 : (if 0 < (a0.size : Int) then (if (bt a0 0) = 0 then (if t107 = 3 then (some (t106 == 0)) else (some false)) else (if t107 = 0 then (if t106 = t104 then ((fixed_Least.f kj68 t106).bind fun t111 => (some (t111.toList == a0.toList))) else (some false)) else (some false))) else (none)) = some r := by rw [if_neg (show ¬ (false = true) by decide)] at H; exact H
                clear H
                have H := H1
                clear H1
                by_cases c81 : 0 < (a0.size : Int)
                · rw [if_pos c81] at H
                  have c81b0 : decide (0 < (a0.size : Int)) = true := decide_eq_true c81
                  have c81b1 : decide (0 < a0.size) = true := decide_eq_true (by omega)
                  clear c81
                  by_cases c83 : (bt a0 0) = 0
                  · rw [if_pos c83] at H
                    have c83b0 : ((bt a0 0) == 0) = true := beq_iff_eq.mpr c83
                    have c83b1 : ((bt a0 0) != 0) = false := bne_eq_false_iff_eq.mpr c83
                    clear c83
                    by_cases c84 : t107 = 3
                    · rw [if_pos c84] at H
                      have c84b0 : (t107 == 3) = true := beq_iff_eq.mpr c84
                      have c84b1 : (t107 != 3) = false := bne_eq_false_iff_eq.mpr c84
                      clear c84
                      obtain rfl := Option.some.inj H
                      have p82 : 0 ≤ (0 : Int) := (by omega)
                      have q82 : 0 < a0.size := (by have : (0 : Int) < (a0.size : Int) := of_decide_eq_true (by first | (with_reducible assumption) | assumption); omega)
                      have hx82 : ∀ h : 0 < a0.size, ((a0[0]'h).toNat : Int) = bt a0 0 := bt_at a0 0
                      clear p82
                      have qi82 : (0 < (a0.size : Int)) = True := eq_true (of_decide_eq_true (by first | (with_reducible assumption) | assumption))
                      replace q82 := eq_true q82
                      go_wp2
                      go_ret
                      exact ⟨by first | rfl | (simp [errW_none, errW_some] <;> rfl) | (simp [*, errW_none, errW_some] <;> rfl), by repeat (first | (with_reducible first | exact HB.out | apply below_alloc | apply pw_below_drewN | apply below_drew1) | exact HB.out)⟩
                    · rw [if_neg c84] at H
                      have c84b0 : (t107 == 3) = false := beq_eq_false_iff_ne.mpr c84
                      have c84b1 : (t107 != 3) = true := bne_iff_ne.mpr c84
                      obtain rfl := Option.some.inj H
                      have p82 : 0 ≤ (0 : Int) := (by omega)
                      have q82 : 0 < a0.size := (by have : (0 : Int) < (a0.size : Int) := of_decide_eq_true (by first | (with_reducible assumption) | assumption); omega)
                      have hx82 : ∀ h : 0 < a0.size, ((a0[0]'h).toNat : Int) = bt a0 0 := bt_at a0 0
                      clear p82
                      have qi82 : (0 < (a0.size : Int)) = True := eq_true (of_decide_eq_true (by first | (with_reducible assumption) | assumption))
                      replace q82 := eq_true q82
                      go_wp2
                      go_ret
                      exact ⟨by first | rfl | (simp [errW_none, errW_some] <;> rfl) | (simp [*, errW_none, errW_some] <;> rfl), by repeat (first | (with_reducible first | exact HB.out | apply below_alloc | apply pw_below_drewN | apply below_drew1) | exact HB.out)⟩
                  · rw [if_neg c83] at H
                    have c83b0 : ((bt a0 0) == 0) = false := beq_eq_false_iff_ne.mpr c83
                    have c83b1 : ((bt a0 0) != 0) = true := bne_iff_ne.mpr c83
                    by_cases c85 : t107 = 0
                    · rw [if_pos c85] at H
                      have c85b0 : (t107 == 0) = true := beq_iff_eq.mpr c85
                      have c85b1 : (t107 != 0) = false := bne_eq_false_iff_eq.mpr c85
                      clear c85
                      by_cases c86 : t106 = t104
                      · rw [if_pos c86] at H
                        have c86b0 : (t106 == t104) = true := beq_iff_eq.mpr c86
                        have c86b1 : (t106 != t104) = false := bne_eq_false_iff_eq.mpr c86
                        clear c86
                        replace H := Option.bind_eq_some_iff.mp H
                        obtain ⟨t111, A870, H⟩ := H
                        replace H : (some (t111.toList == a0.toList)) = some r := H
                        have A87 := Aside0.mk A870
                        clear A870
                        obtain rfl := Option.some.inj H
                        have p82 : 0 ≤ (0 : Int) := (by omega)
                        have q82 : 0 < a0.size := (by have : (0 : Int) < (a0.size : Int) := of_decide_eq_true (by first | (with_reducible assumption) | assumption); omega)
                        have hx82 : ∀ h : 0 < a0.size, ((a0[0]'h).toNat : Int) = bt a0 0 := bt_at a0 0
                        clear p82
                        have qi82 : (0 < (a0.size : Int)) = True := eq_true (of_decide_eq_true (by first | (with_reducible assumption) | assumption))
                        replace q82 := eq_true q82
                        go_wp2_with (first | (go_at_call 17; (with_reducible refine (fixed_Least.calls kj68 t106 t111 _ A87.out).mono ?_); rintro e w88 ⟨rfl, hb⟩; have n0_ := Aside0.mk (below_step (by repeat (first | (with_reducible first | exact HB.out | apply below_alloc | apply pw_below_drewN | apply below_drew1) | exact HB.out)) hb); clear HB; have HB := n0_; clear n0_; (try clear hb); (try clear hb2); (try clear hk); (try clear hi)))
                        go_ret
                        exact ⟨by first | rfl | (simp [errW_none, errW_some] <;> rfl) | (simp [*, errW_none, errW_some] <;> rfl), by repeat (first | (with_reducible first | exact HB.out | apply below_alloc | apply pw_below_drewN | apply below_drew1) | exact HB.out)⟩
                      · rw [if_neg c86] at H
                        have c86b0 : (t106 == t104) = false := beq_eq_false_iff_ne.mpr c86
                        have c86b1 : (t106 != t104) = true := bne_iff_ne.mpr c86
                        obtain rfl := Option.some.inj H
                        have p82 : 0 ≤ (0 : Int) := (by omega)
                        have q82 : 0 < a0.size := (by have : (0 : Int) < (a0.size : Int) := of_decide_eq_true (by first | (with_reducible assumption) | assumption); omega)
                        have hx82 : ∀ h : 0 < a0.size, ((a0[0]'h).toNat : Int) = bt a0 0 := bt_at a0 0
                        clear p82
                        have qi82 : (0 < (a0.size : Int)) = True := eq_true (of_decide_eq_true (by first | (with_reducible assumption) | assumption))
                        replace q82 := eq_true q82
                        go_wp2
                        go_ret
                        exact ⟨by first | rfl | (simp [errW_none, errW_some] <;> rfl) | (simp [*, errW_none, errW_some] <;> rfl), by repeat (first | (with_reducible first | exact HB.out | apply below_alloc | apply pw_below_drewN | apply below_drew1) | exact HB.out)⟩
                    · rw [if_neg c85] at H
                      have c85b0 : (t107 == 0) = false := beq_eq_false_iff_ne.mpr c85
                      have c85b1 : (t107 != 0) = true := bne_iff_ne.mpr c85
                      obtain rfl := Option.some.inj H
                      have p82 : 0 ≤ (0 : Int) := (by omega)
                      have q82 : 0 < a0.size := (by have : (0 : Int) < (a0.size : Int) := of_decide_eq_true (by first | (with_reducible assumption) | assumption); omega)
                      have hx82 : ∀ h : 0 < a0.size, ((a0[0]'h).toNat : Int) = bt a0 0 := bt_at a0 0
                      clear p82
                      have qi82 : (0 < (a0.size : Int)) = True := eq_true (of_decide_eq_true (by first | (with_reducible assumption) | assumption))
                      replace q82 := eq_true q82
                      go_wp2
                      go_ret
                      exact ⟨by first | rfl | (simp [errW_none, errW_some] <;> rfl) | (simp [*, errW_none, errW_some] <;> rfl), by repeat (first | (with_reducible first | exact HB.out | apply below_alloc | apply pw_below_drewN | apply below_drew1) | exact HB.out)⟩
                · rw [if_neg c81] at H
                  exact absurd H (by simp)
  · replace c3 := Bool.eq_false_iff.mpr c3
    subst c3
    have H1 : (some false) = some r := by rw [if_neg (show ¬ (false = true) by decide)] at H; exact H
    clear H
    have H := H1
    clear H1
    obtain rfl := Option.some.inj H
    go_enter Try.func5, Try.ntmps5
    go_wp2_with (first | ((with_reducible refine gate_callee (f := 14) rfl ?_); refine goesL_ (some 9) rfl rfl Try.func14 (by kernel_rfl) rfl #[] rfl (by (try simp only [List.map_toArray, List.map_cons, List.map_nil]); first | done | rfl | (simp only [List.length_drop, List.length_take]; rfl)) ?_; (with_reducible refine (hatchwaylaw02_alive.calls k  false _ A2.out).mono ?_); rintro e w89 ⟨rfl, hb⟩; refine ⟨_, rfl, ?_⟩; have n0_ := Aside0.mk (below_step (by repeat (first | (with_reducible first | exact HB.out | apply below_alloc | apply pw_below_drewN | apply below_drew1) | exact HB.out)) hb); clear HB; have HB := n0_; clear n0_; (try clear hb); (try clear hb2); (try clear hk); (try clear hi)))
    go_ret
    exact ⟨by first | rfl | (simp [errW_none, errW_some] <;> rfl) | (simp [*, errW_none, errW_some] <;> rfl), by repeat (first | (with_reducible first | exact HB.out | apply below_alloc | apply pw_below_drewN | apply below_drew1) | exact HB.out)⟩

/-- THE ONE PURE STATEMENT of hatchwaylaw02_FixedGets: yours. -/
def hatchwaylaw02_FixedGets.Pure : Prop := ∀ (a0 : ByteArray), a0.size ≤ 140737488351232 → ∃ k, hatchwaylaw02_FixedGets.f k a0 = some true
theorem hatchwaylaw02_FixedGets.walk (P : hatchwaylaw02_FixedGets.Pure) (a0 : ByteArray) (w : World) (w0 : a0.size ≤ 140737488351232) :
    Calls Try.prog 5 #[.string a0] w fun e w' => e = .returned (.bool true) ∧ Below w.heap.size w w' := by
  obtain ⟨k, h⟩ := P a0 w0
  refine (hatchwaylaw02_FixedGets.calls k a0 true w h).mono ?_
  rintro e w' ⟨rfl, hd⟩
  exact ⟨rfl, hd⟩

end Go.Proofs.Yteoibgpkimlahaa.P
