-- out of the translation, by a program of this session (wip/tools/pr.py)
import Derived.Test.YteoibgpkimlahaaF0
import Derived.Test.YteoibgpkimlahaaFFixedBig
import Derived.Test.YteoibgpkimlahaaFFixedGetBig
import Derived.Test.YteoibgpkimlahaaFFixedGetLeast
import Derived.Test.YteoibgpkimlahaaFFixedGetLittle
import Derived.Test.YteoibgpkimlahaaFFixedLeast
import Derived.Test.YteoibgpkimlahaaFFixedLittle
import Derived.Test.YteoibgpkimlahaaFHatchwaylaw02Alive
import Derived.Test.YteoibgpkimlahaaFHatchwayref02Big
import Derived.Test.YteoibgpkimlahaaFHatchwayref02Least
import Derived.Test.YteoibgpkimlahaaFHatchwayref02Turned
namespace Go.Proofs.Yteoibgpkimlahaa.P
open Go.RowKit Go.Proofs.YteoibgpkimlahaaW.PrintWords Go.Proofs.YteoibgpkimlahaaW.PrintLast Go.Proofs.YteoibgpkimlahaaW.PrintMore
attribute [local go_sem] max2_int min2_int max_two min_two max_three min_three max_four min_four   -- for this text's walks alone
set_option linter.unusedVariables false
set_option linter.unusedSimpArgs false

/-! ### hatchwaylaw02_FixedPuts: function 4 -/
mutual
def hatchwaylaw02_FixedPuts.j0 : Nat → Int → Int → ByteArray → Int → ByteArray → Int → Bool → Option (Bool)
  | 0, _, _, _, _, _, _, _ => none
  | k + 1, x0, x1, x5, x6, x7, x8, x51 => if x51 = true then (some false) else (if x1 < 1 then (hatchwaylaw02_FixedPuts.j1 k x0 x1 x5 x6 x7 x8 true) else (hatchwaylaw02_FixedPuts.j1 k x0 x1 x5 x6 x7 x8 (decide (x1 > 8))))
def hatchwaylaw02_FixedPuts.j1 : Nat → Int → Int → ByteArray → Int → ByteArray → Int → Bool → Option (Bool)
  | 0, _, _, _, _, _, _, _ => none
  | k + 1, x0, x1, x5, x6, x7, x8, x57 => if x57 = true then (if x6 = 1 then (if x8 = 1 then (if x5.toList = ([] : List UInt8) then (some (x7.toList == ([] : List UInt8))) else (some false)) else (some false)) else (some false)) else ((hatchwayref02_Big.f k x0 x1).bind fun bt110 => (if bt110.2 = true then ((fixed_GetLittle.f x5).bind fun bt112 => ((fixed_GetBig.f x7).bind fun bt114 => (if x6 = 0 then (if x8 = 0 then (if x7.toList = bt110.1.toList then ((hatchwayref02_Turned.f k bt110.1).bind fun t116 => (if x5.toList = t116.toList then (if bt112.2 = 0 then (if bt112.1 = x0 then (if bt114.2 = 0 then (some (bt114.1 == x0)) else (some false)) else (some false)) else (some false)) else (some false))) else (some false)) else (some false)) else (some false)))) else (if x6 = 5 then (if x8 = 5 then (if x5.toList = ([] : List UInt8) then (some (x7.toList == ([] : List UInt8))) else (some false)) else (some false)) else (some false))))
end
def hatchwaylaw02_FixedPuts.f (k : Nat) (a0 : Int) (a1 : Int) : Option (Bool) := (hatchwaylaw02_alive.f k).bind fun t101 => (if t101 = true then ((fixed_Little.f a0 a1).bind fun bt102 => ((fixed_Big.f a0 a1).bind fun bt104 => ((fixed_Least.f k a0).bind fun t106 => ((fixed_GetLeast.f t106).bind fun bt107 => ((hatchwayref02_Least.f k a0).bind fun t109 => (if t106.toList = t109.toList then (if bt107.2 = 0 then (hatchwaylaw02_FixedPuts.j0 k a0 a1 bt102.1 bt102.2 bt104.1 bt104.2 (bt107.1 != a0)) else (hatchwaylaw02_FixedPuts.j0 k a0 a1 bt102.1 bt102.2 bt104.1 bt104.2 true)) else (hatchwaylaw02_FixedPuts.j0 k a0 a1 bt102.1 bt102.2 bt104.1 bt104.2 true))))))) else (some false))
theorem hatchwaylaw02_FixedPuts.mono_l : ∀ k, (∀ y0 y1 y2 y3 y4 y5 y6, LeO (hatchwaylaw02_FixedPuts.j0 k y0 y1 y2 y3 y4 y5 y6) (hatchwaylaw02_FixedPuts.j0 (k + 1) y0 y1 y2 y3 y4 y5 y6)) ∧ (∀ y0 y1 y2 y3 y4 y5 y6, LeO (hatchwaylaw02_FixedPuts.j1 k y0 y1 y2 y3 y4 y5 y6) (hatchwaylaw02_FixedPuts.j1 (k + 1) y0 y1 y2 y3 y4 y5 y6))
  | 0 => ⟨fun _ _ _ _ _ _ _ r h => by simp [hatchwaylaw02_FixedPuts.j0] at h, fun _ _ _ _ _ _ _ r h => by simp [hatchwaylaw02_FixedPuts.j1] at h⟩
  | k + 1 => by
    obtain ⟨ih0, ih1⟩ := hatchwaylaw02_FixedPuts.mono_l k
    refine ⟨?_, ?_⟩
    · intro y0 y1 y2 y3 y4 y5 y6
      unfold hatchwaylaw02_FixedPuts.j0
      repeat' first
      | (with_reducible exact ih0 _ _ _ _ _ _ _)
      | (with_reducible exact ih1 _ _ _ _ _ _ _)
      | (with_reducible exact fixed_Least.mono _ _)
      | (with_reducible exact hatchwaylaw02_alive.mono _)
      | (with_reducible exact hatchwayref02_Big.mono _ _ _)
      | (with_reducible exact hatchwayref02_Least.mono _ _)
      | (with_reducible exact hatchwayref02_Turned.mono _ _)
      | (with_reducible exact LeO.refl _)
      | (with_reducible exact LeO.none _)
      | (with_reducible refine LeO.ite ?_ ?_)
      | (with_reducible refine LeO.bind ?_ (fun _ => ?_))
      | exact ih0 _ _ _ _ _ _ _
      | exact ih1 _ _ _ _ _ _ _
      | exact fixed_Least.mono _ _
      | exact hatchwaylaw02_alive.mono _
      | exact hatchwayref02_Big.mono _ _ _
      | exact hatchwayref02_Least.mono _ _
      | exact hatchwayref02_Turned.mono _ _
      | exact LeO.none _
      | refine LeO.ite ?_ ?_
      | refine LeO.bind ?_ (fun _ => ?_)
    · intro y0 y1 y2 y3 y4 y5 y6
      unfold hatchwaylaw02_FixedPuts.j1
      repeat' first
      | (with_reducible exact ih0 _ _ _ _ _ _ _)
      | (with_reducible exact ih1 _ _ _ _ _ _ _)
      | (with_reducible exact fixed_Least.mono _ _)
      | (with_reducible exact hatchwaylaw02_alive.mono _)
      | (with_reducible exact hatchwayref02_Big.mono _ _ _)
      | (with_reducible exact hatchwayref02_Least.mono _ _)
      | (with_reducible exact hatchwayref02_Turned.mono _ _)
      | (with_reducible exact LeO.refl _)
      | (with_reducible exact LeO.none _)
      | (with_reducible refine LeO.ite ?_ ?_)
      | (with_reducible refine LeO.bind ?_ (fun _ => ?_))
      | exact ih0 _ _ _ _ _ _ _
      | exact ih1 _ _ _ _ _ _ _
      | exact fixed_Least.mono _ _
      | exact hatchwaylaw02_alive.mono _
      | exact hatchwayref02_Big.mono _ _ _
      | exact hatchwayref02_Least.mono _ _
      | exact hatchwayref02_Turned.mono _ _
      | exact LeO.none _
      | refine LeO.ite ?_ ?_
      | refine LeO.bind ?_ (fun _ => ?_)
theorem hatchwaylaw02_FixedPuts.mono : ∀ a0 a1 k, LeO (hatchwaylaw02_FixedPuts.f k a0 a1) (hatchwaylaw02_FixedPuts.f (k + 1) a0 a1) := by
  intro a0 a1 k
  obtain ⟨ih0, ih1⟩ := hatchwaylaw02_FixedPuts.mono_l k
  unfold hatchwaylaw02_FixedPuts.f
  repeat' first
      | (with_reducible exact ih0 _ _ _ _ _ _ _)
      | (with_reducible exact ih1 _ _ _ _ _ _ _)
      | (with_reducible exact fixed_Least.mono _ _)
      | (with_reducible exact hatchwaylaw02_alive.mono _)
      | (with_reducible exact hatchwayref02_Big.mono _ _ _)
      | (with_reducible exact hatchwayref02_Least.mono _ _)
      | (with_reducible exact hatchwayref02_Turned.mono _ _)
      | (with_reducible exact LeO.refl _)
      | (with_reducible exact LeO.none _)
      | (with_reducible refine LeO.ite ?_ ?_)
      | (with_reducible refine LeO.bind ?_ (fun _ => ?_))
      | exact ih0 _ _ _ _ _ _ _
      | exact ih1 _ _ _ _ _ _ _
      | exact fixed_Least.mono _ _
      | exact hatchwaylaw02_alive.mono _
      | exact hatchwayref02_Big.mono _ _ _
      | exact hatchwayref02_Least.mono _ _
      | exact hatchwayref02_Turned.mono _ _
      | exact LeO.none _
      | refine LeO.ite ?_ ?_
      | refine LeO.bind ?_ (fun _ => ?_)
set_option maxHeartbeats 8000000 in
set_option maxRecDepth 100000 in
theorem hatchwaylaw02_FixedPuts.calls (k : Nat) (a0 : Int) (a1 : Int) (r : Bool) (w : World) (h : hatchwaylaw02_FixedPuts.f k a0 a1 = some r) :
    Calls Try.prog 4 #[.int .u64 a0, .int .i64 a1] w fun e w' => e = .returned (.bool r) ∧ Below w.heap.size w w' := by
  have HB := Aside0.mk (Below.refl w.heap.size w)
  have H : ((hatchwaylaw02_alive.f k).bind fun t101 => (if t101 = true then ((fixed_Little.f a0 a1).bind fun bt102 => ((fixed_Big.f a0 a1).bind fun bt104 => ((fixed_Least.f k a0).bind fun t106 => ((fixed_GetLeast.f t106).bind fun bt107 => ((hatchwayref02_Least.f k a0).bind fun t109 => (if t106.toList = t109.toList then (if bt107.2 = 0 then (hatchwaylaw02_FixedPuts.j0 k a0 a1 bt102.1 bt102.2 bt104.1 bt104.2 (bt107.1 != a0)) else (hatchwaylaw02_FixedPuts.j0 k a0 a1 bt102.1 bt102.2 bt104.1 bt104.2 true)) else (hatchwaylaw02_FixedPuts.j0 k a0 a1 bt102.1 bt102.2 bt104.1 bt104.2 true))))))) else (some false))) = some r := h
  clear h
  replace H := Option.bind_eq_some_iff.mp H
  obtain ⟨t101, A30, H⟩ := H
  replace H : (if t101 = true then ((fixed_Little.f a0 a1).bind fun bt102 => ((fixed_Big.f a0 a1).bind fun bt104 => ((fixed_Least.f k a0).bind fun t106 => ((fixed_GetLeast.f t106).bind fun bt107 => ((hatchwayref02_Least.f k a0).bind fun t109 => (if t106.toList = t109.toList then (if bt107.2 = 0 then (hatchwaylaw02_FixedPuts.j0 k a0 a1 bt102.1 bt102.2 bt104.1 bt104.2 (bt107.1 != a0)) else (hatchwaylaw02_FixedPuts.j0 k a0 a1 bt102.1 bt102.2 bt104.1 bt104.2 true)) else (hatchwaylaw02_FixedPuts.j0 k a0 a1 bt102.1 bt102.2 bt104.1 bt104.2 true))))))) else (some false)) = some r := H
  have A3 := Aside0.mk A30
  clear A30
  by_cases c4 : t101 = true
  · subst c4
    have H1 : ((fixed_Little.f a0 a1).bind fun bt102 => ((fixed_Big.f a0 a1).bind fun bt104 => ((fixed_Least.f k a0).bind fun t106 => ((fixed_GetLeast.f t106).bind fun bt107 => ((hatchwayref02_Least.f k a0).bind fun t109 => (if t106.toList = t109.toList then (if bt107.2 = 0 then (hatchwaylaw02_FixedPuts.j0 k a0 a1 bt102.1 bt102.2 bt104.1 bt104.2 (bt107.1 != a0)) else (hatchwaylaw02_FixedPuts.j0 k a0 a1 bt102.1 bt102.2 bt104.1 bt104.2 true)) else (hatchwaylaw02_FixedPuts.j0 k a0 a1 bt102.1 bt102.2 bt104.1 bt104.2 true))))))) = some r := by rw [if_pos rfl] at H; exact H
    clear H
    have H := H1
    clear H1
    replace H := Option.bind_eq_some_iff.mp H
    obtain ⟨⟨t102, t103⟩, A50, H⟩ := H
    replace H : ((fixed_Big.f a0 a1).bind fun bt104 => ((fixed_Least.f k a0).bind fun t106 => ((fixed_GetLeast.f t106).bind fun bt107 => ((hatchwayref02_Least.f k a0).bind fun t109 => (if t106.toList = t109.toList then (if bt107.2 = 0 then (hatchwaylaw02_FixedPuts.j0 k a0 a1 t102 t103 bt104.1 bt104.2 (bt107.1 != a0)) else (hatchwaylaw02_FixedPuts.j0 k a0 a1 t102 t103 bt104.1 bt104.2 true)) else (hatchwaylaw02_FixedPuts.j0 k a0 a1 t102 t103 bt104.1 bt104.2 true)))))) = some r := H
    have A5 := Aside0.mk A50
    clear A50
    replace H := Option.bind_eq_some_iff.mp H
    obtain ⟨⟨t104, t105⟩, A60, H⟩ := H
    replace H : ((fixed_Least.f k a0).bind fun t106 => ((fixed_GetLeast.f t106).bind fun bt107 => ((hatchwayref02_Least.f k a0).bind fun t109 => (if t106.toList = t109.toList then (if bt107.2 = 0 then (hatchwaylaw02_FixedPuts.j0 k a0 a1 t102 t103 t104 t105 (bt107.1 != a0)) else (hatchwaylaw02_FixedPuts.j0 k a0 a1 t102 t103 t104 t105 true)) else (hatchwaylaw02_FixedPuts.j0 k a0 a1 t102 t103 t104 t105 true))))) = some r := H
    have A6 := Aside0.mk A60
    clear A60
    replace H := Option.bind_eq_some_iff.mp H
    obtain ⟨t106, A70, H⟩ := H
    replace H : ((fixed_GetLeast.f t106).bind fun bt107 => ((hatchwayref02_Least.f k a0).bind fun t109 => (if t106.toList = t109.toList then (if bt107.2 = 0 then (hatchwaylaw02_FixedPuts.j0 k a0 a1 t102 t103 t104 t105 (bt107.1 != a0)) else (hatchwaylaw02_FixedPuts.j0 k a0 a1 t102 t103 t104 t105 true)) else (hatchwaylaw02_FixedPuts.j0 k a0 a1 t102 t103 t104 t105 true)))) = some r := H
    have A7 := Aside0.mk A70
    clear A70
    replace H := Option.bind_eq_some_iff.mp H
    obtain ⟨⟨t107, t108⟩, A80, H⟩ := H
    replace H : ((hatchwayref02_Least.f k a0).bind fun t109 => (if t106.toList = t109.toList then (if t108 = 0 then (hatchwaylaw02_FixedPuts.j0 k a0 a1 t102 t103 t104 t105 (t107 != a0)) else (hatchwaylaw02_FixedPuts.j0 k a0 a1 t102 t103 t104 t105 true)) else (hatchwaylaw02_FixedPuts.j0 k a0 a1 t102 t103 t104 t105 true))) = some r := H
    have A8 := Aside0.mk A80
    clear A80
    have HC9 := Aside0.mk H
    clear H
    go_enter Try.func4, Try.ntmps4
    go_upto_region 7 with (first | ((with_reducible refine gate_callee (f := 14) rfl ?_); refine goesL_ (some 18) rfl rfl Try.func14 (by kernel_rfl) rfl #[] rfl (by (try simp only [List.map_toArray, List.map_cons, List.map_nil]); first | done | rfl | (simp only [List.length_drop, List.length_take]; rfl)) ?_; (with_reducible refine (hatchwaylaw02_alive.calls k  true _ A3.out).mono ?_); rintro e w10 ⟨rfl, hb⟩; refine ⟨_, rfl, ?_⟩; have n0_ := Aside0.mk (below_step (by repeat (first | (with_reducible first | exact HB.out | apply below_alloc | apply pw_below_drewN | apply below_drew1) | exact HB.out)) hb); clear HB; have HB := n0_; clear n0_; (try clear hb); (try clear hb2); (try clear hk); (try clear hi)) | ((with_reducible refine gate_callee (f := 16) rfl ?_); refine goesL_ (some 23) rfl rfl Try.func16 (by kernel_rfl) rfl #[.int .u64 a0, .int .i64 a1] rfl (by (try simp only [List.map_toArray, List.map_cons, List.map_nil]); first | done | rfl | (simp only [List.length_drop, List.length_take]; rfl)) ?_; (with_reducible refine (fixed_Little.calls a0 a1 t102 t103 _ A5.out).mono ?_); rintro e w11 ⟨rfl, hb⟩; refine ⟨_, rfl, ?_⟩; have n0_ := Aside0.mk (below_step (by repeat (first | (with_reducible first | exact HB.out | apply below_alloc | apply pw_below_drewN | apply below_drew1) | exact HB.out)) hb); clear HB; have HB := n0_; clear n0_; (try clear hb); (try clear hb2); (try clear hk); (try clear hi)) | ((with_reducible refine gate_callee (f := 15) rfl ?_); refine goesL_ (some 29) rfl rfl Try.func15 (by kernel_rfl) rfl #[.int .u64 a0, .int .i64 a1] rfl (by (try simp only [List.map_toArray, List.map_cons, List.map_nil]); first | done | rfl | (simp only [List.length_drop, List.length_take]; rfl)) ?_; (with_reducible refine (fixed_Big.calls a0 a1 t104 t105 _ A6.out).mono ?_); rintro e w12 ⟨rfl, hb⟩; refine ⟨_, rfl, ?_⟩; have n0_ := Aside0.mk (below_step (by repeat (first | (with_reducible first | exact HB.out | apply below_alloc | apply pw_below_drewN | apply below_drew1) | exact HB.out)) hb); clear HB; have HB := n0_; clear n0_; (try clear hb); (try clear hb2); (try clear hk); (try clear hi)) | ((with_reducible refine gate_callee (f := 17) rfl ?_); refine goesL_ (some 33) rfl rfl Try.func17 (by kernel_rfl) rfl #[.int .u64 a0] rfl (by (try simp only [List.map_toArray, List.map_cons, List.map_nil]); first | done | rfl | (simp only [List.length_drop, List.length_take]; rfl)) ?_; (with_reducible refine (fixed_Least.calls k a0 t106 _ A7.out).mono ?_); rintro e w13 ⟨rfl, hb⟩; refine ⟨_, rfl, ?_⟩; have n0_ := Aside0.mk (below_step (by repeat (first | (with_reducible first | exact HB.out | apply below_alloc | apply pw_below_drewN | apply below_drew1) | exact HB.out)) hb); clear HB; have HB := n0_; clear n0_; (try clear hb); (try clear hb2); (try clear hk); (try clear hi)) | ((with_reducible refine gate_callee (f := 18) rfl ?_); refine goesL_ (some 36) rfl rfl Try.func18 (by kernel_rfl) rfl #[.string t106] rfl (by (try simp only [List.map_toArray, List.map_cons, List.map_nil]); first | done | rfl | (simp only [List.length_drop, List.length_take]; rfl)) ?_; (with_reducible refine (fixed_GetLeast.calls t106 t107 t108 _ A8.out).mono ?_); rintro e w14 ⟨rfl, hb⟩; refine ⟨_, rfl, ?_⟩; have n0_ := Aside0.mk (below_step (by repeat (first | (with_reducible first | exact HB.out | apply below_alloc | apply pw_below_drewN | apply below_drew1) | exact HB.out)) hb); clear HB; have HB := n0_; clear n0_; (try clear hb); (try clear hb2); (try clear hk); (try clear hi)))
    (try simp only [Act.put, List.setIfInBounds_toArray, List.set_cons_zero, List.set_cons_succ])
    go_cut [51] (fun v51 wc => ∃ (kq : Nat) (x51_8 : Bool), v51 = .bool x51_8 ∧ Aside0 (hatchwaylaw02_FixedPuts.j0 kq a0 a1 t102 t103 t104 t105 x51_8 = some r) ∧ Aside0 (kq ≤ k) ∧ Aside0 (Below w.heap.size w wc))
    case first =>
      have H := HC9.out
      clear HC9
      replace H := Option.bind_eq_some_iff.mp H
      obtain ⟨t109, A150, H⟩ := H
      replace H : (if t106.toList = t109.toList then (if t108 = 0 then (hatchwaylaw02_FixedPuts.j0 k a0 a1 t102 t103 t104 t105 (t107 != a0)) else (hatchwaylaw02_FixedPuts.j0 k a0 a1 t102 t103 t104 t105 true)) else (hatchwaylaw02_FixedPuts.j0 k a0 a1 t102 t103 t104 t105 true)) = some r := H
      have A15 := Aside0.mk A150
      clear A150
      by_cases c16 : t106.toList = t109.toList
      · rw [if_pos c16] at H
        have c16b0 : (t106.toList == t109.toList) = true := beq_iff_eq.mpr c16
        have c16b1 : (t106.toList != t109.toList) = false := bne_eq_false_iff_eq.mpr c16
        clear c16
        (first | rw [c16b0] | (simp only [i64_w, i32_w]; rw [c16b0]) | skip)
        by_cases c17 : t108 = 0
        · rw [if_pos c17] at H
          have c17b0 : (t108 == 0) = true := beq_iff_eq.mpr c17
          have c17b1 : (t108 != 0) = false := bne_eq_false_iff_eq.mpr c17
          clear c17
          have H' := Aside0.mk H
          clear H
          go_wp2_with (first | ((with_reducible refine gate_callee (f := 19) rfl ?_); refine goesL_ (some 41) rfl rfl Try.func19 (by kernel_rfl) rfl #[.int .u64 a0] rfl (by (try simp only [List.map_toArray, List.map_cons, List.map_nil]); first | done | rfl | (simp only [List.length_drop, List.length_take]; rfl)) ?_; (with_reducible refine (hatchwayref02_Least.calls k a0 t109 _ A15.out).mono ?_); rintro e w18 ⟨rfl, hb⟩; refine ⟨_, rfl, ?_⟩; have n0_ := Aside0.mk (below_step (by repeat (first | (with_reducible first | exact HB.out | apply below_alloc | apply pw_below_drewN | apply below_drew1) | exact HB.out)) hb); clear HB; have HB := n0_; clear n0_; (try clear hb); (try clear hb2); (try clear hk); (try clear hi)))
          go_meet
          case rel => exact ⟨_, ((t107 != a0)), (by first | rfl | (simp; done) | (simp [*]; done)), H', ⟨by first | omega | exact Nat.le_refl _⟩, ⟨by repeat (first | (with_reducible first | exact HB.out | apply below_alloc | apply pw_below_drewN | apply below_drew1) | exact HB.out)⟩⟩
        · rw [if_neg c17] at H
          have c17b0 : (t108 == 0) = false := beq_eq_false_iff_ne.mpr c17
          have c17b1 : (t108 != 0) = true := bne_iff_ne.mpr c17
          have H' := Aside0.mk H
          clear H
          go_wp2_with (first | ((with_reducible refine gate_callee (f := 19) rfl ?_); refine goesL_ (some 41) rfl rfl Try.func19 (by kernel_rfl) rfl #[.int .u64 a0] rfl (by (try simp only [List.map_toArray, List.map_cons, List.map_nil]); first | done | rfl | (simp only [List.length_drop, List.length_take]; rfl)) ?_; (with_reducible refine (hatchwayref02_Least.calls k a0 t109 _ A15.out).mono ?_); rintro e w19 ⟨rfl, hb⟩; refine ⟨_, rfl, ?_⟩; have n0_ := Aside0.mk (below_step (by repeat (first | (with_reducible first | exact HB.out | apply below_alloc | apply pw_below_drewN | apply below_drew1) | exact HB.out)) hb); clear HB; have HB := n0_; clear n0_; (try clear hb); (try clear hb2); (try clear hk); (try clear hi)))
          go_meet
          case rel => exact ⟨_, (true), (by first | rfl | (simp; done) | (simp [*]; done)), H', ⟨by first | omega | exact Nat.le_refl _⟩, ⟨by repeat (first | (with_reducible first | exact HB.out | apply below_alloc | apply pw_below_drewN | apply below_drew1) | exact HB.out)⟩⟩
      · rw [if_neg c16] at H
        have c16b0 : (t106.toList == t109.toList) = false := beq_eq_false_iff_ne.mpr c16
        have c16b1 : (t106.toList != t109.toList) = true := bne_iff_ne.mpr c16
        (first | rw [c16b0] | (simp only [i64_w, i32_w]; rw [c16b0]) | skip)
        have H' := Aside0.mk H
        clear H
        go_wp2_with (first | ((with_reducible refine gate_callee (f := 19) rfl ?_); refine goesL_ (some 41) rfl rfl Try.func19 (by kernel_rfl) rfl #[.int .u64 a0] rfl (by (try simp only [List.map_toArray, List.map_cons, List.map_nil]); first | done | rfl | (simp only [List.length_drop, List.length_take]; rfl)) ?_; (with_reducible refine (hatchwayref02_Least.calls k a0 t109 _ A15.out).mono ?_); rintro e w20 ⟨rfl, hb⟩; refine ⟨_, rfl, ?_⟩; have n0_ := Aside0.mk (below_step (by repeat (first | (with_reducible first | exact HB.out | apply below_alloc | apply pw_below_drewN | apply below_drew1) | exact HB.out)) hb); clear HB; have HB := n0_; clear n0_; (try clear hb); (try clear hb2); (try clear hk); (try clear hi)))
        go_meet
        case rel => exact ⟨_, (true), (by first | rfl | (simp; done) | (simp [*]; done)), H', ⟨by first | omega | exact Nat.le_refl _⟩, ⟨by repeat (first | (with_reducible first | exact HB.out | apply below_alloc | apply pw_below_drewN | apply below_drew1) | exact HB.out)⟩⟩
    case rest =>
      clear HC9
      try clear c1
      try clear p2
      try clear c4
      try clear c14
      try clear c15
      try clear c16
      try clear c16b0
      try clear c16b1
      try clear c17
      try clear c17b0
      try clear c17b1
      try clear c18
      try clear c19
      obtain ⟨kq, x51_8, rfl, HA, HJ8, HB⟩ := hcut
      cases kq with
      | zero => exact absurd HA.out (by simp [hatchwaylaw02_FixedPuts.j0])
      | succ kj8 =>
        have H := HA.out
        clear HA
        simp only [hatchwaylaw02_FixedPuts.j0] at H
        by_cases c21 : x51_8 = true
        · subst c21
          have H1 : (some false) = some r := by rw [if_pos rfl] at H; exact H
          clear H
          have H := H1
          clear H1
          obtain rfl := Option.some.inj H
          go_wp2
          go_ret
          exact ⟨by first | rfl | (simp [errW_none, errW_some] <;> rfl) | (simp [*, errW_none, errW_some] <;> rfl), by repeat (first | (with_reducible first | exact HB.out | apply below_alloc | apply pw_below_drewN | apply below_drew1) | exact HB.out)⟩
        · replace c21 := Bool.eq_false_iff.mpr c21
          subst c21
          have H1 : (if a1 < 1 then (hatchwaylaw02_FixedPuts.j1 kj8 a0 a1 t102 t103 t104 t105 true) else (hatchwaylaw02_FixedPuts.j1 kj8 a0 a1 t102 t103 t104 t105 (decide (a1 > 8)))) = some r := by rw [if_neg (show ¬ (false = true) by decide)] at H; exact H
          clear H
          have H := H1
          clear H1
          have HC22 := Aside0.mk H
          clear H
          go_upto_region 9 with (fail)
          go_cut [57] (fun v57 wc => ∃ (kq : Nat) (x57_21 : Bool), v57 = .bool x57_21 ∧ Aside0 (hatchwaylaw02_FixedPuts.j1 kq a0 a1 t102 t103 t104 t105 x57_21 = some r) ∧ Aside0 (kq ≤ kj8) ∧ Aside0 (Below w.heap.size w wc))
          case first =>
            have H := HC22.out
            clear HC22
            by_cases c23 : a1 < 1
            · rw [if_pos c23] at H
              have c23b0 : decide (a1 < 1) = true := decide_eq_true c23
              clear c23
              (first | rw [c23b0] | (simp only [i64_w, i32_w]; rw [c23b0]) | skip)
              have H' := Aside0.mk H
              clear H
              go_wp2
              go_meet
              case rel => exact ⟨_, (true), (by first | rfl | (simp; done) | (simp [*]; done)), H', ⟨by have := HJ8.out; first | omega | exact Nat.le_refl _⟩, ⟨by repeat (first | (with_reducible first | exact HB.out | apply below_alloc | apply pw_below_drewN | apply below_drew1) | exact HB.out)⟩⟩
            · rw [if_neg c23] at H
              have c23b0 : decide (a1 < 1) = false := decide_eq_false c23
              clear c23
              (first | rw [c23b0] | (simp only [i64_w, i32_w]; rw [c23b0]) | skip)
              have H' := Aside0.mk H
              clear H
              go_wp2
              go_meet
              case rel => exact ⟨_, (decide (a1 > 8)), (by first | rfl | (simp; done) | (simp [*]; done)), H', ⟨by have := HJ8.out; first | omega | exact Nat.le_refl _⟩, ⟨by repeat (first | (with_reducible first | exact HB.out | apply below_alloc | apply pw_below_drewN | apply below_drew1) | exact HB.out)⟩⟩
          case rest =>
            clear HC22
            try clear c1
            try clear c2
            try clear p2
            try clear c4
            try clear c14
            try clear c15
            try clear c16
            try clear c16b0
            try clear c16b1
            try clear c17
            try clear c17b0
            try clear c17b1
            try clear c18
            try clear c19
            try clear c21
            try clear c23
            try clear c23b0
            try clear p2
            obtain ⟨kq, x57_21, rfl, HA, HJ21, HB⟩ := hcut
            cases kq with
            | zero => exact absurd HA.out (by simp [hatchwaylaw02_FixedPuts.j1])
            | succ kj21 =>
              have H := HA.out
              clear HA
              simp only [hatchwaylaw02_FixedPuts.j1] at H
              by_cases c24 : x57_21 = true
              · subst c24
                have H1 : (if t103 = 1 then (if t105 = 1 then (if t102.toList = ([] : List UInt8) then (some (t104.toList == ([] : List UInt8))) else (some false)) else (some false)) else (some false)) = some r := by rw [if_pos rfl] at H; exact H
                clear H
                have H := H1
                clear H1
                by_cases c25 : t103 = 1
                · rw [if_pos c25] at H
                  have c25b0 : (t103 == 1) = true := beq_iff_eq.mpr c25
                  have c25b1 : (t103 != 1) = false := bne_eq_false_iff_eq.mpr c25
                  clear c25
                  by_cases c26 : t105 = 1
                  · rw [if_pos c26] at H
                    have c26b0 : (t105 == 1) = true := beq_iff_eq.mpr c26
                    have c26b1 : (t105 != 1) = false := bne_eq_false_iff_eq.mpr c26
                    clear c26
                    by_cases c27 : t102.toList = ([] : List UInt8)
                    · rw [if_pos c27] at H
                      have c27b0 : (t102.toList == ([] : List UInt8)) = true := beq_iff_eq.mpr c27
                      have c27b1 : (t102.toList != ([] : List UInt8)) = false := bne_eq_false_iff_eq.mpr c27
                      clear c27
                      obtain rfl := Option.some.inj H
                      go_wp2
                      go_ret
                      exact ⟨by first | rfl | (simp [errW_none, errW_some] <;> rfl) | (simp [*, errW_none, errW_some] <;> rfl), by repeat (first | (with_reducible first | exact HB.out | apply below_alloc | apply pw_below_drewN | apply below_drew1) | exact HB.out)⟩
                    · rw [if_neg c27] at H
                      have c27b0 : (t102.toList == ([] : List UInt8)) = false := beq_eq_false_iff_ne.mpr c27
                      have c27b1 : (t102.toList != ([] : List UInt8)) = true := bne_iff_ne.mpr c27
                      obtain rfl := Option.some.inj H
                      go_wp2
                      go_ret
                      exact ⟨by first | rfl | (simp [errW_none, errW_some] <;> rfl) | (simp [*, errW_none, errW_some] <;> rfl), by repeat (first | (with_reducible first | exact HB.out | apply below_alloc | apply pw_below_drewN | apply below_drew1) | exact HB.out)⟩
                  · rw [if_neg c26] at H
                    have c26b0 : (t105 == 1) = false := beq_eq_false_iff_ne.mpr c26
                    have c26b1 : (t105 != 1) = true := bne_iff_ne.mpr c26
                    obtain rfl := Option.some.inj H
                    go_wp2
                    go_ret
                    exact ⟨by first | rfl | (simp [errW_none, errW_some] <;> rfl) | (simp [*, errW_none, errW_some] <;> rfl), by repeat (first | (with_reducible first | exact HB.out | apply below_alloc | apply pw_below_drewN | apply below_drew1) | exact HB.out)⟩
                · rw [if_neg c25] at H
                  have c25b0 : (t103 == 1) = false := beq_eq_false_iff_ne.mpr c25
                  have c25b1 : (t103 != 1) = true := bne_iff_ne.mpr c25
                  obtain rfl := Option.some.inj H
                  go_wp2
                  go_ret
                  exact ⟨by first | rfl | (simp [errW_none, errW_some] <;> rfl) | (simp [*, errW_none, errW_some] <;> rfl), by repeat (first | (with_reducible first | exact HB.out | apply below_alloc | apply pw_below_drewN | apply below_drew1) | exact HB.out)⟩
              · replace c24 := Bool.eq_false_iff.mpr c24
                subst c24
                have H1 : ((hatchwayref02_Big.f kj21 a0 a1).bind fun bt110 => (if bt110.2 = true then ((fixed_GetLittle.f t102).bind fun bt112 => ((fixed_GetBig.f t104).bind fun bt114 => (if t103 = 0 then (if t105 = 0 then (if t104.toList = bt110.1.toList then ((hatchwayref02_Turned.f kj21 bt110.1).bind fun t116 => (if t102.toList = t116.toList then (if bt112.2 = 0 then (if bt112.1 = a0 then (if bt114.2 = 0 then (some (bt114.1 == a0)) else (some false)) else (some false)) else (some false)) else (some false))) else (some false)) else (some false)) else (some false)))) else (if t103 = 5 then (if t105 = 5 then (if t102.toList = ([] : List UInt8) then (some (t104.toList == ([] : List UInt8))) else (some false)) else (some false)) else (some false)))) = some r := by rw [if_neg (show ¬ (false = true) by decide)] at H; exact H
                clear H
                have H := H1
                clear H1
                replace H := Option.bind_eq_some_iff.mp H
                obtain ⟨⟨t110, t111⟩, A280, H⟩ := H
                replace H : (if t111 = true then ((fixed_GetLittle.f t102).bind fun bt112 => ((fixed_GetBig.f t104).bind fun bt114 => (if t103 = 0 then (if t105 = 0 then (if t104.toList = t110.toList then ((hatchwayref02_Turned.f kj21 t110).bind fun t116 => (if t102.toList = t116.toList then (if bt112.2 = 0 then (if bt112.1 = a0 then (if bt114.2 = 0 then (some (bt114.1 == a0)) else (some false)) else (some false)) else (some false)) else (some false))) else (some false)) else (some false)) else (some false)))) else (if t103 = 5 then (if t105 = 5 then (if t102.toList = ([] : List UInt8) then (some (t104.toList == ([] : List UInt8))) else (some false)) else (some false)) else (some false))) = some r := H
                have A28 := Aside0.mk A280
                clear A280
                by_cases c29 : t111 = true
                · subst c29
                  have H1 : ((fixed_GetLittle.f t102).bind fun bt112 => ((fixed_GetBig.f t104).bind fun bt114 => (if t103 = 0 then (if t105 = 0 then (if t104.toList = t110.toList then ((hatchwayref02_Turned.f kj21 t110).bind fun t116 => (if t102.toList = t116.toList then (if bt112.2 = 0 then (if bt112.1 = a0 then (if bt114.2 = 0 then (some (bt114.1 == a0)) else (some false)) else (some false)) else (some false)) else (some false))) else (some false)) else (some false)) else (some false)))) = some r := by rw [if_pos rfl] at H; exact H
                  clear H
                  have H := H1
                  clear H1
                  replace H := Option.bind_eq_some_iff.mp H
                  obtain ⟨⟨t112, t113⟩, A300, H⟩ := H
                  replace H : ((fixed_GetBig.f t104).bind fun bt114 => (if t103 = 0 then (if t105 = 0 then (if t104.toList = t110.toList then ((hatchwayref02_Turned.f kj21 t110).bind fun t116 => (if t102.toList = t116.toList then (if t113 = 0 then (if t112 = a0 then (if bt114.2 = 0 then (some (bt114.1 == a0)) else (some false)) else (some false)) else (some false)) else (some false))) else (some false)) else (some false)) else (some false))) = some r := H
                  have A30 := Aside0.mk A300
                  clear A300
                  replace H := Option.bind_eq_some_iff.mp H
                  obtain ⟨⟨t114, t115⟩, A310, H⟩ := H
                  replace H : (if t103 = 0 then (if t105 = 0 then (if t104.toList = t110.toList then ((hatchwayref02_Turned.f kj21 t110).bind fun t116 => (if t102.toList = t116.toList then (if t113 = 0 then (if t112 = a0 then (if t115 = 0 then (some (t114 == a0)) else (some false)) else (some false)) else (some false)) else (some false))) else (some false)) else (some false)) else (some false)) = some r := H
                  have A31 := Aside0.mk A310
                  clear A310
                  by_cases c32 : t103 = 0
                  · rw [if_pos c32] at H
                    have c32b0 : (t103 == 0) = true := beq_iff_eq.mpr c32
                    have c32b1 : (t103 != 0) = false := bne_eq_false_iff_eq.mpr c32
                    clear c32
                    by_cases c33 : t105 = 0
                    · rw [if_pos c33] at H
                      have c33b0 : (t105 == 0) = true := beq_iff_eq.mpr c33
                      have c33b1 : (t105 != 0) = false := bne_eq_false_iff_eq.mpr c33
                      clear c33
                      by_cases c34 : t104.toList = t110.toList
                      · rw [if_pos c34] at H
                        have c34b0 : (t104.toList == t110.toList) = true := beq_iff_eq.mpr c34
                        have c34b1 : (t104.toList != t110.toList) = false := bne_eq_false_iff_eq.mpr c34
                        clear c34
                        replace H := Option.bind_eq_some_iff.mp H
                        obtain ⟨t116, A350, H⟩ := H
                        replace H : (if t102.toList = t116.toList then (if t113 = 0 then (if t112 = a0 then (if t115 = 0 then (some (t114 == a0)) else (some false)) else (some false)) else (some false)) else (some false)) = some r := H
                        have A35 := Aside0.mk A350
                        clear A350
                        by_cases c36 : t102.toList = t116.toList
                        · rw [if_pos c36] at H
                          have c36b0 : (t102.toList == t116.toList) = true := beq_iff_eq.mpr c36
                          have c36b1 : (t102.toList != t116.toList) = false := bne_eq_false_iff_eq.mpr c36
                          clear c36
                          by_cases c37 : t113 = 0
                          · rw [if_pos c37] at H
                            have c37b0 : (t113 == 0) = true := beq_iff_eq.mpr c37
                            have c37b1 : (t113 != 0) = false := bne_eq_false_iff_eq.mpr c37
                            clear c37
                            by_cases c38 : t112 = a0
                            · rw [if_pos c38] at H
                              have c38b0 : (t112 == a0) = true := beq_iff_eq.mpr c38
                              have c38b1 : (t112 != a0) = false := bne_eq_false_iff_eq.mpr c38
                              clear c38
                              by_cases c39 : t115 = 0
                              · rw [if_pos c39] at H
                                have c39b0 : (t115 == 0) = true := beq_iff_eq.mpr c39
                                have c39b1 : (t115 != 0) = false := bne_eq_false_iff_eq.mpr c39
                                clear c39
                                obtain rfl := Option.some.inj H
                                go_wp2_with (first | ((with_reducible refine gate_callee (f := 20) rfl ?_); refine goesL_ (some 75) rfl rfl Try.func20 (by kernel_rfl) rfl #[.int .u64 a0, .int .i64 a1] rfl (by (try simp only [List.map_toArray, List.map_cons, List.map_nil]); first | done | rfl | (simp only [List.length_drop, List.length_take]; rfl)) ?_; (with_reducible refine (hatchwayref02_Big.calls kj21 a0 a1 t110 true _ A28.out).mono ?_); rintro e w40 ⟨rfl, hb⟩; refine ⟨_, rfl, ?_⟩; have n0_ := Aside0.mk (below_step (by repeat (first | (with_reducible first | exact HB.out | apply below_alloc | apply pw_below_drewN | apply below_drew1) | exact HB.out)) hb); clear HB; have HB := n0_; clear n0_; (try clear hb); (try clear hb2); (try clear hk); (try clear hi)) | ((with_reducible refine gate_callee (f := 21) rfl ?_); refine goesL_ (some 96) rfl rfl Try.func21 (by kernel_rfl) rfl #[.string t102] rfl (by (try simp only [List.map_toArray, List.map_cons, List.map_nil]); first | done | rfl | (simp only [List.length_drop, List.length_take]; rfl)) ?_; (with_reducible refine (fixed_GetLittle.calls t102 t112 t113 _ A30.out).mono ?_); rintro e w41 ⟨rfl, hb⟩; refine ⟨_, rfl, ?_⟩; have n0_ := Aside0.mk (below_step (by repeat (first | (with_reducible first | exact HB.out | apply below_alloc | apply pw_below_drewN | apply below_drew1) | exact HB.out)) hb); clear HB; have HB := n0_; clear n0_; (try clear hb); (try clear hb2); (try clear hk); (try clear hi)) | ((with_reducible refine gate_callee (f := 22) rfl ?_); refine goesL_ (some 101) rfl rfl Try.func22 (by kernel_rfl) rfl #[.string t104] rfl (by (try simp only [List.map_toArray, List.map_cons, List.map_nil]); first | done | rfl | (simp only [List.length_drop, List.length_take]; rfl)) ?_; (with_reducible refine (fixed_GetBig.calls t104 t114 t115 _ A31.out).mono ?_); rintro e w42 ⟨rfl, hb⟩; refine ⟨_, rfl, ?_⟩; have n0_ := Aside0.mk (below_step (by repeat (first | (with_reducible first | exact HB.out | apply below_alloc | apply pw_below_drewN | apply below_drew1) | exact HB.out)) hb); clear HB; have HB := n0_; clear n0_; (try clear hb); (try clear hb2); (try clear hk); (try clear hi)) | (go_at_call 23; (with_reducible refine (hatchwayref02_Turned.calls kj21 t110 t116 _ A35.out).mono ?_); rintro e w' ⟨rfl, ⟨nd, rfl⟩⟩))
                                go_ret
                                exact ⟨by first | rfl | (simp [errW_none, errW_some] <;> rfl) | (simp [*, errW_none, errW_some] <;> rfl), by repeat (first | (with_reducible first | exact HB.out | apply below_alloc | apply pw_below_drewN | apply below_drew1) | exact HB.out)⟩
                              · rw [if_neg c39] at H
                                have c39b0 : (t115 == 0) = false := beq_eq_false_iff_ne.mpr c39
                                have c39b1 : (t115 != 0) = true := bne_iff_ne.mpr c39
                                obtain rfl := Option.some.inj H
                                go_wp2_with (first | ((with_reducible refine gate_callee (f := 20) rfl ?_); refine goesL_ (some 75) rfl rfl Try.func20 (by kernel_rfl) rfl #[.int .u64 a0, .int .i64 a1] rfl (by (try simp only [List.map_toArray, List.map_cons, List.map_nil]); first | done | rfl | (simp only [List.length_drop, List.length_take]; rfl)) ?_; (with_reducible refine (hatchwayref02_Big.calls kj21 a0 a1 t110 true _ A28.out).mono ?_); rintro e w43 ⟨rfl, hb⟩; refine ⟨_, rfl, ?_⟩; have n0_ := Aside0.mk (below_step (by repeat (first | (with_reducible first | exact HB.out | apply below_alloc | apply pw_below_drewN | apply below_drew1) | exact HB.out)) hb); clear HB; have HB := n0_; clear n0_; (try clear hb); (try clear hb2); (try clear hk); (try clear hi)) | ((with_reducible refine gate_callee (f := 21) rfl ?_); refine goesL_ (some 96) rfl rfl Try.func21 (by kernel_rfl) rfl #[.string t102] rfl (by (try simp only [List.map_toArray, List.map_cons, List.map_nil]); first | done | rfl | (simp only [List.length_drop, List.length_take]; rfl)) ?_; (with_reducible refine (fixed_GetLittle.calls t102 t112 t113 _ A30.out).mono ?_); rintro e w44 ⟨rfl, hb⟩; refine ⟨_, rfl, ?_⟩; have n0_ := Aside0.mk (below_step (by repeat (first | (with_reducible first | exact HB.out | apply below_alloc | apply pw_below_drewN | apply below_drew1) | exact HB.out)) hb); clear HB; have HB := n0_; clear n0_; (try clear hb); (try clear hb2); (try clear hk); (try clear hi)) | ((with_reducible refine gate_callee (f := 22) rfl ?_); refine goesL_ (some 101) rfl rfl Try.func22 (by kernel_rfl) rfl #[.string t104] rfl (by (try simp only [List.map_toArray, List.map_cons, List.map_nil]); first | done | rfl | (simp only [List.length_drop, List.length_take]; rfl)) ?_; (with_reducible refine (fixed_GetBig.calls t104 t114 t115 _ A31.out).mono ?_); rintro e w45 ⟨rfl, hb⟩; refine ⟨_, rfl, ?_⟩; have n0_ := Aside0.mk (below_step (by repeat (first | (with_reducible first | exact HB.out | apply below_alloc | apply pw_below_drewN | apply below_drew1) | exact HB.out)) hb); clear HB; have HB := n0_; clear n0_; (try clear hb); (try clear hb2); (try clear hk); (try clear hi)) | (go_at_call 23; (with_reducible refine (hatchwayref02_Turned.calls kj21 t110 t116 _ A35.out).mono ?_); rintro e w' ⟨rfl, ⟨nd, rfl⟩⟩))
                                go_ret
                                exact ⟨by first | rfl | (simp [errW_none, errW_some] <;> rfl) | (simp [*, errW_none, errW_some] <;> rfl), by repeat (first | (with_reducible first | exact HB.out | apply below_alloc | apply pw_below_drewN | apply below_drew1) | exact HB.out)⟩
                            · rw [if_neg c38] at H
                              have c38b0 : (t112 == a0) = false := beq_eq_false_iff_ne.mpr c38
                              have c38b1 : (t112 != a0) = true := bne_iff_ne.mpr c38
                              obtain rfl := Option.some.inj H
                              go_wp2_with (first | ((with_reducible refine gate_callee (f := 20) rfl ?_); refine goesL_ (some 75) rfl rfl Try.func20 (by kernel_rfl) rfl #[.int .u64 a0, .int .i64 a1] rfl (by (try simp only [List.map_toArray, List.map_cons, List.map_nil]); first | done | rfl | (simp only [List.length_drop, List.length_take]; rfl)) ?_; (with_reducible refine (hatchwayref02_Big.calls kj21 a0 a1 t110 true _ A28.out).mono ?_); rintro e w46 ⟨rfl, hb⟩; refine ⟨_, rfl, ?_⟩; have n0_ := Aside0.mk (below_step (by repeat (first | (with_reducible first | exact HB.out | apply below_alloc | apply pw_below_drewN | apply below_drew1) | exact HB.out)) hb); clear HB; have HB := n0_; clear n0_; (try clear hb); (try clear hb2); (try clear hk); (try clear hi)) | ((with_reducible refine gate_callee (f := 21) rfl ?_); refine goesL_ (some 96) rfl rfl Try.func21 (by kernel_rfl) rfl #[.string t102] rfl (by (try simp only [List.map_toArray, List.map_cons, List.map_nil]); first | done | rfl | (simp only [List.length_drop, List.length_take]; rfl)) ?_; (with_reducible refine (fixed_GetLittle.calls t102 t112 t113 _ A30.out).mono ?_); rintro e w47 ⟨rfl, hb⟩; refine ⟨_, rfl, ?_⟩; have n0_ := Aside0.mk (below_step (by repeat (first | (with_reducible first | exact HB.out | apply below_alloc | apply pw_below_drewN | apply below_drew1) | exact HB.out)) hb); clear HB; have HB := n0_; clear n0_; (try clear hb); (try clear hb2); (try clear hk); (try clear hi)) | ((with_reducible refine gate_callee (f := 22) rfl ?_); refine goesL_ (some 101) rfl rfl Try.func22 (by kernel_rfl) rfl #[.string t104] rfl (by (try simp only [List.map_toArray, List.map_cons, List.map_nil]); first | done | rfl | (simp only [List.length_drop, List.length_take]; rfl)) ?_; (with_reducible refine (fixed_GetBig.calls t104 t114 t115 _ A31.out).mono ?_); rintro e w48 ⟨rfl, hb⟩; refine ⟨_, rfl, ?_⟩; have n0_ := Aside0.mk (below_step (by repeat (first | (with_reducible first | exact HB.out | apply below_alloc | apply pw_below_drewN | apply below_drew1) | exact HB.out)) hb); clear HB; have HB := n0_; clear n0_; (try clear hb); (try clear hb2); (try clear hk); (try clear hi)) | (go_at_call 23; (with_reducible refine (hatchwayref02_Turned.calls kj21 t110 t116 _ A35.out).mono ?_); rintro e w' ⟨rfl, ⟨nd, rfl⟩⟩))
                              go_ret
                              exact ⟨by first | rfl | (simp [errW_none, errW_some] <;> rfl) | (simp [*, errW_none, errW_some] <;> rfl), by repeat (first | (with_reducible first | exact HB.out | apply below_alloc | apply pw_below_drewN | apply below_drew1) | exact HB.out)⟩
                          · rw [if_neg c37] at H
                            have c37b0 : (t113 == 0) = false := beq_eq_false_iff_ne.mpr c37
                            have c37b1 : (t113 != 0) = true := bne_iff_ne.mpr c37
                            obtain rfl := Option.some.inj H
                            go_wp2_with (first | ((with_reducible refine gate_callee (f := 20) rfl ?_); refine goesL_ (some 75) rfl rfl Try.func20 (by kernel_rfl) rfl #[.int .u64 a0, .int .i64 a1] rfl (by (try simp only [List.map_toArray, List.map_cons, List.map_nil]); first | done | rfl | (simp only [List.length_drop, List.length_take]; rfl)) ?_; (with_reducible refine (hatchwayref02_Big.calls kj21 a0 a1 t110 true _ A28.out).mono ?_); rintro e w49 ⟨rfl, hb⟩; refine ⟨_, rfl, ?_⟩; have n0_ := Aside0.mk (below_step (by repeat (first | (with_reducible first | exact HB.out | apply below_alloc | apply pw_below_drewN | apply below_drew1) | exact HB.out)) hb); clear HB; have HB := n0_; clear n0_; (try clear hb); (try clear hb2); (try clear hk); (try clear hi)) | ((with_reducible refine gate_callee (f := 21) rfl ?_); refine goesL_ (some 96) rfl rfl Try.func21 (by kernel_rfl) rfl #[.string t102] rfl (by (try simp only [List.map_toArray, List.map_cons, List.map_nil]); first | done | rfl | (simp only [List.length_drop, List.length_take]; rfl)) ?_; (with_reducible refine (fixed_GetLittle.calls t102 t112 t113 _ A30.out).mono ?_); rintro e w50 ⟨rfl, hb⟩; refine ⟨_, rfl, ?_⟩; have n0_ := Aside0.mk (below_step (by repeat (first | (with_reducible first | exact HB.out | apply below_alloc | apply pw_below_drewN | apply below_drew1) | exact HB.out)) hb); clear HB; have HB := n0_; clear n0_; (try clear hb); (try clear hb2); (try clear hk); (try clear hi)) | ((with_reducible refine gate_callee (f := 22) rfl ?_); refine goesL_ (some 101) rfl rfl Try.func22 (by kernel_rfl) rfl #[.string t104] rfl (by (try simp only [List.map_toArray, List.map_cons, List.map_nil]); first | done | rfl | (simp only [List.length_drop, List.length_take]; rfl)) ?_; (with_reducible refine (fixed_GetBig.calls t104 t114 t115 _ A31.out).mono ?_); rintro e w51 ⟨rfl, hb⟩; refine ⟨_, rfl, ?_⟩; have n0_ := Aside0.mk (below_step (by repeat (first | (with_reducible first | exact HB.out | apply below_alloc | apply pw_below_drewN | apply below_drew1) | exact HB.out)) hb); clear HB; have HB := n0_; clear n0_; (try clear hb); (try clear hb2); (try clear hk); (try clear hi)) | (go_at_call 23; (with_reducible refine (hatchwayref02_Turned.calls kj21 t110 t116 _ A35.out).mono ?_); rintro e w' ⟨rfl, ⟨nd, rfl⟩⟩))
                            go_ret
                            exact ⟨by first | rfl | (simp [errW_none, errW_some] <;> rfl) | (simp [*, errW_none, errW_some] <;> rfl), by repeat (first | (with_reducible first | exact HB.out | apply below_alloc | apply pw_below_drewN | apply below_drew1) | exact HB.out)⟩
                        · rw [if_neg c36] at H
                          have c36b0 : (t102.toList == t116.toList) = false := beq_eq_false_iff_ne.mpr c36
                          have c36b1 : (t102.toList != t116.toList) = true := bne_iff_ne.mpr c36
                          obtain rfl := Option.some.inj H
                          go_wp2_with (first | ((with_reducible refine gate_callee (f := 20) rfl ?_); refine goesL_ (some 75) rfl rfl Try.func20 (by kernel_rfl) rfl #[.int .u64 a0, .int .i64 a1] rfl (by (try simp only [List.map_toArray, List.map_cons, List.map_nil]); first | done | rfl | (simp only [List.length_drop, List.length_take]; rfl)) ?_; (with_reducible refine (hatchwayref02_Big.calls kj21 a0 a1 t110 true _ A28.out).mono ?_); rintro e w52 ⟨rfl, hb⟩; refine ⟨_, rfl, ?_⟩; have n0_ := Aside0.mk (below_step (by repeat (first | (with_reducible first | exact HB.out | apply below_alloc | apply pw_below_drewN | apply below_drew1) | exact HB.out)) hb); clear HB; have HB := n0_; clear n0_; (try clear hb); (try clear hb2); (try clear hk); (try clear hi)) | ((with_reducible refine gate_callee (f := 21) rfl ?_); refine goesL_ (some 96) rfl rfl Try.func21 (by kernel_rfl) rfl #[.string t102] rfl (by (try simp only [List.map_toArray, List.map_cons, List.map_nil]); first | done | rfl | (simp only [List.length_drop, List.length_take]; rfl)) ?_; (with_reducible refine (fixed_GetLittle.calls t102 t112 t113 _ A30.out).mono ?_); rintro e w53 ⟨rfl, hb⟩; refine ⟨_, rfl, ?_⟩; have n0_ := Aside0.mk (below_step (by repeat (first | (with_reducible first | exact HB.out | apply below_alloc | apply pw_below_drewN | apply below_drew1) | exact HB.out)) hb); clear HB; have HB := n0_; clear n0_; (try clear hb); (try clear hb2); (try clear hk); (try clear hi)) | ((with_reducible refine gate_callee (f := 22) rfl ?_); refine goesL_ (some 101) rfl rfl Try.func22 (by kernel_rfl) rfl #[.string t104] rfl (by (try simp only [List.map_toArray, List.map_cons, List.map_nil]); first | done | rfl | (simp only [List.length_drop, List.length_take]; rfl)) ?_; (with_reducible refine (fixed_GetBig.calls t104 t114 t115 _ A31.out).mono ?_); rintro e w54 ⟨rfl, hb⟩; refine ⟨_, rfl, ?_⟩; have n0_ := Aside0.mk (below_step (by repeat (first | (with_reducible first | exact HB.out | apply below_alloc | apply pw_below_drewN | apply below_drew1) | exact HB.out)) hb); clear HB; have HB := n0_; clear n0_; (try clear hb); (try clear hb2); (try clear hk); (try clear hi)) | (go_at_call 23; (with_reducible refine (hatchwayref02_Turned.calls kj21 t110 t116 _ A35.out).mono ?_); rintro e w' ⟨rfl, ⟨nd, rfl⟩⟩))
                          go_ret
                          exact ⟨by first | rfl | (simp [errW_none, errW_some] <;> rfl) | (simp [*, errW_none, errW_some] <;> rfl), by repeat (first | (with_reducible first | exact HB.out | apply below_alloc | apply pw_below_drewN | apply below_drew1) | exact HB.out)⟩
                      · rw [if_neg c34] at H
                        have c34b0 : (t104.toList == t110.toList) = false := beq_eq_false_iff_ne.mpr c34
                        have c34b1 : (t104.toList != t110.toList) = true := bne_iff_ne.mpr c34
                        obtain rfl := Option.some.inj H
                        go_wp2_with (first | ((with_reducible refine gate_callee (f := 20) rfl ?_); refine goesL_ (some 75) rfl rfl Try.func20 (by kernel_rfl) rfl #[.int .u64 a0, .int .i64 a1] rfl (by (try simp only [List.map_toArray, List.map_cons, List.map_nil]); first | done | rfl | (simp only [List.length_drop, List.length_take]; rfl)) ?_; (with_reducible refine (hatchwayref02_Big.calls kj21 a0 a1 t110 true _ A28.out).mono ?_); rintro e w55 ⟨rfl, hb⟩; refine ⟨_, rfl, ?_⟩; have n0_ := Aside0.mk (below_step (by repeat (first | (with_reducible first | exact HB.out | apply below_alloc | apply pw_below_drewN | apply below_drew1) | exact HB.out)) hb); clear HB; have HB := n0_; clear n0_; (try clear hb); (try clear hb2); (try clear hk); (try clear hi)) | ((with_reducible refine gate_callee (f := 21) rfl ?_); refine goesL_ (some 96) rfl rfl Try.func21 (by kernel_rfl) rfl #[.string t102] rfl (by (try simp only [List.map_toArray, List.map_cons, List.map_nil]); first | done | rfl | (simp only [List.length_drop, List.length_take]; rfl)) ?_; (with_reducible refine (fixed_GetLittle.calls t102 t112 t113 _ A30.out).mono ?_); rintro e w56 ⟨rfl, hb⟩; refine ⟨_, rfl, ?_⟩; have n0_ := Aside0.mk (below_step (by repeat (first | (with_reducible first | exact HB.out | apply below_alloc | apply pw_below_drewN | apply below_drew1) | exact HB.out)) hb); clear HB; have HB := n0_; clear n0_; (try clear hb); (try clear hb2); (try clear hk); (try clear hi)) | ((with_reducible refine gate_callee (f := 22) rfl ?_); refine goesL_ (some 101) rfl rfl Try.func22 (by kernel_rfl) rfl #[.string t104] rfl (by (try simp only [List.map_toArray, List.map_cons, List.map_nil]); first | done | rfl | (simp only [List.length_drop, List.length_take]; rfl)) ?_; (with_reducible refine (fixed_GetBig.calls t104 t114 t115 _ A31.out).mono ?_); rintro e w57 ⟨rfl, hb⟩; refine ⟨_, rfl, ?_⟩; have n0_ := Aside0.mk (below_step (by repeat (first | (with_reducible first | exact HB.out | apply below_alloc | apply pw_below_drewN | apply below_drew1) | exact HB.out)) hb); clear HB; have HB := n0_; clear n0_; (try clear hb); (try clear hb2); (try clear hk); (try clear hi)))
                        go_ret
                        exact ⟨by first | rfl | (simp [errW_none, errW_some] <;> rfl) | (simp [*, errW_none, errW_some] <;> rfl), by repeat (first | (with_reducible first | exact HB.out | apply below_alloc | apply pw_below_drewN | apply below_drew1) | exact HB.out)⟩
                    · rw [if_neg c33] at H
                      have c33b0 : (t105 == 0) = false := beq_eq_false_iff_ne.mpr c33
                      have c33b1 : (t105 != 0) = true := bne_iff_ne.mpr c33
                      obtain rfl := Option.some.inj H
                      go_wp2_with (first | ((with_reducible refine gate_callee (f := 20) rfl ?_); refine goesL_ (some 75) rfl rfl Try.func20 (by kernel_rfl) rfl #[.int .u64 a0, .int .i64 a1] rfl (by (try simp only [List.map_toArray, List.map_cons, List.map_nil]); first | done | rfl | (simp only [List.length_drop, List.length_take]; rfl)) ?_; (with_reducible refine (hatchwayref02_Big.calls kj21 a0 a1 t110 true _ A28.out).mono ?_); rintro e w58 ⟨rfl, hb⟩; refine ⟨_, rfl, ?_⟩; have n0_ := Aside0.mk (below_step (by repeat (first | (with_reducible first | exact HB.out | apply below_alloc | apply pw_below_drewN | apply below_drew1) | exact HB.out)) hb); clear HB; have HB := n0_; clear n0_; (try clear hb); (try clear hb2); (try clear hk); (try clear hi)) | ((with_reducible refine gate_callee (f := 21) rfl ?_); refine goesL_ (some 96) rfl rfl Try.func21 (by kernel_rfl) rfl #[.string t102] rfl (by (try simp only [List.map_toArray, List.map_cons, List.map_nil]); first | done | rfl | (simp only [List.length_drop, List.length_take]; rfl)) ?_; (with_reducible refine (fixed_GetLittle.calls t102 t112 t113 _ A30.out).mono ?_); rintro e w59 ⟨rfl, hb⟩; refine ⟨_, rfl, ?_⟩; have n0_ := Aside0.mk (below_step (by repeat (first | (with_reducible first | exact HB.out | apply below_alloc | apply pw_below_drewN | apply below_drew1) | exact HB.out)) hb); clear HB; have HB := n0_; clear n0_; (try clear hb); (try clear hb2); (try clear hk); (try clear hi)) | ((with_reducible refine gate_callee (f := 22) rfl ?_); refine goesL_ (some 101) rfl rfl Try.func22 (by kernel_rfl) rfl #[.string t104] rfl (by (try simp only [List.map_toArray, List.map_cons, List.map_nil]); first | done | rfl | (simp only [List.length_drop, List.length_take]; rfl)) ?_; (with_reducible refine (fixed_GetBig.calls t104 t114 t115 _ A31.out).mono ?_); rintro e w60 ⟨rfl, hb⟩; refine ⟨_, rfl, ?_⟩; have n0_ := Aside0.mk (below_step (by repeat (first | (with_reducible first | exact HB.out | apply below_alloc | apply pw_below_drewN | apply below_drew1) | exact HB.out)) hb); clear HB; have HB := n0_; clear n0_; (try clear hb); (try clear hb2); (try clear hk); (try clear hi)))
                      go_ret
                      exact ⟨by first | rfl | (simp [errW_none, errW_some] <;> rfl) | (simp [*, errW_none, errW_some] <;> rfl), by repeat (first | (with_reducible first | exact HB.out | apply below_alloc | apply pw_below_drewN | apply below_drew1) | exact HB.out)⟩
                  · rw [if_neg c32] at H
                    have c32b0 : (t103 == 0) = false := beq_eq_false_iff_ne.mpr c32
                    have c32b1 : (t103 != 0) = true := bne_iff_ne.mpr c32
                    obtain rfl := Option.some.inj H
                    go_wp2_with (first | ((with_reducible refine gate_callee (f := 20) rfl ?_); refine goesL_ (some 75) rfl rfl Try.func20 (by kernel_rfl) rfl #[.int .u64 a0, .int .i64 a1] rfl (by (try simp only [List.map_toArray, List.map_cons, List.map_nil]); first | done | rfl | (simp only [List.length_drop, List.length_take]; rfl)) ?_; (with_reducible refine (hatchwayref02_Big.calls kj21 a0 a1 t110 true _ A28.out).mono ?_); rintro e w61 ⟨rfl, hb⟩; refine ⟨_, rfl, ?_⟩; have n0_ := Aside0.mk (below_step (by repeat (first | (with_reducible first | exact HB.out | apply below_alloc | apply pw_below_drewN | apply below_drew1) | exact HB.out)) hb); clear HB; have HB := n0_; clear n0_; (try clear hb); (try clear hb2); (try clear hk); (try clear hi)) | ((with_reducible refine gate_callee (f := 21) rfl ?_); refine goesL_ (some 96) rfl rfl Try.func21 (by kernel_rfl) rfl #[.string t102] rfl (by (try simp only [List.map_toArray, List.map_cons, List.map_nil]); first | done | rfl | (simp only [List.length_drop, List.length_take]; rfl)) ?_; (with_reducible refine (fixed_GetLittle.calls t102 t112 t113 _ A30.out).mono ?_); rintro e w62 ⟨rfl, hb⟩; refine ⟨_, rfl, ?_⟩; have n0_ := Aside0.mk (below_step (by repeat (first | (with_reducible first | exact HB.out | apply below_alloc | apply pw_below_drewN | apply below_drew1) | exact HB.out)) hb); clear HB; have HB := n0_; clear n0_; (try clear hb); (try clear hb2); (try clear hk); (try clear hi)) | ((with_reducible refine gate_callee (f := 22) rfl ?_); refine goesL_ (some 101) rfl rfl Try.func22 (by kernel_rfl) rfl #[.string t104] rfl (by (try simp only [List.map_toArray, List.map_cons, List.map_nil]); first | done | rfl | (simp only [List.length_drop, List.length_take]; rfl)) ?_; (with_reducible refine (fixed_GetBig.calls t104 t114 t115 _ A31.out).mono ?_); rintro e w63 ⟨rfl, hb⟩; refine ⟨_, rfl, ?_⟩; have n0_ := Aside0.mk (below_step (by repeat (first | (with_reducible first | exact HB.out | apply below_alloc | apply pw_below_drewN | apply below_drew1) | exact HB.out)) hb); clear HB; have HB := n0_; clear n0_; (try clear hb); (try clear hb2); (try clear hk); (try clear hi)))
                    go_ret
                    exact ⟨by first | rfl | (simp [errW_none, errW_some] <;> rfl) | (simp [*, errW_none, errW_some] <;> rfl), by repeat (first | (with_reducible first | exact HB.out | apply below_alloc | apply pw_below_drewN | apply below_drew1) | exact HB.out)⟩
                · replace c29 := Bool.eq_false_iff.mpr c29
                  subst c29
                  have H1 : (if t103 = 5 then (if t105 = 5 then (if t102.toList = ([] : List UInt8) then (some (t104.toList == ([] : List UInt8))) else (some false)) else (some false)) else (some false)) = some r := by rw [if_neg (show ¬ (false = true) by decide)] at H; exact H
                  clear H
                  have H := H1
                  clear H1
                  by_cases c64 : t103 = 5
                  · rw [if_pos c64] at H
                    have c64b0 : (t103 == 5) = true := beq_iff_eq.mpr c64
                    have c64b1 : (t103 != 5) = false := bne_eq_false_iff_eq.mpr c64
                    clear c64
                    by_cases c65 : t105 = 5
                    · rw [if_pos c65] at H
                      have c65b0 : (t105 == 5) = true := beq_iff_eq.mpr c65
                      have c65b1 : (t105 != 5) = false := bne_eq_false_iff_eq.mpr c65
                      clear c65
                      by_cases c66 : t102.toList = ([] : List UInt8)
                      · rw [if_pos c66] at H
                        have c66b0 : (t102.toList == ([] : List UInt8)) = true := beq_iff_eq.mpr c66
                        have c66b1 : (t102.toList != ([] : List UInt8)) = false := bne_eq_false_iff_eq.mpr c66
                        clear c66
                        obtain rfl := Option.some.inj H
                        go_wp2_with (first | ((with_reducible refine gate_callee (f := 20) rfl ?_); refine goesL_ (some 75) rfl rfl Try.func20 (by kernel_rfl) rfl #[.int .u64 a0, .int .i64 a1] rfl (by (try simp only [List.map_toArray, List.map_cons, List.map_nil]); first | done | rfl | (simp only [List.length_drop, List.length_take]; rfl)) ?_; (with_reducible refine (hatchwayref02_Big.calls kj21 a0 a1 t110 false _ A28.out).mono ?_); rintro e w67 ⟨rfl, hb⟩; refine ⟨_, rfl, ?_⟩; have n0_ := Aside0.mk (below_step (by repeat (first | (with_reducible first | exact HB.out | apply below_alloc | apply pw_below_drewN | apply below_drew1) | exact HB.out)) hb); clear HB; have HB := n0_; clear n0_; (try clear hb); (try clear hb2); (try clear hk); (try clear hi)))
                        go_ret
                        exact ⟨by first | rfl | (simp [errW_none, errW_some] <;> rfl) | (simp [*, errW_none, errW_some] <;> rfl), by repeat (first | (with_reducible first | exact HB.out | apply below_alloc | apply pw_below_drewN | apply below_drew1) | exact HB.out)⟩
                      · rw [if_neg c66] at H
                        have c66b0 : (t102.toList == ([] : List UInt8)) = false := beq_eq_false_iff_ne.mpr c66
                        have c66b1 : (t102.toList != ([] : List UInt8)) = true := bne_iff_ne.mpr c66
                        obtain rfl := Option.some.inj H
                        go_wp2_with (first | ((with_reducible refine gate_callee (f := 20) rfl ?_); refine goesL_ (some 75) rfl rfl Try.func20 (by kernel_rfl) rfl #[.int .u64 a0, .int .i64 a1] rfl (by (try simp only [List.map_toArray, List.map_cons, List.map_nil]); first | done | rfl | (simp only [List.length_drop, List.length_take]; rfl)) ?_; (with_reducible refine (hatchwayref02_Big.calls kj21 a0 a1 t110 false _ A28.out).mono ?_); rintro e w68 ⟨rfl, hb⟩; refine ⟨_, rfl, ?_⟩; have n0_ := Aside0.mk (below_step (by repeat (first | (with_reducible first | exact HB.out | apply below_alloc | apply pw_below_drewN | apply below_drew1) | exact HB.out)) hb); clear HB; have HB := n0_; clear n0_; (try clear hb); (try clear hb2); (try clear hk); (try clear hi)))
                        go_ret
                        exact ⟨by first | rfl | (simp [errW_none, errW_some] <;> rfl) | (simp [*, errW_none, errW_some] <;> rfl), by repeat (first | (with_reducible first | exact HB.out | apply below_alloc | apply pw_below_drewN | apply below_drew1) | exact HB.out)⟩
                    · rw [if_neg c65] at H
                      have c65b0 : (t105 == 5) = false := beq_eq_false_iff_ne.mpr c65
                      have c65b1 : (t105 != 5) = true := bne_iff_ne.mpr c65
                      obtain rfl := Option.some.inj H
                      go_wp2_with (first | ((with_reducible refine gate_callee (f := 20) rfl ?_); refine goesL_ (some 75) rfl rfl Try.func20 (by kernel_rfl) rfl #[.int .u64 a0, .int .i64 a1] rfl (by (try simp only [List.map_toArray, List.map_cons, List.map_nil]); first | done | rfl | (simp only [List.length_drop, List.length_take]; rfl)) ?_; (with_reducible refine (hatchwayref02_Big.calls kj21 a0 a1 t110 false _ A28.out).mono ?_); rintro e w69 ⟨rfl, hb⟩; refine ⟨_, rfl, ?_⟩; have n0_ := Aside0.mk (below_step (by repeat (first | (with_reducible first | exact HB.out | apply below_alloc | apply pw_below_drewN | apply below_drew1) | exact HB.out)) hb); clear HB; have HB := n0_; clear n0_; (try clear hb); (try clear hb2); (try clear hk); (try clear hi)))
                      go_ret
                      exact ⟨by first | rfl | (simp [errW_none, errW_some] <;> rfl) | (simp [*, errW_none, errW_some] <;> rfl), by repeat (first | (with_reducible first | exact HB.out | apply below_alloc | apply pw_below_drewN | apply below_drew1) | exact HB.out)⟩
                  · rw [if_neg c64] at H
                    have c64b0 : (t103 == 5) = false := beq_eq_false_iff_ne.mpr c64
                    have c64b1 : (t103 != 5) = true := bne_iff_ne.mpr c64
                    obtain rfl := Option.some.inj H
                    go_wp2_with (first | ((with_reducible refine gate_callee (f := 20) rfl ?_); refine goesL_ (some 75) rfl rfl Try.func20 (by kernel_rfl) rfl #[.int .u64 a0, .int .i64 a1] rfl (by (try simp only [List.map_toArray, List.map_cons, List.map_nil]); first | done | rfl | (simp only [List.length_drop, List.length_take]; rfl)) ?_; (with_reducible refine (hatchwayref02_Big.calls kj21 a0 a1 t110 false _ A28.out).mono ?_); rintro e w70 ⟨rfl, hb⟩; refine ⟨_, rfl, ?_⟩; have n0_ := Aside0.mk (below_step (by repeat (first | (with_reducible first | exact HB.out | apply below_alloc | apply pw_below_drewN | apply below_drew1) | exact HB.out)) hb); clear HB; have HB := n0_; clear n0_; (try clear hb); (try clear hb2); (try clear hk); (try clear hi)))
                    go_ret
                    exact ⟨by first | rfl | (simp [errW_none, errW_some] <;> rfl) | (simp [*, errW_none, errW_some] <;> rfl), by repeat (first | (with_reducible first | exact HB.out | apply below_alloc | apply pw_below_drewN | apply below_drew1) | exact HB.out)⟩
  · replace c4 := Bool.eq_false_iff.mpr c4
    subst c4
    have H1 : (some false) = some r := by rw [if_neg (show ¬ (false = true) by decide)] at H; exact H
    clear H
    have H := H1
    clear H1
    obtain rfl := Option.some.inj H
    go_enter Try.func4, Try.ntmps4
    go_wp2_with (first | ((with_reducible refine gate_callee (f := 14) rfl ?_); refine goesL_ (some 18) rfl rfl Try.func14 (by kernel_rfl) rfl #[] rfl (by (try simp only [List.map_toArray, List.map_cons, List.map_nil]); first | done | rfl | (simp only [List.length_drop, List.length_take]; rfl)) ?_; (with_reducible refine (hatchwaylaw02_alive.calls k  false _ A3.out).mono ?_); rintro e w71 ⟨rfl, hb⟩; refine ⟨_, rfl, ?_⟩; have n0_ := Aside0.mk (below_step (by repeat (first | (with_reducible first | exact HB.out | apply below_alloc | apply pw_below_drewN | apply below_drew1) | exact HB.out)) hb); clear HB; have HB := n0_; clear n0_; (try clear hb); (try clear hb2); (try clear hk); (try clear hi)))
    go_ret
    exact ⟨by first | rfl | (simp [errW_none, errW_some] <;> rfl) | (simp [*, errW_none, errW_some] <;> rfl), by repeat (first | (with_reducible first | exact HB.out | apply below_alloc | apply pw_below_drewN | apply below_drew1) | exact HB.out)⟩

/-- THE ONE PURE STATEMENT of hatchwaylaw02_FixedPuts: yours. -/
def hatchwaylaw02_FixedPuts.Pure : Prop := ∀ (a0 : Int) (a1 : Int), (Lit.int .u64 a0).wf = true → (Lit.int .i64 a1).wf = true → ∃ k, hatchwaylaw02_FixedPuts.f k a0 a1 = some true
theorem hatchwaylaw02_FixedPuts.walk (P : hatchwaylaw02_FixedPuts.Pure) (a0 : Int) (a1 : Int) (w : World) (w0 : (Lit.int .u64 a0).wf = true) (w1 : (Lit.int .i64 a1).wf = true) :
    Calls Try.prog 4 #[.int .u64 a0, .int .i64 a1] w fun e w' => e = .returned (.bool true) ∧ Below w.heap.size w w' := by
  obtain ⟨k, h⟩ := P a0 a1 w0 w1
  refine (hatchwaylaw02_FixedPuts.calls k a0 a1 true w h).mono ?_
  rintro e w' ⟨rfl, hd⟩
  exact ⟨rfl, hd⟩

end Go.Proofs.Yteoibgpkimlahaa.P
