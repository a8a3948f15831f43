-- out of the translation, by a program of this session (wip/tools/pr.py)
import Derived.Test.YteoibgpkimlahaaDoorF0
import Derived.Test.YteoibgpkimlahaaDoorFFixedLittle
import Derived.Test.YteoibgpkimlahaaDoorQFixedPut
import Derived.LoopN
namespace Go.Proofs.YteoibgpkimlahaaDoor.P
open Go.RowKit Go.Proofs.YteoibgpkimlahaaDoorW.PrintWords Go.Proofs.YteoibgpkimlahaaDoorW.PrintLast Go.Proofs.YteoibgpkimlahaaDoorW.PrintMore
attribute [local go_sem] max2_int min2_int max_two min_two max_three min_three max_four min_four   -- for this text's walks alone
set_option linter.unusedVariables false
set_option linter.unusedSimpArgs false

/-! ### compact_Put: function 15 -/
--import Derived.Test.YteoibgpkimlahaaDoorQFixedPut
--import Derived.LoopN
/-- The bytes of a compact number. -/
def compL (n : Int) : List Int := if n < 253 then [n] else if n < 65536 then 253 :: leL n 2 else if n < 4294967296 then 254 :: leL n 4 else 255 :: leL n 8
def compact_Put.f (a0 : Int) : Option (ByteArray) := if 0 ≤ a0 ∧ a0 < 18446744073709551616 then some (strOfNums (compL a0)) else none
/-- The package's table of sizes lies as its initialiser lays it. -/
structure G_sizes (w : World) : Prop where
  at0 : w.cell? ⟨0, 0, none⟩ = some (.int .i64 2)
  at1 : w.cell? ⟨0, 1, none⟩ = some (.int .i64 4)
  at2 : w.cell? ⟨0, 2, none⟩ = some (.int .i64 8)
theorem G_sizes.below {w w' : World} (h : G_sizes w) (hb : Below w.heap.size w w') : G_sizes w' := ⟨pw_cell_below hb h.at0, pw_cell_below hb h.at1, pw_cell_below hb h.at2⟩
theorem one_byte {P : Program} (src dst e : TypeId) (hs : P.underlying src = some (.slice e)) (he : P.underlying e = some (.int .u8)) (hd : P.underlying dst = some .string) (W : World) (x : Int) :
    (convert src dst (.slice (some ⟨W.heap.size, 0, none⟩) 1 1)).run P (W.alloc (.cells #[.int .u8 x] e)) = .ok (.string (strOfNums [x])) (W.alloc (.cells #[.int .u8 x] e)) :=
  Kd.C_string hs he hd (Kd.C_of_reads (d := (0 : Int)) (h1 := fun _ => rfl) ⟨rfl, by decide, fun _ => ⟨_, rfl, fun j hj => by obtain rfl : j = 0 := by simp at hj; exact hj
                                                                                                                              exact (World.cell?_alloc_new _ _ _ _).trans rfl⟩⟩)
set_option maxHeartbeats 8000000 in
set_option maxRecDepth 100000 in
theorem compact_Put.calls (a0 : Int) (r : ByteArray) (w : World) (hG_sizes : G_sizes w) (h : compact_Put.f a0 = some r) :
    Calls Tryd.prog 15 #[.int .u64 a0] w fun e w' => e = .returned (.string r) ∧ Below w.heap.size w w' := by
  have HB := Aside0.mk (Below.refl w.heap.size w)
  unfold compact_Put.f at h
  by_cases c0 : 0 ≤ a0 ∧ a0 < 18446744073709551616
  · rw [if_pos c0] at h
    injection h with h
    have H1 := Aside0.mk h
    clear h
    by_cases c1 : a0 < 253
    · have H2 : compL a0 = [a0] := by unfold compL; rw [if_pos c1]
      rw [H2] at H1
      have H1 := H1
      have b1 : decide (a0 < 253) = true := decide_eq_true c1
      have e1 : a0 % 256 = a0 := by omega
      have E1 := Aside0.mk e1
      clear c0 c1 e1 H2 hG_sizes
      have hcv := one_byte (P := Tryd.prog) 66 9 5 Tryd.underlying66 Tryd.underlying5 Tryd.underlying9
      go_enter Tryd.func15, Tryd.ntmps15
      go_wp2
      go_ret
      exact ⟨by show Ending.returned (Value.string (strOfNums [a0 % 256])) = _; rw [E1.out, H1.out], below_alloc HB.out _⟩
    · have b1 : decide (a0 < 253) = false := decide_eq_false c1
      obtain ⟨c00, c01⟩ := c0
      obtain ⟨g0, g1, g2⟩ := hG_sizes
      have i0 : ∀ W, (Instr.index 67 (.agg #[.int .i64 2, .int .i64 4, .int .i64 8]) (.int .i64 0)).run Tryd.prog W = .ok (.int .i64 2) W := fun _ => by kernel_rfl
      have i1 : ∀ W, (Instr.index 67 (.agg #[.int .i64 2, .int .i64 4, .int .i64 8]) (.int .i64 1)).run Tryd.prog W = .ok (.int .i64 4) W := fun _ => by kernel_rfl
      have i2 : ∀ W, (Instr.index 67 (.agg #[.int .i64 2, .int .i64 4, .int .i64 8]) (.int .i64 2)).run Tryd.prog W = .ok (.int .i64 8) W := fun _ => by kernel_rfl
      have hcv := one_byte (P := Tryd.prog) 66 9 5 Tryd.underlying66 Tryd.underlying5 Tryd.underlying9
      have zc : ∀ b m : Nat, (9223372036854775807 < (strOfNums [(b : Int)]).size + (strOfNums (leL a0 m)).size) = (9223372036854775806 < m) := fun b m => by rw [strOfNums_size, strOfNums_size, leL_length, List.length_singleton]; exact propext ⟨fun _ => by omega, fun _ => by omega⟩
      by_cases c2 : a0 < 65536
      · have H2 : compL a0 = 253 :: leL a0 2 := by unfold compL; rw [if_neg c1, if_pos c2]
        rw [H2, show (253 :: leL a0 2) = [253] ++ leL a0 2 from rfl, str_append] at H1
        have B2 := Aside0.mk (show fixed_Little.f a0 2 = _ from put_ok false a0 2 c00 (by omega) (by omega) (.inr ((sz_le 2 a0 c00).2 (by omega))))
        have zc1 := zc 253 2
        clear H2 zc c00 c01 c1 c2
        go_enter Tryd.func15, Tryd.ntmps15
        go_wp2_with fail
        refine wp_loop_rounds 3 ?_
        rw [rounds_succ]
        go_wp2_with fail
        refine (fixed_Little.calls a0 2 _ _ _ B2.out).mono ?_
        rintro e w2 ⟨rfl, hb⟩
        have HB2 := Aside0.mk (below_step HB.out hb)
        clear hb HB
        have HB := HB2
        clear HB2
        try clear g0 g1 g2
        go_wp2
        go_ret
        exact ⟨by show Ending.returned (Value.string (strOfNums [253] ++ strOfNums (leL a0 2))) = _; rw [← H1.out], below_alloc HB.out _⟩
      · by_cases c3 : a0 < 4294967296
        · have H2 : compL a0 = 254 :: leL a0 4 := by unfold compL; rw [if_neg c1, if_neg c2, if_pos c3]
          rw [H2, show (254 :: leL a0 4) = [254] ++ leL a0 4 from rfl, str_append] at H1
          have B2 := Aside0.mk (show fixed_Little.f a0 2 = _ from put_over false a0 2 c00 (by omega) (by omega) (by have := sz_le 2 a0 c00; omega))
          have B4 := Aside0.mk (show fixed_Little.f a0 4 = _ from put_ok false a0 4 c00 (by omega) (by omega) (.inr ((sz_le 4 a0 c00).2 (by omega))))
          have zc1 := zc 254 4
          clear H2 zc c00 c01 c1 c2 c3
          go_enter Tryd.func15, Tryd.ntmps15
          go_wp2_with fail
          refine wp_loop_rounds 3 ?_
          rw [rounds_succ]
          go_wp2_with fail
          refine (fixed_Little.calls a0 2 _ _ _ B2.out).mono ?_
          rintro e w2 ⟨rfl, hb⟩
          have HB2 := Aside0.mk (below_step HB.out hb)
          clear hb HB
          have HB := HB2
          clear HB2
          skip
          go_wp2_with fail
          rw [rounds_succ]
          go_wp2_with fail
          refine (fixed_Little.calls a0 4 _ _ _ B4.out).mono ?_
          rintro e w4 ⟨rfl, hb⟩
          have HB4 := Aside0.mk (below_step HB.out hb)
          clear hb HB
          have HB := HB4
          clear HB4
          try clear g0 g1 g2
          go_wp2
          go_ret
          exact ⟨by show Ending.returned (Value.string (strOfNums [254] ++ strOfNums (leL a0 4))) = _; rw [← H1.out], below_alloc HB.out _⟩
        · have H2 : compL a0 = 255 :: leL a0 8 := by unfold compL; rw [if_neg c1, if_neg c2, if_neg c3]
          rw [H2, show (255 :: leL a0 8) = [255] ++ leL a0 8 from rfl, str_append] at H1
          have B2 := Aside0.mk (show fixed_Little.f a0 2 = _ from put_over false a0 2 c00 (by omega) (by omega) (by have := sz_le 2 a0 c00; omega))
          have B4 := Aside0.mk (show fixed_Little.f a0 4 = _ from put_over false a0 4 c00 (by omega) (by omega) (by have := sz_le 4 a0 c00; omega))
          have B8 := Aside0.mk (show fixed_Little.f a0 8 = _ from put_ok false a0 8 c00 (by omega) (by omega) (.inl rfl))
          have zc1 := zc 255 8
          clear H2 zc c00 c01 c1 c2 c3
          go_enter Tryd.func15, Tryd.ntmps15
          go_wp2_with fail
          refine wp_loop_rounds 3 ?_
          rw [rounds_succ]
          go_wp2_with fail
          refine (fixed_Little.calls a0 2 _ _ _ B2.out).mono ?_
          rintro e w2 ⟨rfl, hb⟩
          have HB2 := Aside0.mk (below_step HB.out hb)
          clear hb HB
          have HB := HB2
          clear HB2
          skip
          go_wp2_with fail
          rw [rounds_succ]
          go_wp2_with fail
          refine (fixed_Little.calls a0 4 _ _ _ B4.out).mono ?_
          rintro e w4 ⟨rfl, hb⟩
          have HB4 := Aside0.mk (below_step HB.out hb)
          clear hb HB
          have HB := HB4
          clear HB4
          skip
          go_wp2_with fail
          rw [rounds_succ]
          go_wp2_with fail
          refine (fixed_Little.calls a0 8 _ _ _ B8.out).mono ?_
          rintro e w8 ⟨rfl, hb⟩
          have HB8 := Aside0.mk (below_step HB.out hb)
          clear hb HB
          have HB := HB8
          clear HB8
          try clear g0 g1 g2
          go_wp2
          go_ret
          exact ⟨by show Ending.returned (Value.string (strOfNums [255] ++ strOfNums (leL a0 8))) = _; rw [← H1.out], below_alloc HB.out _⟩
  · rw [if_neg c0] at h
    cases h

end Go.Proofs.YteoibgpkimlahaaDoor.P
