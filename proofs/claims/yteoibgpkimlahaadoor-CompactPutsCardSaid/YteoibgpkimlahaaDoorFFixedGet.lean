-- out of the translation, by a program of this session (wip/tools/pr.py)
import Derived.Test.YteoibgpkimlahaaDoorF0
import Derived.Test.YteoibgpkimlahaaDoorFFixedKeep
import Derived.Test.YteoibgpkimlahaaDoorFFixedNumber
import Derived.Test.YteoibgpkimlahaaDoorFSlicesReverseByteByte
import Derived.Test.YteoibgpkimlahaaDoorQFixed
namespace Go.Proofs.YteoibgpkimlahaaDoor.P
open Go.RowKit Go.Proofs.YteoibgpkimlahaaDoorW.PrintWords Go.Proofs.YteoibgpkimlahaaDoorW.PrintLast Go.Proofs.YteoibgpkimlahaaDoorW.PrintMore
attribute [local go_sem] max2_int min2_int max_two min_two max_three min_three max_four min_four   -- for this text's walks alone
set_option linter.unusedVariables false
set_option linter.unusedSimpArgs false

/-! ### fixed_get: function 101 -/
--import Derived.Test.YteoibgpkimlahaaDoorQFixed
set_option maxHeartbeats 8000000 in
set_option maxRecDepth 100000 in
theorem rev_raw (k : Nat) (g co : Nat) (l0 : List Int) (r : List Int) (w0 w : World) (hB : Below w0.heap.size w0 w) (hg : w0.heap.size ≤ g) (ho0 : RawB w g l0.length l0) (h : slices_Reverse_byte_byte.f k l0 = some r) :
    Calls Tryd.prog 102 #[.slice (some ⟨g, 0, none⟩) l0.length co] w fun e w' => e = .returned (.tuple #[]) ∧ RawB w' g l0.length r ∧ Below w0.heap.size w0 w' := by
  have HO0 := Aside0.mk ho0
  have HB := Aside0.mk hB
  have HG := Aside0.mk hg
  clear hB hg ho0
  have H : (slices_Reverse_byte_byte.l0 k l0 0 (wrap64 ((l0.length : Int) - 1))) = some r := h
  clear h
  have H' := Aside0.mk H
  clear H
  go_enter Tryd.func102, Tryd.ntmps102
  go_wp2
  go_loopg [2, 3] k (fun kq v2 v3 w' => ∃ (x0_1 : List Int) (x2_1 : Int) (x3_1 : Int), v2 = .int .i64 x2_1 ∧ v3 = .int .i64 x3_1 ∧ Aside0 (slices_Reverse_byte_byte.l0 kq x0_1 x2_1 x3_1 = some r) ∧ Aside0 (kq ≤ k) ∧ Aside0 (RawB w' g l0.length x0_1) ∧ Aside0 (Below w0.heap.size w0 w'))
  case atStart => exact ⟨(l0), (0), (wrap64 ((l0.length : Int) - 1)), (by first | rfl | (simp; done) | (simp [*]; done)), (by first | rfl | (simp; done) | (simp [*]; done)), H', ⟨Nat.le_refl _⟩, HO0, ⟨by repeat (first | (with_reducible first | exact HB.out | apply below_alloc | apply pw_below_drewN | apply below_drew1) | exact HB.out)⟩⟩
  case round =>
    clear H'
    try clear p2
    obtain ⟨x0_1, x2_1, x3_1, rfl, rfl, HA, HK1, HO_0, HB⟩ := hrel
    have hl0_1 := HO_0.out.1.symm
    rw [hl0_1] at HO_0
    (try simp only [hl0_1])
    cases gk with
    | zero => exact absurd HA.out (by simp [slices_Reverse_byte_byte.l0])
    | succ k1 =>
      have H := HA.out
      clear HA
      simp only [slices_Reverse_byte_byte.l0] at H
      by_cases c3 : x2_1 < x3_1
      · rw [if_pos c3] at H
        have c3b0 : decide (x2_1 < x3_1) = true := decide_eq_true c3
        clear c3
        by_cases c4 : 0 ≤ x3_1
        · rw [if_pos c4] at H
          have c4b0 : decide (0 ≤ x3_1) = true := decide_eq_true c4
          clear c4
          by_cases c5 : x3_1 < (x0_1.length : Int)
          · rw [if_pos c5] at H
            have c5b0 : decide (x3_1 < (x0_1.length : Int)) = true := decide_eq_true c5
            clear c5
            by_cases c6 : 0 ≤ x2_1
            · rw [if_pos c6] at H
              have c6b0 : decide (0 ≤ x2_1) = true := decide_eq_true c6
              clear c6
              by_cases c7 : x2_1 < (x0_1.length : Int)
              · rw [if_pos c7] at H
                have c7b0 : decide (x2_1 < (x0_1.length : Int)) = true := decide_eq_true c7
                clear c7
                obtain ⟨y107, hy107⟩ : ∃ y_ : List Int, y_ = (x0_1.set (x2_1 : Int).toNat (rd x0_1 x3_1)) := ⟨_, rfl⟩
                replace H : (slices_Reverse_byte_byte.l0 k1 (y107.set (x3_1 : Int).toNat (rd x0_1 x2_1)) (wrap64 (x2_1 + 1)) (wrap64 (x3_1 - 1))) = some r := by first | (rw [hy107]; with_reducible exact H) | (have H2_ := (Option.bind_some _ _).symm.trans H; rw [hy107]; with_reducible exact H2_) | (have H2_ := (Option.bind_some _ _).symm.trans H; with_reducible exact H2_) | with_reducible exact H | (rw [hy107]; exact H) | exact H
                have Ny107 := Aside0.mk hy107
                clear hy107
                obtain ⟨y108, hy108⟩ : ∃ y_ : List Int, y_ = (y107.set (x3_1 : Int).toNat (rd x0_1 x2_1)) := ⟨_, rfl⟩
                replace H : (slices_Reverse_byte_byte.l0 k1 y108 (wrap64 (x2_1 + 1)) (wrap64 (x3_1 - 1))) = some r := by first | (rw [hy108]; with_reducible exact H) | (have H2_ := (Option.bind_some _ _).symm.trans H; rw [hy108]; with_reducible exact H2_) | (have H2_ := (Option.bind_some _ _).symm.trans H; with_reducible exact H2_) | with_reducible exact H | (rw [hy108]; exact H) | exact H
                have Ny108 := Aside0.mk hy108
                clear hy108
                have H' := Aside0.mk H
                clear H
                try go_wp2
                have n0_ := Aside0.mk (RawB.drew HO_0.out)
                have n2_ := Aside0.mk (below_drew1 HB.out)
                clear HO_0
                clear HB
                have HO_0 := n0_
                have HB := n2_
                clear n0_ n2_
                have p105 : 0 ≤ (x3_1 : Int) := of_decide_eq_true (by first | (with_reducible assumption) | assumption)
                have q105 : x3_1 < (x0_1.length : Int) := of_decide_eq_true (by first | (with_reducible assumption) | assumption)
                have hx105_0 := (RawB.at_ HO_0.out x3_1 p105 q105).1
                replace p105 := eq_true p105
                replace q105 := eq_true q105
                have p106 : 0 ≤ (x2_1 : Int) := of_decide_eq_true (by first | (with_reducible assumption) | assumption)
                have q106 : x2_1 < (x0_1.length : Int) := of_decide_eq_true (by first | (with_reducible assumption) | assumption)
                have hx106_0 := (RawB.at_ HO_0.out x2_1 p106 q106).1
                replace p106 := eq_true p106
                replace q106 := eq_true q106
                have p8 : 0 ≤ (x2_1 : Int) := of_decide_eq_true (by first | (with_reducible assumption) | assumption)
                have q8 : (x2_1 : Int) < ((x0_1.length : Int) : Int) := of_decide_eq_true (by first | (with_reducible assumption) | assumption)
                obtain ⟨hx8_0, hf8_0⟩ := RawB.at_ HO_0.out (x2_1 : Int) p8 q8
                replace p8 := eq_true p8
                replace q8 := eq_true q8
                have HP11 := RawB.set HO_0.out (x2_1 : Int) (rd x0_1 x3_1)
                rw [← Ny107.out] at HP11
                have HQ11 := Aside0.mk HP11
                clear HP11
                have p9 : 0 ≤ (x3_1 : Int) := of_decide_eq_true (by first | (with_reducible assumption) | assumption)
                have q9 : (x3_1 : Int) < ((x0_1.length : Int) : Int) := of_decide_eq_true (by first | (with_reducible assumption) | assumption)
                obtain ⟨hx9_0, hf9_0⟩ := RawB.at_ HQ11.out (x3_1 : Int) p9 q9
                replace p9 := eq_true p9
                replace q9 := eq_true q9
                have HP12 := RawB.set HQ11.out (x3_1 : Int) (rd x0_1 x2_1)
                rw [← Ny108.out] at HP12
                have HQ12 := Aside0.mk HP12
                clear HP12
                refine start_ (n := 16) (S := fun w' => w'.cell? ⟨g, (x3_1).toNat, none⟩ = some (.int .u8 (rd x0_1 x3_1)) ∧ w'.cell? ⟨g, (x2_1).toNat, none⟩ = some (.int .u8 (rd x0_1 x2_1))) (ds := [13, 15]) #[false, false, false, false, false, false, false, false, false, false, false, false, false, false, false, false] (by kernel_rfl) rfl rfl ⟨hx105_0, hx106_0⟩ (fun hHeld => ?_); refine with_tabW slices_Reverse_byte_byte.tab3 slices_Reverse_byte_byte.bits3 (fun HT_ HW_ => ?_)
                generalize wr.drew = w10 at HO_0 HB HQ11 HQ12 hf8_0 hf9_0 hx105_0 hx106_0 hx8_0 hx9_0 hHeld ⊢
                refine pure_ (i := 0) (N := some 14) (v := ?_) (a' := ?_) #[true, false, false, false, false, false, false, false, false, false, false, false, false, false, false, false] rfl rfl (any_of HT_.out (by kernel_rfl)) (fun _ _ _ h => h) (Or.inl ⟨by rfl, ?_⟩) ?_ ?_
                rotate_left
                · intro w'
                  go_simp
                  with_reducible rfl
                rotate_left
                · simp only [Act.put, List.setIfInBounds_toArray, List.set_cons_zero, List.set_cons_succ, i64_w, i32_w]
                  rfl
                refine pure_ (i := 1) (N := some 15) (v := ?_) (a' := ?_) #[true, true, false, false, false, false, false, false, false, false, false, false, false, false, false, false] rfl rfl (any_of HT_.out (by kernel_rfl)) (fun _ _ _ h => h) (Or.inl ⟨by rfl, ?_⟩) ?_ ?_
                rotate_left
                · intro w'
                  go_simp
                  with_reducible rfl
                rotate_left
                · simp only [Act.put, List.setIfInBounds_toArray, List.set_cons_zero, List.set_cons_succ, i64_w, i32_w]
                  rfl
                refine pure_ (i := 2) (N := some 16) (v := ?_) (a' := ?_) #[true, true, true, false, false, false, false, false, false, false, false, false, false, false, false, false] rfl rfl (any_of HT_.out (by kernel_rfl)) (fun _ _ _ h => h) (Or.inl ⟨by rfl, ?_⟩) ?_ ?_
                rotate_left
                · intro w'
                  go_simp
                  with_reducible rfl
                rotate_left
                · simp only [Act.put, List.setIfInBounds_toArray, List.set_cons_zero, List.set_cons_succ, i64_w, i32_w]
                  rfl
                refine pure_ (i := 3) (N := some 17) (v := ?_) (a' := ?_) #[true, true, true, true, false, false, false, false, false, false, false, false, false, false, false, false] rfl rfl (any_of HT_.out (by kernel_rfl)) (fun _ _ _ h => h) (Or.inl ⟨by rfl, ?_⟩) ?_ ?_
                rotate_left
                · intro w'
                  go_simp
                  with_reducible rfl
                rotate_left
                · simp only [Act.put, List.setIfInBounds_toArray, List.set_cons_zero, List.set_cons_succ, i64_w, i32_w]
                  rfl
                refine pure_ (i := 4) (N := some 18) (v := ?_) (a' := ?_) #[true, true, true, true, true, false, false, false, false, false, false, false, false, false, false, false] rfl rfl (any_of HT_.out (by kernel_rfl)) (fun _ _ _ h => h) (Or.inl ⟨by rfl, ?_⟩) ?_ ?_
                rotate_left
                · intro w'
                  go_simp
                  with_reducible rfl
                rotate_left
                · simp only [Act.put, List.setIfInBounds_toArray, List.set_cons_zero, List.set_cons_succ, i64_w, i32_w]
                  rfl
                refine pure_ (i := 5) (N := some 19) (v := ?_) (a' := ?_) #[true, true, true, true, true, true, false, false, false, false, false, false, false, false, false, false] rfl rfl (any_of HT_.out (by kernel_rfl)) (fun _ _ _ h => h) (Or.inl ⟨by rfl, ?_⟩) ?_ ?_
                rotate_left
                · intro w'
                  go_simp
                  with_reducible rfl
                rotate_left
                · simp only [Act.put, List.setIfInBounds_toArray, List.set_cons_zero, List.set_cons_succ, i64_w, i32_w]
                  rfl
                refine pure_ (i := 6) (N := some 20) (v := ?_) (a' := ?_) #[true, true, true, true, true, true, true, false, false, false, false, false, false, false, false, false] rfl rfl (any_of HT_.out (by kernel_rfl)) (fun _ _ _ h => h) (Or.inl ⟨by rfl, ?_⟩) ?_ ?_
                rotate_left
                · intro w'
                  go_simp
                  with_reducible rfl
                rotate_left
                · simp only [Act.put, List.setIfInBounds_toArray, List.set_cons_zero, List.set_cons_succ, i64_w, i32_w]
                  rfl
                refine pure_ (i := 8) (N := some 22) (v := ?_) (a' := ?_) #[true, true, true, true, true, true, true, false, true, false, false, false, false, false, false, false] rfl rfl (any_of HT_.out (by kernel_rfl)) (fun _ _ _ h => h) (Or.inl ⟨by rfl, ?_⟩) ?_ ?_
                rotate_left
                · intro w'
                  go_simp
                  with_reducible rfl
                rotate_left
                · simp only [Act.put, List.setIfInBounds_toArray, List.set_cons_zero, List.set_cons_succ, i64_w, i32_w]
                  rfl
                refine pure_ (i := 9) (N := some 23) (v := ?_) (a' := ?_) #[true, true, true, true, true, true, true, false, true, true, false, false, false, false, false, false] rfl rfl (any_of HT_.out (by kernel_rfl)) (fun _ _ _ h => h) (Or.inl ⟨by rfl, ?_⟩) ?_ ?_
                rotate_left
                · intro w'
                  go_simp
                  with_reducible rfl
                rotate_left
                · simp only [Act.put, List.setIfInBounds_toArray, List.set_cons_zero, List.set_cons_succ, i64_w, i32_w]
                  rfl
                refine pure_ (i := 10) (N := some 24) (v := ?_) (a' := ?_) #[true, true, true, true, true, true, true, false, true, true, true, false, false, false, false, false] rfl rfl (any_of HT_.out (by kernel_rfl)) (fun _ _ _ h => h) (Or.inl ⟨by rfl, ?_⟩) ?_ ?_
                rotate_left
                · intro w'
                  go_simp
                  with_reducible rfl
                rotate_left
                · simp only [Act.put, List.setIfInBounds_toArray, List.set_cons_zero, List.set_cons_succ, i64_w, i32_w]
                  rfl
                refine take_ (i := 7) (N := some 21) (v := ?_) (a' := ?_) #[true, true, true, true, true, true, true, true, true, true, true, false, false, false, false, false] rfl rfl (take_ofW HT_.out HW_.out (by kernel_rfl)) (fun _ _ _ h => h) (Or.inl ⟨by rfl, ?_⟩) hHeld ?_ ?_
                rotate_left
                · rintro w' ⟨s0, s1⟩
                  go_simp
                  with_reducible rfl
                rotate_left
                · simp only [Act.put, List.setIfInBounds_toArray, List.set_cons_zero, List.set_cons_succ, i64_w, i32_w]
                  rfl
                refine take_ (i := 11) (N := some 25) (v := ?_) (a' := ?_) #[true, true, true, true, true, true, true, true, true, true, true, true, false, false, false, false] rfl rfl (take_ofW HT_.out HW_.out (by kernel_rfl)) (fun _ _ _ h => h) (Or.inl ⟨by rfl, ?_⟩) hHeld ?_ ?_
                rotate_left
                · rintro w' ⟨s0, s1⟩
                  go_simp
                  with_reducible rfl
                rotate_left
                · simp only [Act.put, List.setIfInBounds_toArray, List.set_cons_zero, List.set_cons_succ, i64_w, i32_w]
                  rfl
                refine pure_ (i := 12) (N := some 26) (v := ?_) (a' := ?_) #[true, true, true, true, true, true, true, true, true, true, true, true, true, false, false, false] rfl rfl (any_of HT_.out (by kernel_rfl)) (fun _ _ _ h => h) (Or.inl ⟨by rfl, ?_⟩) ?_ ?_
                rotate_left
                · intro w'
                  go_simp
                  with_reducible rfl
                rotate_left
                · simp only [Act.put, List.setIfInBounds_toArray, List.set_cons_zero, List.set_cons_succ, i64_w, i32_w]
                  rfl
                refine last_ (i := 13) (N := none) #[true, true, true, true, true, true, true, true, true, true, true, true, true, true, false, false] rfl rfl (one_of HT_.out (by kernel_rfl)) (by decide) (fun K hK => ?_)
                refine skip_ (w1 := ?_) (by rfl) rfl ?_ ?_
                rotate_left
                · go_simp
                  rfl
                refine hK.out _ _ ?_
                clear hK K
                refine pure_ (i := 14) (N := some 27) (v := ?_) (a' := ?_) #[true, true, true, true, true, true, true, true, true, true, true, true, true, true, true, false] rfl rfl (any_of HT_.out (by kernel_rfl)) (fun _ _ _ h => h) (Or.inl ⟨by rfl, ?_⟩) ?_ ?_
                rotate_left
                · intro w'
                  go_simp
                  with_reducible rfl
                rotate_left
                · simp only [Act.put, List.setIfInBounds_toArray, List.set_cons_zero, List.set_cons_succ, i64_w, i32_w]
                  rfl
                refine last_ (i := 15) (N := none) #[true, true, true, true, true, true, true, true, true, true, true, true, true, true, true, true] rfl rfl (one_of HT_.out (by kernel_rfl)) (by decide) (fun K hK => ?_)
                refine skip_ (w1 := ?_) (by rfl) rfl ?_ ?_
                rotate_left
                · go_simp
                  rfl
                refine hK.out _ _ ?_
                clear hK K
                refine done_ (done_of HT_.out (by kernel_rfl)) ?_
                try go_wp2
                (try simp only [← hl0_1])
                go_roundg k1
                case measure => have := HK1.out; omega
                case rel => exact ⟨(y108), (wrap64 (x2_1 + 1)), (wrap64 (x3_1 - 1)), (by first | rfl | (simp; done) | (simp [*]; done)), (by first | rfl | (simp; done) | (simp [*]; done)), H', ⟨by have := HK1.out; omega⟩, ⟨by (try simp only [hl0_1]); exact HQ12.out⟩, ⟨by repeat (first | (with_reducible first | exact HB.out | apply below_alloc | apply pw_below_drewN | apply below_drew1 | refine below_set ?_ HG.out | refine below_set ?_ HG.out) | exact HB.out)⟩⟩
              · rw [if_neg c7] at H
                exact absurd H (by simp)
            · rw [if_neg c6] at H
              exact absurd H (by simp)
          · rw [if_neg c5] at H
            exact absurd H (by simp)
        · rw [if_neg c4] at H
          exact absurd H (by simp)
      · rw [if_neg c3] at H
        have c3b0 : decide (x2_1 < x3_1) = false := decide_eq_false c3
        clear c3
        obtain rfl := Option.some.inj H
        go_wp2
        first | go_end0 | ((try simp only [Exit.inBlock, Exit.then]); refine bodyPost_ret (results_none rfl _ _ _) rfl ?_)
        exact ⟨rfl, by first | exact HO_0.out | (rw [hl0_1]; exact HO_0.out), HB.out⟩


def fixed_get.f (rev : Bool) (a0 : ByteArray) : Option (Int × Int) :=
  if a0.toList = [] then some (0, 1) else if 8 < a0.size then some (0, 5) else some (numL (if rev = true then (bytesOf a0).reverse else bytesOf a0), 0)
set_option maxHeartbeats 8000000 in
set_option maxRecDepth 100000 in
theorem fixed_get.keep (a0 : ByteArray) (r1 : Int) (r2 : Int) (w : World) (h : fixed_get.f false a0 = some (r1, r2)) :
    Calls Tryd.prog 101 #[.string a0, .func (.func 100) #[] #[]] w fun e w' => e = .returned (.tuple #[.int .u64 r1, .int .i64 r2]) ∧ Below w.heap.size w w' := by
  have HB := Aside0.mk (Below.refl w.heap.size w)
  unfold fixed_get.f at h
  by_cases c1 : a0.toList = ([] : List UInt8)
  · rw [if_pos c1] at h
    injection h with h
    injection h with h1 h2
    subst h1 h2
    have c6b0 : (a0.toList == ([] : List UInt8)) = true := beq_iff_eq.mpr c1
    have c6b1 : (a0.toList != ([] : List UInt8)) = false := bne_eq_false_iff_eq.mpr c1
    clear c1
    go_enter Tryd.func101, Tryd.ntmps101
    go_wp2
    go_ret2
    exact ⟨rfl, HB.out⟩
  · rw [if_neg c1] at h
    have c6b0 : (a0.toList == ([] : List UInt8)) = false := beq_eq_false_iff_ne.mpr c1
    have c6b1 : (a0.toList != ([] : List UInt8)) = true := bne_iff_ne.mpr c1
    by_cases c2 : 8 < a0.size
    · rw [if_pos c2] at h
      injection h with h
      injection h with h1 h2
      subst h1 h2
      have b2 : decide (8 < a0.size) = true := decide_eq_true c2
      have b2' : decide (8 < (a0.size : Int)) = true := decide_eq_true (by omega)
      clear c1 c2
      go_enter Tryd.func101, Tryd.ntmps101
      go_wp2
      go_ret2
      exact ⟨rfl, HB.out⟩
    · rw [if_neg c2] at h
      injection h with h
      injection h with h1 h2
      subst h2
      have H1 := Aside0.mk h1
      have b2 : decide (8 < a0.size) = false := decide_eq_false c2
      have b2' : decide (8 < (a0.size : Int)) = false := decide_eq_false (by omega)
      have A3 := Aside0.mk (number_is (bytesOf a0) (bytesOf_byte a0) (by rw [bytesOf_length]; omega))
      have A4 := Aside0.mk (show a0.size ≤ 9223372036854775807 by omega)
      clear c1 c2 h1
      have kb := fun W => print_bytes (P := Tryd.prog) 9 66 5 Tryd.underlying9 Tryd.underlying66 Tryd.underlying5 a0 W
      have hr := Kd.C_below ((RawB.of_bytes w 5 a0).reads A4.out) (Below.refl _ _)
      have hk := fixed_keep.calls (some ⟨w.heap.size, 0, none⟩) (grownCap w a0.size 0 5) (bytesOf a0) (Lib.bytesWorld w 5 a0) hr (by rw [bytesOf_length]; exact grownCap_ge _ _ _ _) rfl
      have hn := fun nk => fixed_number.calls 9 (some ⟨w.heap.size, 0, none⟩) (grownCap w a0.size 0 5) (bytesOf a0) _ ((Lib.bytesWorld w 5 a0).drewN nk) (Kd.C_drewN hr nk) (by rw [bytesOf_length]; exact grownCap_ge _ _ _ _) A3.out
      rw [bytesOf_length] at hk
      simp only [bytesOf_length] at hn
      have HK := Aside0.mk hk
      have HN := Aside0.mk hn
      have HB1 := Aside0.mk (bytes_below HB.out (Nat.le_refl _) 5 a0)
      clear hk hn hr
      go_enter Tryd.func101, Tryd.ntmps101
      go_wp2_with fail
      refine HK.out.mono ?_
      rintro e w' ⟨rfl, ⟨nk, rfl⟩⟩
      go_wp2_with fail
      refine (HN.out nk).mono ?_
      rintro e w' ⟨rfl, ⟨nm, rfl⟩⟩
      go_wp2
      go_ret2
      exact ⟨by first | rfl | (simp [H1.out]; done) | (have e := H1.out; simp at e; simp [e]) | (rw [← H1.out]; rfl), pw_below_drewN HB1.out _⟩
set_option maxHeartbeats 8000000 in
set_option maxRecDepth 100000 in
theorem fixed_get.turned (a0 : ByteArray) (r1 : Int) (r2 : Int) (w : World) (h : fixed_get.f true a0 = some (r1, r2)) :
    Calls Tryd.prog 101 #[.string a0, .func (.func 102) #[] #[]] w fun e w' => e = .returned (.tuple #[.int .u64 r1, .int .i64 r2]) ∧ Below w.heap.size w w' := by
  have HB := Aside0.mk (Below.refl w.heap.size w)
  unfold fixed_get.f at h
  by_cases c1 : a0.toList = ([] : List UInt8)
  · rw [if_pos c1] at h
    injection h with h
    injection h with h1 h2
    subst h1 h2
    have c6b0 : (a0.toList == ([] : List UInt8)) = true := beq_iff_eq.mpr c1
    have c6b1 : (a0.toList != ([] : List UInt8)) = false := bne_eq_false_iff_eq.mpr c1
    clear c1
    go_enter Tryd.func101, Tryd.ntmps101
    go_wp2
    go_ret2
    exact ⟨rfl, HB.out⟩
  · rw [if_neg c1] at h
    have c6b0 : (a0.toList == ([] : List UInt8)) = false := beq_eq_false_iff_ne.mpr c1
    have c6b1 : (a0.toList != ([] : List UInt8)) = true := bne_iff_ne.mpr c1
    by_cases c2 : 8 < a0.size
    · rw [if_pos c2] at h
      injection h with h
      injection h with h1 h2
      subst h1 h2
      have b2 : decide (8 < a0.size) = true := decide_eq_true c2
      have b2' : decide (8 < (a0.size : Int)) = true := decide_eq_true (by omega)
      clear c1 c2
      go_enter Tryd.func101, Tryd.ntmps101
      go_wp2
      go_ret2
      exact ⟨rfl, HB.out⟩
    · rw [if_neg c2] at h
      injection h with h
      injection h with h1 h2
      subst h2
      have H1 := Aside0.mk h1
      have b2 : decide (8 < a0.size) = false := decide_eq_false c2
      have b2' : decide (8 < (a0.size : Int)) = false := decide_eq_false (by omega)
      have A3 := Aside0.mk (number_is (bytesOf a0).reverse (isByte_reverse (bytesOf_byte a0)) (by rw [List.length_reverse, bytesOf_length]; omega))
      have A5 := Aside0.mk (show a0.size ≤ 8 by omega)
      have A4 := Aside0.mk (show a0.size ≤ 9223372036854775807 by omega)
      clear c1 c2 h1
      have kb := fun W => print_bytes (P := Tryd.prog) 9 66 5 Tryd.underlying9 Tryd.underlying66 Tryd.underlying5 a0 W
      have hk := rev_raw 6 w.heap.size (grownCap w a0.size 0 5) (bytesOf a0) (bytesOf a0).reverse w (Lib.bytesWorld w 5 a0) (bytes_below HB.out (Nat.le_refl _) 5 a0) (Nat.le_refl _) (by rw [bytesOf_length]; exact RawB.of_bytes w 5 a0) (reverse_is _ (by rw [bytesOf_length]; exact A5.out))
      have hn := fun w1 (hx : RawB w1 w.heap.size a0.size (bytesOf a0).reverse) => fixed_number.calls 9 (some ⟨w.heap.size, 0, none⟩) (grownCap w a0.size 0 5) (bytesOf a0).reverse _ w1 (hx.reads A4.out) (by rw [List.length_reverse, bytesOf_length]; exact grownCap_ge _ _ _ _) A3.out
      rw [bytesOf_length] at hk
      simp only [List.length_reverse, bytesOf_length] at hn
      have HK := Aside0.mk hk
      have HN := Aside0.mk hn
      clear hk hn
      go_enter Tryd.func101, Tryd.ntmps101
      go_wp2_with fail
      refine HK.out.mono ?_
      rintro e w1 ⟨rfl, hx, hb⟩
      have HB1 := Aside0.mk hb
      have HX := Aside0.mk (HN.out w1 hx)
      clear hx hb HN
      go_wp2_with fail
      refine HX.out.mono ?_
      rintro e w' ⟨rfl, ⟨nm, rfl⟩⟩
      go_wp2
      go_ret2
      exact ⟨by first | rfl | (simp [H1.out]; done) | (have e := H1.out; simp at e; simp [e]) | (rw [← H1.out]; rfl), pw_below_drewN HB1.out nm⟩

end Go.Proofs.YteoibgpkimlahaaDoor.P
