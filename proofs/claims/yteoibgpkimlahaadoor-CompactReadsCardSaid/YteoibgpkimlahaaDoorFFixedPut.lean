-- out of the translation, by a program of this session (wip/tools/pr.py)
import Derived.Test.YteoibgpkimlahaaDoorF0
import Derived.Test.YteoibgpkimlahaaDoorFFixedDigits
import Derived.Test.YteoibgpkimlahaaDoorFFixedFits
import Derived.Test.YteoibgpkimlahaaDoorFFixedKeep
import Derived.Test.YteoibgpkimlahaaDoorFSlicesReverseByteByte
import Derived.Test.YteoibgpkimlahaaDoorQFixed
namespace Go.Proofs.YteoibgpkimlahaaDoor.P
open Go.RowKit Go.Proofs.YteoibgpkimlahaaDoorW.PrintWords Go.Proofs.YteoibgpkimlahaaDoorW.PrintLast Go.Proofs.YteoibgpkimlahaaDoorW.PrintMore
attribute [local go_sem] max2_int min2_int max_two min_two max_three min_three max_four min_four   -- for this text's walks alone
set_option linter.unusedVariables false
set_option linter.unusedSimpArgs false

/-! ### fixed_put: function 99 -/
--import Derived.Test.YteoibgpkimlahaaDoorQFixed
/-- What put answers, the digits turned or not. -/
def fixed_put.f (rev : Bool) (a0 : Int) (a1 : Int) : Option (ByteArray × Int) :=
  if 0 ≤ a0 then (if a1 < 1 ∨ 8 < a1 then some ((⟨#[]⟩ : ByteArray), 1) else if a1.toNat = 8 ∨ a0 < 256 ^ a1.toNat then some (strOfNums (if rev = true then (leL a0 a1.toNat).reverse else leL a0 a1.toNat), 0) else some ((⟨#[]⟩ : ByteArray), 5)) else none
set_option maxHeartbeats 8000000 in
set_option maxRecDepth 100000 in
theorem fixed_put.keep (a0 : Int) (a1 : Int) (r1 : ByteArray) (r2 : Int) (w : World) (h : fixed_put.f false a0 a1 = some (r1, r2)) :
    Calls Tryd.prog 99 #[.int .u64 a0, .int .i64 a1, .func (.func 100) #[] #[]] w fun e w' => e = .returned (.tuple #[.string r1, .int .i64 r2]) ∧ Below w.heap.size w w' := by
  have HB := Aside0.mk (Below.refl w.heap.size w)
  unfold fixed_put.f at h
  by_cases c0 : 0 ≤ a0
  · rw [if_pos c0] at h
    by_cases c1 : a1 < 1
    · rw [if_pos (.inl c1)] at h
      injection h with h
      injection h with h1 h2
      subst h1 h2
      have b1 : decide (a1 < 1) = true := decide_eq_true c1
      clear c1
      go_enter Tryd.func99, Tryd.ntmps99
      go_wp2
      go_ret2
      exact ⟨rfl, HB.out⟩
    · by_cases c2 : 8 < a1
      · rw [if_pos (.inr c2)] at h
        injection h with h
        injection h with h1 h2
        subst h1 h2
        have b1 : decide (a1 < 1) = false := decide_eq_false c1
        have b2 : decide (8 < a1) = true := decide_eq_true c2
        clear c1 c2
        go_enter Tryd.func99, Tryd.ntmps99
        go_wp2
        go_ret2
        exact ⟨rfl, HB.out⟩
      · rw [if_neg (by omega)] at h
        obtain ⟨m, rfl⟩ : ∃ m : Nat, a1 = (m : Int) := ⟨a1.toNat, by omega⟩
        have b1 : decide ((m : Int) < 1) = false := decide_eq_false c1
        have b1' : decide (m < 1) = false := decide_eq_false (by omega)
        have b2 : decide (8 < (m : Int)) = false := decide_eq_false c2
        have b2' : decide (8 < m) = false := decide_eq_false (by omega)
        rw [Int.toNat_natCast] at h
        have A2 := Aside0.mk (fits_is a0 m c0)
        have A3 := Aside0.mk (digits_is a0 m (by omega))
        by_cases c3 : m = 8 ∨ a0 < 256 ^ m
        · rw [if_pos c3] at h
          injection h with h
          injection h with h1 h2
          subst h2
          have H1 := Aside0.mk h1
          clear h1 c0 c1 c2
          rw [decide_eq_true (show 8 ≤ m ∨ a0 < 256 ^ m by rcases c3 with c3 | c3; exact .inl (by omega); exact .inr c3)] at A2
          clear c3
          go_enter Tryd.func99, Tryd.ntmps99
          go_wp2_with fail
          refine (fixed_fits.calls a0 m true _ A2.out).mono ?_
          rintro e w' ⟨rfl, ⟨nd, rfl⟩⟩
          go_wp2_with fail
          refine (fixed_digits.calls 9 a0 m _ _ A3.out).mono ?_
          rintro e w6 ⟨v, rfl, ho0, hb⟩
          obtain ⟨A, c, rfl⟩ := Kd.R_slice ho0
          have HB6 := Aside0.mk ((below_step (pw_below_drewN HB.out nd) hb))
          have HO := Aside0.mk ho0
          clear ho0 hb
          go_wp2_with fail
          refine (fixed_keep.calls A c (leL a0 m) w6 (Kd.R_reads' HO.out).2.2 (Kd.R_reads' HO.out).2.1 rfl).mono ?_
          rintro e w7 ⟨rfl, ⟨nk, rfl⟩⟩
          have hcv := fun nq => own_string (P := Tryd.prog) (w := w6.drewN nq) Tryd.underlying66 Tryd.underlying5 Tryd.underlying9 (Kd.own_of_R (Kd.R_drewN HO.out nq))
          go_wp2
          go_ret2
          exact ⟨by first | rfl | (simp [H1.out]; done) | (have e := H1.out; simp at e; simp [e]) | (rw [← H1.out]; rfl), pw_below_drewN HB6.out nk⟩
        · rw [if_neg c3] at h
          injection h with h
          injection h with h1 h2
          subst h1 h2
          rw [decide_eq_false (show ¬ (8 ≤ m ∨ a0 < 256 ^ m) by omega)] at A2
          clear c0 c1 c2 c3
          go_enter Tryd.func99, Tryd.ntmps99
          go_wp2_with fail
          refine (fixed_fits.calls a0 m false _ A2.out).mono ?_
          rintro e w' ⟨rfl, ⟨nd, rfl⟩⟩
          go_wp2
          go_ret2
          exact ⟨rfl, pw_below_drewN HB.out nd⟩
  · rw [if_neg c0] at h
    cases h
set_option maxHeartbeats 8000000 in
set_option maxRecDepth 100000 in
theorem fixed_put.turned (a0 : Int) (a1 : Int) (r1 : ByteArray) (r2 : Int) (w : World) (h : fixed_put.f true a0 a1 = some (r1, r2)) :
    Calls Tryd.prog 99 #[.int .u64 a0, .int .i64 a1, .func (.func 102) #[] #[]] w fun e w' => e = .returned (.tuple #[.string r1, .int .i64 r2]) ∧ Below w.heap.size w w' := by
  have HB := Aside0.mk (Below.refl w.heap.size w)
  unfold fixed_put.f at h
  by_cases c0 : 0 ≤ a0
  · rw [if_pos c0] at h
    by_cases c1 : a1 < 1
    · rw [if_pos (.inl c1)] at h
      injection h with h
      injection h with h1 h2
      subst h1 h2
      have b1 : decide (a1 < 1) = true := decide_eq_true c1
      clear c1
      go_enter Tryd.func99, Tryd.ntmps99
      go_wp2
      go_ret2
      exact ⟨rfl, HB.out⟩
    · by_cases c2 : 8 < a1
      · rw [if_pos (.inr c2)] at h
        injection h with h
        injection h with h1 h2
        subst h1 h2
        have b1 : decide (a1 < 1) = false := decide_eq_false c1
        have b2 : decide (8 < a1) = true := decide_eq_true c2
        clear c1 c2
        go_enter Tryd.func99, Tryd.ntmps99
        go_wp2
        go_ret2
        exact ⟨rfl, HB.out⟩
      · rw [if_neg (by omega)] at h
        obtain ⟨m, rfl⟩ : ∃ m : Nat, a1 = (m : Int) := ⟨a1.toNat, by omega⟩
        have b1 : decide ((m : Int) < 1) = false := decide_eq_false c1
        have b1' : decide (m < 1) = false := decide_eq_false (by omega)
        have b2 : decide (8 < (m : Int)) = false := decide_eq_false c2
        have b2' : decide (8 < m) = false := decide_eq_false (by omega)
        rw [Int.toNat_natCast] at h
        have A2 := Aside0.mk (fits_is a0 m c0)
        have A4 := Aside0.mk (show m ≤ 8 by omega)
        have A3 := Aside0.mk (digits_is a0 m (by omega))
        by_cases c3 : m = 8 ∨ a0 < 256 ^ m
        · rw [if_pos c3] at h
          injection h with h
          injection h with h1 h2
          subst h2
          have H1 := Aside0.mk h1
          clear h1 c0 c1 c2
          rw [decide_eq_true (show 8 ≤ m ∨ a0 < 256 ^ m by rcases c3 with c3 | c3; exact .inl (by omega); exact .inr c3)] at A2
          clear c3
          go_enter Tryd.func99, Tryd.ntmps99
          go_wp2_with fail
          refine (fixed_fits.calls a0 m true _ A2.out).mono ?_
          rintro e w' ⟨rfl, ⟨nd, rfl⟩⟩
          go_wp2_with fail
          refine (fixed_digits.calls 9 a0 m _ _ A3.out).mono ?_
          rintro e w6 ⟨v, rfl, ho0, hb⟩
          obtain ⟨A, c, rfl⟩ := Kd.R_slice ho0
          have HB6 := Aside0.mk ((below_step (pw_below_drewN HB.out nd) hb))
          have HO := Aside0.mk ho0
          clear ho0 hb
          go_wp2_with fail
          refine (slices_Reverse_byte_byte.calls 6 (fun k_ => some k_ = (.slice A (leL a0 m).length c : Value).ownBlock) (.slice A (leL a0 m).length c) (leL a0 m) (leL a0 m).reverse w w6 HB6.out (Kd.R_tight rfl (Kd.R_lower HO.out (by simp))) (reverse_is _ (by rw [leL_length]; exact A4.out))).mono ?_
          rintro e w7 ⟨rfl, hy0, hb7, hkp⟩
          have HB7 := Aside0.mk hb7
          clear hb7 hkp HB6
          have hcv := own_string (P := Tryd.prog) (w := w7) Tryd.underlying66 Tryd.underlying5 Tryd.underlying9 (Kd.own_of_R hy0)
          clear hy0
          go_wp2
          go_ret2
          exact ⟨by first | rfl | (simp [H1.out]; done) | (have e := H1.out; simp at e; simp [e]) | (rw [← H1.out]; rfl), HB7.out⟩
        · rw [if_neg c3] at h
          injection h with h
          injection h with h1 h2
          subst h1 h2
          rw [decide_eq_false (show ¬ (8 ≤ m ∨ a0 < 256 ^ m) by omega)] at A2
          clear c0 c1 c2 c3
          go_enter Tryd.func99, Tryd.ntmps99
          go_wp2_with fail
          refine (fixed_fits.calls a0 m false _ A2.out).mono ?_
          rintro e w' ⟨rfl, ⟨nd, rfl⟩⟩
          go_wp2
          go_ret2
          exact ⟨rfl, pw_below_drewN HB.out nd⟩
  · rw [if_neg c0] at h
    cases h

end Go.Proofs.YteoibgpkimlahaaDoor.P
