-- out of the translation, by a program of this session (wip/tools/pr.py)
import Derived.Test.YteoibgpkimlahaaF0
import Derived.Test.YteoibgpkimlahaaFFixedNumber
import Derived.Test.YteoibgpkimlahaaQFixed
namespace Go.Proofs.Yteoibgpkimlahaa.P
open Go.RowKit Go.Proofs.YteoibgpkimlahaaW.PrintWords Go.Proofs.YteoibgpkimlahaaW.PrintLast Go.Proofs.YteoibgpkimlahaaW.PrintMore
attribute [local go_sem] max2_int min2_int max_two min_two max_three min_three max_four min_four   -- for this text's walks alone
set_option linter.unusedVariables false
set_option linter.unusedSimpArgs false

/-! ### fixed_GetLeast: function 18 -/
--import Derived.Test.YteoibgpkimlahaaQFixed
def fixed_GetLeast.f (a0 : ByteArray) : Option (Int × Int) :=
  if 8 < a0.size then some (0, 5) else if a0.toList ≠ [] ∧ bt a0 0 = 0 then some (0, 3) else some (numL (bytesOf a0), 0)
set_option maxHeartbeats 8000000 in
set_option maxRecDepth 100000 in
theorem fixed_GetLeast.calls (a0 : ByteArray) (r1 : Int) (r2 : Int) (w : World) (h : fixed_GetLeast.f a0 = some (r1, r2)) :
    Calls Try.prog 18 #[.string a0] w fun e w' => e = .returned (.tuple #[.int .u64 r1, .int .i64 r2]) ∧ Below w.heap.size w w' := by
  have HB := Aside0.mk (Below.refl w.heap.size w)
  unfold fixed_GetLeast.f at h
  by_cases c2 : 8 < a0.size
  · rw [if_pos c2] at h
    injection h with h
    injection h with h1 h2
    subst h1 h2
    have b2 : decide (8 < a0.size) = true := decide_eq_true c2
    have b2' : decide (8 < (a0.size : Int)) = true := decide_eq_true (by omega)
    clear c2
    go_enter Try.func18, Try.ntmps18
    go_wp2
    go_ret2
    exact ⟨rfl, HB.out⟩
  · rw [if_neg c2] at h
    have b2 : decide (8 < a0.size) = false := decide_eq_false c2
    have b2' : decide (8 < (a0.size : Int)) = false := decide_eq_false (by omega)
    have A3 := Aside0.mk (number_is (bytesOf a0) (bytesOf_byte a0) (by rw [bytesOf_length]; omega))
    have A4 := Aside0.mk (show a0.size ≤ 9223372036854775807 by omega)
    by_cases c1 : a0.toList = ([] : List UInt8)
    · rw [if_neg (fun x => x.1 c1)] at h
      have c6b0 : (a0.toList == ([] : List UInt8)) = true := beq_iff_eq.mpr c1
      have c6b1 : (a0.toList != ([] : List UInt8)) = false := bne_eq_false_iff_eq.mpr c1
      injection h with h
      injection h with h1 h2
      subst h2
      have H1 := Aside0.mk h1
      clear c1 c2 h1
      have kb := fun W => print_bytes (P := Try.prog) 9 100 5 Try.underlying9 Try.underlying100 Try.underlying5 a0 W
      have hr := Kd.C_below ((RawB.of_bytes w 5 a0).reads A4.out) (Below.refl _ _)
      have hn := fixed_number.calls 9 (some ⟨w.heap.size, 0, none⟩) (grownCap w a0.size 0 5) (bytesOf a0) _ (Lib.bytesWorld w 5 a0) hr (by rw [bytesOf_length]; exact grownCap_ge _ _ _ _) A3.out
      simp only [bytesOf_length] at hn
      have HN := Aside0.mk hn
      have HB1 := Aside0.mk (bytes_below HB.out (Nat.le_refl _) 5 a0)
      clear hn hr
      go_enter Try.func18, Try.ntmps18
      go_wp2_with fail
      refine HN.out.mono ?_
      rintro e w' ⟨rfl, ⟨nm, rfl⟩⟩
      go_wp2
      go_ret2
      exact ⟨by first | rfl | (simp [H1.out]; done) | (have e := H1.out; simp at e; simp [e]) | (rw [← H1.out]; rfl), pw_below_drewN HB1.out _⟩
    · have c6b0 : (a0.toList == ([] : List UInt8)) = false := beq_eq_false_iff_ne.mpr c1
      have c6b1 : (a0.toList != ([] : List UInt8)) = true := bne_iff_ne.mpr c1
      have q0 : 0 < a0.size := by have := mt (size_zero a0).2 c1; omega
      have hx0 : ∀ h : 0 < a0.size, ((a0[0]'h).toNat : Int) = bt a0 0 := bt_at a0 0
      have qi0 : (0 < (a0.size : Int)) = True := eq_true (by omega)
      by_cases c3 : bt a0 0 = 0
      · rw [if_pos ⟨c1, c3⟩] at h
        injection h with h
        injection h with h1 h2
        subst h1 h2
        have c3b0 : (bt a0 0 == 0) = true := beq_iff_eq.mpr c3
        replace q0 := eq_true q0
        clear c1 c2 c3
        go_enter Try.func18, Try.ntmps18
        go_wp2
        go_ret2
        exact ⟨rfl, HB.out⟩
      · rw [if_neg (fun x => c3 x.2)] at h
        injection h with h
        injection h with h1 h2
        subst h2
        have H1 := Aside0.mk h1
        have c3b0 : (bt a0 0 == 0) = false := beq_eq_false_iff_ne.mpr c3
        replace q0 := eq_true q0
        clear c1 c2 c3 h1
        have kb := fun W => print_bytes (P := Try.prog) 9 100 5 Try.underlying9 Try.underlying100 Try.underlying5 a0 W
        have hr := Kd.C_below ((RawB.of_bytes w 5 a0).reads A4.out) (Below.refl _ _)
        have hn := fixed_number.calls 9 (some ⟨w.heap.size, 0, none⟩) (grownCap w a0.size 0 5) (bytesOf a0) _ (Lib.bytesWorld w 5 a0) hr (by rw [bytesOf_length]; exact grownCap_ge _ _ _ _) A3.out
        simp only [bytesOf_length] at hn
        have HN := Aside0.mk hn
        have HB1 := Aside0.mk (bytes_below HB.out (Nat.le_refl _) 5 a0)
        clear hn hr
        go_enter Try.func18, Try.ntmps18
        go_wp2_with fail
        refine HN.out.mono ?_
        rintro e w' ⟨rfl, ⟨nm, rfl⟩⟩
        go_wp2
        go_ret2
        exact ⟨by first | rfl | (simp [H1.out]; done) | (have e := H1.out; simp at e; simp [e]) | (rw [← H1.out]; rfl), pw_below_drewN HB1.out _⟩

end Go.Proofs.Yteoibgpkimlahaa.P
