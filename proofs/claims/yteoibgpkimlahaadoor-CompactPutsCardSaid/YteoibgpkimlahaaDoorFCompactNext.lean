-- out of the translation, by a program of this session (wip/tools/pr.py)
import Derived.Test.YteoibgpkimlahaaDoorF0
import Derived.Test.YteoibgpkimlahaaDoorFCompactPut
import Derived.Test.YteoibgpkimlahaaDoorFFixedGetLittle
import Derived.Test.YteoibgpkimlahaaDoorQFixedPut
namespace Go.Proofs.YteoibgpkimlahaaDoor.P
open Go.RowKit Go.Proofs.YteoibgpkimlahaaDoorW.PrintWords Go.Proofs.YteoibgpkimlahaaDoorW.PrintLast Go.Proofs.YteoibgpkimlahaaDoorW.PrintMore
attribute [local go_sem] max2_int min2_int max_two min_two max_three min_three max_four min_four   -- for this text's walks alone
set_option linter.unusedVariables false
set_option linter.unusedSimpArgs false

/-! ### compact_Next: function 16 -/
--import Derived.Test.YteoibgpkimlahaaDoorQFixedPut
/-- How many bytes stand behind a first byte from 253 on. -/
def csz (b : Int) : Nat := if b = 253 then 2 else if b = 254 then 4 else 8
def compact_Next.f (a0 : ByteArray) : Option (Int × Int × Int) :=
  if a0.toList = [] then some (0, 0, 2) else if bt a0 0 < 253 then some (bt a0 0, 1, 0) else
    (if a0.size < 1 + csz (bt a0 0) then some (0, 0, 2) else
      (if (compL (numL (bytesOf (a0.extract 1 (1 + csz (bt a0 0)))).reverse)).length = 1 + csz (bt a0 0) then some (numL (bytesOf (a0.extract 1 (1 + csz (bt a0 0)))).reverse, ((1 + csz (bt a0 0) : Nat) : Int), 0) else some (0, 0, 3)))
set_option maxHeartbeats 8000000 in
set_option maxRecDepth 100000 in
theorem compact_Next.calls (a0 : ByteArray) (r1 : Int) (r2 : Int) (r3 : Int) (w : World) (hG_sizes : G_sizes w) (h : compact_Next.f a0 = some (r1, r2, r3)) :
    Calls Tryd.prog 16 #[.string a0] w fun e w' => e = .returned (.tuple #[.int .u64 r1, .int .i64 r2, .int .i64 r3]) ∧ Below w.heap.size w w' := by
  have HB := Aside0.mk (Below.refl w.heap.size w)
  unfold compact_Next.f at h
  by_cases c1 : a0.toList = ([] : List UInt8)
  · rw [if_pos c1] at h
    injection h with h
    injection h with h1 h2
    injection h2 with h2 h3
    subst h1 h2 h3
    have c6b0 : (a0.toList == ([] : List UInt8)) = true := beq_iff_eq.mpr c1
    have c6b1 : (a0.toList != ([] : List UInt8)) = false := bne_eq_false_iff_eq.mpr c1
    clear c1
    go_enter Tryd.func16, Tryd.ntmps16
    go_wp2
    go_ret3
    exact ⟨rfl, HB.out⟩
  · rw [if_neg c1] at h
    have c6b0 : (a0.toList == ([] : List UInt8)) = false := beq_eq_false_iff_ne.mpr c1
    have c6b1 : (a0.toList != ([] : List UInt8)) = true := bne_iff_ne.mpr c1
    have q0 : 0 < a0.size := by have := mt (size_zero a0).2 c1; omega
    have hx0 : ∀ h : 0 < a0.size, ((a0[0]'h).toNat : Int) = bt a0 0 := bt_at a0 0
    have qi0 : (0 < (a0.size : Int)) = True := eq_true (by omega)
    obtain ⟨r0, r255⟩ := bt_range a0 0
    by_cases c2 : bt a0 0 < 253
    · rw [if_pos c2] at h
      injection h with h
      injection h with h1 h2
      injection h2 with h2 h3
      subst h1 h2 h3
      have b2 : decide (bt a0 0 < 253) = true := decide_eq_true c2
      replace q0 := eq_true q0
      have w1 := Aside0.mk (show IntKind.u64.wrap (bt a0 0) = bt a0 0 from u64_small r0 (by omega))
      have w1 := w1.out
      have w2 : wrap64 (bt a0 0) = bt a0 0 := i64_small r0 (by omega)
      generalize bt a0 0 = b at *
      clear c1
      go_enter Tryd.func16, Tryd.ntmps16
      go_wp2
      go_ret3
      exact ⟨rfl, HB.out⟩
    · rcases (show bt a0 0 = 253 ∨ bt a0 0 = 254 ∨ bt a0 0 = 255 by omega) with cb | cb | cb
      · replace q0 := eq_true q0
        clear r0 r255
        have e0 : bt a0 0 = 253 := cb
        rw [if_neg (show ¬ bt a0 0 < 253 by omega), e0] at h
        rw [e0] at hx0
        rw [show csz 253 = 2 from rfl] at h
        clear e0 cb
        by_cases c4 : a0.size < 1 + 2
        · rw [if_pos c4] at h
          injection h with h
          injection h with h1 h2
          injection h2 with h2 h3
          subst h1 h2 h3
          have b4 : decide ((a0.size : Int) < 3) = true := decide_eq_true (by omega)
          have b4' : decide (a0.size < 3) = true := decide_eq_true (by omega)
          clear c4 c1
          obtain ⟨g0, g1, g2⟩ := hG_sizes
          go_enter Tryd.func16, Tryd.ntmps16
          go_wp2
          go_ret3
          exact ⟨rfl, HB.out⟩
        · rw [if_neg c4] at h
          have b4 : decide ((a0.size : Int) < 3) = false := decide_eq_false (by omega)
          have b4' : decide (a0.size < 3) = false := decide_eq_false (by omega)
          have b5 : (3 ≤ (a0.size : Int)) = True := eq_true (by omega)
          have b5' : (3 ≤ a0.size) = True := eq_true (by omega)
          have hsz : (a0.extract 1 3).size = 2 := by simp [ByteArray.size_extract]; omega
          have A2 := Aside0.mk (show fixed_GetLittle.f (a0.extract 1 3) = _ from get_ok true _ (by omega) (by omega))
          rw [if_pos rfl] at A2
          have hbd := numL_bd (bytesOf (a0.extract 1 3)).reverse (isByte_reverse (bytesOf_byte _))
          rw [List.length_reverse, bytesOf_length, hsz] at hbd
          rw [show 1 + 2 = 3 from rfl] at h
          generalize numL (bytesOf (a0.extract 1 3)).reverse = n at h A2 hbd
          have A3 := Aside0.mk (show compact_Put.f n = some (strOfNums (compL n)) by unfold compact_Put.f; rw [if_pos ⟨hbd.1, by have := hbd.2; omega⟩])
          have hz : (strOfNums (compL n)).size = (compL n).length := strOfNums_size _
          have HG := Aside0.mk hG_sizes
          obtain ⟨g0, g1, g2⟩ := hG_sizes
          by_cases c5 : (compL n).length = 3
          · rw [if_pos c5] at h
            injection h with h
            injection h with h1 h2
            injection h2 with h2 h3
            subst h1 h2 h3
            have b6 : (((strOfNums (compL n)).size : Int) != 3) = false := by rw [hz, c5]; rfl
            clear c4 c5 hbd hz hsz c1
            go_enter Tryd.func16, Tryd.ntmps16
            go_wp2_with fail
            refine (fixed_GetLittle.calls _ n 0 w A2.out).mono ?_
            rintro e w1 ⟨rfl, hb⟩
            have HB1 := Aside0.mk hb
            have HG1 := Aside0.mk (G_sizes.below HG.out hb)
            clear hb
            go_wp2_with fail
            refine (compact_Put.calls n _ w1 HG1.out A3.out).mono ?_
            rintro e w2 ⟨rfl, hb⟩
            have HB2 := Aside0.mk (below_step HB1.out hb)
            clear hb
            go_wp2
            go_ret3
            exact ⟨rfl, HB2.out⟩
          · rw [if_neg c5] at h
            injection h with h
            injection h with h1 h2
            injection h2 with h2 h3
            subst h1 h2 h3
            have b6 : (((strOfNums (compL n)).size : Int) != 3) = true := by rw [hz, bne_iff_ne]; omega
            clear c4 c5 hbd hz hsz c1
            go_enter Tryd.func16, Tryd.ntmps16
            go_wp2_with fail
            refine (fixed_GetLittle.calls _ n 0 w A2.out).mono ?_
            rintro e w1 ⟨rfl, hb⟩
            have HB1 := Aside0.mk hb
            have HG1 := Aside0.mk (G_sizes.below HG.out hb)
            clear hb
            go_wp2_with fail
            refine (compact_Put.calls n _ w1 HG1.out A3.out).mono ?_
            rintro e w2 ⟨rfl, hb⟩
            have HB2 := Aside0.mk (below_step HB1.out hb)
            clear hb
            go_wp2
            go_ret3
            exact ⟨rfl, HB2.out⟩
      · replace q0 := eq_true q0
        clear r0 r255
        have e0 : bt a0 0 = 254 := cb
        rw [if_neg (show ¬ bt a0 0 < 253 by omega), e0] at h
        rw [e0] at hx0
        rw [show csz 254 = 4 from rfl] at h
        clear e0 cb
        by_cases c4 : a0.size < 1 + 4
        · rw [if_pos c4] at h
          injection h with h
          injection h with h1 h2
          injection h2 with h2 h3
          subst h1 h2 h3
          have b4 : decide ((a0.size : Int) < 5) = true := decide_eq_true (by omega)
          have b4' : decide (a0.size < 5) = true := decide_eq_true (by omega)
          clear c4 c1
          obtain ⟨g0, g1, g2⟩ := hG_sizes
          go_enter Tryd.func16, Tryd.ntmps16
          go_wp2
          go_ret3
          exact ⟨rfl, HB.out⟩
        · rw [if_neg c4] at h
          have b4 : decide ((a0.size : Int) < 5) = false := decide_eq_false (by omega)
          have b4' : decide (a0.size < 5) = false := decide_eq_false (by omega)
          have b5 : (5 ≤ (a0.size : Int)) = True := eq_true (by omega)
          have b5' : (5 ≤ a0.size) = True := eq_true (by omega)
          have hsz : (a0.extract 1 5).size = 4 := by simp [ByteArray.size_extract]; omega
          have A2 := Aside0.mk (show fixed_GetLittle.f (a0.extract 1 5) = _ from get_ok true _ (by omega) (by omega))
          rw [if_pos rfl] at A2
          have hbd := numL_bd (bytesOf (a0.extract 1 5)).reverse (isByte_reverse (bytesOf_byte _))
          rw [List.length_reverse, bytesOf_length, hsz] at hbd
          rw [show 1 + 4 = 5 from rfl] at h
          generalize numL (bytesOf (a0.extract 1 5)).reverse = n at h A2 hbd
          have A3 := Aside0.mk (show compact_Put.f n = some (strOfNums (compL n)) by unfold compact_Put.f; rw [if_pos ⟨hbd.1, by have := hbd.2; omega⟩])
          have hz : (strOfNums (compL n)).size = (compL n).length := strOfNums_size _
          have HG := Aside0.mk hG_sizes
          obtain ⟨g0, g1, g2⟩ := hG_sizes
          by_cases c5 : (compL n).length = 5
          · rw [if_pos c5] at h
            injection h with h
            injection h with h1 h2
            injection h2 with h2 h3
            subst h1 h2 h3
            have b6 : (((strOfNums (compL n)).size : Int) != 5) = false := by rw [hz, c5]; rfl
            clear c4 c5 hbd hz hsz c1
            go_enter Tryd.func16, Tryd.ntmps16
            go_wp2_with fail
            refine (fixed_GetLittle.calls _ n 0 w A2.out).mono ?_
            rintro e w1 ⟨rfl, hb⟩
            have HB1 := Aside0.mk hb
            have HG1 := Aside0.mk (G_sizes.below HG.out hb)
            clear hb
            go_wp2_with fail
            refine (compact_Put.calls n _ w1 HG1.out A3.out).mono ?_
            rintro e w2 ⟨rfl, hb⟩
            have HB2 := Aside0.mk (below_step HB1.out hb)
            clear hb
            go_wp2
            go_ret3
            exact ⟨rfl, HB2.out⟩
          · rw [if_neg c5] at h
            injection h with h
            injection h with h1 h2
            injection h2 with h2 h3
            subst h1 h2 h3
            have b6 : (((strOfNums (compL n)).size : Int) != 5) = true := by rw [hz, bne_iff_ne]; omega
            clear c4 c5 hbd hz hsz c1
            go_enter Tryd.func16, Tryd.ntmps16
            go_wp2_with fail
            refine (fixed_GetLittle.calls _ n 0 w A2.out).mono ?_
            rintro e w1 ⟨rfl, hb⟩
            have HB1 := Aside0.mk hb
            have HG1 := Aside0.mk (G_sizes.below HG.out hb)
            clear hb
            go_wp2_with fail
            refine (compact_Put.calls n _ w1 HG1.out A3.out).mono ?_
            rintro e w2 ⟨rfl, hb⟩
            have HB2 := Aside0.mk (below_step HB1.out hb)
            clear hb
            go_wp2
            go_ret3
            exact ⟨rfl, HB2.out⟩
      · replace q0 := eq_true q0
        clear r0 r255
        have e0 : bt a0 0 = 255 := cb
        rw [if_neg (show ¬ bt a0 0 < 253 by omega), e0] at h
        rw [e0] at hx0
        rw [show csz 255 = 8 from rfl] at h
        clear e0 cb
        by_cases c4 : a0.size < 1 + 8
        · rw [if_pos c4] at h
          injection h with h
          injection h with h1 h2
          injection h2 with h2 h3
          subst h1 h2 h3
          have b4 : decide ((a0.size : Int) < 9) = true := decide_eq_true (by omega)
          have b4' : decide (a0.size < 9) = true := decide_eq_true (by omega)
          clear c4 c1
          obtain ⟨g0, g1, g2⟩ := hG_sizes
          go_enter Tryd.func16, Tryd.ntmps16
          go_wp2
          go_ret3
          exact ⟨rfl, HB.out⟩
        · rw [if_neg c4] at h
          have b4 : decide ((a0.size : Int) < 9) = false := decide_eq_false (by omega)
          have b4' : decide (a0.size < 9) = false := decide_eq_false (by omega)
          have b5 : (9 ≤ (a0.size : Int)) = True := eq_true (by omega)
          have b5' : (9 ≤ a0.size) = True := eq_true (by omega)
          have hsz : (a0.extract 1 9).size = 8 := by simp [ByteArray.size_extract]; omega
          have A2 := Aside0.mk (show fixed_GetLittle.f (a0.extract 1 9) = _ from get_ok true _ (by omega) (by omega))
          rw [if_pos rfl] at A2
          have hbd := numL_bd (bytesOf (a0.extract 1 9)).reverse (isByte_reverse (bytesOf_byte _))
          rw [List.length_reverse, bytesOf_length, hsz] at hbd
          rw [show 1 + 8 = 9 from rfl] at h
          generalize numL (bytesOf (a0.extract 1 9)).reverse = n at h A2 hbd
          have A3 := Aside0.mk (show compact_Put.f n = some (strOfNums (compL n)) by unfold compact_Put.f; rw [if_pos ⟨hbd.1, by have := hbd.2; omega⟩])
          have hz : (strOfNums (compL n)).size = (compL n).length := strOfNums_size _
          have HG := Aside0.mk hG_sizes
          obtain ⟨g0, g1, g2⟩ := hG_sizes
          by_cases c5 : (compL n).length = 9
          · rw [if_pos c5] at h
            injection h with h
            injection h with h1 h2
            injection h2 with h2 h3
            subst h1 h2 h3
            have b6 : (((strOfNums (compL n)).size : Int) != 9) = false := by rw [hz, c5]; rfl
            clear c4 c5 hbd hz hsz c1
            go_enter Tryd.func16, Tryd.ntmps16
            go_wp2_with fail
            refine (fixed_GetLittle.calls _ n 0 w A2.out).mono ?_
            rintro e w1 ⟨rfl, hb⟩
            have HB1 := Aside0.mk hb
            have HG1 := Aside0.mk (G_sizes.below HG.out hb)
            clear hb
            go_wp2_with fail
            refine (compact_Put.calls n _ w1 HG1.out A3.out).mono ?_
            rintro e w2 ⟨rfl, hb⟩
            have HB2 := Aside0.mk (below_step HB1.out hb)
            clear hb
            go_wp2
            go_ret3
            exact ⟨rfl, HB2.out⟩
          · rw [if_neg c5] at h
            injection h with h
            injection h with h1 h2
            injection h2 with h2 h3
            subst h1 h2 h3
            have b6 : (((strOfNums (compL n)).size : Int) != 9) = true := by rw [hz, bne_iff_ne]; omega
            clear c4 c5 hbd hz hsz c1
            go_enter Tryd.func16, Tryd.ntmps16
            go_wp2_with fail
            refine (fixed_GetLittle.calls _ n 0 w A2.out).mono ?_
            rintro e w1 ⟨rfl, hb⟩
            have HB1 := Aside0.mk hb
            have HG1 := Aside0.mk (G_sizes.below HG.out hb)
            clear hb
            go_wp2_with fail
            refine (compact_Put.calls n _ w1 HG1.out A3.out).mono ?_
            rintro e w2 ⟨rfl, hb⟩
            have HB2 := Aside0.mk (below_step HB1.out hb)
            clear hb
            go_wp2
            go_ret3
            exact ⟨rfl, HB2.out⟩

end Go.Proofs.YteoibgpkimlahaaDoor.P
