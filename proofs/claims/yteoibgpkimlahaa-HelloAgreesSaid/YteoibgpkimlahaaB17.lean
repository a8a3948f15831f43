/- What two agree on is the same whichever is asked first, and it is the document's. (part 17 of 19) -/
import Derived.Test.YteoibgpkimlahaaB6
import Derived.Test.YteoibgpkimlahaaB16
import Derived.Test.YteoibgpkimlahaaB7
import Derived.Test.YteoibgpkimlahaaB8
import Derived.Test.YteoibgpkimlahaaB15
section
namespace Go.Proofs.Yteoibgpkimlahaa.P
open Go.RowKit Go.Proofs.YteoibgpkimlahaaW.PrintWords Go.Proofs.YteoibgpkimlahaaW.PrintLast Go.Proofs.YteoibgpkimlahaaW.PrintMore
attribute [local go_sem] max2_int min2_int max_two min_two max_three min_three max_four min_four   
set_option linter.unusedVariables false
set_option linter.unusedSimpArgs false
mutual
def hatchwaylaw32_HelloAgrees.j0 : Nat → ByteArray → Bool → Int → Int → List (S58) → Int → Int → List (S58) → Option (Bool)
 | 0, _, _, _, _, _, _, _, _ => none
 | k + 1, x2, x28, x102000, x102001, x102002, x103000, x103001, x103002 => if x28 = true then (some true) else ((hatchwaylaw32_Of.f k x102000 x102001 x102002).bind fun bt106 => ((hatchwaylaw32_Of.f k x103000 x103001 x103002).bind fun bt111 => ((hello_Agree.f k bt106.1 bt106.2.1 bt106.2.2 bt111.1 bt111.2.1 bt111.2.2).bind fun bt116 => ((hatchwaylaw32_Of.f k x103000 x103001 x103002).bind fun bt122 => ((hatchwaylaw32_Of.f k x102000 x102001 x102002).bind fun bt127 => ((hello_Agree.f k bt122.1 bt122.2.1 bt122.2.2 bt127.1 bt127.2.1 bt127.2.2).bind fun bt132 => (if bt116.2.2 = bt132.2.2 then (if bt116.1 = bt132.1 then ((hatchwaylaw32_plain.f k bt116.2.1).bind fun t138 => ((hatchwaylaw32_plain.f k bt132.2.1).bind fun t141 => ((hatchwayref32_Same.f k t138 t141).bind fun t144 => (hatchwaylaw32_HelloAgrees.j1 k x2 bt116.2.2 (!t144) x102000 x102001 x102002 x103000 x103001 x103002 bt116.1 bt116.2.1)))) else (hatchwaylaw32_HelloAgrees.j1 k x2 bt116.2.2 true x102000 x102001 x102002 x103000 x103001 x103002 bt116.1 bt116.2.1)) else (hatchwaylaw32_HelloAgrees.j1 k x2 bt116.2.2 true x102000 x102001 x102002 x103000 x103001 x103002 bt116.1 bt116.2.1))))))))
def hatchwaylaw32_HelloAgrees.j1 : Nat → ByteArray → Int → Bool → Int → Int → List (S58) → Int → Int → List (S58) → Int → List (S104) → Option (Bool)
 | 0, _, _, _, _, _, _, _, _, _, _, _ => none
 | k + 1, x2, x8, x64, x102000, x102001, x102002, x103000, x103001, x103002, x122000, x122001 => if x64 = true then (some false) else ((hatchwayref32_May.f k x102000 x102001 x102002).bind fun t145 => (if t145 = true then ((hatchwayref32_May.f k x103000 x103001 x103002).bind fun t146 => (hatchwaylaw32_HelloAgrees.j2 k x2 x8 (!t146) x102000 x102001 x102002 x103000 x103001 x103002 x122000 x122001)) else (hatchwaylaw32_HelloAgrees.j2 k x2 x8 true x102000 x102001 x102002 x103000 x103001 x103002 x122000 x122001)))
def hatchwaylaw32_HelloAgrees.j2 : Nat → ByteArray → Int → Bool → Int → Int → List (S58) → Int → Int → List (S58) → Int → List (S104) → Option (Bool)
 | 0, _, _, _, _, _, _, _, _, _, _, _ => none
 | k + 1, x2, x8, x72, x102000, x102001, x102002, x103000, x103001, x103002, x122000, x122001 => if x72 = true then (if x8 = 1 then (if x122000 = 0 then (some ((x122001.length : Int) == 0)) else (some false)) else (some false)) else ((hatchwayref32_Agree.f k x102000 x102001 x102002 x103000 x103001 x103002).bind fun bt147 => (if bt147.2.2 = true then (if x8 = 0 then (if x122000 = bt147.1 then ((hatchwaylaw32_plain.f k x122001).bind fun t153 => ((hatchwayref32_Same.f k t153 bt147.2.1).bind fun t156 => (hatchwaylaw32_HelloAgrees.j3 k x2 (!t156) x122000 x122001 bt147.1 bt147.2.1))) else (hatchwaylaw32_HelloAgrees.j3 k x2 true x122000 x122001 bt147.1 bt147.2.1)) else (hatchwaylaw32_HelloAgrees.j3 k x2 true x122000 x122001 bt147.1 bt147.2.1)) else (if x8 = 7 then (if x122000 = 0 then (some ((x122001.length : Int) == 0)) else (some false)) else (some false))))
def hatchwaylaw32_HelloAgrees.j3 : Nat → ByteArray → Bool → Int → List (S104) → Int → List (S58) → Option (Bool)
 | 0, _, _, _, _, _, _ => none
 | k + 1, x2, x124, x122000, x122001, x153000, x153001 => if x124 = true then (some false) else ((hello_Offset.f k x122000 x122001 x2).bind fun bt157 => (hatchwaylaw32_HelloAgrees.l0 k x2 bt157.1 bt157.2 0 x153000 x153001))
def hatchwaylaw32_HelloAgrees.l0 : Nat → ByteArray → Int → Bool → Int → Int → List (S58) → Option (Bool)
 | 0, _, _, _, _, _, _ => none
 | k + 1, x2, x13, x14, x15, x153000, x153001 => if x15 < (x153001.length : Int) then (if 0 ≤ x15 then (if ((rd_T58 x153001 x15).f0).toList = x2.toList then (if x14 = true then (some (x13 == (wrap64 (16 * (wrap64 (x15 + 1)))))) else (some false)) else (hatchwaylaw32_HelloAgrees.l0 k x2 x13 x14 (wrap64 (x15 + 1)) x153000 x153001)) else (none)) else (if x14 = true then (some false) else (some (x13 == 0)))
end
def hatchwaylaw32_HelloAgrees.f (k : Nat) (a0_0 : Int) (a0_1 : Int) (l0_2 : List (S58)) (a1_0 : Int) (a1_1 : Int) (l1_2 : List (S58)) (a2 : ByteArray) : Option (Bool) := (hatchwaylaw32_alive.f k).bind fun t103 => (if t103 = true then ((hatchwaylaw32_great.f k a0_0 a0_1 l0_2).bind fun t104 => (if t104 = true then (hatchwaylaw32_HelloAgrees.j0 k a2 true a0_0 a0_1 l0_2 a1_0 a1_1 l1_2) else ((hatchwaylaw32_great.f k a1_0 a1_1 l1_2).bind fun t105 => (if t105 = true then (hatchwaylaw32_HelloAgrees.j0 k a2 true a0_0 a0_1 l0_2 a1_0 a1_1 l1_2) else (hatchwaylaw32_HelloAgrees.j0 k a2 (decide ((a2.size : Int) > 100)) a0_0 a0_1 l0_2 a1_0 a1_1 l1_2))))) else (some false))
theorem hatchwaylaw32_HelloAgrees.mono_l : ∀ k, (∀ y0 y1 y2 y3 y4 y5 y6 y7, LeO (hatchwaylaw32_HelloAgrees.j0 k y0 y1 y2 y3 y4 y5 y6 y7) (hatchwaylaw32_HelloAgrees.j0 (k + 1) y0 y1 y2 y3 y4 y5 y6 y7)) ∧ (∀ y0 y1 y2 y3 y4 y5 y6 y7 y8 y9 y10, LeO (hatchwaylaw32_HelloAgrees.j1 k y0 y1 y2 y3 y4 y5 y6 y7 y8 y9 y10) (hatchwaylaw32_HelloAgrees.j1 (k + 1) y0 y1 y2 y3 y4 y5 y6 y7 y8 y9 y10)) ∧ (∀ y0 y1 y2 y3 y4 y5 y6 y7 y8 y9 y10, LeO (hatchwaylaw32_HelloAgrees.j2 k y0 y1 y2 y3 y4 y5 y6 y7 y8 y9 y10) (hatchwaylaw32_HelloAgrees.j2 (k + 1) y0 y1 y2 y3 y4 y5 y6 y7 y8 y9 y10)) ∧ (∀ y0 y1 y2 y3 y4 y5, LeO (hatchwaylaw32_HelloAgrees.j3 k y0 y1 y2 y3 y4 y5) (hatchwaylaw32_HelloAgrees.j3 (k + 1) y0 y1 y2 y3 y4 y5)) ∧ (∀ y0 y1 y2 y3 y4 y5, LeO (hatchwaylaw32_HelloAgrees.l0 k y0 y1 y2 y3 y4 y5) (hatchwaylaw32_HelloAgrees.l0 (k + 1) y0 y1 y2 y3 y4 y5))
 | 0 => ⟨fun _ _ _ _ _ _ _ _ r h => by simp [hatchwaylaw32_HelloAgrees.j0] at h, fun _ _ _ _ _ _ _ _ _ _ _ r h => by simp [hatchwaylaw32_HelloAgrees.j1] at h, fun _ _ _ _ _ _ _ _ _ _ _ r h => by simp [hatchwaylaw32_HelloAgrees.j2] at h, fun _ _ _ _ _ _ r h => by simp [hatchwaylaw32_HelloAgrees.j3] at h, fun _ _ _ _ _ _ r h => by simp [hatchwaylaw32_HelloAgrees.l0] at h⟩
 | k + 1 => by
  obtain ⟨ih0, ih1, ih2, ih3, ih4⟩ := hatchwaylaw32_HelloAgrees.mono_l k
  refine ⟨?_, ?_, ?_, ?_, ?_⟩
  ·intro y0 y1 y2 y3 y4 y5 y6 y7
   unfold hatchwaylaw32_HelloAgrees.j0
   repeat' first
   | (with_reducible exact ih0 _ _ _ _ _ _ _ _)
   | (with_reducible exact ih1 _ _ _ _ _ _ _ _ _ _ _)
   | (with_reducible exact ih2 _ _ _ _ _ _ _ _ _ _ _)
   | (with_reducible exact ih3 _ _ _ _ _ _)
   | (with_reducible exact ih4 _ _ _ _ _ _)
   | (with_reducible exact hatchwaylaw32_Of.mono _ _ _ _)
   | (with_reducible exact hatchwaylaw32_alive.mono _)
   | (with_reducible exact hatchwaylaw32_great.mono _ _ _ _)
   | (with_reducible exact hatchwaylaw32_plain.mono _ _)
   | (with_reducible exact hatchwayref32_Agree.mono _ _ _ _ _ _ _)
   | (with_reducible exact hatchwayref32_May.mono _ _ _ _)
   | (with_reducible exact hatchwayref32_Same.mono _ _ _)
   | (with_reducible exact hello_Agree.mono _ _ _ _ _ _ _)
   | (with_reducible exact hello_Offset.mono _ _ _ _)
   | (with_reducible exact LeO.refl _)
   | (with_reducible exact LeO.none _)
   | (with_reducible refine LeO.ite ?_ ?_)
   | (with_reducible refine LeO.bind ?_ (fun _ => ?_))
   | exact ih0 _ _ _ _ _ _ _ _
   | exact ih1 _ _ _ _ _ _ _ _ _ _ _
   | exact ih2 _ _ _ _ _ _ _ _ _ _ _
   | exact ih3 _ _ _ _ _ _
   | exact ih4 _ _ _ _ _ _
   | exact hatchwaylaw32_Of.mono _ _ _ _
   | exact hatchwaylaw32_alive.mono _
   | exact hatchwaylaw32_great.mono _ _ _ _
   | exact hatchwaylaw32_plain.mono _ _
   | exact hatchwayref32_Agree.mono _ _ _ _ _ _ _
   | exact hatchwayref32_May.mono _ _ _ _
   | exact hatchwayref32_Same.mono _ _ _
   | exact hello_Agree.mono _ _ _ _ _ _ _
   | exact hello_Offset.mono _ _ _ _
   | exact LeO.none _
   | refine LeO.ite ?_ ?_
   | refine LeO.bind ?_ (fun _ => ?_)
  ·intro y0 y1 y2 y3 y4 y5 y6 y7 y8 y9 y10
   unfold hatchwaylaw32_HelloAgrees.j1
   repeat' first
   | (with_reducible exact ih0 _ _ _ _ _ _ _ _)
   | (with_reducible exact ih1 _ _ _ _ _ _ _ _ _ _ _)
   | (with_reducible exact ih2 _ _ _ _ _ _ _ _ _ _ _)
   | (with_reducible exact ih3 _ _ _ _ _ _)
   | (with_reducible exact ih4 _ _ _ _ _ _)
   | (with_reducible exact hatchwaylaw32_Of.mono _ _ _ _)
   | (with_reducible exact hatchwaylaw32_alive.mono _)
   | (with_reducible exact hatchwaylaw32_great.mono _ _ _ _)
   | (with_reducible exact hatchwaylaw32_plain.mono _ _)
   | (with_reducible exact hatchwayref32_Agree.mono _ _ _ _ _ _ _)
   | (with_reducible exact hatchwayref32_May.mono _ _ _ _)
   | (with_reducible exact hatchwayref32_Same.mono _ _ _)
   | (with_reducible exact hello_Agree.mono _ _ _ _ _ _ _)
   | (with_reducible exact hello_Offset.mono _ _ _ _)
   | (with_reducible exact LeO.refl _)
   | (with_reducible exact LeO.none _)
   | (with_reducible refine LeO.ite ?_ ?_)
   | (with_reducible refine LeO.bind ?_ (fun _ => ?_))
   | exact ih0 _ _ _ _ _ _ _ _
   | exact ih1 _ _ _ _ _ _ _ _ _ _ _
   | exact ih2 _ _ _ _ _ _ _ _ _ _ _
   | exact ih3 _ _ _ _ _ _
   | exact ih4 _ _ _ _ _ _
   | exact hatchwaylaw32_Of.mono _ _ _ _
   | exact hatchwaylaw32_alive.mono _
   | exact hatchwaylaw32_great.mono _ _ _ _
   | exact hatchwaylaw32_plain.mono _ _
   | exact hatchwayref32_Agree.mono _ _ _ _ _ _ _
   | exact hatchwayref32_May.mono _ _ _ _
   | exact hatchwayref32_Same.mono _ _ _
   | exact hello_Agree.mono _ _ _ _ _ _ _
   | exact hello_Offset.mono _ _ _ _
   | exact LeO.none _
   | refine LeO.ite ?_ ?_
   | refine LeO.bind ?_ (fun _ => ?_)
  ·intro y0 y1 y2 y3 y4 y5 y6 y7 y8 y9 y10
   unfold hatchwaylaw32_HelloAgrees.j2
   repeat' first
   | (with_reducible exact ih0 _ _ _ _ _ _ _ _)
   | (with_reducible exact ih1 _ _ _ _ _ _ _ _ _ _ _)
   | (with_reducible exact ih2 _ _ _ _ _ _ _ _ _ _ _)
   | (with_reducible exact ih3 _ _ _ _ _ _)
   | (with_reducible exact ih4 _ _ _ _ _ _)
   | (with_reducible exact hatchwaylaw32_Of.mono _ _ _ _)
   | (with_reducible exact hatchwaylaw32_alive.mono _)
   | (with_reducible exact hatchwaylaw32_great.mono _ _ _ _)
   | (with_reducible exact hatchwaylaw32_plain.mono _ _)
   | (with_reducible exact hatchwayref32_Agree.mono _ _ _ _ _ _ _)
   | (with_reducible exact hatchwayref32_May.mono _ _ _ _)
   | (with_reducible exact hatchwayref32_Same.mono _ _ _)
   | (with_reducible exact hello_Agree.mono _ _ _ _ _ _ _)
   | (with_reducible exact hello_Offset.mono _ _ _ _)
   | (with_reducible exact LeO.refl _)
   | (with_reducible exact LeO.none _)
   | (with_reducible refine LeO.ite ?_ ?_)
   | (with_reducible refine LeO.bind ?_ (fun _ => ?_))
   | exact ih0 _ _ _ _ _ _ _ _
   | exact ih1 _ _ _ _ _ _ _ _ _ _ _
   | exact ih2 _ _ _ _ _ _ _ _ _ _ _
   | exact ih3 _ _ _ _ _ _
   | exact ih4 _ _ _ _ _ _
   | exact hatchwaylaw32_Of.mono _ _ _ _
   | exact hatchwaylaw32_alive.mono _
   | exact hatchwaylaw32_great.mono _ _ _ _
   | exact hatchwaylaw32_plain.mono _ _
   | exact hatchwayref32_Agree.mono _ _ _ _ _ _ _
   | exact hatchwayref32_May.mono _ _ _ _
   | exact hatchwayref32_Same.mono _ _ _
   | exact hello_Agree.mono _ _ _ _ _ _ _
   | exact hello_Offset.mono _ _ _ _
   | exact LeO.none _
   | refine LeO.ite ?_ ?_
   | refine LeO.bind ?_ (fun _ => ?_)
  ·intro y0 y1 y2 y3 y4 y5
   unfold hatchwaylaw32_HelloAgrees.j3
   repeat' first
   | (with_reducible exact ih0 _ _ _ _ _ _ _ _)
   | (with_reducible exact ih1 _ _ _ _ _ _ _ _ _ _ _)
   | (with_reducible exact ih2 _ _ _ _ _ _ _ _ _ _ _)
   | (with_reducible exact ih3 _ _ _ _ _ _)
   | (with_reducible exact ih4 _ _ _ _ _ _)
   | (with_reducible exact hatchwaylaw32_Of.mono _ _ _ _)
   | (with_reducible exact hatchwaylaw32_alive.mono _)
   | (with_reducible exact hatchwaylaw32_great.mono _ _ _ _)
   | (with_reducible exact hatchwaylaw32_plain.mono _ _)
   | (with_reducible exact hatchwayref32_Agree.mono _ _ _ _ _ _ _)
   | (with_reducible exact hatchwayref32_May.mono _ _ _ _)
   | (with_reducible exact hatchwayref32_Same.mono _ _ _)
   | (with_reducible exact hello_Agree.mono _ _ _ _ _ _ _)
   | (with_reducible exact hello_Offset.mono _ _ _ _)
   | (with_reducible exact LeO.refl _)
   | (with_reducible exact LeO.none _)
   | (with_reducible refine LeO.ite ?_ ?_)
   | (with_reducible refine LeO.bind ?_ (fun _ => ?_))
   | exact ih0 _ _ _ _ _ _ _ _
   | exact ih1 _ _ _ _ _ _ _ _ _ _ _
   | exact ih2 _ _ _ _ _ _ _ _ _ _ _
   | exact ih3 _ _ _ _ _ _
   | exact ih4 _ _ _ _ _ _
   | exact hatchwaylaw32_Of.mono _ _ _ _
   | exact hatchwaylaw32_alive.mono _
   | exact hatchwaylaw32_great.mono _ _ _ _
   | exact hatchwaylaw32_plain.mono _ _
   | exact hatchwayref32_Agree.mono _ _ _ _ _ _ _
   | exact hatchwayref32_May.mono _ _ _ _
   | exact hatchwayref32_Same.mono _ _ _
   | exact hello_Agree.mono _ _ _ _ _ _ _
   | exact hello_Offset.mono _ _ _ _
   | exact LeO.none _
   | refine LeO.ite ?_ ?_
   | refine LeO.bind ?_ (fun _ => ?_)
  ·intro y0 y1 y2 y3 y4 y5
   unfold hatchwaylaw32_HelloAgrees.l0
   repeat' first
   | (with_reducible exact ih0 _ _ _ _ _ _ _ _)
   | (with_reducible exact ih1 _ _ _ _ _ _ _ _ _ _ _)
   | (with_reducible exact ih2 _ _ _ _ _ _ _ _ _ _ _)
   | (with_reducible exact ih3 _ _ _ _ _ _)
   | (with_reducible exact ih4 _ _ _ _ _ _)
   | (with_reducible exact hatchwaylaw32_Of.mono _ _ _ _)
   | (with_reducible exact hatchwaylaw32_alive.mono _)
   | (with_reducible exact hatchwaylaw32_great.mono _ _ _ _)
   | (with_reducible exact hatchwaylaw32_plain.mono _ _)
   | (with_reducible exact hatchwayref32_Agree.mono _ _ _ _ _ _ _)
   | (with_reducible exact hatchwayref32_May.mono _ _ _ _)
   | (with_reducible exact hatchwayref32_Same.mono _ _ _)
   | (with_reducible exact hello_Agree.mono _ _ _ _ _ _ _)
   | (with_reducible exact hello_Offset.mono _ _ _ _)
   | (with_reducible exact LeO.refl _)
   | (with_reducible exact LeO.none _)
   | (with_reducible refine LeO.ite ?_ ?_)
   | (with_reducible refine LeO.bind ?_ (fun _ => ?_))
   | exact ih0 _ _ _ _ _ _ _ _
   | exact ih1 _ _ _ _ _ _ _ _ _ _ _
   | exact ih2 _ _ _ _ _ _ _ _ _ _ _
   | exact ih3 _ _ _ _ _ _
   | exact ih4 _ _ _ _ _ _
   | exact hatchwaylaw32_Of.mono _ _ _ _
   | exact hatchwaylaw32_alive.mono _
   | exact hatchwaylaw32_great.mono _ _ _ _
   | exact hatchwaylaw32_plain.mono _ _
   | exact hatchwayref32_Agree.mono _ _ _ _ _ _ _
   | exact hatchwayref32_May.mono _ _ _ _
   | exact hatchwayref32_Same.mono _ _ _
   | exact hello_Agree.mono _ _ _ _ _ _ _
   | exact hello_Offset.mono _ _ _ _
   | exact LeO.none _
   | refine LeO.ite ?_ ?_
   | refine LeO.bind ?_ (fun _ => ?_)
theorem hatchwaylaw32_HelloAgrees.mono : ∀ a0 a1 a2 a3 a4 a5 a6 k, LeO (hatchwaylaw32_HelloAgrees.f k a0 a1 a2 a3 a4 a5 a6) (hatchwaylaw32_HelloAgrees.f (k + 1) a0 a1 a2 a3 a4 a5 a6) := by
 intro a0 a1 a2 a3 a4 a5 a6 k
 obtain ⟨ih0, ih1, ih2, ih3, ih4⟩ := hatchwaylaw32_HelloAgrees.mono_l k
 unfold hatchwaylaw32_HelloAgrees.f
 repeat' first
   | (with_reducible exact ih0 _ _ _ _ _ _ _ _)
   | (with_reducible exact ih1 _ _ _ _ _ _ _ _ _ _ _)
   | (with_reducible exact ih2 _ _ _ _ _ _ _ _ _ _ _)
   | (with_reducible exact ih3 _ _ _ _ _ _)
   | (with_reducible exact ih4 _ _ _ _ _ _)
   | (with_reducible exact hatchwaylaw32_Of.mono _ _ _ _)
   | (with_reducible exact hatchwaylaw32_alive.mono _)
   | (with_reducible exact hatchwaylaw32_great.mono _ _ _ _)
   | (with_reducible exact hatchwaylaw32_plain.mono _ _)
   | (with_reducible exact hatchwayref32_Agree.mono _ _ _ _ _ _ _)
   | (with_reducible exact hatchwayref32_May.mono _ _ _ _)
   | (with_reducible exact hatchwayref32_Same.mono _ _ _)
   | (with_reducible exact hello_Agree.mono _ _ _ _ _ _ _)
   | (with_reducible exact hello_Offset.mono _ _ _ _)
   | (with_reducible exact LeO.refl _)
   | (with_reducible exact LeO.none _)
   | (with_reducible refine LeO.ite ?_ ?_)
   | (with_reducible refine LeO.bind ?_ (fun _ => ?_))
   | exact ih0 _ _ _ _ _ _ _ _
   | exact ih1 _ _ _ _ _ _ _ _ _ _ _
   | exact ih2 _ _ _ _ _ _ _ _ _ _ _
   | exact ih3 _ _ _ _ _ _
   | exact ih4 _ _ _ _ _ _
   | exact hatchwaylaw32_Of.mono _ _ _ _
   | exact hatchwaylaw32_alive.mono _
   | exact hatchwaylaw32_great.mono _ _ _ _
   | exact hatchwaylaw32_plain.mono _ _
   | exact hatchwayref32_Agree.mono _ _ _ _ _ _ _
   | exact hatchwayref32_May.mono _ _ _ _
   | exact hatchwayref32_Same.mono _ _ _
   | exact hello_Agree.mono _ _ _ _ _ _ _
   | exact hello_Offset.mono _ _ _ _
   | exact LeO.none _
   | refine LeO.ite ?_ ?_
   | refine LeO.bind ?_ (fun _ => ?_)
def hatchwaylaw32_HelloAgrees.T5 : Bool × List (List Nat × List Nat) := (true, [([], []), ([0], [0]), ([], []), ([2, 1], [2]), ([1, 3, 3], [1, 3]), ([4], [4]), ([5], [5]), ([5], [5]), ([], []), ([8, 6, 4, 0, 1, 2, 3, 4, 5, 6, 8], [6, 8]), ([7, 9, 0, 1, 2, 3, 4, 5, 6, 7, 8, 9], [7])])
def hatchwaylaw32_HelloAgrees.B5 : List Nat := [0, 1, 0, 7, 15, 31, 63, 63, 0, 383, 1023]
theorem hatchwaylaw32_HelloAgrees.tab5 : rtab .any (opsOf Try.f6 5) = hatchwaylaw32_HelloAgrees.T5 := by kernel_rfl
theorem hatchwaylaw32_HelloAgrees.bits5 : waitsOk hatchwaylaw32_HelloAgrees.T5.2 hatchwaylaw32_HelloAgrees.B5 = true := by kernel_rfl
def hatchwaylaw32_HelloAgrees.T6 : Bool × List (List Nat × List Nat) := (true, [([], []), ([0], [0]), ([], []), ([2, 1], [2]), ([1, 3, 3], [1, 3]), ([4], [4]), ([5], [5]), ([5], [5]), ([], []), ([8, 6, 4, 0, 1, 2, 3, 4, 5, 6, 8], [6, 8]), ([7, 9, 0, 1, 2, 3, 4, 5, 6, 7, 8, 9], [7])])
def hatchwaylaw32_HelloAgrees.B6 : List Nat := [0, 1, 0, 7, 15, 31, 63, 63, 0, 383, 1023]
theorem hatchwaylaw32_HelloAgrees.tab6 : rtab .any (opsOf Try.f6 6) = hatchwaylaw32_HelloAgrees.T6 := by kernel_rfl
theorem hatchwaylaw32_HelloAgrees.bits6 : waitsOk hatchwaylaw32_HelloAgrees.T6.2 hatchwaylaw32_HelloAgrees.B6 = true := by kernel_rfl
def hatchwaylaw32_HelloAgrees.T7 : Bool × List (List Nat × List Nat) := (true, [([], []), ([], []), ([0, 1], [0, 1]), ([2], [2]), ([3], [3]), ([4, 3], [3, 4]), ([3], [3]), ([6, 3], [3, 6]), ([5, 7, 3], [3, 5, 7]), ([3, 8], [3, 8]), ([9, 3], [9]), ([10], [10]), ([11, 10], [10, 11]), ([12, 10, 10], [10, 12]), ([10], [10]), ([14, 10], [10, 14]), ([15, 13, 10], [10, 15]), ([13, 16, 16, 10], [10, 13, 16]), ([17, 10], [10, 17]), ([10, 18], [10, 18])])
def hatchwaylaw32_HelloAgrees.B7 : List Nat := [0, 0, 3, 7, 15, 31, 15, 79, 255, 511, 1023, 2047, 4095, 8191, 2047, 18431, 65535, 131071, 262143, 524287]
theorem hatchwaylaw32_HelloAgrees.tab7 : rtab .any (opsOf Try.f6 7) = hatchwaylaw32_HelloAgrees.T7 := by kernel_rfl
theorem hatchwaylaw32_HelloAgrees.bits7 : waitsOk hatchwaylaw32_HelloAgrees.T7.2 hatchwaylaw32_HelloAgrees.B7 = true := by kernel_rfl
def hatchwaylaw32_HelloAgrees.T14 : Bool × List (List Nat × List Nat) := (true, [([], []), ([0], [0]), ([1], [1]), ([2], [2]), ([3, 2], [2, 3]), ([2], [2]), ([5, 2], [2, 5]), ([4, 6, 2], [2, 4, 6]), ([2, 7], [2, 7]), ([8, 2], [8]), ([9], [9]), ([10, 9], [9, 10]), ([11, 9, 9], [9, 11]), ([9], [9]), ([13, 9], [9, 13]), ([12, 14, 12, 9], [9, 12, 14]), ([15, 9], [9, 15]), ([9, 16], [9, 16])])
def hatchwaylaw32_HelloAgrees.B14 : List Nat := [0, 1, 3, 7, 15, 7, 39, 127, 255, 511, 1023, 2047, 4095, 1023, 9215, 32767, 65535, 131071]
theorem hatchwaylaw32_HelloAgrees.tab14 : rtab .any (opsOf Try.f6 14) = hatchwaylaw32_HelloAgrees.T14 := by kernel_rfl
theorem hatchwaylaw32_HelloAgrees.bits14 : waitsOk hatchwaylaw32_HelloAgrees.T14.2 hatchwaylaw32_HelloAgrees.B14 = true := by kernel_rfl
set_option maxHeartbeats 8000000 in
set_option maxRecDepth 100000 in
theorem hatchwaylaw32_HelloAgrees.calls (k : Nat) (a0_0 : Int) (a0_1 : Int) (A0_2 : Option Addr) (c0_2 : Nat) (l0_2 : List (S58)) (a1_0 : Int) (a1_1 : Int) (A1_2 : Option Addr) (c1_2 : Nat) (l1_2 : List (S58)) (a2 : ByteArray) (r : Bool) (w : World) (hr0_2 : Kd.C k58 w A0_2 l0_2.length l0_2) (hc0_2 : l0_2.length ≤ c0_2) (hr1_2 : Kd.C k58 w A1_2 l1_2.length l1_2) (hc1_2 : l1_2.length ≤ c1_2) (h : hatchwaylaw32_HelloAgrees.f k a0_0 a0_1 l0_2 a1_0 a1_1 l1_2 a2 = some r) (ht_ : r = true) :
  Calls Try.prog 6 #[.agg #[.int .i64 a0_0, .int .i64 a0_1, .slice A0_2 l0_2.length c0_2], .agg #[.int .i64 a1_0, .int .i64 a1_1, .slice A1_2 l1_2.length c1_2], .string a2] w fun e w' => e = .returned (.bool r) ∧ Below w.heap.size w w' := by
 have hu39 := Try.underlying39
 have hu43 := Try.underlying43
 have hu52 := Try.underlying52
 have HR0_2 := A0 hr0_2
 have HC0_2 := A0 hc0_2
 clear hr0_2 hc0_2
 have HR1_2 := A0 hr1_2
 have HC1_2 := A0 hc1_2
 clear hr1_2 hc1_2
 have HB := A0 (Below.refl w.heap.size w)
 have H : ((hatchwaylaw32_alive.f k).bind fun t103 => (if t103 = true then ((hatchwaylaw32_great.f k a0_0 a0_1 l0_2).bind fun t104 => (if t104 = true then (hatchwaylaw32_HelloAgrees.j0 k a2 true a0_0 a0_1 l0_2 a1_0 a1_1 l1_2) else ((hatchwaylaw32_great.f k a1_0 a1_1 l1_2).bind fun t105 => (if t105 = true then (hatchwaylaw32_HelloAgrees.j0 k a2 true a0_0 a0_1 l0_2 a1_0 a1_1 l1_2) else (hatchwaylaw32_HelloAgrees.j0 k a2 (decide ((a2.size : Int) > 100)) a0_0 a0_1 l0_2 a1_0 a1_1 l1_2))))) else (some false))) = some r := h
 clear h
 replace H := Option.bind_eq_some_iff.mp H
 obtain ⟨t103, A40, H⟩ := H
 replace H : (if t103 = true then ((hatchwaylaw32_great.f k a0_0 a0_1 l0_2).bind fun t104 => (if t104 = true then (hatchwaylaw32_HelloAgrees.j0 k a2 true a0_0 a0_1 l0_2 a1_0 a1_1 l1_2) else ((hatchwaylaw32_great.f k a1_0 a1_1 l1_2).bind fun t105 => (if t105 = true then (hatchwaylaw32_HelloAgrees.j0 k a2 true a0_0 a0_1 l0_2 a1_0 a1_1 l1_2) else (hatchwaylaw32_HelloAgrees.j0 k a2 (decide ((a2.size : Int) > 100)) a0_0 a0_1 l0_2 a1_0 a1_1 l1_2))))) else (some false)) = some r := H
 have A4 := A0 A40
 clear A40
 by_cases c5 : t103 = true
 ·subst c5
  have H1 : ((hatchwaylaw32_great.f k a0_0 a0_1 l0_2).bind fun t104 => (if t104 = true then (hatchwaylaw32_HelloAgrees.j0 k a2 true a0_0 a0_1 l0_2 a1_0 a1_1 l1_2) else ((hatchwaylaw32_great.f k a1_0 a1_1 l1_2).bind fun t105 => (if t105 = true then (hatchwaylaw32_HelloAgrees.j0 k a2 true a0_0 a0_1 l0_2 a1_0 a1_1 l1_2) else (hatchwaylaw32_HelloAgrees.j0 k a2 (decide ((a2.size : Int) > 100)) a0_0 a0_1 l0_2 a1_0 a1_1 l1_2))))) = some r := by rw [if_pos rfl] at H; exact H
  clear H
  have H := H1
  clear H1
  have HC6 := A0 H
  clear H
  go_enter Try.func6, Try.ntmps6
  go_upto_region 3 with (first | ((with_reducible refine gate_dst (N := 3) rfl ?_); (try (refine gate_guard (by rfl) ?_; dsimp only)); refine box_event ?hg (N := 3) ?hd (cs := #[.int .i64 a0_0, .int .i64 a0_1, .slice A0_2 l0_2.length c0_2]) (t := 39) ?hr ?_; (case hd => rfl); (case hg => rfl); (case hr => first | (go_simp; done) | (go_simp; rfl)); intro gb101 hg w7 hbox hb; have n0_ := A0 (below_step (by repeat (first | (with_reducible first | exact HB.out | apply below_alloc | apply pw_below_drewN | apply below_drew1) | exact HB.out)) hb); have n1_ := A0 (hbox); have n2_ := A0 ((by rw [hg]; exact (below_size (by repeat (first | (with_reducible first | exact HB.out | apply below_alloc | apply pw_below_drewN | apply below_drew1) | exact HB.out))) : w.heap.size ≤ gb101)); have n3_ := A0 ((by rw [hg]; exact (below_size (by repeat (first | (with_reducible first | exact HB.out | apply below_alloc | apply pw_below_drewN | apply below_drew1) | exact HB.out))) : w.heap.size ≤ gb101)); clear HB; have HB := n0_; have BK101 := n1_; have GW101 := n2_; have GE101 := n3_; clear n0_ n1_ n2_ n3_; clear hb hbox hg) | ((with_reducible refine gate_dst (N := 4) rfl ?_); (try (refine gate_guard (by rfl) ?_; dsimp only)); refine box_event ?hg (N := 4) ?hd (cs := #[.int .i64 a1_0, .int .i64 a1_1, .slice A1_2 l1_2.length c1_2]) (t := 39) ?hr ?_; (case hd => rfl); (case hg => rfl); (case hr => first | (go_simp; done) | (go_simp; rfl)); intro gb102 hg w8 hbox hb; have n0_ := A0 (blk_below (bS BK101.out) hb); have n1_ := A0 (below_step (lS HB.out) hb); have n2_ := A0 (hbox); have n3_ := A0 ((by rw [hg]; exact (below_size (lS HB.out)) : w.heap.size ≤ gb102)); have n4_ := A0 ((by rw [hg]; exact (below_size (lS HB.out)) : w.heap.size ≤ gb102)); have n5_ := A0 ((by rw [hg]; exact Nat.ne_of_lt (blk_lt (g := gb101) (o := .cells #[.int .i64 a0_0, .int .i64 a0_1, .slice A0_2 l0_2.length c0_2] 39 (0, 0)) (bS BK101.out)) : gb101 ≠ gb102)); have n6_ := A0 ((by rw [hg]; exact Nat.ne_of_gt (blk_lt (g := gb101) (o := .cells #[.int .i64 a0_0, .int .i64 a0_1, .slice A0_2 l0_2.length c0_2] 39 (0, 0)) (bS BK101.out)) : gb102 ≠ gb101)); clear BK101; clear HB; have BK101 := n0_; have HB := n1_; have BK102 := n2_; have GW102 := n3_; have GE102 := n4_; have NB101_102 := n5_; have NB102_101 := n6_; clear n0_ n1_ n2_ n3_ n4_ n5_ n6_; clear hb hbox hg) | ((with_reducible refine gate_callee (f := 25) rfl ?_); refine goesL_ (some 16) rfl rfl Try.func25 (by kernel_rfl) rfl #[] rfl (by (try simp only [List.map_toArray, List.map_cons, List.map_nil]); first | done | rfl | (simp only [List.length_drop, List.length_take]; rfl)) ?_; (with_reducible refine (hatchwaylaw32_alive.calls k  true _ A4.out).mono ?_); rintro e w9 ⟨rfl, hb⟩; refine ⟨_, rfl, ?_⟩; replace BK101 := A0 (blk_below (bS BK101.out) hb); replace BK102 := A0 (blk_below (bS BK102.out) hb); replace HB := A0 (below_step (lS HB.out) hb); (try clear hb); (try clear hb2); (try clear hk); (try clear hi)))
  (try simp only [Act.put, u1, u2, u3])
  go_cut [28] (fun v28 wc => ∃ (kq : Nat) (x28_5 : Bool), v28 = .bool x28_5 ∧ Aside0 (hatchwaylaw32_HelloAgrees.j0 kq a2 x28_5 a0_0 a0_1 l0_2 a1_0 a1_1 l1_2 = some r) ∧ Aside0 (kq ≤ k) ∧ Aside0 (wc.heap[gb101]? = some (.cells #[.int .i64 a0_0, .int .i64 a0_1, (.slice A0_2 l0_2.length c0_2)] 39 (0, 0))) ∧ Aside0 (wc.heap[gb102]? = some (.cells #[.int .i64 a1_0, .int .i64 a1_1, (.slice A1_2 l1_2.length c1_2)] 39 (0, 0))) ∧ Aside0 (Below w.heap.size w wc))
  case first =>
   have H := HC6.out
   clear HC6
   replace H := Option.bind_eq_some_iff.mp H
   obtain ⟨t104, A100, H⟩ := H
   replace H : (if t104 = true then (hatchwaylaw32_HelloAgrees.j0 k a2 true a0_0 a0_1 l0_2 a1_0 a1_1 l1_2) else ((hatchwaylaw32_great.f k a1_0 a1_1 l1_2).bind fun t105 => (if t105 = true then (hatchwaylaw32_HelloAgrees.j0 k a2 true a0_0 a0_1 l0_2 a1_0 a1_1 l1_2) else (hatchwaylaw32_HelloAgrees.j0 k a2 (decide ((a2.size : Int) > 100)) a0_0 a0_1 l0_2 a1_0 a1_1 l1_2)))) = some r := H
   have A10 := A0 A100
   clear A100
   by_cases c11 : t104 = true
   ·subst c11
    have H1 : (hatchwaylaw32_HelloAgrees.j0 k a2 true a0_0 a0_1 l0_2 a1_0 a1_1 l1_2) = some r := by rw [if_pos rfl] at H; exact H
    clear H
    have H := H1
    clear H1
    have H' := A0 H
    clear H
    have hnb12 := NB101_102.out
    have hnc12 := NB102_101.out
    have hcz13_0 : w9.cell? ⟨gb101, 0, none⟩ = some (.int .i64 a0_0) := bc BK101.out 0
    have hcz13_1 : w9.cell? ⟨gb101, 1, none⟩ = some (.int .i64 a0_1) := bc BK101.out 1
    have hcz13_2 : w9.cell? ⟨gb101, 2, none⟩ = some (.slice A0_2 l0_2.length c0_2) := bc BK101.out 2
    have hfz13_0 := blk_frozen BK101.out 0
    have hfz13_1 := blk_frozen BK101.out 1
    have hfz13_2 := blk_frozen BK101.out 2
    go_wp2_with (first | ((with_reducible refine gate_callee (f := 26) rfl ?_); refine goesL_ (some 19) rfl rfl Try.func26 (by kernel_rfl) rfl #[.agg #[.int .i64 a0_0, .int .i64 a0_1, .slice A0_2 l0_2.length c0_2]] rfl (by (try simp only [List.map_toArray, List.map_cons, List.map_nil]); first | done | rfl | (simp only [List.length_drop, List.length_take]; rfl)) ?_; (with_reducible refine (hatchwaylaw32_great.calls k a0_0 a0_1 _ _ l0_2 true _ ?side1 ?side2 A10.out).mono ?_); (case side1 => repeat (first | exact (Kd.C_below HR0_2.out HB.out) | (with_reducible refine Kd.C_alloc ?_ _) | (with_reducible refine Kd.C_drewN ?_ _) | (with_reducible refine Kd.C_drew ?_))); (case side2 => exact HC0_2.out); rintro e w14 ⟨rfl, hb⟩; refine ⟨_, rfl, ?_⟩; replace BK101 := A0 (blk_below (bS BK101.out) hb); replace BK102 := A0 (blk_below (bS BK102.out) hb); replace HB := A0 (below_step (lS HB.out) hb); (try clear hb); (try clear hb2); (try clear hk); (try clear hi)))
    go_meet
    case rel => exact ⟨_, (true), (by first | rfl | (simp; done) | (simp [*]; done)), H', ⟨by first | omega | exact Nat.le_refl _⟩, ⟨by (with_reducible repeat (first | refine blk_drewN ?_ _ | refine blk_drew ?_ | refine blk_alloc ?_ _)); exact BK101.out⟩, ⟨by (with_reducible repeat (first | refine blk_drewN ?_ _ | refine blk_drew ?_ | refine blk_alloc ?_ _)); exact BK102.out⟩, ⟨by repeat (first | (with_reducible first | exact HB.out | apply below_alloc | apply pw_below_drewN | apply below_drew1 | refine below_set ?_ GE101.out | refine below_set ?_ GE102.out) | exact HB.out)⟩⟩
   replace c11 := Bool.eq_false_iff.mpr c11
   subst c11
   have H1 : ((hatchwaylaw32_great.f k a1_0 a1_1 l1_2).bind fun t105 => (if t105 = true then (hatchwaylaw32_HelloAgrees.j0 k a2 true a0_0 a0_1 l0_2 a1_0 a1_1 l1_2) else (hatchwaylaw32_HelloAgrees.j0 k a2 (decide ((a2.size : Int) > 100)) a0_0 a0_1 l0_2 a1_0 a1_1 l1_2))) = some r := by rw [if_neg (show ¬ (false = true) by decide)] at H; exact H
   clear H
   have H := H1
   clear H1
   replace H := Option.bind_eq_some_iff.mp H
   obtain ⟨t105, A150, H⟩ := H
   replace H : (if t105 = true then (hatchwaylaw32_HelloAgrees.j0 k a2 true a0_0 a0_1 l0_2 a1_0 a1_1 l1_2) else (hatchwaylaw32_HelloAgrees.j0 k a2 (decide ((a2.size : Int) > 100)) a0_0 a0_1 l0_2 a1_0 a1_1 l1_2)) = some r := H
   have A15 := A0 A150
   clear A150
   by_cases c16 : t105 = true
   ·subst c16
    have H1 : (hatchwaylaw32_HelloAgrees.j0 k a2 true a0_0 a0_1 l0_2 a1_0 a1_1 l1_2) = some r := by rw [if_pos rfl] at H; exact H
    clear H
    have H := H1
    clear H1
    have H' := A0 H
    clear H
    have hnb17 := NB101_102.out
    have hnc17 := NB102_101.out
    have hcz18_0 : w9.cell? ⟨gb101, 0, none⟩ = some (.int .i64 a0_0) := bc BK101.out 0
    have hcz18_1 : w9.cell? ⟨gb101, 1, none⟩ = some (.int .i64 a0_1) := bc BK101.out 1
    have hcz18_2 : w9.cell? ⟨gb101, 2, none⟩ = some (.slice A0_2 l0_2.length c0_2) := bc BK101.out 2
    have hfz18_0 := blk_frozen BK101.out 0
    have hfz18_1 := blk_frozen BK101.out 1
    have hfz18_2 := blk_frozen BK101.out 2
    go_wp2_with (first | ((with_reducible refine gate_callee (f := 26) rfl ?_); refine goesL_ (some 19) rfl rfl Try.func26 (by kernel_rfl) rfl #[.agg #[.int .i64 a0_0, .int .i64 a0_1, .slice A0_2 l0_2.length c0_2]] rfl (by (try simp only [List.map_toArray, List.map_cons, List.map_nil]); first | done | rfl | (simp only [List.length_drop, List.length_take]; rfl)) ?_; (with_reducible refine (hatchwaylaw32_great.calls k a0_0 a0_1 _ _ l0_2 false _ ?side1 ?side2 A10.out).mono ?_); (case side1 => repeat (first | exact (Kd.C_below HR0_2.out HB.out) | (with_reducible refine Kd.C_alloc ?_ _) | (with_reducible refine Kd.C_drewN ?_ _) | (with_reducible refine Kd.C_drew ?_))); (case side2 => exact HC0_2.out); rintro e w19 ⟨rfl, hb⟩; refine ⟨_, rfl, ?_⟩; replace BK101 := A0 (blk_below (bS BK101.out) hb); replace BK102 := A0 (blk_below (bS BK102.out) hb); replace HB := A0 (below_step (lS HB.out) hb); (try clear hb); (try clear hb2); (try clear hk); (try clear hi); have hcz20_0 : w19.cell? ⟨gb102, 0, none⟩ = some (.int .i64 a1_0) := bc BK102.out 0; have hcz20_1 : w19.cell? ⟨gb102, 1, none⟩ = some (.int .i64 a1_1) := bc BK102.out 1; have hcz20_2 : w19.cell? ⟨gb102, 2, none⟩ = some (.slice A1_2 l1_2.length c1_2) := bc BK102.out 2; have hfz20_0 := blk_frozen BK102.out 0; have hfz20_1 := blk_frozen BK102.out 1; have hfz20_2 := blk_frozen BK102.out 2) | (go_at_call 26; (with_reducible refine (hatchwaylaw32_great.calls k a1_0 a1_1 _ _ l1_2 true _ ?side1 ?side2 A15.out).mono ?_); (case side1 => repeat (first | exact (Kd.C_below HR1_2.out HB.out) | (with_reducible refine Kd.C_alloc ?_ _) | (with_reducible refine Kd.C_drewN ?_ _) | (with_reducible refine Kd.C_drew ?_))); (case side2 => exact HC1_2.out); rintro e w21 ⟨rfl, hb⟩; replace BK101 := A0 (blk_below (bS BK101.out) hb); replace BK102 := A0 (blk_below (bS BK102.out) hb); replace HB := A0 (below_step (lS HB.out) hb); (try clear hb); (try clear hb2); (try clear hk); (try clear hi)))
    go_meet
    case rel => exact ⟨_, (true), (by first | rfl | (simp; done) | (simp [*]; done)), H', ⟨by first | omega | exact Nat.le_refl _⟩, ⟨by (with_reducible repeat (first | refine blk_drewN ?_ _ | refine blk_drew ?_ | refine blk_alloc ?_ _)); exact BK101.out⟩, ⟨by (with_reducible repeat (first | refine blk_drewN ?_ _ | refine blk_drew ?_ | refine blk_alloc ?_ _)); exact BK102.out⟩, ⟨by repeat (first | (with_reducible first | exact HB.out | apply below_alloc | apply pw_below_drewN | apply below_drew1 | refine below_set ?_ GE101.out | refine below_set ?_ GE102.out) | exact HB.out)⟩⟩
   replace c16 := Bool.eq_false_iff.mpr c16
   subst c16
   have H1 : (hatchwaylaw32_HelloAgrees.j0 k a2 (decide ((a2.size : Int) > 100)) a0_0 a0_1 l0_2 a1_0 a1_1 l1_2) = some r := by rw [if_neg (show ¬ (false = true) by decide)] at H; exact H
   clear H
   have H := H1
   clear H1
   have H' := A0 H
   clear H
   have hnb22 := NB101_102.out
   have hnc22 := NB102_101.out
   have hcz23_0 : w9.cell? ⟨gb101, 0, none⟩ = some (.int .i64 a0_0) := bc BK101.out 0
   have hcz23_1 : w9.cell? ⟨gb101, 1, none⟩ = some (.int .i64 a0_1) := bc BK101.out 1
   have hcz23_2 : w9.cell? ⟨gb101, 2, none⟩ = some (.slice A0_2 l0_2.length c0_2) := bc BK101.out 2
   have hfz23_0 := blk_frozen BK101.out 0
   have hfz23_1 := blk_frozen BK101.out 1
   have hfz23_2 := blk_frozen BK101.out 2
   go_wp2_with (first | ((with_reducible refine gate_callee (f := 26) rfl ?_); refine goesL_ (some 19) rfl rfl Try.func26 (by kernel_rfl) rfl #[.agg #[.int .i64 a0_0, .int .i64 a0_1, .slice A0_2 l0_2.length c0_2]] rfl (by (try simp only [List.map_toArray, List.map_cons, List.map_nil]); first | done | rfl | (simp only [List.length_drop, List.length_take]; rfl)) ?_; (with_reducible refine (hatchwaylaw32_great.calls k a0_0 a0_1 _ _ l0_2 false _ ?side1 ?side2 A10.out).mono ?_); (case side1 => repeat (first | exact (Kd.C_below HR0_2.out HB.out) | (with_reducible refine Kd.C_alloc ?_ _) | (with_reducible refine Kd.C_drewN ?_ _) | (with_reducible refine Kd.C_drew ?_))); (case side2 => exact HC0_2.out); rintro e w24 ⟨rfl, hb⟩; refine ⟨_, rfl, ?_⟩; replace BK101 := A0 (blk_below (bS BK101.out) hb); replace BK102 := A0 (blk_below (bS BK102.out) hb); replace HB := A0 (below_step (lS HB.out) hb); (try clear hb); (try clear hb2); (try clear hk); (try clear hi); have hcz25_0 : w24.cell? ⟨gb102, 0, none⟩ = some (.int .i64 a1_0) := bc BK102.out 0; have hcz25_1 : w24.cell? ⟨gb102, 1, none⟩ = some (.int .i64 a1_1) := bc BK102.out 1; have hcz25_2 : w24.cell? ⟨gb102, 2, none⟩ = some (.slice A1_2 l1_2.length c1_2) := bc BK102.out 2; have hfz25_0 := blk_frozen BK102.out 0; have hfz25_1 := blk_frozen BK102.out 1; have hfz25_2 := blk_frozen BK102.out 2) | (go_at_call 26; (with_reducible refine (hatchwaylaw32_great.calls k a1_0 a1_1 _ _ l1_2 false _ ?side1 ?side2 A15.out).mono ?_); (case side1 => repeat (first | exact (Kd.C_below HR1_2.out HB.out) | (with_reducible refine Kd.C_alloc ?_ _) | (with_reducible refine Kd.C_drewN ?_ _) | (with_reducible refine Kd.C_drew ?_))); (case side2 => exact HC1_2.out); rintro e w26 ⟨rfl, hb⟩; replace BK101 := A0 (blk_below (bS BK101.out) hb); replace BK102 := A0 (blk_below (bS BK102.out) hb); replace HB := A0 (below_step (lS HB.out) hb); (try clear hb); (try clear hb2); (try clear hk); (try clear hi)))
   go_meet
   case rel => exact ⟨_, (decide ((a2.size : Int) > 100)), (by first | rfl | (simp; done) | (simp [*]; done)), H', ⟨by first | omega | exact Nat.le_refl _⟩, ⟨by (with_reducible repeat (first | refine blk_drewN ?_ _ | refine blk_drew ?_ | refine blk_alloc ?_ _)); exact BK101.out⟩, ⟨by (with_reducible repeat (first | refine blk_drewN ?_ _ | refine blk_drew ?_ | refine blk_alloc ?_ _)); exact BK102.out⟩, ⟨by repeat (first | (with_reducible first | exact HB.out | apply below_alloc | apply pw_below_drewN | apply below_drew1 | refine below_set ?_ GE101.out | refine below_set ?_ GE102.out) | exact HB.out)⟩⟩
  case rest =>
   clear HC6
   try clear c1
   try clear c2
   try clear p2
   try clear c5
   try clear c6
   try clear c11
   try clear c12
   try clear c16
   try clear c17
   try clear c22
   try clear c25
   try clear c26
   try clear hcz13_0
   try clear hcz13_1
   try clear hcz13_2
   try clear hcz18_0
   try clear hcz18_1
   try clear hcz18_2
   try clear hcz20_0
   try clear hcz20_1
   try clear hcz20_2
   try clear hcz23_0
   try clear hcz23_1
   try clear hcz23_2
   try clear hcz25_0
   try clear hcz25_1
   try clear hcz25_2
   try clear hfz13_0
   try clear hfz13_1
   try clear hfz13_2
   try clear hfz18_0
   try clear hfz18_1
   try clear hfz18_2
   try clear hfz20_0
   try clear hfz20_1
   try clear hfz20_2
   try clear hfz23_0
   try clear hfz23_1
   try clear hfz23_2
   try clear hfz25_0
   try clear hfz25_1
   try clear hfz25_2
   obtain ⟨kq, x28_5, rfl, HA, HJ5, BK101, BK102, HB⟩ := hcut
   cases kq with
   | zero => exact absurd HA.out (by simp [hatchwaylaw32_HelloAgrees.j0])
   | succ kj5 =>
    have H := HA.out
    clear HA
    simp only [hatchwaylaw32_HelloAgrees.j0] at H
    by_cases c27 : x28_5 = true
    ·subst c27
     have H1 : (some true) = some r := by rw [if_pos rfl] at H; exact H
     clear H
     have H := H1
     clear H1
     obtain rfl := Option.some.inj H
     go_wp2
     go_ret
     exact ⟨by first | rfl | (simp [errW_none, errW_some] <;> rfl) | (simp [*, errW_none, errW_some] <;> rfl), by repeat (first | (with_reducible first | exact HB.out | apply below_alloc | apply pw_below_drewN | apply below_drew1 | refine below_set ?_ GE101.out | refine below_set ?_ GE102.out) | exact HB.out)⟩
    replace c27 := Bool.eq_false_iff.mpr c27
    subst c27
    have H1 : ((hatchwaylaw32_Of.f kj5 a0_0 a0_1 l0_2).bind fun bt106 => ((hatchwaylaw32_Of.f kj5 a1_0 a1_1 l1_2).bind fun bt111 => ((hello_Agree.f kj5 bt106.1 bt106.2.1 bt106.2.2 bt111.1 bt111.2.1 bt111.2.2).bind fun bt116 => ((hatchwaylaw32_Of.f kj5 a1_0 a1_1 l1_2).bind fun bt122 => ((hatchwaylaw32_Of.f kj5 a0_0 a0_1 l0_2).bind fun bt127 => ((hello_Agree.f kj5 bt122.1 bt122.2.1 bt122.2.2 bt127.1 bt127.2.1 bt127.2.2).bind fun bt132 => (if bt116.2.2 = bt132.2.2 then (if bt116.1 = bt132.1 then ((hatchwaylaw32_plain.f kj5 bt116.2.1).bind fun t138 => ((hatchwaylaw32_plain.f kj5 bt132.2.1).bind fun t141 => ((hatchwayref32_Same.f kj5 t138 t141).bind fun t144 => (hatchwaylaw32_HelloAgrees.j1 kj5 a2 bt116.2.2 (!t144) a0_0 a0_1 l0_2 a1_0 a1_1 l1_2 bt116.1 bt116.2.1)))) else (hatchwaylaw32_HelloAgrees.j1 kj5 a2 bt116.2.2 true a0_0 a0_1 l0_2 a1_0 a1_1 l1_2 bt116.1 bt116.2.1)) else (hatchwaylaw32_HelloAgrees.j1 kj5 a2 bt116.2.2 true a0_0 a0_1 l0_2 a1_0 a1_1 l1_2 bt116.1 bt116.2.1)))))))) = some r := by rw [if_neg (show ¬ (false = true) by decide)] at H; exact H
    clear H
    have H := H1
    clear H1
    replace H := Option.bind_eq_some_iff.mp H
    obtain ⟨⟨t106, t107, t108⟩, A280, H⟩ := H
    replace H : ((hatchwaylaw32_Of.f kj5 a1_0 a1_1 l1_2).bind fun bt111 => ((hello_Agree.f kj5 t106 t107 t108 bt111.1 bt111.2.1 bt111.2.2).bind fun bt116 => ((hatchwaylaw32_Of.f kj5 a1_0 a1_1 l1_2).bind fun bt122 => ((hatchwaylaw32_Of.f kj5 a0_0 a0_1 l0_2).bind fun bt127 => ((hello_Agree.f kj5 bt122.1 bt122.2.1 bt122.2.2 bt127.1 bt127.2.1 bt127.2.2).bind fun bt132 => (if bt116.2.2 = bt132.2.2 then (if bt116.1 = bt132.1 then ((hatchwaylaw32_plain.f kj5 bt116.2.1).bind fun t138 => ((hatchwaylaw32_plain.f kj5 bt132.2.1).bind fun t141 => ((hatchwayref32_Same.f kj5 t138 t141).bind fun t144 => (hatchwaylaw32_HelloAgrees.j1 kj5 a2 bt116.2.2 (!t144) a0_0 a0_1 l0_2 a1_0 a1_1 l1_2 bt116.1 bt116.2.1)))) else (hatchwaylaw32_HelloAgrees.j1 kj5 a2 bt116.2.2 true a0_0 a0_1 l0_2 a1_0 a1_1 l1_2 bt116.1 bt116.2.1)) else (hatchwaylaw32_HelloAgrees.j1 kj5 a2 bt116.2.2 true a0_0 a0_1 l0_2 a1_0 a1_1 l1_2 bt116.1 bt116.2.1))))))) = some r := H
    have A28 := A0 A280
    clear A280
    replace H := Option.bind_eq_some_iff.mp H
    obtain ⟨⟨t111, t112, t113⟩, A290, H⟩ := H
    replace H : ((hello_Agree.f kj5 t106 t107 t108 t111 t112 t113).bind fun bt116 => ((hatchwaylaw32_Of.f kj5 a1_0 a1_1 l1_2).bind fun bt122 => ((hatchwaylaw32_Of.f kj5 a0_0 a0_1 l0_2).bind fun bt127 => ((hello_Agree.f kj5 bt122.1 bt122.2.1 bt122.2.2 bt127.1 bt127.2.1 bt127.2.2).bind fun bt132 => (if bt116.2.2 = bt132.2.2 then (if bt116.1 = bt132.1 then ((hatchwaylaw32_plain.f kj5 bt116.2.1).bind fun t138 => ((hatchwaylaw32_plain.f kj5 bt132.2.1).bind fun t141 => ((hatchwayref32_Same.f kj5 t138 t141).bind fun t144 => (hatchwaylaw32_HelloAgrees.j1 kj5 a2 bt116.2.2 (!t144) a0_0 a0_1 l0_2 a1_0 a1_1 l1_2 bt116.1 bt116.2.1)))) else (hatchwaylaw32_HelloAgrees.j1 kj5 a2 bt116.2.2 true a0_0 a0_1 l0_2 a1_0 a1_1 l1_2 bt116.1 bt116.2.1)) else (hatchwaylaw32_HelloAgrees.j1 kj5 a2 bt116.2.2 true a0_0 a0_1 l0_2 a1_0 a1_1 l1_2 bt116.1 bt116.2.1)))))) = some r := H
    have A29 := A0 A290
    clear A290
    replace H := Option.bind_eq_some_iff.mp H
    obtain ⟨⟨t116, t117, t120⟩, A300, H⟩ := H
    replace H : ((hatchwaylaw32_Of.f kj5 a1_0 a1_1 l1_2).bind fun bt122 => ((hatchwaylaw32_Of.f kj5 a0_0 a0_1 l0_2).bind fun bt127 => ((hello_Agree.f kj5 bt122.1 bt122.2.1 bt122.2.2 bt127.1 bt127.2.1 bt127.2.2).bind fun bt132 => (if t120 = bt132.2.2 then (if t116 = bt132.1 then ((hatchwaylaw32_plain.f kj5 t117).bind fun t138 => ((hatchwaylaw32_plain.f kj5 bt132.2.1).bind fun t141 => ((hatchwayref32_Same.f kj5 t138 t141).bind fun t144 => (hatchwaylaw32_HelloAgrees.j1 kj5 a2 t120 (!t144) a0_0 a0_1 l0_2 a1_0 a1_1 l1_2 t116 t117)))) else (hatchwaylaw32_HelloAgrees.j1 kj5 a2 t120 true a0_0 a0_1 l0_2 a1_0 a1_1 l1_2 t116 t117)) else (hatchwaylaw32_HelloAgrees.j1 kj5 a2 t120 true a0_0 a0_1 l0_2 a1_0 a1_1 l1_2 t116 t117))))) = some r := H
    have A30 := A0 A300
    clear A300
    replace H := Option.bind_eq_some_iff.mp H
    obtain ⟨⟨t122, t123, t124⟩, A310, H⟩ := H
    replace H : ((hatchwaylaw32_Of.f kj5 a0_0 a0_1 l0_2).bind fun bt127 => ((hello_Agree.f kj5 t122 t123 t124 bt127.1 bt127.2.1 bt127.2.2).bind fun bt132 => (if t120 = bt132.2.2 then (if t116 = bt132.1 then ((hatchwaylaw32_plain.f kj5 t117).bind fun t138 => ((hatchwaylaw32_plain.f kj5 bt132.2.1).bind fun t141 => ((hatchwayref32_Same.f kj5 t138 t141).bind fun t144 => (hatchwaylaw32_HelloAgrees.j1 kj5 a2 t120 (!t144) a0_0 a0_1 l0_2 a1_0 a1_1 l1_2 t116 t117)))) else (hatchwaylaw32_HelloAgrees.j1 kj5 a2 t120 true a0_0 a0_1 l0_2 a1_0 a1_1 l1_2 t116 t117)) else (hatchwaylaw32_HelloAgrees.j1 kj5 a2 t120 true a0_0 a0_1 l0_2 a1_0 a1_1 l1_2 t116 t117)))) = some r := H
    have A31 := A0 A310
    clear A310
    replace H := Option.bind_eq_some_iff.mp H
    obtain ⟨⟨t127, t128, t129⟩, A320, H⟩ := H
    replace H : ((hello_Agree.f kj5 t122 t123 t124 t127 t128 t129).bind fun bt132 => (if t120 = bt132.2.2 then (if t116 = bt132.1 then ((hatchwaylaw32_plain.f kj5 t117).bind fun t138 => ((hatchwaylaw32_plain.f kj5 bt132.2.1).bind fun t141 => ((hatchwayref32_Same.f kj5 t138 t141).bind fun t144 => (hatchwaylaw32_HelloAgrees.j1 kj5 a2 t120 (!t144) a0_0 a0_1 l0_2 a1_0 a1_1 l1_2 t116 t117)))) else (hatchwaylaw32_HelloAgrees.j1 kj5 a2 t120 true a0_0 a0_1 l0_2 a1_0 a1_1 l1_2 t116 t117)) else (hatchwaylaw32_HelloAgrees.j1 kj5 a2 t120 true a0_0 a0_1 l0_2 a1_0 a1_1 l1_2 t116 t117))) = some r := H
    have A32 := A0 A320
    clear A320
    replace H := Option.bind_eq_some_iff.mp H
    obtain ⟨⟨t132, t133, t136⟩, A330, H⟩ := H
    replace H : (if t120 = t136 then (if t116 = t132 then ((hatchwaylaw32_plain.f kj5 t117).bind fun t138 => ((hatchwaylaw32_plain.f kj5 t133).bind fun t141 => ((hatchwayref32_Same.f kj5 t138 t141).bind fun t144 => (hatchwaylaw32_HelloAgrees.j1 kj5 a2 t120 (!t144) a0_0 a0_1 l0_2 a1_0 a1_1 l1_2 t116 t117)))) else (hatchwaylaw32_HelloAgrees.j1 kj5 a2 t120 true a0_0 a0_1 l0_2 a1_0 a1_1 l1_2 t116 t117)) else (hatchwaylaw32_HelloAgrees.j1 kj5 a2 t120 true a0_0 a0_1 l0_2 a1_0 a1_1 l1_2 t116 t117)) = some r := H
    have A33 := A0 A330
    clear A330
    have HC34 := A0 H
    clear H
    try go_wp2
    replace BK101 := A0 (blk_drew BK101.out)
    replace BK102 := A0 (blk_drew BK102.out)
    replace HB := A0 (below_drew1 HB.out)
    refine start_ (n := 11) (S := fun w' => w'.cell? ⟨gb101, 0, none⟩ = some (.int .i64 a0_0) ∧ w'.cell? ⟨gb101, 1, none⟩ = some (.int .i64 a0_1) ∧ w'.cell? ⟨gb101, 2, none⟩ = some (.slice A0_2 l0_2.length c0_2) ∧ w'.cell? ⟨gb102, 0, none⟩ = some (.int .i64 a1_0) ∧ w'.cell? ⟨gb102, 1, none⟩ = some (.int .i64 a1_1) ∧ w'.cell? ⟨gb102, 2, none⟩ = some (.slice A1_2 l1_2.length c1_2)) (ds := []) (bA 11 0) (by kernel_rfl) rfl rfl ⟨bc BK101.out 0, bc BK101.out 1, bc BK101.out 2, bc BK102.out 0, bc BK102.out 1, bc BK102.out 2⟩ (fun hHeld => ?_); refine with_tabW hatchwaylaw32_HelloAgrees.tab5 hatchwaylaw32_HelloAgrees.bits5 (fun HT_ HW_ => ?_)
    generalize wc.drew = w35 at BK101 BK102 HB hHeld ⊢
    apply tk (i := 0) (N := some 30) (bA 11 1) rfl rfl (take_ofW HT_.out HW_.out (by kernel_rfl)) (fun _ _ _ h => h) rfl hHeld
    ·rintro w' ⟨s0, s1, s2, s3, s4, s5⟩; go_simp; with_reducible rfl
    ·simp only [Act.put, u1, u2, u3, i64_w, i32_w]; rfl
    apply tk (i := 2) (N := some 32) (bA 11 5) rfl rfl (take_ofW HT_.out HW_.out (by kernel_rfl)) (fun _ _ _ h => h) rfl hHeld
    ·rintro w' ⟨s0, s1, s2, s3, s4, s5⟩; go_simp; with_reducible rfl
    ·simp only [Act.put, u1, u2, u3, i64_w, i32_w]; rfl
    refine join_ (σ := Value × Value × Value × Nat) 2 (bA 11 511) (fun s_ => [(31, .agg #[.int .i64 t106, .int .i64 t107, s_.1]), (33, .agg #[.int .i64 t111, .int .i64 t112, s_.2.1]), (34, .tuple #[.agg #[.int .i64 t116, s_.2.2.1], .int .i64 t120]), (7, .pointer (some ⟨s_.2.2.2, 0, none⟩)), (29, .tuple #[.agg #[.int .i64 t116, s_.2.2.1], .int .i64 t120]), (35, .agg #[.int .i64 t116, s_.2.2.1]), (36, .int .i64 t120)]) (fun s_ w' => (w'.cell? ⟨gb101, 0, none⟩ = some (.int .i64 a0_0) ∧ w'.cell? ⟨gb101, 1, none⟩ = some (.int .i64 a0_1) ∧ w'.cell? ⟨gb101, 2, none⟩ = some (.slice A0_2 l0_2.length c0_2) ∧ w'.cell? ⟨gb102, 0, none⟩ = some (.int .i64 a1_0) ∧ w'.cell? ⟨gb102, 1, none⟩ = some (.int .i64 a1_1) ∧ w'.cell? ⟨gb102, 2, none⟩ = some (.slice A1_2 l1_2.length c1_2)) ∧ (Kd.R k104 104 w' w.heap.size (fun k_ => some k_ ≠ (s_.2.1 : Value).ownBlock ∧ some k_ ≠ (s_.2.2.1 : Value).ownBlock) s_.1 t108) ∧ (Kd.R k104 104 w' w.heap.size (fun k_ => some k_ ≠ (s_.1 : Value).ownBlock ∧ some k_ ≠ (s_.2.2.1 : Value).ownBlock) s_.2.1 t113) ∧ (Kd.R k104 104 w' w.heap.size (fun k_ => some k_ ≠ (s_.1 : Value).ownBlock ∧ some k_ ≠ (s_.2.1 : Value).ownBlock) s_.2.2.1 t117) ∧ (w'.heap[gb101]? = some (.cells #[.int .i64 a0_0, .int .i64 a0_1, .slice A0_2 l0_2.length c0_2] 39 (0, 0))) ∧ (w'.heap[gb102]? = some (.cells #[.int .i64 a1_0, .int .i64 a1_1, .slice A1_2 l1_2.length c1_2] 39 (0, 0))) ∧ (w'.heap[s_.2.2.2]? = some (.cells #[.int .i64 0, .slice none 0 0] 43 (0, 0))) ∧ (w.heap.size ≤ s_.2.2.2) ∧ (w.heap.size ≤ s_.2.2.2) ∧ (gb101 ≠ s_.2.2.2) ∧ (s_.2.2.2 ≠ gb101) ∧ (gb102 ≠ s_.2.2.2) ∧ (s_.2.2.2 ≠ gb102) ∧ (Below w.heap.size w w')) ?_ ?_
    rotate_left
    ·intro hCont
     refine two_ (i := 1) (j := 8) (Ni := some 31) (Nj := some 7) (bA 11 7) (bA 11 261) rfl rfl rfl rfl (two_of HT_.out (by kernel_rfl)) (by decide) (by decide) (fun K hK => ?_) (fun K hK => ?_)
     ·skip
      refine goes_ Try.func28 (by kernel_rfl) rfl #[.agg #[.int .i64 a0_0, .int .i64 a0_1, .slice A0_2 l0_2.length c0_2]] (by rfl) rfl rfl (by (try simp only [List.map_toArray, List.map_cons, List.map_nil]); first | done | rfl | (simp only [List.length_drop, List.length_take]; rfl)) ?_
      with_reducible refine (hatchwaylaw32_Of.calls kj5 a0_0 a0_1 _ _ l0_2 t106 t107 t108 _ ?side1 ?side2 A28.out).mono ?_
      (case side1 => repeat (first | exact (Kd.C_below HR0_2.out HB.out) | (with_reducible refine Kd.C_alloc ?_ _) | (with_reducible refine Kd.C_drewN ?_ _) | (with_reducible refine Kd.C_drew ?_)))
      (case side2 => exact HC0_2.out)
      rintro e w36 ⟨v109, rfl, ho0, hb⟩
      refine ⟨_, rfl, ?_⟩
      have HO110 := A0 (Kd.R_lower ho0 (below_size (lS HB.out)))
      replace BK101 := A0 (blk_below (bS BK101.out) hb)
      replace BK102 := A0 (blk_below (bS BK102.out) hb)
      replace HB := A0 (below_step (lS HB.out) hb)
      (try clear hb)
      (try clear hb2)
      (try clear hk)
      (try clear hi)
      (try clear ho0)
      refine hK.out _ _ ⟨bc BK101.out 0, bc BK101.out 1, bc BK101.out 2, bc BK102.out 0, bc BK102.out 1, bc BK102.out 2⟩ (fun hHeld => ?_)
      clear hK K
      refine norm_ (a' := ?_) ?_ ?_
      rotate_left
      ·show Act.put _ (some 31) _ = _
       simp only [Act.put, u1, u2, u3, i64_w, i32_w]
       rfl
      refine two_ (i := 3) (j := 8) (Ni := some 33) (Nj := some 7) (bA 11 15) (bA 11 263) rfl rfl rfl rfl (two_of HT_.out (by kernel_rfl)) (by decide) (by decide) (fun K hK => ?_) (fun K hK => ?_)
      ·skip
       refine goes_ Try.func28 (by kernel_rfl) rfl #[.agg #[.int .i64 a1_0, .int .i64 a1_1, .slice A1_2 l1_2.length c1_2]] (by rfl) rfl rfl (by (try simp only [List.map_toArray, List.map_cons, List.map_nil]); first | done | rfl | (simp only [List.length_drop, List.length_take]; rfl)) ?_
       with_reducible refine (hatchwaylaw32_Of.calls kj5 a1_0 a1_1 _ _ l1_2 t111 t112 t113 _ ?side1 ?side2 A29.out).mono ?_
       (case side1 => repeat (first | exact (Kd.C_below HR1_2.out HB.out) | (with_reducible refine Kd.C_alloc ?_ _) | (with_reducible refine Kd.C_drewN ?_ _) | (with_reducible refine Kd.C_drew ?_)))
       (case side2 => exact HC1_2.out)
       rintro e w37 ⟨v114, rfl, ho0, hb⟩
       refine ⟨_, rfl, ?_⟩
       have n0_ := A0 (Kd.R_elder' (rS HO110.out) (Kd.R_base ho0) hb)
       have n1_ := A0 (Kd.R_lower (Kd.R_new' ho0 (Kd.R_lt (rS HO110.out))) (below_size (lS HB.out)))
       have n2_ := A0 (blk_below (bS BK101.out) hb)
       have n3_ := A0 (blk_below (bS BK102.out) hb)
       have n4_ := A0 (below_step (lS HB.out) hb)
       clear HO110
       clear BK101
       clear BK102
       clear HB
       have HO110 := n0_
       have HO115 := n1_
       have BK101 := n2_
       have BK102 := n3_
       have HB := n4_
       clear n0_ n1_ n2_ n3_ n4_
       (try clear hb)
       (try clear hb2)
       (try clear hk)
       (try clear hi)
       (try clear ho0)
       obtain ⟨Ao38, co38, eo38⟩ := Kd.R_slice HO110.out
       (first | subst eo38 | (injection eo38 with f1_ f2_ f3_; have f4_ := f1_.symm; have f5_ := f3_.symm; clear f1_ f2_ f3_; subst f4_; subst f5_))
       obtain ⟨Ao39, co39, eo39⟩ := Kd.R_slice HO115.out
       (first | subst eo39 | (injection eo39 with f1_ f2_ f3_; have f4_ := f1_.symm; have f5_ := f3_.symm; clear f1_ f2_ f3_; subst f4_; subst f5_))
       refine hK.out _ _ ⟨bc BK101.out 0, bc BK101.out 1, bc BK101.out 2, bc BK102.out 0, bc BK102.out 1, bc BK102.out 2⟩ (fun hHeld => ?_)
       clear hK K
       refine norm_ (a' := ?_) ?_ ?_
       rotate_left
       ·show Act.put _ (some 33) _ = _
        simp only [Act.put, u1, u2, u3, i64_w, i32_w]
        rfl
       refine two_ (i := 4) (j := 8) (Ni := some 34) (Nj := some 7) (bA 11 31) (bA 11 271) rfl rfl rfl rfl (two_of HT_.out (by kernel_rfl)) (by decide) (by decide) (fun K hK => ?_) (fun K hK => ?_)
       ·skip
        refine goes_ Try.func27 (by kernel_rfl) rfl #[.agg #[.int .i64 t106, .int .i64 t107, .slice Ao38 t108.length co38], .agg #[.int .i64 t111, .int .i64 t112, .slice Ao39 t113.length co39]] (by rfl) rfl rfl (by (try simp only [List.map_toArray, List.map_cons, List.map_nil]); first | done | rfl | (simp only [List.length_drop, List.length_take]; rfl)) ?_
        with_reducible refine (hello_Agree.calls kj5 t106 t107 _ _ t108 t111 t112 _ _ t113 t116 t117 t120 _ ?side1 ?side2 ?side3 ?side4 A30.out).mono ?_
        (case side1 => repeat (first | exact (Kd.R_reads' HO110.out).2.2 | (with_reducible refine Kd.C_alloc ?_ _) | (with_reducible refine Kd.C_drewN ?_ _) | (with_reducible refine Kd.C_drew ?_)))
        (case side2 => exact (Kd.R_reads' HO110.out).2.1)
        (case side3 => repeat (first | exact (Kd.R_reads' HO115.out).2.2 | (with_reducible refine Kd.C_alloc ?_ _) | (with_reducible refine Kd.C_drewN ?_ _) | (with_reducible refine Kd.C_drew ?_)))
        (case side4 => exact (Kd.R_reads' HO115.out).2.1)
        rintro e w40 ⟨v118, rfl, ho0, hb⟩
        refine ⟨_, rfl, ?_⟩
        have n0_ := A0 (Kd.R_elder' (rS HO110.out) (Kd.R_base ho0) hb)
        have n1_ := A0 (Kd.R_elder' (rS HO115.out) (Kd.R_base ho0) hb)
        have n2_ := A0 (Kd.R_lower (Kd.R_new' (Kd.R_new' ho0 (Kd.R_lt (rS HO110.out))) (Kd.R_lt (rS HO115.out))) (below_size (lS HB.out)))
        have n3_ := A0 (blk_below (bS BK101.out) hb)
        have n4_ := A0 (blk_below (bS BK102.out) hb)
        have n5_ := A0 (below_step (lS HB.out) hb)
        clear HO110
        clear HO115
        clear BK101
        clear BK102
        clear HB
        have HO110 := n0_
        have HO115 := n1_
        have HO119 := n2_
        have BK101 := n3_
        have BK102 := n4_
        have HB := n5_
        clear n0_ n1_ n2_ n3_ n4_ n5_
        (try clear hb)
        (try clear hb2)
        (try clear hk)
        (try clear hi)
        (try clear ho0)
        refine hK.out _ _ ⟨bc BK101.out 0, bc BK101.out 1, bc BK101.out 2, bc BK102.out 0, bc BK102.out 1, bc BK102.out 2⟩ (fun hHeld => ?_)
        clear hK K
        refine norm_ (a' := ?_) ?_ ?_
        rotate_left
        ·show Act.put _ (some 34) _ = _
         simp only [Act.put, u1, u2, u3, i64_w, i32_w]
         rfl
        apply pu (i := 5) (N := some 29) (bA 11 63) rfl rfl (any_of HT_.out (by kernel_rfl)) (fun _ _ _ h => h) rfl
        ·intro w'; go_simp; with_reducible rfl
        ·simp only [Act.put, u1, u2, u3, i64_w, i32_w]; rfl
        apply pu (i := 6) (N := some 35) (bA 11 127) rfl rfl (any_of HT_.out (by kernel_rfl)) (fun _ _ _ h => h) rfl
        ·intro w'; go_simp; with_reducible rfl
        ·simp only [Act.put, u1, u2, u3, i64_w, i32_w]; rfl
        apply pu (i := 7) (N := some 36) (bA 11 255) rfl rfl (any_of HT_.out (by kernel_rfl)) (fun _ _ _ h => h) rfl
        ·intro w'; go_simp; with_reducible rfl
        ·simp only [Act.put, u1, u2, u3, i64_w, i32_w]; rfl
        refine one_ (i := 8) (N := some 7) (bA 11 511) rfl rfl (one_of HT_.out (by kernel_rfl)) (by decide) (fun K hK => ?_)
        refine box_step ?hg (N := 7) ?hd (cs := #[.int .i64 0, .slice none 0 0]) (t := 43) ?hr ?_; (case hd => rfl); (case hg => rfl); (case hr => first | (go_simp; done) | (go_simp; rfl))
        intro gb121 hg w41 hbox hb
        have n0_ := A0 (Kd.R_below (rS HO110.out) hb)
        have n1_ := A0 (Kd.R_below (rS HO115.out) hb)
        have n2_ := A0 (Kd.R_below (rS HO119.out) hb)
        have n3_ := A0 (blk_below (bS BK101.out) hb)
        have n4_ := A0 (blk_below (bS BK102.out) hb)
        have n5_ := A0 (below_step (lS HB.out) hb)
        have n6_ := A0 (hbox)
        have n7_ := A0 ((by rw [hg]; exact (below_size (lS HB.out)) : w.heap.size ≤ gb121))
        have n8_ := A0 ((by rw [hg]; exact (below_size (lS HB.out)) : w.heap.size ≤ gb121))
        have n9_ := A0 ((by rw [hg]; exact Nat.ne_of_lt (blk_lt (g := gb101) (o := .cells #[.int .i64 a0_0, .int .i64 a0_1, .slice A0_2 l0_2.length c0_2] 39 (0, 0)) (bS BK101.out)) : gb101 ≠ gb121))
        have n10_ := A0 ((by rw [hg]; exact Nat.ne_of_gt (blk_lt (g := gb101) (o := .cells #[.int .i64 a0_0, .int .i64 a0_1, .slice A0_2 l0_2.length c0_2] 39 (0, 0)) (bS BK101.out)) : gb121 ≠ gb101))
        have n11_ := A0 ((by rw [hg]; exact Nat.ne_of_lt (blk_lt (g := gb102) (o := .cells #[.int .i64 a1_0, .int .i64 a1_1, .slice A1_2 l1_2.length c1_2] 39 (0, 0)) (bS BK102.out)) : gb102 ≠ gb121))
        have n12_ := A0 ((by rw [hg]; exact Nat.ne_of_gt (blk_lt (g := gb102) (o := .cells #[.int .i64 a1_0, .int .i64 a1_1, .slice A1_2 l1_2.length c1_2] 39 (0, 0)) (bS BK102.out)) : gb121 ≠ gb102))
        clear HO110
        clear HO115
        clear HO119
        clear BK101
        clear BK102
        clear HB
        have HO110 := n0_
        have HO115 := n1_
        have HO119 := n2_
        have BK101 := n3_
        have BK102 := n4_
        have HB := n5_
        have BK121 := n6_
        have GW121 := n7_
        have GE121 := n8_
        have NB101_121 := n9_
        have NB121_101 := n10_
        have NB102_121 := n11_
        have NB121_102 := n12_
        clear n0_ n1_ n2_ n3_ n4_ n5_ n6_ n7_ n8_ n9_ n10_ n11_ n12_
        clear hb hbox hg
        refine hK.out _ _ ⟨bc BK101.out 0, bc BK101.out 1, bc BK101.out 2, bc BK102.out 0, bc BK102.out 1, bc BK102.out 2⟩ (fun hHeld => ?_)
        clear hK K
        refine norm_ (a' := ?_) ?_ ?_
        rotate_left
        ·show Act.put _ (some 7) _ = _
         simp only [Act.put, u1, u2, u3, i64_w, i32_w]
         rfl
        exact norm_ (by simp only [putAll, Act.put, u1, u2, u3]) (hCont (.slice Ao38 t108.length co38, .slice Ao39 t113.length co39, v118, gb121) _ ⟨hHeld, (rS (Kd.R_mono HO110.out (fun _ hk => ⟨hk.1.2, hk.2⟩))), (rS (Kd.R_mono HO115.out (fun _ hk => ⟨hk.1.2, hk.2⟩))), (rS (Kd.R_mono HO119.out (fun _ hk => ⟨hk.1.2, hk.2⟩))), (bS BK101.out), (bS BK102.out), (bS BK121.out), GW121.out, GE121.out, NB101_121.out, NB121_101.out, NB102_121.out, NB121_102.out, (by repeat (first | (with_reducible first | exact HB.out | apply below_alloc | apply pw_below_drewN | apply below_drew1 | refine below_set ?_ GE101.out | refine below_set ?_ GE102.out | refine below_set ?_ GE121.out) | exact HB.out))⟩)
       skip
       refine box_step ?hg (N := 7) ?hd (cs := #[.int .i64 0, .slice none 0 0]) (t := 43) ?hr ?_; (case hd => rfl); (case hg => rfl); (case hr => first | (go_simp; done) | (go_simp; rfl))
       intro gb121 hg w38 hbox hb
       have n0_ := A0 (Kd.R_below (rS HO110.out) hb)
       have n1_ := A0 (Kd.R_below (rS HO115.out) hb)
       have n2_ := A0 (blk_below (bS BK101.out) hb)
       have n3_ := A0 (blk_below (bS BK102.out) hb)
       have n4_ := A0 (below_step (lS HB.out) hb)
       have n5_ := A0 (hbox)
       have n6_ := A0 ((by rw [hg]; exact (below_size (lS HB.out)) : w.heap.size ≤ gb121))
       have n7_ := A0 ((by rw [hg]; exact (below_size (lS HB.out)) : w.heap.size ≤ gb121))
       have n8_ := A0 ((by rw [hg]; exact Nat.ne_of_lt (blk_lt (g := gb101) (o := .cells #[.int .i64 a0_0, .int .i64 a0_1, .slice A0_2 l0_2.length c0_2] 39 (0, 0)) (bS BK101.out)) : gb101 ≠ gb121))
       have n9_ := A0 ((by rw [hg]; exact Nat.ne_of_gt (blk_lt (g := gb101) (o := .cells #[.int .i64 a0_0, .int .i64 a0_1, .slice A0_2 l0_2.length c0_2] 39 (0, 0)) (bS BK101.out)) : gb121 ≠ gb101))
       have n10_ := A0 ((by rw [hg]; exact Nat.ne_of_lt (blk_lt (g := gb102) (o := .cells #[.int .i64 a1_0, .int .i64 a1_1, .slice A1_2 l1_2.length c1_2] 39 (0, 0)) (bS BK102.out)) : gb102 ≠ gb121))
       have n11_ := A0 ((by rw [hg]; exact Nat.ne_of_gt (blk_lt (g := gb102) (o := .cells #[.int .i64 a1_0, .int .i64 a1_1, .slice A1_2 l1_2.length c1_2] 39 (0, 0)) (bS BK102.out)) : gb121 ≠ gb102))
       clear HO110
       clear HO115
       clear BK101
       clear BK102
       clear HB
       have HO110 := n0_
       have HO115 := n1_
       have BK101 := n2_
       have BK102 := n3_
       have HB := n4_
       have BK121 := n5_
       have GW121 := n6_
       have GE121 := n7_
       have NB101_121 := n8_
       have NB121_101 := n9_
       have NB102_121 := n10_
       have NB121_102 := n11_
       clear n0_ n1_ n2_ n3_ n4_ n5_ n6_ n7_ n8_ n9_ n10_ n11_
       clear hb hbox hg
       obtain ⟨Ao39, co39, eo39⟩ := Kd.R_slice HO110.out
       (first | subst eo39 | (injection eo39 with f1_ f2_ f3_; have f4_ := f1_.symm; have f5_ := f3_.symm; clear f1_ f2_ f3_; subst f4_; subst f5_))
       obtain ⟨Ao40, co40, eo40⟩ := Kd.R_slice HO115.out
       (first | subst eo40 | (injection eo40 with f1_ f2_ f3_; have f4_ := f1_.symm; have f5_ := f3_.symm; clear f1_ f2_ f3_; subst f4_; subst f5_))
       refine hK.out _ _ ⟨bc BK101.out 0, bc BK101.out 1, bc BK101.out 2, bc BK102.out 0, bc BK102.out 1, bc BK102.out 2⟩ (fun hHeld => ?_)
       clear hK K
       refine norm_ (a' := ?_) ?_ ?_
       rotate_left
       ·show Act.put _ (some 7) _ = _
        simp only [Act.put, u1, u2, u3, i64_w, i32_w]
        rfl
       refine one_ (i := 4) (N := some 34) (bA 11 287) rfl rfl (one_of HT_.out (by kernel_rfl)) (by decide) (fun K hK => ?_)
       refine goes_ Try.func27 (by kernel_rfl) rfl #[.agg #[.int .i64 t106, .int .i64 t107, .slice Ao39 t108.length co39], .agg #[.int .i64 t111, .int .i64 t112, .slice Ao40 t113.length co40]] (by rfl) rfl rfl (by (try simp only [List.map_toArray, List.map_cons, List.map_nil]); first | done | rfl | (simp only [List.length_drop, List.length_take]; rfl)) ?_
       with_reducible refine (hello_Agree.calls kj5 t106 t107 _ _ t108 t111 t112 _ _ t113 t116 t117 t120 _ ?side1 ?side2 ?side3 ?side4 A30.out).mono ?_
       (case side1 => repeat (first | exact (Kd.R_reads' HO110.out).2.2 | (with_reducible refine Kd.C_alloc ?_ _) | (with_reducible refine Kd.C_drewN ?_ _) | (with_reducible refine Kd.C_drew ?_)))
       (case side2 => exact (Kd.R_reads' HO110.out).2.1)
       (case side3 => repeat (first | exact (Kd.R_reads' HO115.out).2.2 | (with_reducible refine Kd.C_alloc ?_ _) | (with_reducible refine Kd.C_drewN ?_ _) | (with_reducible refine Kd.C_drew ?_)))
       (case side4 => exact (Kd.R_reads' HO115.out).2.1)
       rintro e w41 ⟨v118, rfl, ho0, hb⟩
       refine ⟨_, rfl, ?_⟩
       have n0_ := A0 (Kd.R_elder' (rS HO110.out) (Kd.R_base ho0) hb)
       have n1_ := A0 (Kd.R_elder' (rS HO115.out) (Kd.R_base ho0) hb)
       have n2_ := A0 (Kd.R_lower (Kd.R_new' (Kd.R_new' ho0 (Kd.R_lt (rS HO110.out))) (Kd.R_lt (rS HO115.out))) (below_size (lS HB.out)))
       have n3_ := A0 (blk_below (bS BK101.out) hb)
       have n4_ := A0 (blk_below (bS BK102.out) hb)
       have n5_ := A0 (blk_below (bS BK121.out) hb)
       have n6_ := A0 (below_step (lS HB.out) hb)
       clear HO110
       clear HO115
       clear BK101
       clear BK102
       clear BK121
       clear HB
       have HO110 := n0_
       have HO115 := n1_
       have HO119 := n2_
       have BK101 := n3_
       have BK102 := n4_
       have BK121 := n5_
       have HB := n6_
       clear n0_ n1_ n2_ n3_ n4_ n5_ n6_
       (try clear hb)
       (try clear hb2)
       (try clear hk)
       (try clear hi)
       (try clear ho0)
       refine hK.out _ _ ⟨bc BK101.out 0, bc BK101.out 1, bc BK101.out 2, bc BK102.out 0, bc BK102.out 1, bc BK102.out 2⟩ (fun hHeld => ?_)
       clear hK K
       refine norm_ (a' := ?_) ?_ ?_
       rotate_left
       ·show Act.put _ (some 34) _ = _
        simp only [Act.put, u1, u2, u3, i64_w, i32_w]
        rfl
       apply pu (i := 5) (N := some 29) (bA 11 319) rfl rfl (any_of HT_.out (by kernel_rfl)) (fun _ _ _ h => h) rfl
       ·intro w'; go_simp; with_reducible rfl
       ·simp only [Act.put, u1, u2, u3, i64_w, i32_w]; rfl
       apply pu (i := 6) (N := some 35) (bA 11 383) rfl rfl (any_of HT_.out (by kernel_rfl)) (fun _ _ _ h => h) rfl
       ·intro w'; go_simp; with_reducible rfl
       ·simp only [Act.put, u1, u2, u3, i64_w, i32_w]; rfl
       apply pu (i := 7) (N := some 36) (bA 11 511) rfl rfl (any_of HT_.out (by kernel_rfl)) (fun _ _ _ h => h) rfl
       ·intro w'; go_simp; with_reducible rfl
       ·simp only [Act.put, u1, u2, u3, i64_w, i32_w]; rfl
       exact norm_ (by simp only [putAll, Act.put, u1, u2, u3]) (hCont (.slice Ao39 t108.length co39, .slice Ao40 t113.length co40, v118, gb121) _ ⟨hHeld, (rS (Kd.R_mono HO110.out (fun _ hk => ⟨hk.1.2, hk.2⟩))), (rS (Kd.R_mono HO115.out (fun _ hk => ⟨hk.1.2, hk.2⟩))), (rS (Kd.R_mono HO119.out (fun _ hk => ⟨hk.1.2, hk.2⟩))), (bS BK101.out), (bS BK102.out), (bS BK121.out), GW121.out, GE121.out, NB101_121.out, NB121_101.out, NB102_121.out, NB121_102.out, (by repeat (first | (with_reducible first | exact HB.out | apply below_alloc | apply pw_below_drewN | apply below_drew1 | refine below_set ?_ GE101.out | refine below_set ?_ GE102.out | refine below_set ?_ GE121.out) | exact HB.out))⟩)
      skip
      refine box_step ?hg (N := 7) ?hd (cs := #[.int .i64 0, .slice none 0 0]) (t := 43) ?hr ?_; (case hd => rfl); (case hg => rfl); (case hr => first | (go_simp; done) | (go_simp; rfl))
      intro gb121 hg w37 hbox hb
      have n0_ := A0 (Kd.R_below (rS HO110.out) hb)
      have n1_ := A0 (blk_below (bS BK101.out) hb)
      have n2_ := A0 (blk_below (bS BK102.out) hb)
      have n3_ := A0 (below_step (lS HB.out) hb)
      have n4_ := A0 (hbox)
      have n5_ := A0 ((by rw [hg]; exact (below_size (lS HB.out)) : w.heap.size ≤ gb121))
      have n6_ := A0 ((by rw [hg]; exact (below_size (lS HB.out)) : w.heap.size ≤ gb121))
      have n7_ := A0 ((by rw [hg]; exact Nat.ne_of_lt (blk_lt (g := gb101) (o := .cells #[.int .i64 a0_0, .int .i64 a0_1, .slice A0_2 l0_2.length c0_2] 39 (0, 0)) (bS BK101.out)) : gb101 ≠ gb121))
      have n8_ := A0 ((by rw [hg]; exact Nat.ne_of_gt (blk_lt (g := gb101) (o := .cells #[.int .i64 a0_0, .int .i64 a0_1, .slice A0_2 l0_2.length c0_2] 39 (0, 0)) (bS BK101.out)) : gb121 ≠ gb101))
      have n9_ := A0 ((by rw [hg]; exact Nat.ne_of_lt (blk_lt (g := gb102) (o := .cells #[.int .i64 a1_0, .int .i64 a1_1, .slice A1_2 l1_2.length c1_2] 39 (0, 0)) (bS BK102.out)) : gb102 ≠ gb121))
      have n10_ := A0 ((by rw [hg]; exact Nat.ne_of_gt (blk_lt (g := gb102) (o := .cells #[.int .i64 a1_0, .int .i64 a1_1, .slice A1_2 l1_2.length c1_2] 39 (0, 0)) (bS BK102.out)) : gb121 ≠ gb102))
      clear HO110
      clear BK101
      clear BK102
      clear HB
      have HO110 := n0_
      have BK101 := n1_
      have BK102 := n2_
      have HB := n3_
      have BK121 := n4_
      have GW121 := n5_
      have GE121 := n6_
      have NB101_121 := n7_
      have NB121_101 := n8_
      have NB102_121 := n9_
      have NB121_102 := n10_
      clear n0_ n1_ n2_ n3_ n4_ n5_ n6_ n7_ n8_ n9_ n10_
      clear hb hbox hg
      refine hK.out _ _ ⟨bc BK101.out 0, bc BK101.out 1, bc BK101.out 2, bc BK102.out 0, bc BK102.out 1, bc BK102.out 2⟩ (fun hHeld => ?_)
      clear hK K
      refine norm_ (a' := ?_) ?_ ?_
      rotate_left
      ·show Act.put _ (some 7) _ = _
       simp only [Act.put, u1, u2, u3, i64_w, i32_w]
       rfl
      refine one_ (i := 3) (N := some 33) (bA 11 271) rfl rfl (one_of HT_.out (by kernel_rfl)) (by decide) (fun K hK => ?_)
      refine goes_ Try.func28 (by kernel_rfl) rfl #[.agg #[.int .i64 a1_0, .int .i64 a1_1, .slice A1_2 l1_2.length c1_2]] (by rfl) rfl rfl (by (try simp only [List.map_toArray, List.map_cons, List.map_nil]); first | done | rfl | (simp only [List.length_drop, List.length_take]; rfl)) ?_
      with_reducible refine (hatchwaylaw32_Of.calls kj5 a1_0 a1_1 _ _ l1_2 t111 t112 t113 _ ?side1 ?side2 A29.out).mono ?_
      (case side1 => repeat (first | exact (Kd.C_below HR1_2.out HB.out) | (with_reducible refine Kd.C_alloc ?_ _) | (with_reducible refine Kd.C_drewN ?_ _) | (with_reducible refine Kd.C_drew ?_)))
      (case side2 => exact HC1_2.out)
      rintro e w38 ⟨v114, rfl, ho0, hb⟩
      refine ⟨_, rfl, ?_⟩
      have n0_ := A0 (Kd.R_elder' (rS HO110.out) (Kd.R_base ho0) hb)
      have n1_ := A0 (Kd.R_lower (Kd.R_new' ho0 (Kd.R_lt (rS HO110.out))) (below_size (lS HB.out)))
      have n2_ := A0 (blk_below (bS BK101.out) hb)
      have n3_ := A0 (blk_below (bS BK102.out) hb)
      have n4_ := A0 (blk_below (bS BK121.out) hb)
      have n5_ := A0 (below_step (lS HB.out) hb)
      clear HO110
      clear BK101
      clear BK102
      clear BK121
      clear HB
      have HO110 := n0_
      have HO115 := n1_
      have BK101 := n2_
      have BK102 := n3_
      have BK121 := n4_
      have HB := n5_
      clear n0_ n1_ n2_ n3_ n4_ n5_
      (try clear hb)
      (try clear hb2)
      (try clear hk)
      (try clear hi)
      (try clear ho0)
      obtain ⟨Ao39, co39, eo39⟩ := Kd.R_slice HO110.out
      (first | subst eo39 | (injection eo39 with f1_ f2_ f3_; have f4_ := f1_.symm; have f5_ := f3_.symm; clear f1_ f2_ f3_; subst f4_; subst f5_))
      obtain ⟨Ao40, co40, eo40⟩ := Kd.R_slice HO115.out
      (first | subst eo40 | (injection eo40 with f1_ f2_ f3_; have f4_ := f1_.symm; have f5_ := f3_.symm; clear f1_ f2_ f3_; subst f4_; subst f5_))
      refine hK.out _ _ ⟨bc BK101.out 0, bc BK101.out 1, bc BK101.out 2, bc BK102.out 0, bc BK102.out 1, bc BK102.out 2⟩ (fun hHeld => ?_)
      clear hK K
      refine norm_ (a' := ?_) ?_ ?_
      rotate_left
      ·show Act.put _ (some 33) _ = _
       simp only [Act.put, u1, u2, u3, i64_w, i32_w]
       rfl
      refine one_ (i := 4) (N := some 34) (bA 11 287) rfl rfl (one_of HT_.out (by kernel_rfl)) (by decide) (fun K hK => ?_)
      refine goes_ Try.func27 (by kernel_rfl) rfl #[.agg #[.int .i64 t106, .int .i64 t107, .slice Ao39 t108.length co39], .agg #[.int .i64 t111, .int .i64 t112, .slice Ao40 t113.length co40]] (by rfl) rfl rfl (by (try simp only [List.map_toArray, List.map_cons, List.map_nil]); first | done | rfl | (simp only [List.length_drop, List.length_take]; rfl)) ?_
      with_reducible refine (hello_Agree.calls kj5 t106 t107 _ _ t108 t111 t112 _ _ t113 t116 t117 t120 _ ?side1 ?side2 ?side3 ?side4 A30.out).mono ?_
      (case side1 => repeat (first | exact (Kd.R_reads' HO110.out).2.2 | (with_reducible refine Kd.C_alloc ?_ _) | (with_reducible refine Kd.C_drewN ?_ _) | (with_reducible refine Kd.C_drew ?_)))
      (case side2 => exact (Kd.R_reads' HO110.out).2.1)
      (case side3 => repeat (first | exact (Kd.R_reads' HO115.out).2.2 | (with_reducible refine Kd.C_alloc ?_ _) | (with_reducible refine Kd.C_drewN ?_ _) | (with_reducible refine Kd.C_drew ?_)))
      (case side4 => exact (Kd.R_reads' HO115.out).2.1)
      rintro e w41 ⟨v118, rfl, ho0, hb⟩
      refine ⟨_, rfl, ?_⟩
      have n0_ := A0 (Kd.R_elder' (rS HO110.out) (Kd.R_base ho0) hb)
      have n1_ := A0 (Kd.R_elder' (rS HO115.out) (Kd.R_base ho0) hb)
      have n2_ := A0 (Kd.R_lower (Kd.R_new' (Kd.R_new' ho0 (Kd.R_lt (rS HO110.out))) (Kd.R_lt (rS HO115.out))) (below_size (lS HB.out)))
      have n3_ := A0 (blk_below (bS BK101.out) hb)
      have n4_ := A0 (blk_below (bS BK102.out) hb)
      have n5_ := A0 (blk_below (bS BK121.out) hb)
      have n6_ := A0 (below_step (lS HB.out) hb)
      clear HO110
      clear HO115
      clear BK101
      clear BK102
      clear BK121
      clear HB
      have HO110 := n0_
      have HO115 := n1_
      have HO119 := n2_
      have BK101 := n3_
      have BK102 := n4_
      have BK121 := n5_
      have HB := n6_
      clear n0_ n1_ n2_ n3_ n4_ n5_ n6_
      (try clear hb)
      (try clear hb2)
      (try clear hk)
      (try clear hi)
      (try clear ho0)
      refine hK.out _ _ ⟨bc BK101.out 0, bc BK101.out 1, bc BK101.out 2, bc BK102.out 0, bc BK102.out 1, bc BK102.out 2⟩ (fun hHeld => ?_)
      clear hK K
      refine norm_ (a' := ?_) ?_ ?_
      rotate_left
      ·show Act.put _ (some 34) _ = _
       simp only [Act.put, u1, u2, u3, i64_w, i32_w]
       rfl
      apply pu (i := 5) (N := some 29) (bA 11 319) rfl rfl (any_of HT_.out (by kernel_rfl)) (fun _ _ _ h => h) rfl
      ·intro w'; go_simp; with_reducible rfl
      ·simp only [Act.put, u1, u2, u3, i64_w, i32_w]; rfl
      apply pu (i := 6) (N := some 35) (bA 11 383) rfl rfl (any_of HT_.out (by kernel_rfl)) (fun _ _ _ h => h) rfl
      ·intro w'; go_simp; with_reducible rfl
      ·simp only [Act.put, u1, u2, u3, i64_w, i32_w]; rfl
      apply pu (i := 7) (N := some 36) (bA 11 511) rfl rfl (any_of HT_.out (by kernel_rfl)) (fun _ _ _ h => h) rfl
      ·intro w'; go_simp; with_reducible rfl
      ·simp only [Act.put, u1, u2, u3, i64_w, i32_w]; rfl
      exact norm_ (by simp only [putAll, Act.put, u1, u2, u3]) (hCont (.slice Ao39 t108.length co39, .slice Ao40 t113.length co40, v118, gb121) _ ⟨hHeld, (rS (Kd.R_mono HO110.out (fun _ hk => ⟨hk.1.2, hk.2⟩))), (rS (Kd.R_mono HO115.out (fun _ hk => ⟨hk.1.2, hk.2⟩))), (rS (Kd.R_mono HO119.out (fun _ hk => ⟨hk.1.2, hk.2⟩))), (bS BK101.out), (bS BK102.out), (bS BK121.out), GW121.out, GE121.out, NB101_121.out, NB121_101.out, NB102_121.out, NB121_102.out, (by repeat (first | (with_reducible first | exact HB.out | apply below_alloc | apply pw_below_drewN | apply below_drew1 | refine below_set ?_ GE101.out | refine below_set ?_ GE102.out | refine below_set ?_ GE121.out) | exact HB.out))⟩)
     skip
     refine box_step ?hg (N := 7) ?hd (cs := #[.int .i64 0, .slice none 0 0]) (t := 43) ?hr ?_; (case hd => rfl); (case hg => rfl); (case hr => first | (go_simp; done) | (go_simp; rfl))
     intro gb121 hg w36 hbox hb
     have n0_ := A0 (blk_below (bS BK101.out) hb)
     have n1_ := A0 (blk_below (bS BK102.out) hb)
     have n2_ := A0 (below_step (lS HB.out) hb)
     have n3_ := A0 (hbox)
     have n4_ := A0 ((by rw [hg]; exact (below_size (lS HB.out)) : w.heap.size ≤ gb121))
     have n5_ := A0 ((by rw [hg]; exact (below_size (lS HB.out)) : w.heap.size ≤ gb121))
     have n6_ := A0 ((by rw [hg]; exact Nat.ne_of_lt (blk_lt (g := gb101) (o := .cells #[.int .i64 a0_0, .int .i64 a0_1, .slice A0_2 l0_2.length c0_2] 39 (0, 0)) (bS BK101.out)) : gb101 ≠ gb121))
     have n7_ := A0 ((by rw [hg]; exact Nat.ne_of_gt (blk_lt (g := gb101) (o := .cells #[.int .i64 a0_0, .int .i64 a0_1, .slice A0_2 l0_2.length c0_2] 39 (0, 0)) (bS BK101.out)) : gb121 ≠ gb101))
     have n8_ := A0 ((by rw [hg]; exact Nat.ne_of_lt (blk_lt (g := gb102) (o := .cells #[.int .i64 a1_0, .int .i64 a1_1, .slice A1_2 l1_2.length c1_2] 39 (0, 0)) (bS BK102.out)) : gb102 ≠ gb121))
     have n9_ := A0 ((by rw [hg]; exact Nat.ne_of_gt (blk_lt (g := gb102) (o := .cells #[.int .i64 a1_0, .int .i64 a1_1, .slice A1_2 l1_2.length c1_2] 39 (0, 0)) (bS BK102.out)) : gb121 ≠ gb102))
     clear BK101
     clear BK102
     clear HB
     have BK101 := n0_
     have BK102 := n1_
     have HB := n2_
     have BK121 := n3_
     have GW121 := n4_
     have GE121 := n5_
     have NB101_121 := n6_
     have NB121_101 := n7_
     have NB102_121 := n8_
     have NB121_102 := n9_
     clear n0_ n1_ n2_ n3_ n4_ n5_ n6_ n7_ n8_ n9_
     clear hb hbox hg
     refine hK.out _ _ ⟨bc BK101.out 0, bc BK101.out 1, bc BK101.out 2, bc BK102.out 0, bc BK102.out 1, bc BK102.out 2⟩ (fun hHeld => ?_)
     clear hK K
     refine norm_ (a' := ?_) ?_ ?_
     rotate_left
     ·show Act.put _ (some 7) _ = _
      simp only [Act.put, u1, u2, u3, i64_w, i32_w]
      rfl
     refine one_ (i := 1) (N := some 31) (bA 11 263) rfl rfl (one_of HT_.out (by kernel_rfl)) (by decide) (fun K hK => ?_)
     refine goes_ Try.func28 (by kernel_rfl) rfl #[.agg #[.int .i64 a0_0, .int .i64 a0_1, .slice A0_2 l0_2.length c0_2]] (by rfl) rfl rfl (by (try simp only [List.map_toArray, List.map_cons, List.map_nil]); first | done | rfl | (simp only [List.length_drop, List.length_take]; rfl)) ?_
     with_reducible refine (hatchwaylaw32_Of.calls kj5 a0_0 a0_1 _ _ l0_2 t106 t107 t108 _ ?side1 ?side2 A28.out).mono ?_
     (case side1 => repeat (first | exact (Kd.C_below HR0_2.out HB.out) | (with_reducible refine Kd.C_alloc ?_ _) | (with_reducible refine Kd.C_drewN ?_ _) | (with_reducible refine Kd.C_drew ?_)))
     (case side2 => exact HC0_2.out)
     rintro e w37 ⟨v109, rfl, ho0, hb⟩
     refine ⟨_, rfl, ?_⟩
     have HO110 := A0 (Kd.R_lower ho0 (below_size (lS HB.out)))
     replace BK101 := A0 (blk_below (bS BK101.out) hb)
     replace BK102 := A0 (blk_below (bS BK102.out) hb)
     replace BK121 := A0 (blk_below (bS BK121.out) hb)
     replace HB := A0 (below_step (lS HB.out) hb)
     (try clear hb)
     (try clear hb2)
     (try clear hk)
     (try clear hi)
     (try clear ho0)
     refine hK.out _ _ ⟨bc BK101.out 0, bc BK101.out 1, bc BK101.out 2, bc BK102.out 0, bc BK102.out 1, bc BK102.out 2⟩ (fun hHeld => ?_)
     clear hK K
     refine norm_ (a' := ?_) ?_ ?_
     rotate_left
     ·show Act.put _ (some 31) _ = _
      simp only [Act.put, u1, u2, u3, i64_w, i32_w]
      rfl
     refine one_ (i := 3) (N := some 33) (bA 11 271) rfl rfl (one_of HT_.out (by kernel_rfl)) (by decide) (fun K hK => ?_)
     refine goes_ Try.func28 (by kernel_rfl) rfl #[.agg #[.int .i64 a1_0, .int .i64 a1_1, .slice A1_2 l1_2.length c1_2]] (by rfl) rfl rfl (by (try simp only [List.map_toArray, List.map_cons, List.map_nil]); first | done | rfl | (simp only [List.length_drop, List.length_take]; rfl)) ?_
     with_reducible refine (hatchwaylaw32_Of.calls kj5 a1_0 a1_1 _ _ l1_2 t111 t112 t113 _ ?side1 ?side2 A29.out).mono ?_
     (case side1 => repeat (first | exact (Kd.C_below HR1_2.out HB.out) | (with_reducible refine Kd.C_alloc ?_ _) | (with_reducible refine Kd.C_drewN ?_ _) | (with_reducible refine Kd.C_drew ?_)))
     (case side2 => exact HC1_2.out)
     rintro e w38 ⟨v114, rfl, ho0, hb⟩
     refine ⟨_, rfl, ?_⟩
     have n0_ := A0 (Kd.R_elder' (rS HO110.out) (Kd.R_base ho0) hb)
     have n1_ := A0 (Kd.R_lower (Kd.R_new' ho0 (Kd.R_lt (rS HO110.out))) (below_size (lS HB.out)))
     have n2_ := A0 (blk_below (bS BK101.out) hb)
     have n3_ := A0 (blk_below (bS BK102.out) hb)
     have n4_ := A0 (blk_below (bS BK121.out) hb)
     have n5_ := A0 (below_step (lS HB.out) hb)
     clear HO110
     clear BK101
     clear BK102
     clear BK121
     clear HB
     have HO110 := n0_
     have HO115 := n1_
     have BK101 := n2_
     have BK102 := n3_
     have BK121 := n4_
     have HB := n5_
     clear n0_ n1_ n2_ n3_ n4_ n5_
     (try clear hb)
     (try clear hb2)
     (try clear hk)
     (try clear hi)
     (try clear ho0)
     obtain ⟨Ao39, co39, eo39⟩ := Kd.R_slice HO110.out
     (first | subst eo39 | (injection eo39 with f1_ f2_ f3_; have f4_ := f1_.symm; have f5_ := f3_.symm; clear f1_ f2_ f3_; subst f4_; subst f5_))
     obtain ⟨Ao40, co40, eo40⟩ := Kd.R_slice HO115.out
     (first | subst eo40 | (injection eo40 with f1_ f2_ f3_; have f4_ := f1_.symm; have f5_ := f3_.symm; clear f1_ f2_ f3_; subst f4_; subst f5_))
     refine hK.out _ _ ⟨bc BK101.out 0, bc BK101.out 1, bc BK101.out 2, bc BK102.out 0, bc BK102.out 1, bc BK102.out 2⟩ (fun hHeld => ?_)
     clear hK K
     refine norm_ (a' := ?_) ?_ ?_
     rotate_left
     ·show Act.put _ (some 33) _ = _
      simp only [Act.put, u1, u2, u3, i64_w, i32_w]
      rfl
     refine one_ (i := 4) (N := some 34) (bA 11 287) rfl rfl (one_of HT_.out (by kernel_rfl)) (by decide) (fun K hK => ?_)
     refine goes_ Try.func27 (by kernel_rfl) rfl #[.agg #[.int .i64 t106, .int .i64 t107, .slice Ao39 t108.length co39], .agg #[.int .i64 t111, .int .i64 t112, .slice Ao40 t113.length co40]] (by rfl) rfl rfl (by (try simp only [List.map_toArray, List.map_cons, List.map_nil]); first | done | rfl | (simp only [List.length_drop, List.length_take]; rfl)) ?_
     with_reducible refine (hello_Agree.calls kj5 t106 t107 _ _ t108 t111 t112 _ _ t113 t116 t117 t120 _ ?side1 ?side2 ?side3 ?side4 A30.out).mono ?_
     (case side1 => repeat (first | exact (Kd.R_reads' HO110.out).2.2 | (with_reducible refine Kd.C_alloc ?_ _) | (with_reducible refine Kd.C_drewN ?_ _) | (with_reducible refine Kd.C_drew ?_)))
     (case side2 => exact (Kd.R_reads' HO110.out).2.1)
     (case side3 => repeat (first | exact (Kd.R_reads' HO115.out).2.2 | (with_reducible refine Kd.C_alloc ?_ _) | (with_reducible refine Kd.C_drewN ?_ _) | (with_reducible refine Kd.C_drew ?_)))
     (case side4 => exact (Kd.R_reads' HO115.out).2.1)
     rintro e w41 ⟨v118, rfl, ho0, hb⟩
     refine ⟨_, rfl, ?_⟩
     have n0_ := A0 (Kd.R_elder' (rS HO110.out) (Kd.R_base ho0) hb)
     have n1_ := A0 (Kd.R_elder' (rS HO115.out) (Kd.R_base ho0) hb)
     have n2_ := A0 (Kd.R_lower (Kd.R_new' (Kd.R_new' ho0 (Kd.R_lt (rS HO110.out))) (Kd.R_lt (rS HO115.out))) (below_size (lS HB.out)))
     have n3_ := A0 (blk_below (bS BK101.out) hb)
     have n4_ := A0 (blk_below (bS BK102.out) hb)
     have n5_ := A0 (blk_below (bS BK121.out) hb)
     have n6_ := A0 (below_step (lS HB.out) hb)
     clear HO110
     clear HO115
     clear BK101
     clear BK102
     clear BK121
     clear HB
     have HO110 := n0_
     have HO115 := n1_
     have HO119 := n2_
     have BK101 := n3_
     have BK102 := n4_
     have BK121 := n5_
     have HB := n6_
     clear n0_ n1_ n2_ n3_ n4_ n5_ n6_
     (try clear hb)
     (try clear hb2)
     (try clear hk)
     (try clear hi)
     (try clear ho0)
     refine hK.out _ _ ⟨bc BK101.out 0, bc BK101.out 1, bc BK101.out 2, bc BK102.out 0, bc BK102.out 1, bc BK102.out 2⟩ (fun hHeld => ?_)
     clear hK K
     refine norm_ (a' := ?_) ?_ ?_
     rotate_left
     ·show Act.put _ (some 34) _ = _
      simp only [Act.put, u1, u2, u3, i64_w, i32_w]
      rfl
     apply pu (i := 5) (N := some 29) (bA 11 319) rfl rfl (any_of HT_.out (by kernel_rfl)) (fun _ _ _ h => h) rfl
     ·intro w'; go_simp; with_reducible rfl
     ·simp only [Act.put, u1, u2, u3, i64_w, i32_w]; rfl
     apply pu (i := 6) (N := some 35) (bA 11 383) rfl rfl (any_of HT_.out (by kernel_rfl)) (fun _ _ _ h => h) rfl
     ·intro w'; go_simp; with_reducible rfl
     ·simp only [Act.put, u1, u2, u3, i64_w, i32_w]; rfl
     apply pu (i := 7) (N := some 36) (bA 11 511) rfl rfl (any_of HT_.out (by kernel_rfl)) (fun _ _ _ h => h) rfl
     ·intro w'; go_simp; with_reducible rfl
     ·simp only [Act.put, u1, u2, u3, i64_w, i32_w]; rfl
     exact norm_ (by simp only [putAll, Act.put, u1, u2, u3]) (hCont (.slice Ao39 t108.length co39, .slice Ao40 t113.length co40, v118, gb121) _ ⟨hHeld, (rS (Kd.R_mono HO110.out (fun _ hk => ⟨hk.1.2, hk.2⟩))), (rS (Kd.R_mono HO115.out (fun _ hk => ⟨hk.1.2, hk.2⟩))), (rS (Kd.R_mono HO119.out (fun _ hk => ⟨hk.1.2, hk.2⟩))), (bS BK101.out), (bS BK102.out), (bS BK121.out), GW121.out, GE121.out, NB101_121.out, NB121_101.out, NB102_121.out, NB121_102.out, (by repeat (first | (with_reducible first | exact HB.out | apply below_alloc | apply pw_below_drewN | apply below_drew1 | refine below_set ?_ GE101.out | refine below_set ?_ GE102.out | refine below_set ?_ GE121.out) | exact HB.out))⟩)
    rintro ⟨v109, v114, v118, gb121⟩ w42 ⟨hS_, h0_, h1_, h2_, h3_, h4_, h5_, h6_, h7_, h8_, h9_, h10_, h11_, h12_⟩
    have n0_ : Aside0 (Kd.R k104 104 w42 w.heap.size (fun k_ => some k_ ≠ (v114 : Value).ownBlock ∧ some k_ ≠ (v118 : Value).ownBlock) v109 t108) := ⟨h0_⟩
    have n1_ : Aside0 (Kd.R k104 104 w42 w.heap.size (fun k_ => some k_ ≠ (v109 : Value).ownBlock ∧ some k_ ≠ (v118 : Value).ownBlock) v114 t113) := ⟨h1_⟩
    have n2_ : Aside0 (Kd.R k104 104 w42 w.heap.size (fun k_ => some k_ ≠ (v109 : Value).ownBlock ∧ some k_ ≠ (v114 : Value).ownBlock) v118 t117) := ⟨h2_⟩
    have n3_ : Aside0 (w42.heap[gb101]? = some (.cells #[.int .i64 a0_0, .int .i64 a0_1, .slice A0_2 l0_2.length c0_2] 39 (0, 0))) := ⟨h3_⟩
    have n4_ : Aside0 (w42.heap[gb102]? = some (.cells #[.int .i64 a1_0, .int .i64 a1_1, .slice A1_2 l1_2.length c1_2] 39 (0, 0))) := ⟨h4_⟩
    have n5_ : Aside0 (w42.heap[gb121]? = some (.cells #[.int .i64 0, .slice none 0 0] 43 (0, 0))) := ⟨h5_⟩
    have n6_ : Aside0 (w.heap.size ≤ gb121) := ⟨h6_⟩
    have n7_ : Aside0 (w.heap.size ≤ gb121) := ⟨h7_⟩
    have n8_ : Aside0 (gb101 ≠ gb121) := ⟨h8_⟩
    have n9_ : Aside0 (gb121 ≠ gb101) := ⟨h9_⟩
    have n10_ : Aside0 (gb102 ≠ gb121) := ⟨h10_⟩
    have n11_ : Aside0 (gb121 ≠ gb102) := ⟨h11_⟩
    have n12_ : Aside0 (Below w.heap.size w w42) := ⟨h12_⟩
    clear BK101
    clear BK102
    clear HB
    clear h0_ h1_ h2_ h3_ h4_ h5_ h6_ h7_ h8_ h9_ h10_ h11_ h12_
    have HO110 := n0_
    have HO115 := n1_
    have HO119 := n2_
    have BK101 := n3_
    have BK102 := n4_
    have BK121 := n5_
    have GW121 := n6_
    have GE121 := n7_
    have NB101_121 := n8_
    have NB121_101 := n9_
    have NB102_121 := n10_
    have NB121_102 := n11_
    have HB := n12_
    clear n0_ n1_ n2_ n3_ n4_ n5_ n6_ n7_ n8_ n9_ n10_ n11_ n12_
    have hHeld : w42.cell? ⟨gb101, 0, none⟩ = some (.int .i64 a0_0) ∧ w42.cell? ⟨gb101, 1, none⟩ = some (.int .i64 a0_1) ∧ w42.cell? ⟨gb101, 2, none⟩ = some (.slice A0_2 l0_2.length c0_2) ∧ w42.cell? ⟨gb102, 0, none⟩ = some (.int .i64 a1_0) ∧ w42.cell? ⟨gb102, 1, none⟩ = some (.int .i64 a1_1) ∧ w42.cell? ⟨gb102, 2, none⟩ = some (.slice A1_2 l1_2.length c1_2) := hS_
    obtain ⟨Ao44, co44, eo44⟩ := Kd.R_slice HO119.out
    (first | subst eo44 | (injection eo44 with f1_ f2_ f3_; have f4_ := f1_.symm; have f5_ := f3_.symm; clear f1_ f2_ f3_; subst f4_; subst f5_))
    refine norm_ (a' := ?_) ?_ ?_
    rotate_left
    ·simp only [putAll, Act.put, u1, u2, u3]
     rfl
    refine one_ (i := 9) (N := none) (bA 11 1023) rfl rfl (one_of HT_.out (by kernel_rfl)) (by decide) (fun K hK => ?_)
    have hs43 : w42.cell? ⟨gb121, 0, none⟩ = some (.int .i64 0) := bc BK121.out 0
    have hfs43 := blk_frozen BK121.out 0
    have hns43_0 := NB101_121.out
    have hns43_1 := NB102_121.out
    have hms43_0 := NB121_101.out
    have hms43_1 := NB121_102.out
    have hs45 : w42.cell? ⟨gb121, 1, none⟩ = some (.slice none 0 0) := bc BK121.out 1
    have hfs45 := blk_frozen BK121.out 1
    have hns45_0 := NB101_121.out
    have hns45_1 := NB102_121.out
    have hms45_0 := NB121_101.out
    have hms45_1 := NB121_102.out
    refine skip_ (w1 := ?_) (by rfl) rfl ?_ ?_
    rotate_left
    ·go_simp
     rfl
    refine hK.out _ _ ⟨((cell_far (p := ⟨gb121, _, none⟩) NB101_121.out _).trans (((cell_far (p := ⟨gb121, _, none⟩) NB101_121.out _).trans (hHeld.1)))), ((cell_far (p := ⟨gb121, _, none⟩) NB101_121.out _).trans (((cell_far (p := ⟨gb121, _, none⟩) NB101_121.out _).trans (hHeld.2.1)))), ((cell_far (p := ⟨gb121, _, none⟩) NB101_121.out _).trans (((cell_far (p := ⟨gb121, _, none⟩) NB101_121.out _).trans (hHeld.2.2.1)))), ((cell_far (p := ⟨gb121, _, none⟩) NB102_121.out _).trans (((cell_far (p := ⟨gb121, _, none⟩) NB102_121.out _).trans (hHeld.2.2.2.1)))), ((cell_far (p := ⟨gb121, _, none⟩) NB102_121.out _).trans (((cell_far (p := ⟨gb121, _, none⟩) NB102_121.out _).trans (hHeld.2.2.2.2.1)))), ((cell_far (p := ⟨gb121, _, none⟩) NB102_121.out _).trans (((cell_far (p := ⟨gb121, _, none⟩) NB102_121.out _).trans (hHeld.2.2.2.2.2))))⟩ (fun hHeld => ?_)
    clear hK K
    apply pu (i := 10) (N := some 8) (bA 11 2047) rfl rfl (any_of HT_.out (by kernel_rfl)) (fun _ _ _ h => h) rfl
    ·intro w'; go_simp; with_reducible rfl
    ·simp only [Act.put, u1, u2, u3, i64_w, i32_w]; rfl
    refine done_ (done_of HT_.out (by kernel_rfl)) ?_
    try go_wp2
    have n0_ : Aside0 (Kd.R k104 104 ((w42.setCell ⟨gb121, 0, none⟩ (.int .i64 t116)).setCell ⟨gb121, 1, none⟩ (.slice Ao44 t117.length co44)) w.heap.size (fun k_ => some k_ ≠ (v114 : Value).ownBlock ∧ some k_ ≠ (.slice Ao44 t117.length co44 : Value).ownBlock) v109 t108) := ⟨rS (Kd.R_mono (Kd.R_far (p := ⟨gb121, 1, none⟩) (Kd.R_far (p := ⟨gb121, 0, none⟩) (Kd.R_types HO110.out BK121.out (by decide)) (fun _ hk => hk.2) (.int .i64 t116)) (fun _ hk => hk.2) (.slice Ao44 t117.length co44)) (fun _ hk => ⟨hk.1.1, hk.1.2⟩))⟩
    have n1_ : Aside0 (Kd.R k104 104 ((w42.setCell ⟨gb121, 0, none⟩ (.int .i64 t116)).setCell ⟨gb121, 1, none⟩ (.slice Ao44 t117.length co44)) w.heap.size (fun k_ => some k_ ≠ (v109 : Value).ownBlock ∧ some k_ ≠ (.slice Ao44 t117.length co44 : Value).ownBlock) v114 t113) := ⟨rS (Kd.R_mono (Kd.R_far (p := ⟨gb121, 1, none⟩) (Kd.R_far (p := ⟨gb121, 0, none⟩) (Kd.R_types HO115.out BK121.out (by decide)) (fun _ hk => hk.2) (.int .i64 t116)) (fun _ hk => hk.2) (.slice Ao44 t117.length co44)) (fun _ hk => ⟨hk.1.1, hk.1.2⟩))⟩
    have n2_ : Aside0 (Kd.R k104 104 ((w42.setCell ⟨gb121, 0, none⟩ (.int .i64 t116)).setCell ⟨gb121, 1, none⟩ (.slice Ao44 t117.length co44)) w.heap.size (fun k_ => some k_ ≠ (v109 : Value).ownBlock ∧ some k_ ≠ (v114 : Value).ownBlock) (.slice Ao44 t117.length co44) t117) := ⟨rS (Kd.R_mono (Kd.R_far (p := ⟨gb121, 1, none⟩) (Kd.R_far (p := ⟨gb121, 0, none⟩) (Kd.R_types HO119.out BK121.out (by decide)) (fun _ hk => hk.2) (.int .i64 t116)) (fun _ hk => hk.2) (.slice Ao44 t117.length co44)) (fun _ hk => ⟨hk.1.1, hk.1.2⟩))⟩
    have n3_ : Aside0 (((w42.setCell ⟨gb121, 0, none⟩ (.int .i64 t116)).setCell ⟨gb121, 1, none⟩ (.slice Ao44 t117.length co44)).heap[gb101]? = some (.cells #[.int .i64 a0_0, .int .i64 a0_1, .slice A0_2 l0_2.length c0_2] 39 (0, 0))) := ⟨by (with_reducible repeat (first | refine blk_drewN ?_ _ | refine blk_drew ?_ | refine blk_alloc ?_ _)); refine blk_far ?_ NB101_121.out _; (with_reducible repeat (first | refine blk_drewN ?_ _ | refine blk_drew ?_ | refine blk_alloc ?_ _)); refine blk_far ?_ NB101_121.out _; (with_reducible repeat (first | refine blk_drewN ?_ _ | refine blk_drew ?_ | refine blk_alloc ?_ _)); exact BK101.out⟩
    have n4_ : Aside0 (((w42.setCell ⟨gb121, 0, none⟩ (.int .i64 t116)).setCell ⟨gb121, 1, none⟩ (.slice Ao44 t117.length co44)).heap[gb102]? = some (.cells #[.int .i64 a1_0, .int .i64 a1_1, .slice A1_2 l1_2.length c1_2] 39 (0, 0))) := ⟨by (with_reducible repeat (first | refine blk_drewN ?_ _ | refine blk_drew ?_ | refine blk_alloc ?_ _)); refine blk_far ?_ NB102_121.out _; (with_reducible repeat (first | refine blk_drewN ?_ _ | refine blk_drew ?_ | refine blk_alloc ?_ _)); refine blk_far ?_ NB102_121.out _; (with_reducible repeat (first | refine blk_drewN ?_ _ | refine blk_drew ?_ | refine blk_alloc ?_ _)); exact BK102.out⟩
    have n5_ : Aside0 (((w42.setCell ⟨gb121, 0, none⟩ (.int .i64 t116)).setCell ⟨gb121, 1, none⟩ (.slice Ao44 t117.length co44)).heap[gb121]? = some (.cells #[.int .i64 t116, .slice Ao44 t117.length co44] 43 (0, 0))) := ⟨by (with_reducible repeat (first | refine blk_drewN ?_ _ | refine blk_drew ?_ | refine blk_alloc ?_ _)); refine blk_put (cs := #[.int .i64 t116, .slice none 0 0]) ?_ 1 _ rfl; (with_reducible repeat (first | refine blk_drewN ?_ _ | refine blk_drew ?_ | refine blk_alloc ?_ _)); refine blk_put (cs := #[.int .i64 0, .slice none 0 0]) ?_ 0 _ rfl; (with_reducible repeat (first | refine blk_drewN ?_ _ | refine blk_drew ?_ | refine blk_alloc ?_ _)); exact BK121.out⟩
    have n6_ : Aside0 (Below w.heap.size w ((w42.setCell ⟨gb121, 0, none⟩ (.int .i64 t116)).setCell ⟨gb121, 1, none⟩ (.slice Ao44 t117.length co44))) := ⟨by repeat (first | (with_reducible first | exact HB.out | apply below_alloc | apply pw_below_drewN | apply below_drew1 | refine below_set ?_ GE101.out | refine below_set ?_ GE102.out | refine below_set ?_ GE121.out) | exact HB.out)⟩
    (try clear HO110)
    (try clear HO115)
    (try clear HO119)
    (try clear BK101)
    (try clear BK102)
    (try clear BK121)
    (try clear HB)
    generalize ((w42.setCell ⟨gb121, 0, none⟩ (.int .i64 t116)).setCell ⟨gb121, 1, none⟩ (.slice Ao44 t117.length co44)) = w46 at n0_ n1_ n2_ n3_ n4_ n5_ n6_ ⊢
    have HO110 := n0_
    have HO115 := n1_
    have HO119 := n2_
    have BK101 := n3_
    have BK102 := n4_
    have BK121 := n5_
    have HB := n6_
    clear n0_ n1_ n2_ n3_ n4_ n5_ n6_
    replace HO110 := A0 (Kd.R_drew HO110.out)
    replace HO115 := A0 (Kd.R_drew HO115.out)
    replace HO119 := A0 (Kd.R_drew HO119.out)
    replace BK101 := A0 (blk_drew BK101.out)
    replace BK102 := A0 (blk_drew BK102.out)
    replace BK121 := A0 (blk_drew BK121.out)
    replace HB := A0 (below_drew1 HB.out)
    refine start_ (n := 11) (S := fun w' => w'.cell? ⟨gb102, 0, none⟩ = some (.int .i64 a1_0) ∧ w'.cell? ⟨gb102, 1, none⟩ = some (.int .i64 a1_1) ∧ w'.cell? ⟨gb102, 2, none⟩ = some (.slice A1_2 l1_2.length c1_2) ∧ w'.cell? ⟨gb101, 0, none⟩ = some (.int .i64 a0_0) ∧ w'.cell? ⟨gb101, 1, none⟩ = some (.int .i64 a0_1) ∧ w'.cell? ⟨gb101, 2, none⟩ = some (.slice A0_2 l0_2.length c0_2)) (ds := []) (bA 11 0) (by kernel_rfl) rfl rfl ⟨bc BK102.out 0, bc BK102.out 1, bc BK102.out 2, bc BK101.out 0, bc BK101.out 1, bc BK101.out 2⟩ (fun hHeld => ?_); refine with_tabW hatchwaylaw32_HelloAgrees.tab6 hatchwaylaw32_HelloAgrees.bits6 (fun HT_ HW_ => ?_)
    generalize w46.drew = w47 at HO110 HO115 HO119 BK101 BK102 BK121 HB hHeld ⊢
    apply tk (i := 0) (N := some 38) (bA 11 1) rfl rfl (take_ofW HT_.out HW_.out (by kernel_rfl)) (fun _ _ _ h => h) rfl hHeld
    ·rintro w' ⟨s0, s1, s2, s3, s4, s5⟩; go_simp; with_reducible rfl
    ·simp only [Act.put, u1, u2, u3, i64_w, i32_w]; rfl
    apply tk (i := 2) (N := some 40) (bA 11 5) rfl rfl (take_ofW HT_.out HW_.out (by kernel_rfl)) (fun _ _ _ h => h) rfl hHeld
    ·rintro w' ⟨s0, s1, s2, s3, s4, s5⟩; go_simp; with_reducible rfl
    ·simp only [Act.put, u1, u2, u3, i64_w, i32_w]; rfl
    refine join_ (σ := Value × Value × Value × Nat) 2 (bA 11 511) (fun s_ => [(39, .agg #[.int .i64 t122, .int .i64 t123, s_.1]), (41, .agg #[.int .i64 t127, .int .i64 t128, s_.2.1]), (42, .tuple #[.agg #[.int .i64 t132, s_.2.2.1], .int .i64 t136]), (9, .pointer (some ⟨s_.2.2.2, 0, none⟩)), (37, .tuple #[.agg #[.int .i64 t132, s_.2.2.1], .int .i64 t136]), (43, .agg #[.int .i64 t132, s_.2.2.1]), (44, .int .i64 t136)]) (fun s_ w' => (w'.cell? ⟨gb102, 0, none⟩ = some (.int .i64 a1_0) ∧ w'.cell? ⟨gb102, 1, none⟩ = some (.int .i64 a1_1) ∧ w'.cell? ⟨gb102, 2, none⟩ = some (.slice A1_2 l1_2.length c1_2) ∧ w'.cell? ⟨gb101, 0, none⟩ = some (.int .i64 a0_0) ∧ w'.cell? ⟨gb101, 1, none⟩ = some (.int .i64 a0_1) ∧ w'.cell? ⟨gb101, 2, none⟩ = some (.slice A0_2 l0_2.length c0_2)) ∧ (Kd.R k104 104 w' w.heap.size (fun k_ => some k_ ≠ (v114 : Value).ownBlock ∧ some k_ ≠ (.slice Ao44 t117.length co44 : Value).ownBlock ∧ some k_ ≠ (s_.1 : Value).ownBlock ∧ some k_ ≠ (s_.2.1 : Value).ownBlock ∧ some k_ ≠ (s_.2.2.1 : Value).ownBlock) v109 t108) ∧ (Kd.R k104 104 w' w.heap.size (fun k_ => some k_ ≠ (v109 : Value).ownBlock ∧ some k_ ≠ (.slice Ao44 t117.length co44 : Value).ownBlock ∧ some k_ ≠ (s_.1 : Value).ownBlock ∧ some k_ ≠ (s_.2.1 : Value).ownBlock ∧ some k_ ≠ (s_.2.2.1 : Value).ownBlock) v114 t113) ∧ (Kd.R k104 104 w' w.heap.size (fun k_ => some k_ ≠ (v109 : Value).ownBlock ∧ some k_ ≠ (v114 : Value).ownBlock ∧ some k_ ≠ (s_.1 : Value).ownBlock ∧ some k_ ≠ (s_.2.1 : Value).ownBlock ∧ some k_ ≠ (s_.2.2.1 : Value).ownBlock) (.slice Ao44 t117.length co44) t117) ∧ (Kd.R k104 104 w' w.heap.size (fun k_ => some k_ ≠ (v109 : Value).ownBlock ∧ some k_ ≠ (v114 : Value).ownBlock ∧ some k_ ≠ (.slice Ao44 t117.length co44 : Value).ownBlock ∧ some k_ ≠ (s_.2.1 : Value).ownBlock ∧ some k_ ≠ (s_.2.2.1 : Value).ownBlock) s_.1 t124) ∧ (Kd.R k104 104 w' w.heap.size (fun k_ => some k_ ≠ (v109 : Value).ownBlock ∧ some k_ ≠ (v114 : Value).ownBlock ∧ some k_ ≠ (.slice Ao44 t117.length co44 : Value).ownBlock ∧ some k_ ≠ (s_.1 : Value).ownBlock ∧ some k_ ≠ (s_.2.2.1 : Value).ownBlock) s_.2.1 t129) ∧ (Kd.R k104 104 w' w.heap.size (fun k_ => some k_ ≠ (v109 : Value).ownBlock ∧ some k_ ≠ (v114 : Value).ownBlock ∧ some k_ ≠ (.slice Ao44 t117.length co44 : Value).ownBlock ∧ some k_ ≠ (s_.1 : Value).ownBlock ∧ some k_ ≠ (s_.2.1 : Value).ownBlock) s_.2.2.1 t133) ∧ (w'.heap[gb101]? = some (.cells #[.int .i64 a0_0, .int .i64 a0_1, .slice A0_2 l0_2.length c0_2] 39 (0, 0))) ∧ (w'.heap[gb102]? = some (.cells #[.int .i64 a1_0, .int .i64 a1_1, .slice A1_2 l1_2.length c1_2] 39 (0, 0))) ∧ (w'.heap[gb121]? = some (.cells #[.int .i64 t116, .slice Ao44 t117.length co44] 43 (0, 0))) ∧ (w'.heap[s_.2.2.2]? = some (.cells #[.int .i64 0, .slice none 0 0] 43 (0, 0))) ∧ (w.heap.size ≤ s_.2.2.2) ∧ (w.heap.size ≤ s_.2.2.2) ∧ (gb101 ≠ s_.2.2.2) ∧ (s_.2.2.2 ≠ gb101) ∧ (gb102 ≠ s_.2.2.2) ∧ (s_.2.2.2 ≠ gb102) ∧ (gb121 ≠ s_.2.2.2) ∧ (s_.2.2.2 ≠ gb121) ∧ (Below w.heap.size w w')) ?_ ?_
    rotate_left
    ·intro hCont
     refine two_ (i := 1) (j := 8) (Ni := some 39) (Nj := some 9) (bA 11 7) (bA 11 261) rfl rfl rfl rfl (two_of HT_.out (by kernel_rfl)) (by decide) (by decide) (fun K hK => ?_) (fun K hK => ?_)
     ·skip
      refine goes_ Try.func28 (by kernel_rfl) rfl #[.agg #[.int .i64 a1_0, .int .i64 a1_1, .slice A1_2 l1_2.length c1_2]] (by rfl) rfl rfl (by (try simp only [List.map_toArray, List.map_cons, List.map_nil]); first | done | rfl | (simp only [List.length_drop, List.length_take]; rfl)) ?_
      with_reducible refine (hatchwaylaw32_Of.calls kj5 a1_0 a1_1 _ _ l1_2 t122 t123 t124 _ ?side1 ?side2 A31.out).mono ?_
      (case side1 => repeat (first | exact (Kd.C_below HR1_2.out HB.out) | (with_reducible refine Kd.C_alloc ?_ _) | (with_reducible refine Kd.C_drewN ?_ _) | (with_reducible refine Kd.C_drew ?_)))
      (case side2 => exact HC1_2.out)
      rintro e w48 ⟨v125, rfl, ho0, hb⟩
      refine ⟨_, rfl, ?_⟩
      have n0_ := A0 (Kd.R_elder' (rS HO110.out) (Kd.R_base ho0) hb)
      have n1_ := A0 (Kd.R_elder' (rS HO115.out) (Kd.R_base ho0) hb)
      have n2_ := A0 (Kd.R_elder' (rS HO119.out) (Kd.R_base ho0) hb)
      have n3_ := A0 (Kd.R_lower (Kd.R_new' (Kd.R_new' (Kd.R_new' ho0 (Kd.R_lt (rS HO110.out))) (Kd.R_lt (rS HO115.out))) (Kd.R_lt (rS HO119.out))) (below_size (lS HB.out)))
      have n4_ := A0 (blk_below (bS BK101.out) hb)
      have n5_ := A0 (blk_below (bS BK102.out) hb)
      have n6_ := A0 (blk_below (bS BK121.out) hb)
      have n7_ := A0 (below_step (lS HB.out) hb)
      clear HO110
      clear HO115
      clear HO119
      clear BK101
      clear BK102
      clear BK121
      clear HB
      have HO110 := n0_
      have HO115 := n1_
      have HO119 := n2_
      have HO126 := n3_
      have BK101 := n4_
      have BK102 := n5_
      have BK121 := n6_
      have HB := n7_
      clear n0_ n1_ n2_ n3_ n4_ n5_ n6_ n7_
      (try clear hb)
      (try clear hb2)
      (try clear hk)
      (try clear hi)
      (try clear ho0)
      refine hK.out _ _ ⟨bc BK102.out 0, bc BK102.out 1, bc BK102.out 2, bc BK101.out 0, bc BK101.out 1, bc BK101.out 2⟩ (fun hHeld => ?_)
      clear hK K
      refine norm_ (a' := ?_) ?_ ?_
      rotate_left
      ·show Act.put _ (some 39) _ = _
       simp only [Act.put, u1, u2, u3, i64_w, i32_w]
       rfl
      refine two_ (i := 3) (j := 8) (Ni := some 41) (Nj := some 9) (bA 11 15) (bA 11 263) rfl rfl rfl rfl (two_of HT_.out (by kernel_rfl)) (by decide) (by decide) (fun K hK => ?_) (fun K hK => ?_)
      ·skip
       refine goes_ Try.func28 (by kernel_rfl) rfl #[.agg #[.int .i64 a0_0, .int .i64 a0_1, .slice A0_2 l0_2.length c0_2]] (by rfl) rfl rfl (by (try simp only [List.map_toArray, List.map_cons, List.map_nil]); first | done | rfl | (simp only [List.length_drop, List.length_take]; rfl)) ?_
       with_reducible refine (hatchwaylaw32_Of.calls kj5 a0_0 a0_1 _ _ l0_2 t127 t128 t129 _ ?side1 ?side2 A32.out).mono ?_
       (case side1 => repeat (first | exact (Kd.C_below HR0_2.out HB.out) | (with_reducible refine Kd.C_alloc ?_ _) | (with_reducible refine Kd.C_drewN ?_ _) | (with_reducible refine Kd.C_drew ?_)))
       (case side2 => exact HC0_2.out)
       rintro e w49 ⟨v130, rfl, ho0, hb⟩
       refine ⟨_, rfl, ?_⟩
       have n0_ := A0 (Kd.R_elder' (rS HO110.out) (Kd.R_base ho0) hb)
       have n1_ := A0 (Kd.R_elder' (rS HO115.out) (Kd.R_base ho0) hb)
       have n2_ := A0 (Kd.R_elder' (rS HO119.out) (Kd.R_base ho0) hb)
       have n3_ := A0 (Kd.R_elder' (rS HO126.out) (Kd.R_base ho0) hb)
       have n4_ := A0 (Kd.R_lower (Kd.R_new' (Kd.R_new' (Kd.R_new' (Kd.R_new' ho0 (Kd.R_lt (rS HO110.out))) (Kd.R_lt (rS HO115.out))) (Kd.R_lt (rS HO119.out))) (Kd.R_lt (rS HO126.out))) (below_size (lS HB.out)))
       have n5_ := A0 (blk_below (bS BK101.out) hb)
       have n6_ := A0 (blk_below (bS BK102.out) hb)
       have n7_ := A0 (blk_below (bS BK121.out) hb)
       have n8_ := A0 (below_step (lS HB.out) hb)
       clear HO110
       clear HO115
       clear HO119
       clear HO126
       clear BK101
       clear BK102
       clear BK121
       clear HB
       have HO110 := n0_
       have HO115 := n1_
       have HO119 := n2_
       have HO126 := n3_
       have HO131 := n4_
       have BK101 := n5_
       have BK102 := n6_
       have BK121 := n7_
       have HB := n8_
       clear n0_ n1_ n2_ n3_ n4_ n5_ n6_ n7_ n8_
       (try clear hb)
       (try clear hb2)
       (try clear hk)
       (try clear hi)
       (try clear ho0)
       obtain ⟨Ao50, co50, eo50⟩ := Kd.R_slice HO126.out
       (first | subst eo50 | (injection eo50 with f1_ f2_ f3_; have f4_ := f1_.symm; have f5_ := f3_.symm; clear f1_ f2_ f3_; subst f4_; subst f5_))
       obtain ⟨Ao51, co51, eo51⟩ := Kd.R_slice HO131.out
       (first | subst eo51 | (injection eo51 with f1_ f2_ f3_; have f4_ := f1_.symm; have f5_ := f3_.symm; clear f1_ f2_ f3_; subst f4_; subst f5_))
       refine hK.out _ _ ⟨bc BK102.out 0, bc BK102.out 1, bc BK102.out 2, bc BK101.out 0, bc BK101.out 1, bc BK101.out 2⟩ (fun hHeld => ?_)
       clear hK K
       refine norm_ (a' := ?_) ?_ ?_
       rotate_left
       ·show Act.put _ (some 41) _ = _
        simp only [Act.put, u1, u2, u3, i64_w, i32_w]
        rfl
       refine two_ (i := 4) (j := 8) (Ni := some 42) (Nj := some 9) (bA 11 31) (bA 11 271) rfl rfl rfl rfl (two_of HT_.out (by kernel_rfl)) (by decide) (by decide) (fun K hK => ?_) (fun K hK => ?_)
       ·skip
        refine goes_ Try.func27 (by kernel_rfl) rfl #[.agg #[.int .i64 t122, .int .i64 t123, .slice Ao50 t124.length co50], .agg #[.int .i64 t127, .int .i64 t128, .slice Ao51 t129.length co51]] (by rfl) rfl rfl (by (try simp only [List.map_toArray, List.map_cons, List.map_nil]); first | done | rfl | (simp only [List.length_drop, List.length_take]; rfl)) ?_
        with_reducible refine (hello_Agree.calls kj5 t122 t123 _ _ t124 t127 t128 _ _ t129 t132 t133 t136 _ ?side1 ?side2 ?side3 ?side4 A33.out).mono ?_
        (case side1 => repeat (first | exact (Kd.R_reads' HO126.out).2.2 | (with_reducible refine Kd.C_alloc ?_ _) | (with_reducible refine Kd.C_drewN ?_ _) | (with_reducible refine Kd.C_drew ?_)))
        (case side2 => exact (Kd.R_reads' HO126.out).2.1)
        (case side3 => repeat (first | exact (Kd.R_reads' HO131.out).2.2 | (with_reducible refine Kd.C_alloc ?_ _) | (with_reducible refine Kd.C_drewN ?_ _) | (with_reducible refine Kd.C_drew ?_)))
        (case side4 => exact (Kd.R_reads' HO131.out).2.1)
        rintro e w52 ⟨v134, rfl, ho0, hb⟩
        refine ⟨_, rfl, ?_⟩
        have n0_ := A0 (Kd.R_elder' (rS HO110.out) (Kd.R_base ho0) hb)
        have n1_ := A0 (Kd.R_elder' (rS HO115.out) (Kd.R_base ho0) hb)
        have n2_ := A0 (Kd.R_elder' (rS HO119.out) (Kd.R_base ho0) hb)
        have n3_ := A0 (Kd.R_elder' (rS HO126.out) (Kd.R_base ho0) hb)
        have n4_ := A0 (Kd.R_elder' (rS HO131.out) (Kd.R_base ho0) hb)
        have n5_ := A0 (Kd.R_lower (Kd.R_new' (Kd.R_new' (Kd.R_new' (Kd.R_new' (Kd.R_new' ho0 (Kd.R_lt (rS HO110.out))) (Kd.R_lt (rS HO115.out))) (Kd.R_lt (rS HO119.out))) (Kd.R_lt (rS HO126.out))) (Kd.R_lt (rS HO131.out))) (below_size (lS HB.out)))
        have n6_ := A0 (blk_below (bS BK101.out) hb)
        have n7_ := A0 (blk_below (bS BK102.out) hb)
        have n8_ := A0 (blk_below (bS BK121.out) hb)
        have n9_ := A0 (below_step (lS HB.out) hb)
        clear HO110
        clear HO115
        clear HO119
        clear HO126
        clear HO131
        clear BK101
        clear BK102
        clear BK121
        clear HB
        have HO110 := n0_
        have HO115 := n1_
        have HO119 := n2_
        have HO126 := n3_
        have HO131 := n4_
        have HO135 := n5_
        have BK101 := n6_
        have BK102 := n7_
        have BK121 := n8_
        have HB := n9_
        clear n0_ n1_ n2_ n3_ n4_ n5_ n6_ n7_ n8_ n9_
        (try clear hb)
        (try clear hb2)
        (try clear hk)
        (try clear hi)
        (try clear ho0)
        refine hK.out _ _ ⟨bc BK102.out 0, bc BK102.out 1, bc BK102.out 2, bc BK101.out 0, bc BK101.out 1, bc BK101.out 2⟩ (fun hHeld => ?_)
        clear hK K
        refine norm_ (a' := ?_) ?_ ?_
        rotate_left
        ·show Act.put _ (some 42) _ = _
         simp only [Act.put, u1, u2, u3, i64_w, i32_w]
         rfl
        apply pu (i := 5) (N := some 37) (bA 11 63) rfl rfl (any_of HT_.out (by kernel_rfl)) (fun _ _ _ h => h) rfl
        ·intro w'; go_simp; with_reducible rfl
        ·simp only [Act.put, u1, u2, u3, i64_w, i32_w]; rfl
        apply pu (i := 6) (N := some 43) (bA 11 127) rfl rfl (any_of HT_.out (by kernel_rfl)) (fun _ _ _ h => h) rfl
        ·intro w'; go_simp; with_reducible rfl
        ·simp only [Act.put, u1, u2, u3, i64_w, i32_w]; rfl
        apply pu (i := 7) (N := some 44) (bA 11 255) rfl rfl (any_of HT_.out (by kernel_rfl)) (fun _ _ _ h => h) rfl
        ·intro w'; go_simp; with_reducible rfl
        ·simp only [Act.put, u1, u2, u3, i64_w, i32_w]; rfl
        refine one_ (i := 8) (N := some 9) (bA 11 511) rfl rfl (one_of HT_.out (by kernel_rfl)) (by decide) (fun K hK => ?_)
        refine box_step ?hg (N := 9) ?hd (cs := #[.int .i64 0, .slice none 0 0]) (t := 43) ?hr ?_; (case hd => rfl); (case hg => rfl); (case hr => first | (go_simp; done) | (go_simp; rfl))
        intro gb137 hg w53 hbox hb
        have n0_ := A0 (Kd.R_below (rS HO110.out) hb)
        have n1_ := A0 (Kd.R_below (rS HO115.out) hb)
        have n2_ := A0 (Kd.R_below (rS HO119.out) hb)
        have n3_ := A0 (Kd.R_below (rS HO126.out) hb)
        have n4_ := A0 (Kd.R_below (rS HO131.out) hb)
        have n5_ := A0 (Kd.R_below (rS HO135.out) hb)
        have n6_ := A0 (blk_below (bS BK101.out) hb)
        have n7_ := A0 (blk_below (bS BK102.out) hb)
        have n8_ := A0 (blk_below (bS BK121.out) hb)
        have n9_ := A0 (below_step (lS HB.out) hb)
        have n10_ := A0 (hbox)
        have n11_ := A0 ((by rw [hg]; exact (below_size (lS HB.out)) : w.heap.size ≤ gb137))
        have n12_ := A0 ((by rw [hg]; exact (below_size (lS HB.out)) : w.heap.size ≤ gb137))
        have n13_ := A0 ((by rw [hg]; exact Nat.ne_of_lt (blk_lt (g := gb101) (o := .cells #[.int .i64 a0_0, .int .i64 a0_1, .slice A0_2 l0_2.length c0_2] 39 (0, 0)) (bS BK101.out)) : gb101 ≠ gb137))
        have n14_ := A0 ((by rw [hg]; exact Nat.ne_of_gt (blk_lt (g := gb101) (o := .cells #[.int .i64 a0_0, .int .i64 a0_1, .slice A0_2 l0_2.length c0_2] 39 (0, 0)) (bS BK101.out)) : gb137 ≠ gb101))
        have n15_ := A0 ((by rw [hg]; exact Nat.ne_of_lt (blk_lt (g := gb102) (o := .cells #[.int .i64 a1_0, .int .i64 a1_1, .slice A1_2 l1_2.length c1_2] 39 (0, 0)) (bS BK102.out)) : gb102 ≠ gb137))
        have n16_ := A0 ((by rw [hg]; exact Nat.ne_of_gt (blk_lt (g := gb102) (o := .cells #[.int .i64 a1_0, .int .i64 a1_1, .slice A1_2 l1_2.length c1_2] 39 (0, 0)) (bS BK102.out)) : gb137 ≠ gb102))
        have n17_ := A0 ((by rw [hg]; exact Nat.ne_of_lt (blk_lt (g := gb121) (o := .cells #[.int .i64 t116, .slice Ao44 t117.length co44] 43 (0, 0)) (bS BK121.out)) : gb121 ≠ gb137))
        have n18_ := A0 ((by rw [hg]; exact Nat.ne_of_gt (blk_lt (g := gb121) (o := .cells #[.int .i64 t116, .slice Ao44 t117.length co44] 43 (0, 0)) (bS BK121.out)) : gb137 ≠ gb121))
        clear HO110
        clear HO115
        clear HO119
        clear HO126
        clear HO131
        clear HO135
        clear BK101
        clear BK102
        clear BK121
        clear HB
        have HO110 := n0_
        have HO115 := n1_
        have HO119 := n2_
        have HO126 := n3_
        have HO131 := n4_
        have HO135 := n5_
        have BK101 := n6_
        have BK102 := n7_
        have BK121 := n8_
        have HB := n9_
        have BK137 := n10_
        have GW137 := n11_
        have GE137 := n12_
        have NB101_137 := n13_
        have NB137_101 := n14_
        have NB102_137 := n15_
        have NB137_102 := n16_
        have NB121_137 := n17_
        have NB137_121 := n18_
        clear n0_ n1_ n2_ n3_ n4_ n5_ n6_ n7_ n8_ n9_ n10_ n11_ n12_ n13_ n14_ n15_ n16_ n17_ n18_
        clear hb hbox hg
        refine hK.out _ _ ⟨bc BK102.out 0, bc BK102.out 1, bc BK102.out 2, bc BK101.out 0, bc BK101.out 1, bc BK101.out 2⟩ (fun hHeld => ?_)
        clear hK K
        refine norm_ (a' := ?_) ?_ ?_
        rotate_left
        ·show Act.put _ (some 9) _ = _
         simp only [Act.put, u1, u2, u3, i64_w, i32_w]
         rfl
        exact norm_ (by simp only [putAll, Act.put, u1, u2, u3]) (hCont (.slice Ao50 t124.length co50, .slice Ao51 t129.length co51, v134, gb137) _ ⟨hHeld, (rS (Kd.R_mono HO110.out (fun _ hk => ⟨hk.1.1.1.1, ⟨hk.1.1.1.2, ⟨hk.1.1.2, ⟨hk.1.2, hk.2⟩⟩⟩⟩))), (rS (Kd.R_mono HO115.out (fun _ hk => ⟨hk.1.1.1.1, ⟨hk.1.1.1.2, ⟨hk.1.1.2, ⟨hk.1.2, hk.2⟩⟩⟩⟩))), (rS (Kd.R_mono HO119.out (fun _ hk => ⟨hk.1.1.1.1, ⟨hk.1.1.1.2, ⟨hk.1.1.2, ⟨hk.1.2, hk.2⟩⟩⟩⟩))), (rS (Kd.R_mono HO126.out (fun _ hk => ⟨hk.1.1.1.1.2, ⟨hk.1.1.1.2, ⟨hk.1.1.2, ⟨hk.1.2, hk.2⟩⟩⟩⟩))), (rS (Kd.R_mono HO131.out (fun _ hk => ⟨hk.1.1.1.1.2, ⟨hk.1.1.1.2, ⟨hk.1.1.2, ⟨hk.1.2, hk.2⟩⟩⟩⟩))), (rS (Kd.R_mono HO135.out (fun _ hk => ⟨hk.1.1.1.1.2, ⟨hk.1.1.1.2, ⟨hk.1.1.2, ⟨hk.1.2, hk.2⟩⟩⟩⟩))), (bS BK101.out), (bS BK102.out), (bS BK121.out), (bS BK137.out), GW137.out, GE137.out, NB101_137.out, NB137_101.out, NB102_137.out, NB137_102.out, NB121_137.out, NB137_121.out, (by repeat (first | (with_reducible first | exact HB.out | apply below_alloc | apply pw_below_drewN | apply below_drew1 | refine below_set ?_ GE101.out | refine below_set ?_ GE102.out | refine below_set ?_ GE121.out | refine below_set ?_ GE137.out) | exact HB.out))⟩)
       skip
       refine box_step ?hg (N := 9) ?hd (cs := #[.int .i64 0, .slice none 0 0]) (t := 43) ?hr ?_; (case hd => rfl); (case hg => rfl); (case hr => first | (go_simp; done) | (go_simp; rfl))
       intro gb137 hg w50 hbox hb
       have n0_ := A0 (Kd.R_below (rS HO110.out) hb)
       have n1_ := A0 (Kd.R_below (rS HO115.out) hb)
       have n2_ := A0 (Kd.R_below (rS HO119.out) hb)
       have n3_ := A0 (Kd.R_below (rS HO126.out) hb)
       have n4_ := A0 (Kd.R_below (rS HO131.out) hb)
       have n5_ := A0 (blk_below (bS BK101.out) hb)
       have n6_ := A0 (blk_below (bS BK102.out) hb)
       have n7_ := A0 (blk_below (bS BK121.out) hb)
       have n8_ := A0 (below_step (lS HB.out) hb)
       have n9_ := A0 (hbox)
       have n10_ := A0 ((by rw [hg]; exact (below_size (lS HB.out)) : w.heap.size ≤ gb137))
       have n11_ := A0 ((by rw [hg]; exact (below_size (lS HB.out)) : w.heap.size ≤ gb137))
       have n12_ := A0 ((by rw [hg]; exact Nat.ne_of_lt (blk_lt (g := gb101) (o := .cells #[.int .i64 a0_0, .int .i64 a0_1, .slice A0_2 l0_2.length c0_2] 39 (0, 0)) (bS BK101.out)) : gb101 ≠ gb137))
       have n13_ := A0 ((by rw [hg]; exact Nat.ne_of_gt (blk_lt (g := gb101) (o := .cells #[.int .i64 a0_0, .int .i64 a0_1, .slice A0_2 l0_2.length c0_2] 39 (0, 0)) (bS BK101.out)) : gb137 ≠ gb101))
       have n14_ := A0 ((by rw [hg]; exact Nat.ne_of_lt (blk_lt (g := gb102) (o := .cells #[.int .i64 a1_0, .int .i64 a1_1, .slice A1_2 l1_2.length c1_2] 39 (0, 0)) (bS BK102.out)) : gb102 ≠ gb137))
       have n15_ := A0 ((by rw [hg]; exact Nat.ne_of_gt (blk_lt (g := gb102) (o := .cells #[.int .i64 a1_0, .int .i64 a1_1, .slice A1_2 l1_2.length c1_2] 39 (0, 0)) (bS BK102.out)) : gb137 ≠ gb102))
       have n16_ := A0 ((by rw [hg]; exact Nat.ne_of_lt (blk_lt (g := gb121) (o := .cells #[.int .i64 t116, .slice Ao44 t117.length co44] 43 (0, 0)) (bS BK121.out)) : gb121 ≠ gb137))
       have n17_ := A0 ((by rw [hg]; exact Nat.ne_of_gt (blk_lt (g := gb121) (o := .cells #[.int .i64 t116, .slice Ao44 t117.length co44] 43 (0, 0)) (bS BK121.out)) : gb137 ≠ gb121))
       clear HO110
       clear HO115
       clear HO119
       clear HO126
       clear HO131
       clear BK101
       clear BK102
       clear BK121
       clear HB
       have HO110 := n0_
       have HO115 := n1_
       have HO119 := n2_
       have HO126 := n3_
       have HO131 := n4_
       have BK101 := n5_
       have BK102 := n6_
       have BK121 := n7_
       have HB := n8_
       have BK137 := n9_
       have GW137 := n10_
       have GE137 := n11_
       have NB101_137 := n12_
       have NB137_101 := n13_
       have NB102_137 := n14_
       have NB137_102 := n15_
       have NB121_137 := n16_
       have NB137_121 := n17_
       clear n0_ n1_ n2_ n3_ n4_ n5_ n6_ n7_ n8_ n9_ n10_ n11_ n12_ n13_ n14_ n15_ n16_ n17_
       clear hb hbox hg
       obtain ⟨Ao51, co51, eo51⟩ := Kd.R_slice HO126.out
       (first | subst eo51 | (injection eo51 with f1_ f2_ f3_; have f4_ := f1_.symm; have f5_ := f3_.symm; clear f1_ f2_ f3_; subst f4_; subst f5_))
       obtain ⟨Ao52, co52, eo52⟩ := Kd.R_slice HO131.out
       (first | subst eo52 | (injection eo52 with f1_ f2_ f3_; have f4_ := f1_.symm; have f5_ := f3_.symm; clear f1_ f2_ f3_; subst f4_; subst f5_))
       refine hK.out _ _ ⟨bc BK102.out 0, bc BK102.out 1, bc BK102.out 2, bc BK101.out 0, bc BK101.out 1, bc BK101.out 2⟩ (fun hHeld => ?_)
       clear hK K
       refine norm_ (a' := ?_) ?_ ?_
       rotate_left
       ·show Act.put _ (some 9) _ = _
        simp only [Act.put, u1, u2, u3, i64_w, i32_w]
        rfl
       refine one_ (i := 4) (N := some 42) (bA 11 287) rfl rfl (one_of HT_.out (by kernel_rfl)) (by decide) (fun K hK => ?_)
       refine goes_ Try.func27 (by kernel_rfl) rfl #[.agg #[.int .i64 t122, .int .i64 t123, .slice Ao51 t124.length co51], .agg #[.int .i64 t127, .int .i64 t128, .slice Ao52 t129.length co52]] (by rfl) rfl rfl (by (try simp only [List.map_toArray, List.map_cons, List.map_nil]); first | done | rfl | (simp only [List.length_drop, List.length_take]; rfl)) ?_
       with_reducible refine (hello_Agree.calls kj5 t122 t123 _ _ t124 t127 t128 _ _ t129 t132 t133 t136 _ ?side1 ?side2 ?side3 ?side4 A33.out).mono ?_
       (case side1 => repeat (first | exact (Kd.R_reads' HO126.out).2.2 | (with_reducible refine Kd.C_alloc ?_ _) | (with_reducible refine Kd.C_drewN ?_ _) | (with_reducible refine Kd.C_drew ?_)))
       (case side2 => exact (Kd.R_reads' HO126.out).2.1)
       (case side3 => repeat (first | exact (Kd.R_reads' HO131.out).2.2 | (with_reducible refine Kd.C_alloc ?_ _) | (with_reducible refine Kd.C_drewN ?_ _) | (with_reducible refine Kd.C_drew ?_)))
       (case side4 => exact (Kd.R_reads' HO131.out).2.1)
       rintro e w53 ⟨v134, rfl, ho0, hb⟩
       refine ⟨_, rfl, ?_⟩
       have n0_ := A0 (Kd.R_elder' (rS HO110.out) (Kd.R_base ho0) hb)
       have n1_ := A0 (Kd.R_elder' (rS HO115.out) (Kd.R_base ho0) hb)
       have n2_ := A0 (Kd.R_elder' (rS HO119.out) (Kd.R_base ho0) hb)
       have n3_ := A0 (Kd.R_elder' (rS HO126.out) (Kd.R_base ho0) hb)
       have n4_ := A0 (Kd.R_elder' (rS HO131.out) (Kd.R_base ho0) hb)
       have n5_ := A0 (Kd.R_lower (Kd.R_new' (Kd.R_new' (Kd.R_new' (Kd.R_new' (Kd.R_new' ho0 (Kd.R_lt (rS HO110.out))) (Kd.R_lt (rS HO115.out))) (Kd.R_lt (rS HO119.out))) (Kd.R_lt (rS HO126.out))) (Kd.R_lt (rS HO131.out))) (below_size (lS HB.out)))
       have n6_ := A0 (blk_below (bS BK101.out) hb)
       have n7_ := A0 (blk_below (bS BK102.out) hb)
       have n8_ := A0 (blk_below (bS BK121.out) hb)
       have n9_ := A0 (blk_below (bS BK137.out) hb)
       have n10_ := A0 (below_step (lS HB.out) hb)
       clear HO110
       clear HO115
       clear HO119
       clear HO126
       clear HO131
       clear BK101
       clear BK102
       clear BK121
       clear BK137
       clear HB
       have HO110 := n0_
       have HO115 := n1_
       have HO119 := n2_
       have HO126 := n3_
       have HO131 := n4_
       have HO135 := n5_
       have BK101 := n6_
       have BK102 := n7_
       have BK121 := n8_
       have BK137 := n9_
       have HB := n10_
       clear n0_ n1_ n2_ n3_ n4_ n5_ n6_ n7_ n8_ n9_ n10_
       (try clear hb)
       (try clear hb2)
       (try clear hk)
       (try clear hi)
       (try clear ho0)
       refine hK.out _ _ ⟨bc BK102.out 0, bc BK102.out 1, bc BK102.out 2, bc BK101.out 0, bc BK101.out 1, bc BK101.out 2⟩ (fun hHeld => ?_)
       clear hK K
       refine norm_ (a' := ?_) ?_ ?_
       rotate_left
       ·show Act.put _ (some 42) _ = _
        simp only [Act.put, u1, u2, u3, i64_w, i32_w]
        rfl
       apply pu (i := 5) (N := some 37) (bA 11 319) rfl rfl (any_of HT_.out (by kernel_rfl)) (fun _ _ _ h => h) rfl
       ·intro w'; go_simp; with_reducible rfl
       ·simp only [Act.put, u1, u2, u3, i64_w, i32_w]; rfl
       apply pu (i := 6) (N := some 43) (bA 11 383) rfl rfl (any_of HT_.out (by kernel_rfl)) (fun _ _ _ h => h) rfl
       ·intro w'; go_simp; with_reducible rfl
       ·simp only [Act.put, u1, u2, u3, i64_w, i32_w]; rfl
       apply pu (i := 7) (N := some 44) (bA 11 511) rfl rfl (any_of HT_.out (by kernel_rfl)) (fun _ _ _ h => h) rfl
       ·intro w'; go_simp; with_reducible rfl
       ·simp only [Act.put, u1, u2, u3, i64_w, i32_w]; rfl
       exact norm_ (by simp only [putAll, Act.put, u1, u2, u3]) (hCont (.slice Ao51 t124.length co51, .slice Ao52 t129.length co52, v134, gb137) _ ⟨hHeld, (rS (Kd.R_mono HO110.out (fun _ hk => ⟨hk.1.1.1.1, ⟨hk.1.1.1.2, ⟨hk.1.1.2, ⟨hk.1.2, hk.2⟩⟩⟩⟩))), (rS (Kd.R_mono HO115.out (fun _ hk => ⟨hk.1.1.1.1, ⟨hk.1.1.1.2, ⟨hk.1.1.2, ⟨hk.1.2, hk.2⟩⟩⟩⟩))), (rS (Kd.R_mono HO119.out (fun _ hk => ⟨hk.1.1.1.1, ⟨hk.1.1.1.2, ⟨hk.1.1.2, ⟨hk.1.2, hk.2⟩⟩⟩⟩))), (rS (Kd.R_mono HO126.out (fun _ hk => ⟨hk.1.1.1.1.2, ⟨hk.1.1.1.2, ⟨hk.1.1.2, ⟨hk.1.2, hk.2⟩⟩⟩⟩))), (rS (Kd.R_mono HO131.out (fun _ hk => ⟨hk.1.1.1.1.2, ⟨hk.1.1.1.2, ⟨hk.1.1.2, ⟨hk.1.2, hk.2⟩⟩⟩⟩))), (rS (Kd.R_mono HO135.out (fun _ hk => ⟨hk.1.1.1.1.2, ⟨hk.1.1.1.2, ⟨hk.1.1.2, ⟨hk.1.2, hk.2⟩⟩⟩⟩))), (bS BK101.out), (bS BK102.out), (bS BK121.out), (bS BK137.out), GW137.out, GE137.out, NB101_137.out, NB137_101.out, NB102_137.out, NB137_102.out, NB121_137.out, NB137_121.out, (by repeat (first | (with_reducible first | exact HB.out | apply below_alloc | apply pw_below_drewN | apply below_drew1 | refine below_set ?_ GE101.out | refine below_set ?_ GE102.out | refine below_set ?_ GE121.out | refine below_set ?_ GE137.out) | exact HB.out))⟩)
      skip
      refine box_step ?hg (N := 9) ?hd (cs := #[.int .i64 0, .slice none 0 0]) (t := 43) ?hr ?_; (case hd => rfl); (case hg => rfl); (case hr => first | (go_simp; done) | (go_simp; rfl))
      intro gb137 hg w49 hbox hb
      have n0_ := A0 (Kd.R_below (rS HO110.out) hb)
      have n1_ := A0 (Kd.R_below (rS HO115.out) hb)
      have n2_ := A0 (Kd.R_below (rS HO119.out) hb)
      have n3_ := A0 (Kd.R_below (rS HO126.out) hb)
      have n4_ := A0 (blk_below (bS BK101.out) hb)
      have n5_ := A0 (blk_below (bS BK102.out) hb)
      have n6_ := A0 (blk_below (bS BK121.out) hb)
      have n7_ := A0 (below_step (lS HB.out) hb)
      have n8_ := A0 (hbox)
      have n9_ := A0 ((by rw [hg]; exact (below_size (lS HB.out)) : w.heap.size ≤ gb137))
      have n10_ := A0 ((by rw [hg]; exact (below_size (lS HB.out)) : w.heap.size ≤ gb137))
      have n11_ := A0 ((by rw [hg]; exact Nat.ne_of_lt (blk_lt (g := gb101) (o := .cells #[.int .i64 a0_0, .int .i64 a0_1, .slice A0_2 l0_2.length c0_2] 39 (0, 0)) (bS BK101.out)) : gb101 ≠ gb137))
      have n12_ := A0 ((by rw [hg]; exact Nat.ne_of_gt (blk_lt (g := gb101) (o := .cells #[.int .i64 a0_0, .int .i64 a0_1, .slice A0_2 l0_2.length c0_2] 39 (0, 0)) (bS BK101.out)) : gb137 ≠ gb101))
      have n13_ := A0 ((by rw [hg]; exact Nat.ne_of_lt (blk_lt (g := gb102) (o := .cells #[.int .i64 a1_0, .int .i64 a1_1, .slice A1_2 l1_2.length c1_2] 39 (0, 0)) (bS BK102.out)) : gb102 ≠ gb137))
      have n14_ := A0 ((by rw [hg]; exact Nat.ne_of_gt (blk_lt (g := gb102) (o := .cells #[.int .i64 a1_0, .int .i64 a1_1, .slice A1_2 l1_2.length c1_2] 39 (0, 0)) (bS BK102.out)) : gb137 ≠ gb102))
      have n15_ := A0 ((by rw [hg]; exact Nat.ne_of_lt (blk_lt (g := gb121) (o := .cells #[.int .i64 t116, .slice Ao44 t117.length co44] 43 (0, 0)) (bS BK121.out)) : gb121 ≠ gb137))
      have n16_ := A0 ((by rw [hg]; exact Nat.ne_of_gt (blk_lt (g := gb121) (o := .cells #[.int .i64 t116, .slice Ao44 t117.length co44] 43 (0, 0)) (bS BK121.out)) : gb137 ≠ gb121))
      clear HO110
      clear HO115
      clear HO119
      clear HO126
      clear BK101
      clear BK102
      clear BK121
      clear HB
      have HO110 := n0_
      have HO115 := n1_
      have HO119 := n2_
      have HO126 := n3_
      have BK101 := n4_
      have BK102 := n5_
      have BK121 := n6_
      have HB := n7_
      have BK137 := n8_
      have GW137 := n9_
      have GE137 := n10_
      have NB101_137 := n11_
      have NB137_101 := n12_
      have NB102_137 := n13_
      have NB137_102 := n14_
      have NB121_137 := n15_
      have NB137_121 := n16_
      clear n0_ n1_ n2_ n3_ n4_ n5_ n6_ n7_ n8_ n9_ n10_ n11_ n12_ n13_ n14_ n15_ n16_
      clear hb hbox hg
      refine hK.out _ _ ⟨bc BK102.out 0, bc BK102.out 1, bc BK102.out 2, bc BK101.out 0, bc BK101.out 1, bc BK101.out 2⟩ (fun hHeld => ?_)
      clear hK K
      refine norm_ (a' := ?_) ?_ ?_
      rotate_left
      ·show Act.put _ (some 9) _ = _
       simp only [Act.put, u1, u2, u3, i64_w, i32_w]
       rfl
      refine one_ (i := 3) (N := some 41) (bA 11 271) rfl rfl (one_of HT_.out (by kernel_rfl)) (by decide) (fun K hK => ?_)
      refine goes_ Try.func28 (by kernel_rfl) rfl #[.agg #[.int .i64 a0_0, .int .i64 a0_1, .slice A0_2 l0_2.length c0_2]] (by rfl) rfl rfl (by (try simp only [List.map_toArray, List.map_cons, List.map_nil]); first | done | rfl | (simp only [List.length_drop, List.length_take]; rfl)) ?_
      with_reducible refine (hatchwaylaw32_Of.calls kj5 a0_0 a0_1 _ _ l0_2 t127 t128 t129 _ ?side1 ?side2 A32.out).mono ?_
      (case side1 => repeat (first | exact (Kd.C_below HR0_2.out HB.out) | (with_reducible refine Kd.C_alloc ?_ _) | (with_reducible refine Kd.C_drewN ?_ _) | (with_reducible refine Kd.C_drew ?_)))
      (case side2 => exact HC0_2.out)
      rintro e w50 ⟨v130, rfl, ho0, hb⟩
      refine ⟨_, rfl, ?_⟩
      have n0_ := A0 (Kd.R_elder' (rS HO110.out) (Kd.R_base ho0) hb)
      have n1_ := A0 (Kd.R_elder' (rS HO115.out) (Kd.R_base ho0) hb)
      have n2_ := A0 (Kd.R_elder' (rS HO119.out) (Kd.R_base ho0) hb)
      have n3_ := A0 (Kd.R_elder' (rS HO126.out) (Kd.R_base ho0) hb)
      have n4_ := A0 (Kd.R_lower (Kd.R_new' (Kd.R_new' (Kd.R_new' (Kd.R_new' ho0 (Kd.R_lt (rS HO110.out))) (Kd.R_lt (rS HO115.out))) (Kd.R_lt (rS HO119.out))) (Kd.R_lt (rS HO126.out))) (below_size (lS HB.out)))
      have n5_ := A0 (blk_below (bS BK101.out) hb)
      have n6_ := A0 (blk_below (bS BK102.out) hb)
      have n7_ := A0 (blk_below (bS BK121.out) hb)
      have n8_ := A0 (blk_below (bS BK137.out) hb)
      have n9_ := A0 (below_step (lS HB.out) hb)
      clear HO110
      clear HO115
      clear HO119
      clear HO126
      clear BK101
      clear BK102
      clear BK121
      clear BK137
      clear HB
      have HO110 := n0_
      have HO115 := n1_
      have HO119 := n2_
      have HO126 := n3_
      have HO131 := n4_
      have BK101 := n5_
      have BK102 := n6_
      have BK121 := n7_
      have BK137 := n8_
      have HB := n9_
      clear n0_ n1_ n2_ n3_ n4_ n5_ n6_ n7_ n8_ n9_
      (try clear hb)
      (try clear hb2)
      (try clear hk)
      (try clear hi)
      (try clear ho0)
      obtain ⟨Ao51, co51, eo51⟩ := Kd.R_slice HO126.out
      (first | subst eo51 | (injection eo51 with f1_ f2_ f3_; have f4_ := f1_.symm; have f5_ := f3_.symm; clear f1_ f2_ f3_; subst f4_; subst f5_))
      obtain ⟨Ao52, co52, eo52⟩ := Kd.R_slice HO131.out
      (first | subst eo52 | (injection eo52 with f1_ f2_ f3_; have f4_ := f1_.symm; have f5_ := f3_.symm; clear f1_ f2_ f3_; subst f4_; subst f5_))
      refine hK.out _ _ ⟨bc BK102.out 0, bc BK102.out 1, bc BK102.out 2, bc BK101.out 0, bc BK101.out 1, bc BK101.out 2⟩ (fun hHeld => ?_)
      clear hK K
      refine norm_ (a' := ?_) ?_ ?_
      rotate_left
      ·show Act.put _ (some 41) _ = _
       simp only [Act.put, u1, u2, u3, i64_w, i32_w]
       rfl
      refine one_ (i := 4) (N := some 42) (bA 11 287) rfl rfl (one_of HT_.out (by kernel_rfl)) (by decide) (fun K hK => ?_)
      refine goes_ Try.func27 (by kernel_rfl) rfl #[.agg #[.int .i64 t122, .int .i64 t123, .slice Ao51 t124.length co51], .agg #[.int .i64 t127, .int .i64 t128, .slice Ao52 t129.length co52]] (by rfl) rfl rfl (by (try simp only [List.map_toArray, List.map_cons, List.map_nil]); first | done | rfl | (simp only [List.length_drop, List.length_take]; rfl)) ?_
      with_reducible refine (hello_Agree.calls kj5 t122 t123 _ _ t124 t127 t128 _ _ t129 t132 t133 t136 _ ?side1 ?side2 ?side3 ?side4 A33.out).mono ?_
      (case side1 => repeat (first | exact (Kd.R_reads' HO126.out).2.2 | (with_reducible refine Kd.C_alloc ?_ _) | (with_reducible refine Kd.C_drewN ?_ _) | (with_reducible refine Kd.C_drew ?_)))
      (case side2 => exact (Kd.R_reads' HO126.out).2.1)
      (case side3 => repeat (first | exact (Kd.R_reads' HO131.out).2.2 | (with_reducible refine Kd.C_alloc ?_ _) | (with_reducible refine Kd.C_drewN ?_ _) | (with_reducible refine Kd.C_drew ?_)))
      (case side4 => exact (Kd.R_reads' HO131.out).2.1)
      rintro e w53 ⟨v134, rfl, ho0, hb⟩
      refine ⟨_, rfl, ?_⟩
      have n0_ := A0 (Kd.R_elder' (rS HO110.out) (Kd.R_base ho0) hb)
      have n1_ := A0 (Kd.R_elder' (rS HO115.out) (Kd.R_base ho0) hb)
      have n2_ := A0 (Kd.R_elder' (rS HO119.out) (Kd.R_base ho0) hb)
      have n3_ := A0 (Kd.R_elder' (rS HO126.out) (Kd.R_base ho0) hb)
      have n4_ := A0 (Kd.R_elder' (rS HO131.out) (Kd.R_base ho0) hb)
      have n5_ := A0 (Kd.R_lower (Kd.R_new' (Kd.R_new' (Kd.R_new' (Kd.R_new' (Kd.R_new' ho0 (Kd.R_lt (rS HO110.out))) (Kd.R_lt (rS HO115.out))) (Kd.R_lt (rS HO119.out))) (Kd.R_lt (rS HO126.out))) (Kd.R_lt (rS HO131.out))) (below_size (lS HB.out)))
      have n6_ := A0 (blk_below (bS BK101.out) hb)
      have n7_ := A0 (blk_below (bS BK102.out) hb)
      have n8_ := A0 (blk_below (bS BK121.out) hb)
      have n9_ := A0 (blk_below (bS BK137.out) hb)
      have n10_ := A0 (below_step (lS HB.out) hb)
      clear HO110
      clear HO115
      clear HO119
      clear HO126
      clear HO131
      clear BK101
      clear BK102
      clear BK121
      clear BK137
      clear HB
      have HO110 := n0_
      have HO115 := n1_
      have HO119 := n2_
      have HO126 := n3_
      have HO131 := n4_
      have HO135 := n5_
      have BK101 := n6_
      have BK102 := n7_
      have BK121 := n8_
      have BK137 := n9_
      have HB := n10_
      clear n0_ n1_ n2_ n3_ n4_ n5_ n6_ n7_ n8_ n9_ n10_
      (try clear hb)
      (try clear hb2)
      (try clear hk)
      (try clear hi)
      (try clear ho0)
      refine hK.out _ _ ⟨bc BK102.out 0, bc BK102.out 1, bc BK102.out 2, bc BK101.out 0, bc BK101.out 1, bc BK101.out 2⟩ (fun hHeld => ?_)
      clear hK K
      refine norm_ (a' := ?_) ?_ ?_
      rotate_left
      ·show Act.put _ (some 42) _ = _
       simp only [Act.put, u1, u2, u3, i64_w, i32_w]
       rfl
      apply pu (i := 5) (N := some 37) (bA 11 319) rfl rfl (any_of HT_.out (by kernel_rfl)) (fun _ _ _ h => h) rfl
      ·intro w'; go_simp; with_reducible rfl
      ·simp only [Act.put, u1, u2, u3, i64_w, i32_w]; rfl
      apply pu (i := 6) (N := some 43) (bA 11 383) rfl rfl (any_of HT_.out (by kernel_rfl)) (fun _ _ _ h => h) rfl
      ·intro w'; go_simp; with_reducible rfl
      ·simp only [Act.put, u1, u2, u3, i64_w, i32_w]; rfl
      apply pu (i := 7) (N := some 44) (bA 11 511) rfl rfl (any_of HT_.out (by kernel_rfl)) (fun _ _ _ h => h) rfl
      ·intro w'; go_simp; with_reducible rfl
      ·simp only [Act.put, u1, u2, u3, i64_w, i32_w]; rfl
      exact norm_ (by simp only [putAll, Act.put, u1, u2, u3]) (hCont (.slice Ao51 t124.length co51, .slice Ao52 t129.length co52, v134, gb137) _ ⟨hHeld, (rS (Kd.R_mono HO110.out (fun _ hk => ⟨hk.1.1.1.1, ⟨hk.1.1.1.2, ⟨hk.1.1.2, ⟨hk.1.2, hk.2⟩⟩⟩⟩))), (rS (Kd.R_mono HO115.out (fun _ hk => ⟨hk.1.1.1.1, ⟨hk.1.1.1.2, ⟨hk.1.1.2, ⟨hk.1.2, hk.2⟩⟩⟩⟩))), (rS (Kd.R_mono HO119.out (fun _ hk => ⟨hk.1.1.1.1, ⟨hk.1.1.1.2, ⟨hk.1.1.2, ⟨hk.1.2, hk.2⟩⟩⟩⟩))), (rS (Kd.R_mono HO126.out (fun _ hk => ⟨hk.1.1.1.1.2, ⟨hk.1.1.1.2, ⟨hk.1.1.2, ⟨hk.1.2, hk.2⟩⟩⟩⟩))), (rS (Kd.R_mono HO131.out (fun _ hk => ⟨hk.1.1.1.1.2, ⟨hk.1.1.1.2, ⟨hk.1.1.2, ⟨hk.1.2, hk.2⟩⟩⟩⟩))), (rS (Kd.R_mono HO135.out (fun _ hk => ⟨hk.1.1.1.1.2, ⟨hk.1.1.1.2, ⟨hk.1.1.2, ⟨hk.1.2, hk.2⟩⟩⟩⟩))), (bS BK101.out), (bS BK102.out), (bS BK121.out), (bS BK137.out), GW137.out, GE137.out, NB101_137.out, NB137_101.out, NB102_137.out, NB137_102.out, NB121_137.out, NB137_121.out, (by repeat (first | (with_reducible first | exact HB.out | apply below_alloc | apply pw_below_drewN | apply below_drew1 | refine below_set ?_ GE101.out | refine below_set ?_ GE102.out | refine below_set ?_ GE121.out | refine below_set ?_ GE137.out) | exact HB.out))⟩)
     skip
     refine box_step ?hg (N := 9) ?hd (cs := #[.int .i64 0, .slice none 0 0]) (t := 43) ?hr ?_; (case hd => rfl); (case hg => rfl); (case hr => first | (go_simp; done) | (go_simp; rfl))
     intro gb137 hg w48 hbox hb
     have n0_ := A0 (Kd.R_below (rS HO110.out) hb)
     have n1_ := A0 (Kd.R_below (rS HO115.out) hb)
     have n2_ := A0 (Kd.R_below (rS HO119.out) hb)
     have n3_ := A0 (blk_below (bS BK101.out) hb)
     have n4_ := A0 (blk_below (bS BK102.out) hb)
     have n5_ := A0 (blk_below (bS BK121.out) hb)
     have n6_ := A0 (below_step (lS HB.out) hb)
     have n7_ := A0 (hbox)
     have n8_ := A0 ((by rw [hg]; exact (below_size (lS HB.out)) : w.heap.size ≤ gb137))
     have n9_ := A0 ((by rw [hg]; exact (below_size (lS HB.out)) : w.heap.size ≤ gb137))
     have n10_ := A0 ((by rw [hg]; exact Nat.ne_of_lt (blk_lt (g := gb101) (o := .cells #[.int .i64 a0_0, .int .i64 a0_1, .slice A0_2 l0_2.length c0_2] 39 (0, 0)) (bS BK101.out)) : gb101 ≠ gb137))
     have n11_ := A0 ((by rw [hg]; exact Nat.ne_of_gt (blk_lt (g := gb101) (o := .cells #[.int .i64 a0_0, .int .i64 a0_1, .slice A0_2 l0_2.length c0_2] 39 (0, 0)) (bS BK101.out)) : gb137 ≠ gb101))
     have n12_ := A0 ((by rw [hg]; exact Nat.ne_of_lt (blk_lt (g := gb102) (o := .cells #[.int .i64 a1_0, .int .i64 a1_1, .slice A1_2 l1_2.length c1_2] 39 (0, 0)) (bS BK102.out)) : gb102 ≠ gb137))
     have n13_ := A0 ((by rw [hg]; exact Nat.ne_of_gt (blk_lt (g := gb102) (o := .cells #[.int .i64 a1_0, .int .i64 a1_1, .slice A1_2 l1_2.length c1_2] 39 (0, 0)) (bS BK102.out)) : gb137 ≠ gb102))
     have n14_ := A0 ((by rw [hg]; exact Nat.ne_of_lt (blk_lt (g := gb121) (o := .cells #[.int .i64 t116, .slice Ao44 t117.length co44] 43 (0, 0)) (bS BK121.out)) : gb121 ≠ gb137))
     have n15_ := A0 ((by rw [hg]; exact Nat.ne_of_gt (blk_lt (g := gb121) (o := .cells #[.int .i64 t116, .slice Ao44 t117.length co44] 43 (0, 0)) (bS BK121.out)) : gb137 ≠ gb121))
     clear HO110
     clear HO115
     clear HO119
     clear BK101
     clear BK102
     clear BK121
     clear HB
     have HO110 := n0_
     have HO115 := n1_
     have HO119 := n2_
     have BK101 := n3_
     have BK102 := n4_
     have BK121 := n5_
     have HB := n6_
     have BK137 := n7_
     have GW137 := n8_
     have GE137 := n9_
     have NB101_137 := n10_
     have NB137_101 := n11_
     have NB102_137 := n12_
     have NB137_102 := n13_
     have NB121_137 := n14_
     have NB137_121 := n15_
     clear n0_ n1_ n2_ n3_ n4_ n5_ n6_ n7_ n8_ n9_ n10_ n11_ n12_ n13_ n14_ n15_
     clear hb hbox hg
     refine hK.out _ _ ⟨bc BK102.out 0, bc BK102.out 1, bc BK102.out 2, bc BK101.out 0, bc BK101.out 1, bc BK101.out 2⟩ (fun hHeld => ?_)
     clear hK K
     refine norm_ (a' := ?_) ?_ ?_
     rotate_left
     ·show Act.put _ (some 9) _ = _
      simp only [Act.put, u1, u2, u3, i64_w, i32_w]
      rfl
     refine one_ (i := 1) (N := some 39) (bA 11 263) rfl rfl (one_of HT_.out (by kernel_rfl)) (by decide) (fun K hK => ?_)
     refine goes_ Try.func28 (by kernel_rfl) rfl #[.agg #[.int .i64 a1_0, .int .i64 a1_1, .slice A1_2 l1_2.length c1_2]] (by rfl) rfl rfl (by (try simp only [List.map_toArray, List.map_cons, List.map_nil]); first | done | rfl | (simp only [List.length_drop, List.length_take]; rfl)) ?_
     with_reducible refine (hatchwaylaw32_Of.calls kj5 a1_0 a1_1 _ _ l1_2 t122 t123 t124 _ ?side1 ?side2 A31.out).mono ?_
     (case side1 => repeat (first | exact (Kd.C_below HR1_2.out HB.out) | (with_reducible refine Kd.C_alloc ?_ _) | (with_reducible refine Kd.C_drewN ?_ _) | (with_reducible refine Kd.C_drew ?_)))
     (case side2 => exact HC1_2.out)
     rintro e w49 ⟨v125, rfl, ho0, hb⟩
     refine ⟨_, rfl, ?_⟩
     have n0_ := A0 (Kd.R_elder' (rS HO110.out) (Kd.R_base ho0) hb)
     have n1_ := A0 (Kd.R_elder' (rS HO115.out) (Kd.R_base ho0) hb)
     have n2_ := A0 (Kd.R_elder' (rS HO119.out) (Kd.R_base ho0) hb)
     have n3_ := A0 (Kd.R_lower (Kd.R_new' (Kd.R_new' (Kd.R_new' ho0 (Kd.R_lt (rS HO110.out))) (Kd.R_lt (rS HO115.out))) (Kd.R_lt (rS HO119.out))) (below_size (lS HB.out)))
     have n4_ := A0 (blk_below (bS BK101.out) hb)
     have n5_ := A0 (blk_below (bS BK102.out) hb)
     have n6_ := A0 (blk_below (bS BK121.out) hb)
     have n7_ := A0 (blk_below (bS BK137.out) hb)
     have n8_ := A0 (below_step (lS HB.out) hb)
     clear HO110
     clear HO115
     clear HO119
     clear BK101
     clear BK102
     clear BK121
     clear BK137
     clear HB
     have HO110 := n0_
     have HO115 := n1_
     have HO119 := n2_
     have HO126 := n3_
     have BK101 := n4_
     have BK102 := n5_
     have BK121 := n6_
     have BK137 := n7_
     have HB := n8_
     clear n0_ n1_ n2_ n3_ n4_ n5_ n6_ n7_ n8_
     (try clear hb)
     (try clear hb2)
     (try clear hk)
     (try clear hi)
     (try clear ho0)
     refine hK.out _ _ ⟨bc BK102.out 0, bc BK102.out 1, bc BK102.out 2, bc BK101.out 0, bc BK101.out 1, bc BK101.out 2⟩ (fun hHeld => ?_)
     clear hK K
     refine norm_ (a' := ?_) ?_ ?_
     rotate_left
     ·show Act.put _ (some 39) _ = _
      simp only [Act.put, u1, u2, u3, i64_w, i32_w]
      rfl
     refine one_ (i := 3) (N := some 41) (bA 11 271) rfl rfl (one_of HT_.out (by kernel_rfl)) (by decide) (fun K hK => ?_)
     refine goes_ Try.func28 (by kernel_rfl) rfl #[.agg #[.int .i64 a0_0, .int .i64 a0_1, .slice A0_2 l0_2.length c0_2]] (by rfl) rfl rfl (by (try simp only [List.map_toArray, List.map_cons, List.map_nil]); first | done | rfl | (simp only [List.length_drop, List.length_take]; rfl)) ?_
     with_reducible refine (hatchwaylaw32_Of.calls kj5 a0_0 a0_1 _ _ l0_2 t127 t128 t129 _ ?side1 ?side2 A32.out).mono ?_
     (case side1 => repeat (first | exact (Kd.C_below HR0_2.out HB.out) | (with_reducible refine Kd.C_alloc ?_ _) | (with_reducible refine Kd.C_drewN ?_ _) | (with_reducible refine Kd.C_drew ?_)))
     (case side2 => exact HC0_2.out)
     rintro e w50 ⟨v130, rfl, ho0, hb⟩
     refine ⟨_, rfl, ?_⟩
     have n0_ := A0 (Kd.R_elder' (rS HO110.out) (Kd.R_base ho0) hb)
     have n1_ := A0 (Kd.R_elder' (rS HO115.out) (Kd.R_base ho0) hb)
     have n2_ := A0 (Kd.R_elder' (rS HO119.out) (Kd.R_base ho0) hb)
     have n3_ := A0 (Kd.R_elder' (rS HO126.out) (Kd.R_base ho0) hb)
     have n4_ := A0 (Kd.R_lower (Kd.R_new' (Kd.R_new' (Kd.R_new' (Kd.R_new' ho0 (Kd.R_lt (rS HO110.out))) (Kd.R_lt (rS HO115.out))) (Kd.R_lt (rS HO119.out))) (Kd.R_lt (rS HO126.out))) (below_size (lS HB.out)))
     have n5_ := A0 (blk_below (bS BK101.out) hb)
     have n6_ := A0 (blk_below (bS BK102.out) hb)
     have n7_ := A0 (blk_below (bS BK121.out) hb)
     have n8_ := A0 (blk_below (bS BK137.out) hb)
     have n9_ := A0 (below_step (lS HB.out) hb)
     clear HO110
     clear HO115
     clear HO119
     clear HO126
     clear BK101
     clear BK102
     clear BK121
     clear BK137
     clear HB
     have HO110 := n0_
     have HO115 := n1_
     have HO119 := n2_
     have HO126 := n3_
     have HO131 := n4_
     have BK101 := n5_
     have BK102 := n6_
     have BK121 := n7_
     have BK137 := n8_
     have HB := n9_
     clear n0_ n1_ n2_ n3_ n4_ n5_ n6_ n7_ n8_ n9_
     (try clear hb)
     (try clear hb2)
     (try clear hk)
     (try clear hi)
     (try clear ho0)
     obtain ⟨Ao51, co51, eo51⟩ := Kd.R_slice HO126.out
     (first | subst eo51 | (injection eo51 with f1_ f2_ f3_; have f4_ := f1_.symm; have f5_ := f3_.symm; clear f1_ f2_ f3_; subst f4_; subst f5_))
     obtain ⟨Ao52, co52, eo52⟩ := Kd.R_slice HO131.out
     (first | subst eo52 | (injection eo52 with f1_ f2_ f3_; have f4_ := f1_.symm; have f5_ := f3_.symm; clear f1_ f2_ f3_; subst f4_; subst f5_))
     refine hK.out _ _ ⟨bc BK102.out 0, bc BK102.out 1, bc BK102.out 2, bc BK101.out 0, bc BK101.out 1, bc BK101.out 2⟩ (fun hHeld => ?_)
     clear hK K
     refine norm_ (a' := ?_) ?_ ?_
     rotate_left
     ·show Act.put _ (some 41) _ = _
      simp only [Act.put, u1, u2, u3, i64_w, i32_w]
      rfl
     refine one_ (i := 4) (N := some 42) (bA 11 287) rfl rfl (one_of HT_.out (by kernel_rfl)) (by decide) (fun K hK => ?_)
     refine goes_ Try.func27 (by kernel_rfl) rfl #[.agg #[.int .i64 t122, .int .i64 t123, .slice Ao51 t124.length co51], .agg #[.int .i64 t127, .int .i64 t128, .slice Ao52 t129.length co52]] (by rfl) rfl rfl (by (try simp only [List.map_toArray, List.map_cons, List.map_nil]); first | done | rfl | (simp only [List.length_drop, List.length_take]; rfl)) ?_
     with_reducible refine (hello_Agree.calls kj5 t122 t123 _ _ t124 t127 t128 _ _ t129 t132 t133 t136 _ ?side1 ?side2 ?side3 ?side4 A33.out).mono ?_
     (case side1 => repeat (first | exact (Kd.R_reads' HO126.out).2.2 | (with_reducible refine Kd.C_alloc ?_ _) | (with_reducible refine Kd.C_drewN ?_ _) | (with_reducible refine Kd.C_drew ?_)))
     (case side2 => exact (Kd.R_reads' HO126.out).2.1)
     (case side3 => repeat (first | exact (Kd.R_reads' HO131.out).2.2 | (with_reducible refine Kd.C_alloc ?_ _) | (with_reducible refine Kd.C_drewN ?_ _) | (with_reducible refine Kd.C_drew ?_)))
     (case side4 => exact (Kd.R_reads' HO131.out).2.1)
     rintro e w53 ⟨v134, rfl, ho0, hb⟩
     refine ⟨_, rfl, ?_⟩
     have n0_ := A0 (Kd.R_elder' (rS HO110.out) (Kd.R_base ho0) hb)
     have n1_ := A0 (Kd.R_elder' (rS HO115.out) (Kd.R_base ho0) hb)
     have n2_ := A0 (Kd.R_elder' (rS HO119.out) (Kd.R_base ho0) hb)
     have n3_ := A0 (Kd.R_elder' (rS HO126.out) (Kd.R_base ho0) hb)
     have n4_ := A0 (Kd.R_elder' (rS HO131.out) (Kd.R_base ho0) hb)
     have n5_ := A0 (Kd.R_lower (Kd.R_new' (Kd.R_new' (Kd.R_new' (Kd.R_new' (Kd.R_new' ho0 (Kd.R_lt (rS HO110.out))) (Kd.R_lt (rS HO115.out))) (Kd.R_lt (rS HO119.out))) (Kd.R_lt (rS HO126.out))) (Kd.R_lt (rS HO131.out))) (below_size (lS HB.out)))
     have n6_ := A0 (blk_below (bS BK101.out) hb)
     have n7_ := A0 (blk_below (bS BK102.out) hb)
     have n8_ := A0 (blk_below (bS BK121.out) hb)
     have n9_ := A0 (blk_below (bS BK137.out) hb)
     have n10_ := A0 (below_step (lS HB.out) hb)
     clear HO110
     clear HO115
     clear HO119
     clear HO126
     clear HO131
     clear BK101
     clear BK102
     clear BK121
     clear BK137
     clear HB
     have HO110 := n0_
     have HO115 := n1_
     have HO119 := n2_
     have HO126 := n3_
     have HO131 := n4_
     have HO135 := n5_
     have BK101 := n6_
     have BK102 := n7_
     have BK121 := n8_
     have BK137 := n9_
     have HB := n10_
     clear n0_ n1_ n2_ n3_ n4_ n5_ n6_ n7_ n8_ n9_ n10_
     (try clear hb)
     (try clear hb2)
     (try clear hk)
     (try clear hi)
     (try clear ho0)
     refine hK.out _ _ ⟨bc BK102.out 0, bc BK102.out 1, bc BK102.out 2, bc BK101.out 0, bc BK101.out 1, bc BK101.out 2⟩ (fun hHeld => ?_)
     clear hK K
     refine norm_ (a' := ?_) ?_ ?_
     rotate_left
     ·show Act.put _ (some 42) _ = _
      simp only [Act.put, u1, u2, u3, i64_w, i32_w]
      rfl
     apply pu (i := 5) (N := some 37) (bA 11 319) rfl rfl (any_of HT_.out (by kernel_rfl)) (fun _ _ _ h => h) rfl
     ·intro w'; go_simp; with_reducible rfl
     ·simp only [Act.put, u1, u2, u3, i64_w, i32_w]; rfl
     apply pu (i := 6) (N := some 43) (bA 11 383) rfl rfl (any_of HT_.out (by kernel_rfl)) (fun _ _ _ h => h) rfl
     ·intro w'; go_simp; with_reducible rfl
     ·simp only [Act.put, u1, u2, u3, i64_w, i32_w]; rfl
     apply pu (i := 7) (N := some 44) (bA 11 511) rfl rfl (any_of HT_.out (by kernel_rfl)) (fun _ _ _ h => h) rfl
     ·intro w'; go_simp; with_reducible rfl
     ·simp only [Act.put, u1, u2, u3, i64_w, i32_w]; rfl
     exact norm_ (by simp only [putAll, Act.put, u1, u2, u3]) (hCont (.slice Ao51 t124.length co51, .slice Ao52 t129.length co52, v134, gb137) _ ⟨hHeld, (rS (Kd.R_mono HO110.out (fun _ hk => ⟨hk.1.1.1.1, ⟨hk.1.1.1.2, ⟨hk.1.1.2, ⟨hk.1.2, hk.2⟩⟩⟩⟩))), (rS (Kd.R_mono HO115.out (fun _ hk => ⟨hk.1.1.1.1, ⟨hk.1.1.1.2, ⟨hk.1.1.2, ⟨hk.1.2, hk.2⟩⟩⟩⟩))), (rS (Kd.R_mono HO119.out (fun _ hk => ⟨hk.1.1.1.1, ⟨hk.1.1.1.2, ⟨hk.1.1.2, ⟨hk.1.2, hk.2⟩⟩⟩⟩))), (rS (Kd.R_mono HO126.out (fun _ hk => ⟨hk.1.1.1.1.2, ⟨hk.1.1.1.2, ⟨hk.1.1.2, ⟨hk.1.2, hk.2⟩⟩⟩⟩))), (rS (Kd.R_mono HO131.out (fun _ hk => ⟨hk.1.1.1.1.2, ⟨hk.1.1.1.2, ⟨hk.1.1.2, ⟨hk.1.2, hk.2⟩⟩⟩⟩))), (rS (Kd.R_mono HO135.out (fun _ hk => ⟨hk.1.1.1.1.2, ⟨hk.1.1.1.2, ⟨hk.1.1.2, ⟨hk.1.2, hk.2⟩⟩⟩⟩))), (bS BK101.out), (bS BK102.out), (bS BK121.out), (bS BK137.out), GW137.out, GE137.out, NB101_137.out, NB137_101.out, NB102_137.out, NB137_102.out, NB121_137.out, NB137_121.out, (by repeat (first | (with_reducible first | exact HB.out | apply below_alloc | apply pw_below_drewN | apply below_drew1 | refine below_set ?_ GE101.out | refine below_set ?_ GE102.out | refine below_set ?_ GE121.out | refine below_set ?_ GE137.out) | exact HB.out))⟩)
    rintro ⟨v125, v130, v134, gb137⟩ w54 ⟨hS_, h0_, h1_, h2_, h3_, h4_, h5_, h6_, h7_, h8_, h9_, h10_, h11_, h12_, h13_, h14_, h15_, h16_, h17_, h18_⟩
    have n0_ : Aside0 (Kd.R k104 104 w54 w.heap.size (fun k_ => some k_ ≠ (v114 : Value).ownBlock ∧ some k_ ≠ (.slice Ao44 t117.length co44 : Value).ownBlock ∧ some k_ ≠ (v125 : Value).ownBlock ∧ some k_ ≠ (v130 : Value).ownBlock ∧ some k_ ≠ (v134 : Value).ownBlock) v109 t108) := ⟨h0_⟩
    have n1_ : Aside0 (Kd.R k104 104 w54 w.heap.size (fun k_ => some k_ ≠ (v109 : Value).ownBlock ∧ some k_ ≠ (.slice Ao44 t117.length co44 : Value).ownBlock ∧ some k_ ≠ (v125 : Value).ownBlock ∧ some k_ ≠ (v130 : Value).ownBlock ∧ some k_ ≠ (v134 : Value).ownBlock) v114 t113) := ⟨h1_⟩
    have n2_ : Aside0 (Kd.R k104 104 w54 w.heap.size (fun k_ => some k_ ≠ (v109 : Value).ownBlock ∧ some k_ ≠ (v114 : Value).ownBlock ∧ some k_ ≠ (v125 : Value).ownBlock ∧ some k_ ≠ (v130 : Value).ownBlock ∧ some k_ ≠ (v134 : Value).ownBlock) (.slice Ao44 t117.length co44) t117) := ⟨h2_⟩
    have n3_ : Aside0 (Kd.R k104 104 w54 w.heap.size (fun k_ => some k_ ≠ (v109 : Value).ownBlock ∧ some k_ ≠ (v114 : Value).ownBlock ∧ some k_ ≠ (.slice Ao44 t117.length co44 : Value).ownBlock ∧ some k_ ≠ (v130 : Value).ownBlock ∧ some k_ ≠ (v134 : Value).ownBlock) v125 t124) := ⟨h3_⟩
    have n4_ : Aside0 (Kd.R k104 104 w54 w.heap.size (fun k_ => some k_ ≠ (v109 : Value).ownBlock ∧ some k_ ≠ (v114 : Value).ownBlock ∧ some k_ ≠ (.slice Ao44 t117.length co44 : Value).ownBlock ∧ some k_ ≠ (v125 : Value).ownBlock ∧ some k_ ≠ (v134 : Value).ownBlock) v130 t129) := ⟨h4_⟩
    have n5_ : Aside0 (Kd.R k104 104 w54 w.heap.size (fun k_ => some k_ ≠ (v109 : Value).ownBlock ∧ some k_ ≠ (v114 : Value).ownBlock ∧ some k_ ≠ (.slice Ao44 t117.length co44 : Value).ownBlock ∧ some k_ ≠ (v125 : Value).ownBlock ∧ some k_ ≠ (v130 : Value).ownBlock) v134 t133) := ⟨h5_⟩
    have n6_ : Aside0 (w54.heap[gb101]? = some (.cells #[.int .i64 a0_0, .int .i64 a0_1, .slice A0_2 l0_2.length c0_2] 39 (0, 0))) := ⟨h6_⟩
    have n7_ : Aside0 (w54.heap[gb102]? = some (.cells #[.int .i64 a1_0, .int .i64 a1_1, .slice A1_2 l1_2.length c1_2] 39 (0, 0))) := ⟨h7_⟩
    have n8_ : Aside0 (w54.heap[gb121]? = some (.cells #[.int .i64 t116, .slice Ao44 t117.length co44] 43 (0, 0))) := ⟨h8_⟩
    have n9_ : Aside0 (w54.heap[gb137]? = some (.cells #[.int .i64 0, .slice none 0 0] 43 (0, 0))) := ⟨h9_⟩
    have n10_ : Aside0 (w.heap.size ≤ gb137) := ⟨h10_⟩
    have n11_ : Aside0 (w.heap.size ≤ gb137) := ⟨h11_⟩
    have n12_ : Aside0 (gb101 ≠ gb137) := ⟨h12_⟩
    have n13_ : Aside0 (gb137 ≠ gb101) := ⟨h13_⟩
    have n14_ : Aside0 (gb102 ≠ gb137) := ⟨h14_⟩
    have n15_ : Aside0 (gb137 ≠ gb102) := ⟨h15_⟩
    have n16_ : Aside0 (gb121 ≠ gb137) := ⟨h16_⟩
    have n17_ : Aside0 (gb137 ≠ gb121) := ⟨h17_⟩
    have n18_ : Aside0 (Below w.heap.size w w54) := ⟨h18_⟩
    clear HO110
    clear HO115
    clear HO119
    clear BK101
    clear BK102
    clear BK121
    clear HB
    clear h0_ h1_ h2_ h3_ h4_ h5_ h6_ h7_ h8_ h9_ h10_ h11_ h12_ h13_ h14_ h15_ h16_ h17_ h18_
    have HO110 := n0_
    have HO115 := n1_
    have HO119 := n2_
    have HO126 := n3_
    have HO131 := n4_
    have HO135 := n5_
    have BK101 := n6_
    have BK102 := n7_
    have BK121 := n8_
    have BK137 := n9_
    have GW137 := n10_
    have GE137 := n11_
    have NB101_137 := n12_
    have NB137_101 := n13_
    have NB102_137 := n14_
    have NB137_102 := n15_
    have NB121_137 := n16_
    have NB137_121 := n17_
    have HB := n18_
    clear n0_ n1_ n2_ n3_ n4_ n5_ n6_ n7_ n8_ n9_ n10_ n11_ n12_ n13_ n14_ n15_ n16_ n17_ n18_
    have hHeld : w54.cell? ⟨gb102, 0, none⟩ = some (.int .i64 a1_0) ∧ w54.cell? ⟨gb102, 1, none⟩ = some (.int .i64 a1_1) ∧ w54.cell? ⟨gb102, 2, none⟩ = some (.slice A1_2 l1_2.length c1_2) ∧ w54.cell? ⟨gb101, 0, none⟩ = some (.int .i64 a0_0) ∧ w54.cell? ⟨gb101, 1, none⟩ = some (.int .i64 a0_1) ∧ w54.cell? ⟨gb101, 2, none⟩ = some (.slice A0_2 l0_2.length c0_2) := hS_
    obtain ⟨Ao56, co56, eo56⟩ := Kd.R_slice HO135.out
    (first | subst eo56 | (injection eo56 with f1_ f2_ f3_; have f4_ := f1_.symm; have f5_ := f3_.symm; clear f1_ f2_ f3_; subst f4_; subst f5_))
    refine norm_ (a' := ?_) ?_ ?_
    rotate_left
    ·simp only [putAll, Act.put, u1, u2, u3]
     rfl
    refine one_ (i := 9) (N := none) (bA 11 1023) rfl rfl (one_of HT_.out (by kernel_rfl)) (by decide) (fun K hK => ?_)
    have hs55 : w54.cell? ⟨gb137, 0, none⟩ = some (.int .i64 0) := bc BK137.out 0
    have hfs55 := blk_frozen BK137.out 0
    have hns55_0 := NB101_137.out
    have hns55_1 := NB102_137.out
    have hns55_2 := NB121_137.out
    have hms55_0 := NB137_101.out
    have hms55_1 := NB137_102.out
    have hms55_2 := NB137_121.out
    have hs57 : w54.cell? ⟨gb137, 1, none⟩ = some (.slice none 0 0) := bc BK137.out 1
    have hfs57 := blk_frozen BK137.out 1
    have hns57_0 := NB101_137.out
    have hns57_1 := NB102_137.out
    have hns57_2 := NB121_137.out
    have hms57_0 := NB137_101.out
    have hms57_1 := NB137_102.out
    have hms57_2 := NB137_121.out
    refine skip_ (w1 := ?_) (by rfl) rfl ?_ ?_
    rotate_left
    ·go_simp
     rfl
    refine hK.out _ _ ⟨((cell_far (p := ⟨gb137, _, none⟩) NB102_137.out _).trans (((cell_far (p := ⟨gb137, _, none⟩) NB102_137.out _).trans (hHeld.1)))), ((cell_far (p := ⟨gb137, _, none⟩) NB102_137.out _).trans (((cell_far (p := ⟨gb137, _, none⟩) NB102_137.out _).trans (hHeld.2.1)))), ((cell_far (p := ⟨gb137, _, none⟩) NB102_137.out _).trans (((cell_far (p := ⟨gb137, _, none⟩) NB102_137.out _).trans (hHeld.2.2.1)))), ((cell_far (p := ⟨gb137, _, none⟩) NB101_137.out _).trans (((cell_far (p := ⟨gb137, _, none⟩) NB101_137.out _).trans (hHeld.2.2.2.1)))), ((cell_far (p := ⟨gb137, _, none⟩) NB101_137.out _).trans (((cell_far (p := ⟨gb137, _, none⟩) NB101_137.out _).trans (hHeld.2.2.2.2.1)))), ((cell_far (p := ⟨gb137, _, none⟩) NB101_137.out _).trans (((cell_far (p := ⟨gb137, _, none⟩) NB101_137.out _).trans (hHeld.2.2.2.2.2))))⟩ (fun hHeld => ?_)
    clear hK K
    apply pu (i := 10) (N := some 10) (bA 11 2047) rfl rfl (any_of HT_.out (by kernel_rfl)) (fun _ _ _ h => h) rfl
    ·intro w'; go_simp; with_reducible rfl
    ·simp only [Act.put, u1, u2, u3, i64_w, i32_w]; rfl
    refine done_ (done_of HT_.out (by kernel_rfl)) ?_
    go_upto_region 7 with (fail)
    go_cut [64] (fun v64 wc => ∃ (kq : Nat) (x64_33 : Bool), v64 = .bool x64_33 ∧ Aside0 (hatchwaylaw32_HelloAgrees.j1 kq a2 t120 x64_33 a0_0 a0_1 l0_2 a1_0 a1_1 l1_2 t116 t117 = some r) ∧ Aside0 (kq ≤ kj5) ∧ Aside0 (Kd.R k104 104 wc w.heap.size (fun k_ => some k_ ≠ ((.slice Ao56 t133.length co56) : Value).ownBlock) (.slice Ao44 t117.length co44) t117) ∧ Aside0 (Kd.R k104 104 wc w.heap.size (fun k_ => some k_ ≠ ((.slice Ao44 t117.length co44) : Value).ownBlock) (.slice Ao56 t133.length co56) t133) ∧ Aside0 (wc.heap[gb101]? = some (.cells #[.int .i64 a0_0, .int .i64 a0_1, (.slice A0_2 l0_2.length c0_2)] 39 (0, 0))) ∧ Aside0 (wc.heap[gb102]? = some (.cells #[.int .i64 a1_0, .int .i64 a1_1, (.slice A1_2 l1_2.length c1_2)] 39 (0, 0))) ∧ Aside0 (wc.heap[gb121]? = some (.cells #[.int .i64 t116, (.slice Ao44 t117.length co44)] 43 (0, 0))) ∧ Aside0 (wc.heap[gb137]? = some (.cells #[.int .i64 t132, (.slice Ao56 t133.length co56)] 43 (0, 0))) ∧ Aside0 (Below w.heap.size w wc))
    case first =>
     have H := HC34.out
     clear HC34
     by_cases c58 : t120 = t136
     ·rw [if_pos c58] at H
      have c58b0 : (t120 == t136) = true := beq_iff_eq.mpr c58
      have c58b1 : (t120 != t136) = false := bne_eq_false_iff_eq.mpr c58
      clear c58
      (first | rw [c58b0] | (simp only [i64_w, i32_w]; rw [c58b0]) | skip)
      by_cases c59 : t116 = t132
      ·rw [if_pos c59] at H
       have c59b0 : (t116 == t132) = true := beq_iff_eq.mpr c59
       have c59b1 : (t116 != t132) = false := bne_eq_false_iff_eq.mpr c59
       clear c59
       replace H := Option.bind_eq_some_iff.mp H
       obtain ⟨t138, A600, H⟩ := H
       replace H : ((hatchwaylaw32_plain.f kj5 t133).bind fun t141 => ((hatchwayref32_Same.f kj5 t138 t141).bind fun t144 => (hatchwaylaw32_HelloAgrees.j1 kj5 a2 t120 (!t144) a0_0 a0_1 l0_2 a1_0 a1_1 l1_2 t116 t117))) = some r := H
       have A60 := A0 A600
       clear A600
       replace H := Option.bind_eq_some_iff.mp H
       obtain ⟨t141, A610, H⟩ := H
       replace H : ((hatchwayref32_Same.f kj5 t138 t141).bind fun t144 => (hatchwaylaw32_HelloAgrees.j1 kj5 a2 t120 (!t144) a0_0 a0_1 l0_2 a1_0 a1_1 l1_2 t116 t117)) = some r := H
       have A61 := A0 A610
       clear A610
       replace H := Option.bind_eq_some_iff.mp H
       obtain ⟨t144, A620, H⟩ := H
       replace H : (hatchwaylaw32_HelloAgrees.j1 kj5 a2 t120 (!t144) a0_0 a0_1 l0_2 a1_0 a1_1 l1_2 t116 t117) = some r := H
       have A62 := A0 A620
       clear A620
       have H' := A0 H
       clear H
       try go_wp2
       have n0_ : Aside0 (Kd.R k104 104 ((w54.setCell ⟨gb137, 0, none⟩ (.int .i64 t132)).setCell ⟨gb137, 1, none⟩ (.slice Ao56 t133.length co56)) w.heap.size (fun k_ => some k_ ≠ (v114 : Value).ownBlock ∧ some k_ ≠ (.slice Ao44 t117.length co44 : Value).ownBlock ∧ some k_ ≠ (v125 : Value).ownBlock ∧ some k_ ≠ (v130 : Value).ownBlock ∧ some k_ ≠ (.slice Ao56 t133.length co56 : Value).ownBlock) v109 t108) := ⟨rS (Kd.R_mono (Kd.R_far (p := ⟨gb137, 1, none⟩) (Kd.R_far (p := ⟨gb137, 0, none⟩) (Kd.R_types HO110.out BK137.out (by decide)) (fun _ hk => hk.2) (.int .i64 t132)) (fun _ hk => hk.2) (.slice Ao56 t133.length co56)) (fun _ hk => ⟨hk.1.1, ⟨hk.1.2.1, ⟨hk.1.2.2.1, ⟨hk.1.2.2.2.1, hk.1.2.2.2.2⟩⟩⟩⟩))⟩
       have n1_ : Aside0 (Kd.R k104 104 ((w54.setCell ⟨gb137, 0, none⟩ (.int .i64 t132)).setCell ⟨gb137, 1, none⟩ (.slice Ao56 t133.length co56)) w.heap.size (fun k_ => some k_ ≠ (v109 : Value).ownBlock ∧ some k_ ≠ (.slice Ao44 t117.length co44 : Value).ownBlock ∧ some k_ ≠ (v125 : Value).ownBlock ∧ some k_ ≠ (v130 : Value).ownBlock ∧ some k_ ≠ (.slice Ao56 t133.length co56 : Value).ownBlock) v114 t113) := ⟨rS (Kd.R_mono (Kd.R_far (p := ⟨gb137, 1, none⟩) (Kd.R_far (p := ⟨gb137, 0, none⟩) (Kd.R_types HO115.out BK137.out (by decide)) (fun _ hk => hk.2) (.int .i64 t132)) (fun _ hk => hk.2) (.slice Ao56 t133.length co56)) (fun _ hk => ⟨hk.1.1, ⟨hk.1.2.1, ⟨hk.1.2.2.1, ⟨hk.1.2.2.2.1, hk.1.2.2.2.2⟩⟩⟩⟩))⟩
       have n2_ : Aside0 (Kd.R k104 104 ((w54.setCell ⟨gb137, 0, none⟩ (.int .i64 t132)).setCell ⟨gb137, 1, none⟩ (.slice Ao56 t133.length co56)) w.heap.size (fun k_ => some k_ ≠ (v109 : Value).ownBlock ∧ some k_ ≠ (v114 : Value).ownBlock ∧ some k_ ≠ (v125 : Value).ownBlock ∧ some k_ ≠ (v130 : Value).ownBlock ∧ some k_ ≠ (.slice Ao56 t133.length co56 : Value).ownBlock) (.slice Ao44 t117.length co44) t117) := ⟨rS (Kd.R_mono (Kd.R_far (p := ⟨gb137, 1, none⟩) (Kd.R_far (p := ⟨gb137, 0, none⟩) (Kd.R_types HO119.out BK137.out (by decide)) (fun _ hk => hk.2) (.int .i64 t132)) (fun _ hk => hk.2) (.slice Ao56 t133.length co56)) (fun _ hk => ⟨hk.1.1, ⟨hk.1.2.1, ⟨hk.1.2.2.1, ⟨hk.1.2.2.2.1, hk.1.2.2.2.2⟩⟩⟩⟩))⟩
       have n3_ : Aside0 (Kd.R k104 104 ((w54.setCell ⟨gb137, 0, none⟩ (.int .i64 t132)).setCell ⟨gb137, 1, none⟩ (.slice Ao56 t133.length co56)) w.heap.size (fun k_ => some k_ ≠ (v109 : Value).ownBlock ∧ some k_ ≠ (v114 : Value).ownBlock ∧ some k_ ≠ (.slice Ao44 t117.length co44 : Value).ownBlock ∧ some k_ ≠ (v130 : Value).ownBlock ∧ some k_ ≠ (.slice Ao56 t133.length co56 : Value).ownBlock) v125 t124) := ⟨rS (Kd.R_mono (Kd.R_far (p := ⟨gb137, 1, none⟩) (Kd.R_far (p := ⟨gb137, 0, none⟩) (Kd.R_types HO126.out BK137.out (by decide)) (fun _ hk => hk.2) (.int .i64 t132)) (fun _ hk => hk.2) (.slice Ao56 t133.length co56)) (fun _ hk => ⟨hk.1.1, ⟨hk.1.2.1, ⟨hk.1.2.2.1, ⟨hk.1.2.2.2.1, hk.1.2.2.2.2⟩⟩⟩⟩))⟩
       have n4_ : Aside0 (Kd.R k104 104 ((w54.setCell ⟨gb137, 0, none⟩ (.int .i64 t132)).setCell ⟨gb137, 1, none⟩ (.slice Ao56 t133.length co56)) w.heap.size (fun k_ => some k_ ≠ (v109 : Value).ownBlock ∧ some k_ ≠ (v114 : Value).ownBlock ∧ some k_ ≠ (.slice Ao44 t117.length co44 : Value).ownBlock ∧ some k_ ≠ (v125 : Value).ownBlock ∧ some k_ ≠ (.slice Ao56 t133.length co56 : Value).ownBlock) v130 t129) := ⟨rS (Kd.R_mono (Kd.R_far (p := ⟨gb137, 1, none⟩) (Kd.R_far (p := ⟨gb137, 0, none⟩) (Kd.R_types HO131.out BK137.out (by decide)) (fun _ hk => hk.2) (.int .i64 t132)) (fun _ hk => hk.2) (.slice Ao56 t133.length co56)) (fun _ hk => ⟨hk.1.1, ⟨hk.1.2.1, ⟨hk.1.2.2.1, ⟨hk.1.2.2.2.1, hk.1.2.2.2.2⟩⟩⟩⟩))⟩
       have n5_ : Aside0 (Kd.R k104 104 ((w54.setCell ⟨gb137, 0, none⟩ (.int .i64 t132)).setCell ⟨gb137, 1, none⟩ (.slice Ao56 t133.length co56)) w.heap.size (fun k_ => some k_ ≠ (v109 : Value).ownBlock ∧ some k_ ≠ (v114 : Value).ownBlock ∧ some k_ ≠ (.slice Ao44 t117.length co44 : Value).ownBlock ∧ some k_ ≠ (v125 : Value).ownBlock ∧ some k_ ≠ (v130 : Value).ownBlock) (.slice Ao56 t133.length co56) t133) := ⟨rS (Kd.R_mono (Kd.R_far (p := ⟨gb137, 1, none⟩) (Kd.R_far (p := ⟨gb137, 0, none⟩) (Kd.R_types HO135.out BK137.out (by decide)) (fun _ hk => hk.2) (.int .i64 t132)) (fun _ hk => hk.2) (.slice Ao56 t133.length co56)) (fun _ hk => ⟨hk.1.1, ⟨hk.1.2.1, ⟨hk.1.2.2.1, ⟨hk.1.2.2.2.1, hk.1.2.2.2.2⟩⟩⟩⟩))⟩
       have n6_ : Aside0 (((w54.setCell ⟨gb137, 0, none⟩ (.int .i64 t132)).setCell ⟨gb137, 1, none⟩ (.slice Ao56 t133.length co56)).heap[gb101]? = some (.cells #[.int .i64 a0_0, .int .i64 a0_1, .slice A0_2 l0_2.length c0_2] 39 (0, 0))) := ⟨by (with_reducible repeat (first | refine blk_drewN ?_ _ | refine blk_drew ?_ | refine blk_alloc ?_ _)); refine blk_far ?_ NB101_137.out _; (with_reducible repeat (first | refine blk_drewN ?_ _ | refine blk_drew ?_ | refine blk_alloc ?_ _)); refine blk_far ?_ NB101_137.out _; (with_reducible repeat (first | refine blk_drewN ?_ _ | refine blk_drew ?_ | refine blk_alloc ?_ _)); exact BK101.out⟩
       have n7_ : Aside0 (((w54.setCell ⟨gb137, 0, none⟩ (.int .i64 t132)).setCell ⟨gb137, 1, none⟩ (.slice Ao56 t133.length co56)).heap[gb102]? = some (.cells #[.int .i64 a1_0, .int .i64 a1_1, .slice A1_2 l1_2.length c1_2] 39 (0, 0))) := ⟨by (with_reducible repeat (first | refine blk_drewN ?_ _ | refine blk_drew ?_ | refine blk_alloc ?_ _)); refine blk_far ?_ NB102_137.out _; (with_reducible repeat (first | refine blk_drewN ?_ _ | refine blk_drew ?_ | refine blk_alloc ?_ _)); refine blk_far ?_ NB102_137.out _; (with_reducible repeat (first | refine blk_drewN ?_ _ | refine blk_drew ?_ | refine blk_alloc ?_ _)); exact BK102.out⟩
       have n8_ : Aside0 (((w54.setCell ⟨gb137, 0, none⟩ (.int .i64 t132)).setCell ⟨gb137, 1, none⟩ (.slice Ao56 t133.length co56)).heap[gb121]? = some (.cells #[.int .i64 t116, .slice Ao44 t117.length co44] 43 (0, 0))) := ⟨by (with_reducible repeat (first | refine blk_drewN ?_ _ | refine blk_drew ?_ | refine blk_alloc ?_ _)); refine blk_far ?_ NB121_137.out _; (with_reducible repeat (first | refine blk_drewN ?_ _ | refine blk_drew ?_ | refine blk_alloc ?_ _)); refine blk_far ?_ NB121_137.out _; (with_reducible repeat (first | refine blk_drewN ?_ _ | refine blk_drew ?_ | refine blk_alloc ?_ _)); exact BK121.out⟩
       have n9_ : Aside0 (((w54.setCell ⟨gb137, 0, none⟩ (.int .i64 t132)).setCell ⟨gb137, 1, none⟩ (.slice Ao56 t133.length co56)).heap[gb137]? = some (.cells #[.int .i64 t132, .slice Ao56 t133.length co56] 43 (0, 0))) := ⟨by (with_reducible repeat (first | refine blk_drewN ?_ _ | refine blk_drew ?_ | refine blk_alloc ?_ _)); refine blk_put (cs := #[.int .i64 t132, .slice none 0 0]) ?_ 1 _ rfl; (with_reducible repeat (first | refine blk_drewN ?_ _ | refine blk_drew ?_ | refine blk_alloc ?_ _)); refine blk_put (cs := #[.int .i64 0, .slice none 0 0]) ?_ 0 _ rfl; (with_reducible repeat (first | refine blk_drewN ?_ _ | refine blk_drew ?_ | refine blk_alloc ?_ _)); exact BK137.out⟩
       have n10_ : Aside0 (Below w.heap.size w ((w54.setCell ⟨gb137, 0, none⟩ (.int .i64 t132)).setCell ⟨gb137, 1, none⟩ (.slice Ao56 t133.length co56))) := ⟨by repeat (first | (with_reducible first | exact HB.out | apply below_alloc | apply pw_below_drewN | apply below_drew1 | refine below_set ?_ GE101.out | refine below_set ?_ GE102.out | refine below_set ?_ GE121.out | refine below_set ?_ GE137.out) | exact HB.out)⟩
       (try clear HO110)
       (try clear HO115)
       (try clear HO119)
       (try clear HO126)
       (try clear HO131)
       (try clear HO135)
       (try clear BK101)
       (try clear BK102)
       (try clear BK121)
       (try clear BK137)
       (try clear HB)
       generalize ((w54.setCell ⟨gb137, 0, none⟩ (.int .i64 t132)).setCell ⟨gb137, 1, none⟩ (.slice Ao56 t133.length co56)) = w63 at n0_ n1_ n2_ n3_ n4_ n5_ n6_ n7_ n8_ n9_ n10_ ⊢
       have HO110 := n0_
       have HO115 := n1_
       have HO119 := n2_
       have HO126 := n3_
       have HO131 := n4_
       have HO135 := n5_
       have BK101 := n6_
       have BK102 := n7_
       have BK121 := n8_
       have BK137 := n9_
       have HB := n10_
       clear n0_ n1_ n2_ n3_ n4_ n5_ n6_ n7_ n8_ n9_ n10_
       replace HO110 := A0 (Kd.R_drew HO110.out)
       replace HO115 := A0 (Kd.R_drew HO115.out)
       replace HO119 := A0 (Kd.R_drew HO119.out)
       replace HO126 := A0 (Kd.R_drew HO126.out)
       replace HO131 := A0 (Kd.R_drew HO131.out)
       replace HO135 := A0 (Kd.R_drew HO135.out)
       replace BK101 := A0 (blk_drew BK101.out)
       replace BK102 := A0 (blk_drew BK102.out)
       replace BK121 := A0 (blk_drew BK121.out)
       replace BK137 := A0 (blk_drew BK137.out)
       replace HB := A0 (below_drew1 HB.out)
       refine start_ (n := 20) (S := fun w' => w'.cell? ⟨gb121, 0, none⟩ = some (.int .i64 t116) ∧ w'.cell? ⟨gb121, 1, none⟩ = some (.slice Ao44 t117.length co44) ∧ w'.cell? ⟨gb137, 0, none⟩ = some (.int .i64 t132) ∧ w'.cell? ⟨gb137, 1, none⟩ = some (.slice Ao56 t133.length co56)) (ds := []) (bA 20 0) (by kernel_rfl) rfl rfl ⟨bc BK121.out 0, bc BK121.out 1, bc BK137.out 0, bc BK137.out 1⟩ (fun hHeld => ?_); refine with_tabW hatchwaylaw32_HelloAgrees.tab7 hatchwaylaw32_HelloAgrees.bits7 (fun HT_ HW_ => ?_)
       generalize w63.drew = w64 at HO110 HO115 HO119 HO126 HO131 HO135 BK101 BK102 BK121 BK137 HB hHeld ⊢
       apply pu (i := 0) (N := some 45) (bA 20 1) rfl rfl (any_of HT_.out (by kernel_rfl)) (fun _ _ _ h => h) rfl
       ·intro w'; go_simp; with_reducible rfl
       ·simp only [Act.put, u1, u2, u3, i64_w, i32_w]; rfl
       apply pu (i := 1) (N := some 46) (bA 20 3) rfl rfl (any_of HT_.out (by kernel_rfl)) (fun _ _ _ h => h) rfl
       ·intro w'; go_simp; with_reducible rfl
       ·simp only [Act.put, u1, u2, u3, i64_w, i32_w]; rfl
       apply pu (i := 2) (N := some 47) (bA 20 7) rfl rfl (any_of HT_.out (by kernel_rfl)) (fun _ _ _ h => h) rfl
       ·intro w'; go_simp; with_reducible rfl
       ·simp only [Act.put, u1, u2, u3, i64_w, i32_w]; rfl
       apply pu (i := 3) (N := some 48) (bA 20 15) rfl rfl (any_of HT_.out (by kernel_rfl)) (fun _ _ _ h => h) rfl
       ·intro w'; go_simp; with_reducible rfl
       ·simp only [Act.put, u1, u2, u3, i64_w, i32_w]; rfl
       apply pu (i := 4) (N := some 49) (bA 20 31) rfl rfl (any_of HT_.out (by kernel_rfl)) (fun _ _ _ h => h) rfl
       ·intro w'; go_simp; with_reducible rfl
       ·simp only [Act.put, u1, u2, u3, i64_w, i32_w]; rfl
       apply pu (i := 6) (N := some 51) (bA 20 95) rfl rfl (any_of HT_.out (by kernel_rfl)) (fun _ _ _ h => h) rfl
       ·intro w'; go_simp; with_reducible rfl
       ·simp only [Act.put, u1, u2, u3, i64_w, i32_w]; rfl
       apply tk (i := 5) (N := some 50) (bA 20 127) rfl rfl (take_ofW HT_.out HW_.out (by kernel_rfl)) (fun _ _ _ h => h) rfl hHeld
       ·rintro w' ⟨s0, s1, s2, s3⟩; go_simp; with_reducible rfl
       ·simp only [Act.put, u1, u2, u3, i64_w, i32_w]; rfl
       apply tk (i := 7) (N := some 52) (bA 20 255) rfl rfl (take_ofW HT_.out HW_.out (by kernel_rfl)) (fun _ _ _ h => h) rfl hHeld
       ·rintro w' ⟨s0, s1, s2, s3⟩; go_simp; with_reducible rfl
       ·simp only [Act.put, u1, u2, u3, i64_w, i32_w]; rfl
       apply pu (i := 8) (N := some 53) (bA 20 511) rfl rfl (any_of HT_.out (by kernel_rfl)) (fun _ _ _ h => h) rfl
       ·intro w'; go_simp; with_reducible rfl
       ·simp only [Act.put, u1, u2, u3, i64_w, i32_w]; rfl
       apply pu (i := 9) (N := some 54) (bA 20 1023) rfl rfl (any_of HT_.out (by kernel_rfl)) (fun _ _ _ h => h) rfl
       ·intro w'; go_simp; with_reducible rfl
       ·simp only [Act.put, u1, u2, u3, i64_w, i32_w]; rfl
       apply pu (i := 10) (N := some 55) (bA 20 2047) rfl rfl (any_of HT_.out (by kernel_rfl)) (fun _ _ _ h => h) rfl
       ·intro w'; go_simp; with_reducible rfl
       ·simp only [Act.put, u1, u2, u3, i64_w, i32_w]; rfl
       apply pu (i := 11) (N := some 56) (bA 20 4095) rfl rfl (any_of HT_.out (by kernel_rfl)) (fun _ _ _ h => h) rfl
       ·intro w'; go_simp; with_reducible rfl
       ·simp only [Act.put, u1, u2, u3, i64_w, i32_w]; rfl
       apply pu (i := 14) (N := some 59) (bA 20 20479) rfl rfl (any_of HT_.out (by kernel_rfl)) (fun _ _ _ h => h) rfl
       ·intro w'; go_simp; with_reducible rfl
       ·simp only [Act.put, u1, u2, u3, i64_w, i32_w]; rfl
       apply tk (i := 12) (N := some 57) (bA 20 24575) rfl rfl (take_ofW HT_.out HW_.out (by kernel_rfl)) (fun _ _ _ h => h) rfl hHeld
       ·rintro w' ⟨s0, s1, s2, s3⟩; go_simp; with_reducible rfl
       ·simp only [Act.put, u1, u2, u3, i64_w, i32_w]; rfl
       apply tk (i := 15) (N := some 60) (bA 20 57343) rfl rfl (take_ofW HT_.out HW_.out (by kernel_rfl)) (fun _ _ _ h => h) rfl hHeld
       ·rintro w' ⟨s0, s1, s2, s3⟩; go_simp; with_reducible rfl
       ·simp only [Act.put, u1, u2, u3, i64_w, i32_w]; rfl
       refine one_ (i := 13) (N := some 58) (bA 20 65535) rfl rfl (one_of HT_.out (by kernel_rfl)) (by decide) (fun K hK => ?_)
       refine goes_ Try.func30 (by kernel_rfl) rfl #[.slice Ao44 t117.length co44] (by rfl) rfl rfl (by (try simp only [List.map_toArray, List.map_cons, List.map_nil]); first | done | rfl | (simp only [List.length_drop, List.length_take]; rfl)) ?_
       with_reducible refine (hatchwaylaw32_plain.calls kj5 _ _ t117 t138 _ ?side1 ?side2 A60.out).mono ?_
       (case side1 => repeat (first | exact (Kd.R_reads' HO119.out).2.2 | (with_reducible refine Kd.C_alloc ?_ _) | (with_reducible refine Kd.C_drewN ?_ _) | (with_reducible refine Kd.C_drew ?_)))
       (case side2 => exact (Kd.R_reads' HO119.out).2.1)
       rintro e w65 ⟨v139, rfl, ho0, hb⟩
       refine ⟨_, rfl, ?_⟩
       replace HO110 := A0 (Kd.R_below (rS HO110.out) hb)
       replace HO115 := A0 (Kd.R_below (rS HO115.out) hb)
       replace HO119 := A0 (Kd.R_below (rS HO119.out) hb)
       replace HO126 := A0 (Kd.R_below (rS HO126.out) hb)
       replace HO131 := A0 (Kd.R_below (rS HO131.out) hb)
       replace HO135 := A0 (Kd.R_below (rS HO135.out) hb)
       have HO140 := A0 (Kd.R_lower ho0 (below_size (lS HB.out)))
       replace BK101 := A0 (blk_below (bS BK101.out) hb)
       replace BK102 := A0 (blk_below (bS BK102.out) hb)
       replace BK121 := A0 (blk_below (bS BK121.out) hb)
       replace BK137 := A0 (blk_below (bS BK137.out) hb)
       replace HB := A0 (below_step (lS HB.out) hb)
       (try clear hb)
       (try clear hb2)
       (try clear hk)
       (try clear hi)
       (try clear ho0)
       refine hK.out _ _ ⟨bc BK121.out 0, bc BK121.out 1, bc BK137.out 0, bc BK137.out 1⟩ (fun hHeld => ?_)
       clear hK K
       refine norm_ (a' := ?_) ?_ ?_
       rotate_left
       ·show Act.put _ (some 58) _ = _
        simp only [Act.put, u1, u2, u3, i64_w, i32_w]
        rfl
       refine one_ (i := 16) (N := some 61) (bA 20 131071) rfl rfl (one_of HT_.out (by kernel_rfl)) (by decide) (fun K hK => ?_)
       refine goes_ Try.func30 (by kernel_rfl) rfl #[.slice Ao56 t133.length co56] (by rfl) rfl rfl (by (try simp only [List.map_toArray, List.map_cons, List.map_nil]); first | done | rfl | (simp only [List.length_drop, List.length_take]; rfl)) ?_
       with_reducible refine (hatchwaylaw32_plain.calls kj5 _ _ t133 t141 _ ?side1 ?side2 A61.out).mono ?_
       (case side1 => repeat (first | exact (Kd.R_reads' HO135.out).2.2 | (with_reducible refine Kd.C_alloc ?_ _) | (with_reducible refine Kd.C_drewN ?_ _) | (with_reducible refine Kd.C_drew ?_)))
       (case side2 => exact (Kd.R_reads' HO135.out).2.1)
       rintro e w66 ⟨v142, rfl, ho0, hb⟩
       refine ⟨_, rfl, ?_⟩
       have n0_ := A0 (Kd.R_below (rS HO110.out) hb)
       have n1_ := A0 (Kd.R_below (rS HO115.out) hb)
       have n2_ := A0 (Kd.R_below (rS HO119.out) hb)
       have n3_ := A0 (Kd.R_below (rS HO126.out) hb)
       have n4_ := A0 (Kd.R_below (rS HO131.out) hb)
       have n5_ := A0 (Kd.R_below (rS HO135.out) hb)
       have n6_ := A0 (Kd.R_elder' (rS HO140.out) (Kd.R_base ho0) hb)
       have n7_ := A0 (Kd.R_lower (Kd.R_new' ho0 (Kd.R_lt (rS HO140.out))) (below_size (lS HB.out)))
       have n8_ := A0 (blk_below (bS BK101.out) hb)
       have n9_ := A0 (blk_below (bS BK102.out) hb)
       have n10_ := A0 (blk_below (bS BK121.out) hb)
       have n11_ := A0 (blk_below (bS BK137.out) hb)
       have n12_ := A0 (below_step (lS HB.out) hb)
       clear HO110
       clear HO115
       clear HO119
       clear HO126
       clear HO131
       clear HO135
       clear HO140
       clear BK101
       clear BK102
       clear BK121
       clear BK137
       clear HB
       have HO110 := n0_
       have HO115 := n1_
       have HO119 := n2_
       have HO126 := n3_
       have HO131 := n4_
       have HO135 := n5_
       have HO140 := n6_
       have HO143 := n7_
       have BK101 := n8_
       have BK102 := n9_
       have BK121 := n10_
       have BK137 := n11_
       have HB := n12_
       clear n0_ n1_ n2_ n3_ n4_ n5_ n6_ n7_ n8_ n9_ n10_ n11_ n12_
       (try clear hb)
       (try clear hb2)
       (try clear hk)
       (try clear hi)
       (try clear ho0)
       obtain ⟨Ao67, co67, eo67⟩ := Kd.R_slice HO140.out
       (first | subst eo67 | (injection eo67 with f1_ f2_ f3_; have f4_ := f1_.symm; have f5_ := f3_.symm; clear f1_ f2_ f3_; subst f4_; subst f5_))
       obtain ⟨Ao68, co68, eo68⟩ := Kd.R_slice HO143.out
       (first | subst eo68 | (injection eo68 with f1_ f2_ f3_; have f4_ := f1_.symm; have f5_ := f3_.symm; clear f1_ f2_ f3_; subst f4_; subst f5_))
       refine hK.out _ _ ⟨bc BK121.out 0, bc BK121.out 1, bc BK137.out 0, bc BK137.out 1⟩ (fun hHeld => ?_)
       clear hK K
       refine norm_ (a' := ?_) ?_ ?_
       rotate_left
       ·show Act.put _ (some 61) _ = _
        simp only [Act.put, u1, u2, u3, i64_w, i32_w]
        rfl
       refine one_ (i := 17) (N := some 62) (bA 20 262143) rfl rfl (one_of HT_.out (by kernel_rfl)) (by decide) (fun K hK => ?_)
       refine goes_ Try.func29 (by kernel_rfl) rfl #[.slice Ao67 t138.length co67, .slice Ao68 t141.length co68] (by rfl) rfl rfl (by (try simp only [List.map_toArray, List.map_cons, List.map_nil]); first | done | rfl | (simp only [List.length_drop, List.length_take]; rfl)) ?_
       with_reducible refine (hatchwayref32_Same.calls kj5 _ _ t138 _ _ t141 t144 _ ?side1 ?side2 ?side3 ?side4 A62.out).mono ?_
       (case side1 => repeat (first | exact (Kd.R_reads' HO140.out).2.2 | (with_reducible refine Kd.C_alloc ?_ _) | (with_reducible refine Kd.C_drewN ?_ _) | (with_reducible refine Kd.C_drew ?_)))
       (case side2 => exact (Kd.R_reads' HO140.out).2.1)
       (case side3 => repeat (first | exact (Kd.R_reads' HO143.out).2.2 | (with_reducible refine Kd.C_alloc ?_ _) | (with_reducible refine Kd.C_drewN ?_ _) | (with_reducible refine Kd.C_drew ?_)))
       (case side4 => exact (Kd.R_reads' HO143.out).2.1)
       rintro e w' ⟨rfl, ⟨nd, rfl⟩⟩
       refine ⟨_, rfl, ?_⟩
       refine hK.out _ _ ⟨bc BK121.out 0, bc BK121.out 1, bc BK137.out 0, bc BK137.out 1⟩ (fun hHeld => ?_)
       clear hK K
       refine norm_ (a' := ?_) ?_ ?_
       rotate_left
       ·show Act.put _ (some 62) _ = _
        simp only [Act.put, u1, u2, u3, i64_w, i32_w]
        rfl
       apply pu (i := 18) (N := some 63) (bA 20 524287) rfl rfl (any_of HT_.out (by kernel_rfl)) (fun _ _ _ h => h) rfl
       ·intro w'; go_simp; with_reducible rfl
       ·simp only [Act.put, u1, u2, u3, i64_w, i32_w]; rfl
       apply pu (i := 19) (N := some 64) (bA 20 1048575) rfl rfl (any_of HT_.out (by kernel_rfl)) (fun _ _ _ h => h) rfl
       ·intro w'; go_simp; with_reducible rfl
       ·simp only [Act.put, u1, u2, u3, i64_w, i32_w]; rfl
       refine done_ (done_of HT_.out (by kernel_rfl)) ?_
       try go_wp2
       go_meet
       case rel => exact ⟨_, (!t144), (by first | rfl | (simp; done) | (simp [*]; done)), H', ⟨by have := HJ5.out; first | omega | exact Nat.le_refl _⟩, ⟨rS (Kd.R_mono HO119.out (fun _ hk => hk.2.2.2.2))⟩, ⟨rS (Kd.R_mono HO135.out (fun _ hk => hk.2.2.1))⟩, ⟨by (with_reducible repeat (first | refine blk_drewN ?_ _ | refine blk_drew ?_ | refine blk_alloc ?_ _)); exact BK101.out⟩, ⟨by (with_reducible repeat (first | refine blk_drewN ?_ _ | refine blk_drew ?_ | refine blk_alloc ?_ _)); exact BK102.out⟩, ⟨by (with_reducible repeat (first | refine blk_drewN ?_ _ | refine blk_drew ?_ | refine blk_alloc ?_ _)); exact BK121.out⟩, ⟨by (with_reducible repeat (first | refine blk_drewN ?_ _ | refine blk_drew ?_ | refine blk_alloc ?_ _)); exact BK137.out⟩, ⟨by repeat (first | (with_reducible first | exact HB.out | apply below_alloc | apply pw_below_drewN | apply below_drew1 | refine below_set ?_ GE101.out | refine below_set ?_ GE102.out | refine below_set ?_ GE121.out | refine below_set ?_ GE137.out) | exact HB.out)⟩⟩
      rw [if_neg c59] at H
      have c59b0 : (t116 == t132) = false := beq_eq_false_iff_ne.mpr c59
      have c59b1 : (t116 != t132) = true := bne_iff_ne.mpr c59
      have H' := A0 H
      clear H
      try go_wp2
      have n0_ : Aside0 (Kd.R k104 104 ((w54.setCell ⟨gb137, 0, none⟩ (.int .i64 t132)).setCell ⟨gb137, 1, none⟩ (.slice Ao56 t133.length co56)) w.heap.size (fun k_ => some k_ ≠ (v114 : Value).ownBlock ∧ some k_ ≠ (.slice Ao44 t117.length co44 : Value).ownBlock ∧ some k_ ≠ (v125 : Value).ownBlock ∧ some k_ ≠ (v130 : Value).ownBlock ∧ some k_ ≠ (.slice Ao56 t133.length co56 : Value).ownBlock) v109 t108) := ⟨rS (Kd.R_mono (Kd.R_far (p := ⟨gb137, 1, none⟩) (Kd.R_far (p := ⟨gb137, 0, none⟩) (Kd.R_types HO110.out BK137.out (by decide)) (fun _ hk => hk.2) (.int .i64 t132)) (fun _ hk => hk.2) (.slice Ao56 t133.length co56)) (fun _ hk => ⟨hk.1.1, ⟨hk.1.2.1, ⟨hk.1.2.2.1, ⟨hk.1.2.2.2.1, hk.1.2.2.2.2⟩⟩⟩⟩))⟩
      have n1_ : Aside0 (Kd.R k104 104 ((w54.setCell ⟨gb137, 0, none⟩ (.int .i64 t132)).setCell ⟨gb137, 1, none⟩ (.slice Ao56 t133.length co56)) w.heap.size (fun k_ => some k_ ≠ (v109 : Value).ownBlock ∧ some k_ ≠ (.slice Ao44 t117.length co44 : Value).ownBlock ∧ some k_ ≠ (v125 : Value).ownBlock ∧ some k_ ≠ (v130 : Value).ownBlock ∧ some k_ ≠ (.slice Ao56 t133.length co56 : Value).ownBlock) v114 t113) := ⟨rS (Kd.R_mono (Kd.R_far (p := ⟨gb137, 1, none⟩) (Kd.R_far (p := ⟨gb137, 0, none⟩) (Kd.R_types HO115.out BK137.out (by decide)) (fun _ hk => hk.2) (.int .i64 t132)) (fun _ hk => hk.2) (.slice Ao56 t133.length co56)) (fun _ hk => ⟨hk.1.1, ⟨hk.1.2.1, ⟨hk.1.2.2.1, ⟨hk.1.2.2.2.1, hk.1.2.2.2.2⟩⟩⟩⟩))⟩
      have n2_ : Aside0 (Kd.R k104 104 ((w54.setCell ⟨gb137, 0, none⟩ (.int .i64 t132)).setCell ⟨gb137, 1, none⟩ (.slice Ao56 t133.length co56)) w.heap.size (fun k_ => some k_ ≠ (v109 : Value).ownBlock ∧ some k_ ≠ (v114 : Value).ownBlock ∧ some k_ ≠ (v125 : Value).ownBlock ∧ some k_ ≠ (v130 : Value).ownBlock ∧ some k_ ≠ (.slice Ao56 t133.length co56 : Value).ownBlock) (.slice Ao44 t117.length co44) t117) := ⟨rS (Kd.R_mono (Kd.R_far (p := ⟨gb137, 1, none⟩) (Kd.R_far (p := ⟨gb137, 0, none⟩) (Kd.R_types HO119.out BK137.out (by decide)) (fun _ hk => hk.2) (.int .i64 t132)) (fun _ hk => hk.2) (.slice Ao56 t133.length co56)) (fun _ hk => ⟨hk.1.1, ⟨hk.1.2.1, ⟨hk.1.2.2.1, ⟨hk.1.2.2.2.1, hk.1.2.2.2.2⟩⟩⟩⟩))⟩
      have n3_ : Aside0 (Kd.R k104 104 ((w54.setCell ⟨gb137, 0, none⟩ (.int .i64 t132)).setCell ⟨gb137, 1, none⟩ (.slice Ao56 t133.length co56)) w.heap.size (fun k_ => some k_ ≠ (v109 : Value).ownBlock ∧ some k_ ≠ (v114 : Value).ownBlock ∧ some k_ ≠ (.slice Ao44 t117.length co44 : Value).ownBlock ∧ some k_ ≠ (v130 : Value).ownBlock ∧ some k_ ≠ (.slice Ao56 t133.length co56 : Value).ownBlock) v125 t124) := ⟨rS (Kd.R_mono (Kd.R_far (p := ⟨gb137, 1, none⟩) (Kd.R_far (p := ⟨gb137, 0, none⟩) (Kd.R_types HO126.out BK137.out (by decide)) (fun _ hk => hk.2) (.int .i64 t132)) (fun _ hk => hk.2) (.slice Ao56 t133.length co56)) (fun _ hk => ⟨hk.1.1, ⟨hk.1.2.1, ⟨hk.1.2.2.1, ⟨hk.1.2.2.2.1, hk.1.2.2.2.2⟩⟩⟩⟩))⟩
      have n4_ : Aside0 (Kd.R k104 104 ((w54.setCell ⟨gb137, 0, none⟩ (.int .i64 t132)).setCell ⟨gb137, 1, none⟩ (.slice Ao56 t133.length co56)) w.heap.size (fun k_ => some k_ ≠ (v109 : Value).ownBlock ∧ some k_ ≠ (v114 : Value).ownBlock ∧ some k_ ≠ (.slice Ao44 t117.length co44 : Value).ownBlock ∧ some k_ ≠ (v125 : Value).ownBlock ∧ some k_ ≠ (.slice Ao56 t133.length co56 : Value).ownBlock) v130 t129) := ⟨rS (Kd.R_mono (Kd.R_far (p := ⟨gb137, 1, none⟩) (Kd.R_far (p := ⟨gb137, 0, none⟩) (Kd.R_types HO131.out BK137.out (by decide)) (fun _ hk => hk.2) (.int .i64 t132)) (fun _ hk => hk.2) (.slice Ao56 t133.length co56)) (fun _ hk => ⟨hk.1.1, ⟨hk.1.2.1, ⟨hk.1.2.2.1, ⟨hk.1.2.2.2.1, hk.1.2.2.2.2⟩⟩⟩⟩))⟩
      have n5_ : Aside0 (Kd.R k104 104 ((w54.setCell ⟨gb137, 0, none⟩ (.int .i64 t132)).setCell ⟨gb137, 1, none⟩ (.slice Ao56 t133.length co56)) w.heap.size (fun k_ => some k_ ≠ (v109 : Value).ownBlock ∧ some k_ ≠ (v114 : Value).ownBlock ∧ some k_ ≠ (.slice Ao44 t117.length co44 : Value).ownBlock ∧ some k_ ≠ (v125 : Value).ownBlock ∧ some k_ ≠ (v130 : Value).ownBlock) (.slice Ao56 t133.length co56) t133) := ⟨rS (Kd.R_mono (Kd.R_far (p := ⟨gb137, 1, none⟩) (Kd.R_far (p := ⟨gb137, 0, none⟩) (Kd.R_types HO135.out BK137.out (by decide)) (fun _ hk => hk.2) (.int .i64 t132)) (fun _ hk => hk.2) (.slice Ao56 t133.length co56)) (fun _ hk => ⟨hk.1.1, ⟨hk.1.2.1, ⟨hk.1.2.2.1, ⟨hk.1.2.2.2.1, hk.1.2.2.2.2⟩⟩⟩⟩))⟩
      have n6_ : Aside0 (((w54.setCell ⟨gb137, 0, none⟩ (.int .i64 t132)).setCell ⟨gb137, 1, none⟩ (.slice Ao56 t133.length co56)).heap[gb101]? = some (.cells #[.int .i64 a0_0, .int .i64 a0_1, .slice A0_2 l0_2.length c0_2] 39 (0, 0))) := ⟨by (with_reducible repeat (first | refine blk_drewN ?_ _ | refine blk_drew ?_ | refine blk_alloc ?_ _)); refine blk_far ?_ NB101_137.out _; (with_reducible repeat (first | refine blk_drewN ?_ _ | refine blk_drew ?_ | refine blk_alloc ?_ _)); refine blk_far ?_ NB101_137.out _; (with_reducible repeat (first | refine blk_drewN ?_ _ | refine blk_drew ?_ | refine blk_alloc ?_ _)); exact BK101.out⟩
      have n7_ : Aside0 (((w54.setCell ⟨gb137, 0, none⟩ (.int .i64 t132)).setCell ⟨gb137, 1, none⟩ (.slice Ao56 t133.length co56)).heap[gb102]? = some (.cells #[.int .i64 a1_0, .int .i64 a1_1, .slice A1_2 l1_2.length c1_2] 39 (0, 0))) := ⟨by (with_reducible repeat (first | refine blk_drewN ?_ _ | refine blk_drew ?_ | refine blk_alloc ?_ _)); refine blk_far ?_ NB102_137.out _; (with_reducible repeat (first | refine blk_drewN ?_ _ | refine blk_drew ?_ | refine blk_alloc ?_ _)); refine blk_far ?_ NB102_137.out _; (with_reducible repeat (first | refine blk_drewN ?_ _ | refine blk_drew ?_ | refine blk_alloc ?_ _)); exact BK102.out⟩
      have n8_ : Aside0 (((w54.setCell ⟨gb137, 0, none⟩ (.int .i64 t132)).setCell ⟨gb137, 1, none⟩ (.slice Ao56 t133.length co56)).heap[gb121]? = some (.cells #[.int .i64 t116, .slice Ao44 t117.length co44] 43 (0, 0))) := ⟨by (with_reducible repeat (first | refine blk_drewN ?_ _ | refine blk_drew ?_ | refine blk_alloc ?_ _)); refine blk_far ?_ NB121_137.out _; (with_reducible repeat (first | refine blk_drewN ?_ _ | refine blk_drew ?_ | refine blk_alloc ?_ _)); refine blk_far ?_ NB121_137.out _; (with_reducible repeat (first | refine blk_drewN ?_ _ | refine blk_drew ?_ | refine blk_alloc ?_ _)); exact BK121.out⟩
      have n9_ : Aside0 (((w54.setCell ⟨gb137, 0, none⟩ (.int .i64 t132)).setCell ⟨gb137, 1, none⟩ (.slice Ao56 t133.length co56)).heap[gb137]? = some (.cells #[.int .i64 t132, .slice Ao56 t133.length co56] 43 (0, 0))) := ⟨by (with_reducible repeat (first | refine blk_drewN ?_ _ | refine blk_drew ?_ | refine blk_alloc ?_ _)); refine blk_put (cs := #[.int .i64 t132, .slice none 0 0]) ?_ 1 _ rfl; (with_reducible repeat (first | refine blk_drewN ?_ _ | refine blk_drew ?_ | refine blk_alloc ?_ _)); refine blk_put (cs := #[.int .i64 0, .slice none 0 0]) ?_ 0 _ rfl; (with_reducible repeat (first | refine blk_drewN ?_ _ | refine blk_drew ?_ | refine blk_alloc ?_ _)); exact BK137.out⟩
      have n10_ : Aside0 (Below w.heap.size w ((w54.setCell ⟨gb137, 0, none⟩ (.int .i64 t132)).setCell ⟨gb137, 1, none⟩ (.slice Ao56 t133.length co56))) := ⟨by repeat (first | (with_reducible first | exact HB.out | apply below_alloc | apply pw_below_drewN | apply below_drew1 | refine below_set ?_ GE101.out | refine below_set ?_ GE102.out | refine below_set ?_ GE121.out | refine below_set ?_ GE137.out) | exact HB.out)⟩
      (try clear HO110)
      (try clear HO115)
      (try clear HO119)
      (try clear HO126)
      (try clear HO131)
      (try clear HO135)
      (try clear BK101)
      (try clear BK102)
      (try clear BK121)
      (try clear BK137)
      (try clear HB)
      generalize ((w54.setCell ⟨gb137, 0, none⟩ (.int .i64 t132)).setCell ⟨gb137, 1, none⟩ (.slice Ao56 t133.length co56)) = w69 at n0_ n1_ n2_ n3_ n4_ n5_ n6_ n7_ n8_ n9_ n10_ ⊢
      have HO110 := n0_
      have HO115 := n1_
      have HO119 := n2_
      have HO126 := n3_
      have HO131 := n4_
      have HO135 := n5_
      have BK101 := n6_
      have BK102 := n7_
      have BK121 := n8_
      have BK137 := n9_
      have HB := n10_
      clear n0_ n1_ n2_ n3_ n4_ n5_ n6_ n7_ n8_ n9_ n10_
      replace HO110 := A0 (Kd.R_drew HO110.out)
      replace HO115 := A0 (Kd.R_drew HO115.out)
      replace HO119 := A0 (Kd.R_drew HO119.out)
      replace HO126 := A0 (Kd.R_drew HO126.out)
      replace HO131 := A0 (Kd.R_drew HO131.out)
      replace HO135 := A0 (Kd.R_drew HO135.out)
      replace BK101 := A0 (blk_drew BK101.out)
      replace BK102 := A0 (blk_drew BK102.out)
      replace BK121 := A0 (blk_drew BK121.out)
      replace BK137 := A0 (blk_drew BK137.out)
      replace HB := A0 (below_drew1 HB.out)
      refine start_ (n := 20) (S := fun w' => w'.cell? ⟨gb121, 0, none⟩ = some (.int .i64 t116) ∧ w'.cell? ⟨gb121, 1, none⟩ = some (.slice Ao44 t117.length co44) ∧ w'.cell? ⟨gb137, 0, none⟩ = some (.int .i64 t132) ∧ w'.cell? ⟨gb137, 1, none⟩ = some (.slice Ao56 t133.length co56)) (ds := []) (bA 20 0) (by kernel_rfl) rfl rfl ⟨bc BK121.out 0, bc BK121.out 1, bc BK137.out 0, bc BK137.out 1⟩ (fun hHeld => ?_); refine with_tabW hatchwaylaw32_HelloAgrees.tab7 hatchwaylaw32_HelloAgrees.bits7 (fun HT_ HW_ => ?_)
      generalize w69.drew = w70 at HO110 HO115 HO119 HO126 HO131 HO135 BK101 BK102 BK121 BK137 HB hHeld ⊢
      apply pu (i := 0) (N := some 45) (bA 20 1) rfl rfl (any_of HT_.out (by kernel_rfl)) (fun _ _ _ h => h) rfl
      ·intro w'; go_simp; with_reducible rfl
      ·simp only [Act.put, u1, u2, u3, i64_w, i32_w]; rfl
      apply pu (i := 1) (N := some 46) (bA 20 3) rfl rfl (any_of HT_.out (by kernel_rfl)) (fun _ _ _ h => h) rfl
      ·intro w'; go_simp; with_reducible rfl
      ·simp only [Act.put, u1, u2, u3, i64_w, i32_w]; rfl
      apply pu (i := 2) (N := some 47) (bA 20 7) rfl rfl (any_of HT_.out (by kernel_rfl)) (fun _ _ _ h => h) rfl
      ·intro w'; go_simp; with_reducible rfl
      ·simp only [Act.put, u1, u2, u3, i64_w, i32_w]; rfl
      apply pu (i := 3) (N := some 48) (bA 20 15) rfl rfl (any_of HT_.out (by kernel_rfl)) (fun _ _ _ h => h) rfl
      ·intro w'; go_simp; with_reducible rfl
      ·simp only [Act.put, u1, u2, u3, i64_w, i32_w]; rfl
      apply pu (i := 4) (N := some 49) (bA 20 31) rfl rfl (any_of HT_.out (by kernel_rfl)) (fun _ _ _ h => h) rfl
      ·intro w'; go_simp; with_reducible rfl
      ·simp only [Act.put, u1, u2, u3, i64_w, i32_w]; rfl
      apply pu (i := 6) (N := some 51) (bA 20 95) rfl rfl (any_of HT_.out (by kernel_rfl)) (fun _ _ _ h => h) rfl
      ·intro w'; go_simp; with_reducible rfl
      ·simp only [Act.put, u1, u2, u3, i64_w, i32_w]; rfl
      apply tk (i := 5) (N := some 50) (bA 20 127) rfl rfl (take_ofW HT_.out HW_.out (by kernel_rfl)) (fun _ _ _ h => h) rfl hHeld
      ·rintro w' ⟨s0, s1, s2, s3⟩; go_simp; with_reducible rfl
      ·simp only [Act.put, u1, u2, u3, i64_w, i32_w]; rfl
      apply tk (i := 7) (N := some 52) (bA 20 255) rfl rfl (take_ofW HT_.out HW_.out (by kernel_rfl)) (fun _ _ _ h => h) rfl hHeld
      ·rintro w' ⟨s0, s1, s2, s3⟩; go_simp; with_reducible rfl
      ·simp only [Act.put, u1, u2, u3, i64_w, i32_w]; rfl
      apply pu (i := 8) (N := some 53) (bA 20 511) rfl rfl (any_of HT_.out (by kernel_rfl)) (fun _ _ _ h => h) rfl
      ·intro w'; go_simp; with_reducible rfl
      ·simp only [Act.put, u1, u2, u3, i64_w, i32_w]; rfl
      apply pu (i := 9) (N := some 54) (bA 20 1023) rfl rfl (any_of HT_.out (by kernel_rfl)) (fun _ _ _ h => h) rfl
      ·intro w'; go_simp; with_reducible rfl
      ·simp only [Act.put, u1, u2, u3, i64_w, i32_w]; rfl
      apply pu (i := 10) (N := some 55) (bA 20 2047) rfl rfl (any_of HT_.out (by kernel_rfl)) (fun _ _ _ h => h) rfl
      ·intro w'; go_simp; with_reducible rfl
      ·simp only [Act.put, u1, u2, u3, i64_w, i32_w]; rfl
      apply un (i := 11) (N := some 56) (bA 20 4095) rfl rfl (any_of HT_.out (by kernel_rfl)) (fun _ _ _ h => h) rfl
      ·simp only [Act.put, u1, u2, u3, i64_w, i32_w]; rfl
      apply un (i := 12) (N := some 57) (bA 20 8191) rfl rfl (any_of HT_.out (by kernel_rfl)) (fun _ _ _ h => h) rfl
      ·simp only [Act.put, u1, u2, u3, i64_w, i32_w]; rfl
      apply un (i := 13) (N := some 58) (bA 20 16383) rfl rfl (any_of HT_.out (by kernel_rfl)) (fun _ _ _ h => h) rfl
      ·simp only [Act.put, u1, u2, u3, i64_w, i32_w]; rfl
      apply un (i := 14) (N := some 59) (bA 20 32767) rfl rfl (any_of HT_.out (by kernel_rfl)) (fun _ _ _ h => h) rfl
      ·simp only [Act.put, u1, u2, u3, i64_w, i32_w]; rfl
      apply un (i := 15) (N := some 60) (bA 20 65535) rfl rfl (any_of HT_.out (by kernel_rfl)) (fun _ _ _ h => h) rfl
      ·simp only [Act.put, u1, u2, u3, i64_w, i32_w]; rfl
      apply un (i := 16) (N := some 61) (bA 20 131071) rfl rfl (any_of HT_.out (by kernel_rfl)) (fun _ _ _ h => h) rfl
      ·simp only [Act.put, u1, u2, u3, i64_w, i32_w]; rfl
      apply un (i := 17) (N := some 62) (bA 20 262143) rfl rfl (any_of HT_.out (by kernel_rfl)) (fun _ _ _ h => h) rfl
      ·simp only [Act.put, u1, u2, u3, i64_w, i32_w]; rfl
      apply un (i := 18) (N := some 63) (bA 20 524287) rfl rfl (any_of HT_.out (by kernel_rfl)) (fun _ _ _ h => h) rfl
      ·simp only [Act.put, u1, u2, u3, i64_w, i32_w]; rfl
      apply pu (i := 19) (N := some 64) (bA 20 1048575) rfl rfl (any_of HT_.out (by kernel_rfl)) (fun _ _ _ h => h) rfl
      ·intro w'; go_simp; with_reducible rfl
      ·simp only [Act.put, u1, u2, u3, i64_w, i32_w]; rfl
      refine done_ (done_of HT_.out (by kernel_rfl)) ?_
      try go_wp2
      go_meet
      case rel => exact ⟨_, (true), (by first | rfl | (simp; done) | (simp [*]; done)), H', ⟨by have := HJ5.out; first | omega | exact Nat.le_refl _⟩, ⟨rS (Kd.R_mono HO119.out (fun _ hk => hk.2.2.2.2))⟩, ⟨rS (Kd.R_mono HO135.out (fun _ hk => hk.2.2.1))⟩, ⟨by (with_reducible repeat (first | refine blk_drewN ?_ _ | refine blk_drew ?_ | refine blk_alloc ?_ _)); exact BK101.out⟩, ⟨by (with_reducible repeat (first | refine blk_drewN ?_ _ | refine blk_drew ?_ | refine blk_alloc ?_ _)); exact BK102.out⟩, ⟨by (with_reducible repeat (first | refine blk_drewN ?_ _ | refine blk_drew ?_ | refine blk_alloc ?_ _)); exact BK121.out⟩, ⟨by (with_reducible repeat (first | refine blk_drewN ?_ _ | refine blk_drew ?_ | refine blk_alloc ?_ _)); exact BK137.out⟩, ⟨by repeat (first | (with_reducible first | exact HB.out | apply below_alloc | apply pw_below_drewN | apply below_drew1 | refine below_set ?_ GE101.out | refine below_set ?_ GE102.out | refine below_set ?_ GE121.out | refine below_set ?_ GE137.out) | exact HB.out)⟩⟩
     rw [if_neg c58] at H
     have c58b0 : (t120 == t136) = false := beq_eq_false_iff_ne.mpr c58
     have c58b1 : (t120 != t136) = true := bne_iff_ne.mpr c58
     (first | rw [c58b0] | (simp only [i64_w, i32_w]; rw [c58b0]) | skip)
     have H' := A0 H
     clear H
     try go_wp2
     have n0_ : Aside0 (Kd.R k104 104 ((w54.setCell ⟨gb137, 0, none⟩ (.int .i64 t132)).setCell ⟨gb137, 1, none⟩ (.slice Ao56 t133.length co56)) w.heap.size (fun k_ => some k_ ≠ (v114 : Value).ownBlock ∧ some k_ ≠ (.slice Ao44 t117.length co44 : Value).ownBlock ∧ some k_ ≠ (v125 : Value).ownBlock ∧ some k_ ≠ (v130 : Value).ownBlock ∧ some k_ ≠ (.slice Ao56 t133.length co56 : Value).ownBlock) v109 t108) := ⟨rS (Kd.R_mono (Kd.R_far (p := ⟨gb137, 1, none⟩) (Kd.R_far (p := ⟨gb137, 0, none⟩) (Kd.R_types HO110.out BK137.out (by decide)) (fun _ hk => hk.2) (.int .i64 t132)) (fun _ hk => hk.2) (.slice Ao56 t133.length co56)) (fun _ hk => ⟨hk.1.1, ⟨hk.1.2.1, ⟨hk.1.2.2.1, ⟨hk.1.2.2.2.1, hk.1.2.2.2.2⟩⟩⟩⟩))⟩
     have n1_ : Aside0 (Kd.R k104 104 ((w54.setCell ⟨gb137, 0, none⟩ (.int .i64 t132)).setCell ⟨gb137, 1, none⟩ (.slice Ao56 t133.length co56)) w.heap.size (fun k_ => some k_ ≠ (v109 : Value).ownBlock ∧ some k_ ≠ (.slice Ao44 t117.length co44 : Value).ownBlock ∧ some k_ ≠ (v125 : Value).ownBlock ∧ some k_ ≠ (v130 : Value).ownBlock ∧ some k_ ≠ (.slice Ao56 t133.length co56 : Value).ownBlock) v114 t113) := ⟨rS (Kd.R_mono (Kd.R_far (p := ⟨gb137, 1, none⟩) (Kd.R_far (p := ⟨gb137, 0, none⟩) (Kd.R_types HO115.out BK137.out (by decide)) (fun _ hk => hk.2) (.int .i64 t132)) (fun _ hk => hk.2) (.slice Ao56 t133.length co56)) (fun _ hk => ⟨hk.1.1, ⟨hk.1.2.1, ⟨hk.1.2.2.1, ⟨hk.1.2.2.2.1, hk.1.2.2.2.2⟩⟩⟩⟩))⟩
     have n2_ : Aside0 (Kd.R k104 104 ((w54.setCell ⟨gb137, 0, none⟩ (.int .i64 t132)).setCell ⟨gb137, 1, none⟩ (.slice Ao56 t133.length co56)) w.heap.size (fun k_ => some k_ ≠ (v109 : Value).ownBlock ∧ some k_ ≠ (v114 : Value).ownBlock ∧ some k_ ≠ (v125 : Value).ownBlock ∧ some k_ ≠ (v130 : Value).ownBlock ∧ some k_ ≠ (.slice Ao56 t133.length co56 : Value).ownBlock) (.slice Ao44 t117.length co44) t117) := ⟨rS (Kd.R_mono (Kd.R_far (p := ⟨gb137, 1, none⟩) (Kd.R_far (p := ⟨gb137, 0, none⟩) (Kd.R_types HO119.out BK137.out (by decide)) (fun _ hk => hk.2) (.int .i64 t132)) (fun _ hk => hk.2) (.slice Ao56 t133.length co56)) (fun _ hk => ⟨hk.1.1, ⟨hk.1.2.1, ⟨hk.1.2.2.1, ⟨hk.1.2.2.2.1, hk.1.2.2.2.2⟩⟩⟩⟩))⟩
     have n3_ : Aside0 (Kd.R k104 104 ((w54.setCell ⟨gb137, 0, none⟩ (.int .i64 t132)).setCell ⟨gb137, 1, none⟩ (.slice Ao56 t133.length co56)) w.heap.size (fun k_ => some k_ ≠ (v109 : Value).ownBlock ∧ some k_ ≠ (v114 : Value).ownBlock ∧ some k_ ≠ (.slice Ao44 t117.length co44 : Value).ownBlock ∧ some k_ ≠ (v130 : Value).ownBlock ∧ some k_ ≠ (.slice Ao56 t133.length co56 : Value).ownBlock) v125 t124) := ⟨rS (Kd.R_mono (Kd.R_far (p := ⟨gb137, 1, none⟩) (Kd.R_far (p := ⟨gb137, 0, none⟩) (Kd.R_types HO126.out BK137.out (by decide)) (fun _ hk => hk.2) (.int .i64 t132)) (fun _ hk => hk.2) (.slice Ao56 t133.length co56)) (fun _ hk => ⟨hk.1.1, ⟨hk.1.2.1, ⟨hk.1.2.2.1, ⟨hk.1.2.2.2.1, hk.1.2.2.2.2⟩⟩⟩⟩))⟩
     have n4_ : Aside0 (Kd.R k104 104 ((w54.setCell ⟨gb137, 0, none⟩ (.int .i64 t132)).setCell ⟨gb137, 1, none⟩ (.slice Ao56 t133.length co56)) w.heap.size (fun k_ => some k_ ≠ (v109 : Value).ownBlock ∧ some k_ ≠ (v114 : Value).ownBlock ∧ some k_ ≠ (.slice Ao44 t117.length co44 : Value).ownBlock ∧ some k_ ≠ (v125 : Value).ownBlock ∧ some k_ ≠ (.slice Ao56 t133.length co56 : Value).ownBlock) v130 t129) := ⟨rS (Kd.R_mono (Kd.R_far (p := ⟨gb137, 1, none⟩) (Kd.R_far (p := ⟨gb137, 0, none⟩) (Kd.R_types HO131.out BK137.out (by decide)) (fun _ hk => hk.2) (.int .i64 t132)) (fun _ hk => hk.2) (.slice Ao56 t133.length co56)) (fun _ hk => ⟨hk.1.1, ⟨hk.1.2.1, ⟨hk.1.2.2.1, ⟨hk.1.2.2.2.1, hk.1.2.2.2.2⟩⟩⟩⟩))⟩
     have n5_ : Aside0 (Kd.R k104 104 ((w54.setCell ⟨gb137, 0, none⟩ (.int .i64 t132)).setCell ⟨gb137, 1, none⟩ (.slice Ao56 t133.length co56)) w.heap.size (fun k_ => some k_ ≠ (v109 : Value).ownBlock ∧ some k_ ≠ (v114 : Value).ownBlock ∧ some k_ ≠ (.slice Ao44 t117.length co44 : Value).ownBlock ∧ some k_ ≠ (v125 : Value).ownBlock ∧ some k_ ≠ (v130 : Value).ownBlock) (.slice Ao56 t133.length co56) t133) := ⟨rS (Kd.R_mono (Kd.R_far (p := ⟨gb137, 1, none⟩) (Kd.R_far (p := ⟨gb137, 0, none⟩) (Kd.R_types HO135.out BK137.out (by decide)) (fun _ hk => hk.2) (.int .i64 t132)) (fun _ hk => hk.2) (.slice Ao56 t133.length co56)) (fun _ hk => ⟨hk.1.1, ⟨hk.1.2.1, ⟨hk.1.2.2.1, ⟨hk.1.2.2.2.1, hk.1.2.2.2.2⟩⟩⟩⟩))⟩
     have n6_ : Aside0 (((w54.setCell ⟨gb137, 0, none⟩ (.int .i64 t132)).setCell ⟨gb137, 1, none⟩ (.slice Ao56 t133.length co56)).heap[gb101]? = some (.cells #[.int .i64 a0_0, .int .i64 a0_1, .slice A0_2 l0_2.length c0_2] 39 (0, 0))) := ⟨by (with_reducible repeat (first | refine blk_drewN ?_ _ | refine blk_drew ?_ | refine blk_alloc ?_ _)); refine blk_far ?_ NB101_137.out _; (with_reducible repeat (first | refine blk_drewN ?_ _ | refine blk_drew ?_ | refine blk_alloc ?_ _)); refine blk_far ?_ NB101_137.out _; (with_reducible repeat (first | refine blk_drewN ?_ _ | refine blk_drew ?_ | refine blk_alloc ?_ _)); exact BK101.out⟩
     have n7_ : Aside0 (((w54.setCell ⟨gb137, 0, none⟩ (.int .i64 t132)).setCell ⟨gb137, 1, none⟩ (.slice Ao56 t133.length co56)).heap[gb102]? = some (.cells #[.int .i64 a1_0, .int .i64 a1_1, .slice A1_2 l1_2.length c1_2] 39 (0, 0))) := ⟨by (with_reducible repeat (first | refine blk_drewN ?_ _ | refine blk_drew ?_ | refine blk_alloc ?_ _)); refine blk_far ?_ NB102_137.out _; (with_reducible repeat (first | refine blk_drewN ?_ _ | refine blk_drew ?_ | refine blk_alloc ?_ _)); refine blk_far ?_ NB102_137.out _; (with_reducible repeat (first | refine blk_drewN ?_ _ | refine blk_drew ?_ | refine blk_alloc ?_ _)); exact BK102.out⟩
     have n8_ : Aside0 (((w54.setCell ⟨gb137, 0, none⟩ (.int .i64 t132)).setCell ⟨gb137, 1, none⟩ (.slice Ao56 t133.length co56)).heap[gb121]? = some (.cells #[.int .i64 t116, .slice Ao44 t117.length co44] 43 (0, 0))) := ⟨by (with_reducible repeat (first | refine blk_drewN ?_ _ | refine blk_drew ?_ | refine blk_alloc ?_ _)); refine blk_far ?_ NB121_137.out _; (with_reducible repeat (first | refine blk_drewN ?_ _ | refine blk_drew ?_ | refine blk_alloc ?_ _)); refine blk_far ?_ NB121_137.out _; (with_reducible repeat (first | refine blk_drewN ?_ _ | refine blk_drew ?_ | refine blk_alloc ?_ _)); exact BK121.out⟩
     have n9_ : Aside0 (((w54.setCell ⟨gb137, 0, none⟩ (.int .i64 t132)).setCell ⟨gb137, 1, none⟩ (.slice Ao56 t133.length co56)).heap[gb137]? = some (.cells #[.int .i64 t132, .slice Ao56 t133.length co56] 43 (0, 0))) := ⟨by (with_reducible repeat (first | refine blk_drewN ?_ _ | refine blk_drew ?_ | refine blk_alloc ?_ _)); refine blk_put (cs := #[.int .i64 t132, .slice none 0 0]) ?_ 1 _ rfl; (with_reducible repeat (first | refine blk_drewN ?_ _ | refine blk_drew ?_ | refine blk_alloc ?_ _)); refine blk_put (cs := #[.int .i64 0, .slice none 0 0]) ?_ 0 _ rfl; (with_reducible repeat (first | refine blk_drewN ?_ _ | refine blk_drew ?_ | refine blk_alloc ?_ _)); exact BK137.out⟩
     have n10_ : Aside0 (Below w.heap.size w ((w54.setCell ⟨gb137, 0, none⟩ (.int .i64 t132)).setCell ⟨gb137, 1, none⟩ (.slice Ao56 t133.length co56))) := ⟨by repeat (first | (with_reducible first | exact HB.out | apply below_alloc | apply pw_below_drewN | apply below_drew1 | refine below_set ?_ GE101.out | refine below_set ?_ GE102.out | refine below_set ?_ GE121.out | refine below_set ?_ GE137.out) | exact HB.out)⟩
     (try clear HO110)
     (try clear HO115)
     (try clear HO119)
     (try clear HO126)
     (try clear HO131)
     (try clear HO135)
     (try clear BK101)
     (try clear BK102)
     (try clear BK121)
     (try clear BK137)
     (try clear HB)
     generalize ((w54.setCell ⟨gb137, 0, none⟩ (.int .i64 t132)).setCell ⟨gb137, 1, none⟩ (.slice Ao56 t133.length co56)) = w71 at n0_ n1_ n2_ n3_ n4_ n5_ n6_ n7_ n8_ n9_ n10_ ⊢
     have HO110 := n0_
     have HO115 := n1_
     have HO119 := n2_
     have HO126 := n3_
     have HO131 := n4_
     have HO135 := n5_
     have BK101 := n6_
     have BK102 := n7_
     have BK121 := n8_
     have BK137 := n9_
     have HB := n10_
     clear n0_ n1_ n2_ n3_ n4_ n5_ n6_ n7_ n8_ n9_ n10_
     replace HO110 := A0 (Kd.R_drew HO110.out)
     replace HO115 := A0 (Kd.R_drew HO115.out)
     replace HO119 := A0 (Kd.R_drew HO119.out)
     replace HO126 := A0 (Kd.R_drew HO126.out)
     replace HO131 := A0 (Kd.R_drew HO131.out)
     replace HO135 := A0 (Kd.R_drew HO135.out)
     replace BK101 := A0 (blk_drew BK101.out)
     replace BK102 := A0 (blk_drew BK102.out)
     replace BK121 := A0 (blk_drew BK121.out)
     replace BK137 := A0 (blk_drew BK137.out)
     replace HB := A0 (below_drew1 HB.out)
     refine start_ (n := 20) (S := fun w' => True) (ds := []) (bA 20 0) (by kernel_rfl) rfl rfl trivial (fun hHeld => ?_); refine with_tabW hatchwaylaw32_HelloAgrees.tab7 hatchwaylaw32_HelloAgrees.bits7 (fun HT_ HW_ => ?_)
     generalize w71.drew = w72 at HO110 HO115 HO119 HO126 HO131 HO135 BK101 BK102 BK121 BK137 HB hHeld ⊢
     apply pu (i := 0) (N := some 45) (bA 20 1) rfl rfl (any_of HT_.out (by kernel_rfl)) (fun _ _ _ h => h) rfl
     ·intro w'; go_simp; with_reducible rfl
     ·simp only [Act.put, u1, u2, u3, i64_w, i32_w]; rfl
     apply pu (i := 1) (N := some 46) (bA 20 3) rfl rfl (any_of HT_.out (by kernel_rfl)) (fun _ _ _ h => h) rfl
     ·intro w'; go_simp; with_reducible rfl
     ·simp only [Act.put, u1, u2, u3, i64_w, i32_w]; rfl
     apply pu (i := 2) (N := some 47) (bA 20 7) rfl rfl (any_of HT_.out (by kernel_rfl)) (fun _ _ _ h => h) rfl
     ·intro w'; go_simp; with_reducible rfl
     ·simp only [Act.put, u1, u2, u3, i64_w, i32_w]; rfl
     apply pu (i := 3) (N := some 48) (bA 20 15) rfl rfl (any_of HT_.out (by kernel_rfl)) (fun _ _ _ h => h) rfl
     ·intro w'; go_simp; with_reducible rfl
     ·simp only [Act.put, u1, u2, u3, i64_w, i32_w]; rfl
     apply un (i := 4) (N := some 49) (bA 20 31) rfl rfl (any_of HT_.out (by kernel_rfl)) (fun _ _ _ h => h) rfl
     ·simp only [Act.put, u1, u2, u3, i64_w, i32_w]; rfl
     apply un (i := 5) (N := some 50) (bA 20 63) rfl rfl (any_of HT_.out (by kernel_rfl)) (fun _ _ _ h => h) rfl
     ·simp only [Act.put, u1, u2, u3, i64_w, i32_w]; rfl
     apply un (i := 6) (N := some 51) (bA 20 127) rfl rfl (any_of HT_.out (by kernel_rfl)) (fun _ _ _ h => h) rfl
     ·simp only [Act.put, u1, u2, u3, i64_w, i32_w]; rfl
     apply un (i := 7) (N := some 52) (bA 20 255) rfl rfl (any_of HT_.out (by kernel_rfl)) (fun _ _ _ h => h) rfl
     ·simp only [Act.put, u1, u2, u3, i64_w, i32_w]; rfl
     apply un (i := 8) (N := some 53) (bA 20 511) rfl rfl (any_of HT_.out (by kernel_rfl)) (fun _ _ _ h => h) rfl
     ·simp only [Act.put, u1, u2, u3, i64_w, i32_w]; rfl
     apply pu (i := 9) (N := some 54) (bA 20 1023) rfl rfl (any_of HT_.out (by kernel_rfl)) (fun _ _ _ h => h) rfl
     ·intro w'; go_simp; with_reducible rfl
     ·simp only [Act.put, u1, u2, u3, i64_w, i32_w]; rfl
     apply pu (i := 10) (N := some 55) (bA 20 2047) rfl rfl (any_of HT_.out (by kernel_rfl)) (fun _ _ _ h => h) rfl
     ·intro w'; go_simp; with_reducible rfl
     ·simp only [Act.put, u1, u2, u3, i64_w, i32_w]; rfl
     apply un (i := 11) (N := some 56) (bA 20 4095) rfl rfl (any_of HT_.out (by kernel_rfl)) (fun _ _ _ h => h) rfl
     ·simp only [Act.put, u1, u2, u3, i64_w, i32_w]; rfl
     apply un (i := 12) (N := some 57) (bA 20 8191) rfl rfl (any_of HT_.out (by kernel_rfl)) (fun _ _ _ h => h) rfl
     ·simp only [Act.put, u1, u2, u3, i64_w, i32_w]; rfl
     apply un (i := 13) (N := some 58) (bA 20 16383) rfl rfl (any_of HT_.out (by kernel_rfl)) (fun _ _ _ h => h) rfl
     ·simp only [Act.put, u1, u2, u3, i64_w, i32_w]; rfl
     apply un (i := 14) (N := some 59) (bA 20 32767) rfl rfl (any_of HT_.out (by kernel_rfl)) (fun _ _ _ h => h) rfl
     ·simp only [Act.put, u1, u2, u3, i64_w, i32_w]; rfl
     apply un (i := 15) (N := some 60) (bA 20 65535) rfl rfl (any_of HT_.out (by kernel_rfl)) (fun _ _ _ h => h) rfl
     ·simp only [Act.put, u1, u2, u3, i64_w, i32_w]; rfl
     apply un (i := 16) (N := some 61) (bA 20 131071) rfl rfl (any_of HT_.out (by kernel_rfl)) (fun _ _ _ h => h) rfl
     ·simp only [Act.put, u1, u2, u3, i64_w, i32_w]; rfl
     apply un (i := 17) (N := some 62) (bA 20 262143) rfl rfl (any_of HT_.out (by kernel_rfl)) (fun _ _ _ h => h) rfl
     ·simp only [Act.put, u1, u2, u3, i64_w, i32_w]; rfl
     apply un (i := 18) (N := some 63) (bA 20 524287) rfl rfl (any_of HT_.out (by kernel_rfl)) (fun _ _ _ h => h) rfl
     ·simp only [Act.put, u1, u2, u3, i64_w, i32_w]; rfl
     apply pu (i := 19) (N := some 64) (bA 20 1048575) rfl rfl (any_of HT_.out (by kernel_rfl)) (fun _ _ _ h => h) rfl
     ·intro w'; go_simp; with_reducible rfl
     ·simp only [Act.put, u1, u2, u3, i64_w, i32_w]; rfl
     refine done_ (done_of HT_.out (by kernel_rfl)) ?_
     try go_wp2
     go_meet
     case rel => exact ⟨_, (true), (by first | rfl | (simp; done) | (simp [*]; done)), H', ⟨by have := HJ5.out; first | omega | exact Nat.le_refl _⟩, ⟨rS (Kd.R_mono HO119.out (fun _ hk => hk.2.2.2.2))⟩, ⟨rS (Kd.R_mono HO135.out (fun _ hk => hk.2.2.1))⟩, ⟨by (with_reducible repeat (first | refine blk_drewN ?_ _ | refine blk_drew ?_ | refine blk_alloc ?_ _)); exact BK101.out⟩, ⟨by (with_reducible repeat (first | refine blk_drewN ?_ _ | refine blk_drew ?_ | refine blk_alloc ?_ _)); exact BK102.out⟩, ⟨by (with_reducible repeat (first | refine blk_drewN ?_ _ | refine blk_drew ?_ | refine blk_alloc ?_ _)); exact BK121.out⟩, ⟨by (with_reducible repeat (first | refine blk_drewN ?_ _ | refine blk_drew ?_ | refine blk_alloc ?_ _)); exact BK137.out⟩, ⟨by repeat (first | (with_reducible first | exact HB.out | apply below_alloc | apply pw_below_drewN | apply below_drew1 | refine below_set ?_ GE101.out | refine below_set ?_ GE102.out | refine below_set ?_ GE121.out | refine below_set ?_ GE137.out) | exact HB.out)⟩⟩
    case rest =>
     clear HC34
     try clear c1
     try clear c2
     try clear p2
     try clear c3
     try clear c5
     try clear c29
     try clear c30
     try clear c58
     try clear c58b0
     try clear c58b1
     try clear c59
     try clear c59b0
     try clear c59b1
     obtain ⟨kq, x64_33, rfl, HA, HJ33, HO_122001, HO_138001, BK101, BK102, BK121, BK137, HB⟩ := hcut
     cases kq with
     | zero => exact absurd HA.out (by simp [hatchwaylaw32_HelloAgrees.j1])
     | succ kj33 =>
      have H := HA.out
      clear HA
      simp only [hatchwaylaw32_HelloAgrees.j1] at H
      by_cases c73 : x64_33 = true
      ·subst c73
       have H1 : (some false) = some r := by rw [if_pos rfl] at H; exact H
       clear H
       have H := H1
       clear H1
       exact absurd ((Option.some.inj H).trans ht_) (by decide)
      replace c73 := Bool.eq_false_iff.mpr c73
      subst c73
      have H1 : ((hatchwayref32_May.f kj33 a0_0 a0_1 l0_2).bind fun t145 => (if t145 = true then ((hatchwayref32_May.f kj33 a1_0 a1_1 l1_2).bind fun t146 => (hatchwaylaw32_HelloAgrees.j2 kj33 a2 t120 (!t146) a0_0 a0_1 l0_2 a1_0 a1_1 l1_2 t116 t117)) else (hatchwaylaw32_HelloAgrees.j2 kj33 a2 t120 true a0_0 a0_1 l0_2 a1_0 a1_1 l1_2 t116 t117))) = some r := by rw [if_neg (show ¬ (false = true) by decide)] at H; exact H
      clear H
      have H := H1
      clear H1
      have HC74 := A0 H
      clear H
      go_upto_region 9 with (fail)
      go_cut [72] (fun v72 wc => ∃ (kq : Nat) (x72_73 : Bool), v72 = .bool x72_73 ∧ Aside0 (hatchwaylaw32_HelloAgrees.j2 kq a2 t120 x72_73 a0_0 a0_1 l0_2 a1_0 a1_1 l1_2 t116 t117 = some r) ∧ Aside0 (kq ≤ kj33) ∧ Aside0 (Kd.R k104 104 wc w.heap.size (fun k_ => some k_ ≠ ((.slice Ao56 t133.length co56) : Value).ownBlock) (.slice Ao44 t117.length co44) t117) ∧ Aside0 (Kd.R k104 104 wc w.heap.size (fun k_ => some k_ ≠ ((.slice Ao44 t117.length co44) : Value).ownBlock) (.slice Ao56 t133.length co56) t133) ∧ Aside0 (wc.heap[gb101]? = some (.cells #[.int .i64 a0_0, .int .i64 a0_1, (.slice A0_2 l0_2.length c0_2)] 39 (0, 0))) ∧ Aside0 (wc.heap[gb102]? = some (.cells #[.int .i64 a1_0, .int .i64 a1_1, (.slice A1_2 l1_2.length c1_2)] 39 (0, 0))) ∧ Aside0 (wc.heap[gb121]? = some (.cells #[.int .i64 t116, (.slice Ao44 t117.length co44)] 43 (0, 0))) ∧ Aside0 (wc.heap[gb137]? = some (.cells #[.int .i64 t132, (.slice Ao56 t133.length co56)] 43 (0, 0))) ∧ Aside0 (Below w.heap.size w wc))
      case first =>
       have H := HC74.out
       clear HC74
       replace H := Option.bind_eq_some_iff.mp H
       obtain ⟨t145, A750, H⟩ := H
       replace H : (if t145 = true then ((hatchwayref32_May.f kj33 a1_0 a1_1 l1_2).bind fun t146 => (hatchwaylaw32_HelloAgrees.j2 kj33 a2 t120 (!t146) a0_0 a0_1 l0_2 a1_0 a1_1 l1_2 t116 t117)) else (hatchwaylaw32_HelloAgrees.j2 kj33 a2 t120 true a0_0 a0_1 l0_2 a1_0 a1_1 l1_2 t116 t117)) = some r := H
       have A75 := A0 A750
       clear A750
       by_cases c76 : t145 = true
       ·subst c76
        have H1 : ((hatchwayref32_May.f kj33 a1_0 a1_1 l1_2).bind fun t146 => (hatchwaylaw32_HelloAgrees.j2 kj33 a2 t120 (!t146) a0_0 a0_1 l0_2 a1_0 a1_1 l1_2 t116 t117)) = some r := by rw [if_pos rfl] at H; exact H
        clear H
        have H := H1
        clear H1
        replace H := Option.bind_eq_some_iff.mp H
        obtain ⟨t146, A770, H⟩ := H
        replace H : (hatchwaylaw32_HelloAgrees.j2 kj33 a2 t120 (!t146) a0_0 a0_1 l0_2 a1_0 a1_1 l1_2 t116 t117) = some r := H
        have A77 := A0 A770
        clear A770
        have H' := A0 H
        clear H
        have hnb78 := NB101_102.out
        have hnc78 := NB102_101.out
        have hnb79 := NB101_121.out
        have hnc79 := NB121_101.out
        have hnb80 := NB101_137.out
        have hnc80 := NB137_101.out
        have hcz81_0 : wc.cell? ⟨gb101, 0, none⟩ = some (.int .i64 a0_0) := bc BK101.out 0
        have hcz81_1 : wc.cell? ⟨gb101, 1, none⟩ = some (.int .i64 a0_1) := bc BK101.out 1
        have hcz81_2 : wc.cell? ⟨gb101, 2, none⟩ = some (.slice A0_2 l0_2.length c0_2) := bc BK101.out 2
        have hfz81_0 := blk_frozen BK101.out 0
        have hfz81_1 := blk_frozen BK101.out 1
        have hfz81_2 := blk_frozen BK101.out 2
        go_wp2_with (first | ((with_reducible refine gate_callee (f := 31) rfl ?_); refine goesL_ (some 66) rfl rfl Try.func31 (by kernel_rfl) rfl #[.agg #[.int .i64 a0_0, .int .i64 a0_1, .slice A0_2 l0_2.length c0_2]] rfl (by (try simp only [List.map_toArray, List.map_cons, List.map_nil]); first | done | rfl | (simp only [List.length_drop, List.length_take]; rfl)) ?_; (with_reducible refine (hatchwayref32_May.calls kj33 a0_0 a0_1 _ _ l0_2 true _ ?side1 ?side2 A75.out).mono ?_); (case side1 => repeat (first | exact (Kd.C_below HR0_2.out HB.out) | (with_reducible refine Kd.C_alloc ?_ _) | (with_reducible refine Kd.C_drewN ?_ _) | (with_reducible refine Kd.C_drew ?_))); (case side2 => exact HC0_2.out); rintro e w82 ⟨rfl, hb⟩; refine ⟨_, rfl, ?_⟩; replace HO_122001 := A0 (Kd.R_below (rS HO_122001.out) hb); replace HO_138001 := A0 (Kd.R_below (rS HO_138001.out) hb); replace BK101 := A0 (blk_below (bS BK101.out) hb); replace BK102 := A0 (blk_below (bS BK102.out) hb); replace BK121 := A0 (blk_below (bS BK121.out) hb); replace BK137 := A0 (blk_below (bS BK137.out) hb); replace HB := A0 (below_step (lS HB.out) hb); (try clear hb); (try clear hb2); (try clear hk); (try clear hi); have hnb83 := NB102_121.out; have hnc83 := NB121_102.out; have hnb84 := NB102_137.out; have hnc84 := NB137_102.out; have hcz85_0 : w82.cell? ⟨gb102, 0, none⟩ = some (.int .i64 a1_0) := bc BK102.out 0; have hcz85_1 : w82.cell? ⟨gb102, 1, none⟩ = some (.int .i64 a1_1) := bc BK102.out 1; have hcz85_2 : w82.cell? ⟨gb102, 2, none⟩ = some (.slice A1_2 l1_2.length c1_2) := bc BK102.out 2; have hfz85_0 := blk_frozen BK102.out 0; have hfz85_1 := blk_frozen BK102.out 1; have hfz85_2 := blk_frozen BK102.out 2) | (go_at_call 31; (with_reducible refine (hatchwayref32_May.calls kj33 a1_0 a1_1 _ _ l1_2 t146 _ ?side1 ?side2 A77.out).mono ?_); (case side1 => repeat (first | exact (Kd.C_below HR1_2.out HB.out) | (with_reducible refine Kd.C_alloc ?_ _) | (with_reducible refine Kd.C_drewN ?_ _) | (with_reducible refine Kd.C_drew ?_))); (case side2 => exact HC1_2.out); rintro e w86 ⟨rfl, hb⟩; replace HO_122001 := A0 (Kd.R_below (rS HO_122001.out) hb); replace HO_138001 := A0 (Kd.R_below (rS HO_138001.out) hb); replace BK101 := A0 (blk_below (bS BK101.out) hb); replace BK102 := A0 (blk_below (bS BK102.out) hb); replace BK121 := A0 (blk_below (bS BK121.out) hb); replace BK137 := A0 (blk_below (bS BK137.out) hb); replace HB := A0 (below_step (lS HB.out) hb); (try clear hb); (try clear hb2); (try clear hk); (try clear hi)))
        go_meet
        case rel => exact ⟨_, (!t146), (by first | rfl | (simp; done) | (simp [*]; done)), H', ⟨by have := HJ5.out; have := HJ33.out; first | omega | exact Nat.le_refl _⟩, ⟨rS (HO_122001.out)⟩, ⟨rS (HO_138001.out)⟩, ⟨by (with_reducible repeat (first | refine blk_drewN ?_ _ | refine blk_drew ?_ | refine blk_alloc ?_ _)); exact BK101.out⟩, ⟨by (with_reducible repeat (first | refine blk_drewN ?_ _ | refine blk_drew ?_ | refine blk_alloc ?_ _)); exact BK102.out⟩, ⟨by (with_reducible repeat (first | refine blk_drewN ?_ _ | refine blk_drew ?_ | refine blk_alloc ?_ _)); exact BK121.out⟩, ⟨by (with_reducible repeat (first | refine blk_drewN ?_ _ | refine blk_drew ?_ | refine blk_alloc ?_ _)); exact BK137.out⟩, ⟨by repeat (first | (with_reducible first | exact HB.out | apply below_alloc | apply pw_below_drewN | apply below_drew1 | refine below_set ?_ GE101.out | refine below_set ?_ GE102.out | refine below_set ?_ GE121.out | refine below_set ?_ GE137.out) | exact HB.out)⟩⟩
       replace c76 := Bool.eq_false_iff.mpr c76
       subst c76
       have H1 : (hatchwaylaw32_HelloAgrees.j2 kj33 a2 t120 true a0_0 a0_1 l0_2 a1_0 a1_1 l1_2 t116 t117) = some r := by rw [if_neg (show ¬ (false = true) by decide)] at H; exact H
       clear H
       have H := H1
       clear H1
       have H' := A0 H
       clear H
       have hnb87 := NB101_102.out
       have hnc87 := NB102_101.out
       have hnb88 := NB101_121.out
       have hnc88 := NB121_101.out
       have hnb89 := NB101_137.out
       have hnc89 := NB137_101.out
       have hcz90_0 : wc.cell? ⟨gb101, 0, none⟩ = some (.int .i64 a0_0) := bc BK101.out 0
       have hcz90_1 : wc.cell? ⟨gb101, 1, none⟩ = some (.int .i64 a0_1) := bc BK101.out 1
       have hcz90_2 : wc.cell? ⟨gb101, 2, none⟩ = some (.slice A0_2 l0_2.length c0_2) := bc BK101.out 2
       have hfz90_0 := blk_frozen BK101.out 0
       have hfz90_1 := blk_frozen BK101.out 1
       have hfz90_2 := blk_frozen BK101.out 2
       go_wp2_with (first | ((with_reducible refine gate_callee (f := 31) rfl ?_); refine goesL_ (some 66) rfl rfl Try.func31 (by kernel_rfl) rfl #[.agg #[.int .i64 a0_0, .int .i64 a0_1, .slice A0_2 l0_2.length c0_2]] rfl (by (try simp only [List.map_toArray, List.map_cons, List.map_nil]); first | done | rfl | (simp only [List.length_drop, List.length_take]; rfl)) ?_; (with_reducible refine (hatchwayref32_May.calls kj33 a0_0 a0_1 _ _ l0_2 false _ ?side1 ?side2 A75.out).mono ?_); (case side1 => repeat (first | exact (Kd.C_below HR0_2.out HB.out) | (with_reducible refine Kd.C_alloc ?_ _) | (with_reducible refine Kd.C_drewN ?_ _) | (with_reducible refine Kd.C_drew ?_))); (case side2 => exact HC0_2.out); rintro e w91 ⟨rfl, hb⟩; refine ⟨_, rfl, ?_⟩; replace HO_122001 := A0 (Kd.R_below (rS HO_122001.out) hb); replace HO_138001 := A0 (Kd.R_below (rS HO_138001.out) hb); replace BK101 := A0 (blk_below (bS BK101.out) hb); replace BK102 := A0 (blk_below (bS BK102.out) hb); replace BK121 := A0 (blk_below (bS BK121.out) hb); replace BK137 := A0 (blk_below (bS BK137.out) hb); replace HB := A0 (below_step (lS HB.out) hb); (try clear hb); (try clear hb2); (try clear hk); (try clear hi)))
       go_meet
       case rel => exact ⟨_, (true), (by first | rfl | (simp; done) | (simp [*]; done)), H', ⟨by have := HJ5.out; have := HJ33.out; first | omega | exact Nat.le_refl _⟩, ⟨rS (HO_122001.out)⟩, ⟨rS (HO_138001.out)⟩, ⟨by (with_reducible repeat (first | refine blk_drewN ?_ _ | refine blk_drew ?_ | refine blk_alloc ?_ _)); exact BK101.out⟩, ⟨by (with_reducible repeat (first | refine blk_drewN ?_ _ | refine blk_drew ?_ | refine blk_alloc ?_ _)); exact BK102.out⟩, ⟨by (with_reducible repeat (first | refine blk_drewN ?_ _ | refine blk_drew ?_ | refine blk_alloc ?_ _)); exact BK121.out⟩, ⟨by (with_reducible repeat (first | refine blk_drewN ?_ _ | refine blk_drew ?_ | refine blk_alloc ?_ _)); exact BK137.out⟩, ⟨by repeat (first | (with_reducible first | exact HB.out | apply below_alloc | apply pw_below_drewN | apply below_drew1 | refine below_set ?_ GE101.out | refine below_set ?_ GE102.out | refine below_set ?_ GE121.out | refine below_set ?_ GE137.out) | exact HB.out)⟩⟩
      case rest =>
       clear HC74
       try clear c1
       try clear c2
       try clear p2
       try clear c3
       try clear c5
       try clear c7
       try clear c8
       try clear c29
       try clear c30
       try clear c31
       try clear c58
       try clear c58b0
       try clear c58b1
       try clear c59
       try clear c59b0
       try clear c59b1
       try clear c73
       try clear c76
       try clear c78
       try clear c79
       try clear c80
       try clear c83
       try clear c84
       try clear c87
       try clear c88
       try clear c89
       try clear hcz81_0
       try clear hcz81_1
       try clear hcz81_2
       try clear hcz85_0
       try clear hcz85_1
       try clear hcz85_2
       try clear hcz90_0
       try clear hcz90_1
       try clear hcz90_2
       try clear hfz81_0
       try clear hfz81_1
       try clear hfz81_2
       try clear hfz85_0
       try clear hfz85_1
       try clear hfz85_2
       try clear hfz90_0
       try clear hfz90_1
       try clear hfz90_2
       try clear p2
       obtain ⟨kq, x72_73, rfl, HA, HJ73, HO_122001, HO_138001, BK101, BK102, BK121, BK137, HB⟩ := hcut
       cases kq with
       | zero => exact absurd HA.out (by simp [hatchwaylaw32_HelloAgrees.j2])
       | succ kj73 =>
        have H := HA.out
        clear HA
        simp only [hatchwaylaw32_HelloAgrees.j2] at H
        by_cases c92 : x72_73 = true
        ·subst c92
         have H1 : (if t120 = 1 then (if t116 = 0 then (some ((t117.length : Int) == 0)) else (some false)) else (some false)) = some r := by rw [if_pos rfl] at H; exact H
         clear H
         have H := H1
         clear H1
         by_cases c93 : t120 = 1
         rotate_left
         ·rw [if_neg c93] at H
          exact absurd ((Option.some.inj H).trans ht_) (by decide)
         rw [if_pos c93] at H
         have c93b0 : (t120 == 1) = true := beq_iff_eq.mpr c93
         have c93b1 : (t120 != 1) = false := bne_eq_false_iff_eq.mpr c93
         clear c93
         by_cases c94 : t116 = 0
         rotate_left
         ·rw [if_neg c94] at H
          exact absurd ((Option.some.inj H).trans ht_) (by decide)
         rw [if_pos c94] at H
         have c94b0 : (t116 == 0) = true := beq_iff_eq.mpr c94
         have c94b1 : (t116 != 0) = false := bne_eq_false_iff_eq.mpr c94
         clear c94
         obtain rfl := Option.some.inj H
         have hnb95 := NB121_101.out
         have hnc95 := NB101_121.out
         have hnb96 := NB121_102.out
         have hnc96 := NB102_121.out
         have hnb97 := NB121_137.out
         have hnc97 := NB137_121.out
         have hcz98_0 : wc.cell? ⟨gb121, 0, none⟩ = some (.int .i64 t116) := bc BK121.out 0
         have hcz98_1 : wc.cell? ⟨gb121, 1, none⟩ = some (.slice Ao44 t117.length co44) := bc BK121.out 1
         have hfz98_0 := blk_frozen BK121.out 0
         have hfz98_1 := blk_frozen BK121.out 1
         go_wp2
         go_ret
         exact ⟨by first | rfl | (simp [errW_none, errW_some] <;> rfl) | (simp [*, errW_none, errW_some] <;> rfl), by repeat (first | (with_reducible first | exact HB.out | apply below_alloc | apply pw_below_drewN | apply below_drew1 | refine below_set ?_ GE101.out | refine below_set ?_ GE102.out | refine below_set ?_ GE121.out | refine below_set ?_ GE137.out) | exact HB.out)⟩
        replace c92 := Bool.eq_false_iff.mpr c92
        subst c92
        have H1 : ((hatchwayref32_Agree.f kj73 a0_0 a0_1 l0_2 a1_0 a1_1 l1_2).bind fun bt147 => (if bt147.2.2 = true then (if t120 = 0 then (if t116 = bt147.1 then ((hatchwaylaw32_plain.f kj73 t117).bind fun t153 => ((hatchwayref32_Same.f kj73 t153 bt147.2.1).bind fun t156 => (hatchwaylaw32_HelloAgrees.j3 kj73 a2 (!t156) t116 t117 bt147.1 bt147.2.1))) else (hatchwaylaw32_HelloAgrees.j3 kj73 a2 true t116 t117 bt147.1 bt147.2.1)) else (hatchwaylaw32_HelloAgrees.j3 kj73 a2 true t116 t117 bt147.1 bt147.2.1)) else (if t120 = 7 then (if t116 = 0 then (some ((t117.length : Int) == 0)) else (some false)) else (some false)))) = some r := by rw [if_neg (show ¬ (false = true) by decide)] at H; exact H
        clear H
        have H := H1
        clear H1
        replace H := Option.bind_eq_some_iff.mp H
        obtain ⟨⟨t147, t148, t151⟩, A1030, H⟩ := H
        replace H : (if t151 = true then (if t120 = 0 then (if t116 = t147 then ((hatchwaylaw32_plain.f kj73 t117).bind fun t153 => ((hatchwayref32_Same.f kj73 t153 t148).bind fun t156 => (hatchwaylaw32_HelloAgrees.j3 kj73 a2 (!t156) t116 t117 t147 t148))) else (hatchwaylaw32_HelloAgrees.j3 kj73 a2 true t116 t117 t147 t148)) else (hatchwaylaw32_HelloAgrees.j3 kj73 a2 true t116 t117 t147 t148)) else (if t120 = 7 then (if t116 = 0 then (some ((t117.length : Int) == 0)) else (some false)) else (some false))) = some r := H
        have A103 := A0 A1030
        clear A1030
        by_cases c104 : t151 = true
        ·subst c104
         have H1 : (if t120 = 0 then (if t116 = t147 then ((hatchwaylaw32_plain.f kj73 t117).bind fun t153 => ((hatchwayref32_Same.f kj73 t153 t148).bind fun t156 => (hatchwaylaw32_HelloAgrees.j3 kj73 a2 (!t156) t116 t117 t147 t148))) else (hatchwaylaw32_HelloAgrees.j3 kj73 a2 true t116 t117 t147 t148)) else (hatchwaylaw32_HelloAgrees.j3 kj73 a2 true t116 t117 t147 t148)) = some r := by rw [if_pos rfl] at H; exact H
         clear H
         have H := H1
         clear H1
         have HC105 := A0 H
         clear H
         have hnb106 := NB101_102.out
         have hnc106 := NB102_101.out
         have hnb107 := NB101_121.out
         have hnc107 := NB121_101.out
         have hnb108 := NB101_137.out
         have hnc108 := NB137_101.out
         have hcz109_0 : wc.cell? ⟨gb101, 0, none⟩ = some (.int .i64 a0_0) := bc BK101.out 0
         have hcz109_1 : wc.cell? ⟨gb101, 1, none⟩ = some (.int .i64 a0_1) := bc BK101.out 1
         have hcz109_2 : wc.cell? ⟨gb101, 2, none⟩ = some (.slice A0_2 l0_2.length c0_2) := bc BK101.out 2
         have hfz109_0 := blk_frozen BK101.out 0
         have hfz109_1 := blk_frozen BK101.out 1
         have hfz109_2 := blk_frozen BK101.out 2
         have hnb110 := NB102_121.out
         have hnc110 := NB121_102.out
         have hnb111 := NB102_137.out
         have hnc111 := NB137_102.out
         have hcz112_0 : wc.cell? ⟨gb102, 0, none⟩ = some (.int .i64 a1_0) := bc BK102.out 0
         have hcz112_1 : wc.cell? ⟨gb102, 1, none⟩ = some (.int .i64 a1_1) := bc BK102.out 1
         have hcz112_2 : wc.cell? ⟨gb102, 2, none⟩ = some (.slice A1_2 l1_2.length c1_2) := bc BK102.out 2
         have hfz112_0 := blk_frozen BK102.out 0
         have hfz112_1 := blk_frozen BK102.out 1
         have hfz112_2 := blk_frozen BK102.out 2
         go_upto_region 14 with (first | ((with_reducible refine gate_callee (f := 32) rfl ?_); refine goesL_ (some 89) rfl rfl Try.func32 (by kernel_rfl) rfl #[.agg #[.int .i64 a0_0, .int .i64 a0_1, .slice A0_2 l0_2.length c0_2], .agg #[.int .i64 a1_0, .int .i64 a1_1, .slice A1_2 l1_2.length c1_2]] rfl (by (try simp only [List.map_toArray, List.map_cons, List.map_nil]); first | done | rfl | (simp only [List.length_drop, List.length_take]; rfl)) ?_; (with_reducible refine (hatchwayref32_Agree.calls kj73 a0_0 a0_1 _ _ l0_2 a1_0 a1_1 _ _ l1_2 t147 t148 true _ ?side1 ?side2 ?side3 ?side4 A103.out).mono ?_); (case side1 => repeat (first | exact (Kd.C_below HR0_2.out HB.out) | (with_reducible refine Kd.C_alloc ?_ _) | (with_reducible refine Kd.C_drewN ?_ _) | (with_reducible refine Kd.C_drew ?_))); (case side2 => exact HC0_2.out); (case side3 => repeat (first | exact (Kd.C_below HR1_2.out HB.out) | (with_reducible refine Kd.C_alloc ?_ _) | (with_reducible refine Kd.C_drewN ?_ _) | (with_reducible refine Kd.C_drew ?_))); (case side4 => exact HC1_2.out); rintro e w113 ⟨v149, rfl, ho0, hb⟩; refine ⟨_, rfl, ?_⟩; replace HO_122001 := A0 (Kd.R_below (rS HO_122001.out) hb); replace HO_138001 := A0 (Kd.R_below (rS HO_138001.out) hb); have HO150 := A0 (Kd.R_lower ho0 (below_size (lS HB.out))); replace BK101 := A0 (blk_below (bS BK101.out) hb); replace BK102 := A0 (blk_below (bS BK102.out) hb); replace BK121 := A0 (blk_below (bS BK121.out) hb); replace BK137 := A0 (blk_below (bS BK137.out) hb); replace HB := A0 (below_step (lS HB.out) hb); (try clear hb); (try clear hb2); (try clear hk); (try clear hi); (try clear ho0)) | ((with_reducible refine gate_dst (N := 11) rfl ?_); (try (refine gate_guard (by rfl) ?_; dsimp only)); refine box_event ?hg (N := 11) ?hd (cs := #[.int .i64 0, .slice none 0 0]) (t := 52) ?hr ?_; (case hd => rfl); (case hg => rfl); (case hr => first | (go_simp; done) | (go_simp; rfl)); intro gb152 hg w114 hbox hb; have n0_ := A0 (Kd.R_below (rS HO_122001.out) hb); have n1_ := A0 (Kd.R_below (rS HO_138001.out) hb); have n2_ := A0 (Kd.R_below (rS HO150.out) hb); have n3_ := A0 (blk_below (bS BK101.out) hb); have n4_ := A0 (blk_below (bS BK102.out) hb); have n5_ := A0 (blk_below (bS BK121.out) hb); have n6_ := A0 (blk_below (bS BK137.out) hb); have n7_ := A0 (below_step (lS HB.out) hb); have n8_ := A0 (hbox); have n9_ := A0 ((by rw [hg]; exact (below_size (lS HB.out)) : w.heap.size ≤ gb152)); have n10_ := A0 ((by rw [hg]; exact (below_size (lS HB.out)) : w.heap.size ≤ gb152)); have n11_ := A0 ((by rw [hg]; exact Nat.ne_of_lt (blk_lt (g := gb101) (o := .cells #[.int .i64 a0_0, .int .i64 a0_1, .slice A0_2 l0_2.length c0_2] 39 (0, 0)) (bS BK101.out)) : gb101 ≠ gb152)); have n12_ := A0 ((by rw [hg]; exact Nat.ne_of_gt (blk_lt (g := gb101) (o := .cells #[.int .i64 a0_0, .int .i64 a0_1, .slice A0_2 l0_2.length c0_2] 39 (0, 0)) (bS BK101.out)) : gb152 ≠ gb101)); have n13_ := A0 ((by rw [hg]; exact Nat.ne_of_lt (blk_lt (g := gb102) (o := .cells #[.int .i64 a1_0, .int .i64 a1_1, .slice A1_2 l1_2.length c1_2] 39 (0, 0)) (bS BK102.out)) : gb102 ≠ gb152)); have n14_ := A0 ((by rw [hg]; exact Nat.ne_of_gt (blk_lt (g := gb102) (o := .cells #[.int .i64 a1_0, .int .i64 a1_1, .slice A1_2 l1_2.length c1_2] 39 (0, 0)) (bS BK102.out)) : gb152 ≠ gb102)); have n15_ := A0 ((by rw [hg]; exact Nat.ne_of_lt (blk_lt (g := gb121) (o := .cells #[.int .i64 t116, .slice Ao44 t117.length co44] 43 (0, 0)) (bS BK121.out)) : gb121 ≠ gb152)); have n16_ := A0 ((by rw [hg]; exact Nat.ne_of_gt (blk_lt (g := gb121) (o := .cells #[.int .i64 t116, .slice Ao44 t117.length co44] 43 (0, 0)) (bS BK121.out)) : gb152 ≠ gb121)); have n17_ := A0 ((by rw [hg]; exact Nat.ne_of_lt (blk_lt (g := gb137) (o := .cells #[.int .i64 t132, .slice Ao56 t133.length co56] 43 (0, 0)) (bS BK137.out)) : gb137 ≠ gb152)); have n18_ := A0 ((by rw [hg]; exact Nat.ne_of_gt (blk_lt (g := gb137) (o := .cells #[.int .i64 t132, .slice Ao56 t133.length co56] 43 (0, 0)) (bS BK137.out)) : gb152 ≠ gb137)); clear HO_122001; clear HO_138001; clear HO150; clear BK101; clear BK102; clear BK121; clear BK137; clear HB; have HO_122001 := n0_; have HO_138001 := n1_; have HO150 := n2_; have BK101 := n3_; have BK102 := n4_; have BK121 := n5_; have BK137 := n6_; have HB := n7_; have BK152 := n8_; have GW152 := n9_; have GE152 := n10_; have NB101_152 := n11_; have NB152_101 := n12_; have NB102_152 := n13_; have NB152_102 := n14_; have NB121_152 := n15_; have NB152_121 := n16_; have NB137_152 := n17_; have NB152_137 := n18_; clear n0_ n1_ n2_ n3_ n4_ n5_ n6_ n7_ n8_ n9_ n10_ n11_ n12_ n13_ n14_ n15_ n16_ n17_ n18_; clear hb hbox hg; have hnb115 := NB152_101.out; have hnc115 := NB101_152.out; have hnb116 := NB152_102.out; have hnc116 := NB102_152.out; have hnb117 := NB152_121.out; have hnc117 := NB121_152.out; have hnb118 := NB152_137.out; have hnc118 := NB137_152.out; have hcz119_0 : w114.cell? ⟨gb152, 0, none⟩ = some (.int .i64 0) := bc BK152.out 0; have hcz119_1 : w114.cell? ⟨gb152, 1, none⟩ = some (.slice none 0 0) := bc BK152.out 1; have hfz119_0 := blk_frozen BK152.out 0; have hfz119_1 := blk_frozen BK152.out 1; obtain ⟨Ao120, co120, eo120⟩ := Kd.R_slice HO150.out; subst eo120))
         (try simp only [Act.put, u1, u2, u3])
         go_cut [124] (fun v124 wc => ∃ (kq : Nat) (x124_104 : Bool), v124 = .bool x124_104 ∧ Aside0 (hatchwaylaw32_HelloAgrees.j3 kq a2 x124_104 t116 t117 t147 t148 = some r) ∧ Aside0 (kq ≤ kj73) ∧ Aside0 (Kd.R k104 104 wc w.heap.size (fun k_ => some k_ ≠ ((.slice Ao56 t133.length co56) : Value).ownBlock) (.slice Ao44 t117.length co44) t117) ∧ Aside0 (Kd.R k104 104 wc w.heap.size (fun k_ => some k_ ≠ ((.slice Ao44 t117.length co44) : Value).ownBlock) (.slice Ao56 t133.length co56) t133) ∧ Aside0 (Kd.R k58 58 wc w.heap.size (fun _ => True) (.slice Ao120 t148.length co120) t148) ∧ Aside0 (wc.heap[gb101]? = some (.cells #[.int .i64 a0_0, .int .i64 a0_1, (.slice A0_2 l0_2.length c0_2)] 39 (0, 0))) ∧ Aside0 (wc.heap[gb102]? = some (.cells #[.int .i64 a1_0, .int .i64 a1_1, (.slice A1_2 l1_2.length c1_2)] 39 (0, 0))) ∧ Aside0 (wc.heap[gb121]? = some (.cells #[.int .i64 t116, (.slice Ao44 t117.length co44)] 43 (0, 0))) ∧ Aside0 (wc.heap[gb137]? = some (.cells #[.int .i64 t132, (.slice Ao56 t133.length co56)] 43 (0, 0))) ∧ Aside0 (wc.heap[gb152]? = some (.cells #[.int .i64 t147, (.slice Ao120 t148.length co120)] 52 (0, 0))) ∧ Aside0 (Below w.heap.size w wc))
         case first =>
          have H := HC105.out
          clear HC105
          by_cases c121 : t120 = 0
          ·rw [if_pos c121] at H
           have c121b0 : (t120 == 0) = true := beq_iff_eq.mpr c121
           have c121b1 : (t120 != 0) = false := bne_eq_false_iff_eq.mpr c121
           clear c121
           (first | rw [c121b0] | (simp only [i64_w, i32_w]; rw [c121b0]) | skip)
           by_cases c122 : t116 = t147
           ·rw [if_pos c122] at H
            have c122b0 : (t116 == t147) = true := beq_iff_eq.mpr c122
            have c122b1 : (t116 != t147) = false := bne_eq_false_iff_eq.mpr c122
            clear c122
            replace H := Option.bind_eq_some_iff.mp H
            obtain ⟨t153, A1230, H⟩ := H
            replace H : ((hatchwayref32_Same.f kj73 t153 t148).bind fun t156 => (hatchwaylaw32_HelloAgrees.j3 kj73 a2 (!t156) t116 t117 t147 t148)) = some r := H
            have A123 := A0 A1230
            clear A1230
            replace H := Option.bind_eq_some_iff.mp H
            obtain ⟨t156, A1240, H⟩ := H
            replace H : (hatchwaylaw32_HelloAgrees.j3 kj73 a2 (!t156) t116 t117 t147 t148) = some r := H
            have A124 := A0 A1240
            clear A1240
            have H' := A0 H
            clear H
            try go_wp2
            have n0_ : Aside0 (Kd.R k104 104 ((w114.setCell ⟨gb152, 0, none⟩ (.int .i64 t147)).setCell ⟨gb152, 1, none⟩ (.slice Ao120 t148.length co120)) w.heap.size (fun k_ => some k_ ≠ (.slice Ao56 t133.length co56 : Value).ownBlock) (.slice Ao44 t117.length co44) t117) := ⟨rS (Kd.R_mono (Kd.R_far (p := ⟨gb152, 1, none⟩) (Kd.R_far (p := ⟨gb152, 0, none⟩) (Kd.R_types HO_122001.out BK152.out (by decide)) (fun _ hk => hk.2) (.int .i64 t147)) (fun _ hk => hk.2) (.slice Ao120 t148.length co120)) (fun _ hk => hk.1))⟩
            have n1_ : Aside0 (Kd.R k104 104 ((w114.setCell ⟨gb152, 0, none⟩ (.int .i64 t147)).setCell ⟨gb152, 1, none⟩ (.slice Ao120 t148.length co120)) w.heap.size (fun k_ => some k_ ≠ (.slice Ao44 t117.length co44 : Value).ownBlock) (.slice Ao56 t133.length co56) t133) := ⟨rS (Kd.R_mono (Kd.R_far (p := ⟨gb152, 1, none⟩) (Kd.R_far (p := ⟨gb152, 0, none⟩) (Kd.R_types HO_138001.out BK152.out (by decide)) (fun _ hk => hk.2) (.int .i64 t147)) (fun _ hk => hk.2) (.slice Ao120 t148.length co120)) (fun _ hk => hk.1))⟩
            have n2_ : Aside0 (Kd.R k58 58 ((w114.setCell ⟨gb152, 0, none⟩ (.int .i64 t147)).setCell ⟨gb152, 1, none⟩ (.slice Ao120 t148.length co120)) w.heap.size (fun _ => True) (.slice Ao120 t148.length co120) t148) := ⟨rS (Kd.R_mono (Kd.R_far (p := ⟨gb152, 1, none⟩) (Kd.R_far (p := ⟨gb152, 0, none⟩) (Kd.R_types HO150.out BK152.out (by decide)) (fun _ hk => hk.2) (.int .i64 t147)) (fun _ hk => hk.2) (.slice Ao120 t148.length co120)) (fun _ hk => trivial))⟩
            have n3_ : Aside0 (((w114.setCell ⟨gb152, 0, none⟩ (.int .i64 t147)).setCell ⟨gb152, 1, none⟩ (.slice Ao120 t148.length co120)).heap[gb101]? = some (.cells #[.int .i64 a0_0, .int .i64 a0_1, .slice A0_2 l0_2.length c0_2] 39 (0, 0))) := ⟨by (with_reducible repeat (first | refine blk_drewN ?_ _ | refine blk_drew ?_ | refine blk_alloc ?_ _)); refine blk_far ?_ NB101_152.out _; (with_reducible repeat (first | refine blk_drewN ?_ _ | refine blk_drew ?_ | refine blk_alloc ?_ _)); refine blk_far ?_ NB101_152.out _; (with_reducible repeat (first | refine blk_drewN ?_ _ | refine blk_drew ?_ | refine blk_alloc ?_ _)); exact BK101.out⟩
            have n4_ : Aside0 (((w114.setCell ⟨gb152, 0, none⟩ (.int .i64 t147)).setCell ⟨gb152, 1, none⟩ (.slice Ao120 t148.length co120)).heap[gb102]? = some (.cells #[.int .i64 a1_0, .int .i64 a1_1, .slice A1_2 l1_2.length c1_2] 39 (0, 0))) := ⟨by (with_reducible repeat (first | refine blk_drewN ?_ _ | refine blk_drew ?_ | refine blk_alloc ?_ _)); refine blk_far ?_ NB102_152.out _; (with_reducible repeat (first | refine blk_drewN ?_ _ | refine blk_drew ?_ | refine blk_alloc ?_ _)); refine blk_far ?_ NB102_152.out _; (with_reducible repeat (first | refine blk_drewN ?_ _ | refine blk_drew ?_ | refine blk_alloc ?_ _)); exact BK102.out⟩
            have n5_ : Aside0 (((w114.setCell ⟨gb152, 0, none⟩ (.int .i64 t147)).setCell ⟨gb152, 1, none⟩ (.slice Ao120 t148.length co120)).heap[gb121]? = some (.cells #[.int .i64 t116, .slice Ao44 t117.length co44] 43 (0, 0))) := ⟨by (with_reducible repeat (first | refine blk_drewN ?_ _ | refine blk_drew ?_ | refine blk_alloc ?_ _)); refine blk_far ?_ NB121_152.out _; (with_reducible repeat (first | refine blk_drewN ?_ _ | refine blk_drew ?_ | refine blk_alloc ?_ _)); refine blk_far ?_ NB121_152.out _; (with_reducible repeat (first | refine blk_drewN ?_ _ | refine blk_drew ?_ | refine blk_alloc ?_ _)); exact BK121.out⟩
            have n6_ : Aside0 (((w114.setCell ⟨gb152, 0, none⟩ (.int .i64 t147)).setCell ⟨gb152, 1, none⟩ (.slice Ao120 t148.length co120)).heap[gb137]? = some (.cells #[.int .i64 t132, .slice Ao56 t133.length co56] 43 (0, 0))) := ⟨by (with_reducible repeat (first | refine blk_drewN ?_ _ | refine blk_drew ?_ | refine blk_alloc ?_ _)); refine blk_far ?_ NB137_152.out _; (with_reducible repeat (first | refine blk_drewN ?_ _ | refine blk_drew ?_ | refine blk_alloc ?_ _)); refine blk_far ?_ NB137_152.out _; (with_reducible repeat (first | refine blk_drewN ?_ _ | refine blk_drew ?_ | refine blk_alloc ?_ _)); exact BK137.out⟩
            have n7_ : Aside0 (((w114.setCell ⟨gb152, 0, none⟩ (.int .i64 t147)).setCell ⟨gb152, 1, none⟩ (.slice Ao120 t148.length co120)).heap[gb152]? = some (.cells #[.int .i64 t147, .slice Ao120 t148.length co120] 52 (0, 0))) := ⟨by (with_reducible repeat (first | refine blk_drewN ?_ _ | refine blk_drew ?_ | refine blk_alloc ?_ _)); refine blk_put (cs := #[.int .i64 t147, .slice none 0 0]) ?_ 1 _ rfl; (with_reducible repeat (first | refine blk_drewN ?_ _ | refine blk_drew ?_ | refine blk_alloc ?_ _)); refine blk_put (cs := #[.int .i64 0, .slice none 0 0]) ?_ 0 _ rfl; (with_reducible repeat (first | refine blk_drewN ?_ _ | refine blk_drew ?_ | refine blk_alloc ?_ _)); exact BK152.out⟩
            have n8_ : Aside0 (Below w.heap.size w ((w114.setCell ⟨gb152, 0, none⟩ (.int .i64 t147)).setCell ⟨gb152, 1, none⟩ (.slice Ao120 t148.length co120))) := ⟨by repeat (first | (with_reducible first | exact HB.out | apply below_alloc | apply pw_below_drewN | apply below_drew1 | refine below_set ?_ GE101.out | refine below_set ?_ GE102.out | refine below_set ?_ GE121.out | refine below_set ?_ GE137.out | refine below_set ?_ GE152.out) | exact HB.out)⟩
            (try clear HO_122001)
            (try clear HO_138001)
            (try clear HO150)
            (try clear BK101)
            (try clear BK102)
            (try clear BK121)
            (try clear BK137)
            (try clear BK152)
            (try clear HB)
            generalize ((w114.setCell ⟨gb152, 0, none⟩ (.int .i64 t147)).setCell ⟨gb152, 1, none⟩ (.slice Ao120 t148.length co120)) = w125 at n0_ n1_ n2_ n3_ n4_ n5_ n6_ n7_ n8_ ⊢
            have HO_122001 := n0_
            have HO_138001 := n1_
            have HO150 := n2_
            have BK101 := n3_
            have BK102 := n4_
            have BK121 := n5_
            have BK137 := n6_
            have BK152 := n7_
            have HB := n8_
            clear n0_ n1_ n2_ n3_ n4_ n5_ n6_ n7_ n8_
            replace HO_122001 := A0 (Kd.R_drew HO_122001.out)
            replace HO_138001 := A0 (Kd.R_drew HO_138001.out)
            replace HO150 := A0 (Kd.R_drew HO150.out)
            replace BK101 := A0 (blk_drew BK101.out)
            replace BK102 := A0 (blk_drew BK102.out)
            replace BK121 := A0 (blk_drew BK121.out)
            replace BK137 := A0 (blk_drew BK137.out)
            replace BK152 := A0 (blk_drew BK152.out)
            replace HB := A0 (below_drew1 HB.out)
            refine start_ (n := 18) (S := fun w' => w'.cell? ⟨gb121, 0, none⟩ = some (.int .i64 t116) ∧ w'.cell? ⟨gb121, 1, none⟩ = some (.slice Ao44 t117.length co44) ∧ w'.cell? ⟨gb152, 0, none⟩ = some (.int .i64 t147) ∧ w'.cell? ⟨gb152, 1, none⟩ = some (.slice Ao120 t148.length co120)) (ds := []) (bA 18 0) (by kernel_rfl) rfl rfl ⟨bc BK121.out 0, bc BK121.out 1, bc BK152.out 0, bc BK152.out 1⟩ (fun hHeld => ?_); refine with_tabW hatchwaylaw32_HelloAgrees.tab14 hatchwaylaw32_HelloAgrees.bits14 (fun HT_ HW_ => ?_)
            generalize w125.drew = w126 at HO_122001 HO_138001 HO150 BK101 BK102 BK121 BK137 BK152 HB hHeld ⊢
            apply pu (i := 0) (N := some 107) (bA 18 1) rfl rfl (any_of HT_.out (by kernel_rfl)) (fun _ _ _ h => h) rfl
            ·intro w'; go_simp; with_reducible rfl
            ·simp only [Act.put, u1, u2, u3, i64_w, i32_w]; rfl
            apply pu (i := 1) (N := some 108) (bA 18 3) rfl rfl (any_of HT_.out (by kernel_rfl)) (fun _ _ _ h => h) rfl
            ·intro w'; go_simp; with_reducible rfl
            ·simp only [Act.put, u1, u2, u3, i64_w, i32_w]; rfl
            apply pu (i := 2) (N := some 109) (bA 18 7) rfl rfl (any_of HT_.out (by kernel_rfl)) (fun _ _ _ h => h) rfl
            ·intro w'; go_simp; with_reducible rfl
            ·simp only [Act.put, u1, u2, u3, i64_w, i32_w]; rfl
            apply pu (i := 3) (N := some 110) (bA 18 15) rfl rfl (any_of HT_.out (by kernel_rfl)) (fun _ _ _ h => h) rfl
            ·intro w'; go_simp; with_reducible rfl
            ·simp only [Act.put, u1, u2, u3, i64_w, i32_w]; rfl
            apply pu (i := 5) (N := some 112) (bA 18 47) rfl rfl (any_of HT_.out (by kernel_rfl)) (fun _ _ _ h => h) rfl
            ·intro w'; go_simp; with_reducible rfl
            ·simp only [Act.put, u1, u2, u3, i64_w, i32_w]; rfl
            apply tk (i := 4) (N := some 111) (bA 18 63) rfl rfl (take_ofW HT_.out HW_.out (by kernel_rfl)) (fun _ _ _ h => h) rfl hHeld
            ·rintro w' ⟨s0, s1, s2, s3⟩; go_simp; with_reducible rfl
            ·simp only [Act.put, u1, u2, u3, i64_w, i32_w]; rfl
            apply tk (i := 6) (N := some 113) (bA 18 127) rfl rfl (take_ofW HT_.out HW_.out (by kernel_rfl)) (fun _ _ _ h => h) rfl hHeld
            ·rintro w' ⟨s0, s1, s2, s3⟩; go_simp; with_reducible rfl
            ·simp only [Act.put, u1, u2, u3, i64_w, i32_w]; rfl
            apply pu (i := 7) (N := some 114) (bA 18 255) rfl rfl (any_of HT_.out (by kernel_rfl)) (fun _ _ _ h => h) rfl
            ·intro w'; go_simp; with_reducible rfl
            ·simp only [Act.put, u1, u2, u3, i64_w, i32_w]; rfl
            apply pu (i := 8) (N := some 115) (bA 18 511) rfl rfl (any_of HT_.out (by kernel_rfl)) (fun _ _ _ h => h) rfl
            ·intro w'; go_simp; with_reducible rfl
            ·simp only [Act.put, u1, u2, u3, i64_w, i32_w]; rfl
            apply pu (i := 9) (N := some 116) (bA 18 1023) rfl rfl (any_of HT_.out (by kernel_rfl)) (fun _ _ _ h => h) rfl
            ·intro w'; go_simp; with_reducible rfl
            ·simp only [Act.put, u1, u2, u3, i64_w, i32_w]; rfl
            apply pu (i := 10) (N := some 117) (bA 18 2047) rfl rfl (any_of HT_.out (by kernel_rfl)) (fun _ _ _ h => h) rfl
            ·intro w'; go_simp; with_reducible rfl
            ·simp only [Act.put, u1, u2, u3, i64_w, i32_w]; rfl
            apply pu (i := 13) (N := some 120) (bA 18 10239) rfl rfl (any_of HT_.out (by kernel_rfl)) (fun _ _ _ h => h) rfl
            ·intro w'; go_simp; with_reducible rfl
            ·simp only [Act.put, u1, u2, u3, i64_w, i32_w]; rfl
            apply tk (i := 11) (N := some 118) (bA 18 12287) rfl rfl (take_ofW HT_.out HW_.out (by kernel_rfl)) (fun _ _ _ h => h) rfl hHeld
            ·rintro w' ⟨s0, s1, s2, s3⟩; go_simp; with_reducible rfl
            ·simp only [Act.put, u1, u2, u3, i64_w, i32_w]; rfl
            apply tk (i := 14) (N := some 121) (bA 18 28671) rfl rfl (take_ofW HT_.out HW_.out (by kernel_rfl)) (fun _ _ _ h => h) rfl hHeld
            ·rintro w' ⟨s0, s1, s2, s3⟩; go_simp; with_reducible rfl
            ·simp only [Act.put, u1, u2, u3, i64_w, i32_w]; rfl
            refine one_ (i := 12) (N := some 119) (bA 18 32767) rfl rfl (one_of HT_.out (by kernel_rfl)) (by decide) (fun K hK => ?_)
            refine goes_ Try.func30 (by kernel_rfl) rfl #[.slice Ao44 t117.length co44] (by rfl) rfl rfl (by (try simp only [List.map_toArray, List.map_cons, List.map_nil]); first | done | rfl | (simp only [List.length_drop, List.length_take]; rfl)) ?_
            with_reducible refine (hatchwaylaw32_plain.calls kj73 _ _ t117 t153 _ ?side1 ?side2 A123.out).mono ?_
            (case side1 => repeat (first | exact (Kd.R_reads' HO_122001.out).2.2 | (with_reducible refine Kd.C_alloc ?_ _) | (with_reducible refine Kd.C_drewN ?_ _) | (with_reducible refine Kd.C_drew ?_)))
            (case side2 => exact (Kd.R_reads' HO_122001.out).2.1)
            rintro e w127 ⟨v154, rfl, ho0, hb⟩
            refine ⟨_, rfl, ?_⟩
            have n0_ := A0 (Kd.R_below (rS HO_122001.out) hb)
            have n1_ := A0 (Kd.R_below (rS HO_138001.out) hb)
            have n2_ := A0 (Kd.R_elder' (rS HO150.out) (Kd.R_base ho0) hb)
            have n3_ := A0 (Kd.R_lower (Kd.R_new' ho0 (Kd.R_lt (rS HO150.out))) (below_size (lS HB.out)))
            have n4_ := A0 (blk_below (bS BK101.out) hb)
            have n5_ := A0 (blk_below (bS BK102.out) hb)
            have n6_ := A0 (blk_below (bS BK121.out) hb)
            have n7_ := A0 (blk_below (bS BK137.out) hb)
            have n8_ := A0 (blk_below (bS BK152.out) hb)
            have n9_ := A0 (below_step (lS HB.out) hb)
            clear HO_122001
            clear HO_138001
            clear HO150
            clear BK101
            clear BK102
            clear BK121
            clear BK137
            clear BK152
            clear HB
            have HO_122001 := n0_
            have HO_138001 := n1_
            have HO150 := n2_
            have HO155 := n3_
            have BK101 := n4_
            have BK102 := n5_
            have BK121 := n6_
            have BK137 := n7_
            have BK152 := n8_
            have HB := n9_
            clear n0_ n1_ n2_ n3_ n4_ n5_ n6_ n7_ n8_ n9_
            (try clear hb)
            (try clear hb2)
            (try clear hk)
            (try clear hi)
            (try clear ho0)
            obtain ⟨Ao128, co128, eo128⟩ := Kd.R_slice HO155.out
            (first | subst eo128 | (injection eo128 with f1_ f2_ f3_; have f4_ := f1_.symm; have f5_ := f3_.symm; clear f1_ f2_ f3_; subst f4_; subst f5_))
            refine hK.out _ _ ⟨bc BK121.out 0, bc BK121.out 1, bc BK152.out 0, bc BK152.out 1⟩ (fun hHeld => ?_)
            clear hK K
            refine norm_ (a' := ?_) ?_ ?_
            rotate_left
            ·show Act.put _ (some 119) _ = _
             simp only [Act.put, u1, u2, u3, i64_w, i32_w]
             rfl
            refine one_ (i := 15) (N := some 122) (bA 18 65535) rfl rfl (one_of HT_.out (by kernel_rfl)) (by decide) (fun K hK => ?_)
            refine goes_ Try.func29 (by kernel_rfl) rfl #[.slice Ao128 t153.length co128, .slice Ao120 t148.length co120] (by rfl) rfl rfl (by (try simp only [List.map_toArray, List.map_cons, List.map_nil]); first | done | rfl | (simp only [List.length_drop, List.length_take]; rfl)) ?_
            with_reducible refine (hatchwayref32_Same.calls kj73 _ _ t153 _ _ t148 t156 _ ?side1 ?side2 ?side3 ?side4 A124.out).mono ?_
            (case side1 => repeat (first | exact (Kd.R_reads' HO155.out).2.2 | (with_reducible refine Kd.C_alloc ?_ _) | (with_reducible refine Kd.C_drewN ?_ _) | (with_reducible refine Kd.C_drew ?_)))
            (case side2 => exact (Kd.R_reads' HO155.out).2.1)
            (case side3 => repeat (first | exact (Kd.R_reads' HO150.out).2.2 | (with_reducible refine Kd.C_alloc ?_ _) | (with_reducible refine Kd.C_drewN ?_ _) | (with_reducible refine Kd.C_drew ?_)))
            (case side4 => exact (Kd.R_reads' HO150.out).2.1)
            rintro e w' ⟨rfl, ⟨nd, rfl⟩⟩
            refine ⟨_, rfl, ?_⟩
            refine hK.out _ _ ⟨bc BK121.out 0, bc BK121.out 1, bc BK152.out 0, bc BK152.out 1⟩ (fun hHeld => ?_)
            clear hK K
            refine norm_ (a' := ?_) ?_ ?_
            rotate_left
            ·show Act.put _ (some 122) _ = _
             simp only [Act.put, u1, u2, u3, i64_w, i32_w]
             rfl
            apply pu (i := 16) (N := some 123) (bA 18 131071) rfl rfl (any_of HT_.out (by kernel_rfl)) (fun _ _ _ h => h) rfl
            ·intro w'; go_simp; with_reducible rfl
            ·simp only [Act.put, u1, u2, u3, i64_w, i32_w]; rfl
            apply pu (i := 17) (N := some 124) (bA 18 262143) rfl rfl (any_of HT_.out (by kernel_rfl)) (fun _ _ _ h => h) rfl
            ·intro w'; go_simp; with_reducible rfl
            ·simp only [Act.put, u1, u2, u3, i64_w, i32_w]; rfl
            refine done_ (done_of HT_.out (by kernel_rfl)) ?_
            try go_wp2
            go_meet
            case rel => exact ⟨_, (!t156), (by first | rfl | (simp; done) | (simp [*]; done)), H', ⟨by have := HJ5.out; have := HJ33.out; have := HJ73.out; first | omega | exact Nat.le_refl _⟩, ⟨rS (HO_122001.out)⟩, ⟨rS (HO_138001.out)⟩, ⟨rS (Kd.R_mono HO150.out (fun _ hk => trivial))⟩, ⟨by (with_reducible repeat (first | refine blk_drewN ?_ _ | refine blk_drew ?_ | refine blk_alloc ?_ _)); exact BK101.out⟩, ⟨by (with_reducible repeat (first | refine blk_drewN ?_ _ | refine blk_drew ?_ | refine blk_alloc ?_ _)); exact BK102.out⟩, ⟨by (with_reducible repeat (first | refine blk_drewN ?_ _ | refine blk_drew ?_ | refine blk_alloc ?_ _)); exact BK121.out⟩, ⟨by (with_reducible repeat (first | refine blk_drewN ?_ _ | refine blk_drew ?_ | refine blk_alloc ?_ _)); exact BK137.out⟩, ⟨by (with_reducible repeat (first | refine blk_drewN ?_ _ | refine blk_drew ?_ | refine blk_alloc ?_ _)); exact BK152.out⟩, ⟨by repeat (first | (with_reducible first | exact HB.out | apply below_alloc | apply pw_below_drewN | apply below_drew1 | refine below_set ?_ GE101.out | refine below_set ?_ GE102.out | refine below_set ?_ GE121.out | refine below_set ?_ GE137.out | refine below_set ?_ GE152.out) | exact HB.out)⟩⟩
           rw [if_neg c122] at H
           have c122b0 : (t116 == t147) = false := beq_eq_false_iff_ne.mpr c122
           have c122b1 : (t116 != t147) = true := bne_iff_ne.mpr c122
           have H' := A0 H
           clear H
           try go_wp2
           have n0_ : Aside0 (Kd.R k104 104 ((w114.setCell ⟨gb152, 0, none⟩ (.int .i64 t147)).setCell ⟨gb152, 1, none⟩ (.slice Ao120 t148.length co120)) w.heap.size (fun k_ => some k_ ≠ (.slice Ao56 t133.length co56 : Value).ownBlock) (.slice Ao44 t117.length co44) t117) := ⟨rS (Kd.R_mono (Kd.R_far (p := ⟨gb152, 1, none⟩) (Kd.R_far (p := ⟨gb152, 0, none⟩) (Kd.R_types HO_122001.out BK152.out (by decide)) (fun _ hk => hk.2) (.int .i64 t147)) (fun _ hk => hk.2) (.slice Ao120 t148.length co120)) (fun _ hk => hk.1))⟩
           have n1_ : Aside0 (Kd.R k104 104 ((w114.setCell ⟨gb152, 0, none⟩ (.int .i64 t147)).setCell ⟨gb152, 1, none⟩ (.slice Ao120 t148.length co120)) w.heap.size (fun k_ => some k_ ≠ (.slice Ao44 t117.length co44 : Value).ownBlock) (.slice Ao56 t133.length co56) t133) := ⟨rS (Kd.R_mono (Kd.R_far (p := ⟨gb152, 1, none⟩) (Kd.R_far (p := ⟨gb152, 0, none⟩) (Kd.R_types HO_138001.out BK152.out (by decide)) (fun _ hk => hk.2) (.int .i64 t147)) (fun _ hk => hk.2) (.slice Ao120 t148.length co120)) (fun _ hk => hk.1))⟩
           have n2_ : Aside0 (Kd.R k58 58 ((w114.setCell ⟨gb152, 0, none⟩ (.int .i64 t147)).setCell ⟨gb152, 1, none⟩ (.slice Ao120 t148.length co120)) w.heap.size (fun _ => True) (.slice Ao120 t148.length co120) t148) := ⟨rS (Kd.R_mono (Kd.R_far (p := ⟨gb152, 1, none⟩) (Kd.R_far (p := ⟨gb152, 0, none⟩) (Kd.R_types HO150.out BK152.out (by decide)) (fun _ hk => hk.2) (.int .i64 t147)) (fun _ hk => hk.2) (.slice Ao120 t148.length co120)) (fun _ hk => trivial))⟩
           have n3_ : Aside0 (((w114.setCell ⟨gb152, 0, none⟩ (.int .i64 t147)).setCell ⟨gb152, 1, none⟩ (.slice Ao120 t148.length co120)).heap[gb101]? = some (.cells #[.int .i64 a0_0, .int .i64 a0_1, .slice A0_2 l0_2.length c0_2] 39 (0, 0))) := ⟨by (with_reducible repeat (first | refine blk_drewN ?_ _ | refine blk_drew ?_ | refine blk_alloc ?_ _)); refine blk_far ?_ NB101_152.out _; (with_reducible repeat (first | refine blk_drewN ?_ _ | refine blk_drew ?_ | refine blk_alloc ?_ _)); refine blk_far ?_ NB101_152.out _; (with_reducible repeat (first | refine blk_drewN ?_ _ | refine blk_drew ?_ | refine blk_alloc ?_ _)); exact BK101.out⟩
           have n4_ : Aside0 (((w114.setCell ⟨gb152, 0, none⟩ (.int .i64 t147)).setCell ⟨gb152, 1, none⟩ (.slice Ao120 t148.length co120)).heap[gb102]? = some (.cells #[.int .i64 a1_0, .int .i64 a1_1, .slice A1_2 l1_2.length c1_2] 39 (0, 0))) := ⟨by (with_reducible repeat (first | refine blk_drewN ?_ _ | refine blk_drew ?_ | refine blk_alloc ?_ _)); refine blk_far ?_ NB102_152.out _; (with_reducible repeat (first | refine blk_drewN ?_ _ | refine blk_drew ?_ | refine blk_alloc ?_ _)); refine blk_far ?_ NB102_152.out _; (with_reducible repeat (first | refine blk_drewN ?_ _ | refine blk_drew ?_ | refine blk_alloc ?_ _)); exact BK102.out⟩
           have n5_ : Aside0 (((w114.setCell ⟨gb152, 0, none⟩ (.int .i64 t147)).setCell ⟨gb152, 1, none⟩ (.slice Ao120 t148.length co120)).heap[gb121]? = some (.cells #[.int .i64 t116, .slice Ao44 t117.length co44] 43 (0, 0))) := ⟨by (with_reducible repeat (first | refine blk_drewN ?_ _ | refine blk_drew ?_ | refine blk_alloc ?_ _)); refine blk_far ?_ NB121_152.out _; (with_reducible repeat (first | refine blk_drewN ?_ _ | refine blk_drew ?_ | refine blk_alloc ?_ _)); refine blk_far ?_ NB121_152.out _; (with_reducible repeat (first | refine blk_drewN ?_ _ | refine blk_drew ?_ | refine blk_alloc ?_ _)); exact BK121.out⟩
           have n6_ : Aside0 (((w114.setCell ⟨gb152, 0, none⟩ (.int .i64 t147)).setCell ⟨gb152, 1, none⟩ (.slice Ao120 t148.length co120)).heap[gb137]? = some (.cells #[.int .i64 t132, .slice Ao56 t133.length co56] 43 (0, 0))) := ⟨by (with_reducible repeat (first | refine blk_drewN ?_ _ | refine blk_drew ?_ | refine blk_alloc ?_ _)); refine blk_far ?_ NB137_152.out _; (with_reducible repeat (first | refine blk_drewN ?_ _ | refine blk_drew ?_ | refine blk_alloc ?_ _)); refine blk_far ?_ NB137_152.out _; (with_reducible repeat (first | refine blk_drewN ?_ _ | refine blk_drew ?_ | refine blk_alloc ?_ _)); exact BK137.out⟩
           have n7_ : Aside0 (((w114.setCell ⟨gb152, 0, none⟩ (.int .i64 t147)).setCell ⟨gb152, 1, none⟩ (.slice Ao120 t148.length co120)).heap[gb152]? = some (.cells #[.int .i64 t147, .slice Ao120 t148.length co120] 52 (0, 0))) := ⟨by (with_reducible repeat (first | refine blk_drewN ?_ _ | refine blk_drew ?_ | refine blk_alloc ?_ _)); refine blk_put (cs := #[.int .i64 t147, .slice none 0 0]) ?_ 1 _ rfl; (with_reducible repeat (first | refine blk_drewN ?_ _ | refine blk_drew ?_ | refine blk_alloc ?_ _)); refine blk_put (cs := #[.int .i64 0, .slice none 0 0]) ?_ 0 _ rfl; (with_reducible repeat (first | refine blk_drewN ?_ _ | refine blk_drew ?_ | refine blk_alloc ?_ _)); exact BK152.out⟩
           have n8_ : Aside0 (Below w.heap.size w ((w114.setCell ⟨gb152, 0, none⟩ (.int .i64 t147)).setCell ⟨gb152, 1, none⟩ (.slice Ao120 t148.length co120))) := ⟨by repeat (first | (with_reducible first | exact HB.out | apply below_alloc | apply pw_below_drewN | apply below_drew1 | refine below_set ?_ GE101.out | refine below_set ?_ GE102.out | refine below_set ?_ GE121.out | refine below_set ?_ GE137.out | refine below_set ?_ GE152.out) | exact HB.out)⟩
           (try clear HO_122001)
           (try clear HO_138001)
           (try clear HO150)
           (try clear BK101)
           (try clear BK102)
           (try clear BK121)
           (try clear BK137)
           (try clear BK152)
           (try clear HB)
           generalize ((w114.setCell ⟨gb152, 0, none⟩ (.int .i64 t147)).setCell ⟨gb152, 1, none⟩ (.slice Ao120 t148.length co120)) = w129 at n0_ n1_ n2_ n3_ n4_ n5_ n6_ n7_ n8_ ⊢
           have HO_122001 := n0_
           have HO_138001 := n1_
           have HO150 := n2_
           have BK101 := n3_
           have BK102 := n4_
           have BK121 := n5_
           have BK137 := n6_
           have BK152 := n7_
           have HB := n8_
           clear n0_ n1_ n2_ n3_ n4_ n5_ n6_ n7_ n8_
           replace HO_122001 := A0 (Kd.R_drew HO_122001.out)
           replace HO_138001 := A0 (Kd.R_drew HO_138001.out)
           replace HO150 := A0 (Kd.R_drew HO150.out)
           replace BK101 := A0 (blk_drew BK101.out)
           replace BK102 := A0 (blk_drew BK102.out)
           replace BK121 := A0 (blk_drew BK121.out)
           replace BK137 := A0 (blk_drew BK137.out)
           replace BK152 := A0 (blk_drew BK152.out)
           replace HB := A0 (below_drew1 HB.out)
           refine start_ (n := 18) (S := fun w' => w'.cell? ⟨gb121, 0, none⟩ = some (.int .i64 t116) ∧ w'.cell? ⟨gb121, 1, none⟩ = some (.slice Ao44 t117.length co44) ∧ w'.cell? ⟨gb152, 0, none⟩ = some (.int .i64 t147) ∧ w'.cell? ⟨gb152, 1, none⟩ = some (.slice Ao120 t148.length co120)) (ds := []) (bA 18 0) (by kernel_rfl) rfl rfl ⟨bc BK121.out 0, bc BK121.out 1, bc BK152.out 0, bc BK152.out 1⟩ (fun hHeld => ?_); refine with_tabW hatchwaylaw32_HelloAgrees.tab14 hatchwaylaw32_HelloAgrees.bits14 (fun HT_ HW_ => ?_)
           generalize w129.drew = w130 at HO_122001 HO_138001 HO150 BK101 BK102 BK121 BK137 BK152 HB hHeld ⊢
           apply pu (i := 0) (N := some 107) (bA 18 1) rfl rfl (any_of HT_.out (by kernel_rfl)) (fun _ _ _ h => h) rfl
           ·intro w'; go_simp; with_reducible rfl
           ·simp only [Act.put, u1, u2, u3, i64_w, i32_w]; rfl
           apply pu (i := 1) (N := some 108) (bA 18 3) rfl rfl (any_of HT_.out (by kernel_rfl)) (fun _ _ _ h => h) rfl
           ·intro w'; go_simp; with_reducible rfl
           ·simp only [Act.put, u1, u2, u3, i64_w, i32_w]; rfl
           apply pu (i := 2) (N := some 109) (bA 18 7) rfl rfl (any_of HT_.out (by kernel_rfl)) (fun _ _ _ h => h) rfl
           ·intro w'; go_simp; with_reducible rfl
           ·simp only [Act.put, u1, u2, u3, i64_w, i32_w]; rfl
           apply pu (i := 3) (N := some 110) (bA 18 15) rfl rfl (any_of HT_.out (by kernel_rfl)) (fun _ _ _ h => h) rfl
           ·intro w'; go_simp; with_reducible rfl
           ·simp only [Act.put, u1, u2, u3, i64_w, i32_w]; rfl
           apply pu (i := 5) (N := some 112) (bA 18 47) rfl rfl (any_of HT_.out (by kernel_rfl)) (fun _ _ _ h => h) rfl
           ·intro w'; go_simp; with_reducible rfl
           ·simp only [Act.put, u1, u2, u3, i64_w, i32_w]; rfl
           apply tk (i := 4) (N := some 111) (bA 18 63) rfl rfl (take_ofW HT_.out HW_.out (by kernel_rfl)) (fun _ _ _ h => h) rfl hHeld
           ·rintro w' ⟨s0, s1, s2, s3⟩; go_simp; with_reducible rfl
           ·simp only [Act.put, u1, u2, u3, i64_w, i32_w]; rfl
           apply tk (i := 6) (N := some 113) (bA 18 127) rfl rfl (take_ofW HT_.out HW_.out (by kernel_rfl)) (fun _ _ _ h => h) rfl hHeld
           ·rintro w' ⟨s0, s1, s2, s3⟩; go_simp; with_reducible rfl
           ·simp only [Act.put, u1, u2, u3, i64_w, i32_w]; rfl
           apply pu (i := 7) (N := some 114) (bA 18 255) rfl rfl (any_of HT_.out (by kernel_rfl)) (fun _ _ _ h => h) rfl
           ·intro w'; go_simp; with_reducible rfl
           ·simp only [Act.put, u1, u2, u3, i64_w, i32_w]; rfl
           apply pu (i := 8) (N := some 115) (bA 18 511) rfl rfl (any_of HT_.out (by kernel_rfl)) (fun _ _ _ h => h) rfl
           ·intro w'; go_simp; with_reducible rfl
           ·simp only [Act.put, u1, u2, u3, i64_w, i32_w]; rfl
           apply pu (i := 9) (N := some 116) (bA 18 1023) rfl rfl (any_of HT_.out (by kernel_rfl)) (fun _ _ _ h => h) rfl
           ·intro w'; go_simp; with_reducible rfl
           ·simp only [Act.put, u1, u2, u3, i64_w, i32_w]; rfl
           apply un (i := 10) (N := some 117) (bA 18 2047) rfl rfl (any_of HT_.out (by kernel_rfl)) (fun _ _ _ h => h) rfl
           ·simp only [Act.put, u1, u2, u3, i64_w, i32_w]; rfl
           apply un (i := 11) (N := some 118) (bA 18 4095) rfl rfl (any_of HT_.out (by kernel_rfl)) (fun _ _ _ h => h) rfl
           ·simp only [Act.put, u1, u2, u3, i64_w, i32_w]; rfl
           apply un (i := 12) (N := some 119) (bA 18 8191) rfl rfl (any_of HT_.out (by kernel_rfl)) (fun _ _ _ h => h) rfl
           ·simp only [Act.put, u1, u2, u3, i64_w, i32_w]; rfl
           apply un (i := 13) (N := some 120) (bA 18 16383) rfl rfl (any_of HT_.out (by kernel_rfl)) (fun _ _ _ h => h) rfl
           ·simp only [Act.put, u1, u2, u3, i64_w, i32_w]; rfl
           apply un (i := 14) (N := some 121) (bA 18 32767) rfl rfl (any_of HT_.out (by kernel_rfl)) (fun _ _ _ h => h) rfl
           ·simp only [Act.put, u1, u2, u3, i64_w, i32_w]; rfl
           apply un (i := 15) (N := some 122) (bA 18 65535) rfl rfl (any_of HT_.out (by kernel_rfl)) (fun _ _ _ h => h) rfl
           ·simp only [Act.put, u1, u2, u3, i64_w, i32_w]; rfl
           apply un (i := 16) (N := some 123) (bA 18 131071) rfl rfl (any_of HT_.out (by kernel_rfl)) (fun _ _ _ h => h) rfl
           ·simp only [Act.put, u1, u2, u3, i64_w, i32_w]; rfl
           apply pu (i := 17) (N := some 124) (bA 18 262143) rfl rfl (any_of HT_.out (by kernel_rfl)) (fun _ _ _ h => h) rfl
           ·intro w'; go_simp; with_reducible rfl
           ·simp only [Act.put, u1, u2, u3, i64_w, i32_w]; rfl
           refine done_ (done_of HT_.out (by kernel_rfl)) ?_
           try go_wp2
           go_meet
           case rel => exact ⟨_, (true), (by first | rfl | (simp; done) | (simp [*]; done)), H', ⟨by have := HJ5.out; have := HJ33.out; have := HJ73.out; first | omega | exact Nat.le_refl _⟩, ⟨rS (HO_122001.out)⟩, ⟨rS (HO_138001.out)⟩, ⟨rS (HO150.out)⟩, ⟨by (with_reducible repeat (first | refine blk_drewN ?_ _ | refine blk_drew ?_ | refine blk_alloc ?_ _)); exact BK101.out⟩, ⟨by (with_reducible repeat (first | refine blk_drewN ?_ _ | refine blk_drew ?_ | refine blk_alloc ?_ _)); exact BK102.out⟩, ⟨by (with_reducible repeat (first | refine blk_drewN ?_ _ | refine blk_drew ?_ | refine blk_alloc ?_ _)); exact BK121.out⟩, ⟨by (with_reducible repeat (first | refine blk_drewN ?_ _ | refine blk_drew ?_ | refine blk_alloc ?_ _)); exact BK137.out⟩, ⟨by (with_reducible repeat (first | refine blk_drewN ?_ _ | refine blk_drew ?_ | refine blk_alloc ?_ _)); exact BK152.out⟩, ⟨by repeat (first | (with_reducible first | exact HB.out | apply below_alloc | apply pw_below_drewN | apply below_drew1 | refine below_set ?_ GE101.out | refine below_set ?_ GE102.out | refine below_set ?_ GE121.out | refine below_set ?_ GE137.out | refine below_set ?_ GE152.out) | exact HB.out)⟩⟩
          rw [if_neg c121] at H
          have c121b0 : (t120 == 0) = false := beq_eq_false_iff_ne.mpr c121
          have c121b1 : (t120 != 0) = true := bne_iff_ne.mpr c121
          (first | rw [c121b0] | (simp only [i64_w, i32_w]; rw [c121b0]) | skip)
          have H' := A0 H
          clear H
          try go_wp2
          have n0_ : Aside0 (Kd.R k104 104 ((w114.setCell ⟨gb152, 0, none⟩ (.int .i64 t147)).setCell ⟨gb152, 1, none⟩ (.slice Ao120 t148.length co120)) w.heap.size (fun k_ => some k_ ≠ (.slice Ao56 t133.length co56 : Value).ownBlock) (.slice Ao44 t117.length co44) t117) := ⟨rS (Kd.R_mono (Kd.R_far (p := ⟨gb152, 1, none⟩) (Kd.R_far (p := ⟨gb152, 0, none⟩) (Kd.R_types HO_122001.out BK152.out (by decide)) (fun _ hk => hk.2) (.int .i64 t147)) (fun _ hk => hk.2) (.slice Ao120 t148.length co120)) (fun _ hk => hk.1))⟩
          have n1_ : Aside0 (Kd.R k104 104 ((w114.setCell ⟨gb152, 0, none⟩ (.int .i64 t147)).setCell ⟨gb152, 1, none⟩ (.slice Ao120 t148.length co120)) w.heap.size (fun k_ => some k_ ≠ (.slice Ao44 t117.length co44 : Value).ownBlock) (.slice Ao56 t133.length co56) t133) := ⟨rS (Kd.R_mono (Kd.R_far (p := ⟨gb152, 1, none⟩) (Kd.R_far (p := ⟨gb152, 0, none⟩) (Kd.R_types HO_138001.out BK152.out (by decide)) (fun _ hk => hk.2) (.int .i64 t147)) (fun _ hk => hk.2) (.slice Ao120 t148.length co120)) (fun _ hk => hk.1))⟩
          have n2_ : Aside0 (Kd.R k58 58 ((w114.setCell ⟨gb152, 0, none⟩ (.int .i64 t147)).setCell ⟨gb152, 1, none⟩ (.slice Ao120 t148.length co120)) w.heap.size (fun _ => True) (.slice Ao120 t148.length co120) t148) := ⟨rS (Kd.R_mono (Kd.R_far (p := ⟨gb152, 1, none⟩) (Kd.R_far (p := ⟨gb152, 0, none⟩) (Kd.R_types HO150.out BK152.out (by decide)) (fun _ hk => hk.2) (.int .i64 t147)) (fun _ hk => hk.2) (.slice Ao120 t148.length co120)) (fun _ hk => trivial))⟩
          have n3_ : Aside0 (((w114.setCell ⟨gb152, 0, none⟩ (.int .i64 t147)).setCell ⟨gb152, 1, none⟩ (.slice Ao120 t148.length co120)).heap[gb101]? = some (.cells #[.int .i64 a0_0, .int .i64 a0_1, .slice A0_2 l0_2.length c0_2] 39 (0, 0))) := ⟨by (with_reducible repeat (first | refine blk_drewN ?_ _ | refine blk_drew ?_ | refine blk_alloc ?_ _)); refine blk_far ?_ NB101_152.out _; (with_reducible repeat (first | refine blk_drewN ?_ _ | refine blk_drew ?_ | refine blk_alloc ?_ _)); refine blk_far ?_ NB101_152.out _; (with_reducible repeat (first | refine blk_drewN ?_ _ | refine blk_drew ?_ | refine blk_alloc ?_ _)); exact BK101.out⟩
          have n4_ : Aside0 (((w114.setCell ⟨gb152, 0, none⟩ (.int .i64 t147)).setCell ⟨gb152, 1, none⟩ (.slice Ao120 t148.length co120)).heap[gb102]? = some (.cells #[.int .i64 a1_0, .int .i64 a1_1, .slice A1_2 l1_2.length c1_2] 39 (0, 0))) := ⟨by (with_reducible repeat (first | refine blk_drewN ?_ _ | refine blk_drew ?_ | refine blk_alloc ?_ _)); refine blk_far ?_ NB102_152.out _; (with_reducible repeat (first | refine blk_drewN ?_ _ | refine blk_drew ?_ | refine blk_alloc ?_ _)); refine blk_far ?_ NB102_152.out _; (with_reducible repeat (first | refine blk_drewN ?_ _ | refine blk_drew ?_ | refine blk_alloc ?_ _)); exact BK102.out⟩
          have n5_ : Aside0 (((w114.setCell ⟨gb152, 0, none⟩ (.int .i64 t147)).setCell ⟨gb152, 1, none⟩ (.slice Ao120 t148.length co120)).heap[gb121]? = some (.cells #[.int .i64 t116, .slice Ao44 t117.length co44] 43 (0, 0))) := ⟨by (with_reducible repeat (first | refine blk_drewN ?_ _ | refine blk_drew ?_ | refine blk_alloc ?_ _)); refine blk_far ?_ NB121_152.out _; (with_reducible repeat (first | refine blk_drewN ?_ _ | refine blk_drew ?_ | refine blk_alloc ?_ _)); refine blk_far ?_ NB121_152.out _; (with_reducible repeat (first | refine blk_drewN ?_ _ | refine blk_drew ?_ | refine blk_alloc ?_ _)); exact BK121.out⟩
          have n6_ : Aside0 (((w114.setCell ⟨gb152, 0, none⟩ (.int .i64 t147)).setCell ⟨gb152, 1, none⟩ (.slice Ao120 t148.length co120)).heap[gb137]? = some (.cells #[.int .i64 t132, .slice Ao56 t133.length co56] 43 (0, 0))) := ⟨by (with_reducible repeat (first | refine blk_drewN ?_ _ | refine blk_drew ?_ | refine blk_alloc ?_ _)); refine blk_far ?_ NB137_152.out _; (with_reducible repeat (first | refine blk_drewN ?_ _ | refine blk_drew ?_ | refine blk_alloc ?_ _)); refine blk_far ?_ NB137_152.out _; (with_reducible repeat (first | refine blk_drewN ?_ _ | refine blk_drew ?_ | refine blk_alloc ?_ _)); exact BK137.out⟩
          have n7_ : Aside0 (((w114.setCell ⟨gb152, 0, none⟩ (.int .i64 t147)).setCell ⟨gb152, 1, none⟩ (.slice Ao120 t148.length co120)).heap[gb152]? = some (.cells #[.int .i64 t147, .slice Ao120 t148.length co120] 52 (0, 0))) := ⟨by (with_reducible repeat (first | refine blk_drewN ?_ _ | refine blk_drew ?_ | refine blk_alloc ?_ _)); refine blk_put (cs := #[.int .i64 t147, .slice none 0 0]) ?_ 1 _ rfl; (with_reducible repeat (first | refine blk_drewN ?_ _ | refine blk_drew ?_ | refine blk_alloc ?_ _)); refine blk_put (cs := #[.int .i64 0, .slice none 0 0]) ?_ 0 _ rfl; (with_reducible repeat (first | refine blk_drewN ?_ _ | refine blk_drew ?_ | refine blk_alloc ?_ _)); exact BK152.out⟩
          have n8_ : Aside0 (Below w.heap.size w ((w114.setCell ⟨gb152, 0, none⟩ (.int .i64 t147)).setCell ⟨gb152, 1, none⟩ (.slice Ao120 t148.length co120))) := ⟨by repeat (first | (with_reducible first | exact HB.out | apply below_alloc | apply pw_below_drewN | apply below_drew1 | refine below_set ?_ GE101.out | refine below_set ?_ GE102.out | refine below_set ?_ GE121.out | refine below_set ?_ GE137.out | refine below_set ?_ GE152.out) | exact HB.out)⟩
          (try clear HO_122001)
          (try clear HO_138001)
          (try clear HO150)
          (try clear BK101)
          (try clear BK102)
          (try clear BK121)
          (try clear BK137)
          (try clear BK152)
          (try clear HB)
          generalize ((w114.setCell ⟨gb152, 0, none⟩ (.int .i64 t147)).setCell ⟨gb152, 1, none⟩ (.slice Ao120 t148.length co120)) = w131 at n0_ n1_ n2_ n3_ n4_ n5_ n6_ n7_ n8_ ⊢
          have HO_122001 := n0_
          have HO_138001 := n1_
          have HO150 := n2_
          have BK101 := n3_
          have BK102 := n4_
          have BK121 := n5_
          have BK137 := n6_
          have BK152 := n7_
          have HB := n8_
          clear n0_ n1_ n2_ n3_ n4_ n5_ n6_ n7_ n8_
          replace HO_122001 := A0 (Kd.R_drew HO_122001.out)
          replace HO_138001 := A0 (Kd.R_drew HO_138001.out)
          replace HO150 := A0 (Kd.R_drew HO150.out)
          replace BK101 := A0 (blk_drew BK101.out)
          replace BK102 := A0 (blk_drew BK102.out)
          replace BK121 := A0 (blk_drew BK121.out)
          replace BK137 := A0 (blk_drew BK137.out)
          replace BK152 := A0 (blk_drew BK152.out)
          replace HB := A0 (below_drew1 HB.out)
          refine start_ (n := 18) (S := fun w' => True) (ds := []) (bA 18 0) (by kernel_rfl) rfl rfl trivial (fun hHeld => ?_); refine with_tabW hatchwaylaw32_HelloAgrees.tab14 hatchwaylaw32_HelloAgrees.bits14 (fun HT_ HW_ => ?_)
          generalize w131.drew = w132 at HO_122001 HO_138001 HO150 BK101 BK102 BK121 BK137 BK152 HB hHeld ⊢
          apply pu (i := 0) (N := some 107) (bA 18 1) rfl rfl (any_of HT_.out (by kernel_rfl)) (fun _ _ _ h => h) rfl
          ·intro w'; go_simp; with_reducible rfl
          ·simp only [Act.put, u1, u2, u3, i64_w, i32_w]; rfl
          apply pu (i := 1) (N := some 108) (bA 18 3) rfl rfl (any_of HT_.out (by kernel_rfl)) (fun _ _ _ h => h) rfl
          ·intro w'; go_simp; with_reducible rfl
          ·simp only [Act.put, u1, u2, u3, i64_w, i32_w]; rfl
          apply pu (i := 2) (N := some 109) (bA 18 7) rfl rfl (any_of HT_.out (by kernel_rfl)) (fun _ _ _ h => h) rfl
          ·intro w'; go_simp; with_reducible rfl
          ·simp only [Act.put, u1, u2, u3, i64_w, i32_w]; rfl
          apply un (i := 3) (N := some 110) (bA 18 15) rfl rfl (any_of HT_.out (by kernel_rfl)) (fun _ _ _ h => h) rfl
          ·simp only [Act.put, u1, u2, u3, i64_w, i32_w]; rfl
          apply un (i := 4) (N := some 111) (bA 18 31) rfl rfl (any_of HT_.out (by kernel_rfl)) (fun _ _ _ h => h) rfl
          ·simp only [Act.put, u1, u2, u3, i64_w, i32_w]; rfl
          apply un (i := 5) (N := some 112) (bA 18 63) rfl rfl (any_of HT_.out (by kernel_rfl)) (fun _ _ _ h => h) rfl
          ·simp only [Act.put, u1, u2, u3, i64_w, i32_w]; rfl
          apply un (i := 6) (N := some 113) (bA 18 127) rfl rfl (any_of HT_.out (by kernel_rfl)) (fun _ _ _ h => h) rfl
          ·simp only [Act.put, u1, u2, u3, i64_w, i32_w]; rfl
          apply un (i := 7) (N := some 114) (bA 18 255) rfl rfl (any_of HT_.out (by kernel_rfl)) (fun _ _ _ h => h) rfl
          ·simp only [Act.put, u1, u2, u3, i64_w, i32_w]; rfl
          apply pu (i := 8) (N := some 115) (bA 18 511) rfl rfl (any_of HT_.out (by kernel_rfl)) (fun _ _ _ h => h) rfl
          ·intro w'; go_simp; with_reducible rfl
          ·simp only [Act.put, u1, u2, u3, i64_w, i32_w]; rfl
          apply pu (i := 9) (N := some 116) (bA 18 1023) rfl rfl (any_of HT_.out (by kernel_rfl)) (fun _ _ _ h => h) rfl
          ·intro w'; go_simp; with_reducible rfl
          ·simp only [Act.put, u1, u2, u3, i64_w, i32_w]; rfl
          apply un (i := 10) (N := some 117) (bA 18 2047) rfl rfl (any_of HT_.out (by kernel_rfl)) (fun _ _ _ h => h) rfl
          ·simp only [Act.put, u1, u2, u3, i64_w, i32_w]; rfl
          apply un (i := 11) (N := some 118) (bA 18 4095) rfl rfl (any_of HT_.out (by kernel_rfl)) (fun _ _ _ h => h) rfl
          ·simp only [Act.put, u1, u2, u3, i64_w, i32_w]; rfl
          apply un (i := 12) (N := some 119) (bA 18 8191) rfl rfl (any_of HT_.out (by kernel_rfl)) (fun _ _ _ h => h) rfl
          ·simp only [Act.put, u1, u2, u3, i64_w, i32_w]; rfl
          apply un (i := 13) (N := some 120) (bA 18 16383) rfl rfl (any_of HT_.out (by kernel_rfl)) (fun _ _ _ h => h) rfl
          ·simp only [Act.put, u1, u2, u3, i64_w, i32_w]; rfl
          apply un (i := 14) (N := some 121) (bA 18 32767) rfl rfl (any_of HT_.out (by kernel_rfl)) (fun _ _ _ h => h) rfl
          ·simp only [Act.put, u1, u2, u3, i64_w, i32_w]; rfl
          apply un (i := 15) (N := some 122) (bA 18 65535) rfl rfl (any_of HT_.out (by kernel_rfl)) (fun _ _ _ h => h) rfl
          ·simp only [Act.put, u1, u2, u3, i64_w, i32_w]; rfl
          apply un (i := 16) (N := some 123) (bA 18 131071) rfl rfl (any_of HT_.out (by kernel_rfl)) (fun _ _ _ h => h) rfl
          ·simp only [Act.put, u1, u2, u3, i64_w, i32_w]; rfl
          apply pu (i := 17) (N := some 124) (bA 18 262143) rfl rfl (any_of HT_.out (by kernel_rfl)) (fun _ _ _ h => h) rfl
          ·intro w'; go_simp; with_reducible rfl
          ·simp only [Act.put, u1, u2, u3, i64_w, i32_w]; rfl
          refine done_ (done_of HT_.out (by kernel_rfl)) ?_
          try go_wp2
          go_meet
          case rel => exact ⟨_, (true), (by first | rfl | (simp; done) | (simp [*]; done)), H', ⟨by have := HJ5.out; have := HJ33.out; have := HJ73.out; first | omega | exact Nat.le_refl _⟩, ⟨rS (HO_122001.out)⟩, ⟨rS (HO_138001.out)⟩, ⟨rS (HO150.out)⟩, ⟨by (with_reducible repeat (first | refine blk_drewN ?_ _ | refine blk_drew ?_ | refine blk_alloc ?_ _)); exact BK101.out⟩, ⟨by (with_reducible repeat (first | refine blk_drewN ?_ _ | refine blk_drew ?_ | refine blk_alloc ?_ _)); exact BK102.out⟩, ⟨by (with_reducible repeat (first | refine blk_drewN ?_ _ | refine blk_drew ?_ | refine blk_alloc ?_ _)); exact BK121.out⟩, ⟨by (with_reducible repeat (first | refine blk_drewN ?_ _ | refine blk_drew ?_ | refine blk_alloc ?_ _)); exact BK137.out⟩, ⟨by (with_reducible repeat (first | refine blk_drewN ?_ _ | refine blk_drew ?_ | refine blk_alloc ?_ _)); exact BK152.out⟩, ⟨by repeat (first | (with_reducible first | exact HB.out | apply below_alloc | apply pw_below_drewN | apply below_drew1 | refine below_set ?_ GE101.out | refine below_set ?_ GE102.out | refine below_set ?_ GE121.out | refine below_set ?_ GE137.out | refine below_set ?_ GE152.out) | exact HB.out)⟩⟩
         case rest =>
          clear HC105
          try clear c1
          try clear c2
          try clear p2
          try clear c3
          try clear c12
          try clear c29
          try clear c30
          try clear c121
          try clear c121b0
          try clear c121b1
          try clear c122
          try clear c122b0
          try clear c122b1
          obtain ⟨kq, x124_104, rfl, HA, HJ104, HO_122001, HO_138001, HO_153001, BK101, BK102, BK121, BK137, BK152, HB⟩ := hcut
          cases kq with
          | zero => exact absurd HA.out (by simp [hatchwaylaw32_HelloAgrees.j3])
          | succ kj104 =>
           have H := HA.out
           clear HA
           simp only [hatchwaylaw32_HelloAgrees.j3] at H
           by_cases c133 : x124_104 = true
           ·subst c133
            have H1 : (some false) = some r := by rw [if_pos rfl] at H; exact H
            clear H
            have H := H1
            clear H1
            exact absurd ((Option.some.inj H).trans ht_) (by decide)
           replace c133 := Bool.eq_false_iff.mpr c133
           subst c133
           have H1 : ((hello_Offset.f kj104 t116 t117 a2).bind fun bt157 => (hatchwaylaw32_HelloAgrees.l0 kj104 a2 bt157.1 bt157.2 0 t147 t148)) = some r := by rw [if_neg (show ¬ (false = true) by decide)] at H; exact H
           clear H
           have H := H1
           clear H1
           replace H := Option.bind_eq_some_iff.mp H
           obtain ⟨⟨t157, t158⟩, A1340, H⟩ := H
           replace H : (hatchwaylaw32_HelloAgrees.l0 kj104 a2 t157 t158 0 t147 t148) = some r := H
           have A134 := A0 A1340
           clear A1340
           have H' := A0 H
           clear H
           have hnb135 := NB121_101.out
           have hnc135 := NB101_121.out
           have hnb136 := NB121_102.out
           have hnc136 := NB102_121.out
           have hnb137 := NB121_137.out
           have hnc137 := NB137_121.out
           have hnb138 := NB121_152.out
           have hnc138 := NB152_121.out
           have hcz139_0 : wc.cell? ⟨gb121, 0, none⟩ = some (.int .i64 t116) := bc BK121.out 0
           have hcz139_1 : wc.cell? ⟨gb121, 1, none⟩ = some (.slice Ao44 t117.length co44) := bc BK121.out 1
           have hfz139_0 := blk_frozen BK121.out 0
           have hfz139_1 := blk_frozen BK121.out 1
           go_wp2_with (first | ((with_reducible refine gate_callee (f := 33) rfl ?_); refine goesL_ (some 128) rfl rfl Try.func33 (by kernel_rfl) rfl #[.agg #[.int .i64 t116, .slice Ao44 t117.length co44], .string a2] rfl (by (try simp only [List.map_toArray, List.map_cons, List.map_nil]); first | done | rfl | (simp only [List.length_drop, List.length_take]; rfl)) ?_; (with_reducible refine (hello_Offset.calls kj104 t116 _ _ t117 a2 t157 t158 _ ?side1 ?side2 A134.out).mono ?_); (case side1 => repeat (first | exact (Kd.R_reads' HO_122001.out).2.2 | (with_reducible refine Kd.C_alloc ?_ _) | (with_reducible refine Kd.C_drewN ?_ _) | (with_reducible refine Kd.C_drew ?_))); (case side2 => exact (Kd.R_reads' HO_122001.out).2.1); rintro e w140 ⟨rfl, hb⟩; refine ⟨_, rfl, ?_⟩; replace HO_122001 := A0 (Kd.R_below (rS HO_122001.out) hb); replace HO_138001 := A0 (Kd.R_below (rS HO_138001.out) hb); replace HO_153001 := A0 (Kd.R_below (rS HO_153001.out) hb); replace BK101 := A0 (blk_below (bS BK101.out) hb); replace BK102 := A0 (blk_below (bS BK102.out) hb); replace BK121 := A0 (blk_below (bS BK121.out) hb); replace BK137 := A0 (blk_below (bS BK137.out) hb); replace BK152 := A0 (blk_below (bS BK152.out) hb); replace HB := A0 (below_step (lS HB.out) hb); (try clear hb); (try clear hb2); (try clear hk); (try clear hi)))
           go_loopg [15] kj104 (fun kq v15 w' => ∃ (x15_5 : Int), v15 = .int .i64 x15_5 ∧ Aside0 (hatchwaylaw32_HelloAgrees.l0 kq a2 t157 t158 x15_5 t147 t148 = some r) ∧ Aside0 (kq ≤ kj104) ∧ Aside0 (Kd.R k104 104 w' w.heap.size (fun k_ => some k_ ≠ ((.slice Ao56 t133.length co56) : Value).ownBlock) (.slice Ao44 t117.length co44) t117) ∧ Aside0 (Kd.R k104 104 w' w.heap.size (fun k_ => some k_ ≠ ((.slice Ao44 t117.length co44) : Value).ownBlock) (.slice Ao56 t133.length co56) t133) ∧ Aside0 (Kd.R k58 58 w' w.heap.size (fun _ => True) (.slice Ao120 t148.length co120) t148) ∧ Aside0 (w'.heap[gb101]? = some (.cells #[.int .i64 a0_0, .int .i64 a0_1, (.slice A0_2 l0_2.length c0_2)] 39 (0, 0))) ∧ Aside0 (w'.heap[gb102]? = some (.cells #[.int .i64 a1_0, .int .i64 a1_1, (.slice A1_2 l1_2.length c1_2)] 39 (0, 0))) ∧ Aside0 (w'.heap[gb121]? = some (.cells #[.int .i64 t116, (.slice Ao44 t117.length co44)] 43 (0, 0))) ∧ Aside0 (w'.heap[gb137]? = some (.cells #[.int .i64 t132, (.slice Ao56 t133.length co56)] 43 (0, 0))) ∧ Aside0 (w'.heap[gb152]? = some (.cells #[.int .i64 t147, (.slice Ao120 t148.length co120)] 52 (0, 0))) ∧ Aside0 (Below w.heap.size w w'))
           case atStart => exact ⟨(0), (by first | rfl | (simp; done) | (simp [*]; done)), H', ⟨Nat.le_refl _⟩, ⟨rS (HO_122001.out)⟩, ⟨rS (HO_138001.out)⟩, ⟨rS (HO_153001.out)⟩, ⟨by (with_reducible repeat (first | refine blk_drewN ?_ _ | refine blk_drew ?_ | refine blk_alloc ?_ _)); exact BK101.out⟩, ⟨by (with_reducible repeat (first | refine blk_drewN ?_ _ | refine blk_drew ?_ | refine blk_alloc ?_ _)); exact BK102.out⟩, ⟨by (with_reducible repeat (first | refine blk_drewN ?_ _ | refine blk_drew ?_ | refine blk_alloc ?_ _)); exact BK121.out⟩, ⟨by (with_reducible repeat (first | refine blk_drewN ?_ _ | refine blk_drew ?_ | refine blk_alloc ?_ _)); exact BK137.out⟩, ⟨by (with_reducible repeat (first | refine blk_drewN ?_ _ | refine blk_drew ?_ | refine blk_alloc ?_ _)); exact BK152.out⟩, ⟨by repeat (first | (with_reducible first | exact HB.out | apply below_alloc | apply pw_below_drewN | apply below_drew1 | refine below_set ?_ GE101.out | refine below_set ?_ GE102.out | refine below_set ?_ GE121.out | refine below_set ?_ GE137.out | refine below_set ?_ GE152.out) | exact HB.out)⟩⟩
           case round =>
            clear H'
            try clear c1
            try clear c2
            try clear p2
            try clear c3
            try clear c12
            try clear c13
            try clear c29
            try clear c30
            try clear c33
            try clear c121
            try clear c121b0
            try clear c121b1
            try clear c122
            try clear c122b0
            try clear c122b1
            try clear c133
            try clear c135
            try clear c136
            try clear c137
            try clear c138
            try clear hcz139_0
            try clear hcz139_1
            try clear hfz139_0
            try clear hfz139_1
            try clear p2
            obtain ⟨x15_5, rfl, HA, HK5, HO_122001, HO_138001, HO_153001, BK101, BK102, BK121, BK137, BK152, HB⟩ := hrel
            cases gk with
            | zero => exact absurd HA.out (by simp [hatchwaylaw32_HelloAgrees.l0])
            | succ k5 =>
             have H := HA.out
             clear HA
             simp only [hatchwaylaw32_HelloAgrees.l0] at H
             by_cases c141 : x15_5 < (t148.length : Int)
             ·rw [if_pos c141] at H
              have c141b0 : decide (x15_5 < (t148.length : Int)) = true := decide_eq_true c141
              clear c141
              by_cases c142 : 0 ≤ x15_5
              rotate_left
              ·rw [if_neg c142] at H
               exact absurd H (by simp)
              rw [if_pos c142] at H
              have c142b0 : decide (0 ≤ x15_5) = true := decide_eq_true c142
              clear c142
              by_cases c143 : ((rd_T58 t148 x15_5).f0).toList = a2.toList
              ·rw [if_pos c143] at H
               have c143b0 : (((rd_T58 t148 x15_5).f0).toList == a2.toList) = true := beq_iff_eq.mpr c143
               have c143b1 : (((rd_T58 t148 x15_5).f0).toList != a2.toList) = false := bne_eq_false_iff_eq.mpr c143
               clear c143
               by_cases c144 : t158 = true
               ·subst c144
                have H1 : (some (t157 == (wrap64 (16 * (wrap64 (x15_5 + 1)))))) = some r := by rw [if_pos rfl] at H; exact H
                clear H
                have H := H1
                clear H1
                obtain rfl := Option.some.inj H
                have hnb145 := NB152_101.out
                have hnc145 := NB101_152.out
                have hnb146 := NB152_102.out
                have hnc146 := NB102_152.out
                have hnb147 := NB152_121.out
                have hnc147 := NB121_152.out
                have hnb148 := NB152_137.out
                have hnc148 := NB137_152.out
                have hcz149_0 : wr.cell? ⟨gb152, 0, none⟩ = some (.int .i64 t147) := bc BK152.out 0
                have hcz149_1 : wr.cell? ⟨gb152, 1, none⟩ = some (.slice Ao120 t148.length co120) := bc BK152.out 1
                have hfz149_0 := blk_frozen BK152.out 0
                have hfz149_1 := blk_frozen BK152.out 1
                have p159 : 0 ≤ (x15_5 : Int) := of_decide_eq_true (by first | (with_reducible assumption) | assumption)
                have q159 : x15_5 < (t148.length : Int) := of_decide_eq_true (by first | (with_reducible assumption) | assumption)
                obtain ⟨ad159, e159, hx159_0, hx159_1⟩ := at_T58 (Kd.R_reads' HO_153001.out).2.2 x15_5 p159 q159
                cases e159
                replace p159 := eq_true p159
                replace q159 := eq_true q159
                go_wp2
                go_ret
                exact ⟨by first | rfl | (simp [errW_none, errW_some] <;> rfl) | (simp [*, errW_none, errW_some] <;> rfl), by repeat (first | (with_reducible first | exact HB.out | apply below_alloc | apply pw_below_drewN | apply below_drew1 | refine below_set ?_ GE101.out | refine below_set ?_ GE102.out | refine below_set ?_ GE121.out | refine below_set ?_ GE137.out | refine below_set ?_ GE152.out) | exact HB.out)⟩
               replace c144 := Bool.eq_false_iff.mpr c144
               subst c144
               have H1 : (some false) = some r := by rw [if_neg (show ¬ (false = true) by decide)] at H; exact H
               clear H
               have H := H1
               clear H1
               exact absurd ((Option.some.inj H).trans ht_) (by decide)
              rw [if_neg c143] at H
              have c143b0 : (((rd_T58 t148 x15_5).f0).toList == a2.toList) = false := beq_eq_false_iff_ne.mpr c143
              have c143b1 : (((rd_T58 t148 x15_5).f0).toList != a2.toList) = true := bne_iff_ne.mpr c143
              have H' := A0 H
              clear H
              have hnb155 := NB152_101.out
              have hnc155 := NB101_152.out
              have hnb156 := NB152_102.out
              have hnc156 := NB102_152.out
              have hnb157 := NB152_121.out
              have hnc157 := NB121_152.out
              have hnb158 := NB152_137.out
              have hnc158 := NB137_152.out
              have hcz159_0 : wr.cell? ⟨gb152, 0, none⟩ = some (.int .i64 t147) := bc BK152.out 0
              have hcz159_1 : wr.cell? ⟨gb152, 1, none⟩ = some (.slice Ao120 t148.length co120) := bc BK152.out 1
              have hfz159_0 := blk_frozen BK152.out 0
              have hfz159_1 := blk_frozen BK152.out 1
              have p159 : 0 ≤ (x15_5 : Int) := of_decide_eq_true (by first | (with_reducible assumption) | assumption)
              have q159 : x15_5 < (t148.length : Int) := of_decide_eq_true (by first | (with_reducible assumption) | assumption)
              obtain ⟨ad159, e159, hx159_0, hx159_1⟩ := at_T58 (Kd.R_reads' HO_153001.out).2.2 x15_5 p159 q159
              cases e159
              replace p159 := eq_true p159
              replace q159 := eq_true q159
              go_wp2
              go_roundg k5
              case measure => have := HJ5.out; have := HJ33.out; have := HJ73.out; have := HJ104.out; have := HK5.out; omega
              case rel => exact ⟨(wrap64 (x15_5 + 1)), (by first | rfl | (simp; done) | (simp [*]; done)), H', ⟨by have := HJ5.out; have := HJ33.out; have := HJ73.out; have := HJ104.out; have := HK5.out; omega⟩, ⟨rS (HO_122001.out)⟩, ⟨rS (HO_138001.out)⟩, ⟨rS (HO_153001.out)⟩, ⟨by (with_reducible repeat (first | refine blk_drewN ?_ _ | refine blk_drew ?_ | refine blk_alloc ?_ _)); exact BK101.out⟩, ⟨by (with_reducible repeat (first | refine blk_drewN ?_ _ | refine blk_drew ?_ | refine blk_alloc ?_ _)); exact BK102.out⟩, ⟨by (with_reducible repeat (first | refine blk_drewN ?_ _ | refine blk_drew ?_ | refine blk_alloc ?_ _)); exact BK121.out⟩, ⟨by (with_reducible repeat (first | refine blk_drewN ?_ _ | refine blk_drew ?_ | refine blk_alloc ?_ _)); exact BK137.out⟩, ⟨by (with_reducible repeat (first | refine blk_drewN ?_ _ | refine blk_drew ?_ | refine blk_alloc ?_ _)); exact BK152.out⟩, ⟨by repeat (first | (with_reducible first | exact HB.out | apply below_alloc | apply pw_below_drewN | apply below_drew1 | refine below_set ?_ GE101.out | refine below_set ?_ GE102.out | refine below_set ?_ GE121.out | refine below_set ?_ GE137.out | refine below_set ?_ GE152.out) | exact HB.out)⟩⟩
             rw [if_neg c141] at H
             have c141b0 : decide (x15_5 < (t148.length : Int)) = false := decide_eq_false c141
             clear c141
             by_cases c160 : t158 = true
             ·subst c160
              have H1 : (some false) = some r := by rw [if_pos rfl] at H; exact H
              clear H
              have H := H1
              clear H1
              exact absurd ((Option.some.inj H).trans ht_) (by decide)
             replace c160 := Bool.eq_false_iff.mpr c160
             subst c160
             have H1 : (some (t157 == 0)) = some r := by rw [if_neg (show ¬ (false = true) by decide)] at H; exact H
             clear H
             have H := H1
             clear H1
             obtain rfl := Option.some.inj H
             have hnb166 := NB152_101.out
             have hnc166 := NB101_152.out
             have hnb167 := NB152_102.out
             have hnc167 := NB102_152.out
             have hnb168 := NB152_121.out
             have hnc168 := NB121_152.out
             have hnb169 := NB152_137.out
             have hnc169 := NB137_152.out
             have hcz170_0 : wr.cell? ⟨gb152, 0, none⟩ = some (.int .i64 t147) := bc BK152.out 0
             have hcz170_1 : wr.cell? ⟨gb152, 1, none⟩ = some (.slice Ao120 t148.length co120) := bc BK152.out 1
             have hfz170_0 := blk_frozen BK152.out 0
             have hfz170_1 := blk_frozen BK152.out 1
             go_wp2
             go_ret
             exact ⟨by first | rfl | (simp [errW_none, errW_some] <;> rfl) | (simp [*, errW_none, errW_some] <;> rfl), by repeat (first | (with_reducible first | exact HB.out | apply below_alloc | apply pw_below_drewN | apply below_drew1 | refine below_set ?_ GE101.out | refine below_set ?_ GE102.out | refine below_set ?_ GE121.out | refine below_set ?_ GE137.out | refine below_set ?_ GE152.out) | exact HB.out)⟩
        replace c104 := Bool.eq_false_iff.mpr c104
        subst c104
        have H1 : (if t120 = 7 then (if t116 = 0 then (some ((t117.length : Int) == 0)) else (some false)) else (some false)) = some r := by rw [if_neg (show ¬ (false = true) by decide)] at H; exact H
        clear H
        have H := H1
        clear H1
        by_cases c171 : t120 = 7
        rotate_left
        ·rw [if_neg c171] at H
         exact absurd ((Option.some.inj H).trans ht_) (by decide)
        rw [if_pos c171] at H
        have c171b0 : (t120 == 7) = true := beq_iff_eq.mpr c171
        have c171b1 : (t120 != 7) = false := bne_eq_false_iff_eq.mpr c171
        clear c171
        by_cases c172 : t116 = 0
        rotate_left
        ·rw [if_neg c172] at H
         exact absurd ((Option.some.inj H).trans ht_) (by decide)
        rw [if_pos c172] at H
        have c172b0 : (t116 == 0) = true := beq_iff_eq.mpr c172
        have c172b1 : (t116 != 0) = false := bne_eq_false_iff_eq.mpr c172
        clear c172
        obtain rfl := Option.some.inj H
        have hnb173 := NB101_102.out
        have hnc173 := NB102_101.out
        have hnb174 := NB101_121.out
        have hnc174 := NB121_101.out
        have hnb175 := NB101_137.out
        have hnc175 := NB137_101.out
        have hcz176_0 : wc.cell? ⟨gb101, 0, none⟩ = some (.int .i64 a0_0) := bc BK101.out 0
        have hcz176_1 : wc.cell? ⟨gb101, 1, none⟩ = some (.int .i64 a0_1) := bc BK101.out 1
        have hcz176_2 : wc.cell? ⟨gb101, 2, none⟩ = some (.slice A0_2 l0_2.length c0_2) := bc BK101.out 2
        have hfz176_0 := blk_frozen BK101.out 0
        have hfz176_1 := blk_frozen BK101.out 1
        have hfz176_2 := blk_frozen BK101.out 2
        have hnb177 := NB102_121.out
        have hnc177 := NB121_102.out
        have hnb178 := NB102_137.out
        have hnc178 := NB137_102.out
        have hcz179_0 : wc.cell? ⟨gb102, 0, none⟩ = some (.int .i64 a1_0) := bc BK102.out 0
        have hcz179_1 : wc.cell? ⟨gb102, 1, none⟩ = some (.int .i64 a1_1) := bc BK102.out 1
        have hcz179_2 : wc.cell? ⟨gb102, 2, none⟩ = some (.slice A1_2 l1_2.length c1_2) := bc BK102.out 2
        have hfz179_0 := blk_frozen BK102.out 0
        have hfz179_1 := blk_frozen BK102.out 1
        have hfz179_2 := blk_frozen BK102.out 2
        go_wp2_with (first | ((with_reducible refine gate_callee (f := 32) rfl ?_); refine goesL_ (some 89) rfl rfl Try.func32 (by kernel_rfl) rfl #[.agg #[.int .i64 a0_0, .int .i64 a0_1, .slice A0_2 l0_2.length c0_2], .agg #[.int .i64 a1_0, .int .i64 a1_1, .slice A1_2 l1_2.length c1_2]] rfl (by (try simp only [List.map_toArray, List.map_cons, List.map_nil]); first | done | rfl | (simp only [List.length_drop, List.length_take]; rfl)) ?_; (with_reducible refine (hatchwayref32_Agree.calls kj73 a0_0 a0_1 _ _ l0_2 a1_0 a1_1 _ _ l1_2 t147 t148 false _ ?side1 ?side2 ?side3 ?side4 A103.out).mono ?_); (case side1 => repeat (first | exact (Kd.C_below HR0_2.out HB.out) | (with_reducible refine Kd.C_alloc ?_ _) | (with_reducible refine Kd.C_drewN ?_ _) | (with_reducible refine Kd.C_drew ?_))); (case side2 => exact HC0_2.out); (case side3 => repeat (first | exact (Kd.C_below HR1_2.out HB.out) | (with_reducible refine Kd.C_alloc ?_ _) | (with_reducible refine Kd.C_drewN ?_ _) | (with_reducible refine Kd.C_drew ?_))); (case side4 => exact HC1_2.out); rintro e w180 ⟨v149, rfl, ho0, hb⟩; refine ⟨_, rfl, ?_⟩; replace HO_122001 := A0 (Kd.R_below (rS HO_122001.out) hb); replace HO_138001 := A0 (Kd.R_below (rS HO_138001.out) hb); have HO150 := A0 (Kd.R_lower ho0 (below_size (lS HB.out))); replace BK101 := A0 (blk_below (bS BK101.out) hb); replace BK102 := A0 (blk_below (bS BK102.out) hb); replace BK121 := A0 (blk_below (bS BK121.out) hb); replace BK137 := A0 (blk_below (bS BK137.out) hb); replace HB := A0 (below_step (lS HB.out) hb); (try clear hb); (try clear hb2); (try clear hk); (try clear hi); (try clear ho0)) | ((with_reducible refine gate_dst (N := 11) rfl ?_); (try (refine gate_guard (by rfl) ?_; dsimp only)); refine box_event ?hg (N := 11) ?hd (cs := #[.int .i64 0, .slice none 0 0]) (t := 52) ?hr ?_; (case hd => rfl); (case hg => rfl); (case hr => first | (go_simp; done) | (go_simp; rfl)); intro gb152 hg w181 hbox hb; have n0_ := A0 (Kd.R_below (rS HO_122001.out) hb); have n1_ := A0 (Kd.R_below (rS HO_138001.out) hb); have n2_ := A0 (Kd.R_below (rS HO150.out) hb); have n3_ := A0 (blk_below (bS BK101.out) hb); have n4_ := A0 (blk_below (bS BK102.out) hb); have n5_ := A0 (blk_below (bS BK121.out) hb); have n6_ := A0 (blk_below (bS BK137.out) hb); have n7_ := A0 (below_step (lS HB.out) hb); have n8_ := A0 (hbox); have n9_ := A0 ((by rw [hg]; exact (below_size (lS HB.out)) : w.heap.size ≤ gb152)); have n10_ := A0 ((by rw [hg]; exact (below_size (lS HB.out)) : w.heap.size ≤ gb152)); have n11_ := A0 ((by rw [hg]; exact Nat.ne_of_lt (blk_lt (g := gb101) (o := .cells #[.int .i64 a0_0, .int .i64 a0_1, .slice A0_2 l0_2.length c0_2] 39 (0, 0)) (bS BK101.out)) : gb101 ≠ gb152)); have n12_ := A0 ((by rw [hg]; exact Nat.ne_of_gt (blk_lt (g := gb101) (o := .cells #[.int .i64 a0_0, .int .i64 a0_1, .slice A0_2 l0_2.length c0_2] 39 (0, 0)) (bS BK101.out)) : gb152 ≠ gb101)); have n13_ := A0 ((by rw [hg]; exact Nat.ne_of_lt (blk_lt (g := gb102) (o := .cells #[.int .i64 a1_0, .int .i64 a1_1, .slice A1_2 l1_2.length c1_2] 39 (0, 0)) (bS BK102.out)) : gb102 ≠ gb152)); have n14_ := A0 ((by rw [hg]; exact Nat.ne_of_gt (blk_lt (g := gb102) (o := .cells #[.int .i64 a1_0, .int .i64 a1_1, .slice A1_2 l1_2.length c1_2] 39 (0, 0)) (bS BK102.out)) : gb152 ≠ gb102)); have n15_ := A0 ((by rw [hg]; exact Nat.ne_of_lt (blk_lt (g := gb121) (o := .cells #[.int .i64 t116, .slice Ao44 t117.length co44] 43 (0, 0)) (bS BK121.out)) : gb121 ≠ gb152)); have n16_ := A0 ((by rw [hg]; exact Nat.ne_of_gt (blk_lt (g := gb121) (o := .cells #[.int .i64 t116, .slice Ao44 t117.length co44] 43 (0, 0)) (bS BK121.out)) : gb152 ≠ gb121)); have n17_ := A0 ((by rw [hg]; exact Nat.ne_of_lt (blk_lt (g := gb137) (o := .cells #[.int .i64 t132, .slice Ao56 t133.length co56] 43 (0, 0)) (bS BK137.out)) : gb137 ≠ gb152)); have n18_ := A0 ((by rw [hg]; exact Nat.ne_of_gt (blk_lt (g := gb137) (o := .cells #[.int .i64 t132, .slice Ao56 t133.length co56] 43 (0, 0)) (bS BK137.out)) : gb152 ≠ gb137)); clear HO_122001; clear HO_138001; clear HO150; clear BK101; clear BK102; clear BK121; clear BK137; clear HB; have HO_122001 := n0_; have HO_138001 := n1_; have HO150 := n2_; have BK101 := n3_; have BK102 := n4_; have BK121 := n5_; have BK137 := n6_; have HB := n7_; have BK152 := n8_; have GW152 := n9_; have GE152 := n10_; have NB101_152 := n11_; have NB152_101 := n12_; have NB102_152 := n13_; have NB152_102 := n14_; have NB121_152 := n15_; have NB152_121 := n16_; have NB137_152 := n17_; have NB152_137 := n18_; clear n0_ n1_ n2_ n3_ n4_ n5_ n6_ n7_ n8_ n9_ n10_ n11_ n12_ n13_ n14_ n15_ n16_ n17_ n18_; clear hb hbox hg; have hnb182 := NB152_101.out; have hnc182 := NB101_152.out; have hnb183 := NB152_102.out; have hnc183 := NB102_152.out; have hnb184 := NB152_121.out; have hnc184 := NB121_152.out; have hnb185 := NB152_137.out; have hnc185 := NB137_152.out; have hcz186_0 : w181.cell? ⟨gb152, 0, none⟩ = some (.int .i64 0) := bc BK152.out 0; have hcz186_1 : w181.cell? ⟨gb152, 1, none⟩ = some (.slice none 0 0) := bc BK152.out 1; have hfz186_0 := blk_frozen BK152.out 0; have hfz186_1 := blk_frozen BK152.out 1; obtain ⟨Ao187, co187, eo187⟩ := Kd.R_slice HO150.out; subst eo187; have hnb188 := NB121_137.out; have hnc188 := NB137_121.out; have hcz189_0 : w181.cell? ⟨gb121, 0, none⟩ = some (.int .i64 t116) := bc BK121.out 0; have hcz189_1 : w181.cell? ⟨gb121, 1, none⟩ = some (.slice Ao44 t117.length co44) := bc BK121.out 1; have hfz189_0 := blk_frozen BK121.out 0; have hfz189_1 := blk_frozen BK121.out 1))
        go_ret
        exact ⟨by first | rfl | (simp [errW_none, errW_some] <;> rfl) | (simp [*, errW_none, errW_some] <;> rfl), by repeat (first | (with_reducible first | exact HB.out | apply below_alloc | apply pw_below_drewN | apply below_drew1 | refine below_set ?_ GE101.out | refine below_set ?_ GE102.out | refine below_set ?_ GE121.out | refine below_set ?_ GE137.out | refine below_set ?_ GE152.out) | exact HB.out)⟩
 replace c5 := Bool.eq_false_iff.mpr c5
 subst c5
 have H1 : (some false) = some r := by rw [if_neg (show ¬ (false = true) by decide)] at H; exact H
 clear H
 have H := H1
 clear H1
 exact absurd ((Option.some.inj H).trans ht_) (by decide)
end Go.Proofs.Yteoibgpkimlahaa.P
end
