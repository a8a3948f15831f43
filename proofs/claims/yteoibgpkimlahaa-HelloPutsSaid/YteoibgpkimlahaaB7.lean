/- Whether any hello may be, and its bytes, or the error, are the document's; it is got again. (part 7 of 27) -/
import Derived.Test.YteoibgpkimlahaaB6
section
namespace Go.Proofs.Yteoibgpkimlahaa.P
open Go.RowKit Go.Proofs.YteoibgpkimlahaaW.PrintWords Go.Proofs.YteoibgpkimlahaaW.PrintLast Go.Proofs.YteoibgpkimlahaaW.PrintMore
attribute [local go_sem] max2_int min2_int max_two min_two max_three min_three max_four min_four   
set_option linter.unusedVariables false
set_option linter.unusedSimpArgs false
mutual
def hatchwayref32_May.j0 : Nat → Bool → Int → Int → List (S58) → Option (Bool)
 | 0, _, _, _, _ => none
 | k + 1, x25, x102000, x102001, x102002 => if x25 = true then (some false) else (hatchwayref32_May.l0 k 0 x102000 x102001 x102002)
def hatchwayref32_May.l0 : Nat → Int → Int → Int → List (S58) → Option (Bool)
 | 0, _, _, _, _ => none
 | k + 1, x3, x102000, x102001, x102002 => if x3 < (x102002.length : Int) then (if 0 ≤ x3 then ((hatchwayref13_May.f k ((rd_T58 x102002 x3).f0)).bind fun t104 => (if t104 = true then (if ((rd_T58 x102002 x3).f1) < 1 then (hatchwayref32_May.j2 k x3 true x102000 x102001 x102002 ((rd_T58 x102002 x3).f0) ((rd_T58 x102002 x3).f1)) else (hatchwayref32_May.j2 k x3 (decide (((rd_T58 x102002 x3).f1) > 255)) x102000 x102001 x102002 ((rd_T58 x102002 x3).f0) ((rd_T58 x102002 x3).f1))) else (hatchwayref32_May.j2 k x3 true x102000 x102001 x102002 ((rd_T58 x102002 x3).f0) ((rd_T58 x102002 x3).f1)))) else (none)) else (some true)
def hatchwayref32_May.j2 : Nat → Int → Bool → Int → Int → List (S58) → ByteArray → Int → Option (Bool)
 | 0, _, _, _, _, _, _, _ => none
 | k + 1, x3, x51, x102000, x102001, x102002, x104000, x104001 => if x51 = true then (some false) else (if x3 > 0 then (if 0 ≤ (wrap64 (x3 - 1)) then (if (wrap64 (x3 - 1)) < (x102002.length : Int) then (if (Op.bytesLess (((rd_T58 x102002 (wrap64 (x3 - 1))).f0).toList) x104000.toList) = true then (hatchwayref32_May.l0 k (wrap64 (x3 + 1)) x102000 x102001 x102002) else (if ((rd_T58 x102002 (wrap64 (x3 - 1))).f0).toList = x104000.toList then (if (((rd_T58 x102002 (wrap64 (x3 - 1))).f1) < x104001) then (hatchwayref32_May.l0 k (wrap64 (x3 + 1)) x102000 x102001 x102002) else (some false)) else (some false))) else (none)) else (none)) else (hatchwayref32_May.l0 k (wrap64 (x3 + 1)) x102000 x102001 x102002))
end
def hatchwayref32_May.f (k : Nat) (a0_0 : Int) (a0_1 : Int) (l0_2 : List (S58)) : Option (Bool) := if a0_0 < 1 then (hatchwayref32_May.j0 k true a0_0 a0_1 l0_2) else (if a0_0 > a0_1 then (hatchwayref32_May.j0 k true a0_0 a0_1 l0_2) else (if a0_1 > 65535 then (hatchwayref32_May.j0 k true a0_0 a0_1 l0_2) else (hatchwayref32_May.j0 k (decide ((l0_2.length : Int) > 16)) a0_0 a0_1 l0_2)))
theorem hatchwayref32_May.mono_l : ∀ k, (∀ y0 y1 y2 y3, LeO (hatchwayref32_May.j0 k y0 y1 y2 y3) (hatchwayref32_May.j0 (k + 1) y0 y1 y2 y3)) ∧ (∀ y0 y1 y2 y3, LeO (hatchwayref32_May.l0 k y0 y1 y2 y3) (hatchwayref32_May.l0 (k + 1) y0 y1 y2 y3)) ∧ (∀ y0 y1 y2 y3 y4 y5 y6, LeO (hatchwayref32_May.j2 k y0 y1 y2 y3 y4 y5 y6) (hatchwayref32_May.j2 (k + 1) y0 y1 y2 y3 y4 y5 y6))
 | 0 => ⟨fun _ _ _ _ r h => by simp [hatchwayref32_May.j0] at h, fun _ _ _ _ r h => by simp [hatchwayref32_May.l0] at h, fun _ _ _ _ _ _ _ r h => by simp [hatchwayref32_May.j2] at h⟩
 | k + 1 => by
  obtain ⟨ih0, ih1, ih2⟩ := hatchwayref32_May.mono_l k
  refine ⟨?_, ?_, ?_⟩
  ·intro y0 y1 y2 y3
   unfold hatchwayref32_May.j0
   repeat' first
   | (with_reducible exact ih0 _ _ _ _)
   | (with_reducible exact ih1 _ _ _ _)
   | (with_reducible exact ih2 _ _ _ _ _ _ _)
   | (with_reducible exact hatchwayref13_May.mono _ _)
   | (with_reducible exact LeO.refl _)
   | (with_reducible exact LeO.none _)
   | (with_reducible refine LeO.ite ?_ ?_)
   | (with_reducible refine LeO.bind ?_ (fun _ => ?_))
   | exact ih0 _ _ _ _
   | exact ih1 _ _ _ _
   | exact ih2 _ _ _ _ _ _ _
   | exact hatchwayref13_May.mono _ _
   | exact LeO.none _
   | refine LeO.ite ?_ ?_
   | refine LeO.bind ?_ (fun _ => ?_)
  ·intro y0 y1 y2 y3
   unfold hatchwayref32_May.l0
   repeat' first
   | (with_reducible exact ih0 _ _ _ _)
   | (with_reducible exact ih1 _ _ _ _)
   | (with_reducible exact ih2 _ _ _ _ _ _ _)
   | (with_reducible exact hatchwayref13_May.mono _ _)
   | (with_reducible exact LeO.refl _)
   | (with_reducible exact LeO.none _)
   | (with_reducible refine LeO.ite ?_ ?_)
   | (with_reducible refine LeO.bind ?_ (fun _ => ?_))
   | exact ih0 _ _ _ _
   | exact ih1 _ _ _ _
   | exact ih2 _ _ _ _ _ _ _
   | exact hatchwayref13_May.mono _ _
   | exact LeO.none _
   | refine LeO.ite ?_ ?_
   | refine LeO.bind ?_ (fun _ => ?_)
  ·intro y0 y1 y2 y3 y4 y5 y6
   unfold hatchwayref32_May.j2
   repeat' first
   | (with_reducible exact ih0 _ _ _ _)
   | (with_reducible exact ih1 _ _ _ _)
   | (with_reducible exact ih2 _ _ _ _ _ _ _)
   | (with_reducible exact hatchwayref13_May.mono _ _)
   | (with_reducible exact LeO.refl _)
   | (with_reducible exact LeO.none _)
   | (with_reducible refine LeO.ite ?_ ?_)
   | (with_reducible refine LeO.bind ?_ (fun _ => ?_))
   | exact ih0 _ _ _ _
   | exact ih1 _ _ _ _
   | exact ih2 _ _ _ _ _ _ _
   | exact hatchwayref13_May.mono _ _
   | exact LeO.none _
   | refine LeO.ite ?_ ?_
   | refine LeO.bind ?_ (fun _ => ?_)
theorem hatchwayref32_May.mono : ∀ a0 a1 a2 k, LeO (hatchwayref32_May.f k a0 a1 a2) (hatchwayref32_May.f (k + 1) a0 a1 a2) := by
 intro a0 a1 a2 k
 obtain ⟨ih0, ih1, ih2⟩ := hatchwayref32_May.mono_l k
 unfold hatchwayref32_May.f
 repeat' first
   | (with_reducible exact ih0 _ _ _ _)
   | (with_reducible exact ih1 _ _ _ _)
   | (with_reducible exact ih2 _ _ _ _ _ _ _)
   | (with_reducible exact hatchwayref13_May.mono _ _)
   | (with_reducible exact LeO.refl _)
   | (with_reducible exact LeO.none _)
   | (with_reducible refine LeO.ite ?_ ?_)
   | (with_reducible refine LeO.bind ?_ (fun _ => ?_))
   | exact ih0 _ _ _ _
   | exact ih1 _ _ _ _
   | exact ih2 _ _ _ _ _ _ _
   | exact hatchwayref13_May.mono _ _
   | exact LeO.none _
   | refine LeO.ite ?_ ?_
   | refine LeO.bind ?_ (fun _ => ?_)
set_option maxHeartbeats 8000000 in
set_option maxRecDepth 100000 in
theorem hatchwayref32_May.calls (k : Nat) (a0_0 : Int) (a0_1 : Int) (A0_2 : Option Addr) (c0_2 : Nat) (l0_2 : List (S58)) (r : Bool) (w : World) (hr0_2 : Kd.C k58 w A0_2 l0_2.length l0_2) (hc0_2 : l0_2.length ≤ c0_2) (h : hatchwayref32_May.f k a0_0 a0_1 l0_2 = some r) :
  Calls Try.prog 31 #[.agg #[.int .i64 a0_0, .int .i64 a0_1, .slice A0_2 l0_2.length c0_2]] w fun e w' => e = .returned (.bool r) ∧ Below w.heap.size w w' := by
 have hu39 := Try.underlying39
 have hu58 := Try.underlying58
 have HR0_2 := A0 hr0_2
 have HC0_2 := A0 hc0_2
 clear hr0_2 hc0_2
 have HB := A0 (Below.refl w.heap.size w)
 have H : (if a0_0 < 1 then (hatchwayref32_May.j0 k true a0_0 a0_1 l0_2) else (if a0_0 > a0_1 then (hatchwayref32_May.j0 k true a0_0 a0_1 l0_2) else (if a0_1 > 65535 then (hatchwayref32_May.j0 k true a0_0 a0_1 l0_2) else (hatchwayref32_May.j0 k (decide ((l0_2.length : Int) > 16)) a0_0 a0_1 l0_2)))) = some r := h
 clear h
 have HC2 := A0 H
 clear H
 go_enter Try.func31, Try.ntmps31
 go_upto_region 1 with (first | ((with_reducible refine gate_dst (N := 1) rfl ?_); (try (refine gate_guard (by rfl) ?_; dsimp only)); refine box_event ?hg (N := 1) ?hd (cs := #[.int .i64 a0_0, .int .i64 a0_1, .slice A0_2 l0_2.length c0_2]) (t := 39) ?hr ?_; (case hd => rfl); (case hg => rfl); (case hr => first | (go_simp; done) | (go_simp; rfl)); intro gb101 hg w3 hbox hb; have n0_ := A0 (below_step (by repeat (first | (with_reducible first | exact HB.out | apply below_alloc | apply pw_below_drewN | apply below_drew1) | exact HB.out)) hb); have n1_ := A0 (hbox); have n2_ := A0 ((by rw [hg]; exact (below_size (by repeat (first | (with_reducible first | exact HB.out | apply below_alloc | apply pw_below_drewN | apply below_drew1) | exact HB.out))) : w.heap.size ≤ gb101)); have n3_ := A0 ((by rw [hg]; exact (below_size (by repeat (first | (with_reducible first | exact HB.out | apply below_alloc | apply pw_below_drewN | apply below_drew1) | exact HB.out))) : w.heap.size ≤ gb101)); clear HB; have HB := n0_; have BK101 := n1_; have GW101 := n2_; have GE101 := n3_; clear n0_ n1_ n2_ n3_; clear hb hbox hg))
 repeat (go_quiet (first | ((with_reducible refine gate_dst (N := 1) rfl ?_); (try (refine gate_guard (by rfl) ?_; dsimp only)); refine box_event ?hg (N := 1) ?hd (cs := #[.int .i64 a0_0, .int .i64 a0_1, .slice A0_2 l0_2.length c0_2]) (t := 39) ?hr ?_; (case hd => rfl); (case hg => rfl); (case hr => first | (go_simp; done) | (go_simp; rfl)); intro gb101 hg w3 hbox hb; have n0_ := A0 (below_step (by repeat (first | (with_reducible first | exact HB.out | apply below_alloc | apply pw_below_drewN | apply below_drew1) | exact HB.out)) hb); have n1_ := A0 (hbox); have n2_ := A0 ((by rw [hg]; exact (below_size (by repeat (first | (with_reducible first | exact HB.out | apply below_alloc | apply pw_below_drewN | apply below_drew1) | exact HB.out))) : w.heap.size ≤ gb101)); have n3_ := A0 ((by rw [hg]; exact (below_size (by repeat (first | (with_reducible first | exact HB.out | apply below_alloc | apply pw_below_drewN | apply below_drew1) | exact HB.out))) : w.heap.size ≤ gb101)); clear HB; have HB := n0_; have BK101 := n1_; have GW101 := n2_; have GE101 := n3_; clear n0_ n1_ n2_ n3_; clear hb hbox hg)); go_upto_region 1 with (first | ((with_reducible refine gate_dst (N := 1) rfl ?_); (try (refine gate_guard (by rfl) ?_; dsimp only)); refine box_event ?hg (N := 1) ?hd (cs := #[.int .i64 a0_0, .int .i64 a0_1, .slice A0_2 l0_2.length c0_2]) (t := 39) ?hr ?_; (case hd => rfl); (case hg => rfl); (case hr => first | (go_simp; done) | (go_simp; rfl)); intro gb101 hg w3 hbox hb; have n0_ := A0 (below_step (by repeat (first | (with_reducible first | exact HB.out | apply below_alloc | apply pw_below_drewN | apply below_drew1) | exact HB.out)) hb); have n1_ := A0 (hbox); have n2_ := A0 ((by rw [hg]; exact (below_size (by repeat (first | (with_reducible first | exact HB.out | apply below_alloc | apply pw_below_drewN | apply below_drew1) | exact HB.out))) : w.heap.size ≤ gb101)); have n3_ := A0 ((by rw [hg]; exact (below_size (by repeat (first | (with_reducible first | exact HB.out | apply below_alloc | apply pw_below_drewN | apply below_drew1) | exact HB.out))) : w.heap.size ≤ gb101)); clear HB; have HB := n0_; have BK101 := n1_; have GW101 := n2_; have GE101 := n3_; clear n0_ n1_ n2_ n3_; clear hb hbox hg)))
 (try simp only [Act.put, zu1, zu2, zu3])
 go_cut [25] (fun v25 wc => ∃ (kq : Nat) (x25_1 : Bool), v25 = .bool x25_1 ∧ Aside0 (hatchwayref32_May.j0 kq x25_1 a0_0 a0_1 l0_2 = some r) ∧ Aside0 (kq ≤ k) ∧ Aside0 (wc.heap[gb101]? = some (.cells #[.int .i64 a0_0, .int .i64 a0_1, (.slice A0_2 l0_2.length c0_2)] 39 (0, 0))) ∧ Aside0 (Below w.heap.size w wc))
 case first =>
  have H := HC2.out
  clear HC2
  by_cases c4 : a0_0 < 1
  ·rw [if_pos c4] at H
   have c4b0 : decide (a0_0 < 1) = true := decide_eq_true c4
   clear c4
   (first | rw [c4b0] | (simp only [i64_w, i32_w]; rw [c4b0]) | skip)
   have H' := A0 H
   clear H
   have hcz5_0 : w3.cell? ⟨gb101, 0, none⟩ = some (.int .i64 a0_0) := bc BK101.out 0
   have hcz5_1 : w3.cell? ⟨gb101, 1, none⟩ = some (.int .i64 a0_1) := bc BK101.out 1
   have hcz5_2 : w3.cell? ⟨gb101, 2, none⟩ = some (.slice A0_2 l0_2.length c0_2) := bc BK101.out 2
   have hfz5_0 := blk_frozen BK101.out 0
   have hfz5_1 := blk_frozen BK101.out 1
   have hfz5_2 := blk_frozen BK101.out 2
   go_wp2
   repeat (go_quiet (fail); try go_wp2)
   go_meet
   case rel => exact ⟨_, (true), (by first | rfl | (simp; done) | (simp [*]; done)), H', ⟨by first | omega | exact Nat.le_refl _⟩, ⟨by (with_reducible repeat (first | refine blk_drewN ?_ _ | refine blk_drew ?_ | refine blk_alloc ?_ _)); exact BK101.out⟩, ⟨by repeat (first | (with_reducible first | exact HB.out | apply below_alloc | apply pw_below_drewN | apply below_drew1 | refine below_set ?_ GE101.out) | exact HB.out)⟩⟩
  rw [if_neg c4] at H
  have c4b0 : decide (a0_0 < 1) = false := decide_eq_false c4
  clear c4
  (first | rw [c4b0] | (simp only [i64_w, i32_w]; rw [c4b0]) | skip)
  by_cases c6 : a0_0 > a0_1
  ·rw [if_pos c6] at H
   have c6b0 : decide (a0_1 < a0_0) = true := decide_eq_true c6
   clear c6
   have H' := A0 H
   clear H
   have hcz7_0 : w3.cell? ⟨gb101, 0, none⟩ = some (.int .i64 a0_0) := bc BK101.out 0
   have hcz7_1 : w3.cell? ⟨gb101, 1, none⟩ = some (.int .i64 a0_1) := bc BK101.out 1
   have hcz7_2 : w3.cell? ⟨gb101, 2, none⟩ = some (.slice A0_2 l0_2.length c0_2) := bc BK101.out 2
   have hfz7_0 := blk_frozen BK101.out 0
   have hfz7_1 := blk_frozen BK101.out 1
   have hfz7_2 := blk_frozen BK101.out 2
   go_wp2
   repeat (go_quiet (fail); try go_wp2)
   go_meet
   case rel => exact ⟨_, (true), (by first | rfl | (simp; done) | (simp [*]; done)), H', ⟨by first | omega | exact Nat.le_refl _⟩, ⟨by (with_reducible repeat (first | refine blk_drewN ?_ _ | refine blk_drew ?_ | refine blk_alloc ?_ _)); exact BK101.out⟩, ⟨by repeat (first | (with_reducible first | exact HB.out | apply below_alloc | apply pw_below_drewN | apply below_drew1 | refine below_set ?_ GE101.out) | exact HB.out)⟩⟩
  rw [if_neg c6] at H
  have c6b0 : decide (a0_1 < a0_0) = false := decide_eq_false c6
  clear c6
  by_cases c8 : a0_1 > 65535
  ·rw [if_pos c8] at H
   have c8b0 : decide (65535 < a0_1) = true := decide_eq_true c8
   clear c8
   have H' := A0 H
   clear H
   have hcz9_0 : w3.cell? ⟨gb101, 0, none⟩ = some (.int .i64 a0_0) := bc BK101.out 0
   have hcz9_1 : w3.cell? ⟨gb101, 1, none⟩ = some (.int .i64 a0_1) := bc BK101.out 1
   have hcz9_2 : w3.cell? ⟨gb101, 2, none⟩ = some (.slice A0_2 l0_2.length c0_2) := bc BK101.out 2
   have hfz9_0 := blk_frozen BK101.out 0
   have hfz9_1 := blk_frozen BK101.out 1
   have hfz9_2 := blk_frozen BK101.out 2
   go_wp2
   repeat (go_quiet (fail); try go_wp2)
   go_meet
   case rel => exact ⟨_, (true), (by first | rfl | (simp; done) | (simp [*]; done)), H', ⟨by first | omega | exact Nat.le_refl _⟩, ⟨by (with_reducible repeat (first | refine blk_drewN ?_ _ | refine blk_drew ?_ | refine blk_alloc ?_ _)); exact BK101.out⟩, ⟨by repeat (first | (with_reducible first | exact HB.out | apply below_alloc | apply pw_below_drewN | apply below_drew1 | refine below_set ?_ GE101.out) | exact HB.out)⟩⟩
  rw [if_neg c8] at H
  have c8b0 : decide (65535 < a0_1) = false := decide_eq_false c8
  clear c8
  have H' := A0 H
  clear H
  have hcz10_0 : w3.cell? ⟨gb101, 0, none⟩ = some (.int .i64 a0_0) := bc BK101.out 0
  have hcz10_1 : w3.cell? ⟨gb101, 1, none⟩ = some (.int .i64 a0_1) := bc BK101.out 1
  have hcz10_2 : w3.cell? ⟨gb101, 2, none⟩ = some (.slice A0_2 l0_2.length c0_2) := bc BK101.out 2
  have hfz10_0 := blk_frozen BK101.out 0
  have hfz10_1 := blk_frozen BK101.out 1
  have hfz10_2 := blk_frozen BK101.out 2
  go_wp2
  repeat (go_quiet (fail); try go_wp2)
  go_meet
  case rel => exact ⟨_, (decide ((l0_2.length : Int) > 16)), (by first | rfl | (simp; done) | (simp [*]; done)), H', ⟨by first | omega | exact Nat.le_refl _⟩, ⟨by (with_reducible repeat (first | refine blk_drewN ?_ _ | refine blk_drew ?_ | refine blk_alloc ?_ _)); exact BK101.out⟩, ⟨by repeat (first | (with_reducible first | exact HB.out | apply below_alloc | apply pw_below_drewN | apply below_drew1 | refine below_set ?_ GE101.out) | exact HB.out)⟩⟩
 case rest =>
  clear HC2
  try clear p2
  try clear c3
  try clear c4
  try clear c4b0
  try clear c6
  try clear c6b0
  try clear c8
  try clear c8b0
  try clear hcz10_0
  try clear hcz10_1
  try clear hcz10_2
  try clear hcz5_0
  try clear hcz5_1
  try clear hcz5_2
  try clear hcz7_0
  try clear hcz7_1
  try clear hcz7_2
  try clear hcz9_0
  try clear hcz9_1
  try clear hcz9_2
  try clear hfz10_0
  try clear hfz10_1
  try clear hfz10_2
  try clear hfz5_0
  try clear hfz5_1
  try clear hfz5_2
  try clear hfz7_0
  try clear hfz7_1
  try clear hfz7_2
  try clear hfz9_0
  try clear hfz9_1
  try clear hfz9_2
  obtain ⟨kq, x25_1, rfl, HA, HJ1, BK101, HB⟩ := hcut
  cases kq with
  | zero => exact absurd HA.out (by simp [hatchwayref32_May.j0])
  | succ kj1 =>
   have H := HA.out
   clear HA
   simp only [hatchwayref32_May.j0] at H
   by_cases c11 : x25_1 = true
   ·subst c11
    have H1 : (some false) = some r := by rw [if_pos rfl] at H; exact H
    clear H
    have H := H1
    clear H1
    obtain rfl := Option.some.inj H
    go_wp2
    repeat (go_quiet (fail); try go_wp2)
    go_ret
    exact ⟨by first | rfl | (simp [errW_none, errW_some] <;> rfl) | (simp [*, errW_none, errW_some] <;> rfl), by repeat (first | (with_reducible first | exact HB.out | apply below_alloc | apply pw_below_drewN | apply below_drew1 | refine below_set ?_ GE101.out) | exact HB.out)⟩
   replace c11 := Bool.eq_false_iff.mpr c11
   subst c11
   have H1 : (hatchwayref32_May.l0 kj1 0 a0_0 a0_1 l0_2) = some r := by rw [if_neg (show ¬ (false = true) by decide)] at H; exact H
   clear H
   have H := H1
   clear H1
   have H' := A0 H
   clear H
   go_wp2
   repeat (go_quiet (fail); try go_wp2)
   go_loopg [3] kj1 (fun kq v3 w' => ∃ (x3_2 : Int), v3 = .int .i64 x3_2 ∧ Aside0 (hatchwayref32_May.l0 kq x3_2 a0_0 a0_1 l0_2 = some r) ∧ Aside0 (kq ≤ kj1) ∧ Aside0 (w'.heap[gb101]? = some (.cells #[.int .i64 a0_0, .int .i64 a0_1, (.slice A0_2 l0_2.length c0_2)] 39 (0, 0))) ∧ Aside0 (Below w.heap.size w w'))
   case atStart => exact ⟨(0), (by first | rfl | (simp; done) | (simp [*]; done)), H', ⟨Nat.le_refl _⟩, ⟨by (with_reducible repeat (first | refine blk_drewN ?_ _ | refine blk_drew ?_ | refine blk_alloc ?_ _)); exact BK101.out⟩, ⟨by repeat (first | (with_reducible first | exact HB.out | apply below_alloc | apply pw_below_drewN | apply below_drew1 | refine below_set ?_ GE101.out) | exact HB.out)⟩⟩
   case round =>
    clear H'
    try clear c1
    try clear p2
    try clear c3
    try clear c4
    try clear c4b0
    try clear c6
    try clear c6b0
    try clear c8
    try clear c8b0
    try clear c11
    try clear hcz10_0
    try clear hcz10_1
    try clear hcz10_2
    try clear hcz5_0
    try clear hcz5_1
    try clear hcz5_2
    try clear hcz7_0
    try clear hcz7_1
    try clear hcz7_2
    try clear hcz9_0
    try clear hcz9_1
    try clear hcz9_2
    try clear hfz10_0
    try clear hfz10_1
    try clear hfz10_2
    try clear hfz5_0
    try clear hfz5_1
    try clear hfz5_2
    try clear hfz7_0
    try clear hfz7_1
    try clear hfz7_2
    try clear hfz9_0
    try clear hfz9_1
    try clear hfz9_2
    try clear p2
    obtain ⟨x3_2, rfl, HA, HK2, BK101, HB⟩ := hrel
    cases gk with
    | zero => exact absurd HA.out (by simp [hatchwayref32_May.l0])
    | succ k2 =>
     have H := HA.out
     clear HA
     simp only [hatchwayref32_May.l0] at H
     by_cases c12 : x3_2 < (l0_2.length : Int)
     ·rw [if_pos c12] at H
      have c12b0 : decide (x3_2 < (l0_2.length : Int)) = true := decide_eq_true c12
      clear c12
      by_cases c13 : 0 ≤ x3_2
      rotate_left
      ·rw [if_neg c13] at H
       exact absurd H (by simp)
      rw [if_pos c13] at H
      have c13b0 : decide (0 ≤ x3_2) = true := decide_eq_true c13
      clear c13
      have HC14 := A0 H
      clear H
      have hcz15_0 : wr.cell? ⟨gb101, 0, none⟩ = some (.int .i64 a0_0) := bc BK101.out 0
      have hcz15_1 : wr.cell? ⟨gb101, 1, none⟩ = some (.int .i64 a0_1) := bc BK101.out 1
      have hcz15_2 : wr.cell? ⟨gb101, 2, none⟩ = some (.slice A0_2 l0_2.length c0_2) := bc BK101.out 2
      have hfz15_0 := blk_frozen BK101.out 0
      have hfz15_1 := blk_frozen BK101.out 1
      have hfz15_2 := blk_frozen BK101.out 2
      have p102 : 0 ≤ (x3_2 : Int) := of_decide_eq_true (by first | (with_reducible assumption) | assumption)
      have q102 : x3_2 < (l0_2.length : Int) := of_decide_eq_true (by first | (with_reducible assumption) | assumption)
      obtain ⟨ad102, e102, hx102_0, hx102_1⟩ := at_T58 HR0_2.out x3_2 p102 q102
      cases e102
      replace hx102_0 := (HB.out.cell (World.block_lt_of_cell? w _ hx102_0)).trans hx102_0
      replace hx102_1 := (HB.out.cell (World.block_lt_of_cell? w _ hx102_1)).trans hx102_1
      replace p102 := eq_true p102
      replace q102 := eq_true q102
      go_upto_region 7 with (first | ((with_reducible refine gate_dst (N := 4) rfl ?_); (try (refine gate_guard (by rfl) ?_; dsimp only)); refine box_event ?hg (N := 4) ?hd (cs := #[.string (⟨#[]⟩ : ByteArray), .int .i64 0]) (t := 58) ?hr ?_; (case hd => rfl); (case hg => rfl); (case hr => first | (go_simp; done) | (go_simp; rfl)); intro gb103 hg w16 hbox hb; have n0_ := A0 (blk_below (bS BK101.out) hb); have n1_ := A0 (below_step (lS HB.out) hb); have n2_ := A0 (hbox); have n3_ := A0 ((by rw [hg]; exact (below_size (lS HB.out)) : w.heap.size ≤ gb103)); have n4_ := A0 ((by rw [hg]; exact (below_size (lS HB.out)) : w.heap.size ≤ gb103)); have n5_ := A0 ((by rw [hg]; exact Nat.ne_of_lt (blk_lt (g := gb101) (o := .cells #[.int .i64 a0_0, .int .i64 a0_1, .slice (some ad102) l0_2.length c0_2] 39 (0, 0)) (bS BK101.out)) : gb101 ≠ gb103)); have n6_ := A0 ((by rw [hg]; exact Nat.ne_of_gt (blk_lt (g := gb101) (o := .cells #[.int .i64 a0_0, .int .i64 a0_1, .slice (some ad102) l0_2.length c0_2] 39 (0, 0)) (bS BK101.out)) : gb103 ≠ gb101)); clear BK101; clear HB; have BK101 := n0_; have HB := n1_; have BK103 := n2_; have GW103 := n3_; have GE103 := n4_; have NB101_103 := n5_; have NB103_101 := n6_; clear n0_ n1_ n2_ n3_ n4_ n5_ n6_; clear hb hbox hg; have hnb17 := NB103_101.out; have hnc17 := NB101_103.out; have hcz18_0 : w16.cell? ⟨gb103, 0, none⟩ = some (.string (⟨#[]⟩ : ByteArray)) := bc BK103.out 0; have hcz18_1 : w16.cell? ⟨gb103, 1, none⟩ = some (.int .i64 0) := bc BK103.out 1; have hfz18_0 := blk_frozen BK103.out 0; have hfz18_1 := blk_frozen BK103.out 1))
      repeat (go_quiet (first | ((with_reducible refine gate_dst (N := 4) rfl ?_); (try (refine gate_guard (by rfl) ?_; dsimp only)); refine box_event ?hg (N := 4) ?hd (cs := #[.string (⟨#[]⟩ : ByteArray), .int .i64 0]) (t := 58) ?hr ?_; (case hd => rfl); (case hg => rfl); (case hr => first | (go_simp; done) | (go_simp; rfl)); intro gb103 hg w16 hbox hb; have n0_ := A0 (blk_below (bS BK101.out) hb); have n1_ := A0 (below_step (lS HB.out) hb); have n2_ := A0 (hbox); have n3_ := A0 ((by rw [hg]; exact (below_size (lS HB.out)) : w.heap.size ≤ gb103)); have n4_ := A0 ((by rw [hg]; exact (below_size (lS HB.out)) : w.heap.size ≤ gb103)); have n5_ := A0 ((by rw [hg]; exact Nat.ne_of_lt (blk_lt (g := gb101) (o := .cells #[.int .i64 a0_0, .int .i64 a0_1, .slice (some ad102) l0_2.length c0_2] 39 (0, 0)) (bS BK101.out)) : gb101 ≠ gb103)); have n6_ := A0 ((by rw [hg]; exact Nat.ne_of_gt (blk_lt (g := gb101) (o := .cells #[.int .i64 a0_0, .int .i64 a0_1, .slice (some ad102) l0_2.length c0_2] 39 (0, 0)) (bS BK101.out)) : gb103 ≠ gb101)); clear BK101; clear HB; have BK101 := n0_; have HB := n1_; have BK103 := n2_; have GW103 := n3_; have GE103 := n4_; have NB101_103 := n5_; have NB103_101 := n6_; clear n0_ n1_ n2_ n3_ n4_ n5_ n6_; clear hb hbox hg; have hnb17 := NB103_101.out; have hnc17 := NB101_103.out; have hcz18_0 : w16.cell? ⟨gb103, 0, none⟩ = some (.string (⟨#[]⟩ : ByteArray)) := bc BK103.out 0; have hcz18_1 : w16.cell? ⟨gb103, 1, none⟩ = some (.int .i64 0) := bc BK103.out 1; have hfz18_0 := blk_frozen BK103.out 0; have hfz18_1 := blk_frozen BK103.out 1)); go_upto_region 7 with (first | ((with_reducible refine gate_dst (N := 4) rfl ?_); (try (refine gate_guard (by rfl) ?_; dsimp only)); refine box_event ?hg (N := 4) ?hd (cs := #[.string (⟨#[]⟩ : ByteArray), .int .i64 0]) (t := 58) ?hr ?_; (case hd => rfl); (case hg => rfl); (case hr => first | (go_simp; done) | (go_simp; rfl)); intro gb103 hg w16 hbox hb; have n0_ := A0 (blk_below (bS BK101.out) hb); have n1_ := A0 (below_step (lS HB.out) hb); have n2_ := A0 (hbox); have n3_ := A0 ((by rw [hg]; exact (below_size (lS HB.out)) : w.heap.size ≤ gb103)); have n4_ := A0 ((by rw [hg]; exact (below_size (lS HB.out)) : w.heap.size ≤ gb103)); have n5_ := A0 ((by rw [hg]; exact Nat.ne_of_lt (blk_lt (g := gb101) (o := .cells #[.int .i64 a0_0, .int .i64 a0_1, .slice (some ad102) l0_2.length c0_2] 39 (0, 0)) (bS BK101.out)) : gb101 ≠ gb103)); have n6_ := A0 ((by rw [hg]; exact Nat.ne_of_gt (blk_lt (g := gb101) (o := .cells #[.int .i64 a0_0, .int .i64 a0_1, .slice (some ad102) l0_2.length c0_2] 39 (0, 0)) (bS BK101.out)) : gb103 ≠ gb101)); clear BK101; clear HB; have BK101 := n0_; have HB := n1_; have BK103 := n2_; have GW103 := n3_; have GE103 := n4_; have NB101_103 := n5_; have NB103_101 := n6_; clear n0_ n1_ n2_ n3_ n4_ n5_ n6_; clear hb hbox hg; have hnb17 := NB103_101.out; have hnc17 := NB101_103.out; have hcz18_0 : w16.cell? ⟨gb103, 0, none⟩ = some (.string (⟨#[]⟩ : ByteArray)) := bc BK103.out 0; have hcz18_1 : w16.cell? ⟨gb103, 1, none⟩ = some (.int .i64 0) := bc BK103.out 1; have hfz18_0 := blk_frozen BK103.out 0; have hfz18_1 := blk_frozen BK103.out 1)))
      (try simp only [Act.put, zu1, zu2, zu3])
      go_cut [51] (fun v51 wc => ∃ (kq : Nat) (x51_13 : Bool), v51 = .bool x51_13 ∧ Aside0 (hatchwayref32_May.j2 kq x3_2 x51_13 a0_0 a0_1 l0_2 ((rd_T58 l0_2 x3_2).f0) ((rd_T58 l0_2 x3_2).f1) = some r) ∧ Aside0 (kq ≤ k2) ∧ Aside0 (wc.heap[gb101]? = some (.cells #[.int .i64 a0_0, .int .i64 a0_1, (.slice (some ad102) l0_2.length c0_2)] 39 (0, 0))) ∧ Aside0 (wc.heap[gb103]? = some (.cells #[.string ((rd_T58 l0_2 x3_2).f0), .int .i64 ((rd_T58 l0_2 x3_2).f1)] 58 (0, 0))) ∧ Aside0 (Below w.heap.size w wc))
      case first =>
       have H := HC14.out
       clear HC14
       replace H := Option.bind_eq_some_iff.mp H
       obtain ⟨t104, A190, H⟩ := H
       replace H : (if t104 = true then (if ((rd_T58 l0_2 x3_2).f1) < 1 then (hatchwayref32_May.j2 k2 x3_2 true a0_0 a0_1 l0_2 ((rd_T58 l0_2 x3_2).f0) ((rd_T58 l0_2 x3_2).f1)) else (hatchwayref32_May.j2 k2 x3_2 (decide (((rd_T58 l0_2 x3_2).f1) > 255)) a0_0 a0_1 l0_2 ((rd_T58 l0_2 x3_2).f0) ((rd_T58 l0_2 x3_2).f1))) else (hatchwayref32_May.j2 k2 x3_2 true a0_0 a0_1 l0_2 ((rd_T58 l0_2 x3_2).f0) ((rd_T58 l0_2 x3_2).f1))) = some r := H
       have A19 := A0 A190
       clear A190
       by_cases c20 : t104 = true
       ·subst c20
        have H1 : (if ((rd_T58 l0_2 x3_2).f1) < 1 then (hatchwayref32_May.j2 k2 x3_2 true a0_0 a0_1 l0_2 ((rd_T58 l0_2 x3_2).f0) ((rd_T58 l0_2 x3_2).f1)) else (hatchwayref32_May.j2 k2 x3_2 (decide (((rd_T58 l0_2 x3_2).f1) > 255)) a0_0 a0_1 l0_2 ((rd_T58 l0_2 x3_2).f0) ((rd_T58 l0_2 x3_2).f1))) = some r := by rw [if_pos rfl] at H; exact H
        clear H
        have H := H1
        clear H1
        by_cases c21 : ((rd_T58 l0_2 x3_2).f1) < 1
        ·rw [if_pos c21] at H
         have c21b0 : decide (((rd_T58 l0_2 x3_2).f1) < 1) = true := decide_eq_true c21
         clear c21
         (first | rw [c21b0] | (simp only [i64_w, i32_w]; rw [c21b0]) | skip)
         have H' := A0 H
         clear H
         have hnb22 := NB103_101.out
         have hnc22 := NB101_103.out
         have hcz23_0 : w16.cell? ⟨gb103, 0, none⟩ = some (.string (⟨#[]⟩ : ByteArray)) := bc BK103.out 0
         have hcz23_1 : w16.cell? ⟨gb103, 1, none⟩ = some (.int .i64 0) := bc BK103.out 1
         have hfz23_0 := blk_frozen BK103.out 0
         have hfz23_1 := blk_frozen BK103.out 1
         go_wp2_with (first | (go_at_call 71; (with_reducible refine (hatchwayref13_May.calls k2 ((rd_T58 l0_2 x3_2).f0) true _ A19.out).mono ?_); rintro e w' ⟨rfl, ⟨nd, rfl⟩⟩; (try first | exact ⟨rfl, _, World.drewN_drewN _ _ _⟩ | exact ⟨rfl, _, Eq.trans (World.drewN_drewN _ _ _) (congrArg (World.drewN _) (Nat.add_assoc _ _ _))⟩)))
         repeat (go_quiet (first | (go_at_call 71; (with_reducible refine (hatchwayref13_May.calls k2 ((rd_T58 l0_2 x3_2).f0) true _ A19.out).mono ?_); rintro e w' ⟨rfl, ⟨nd, rfl⟩⟩; (try first | exact ⟨rfl, _, World.drewN_drewN _ _ _⟩ | exact ⟨rfl, _, Eq.trans (World.drewN_drewN _ _ _) (congrArg (World.drewN _) (Nat.add_assoc _ _ _))⟩))); try go_wp2_with (first | (go_at_call 71; (with_reducible refine (hatchwayref13_May.calls k2 ((rd_T58 l0_2 x3_2).f0) true _ A19.out).mono ?_); rintro e w' ⟨rfl, ⟨nd, rfl⟩⟩; (try first | exact ⟨rfl, _, World.drewN_drewN _ _ _⟩ | exact ⟨rfl, _, Eq.trans (World.drewN_drewN _ _ _) (congrArg (World.drewN _) (Nat.add_assoc _ _ _))⟩))))
         go_meet
         case rel => exact ⟨_, (true), (by first | rfl | (simp; done) | (simp [*]; done)), H', ⟨by have := HJ1.out; have := HK2.out; first | omega | exact Nat.le_refl _⟩, ⟨by (with_reducible repeat (first | refine blk_drewN ?_ _ | refine blk_drew ?_ | refine blk_alloc ?_ _)); refine blk_far ?_ NB101_103.out _; (with_reducible repeat (first | refine blk_drewN ?_ _ | refine blk_drew ?_ | refine blk_alloc ?_ _)); refine blk_far ?_ NB101_103.out _; (with_reducible repeat (first | refine blk_drewN ?_ _ | refine blk_drew ?_ | refine blk_alloc ?_ _)); exact BK101.out⟩, ⟨by (with_reducible repeat (first | refine blk_drewN ?_ _ | refine blk_drew ?_ | refine blk_alloc ?_ _)); refine blk_put (cs := #[.string ((rd_T58 l0_2 x3_2).f0), .int .i64 0]) ?_ 1 _ rfl; (with_reducible repeat (first | refine blk_drewN ?_ _ | refine blk_drew ?_ | refine blk_alloc ?_ _)); refine blk_put (cs := #[.string (⟨#[]⟩ : ByteArray), .int .i64 0]) ?_ 0 _ rfl; (with_reducible repeat (first | refine blk_drewN ?_ _ | refine blk_drew ?_ | refine blk_alloc ?_ _)); exact BK103.out⟩, ⟨by repeat (first | (with_reducible first | exact HB.out | apply below_alloc | apply pw_below_drewN | apply below_drew1 | refine below_set ?_ GE101.out | refine below_set ?_ GE103.out) | exact HB.out)⟩⟩
        rw [if_neg c21] at H
        have c21b0 : decide (((rd_T58 l0_2 x3_2).f1) < 1) = false := decide_eq_false c21
        clear c21
        (first | rw [c21b0] | (simp only [i64_w, i32_w]; rw [c21b0]) | skip)
        have H' := A0 H
        clear H
        have hnb24 := NB103_101.out
        have hnc24 := NB101_103.out
        have hcz25_0 : w16.cell? ⟨gb103, 0, none⟩ = some (.string (⟨#[]⟩ : ByteArray)) := bc BK103.out 0
        have hcz25_1 : w16.cell? ⟨gb103, 1, none⟩ = some (.int .i64 0) := bc BK103.out 1
        have hfz25_0 := blk_frozen BK103.out 0
        have hfz25_1 := blk_frozen BK103.out 1
        go_wp2_with (first | (go_at_call 71; (with_reducible refine (hatchwayref13_May.calls k2 ((rd_T58 l0_2 x3_2).f0) true _ A19.out).mono ?_); rintro e w' ⟨rfl, ⟨nd, rfl⟩⟩; (try first | exact ⟨rfl, _, World.drewN_drewN _ _ _⟩ | exact ⟨rfl, _, Eq.trans (World.drewN_drewN _ _ _) (congrArg (World.drewN _) (Nat.add_assoc _ _ _))⟩)))
        repeat (go_quiet (first | (go_at_call 71; (with_reducible refine (hatchwayref13_May.calls k2 ((rd_T58 l0_2 x3_2).f0) true _ A19.out).mono ?_); rintro e w' ⟨rfl, ⟨nd, rfl⟩⟩; (try first | exact ⟨rfl, _, World.drewN_drewN _ _ _⟩ | exact ⟨rfl, _, Eq.trans (World.drewN_drewN _ _ _) (congrArg (World.drewN _) (Nat.add_assoc _ _ _))⟩))); try go_wp2_with (first | (go_at_call 71; (with_reducible refine (hatchwayref13_May.calls k2 ((rd_T58 l0_2 x3_2).f0) true _ A19.out).mono ?_); rintro e w' ⟨rfl, ⟨nd, rfl⟩⟩; (try first | exact ⟨rfl, _, World.drewN_drewN _ _ _⟩ | exact ⟨rfl, _, Eq.trans (World.drewN_drewN _ _ _) (congrArg (World.drewN _) (Nat.add_assoc _ _ _))⟩))))
        go_meet
        case rel => exact ⟨_, (decide (((rd_T58 l0_2 x3_2).f1) > 255)), (by first | rfl | (simp; done) | (simp [*]; done)), H', ⟨by have := HJ1.out; have := HK2.out; first | omega | exact Nat.le_refl _⟩, ⟨by (with_reducible repeat (first | refine blk_drewN ?_ _ | refine blk_drew ?_ | refine blk_alloc ?_ _)); refine blk_far ?_ NB101_103.out _; (with_reducible repeat (first | refine blk_drewN ?_ _ | refine blk_drew ?_ | refine blk_alloc ?_ _)); refine blk_far ?_ NB101_103.out _; (with_reducible repeat (first | refine blk_drewN ?_ _ | refine blk_drew ?_ | refine blk_alloc ?_ _)); exact BK101.out⟩, ⟨by (with_reducible repeat (first | refine blk_drewN ?_ _ | refine blk_drew ?_ | refine blk_alloc ?_ _)); refine blk_put (cs := #[.string ((rd_T58 l0_2 x3_2).f0), .int .i64 0]) ?_ 1 _ rfl; (with_reducible repeat (first | refine blk_drewN ?_ _ | refine blk_drew ?_ | refine blk_alloc ?_ _)); refine blk_put (cs := #[.string (⟨#[]⟩ : ByteArray), .int .i64 0]) ?_ 0 _ rfl; (with_reducible repeat (first | refine blk_drewN ?_ _ | refine blk_drew ?_ | refine blk_alloc ?_ _)); exact BK103.out⟩, ⟨by repeat (first | (with_reducible first | exact HB.out | apply below_alloc | apply pw_below_drewN | apply below_drew1 | refine below_set ?_ GE101.out | refine below_set ?_ GE103.out) | exact HB.out)⟩⟩
       replace c20 := Bool.eq_false_iff.mpr c20
       subst c20
       have H1 : (hatchwayref32_May.j2 k2 x3_2 true a0_0 a0_1 l0_2 ((rd_T58 l0_2 x3_2).f0) ((rd_T58 l0_2 x3_2).f1)) = some r := by rw [if_neg (show ¬ (false = true) by decide)] at H; exact H
       clear H
       have H := H1
       clear H1
       have H' := A0 H
       clear H
       have hnb26 := NB103_101.out
       have hnc26 := NB101_103.out
       have hcz27_0 : w16.cell? ⟨gb103, 0, none⟩ = some (.string (⟨#[]⟩ : ByteArray)) := bc BK103.out 0
       have hcz27_1 : w16.cell? ⟨gb103, 1, none⟩ = some (.int .i64 0) := bc BK103.out 1
       have hfz27_0 := blk_frozen BK103.out 0
       have hfz27_1 := blk_frozen BK103.out 1
       go_wp2_with (first | (go_at_call 71; (with_reducible refine (hatchwayref13_May.calls k2 ((rd_T58 l0_2 x3_2).f0) false _ A19.out).mono ?_); rintro e w' ⟨rfl, ⟨nd, rfl⟩⟩; (try first | exact ⟨rfl, _, World.drewN_drewN _ _ _⟩ | exact ⟨rfl, _, Eq.trans (World.drewN_drewN _ _ _) (congrArg (World.drewN _) (Nat.add_assoc _ _ _))⟩)))
       repeat (go_quiet (first | (go_at_call 71; (with_reducible refine (hatchwayref13_May.calls k2 ((rd_T58 l0_2 x3_2).f0) false _ A19.out).mono ?_); rintro e w' ⟨rfl, ⟨nd, rfl⟩⟩; (try first | exact ⟨rfl, _, World.drewN_drewN _ _ _⟩ | exact ⟨rfl, _, Eq.trans (World.drewN_drewN _ _ _) (congrArg (World.drewN _) (Nat.add_assoc _ _ _))⟩))); try go_wp2_with (first | (go_at_call 71; (with_reducible refine (hatchwayref13_May.calls k2 ((rd_T58 l0_2 x3_2).f0) false _ A19.out).mono ?_); rintro e w' ⟨rfl, ⟨nd, rfl⟩⟩; (try first | exact ⟨rfl, _, World.drewN_drewN _ _ _⟩ | exact ⟨rfl, _, Eq.trans (World.drewN_drewN _ _ _) (congrArg (World.drewN _) (Nat.add_assoc _ _ _))⟩))))
       go_meet
       case rel => exact ⟨_, (true), (by first | rfl | (simp; done) | (simp [*]; done)), H', ⟨by have := HJ1.out; have := HK2.out; first | omega | exact Nat.le_refl _⟩, ⟨by (with_reducible repeat (first | refine blk_drewN ?_ _ | refine blk_drew ?_ | refine blk_alloc ?_ _)); refine blk_far ?_ NB101_103.out _; (with_reducible repeat (first | refine blk_drewN ?_ _ | refine blk_drew ?_ | refine blk_alloc ?_ _)); refine blk_far ?_ NB101_103.out _; (with_reducible repeat (first | refine blk_drewN ?_ _ | refine blk_drew ?_ | refine blk_alloc ?_ _)); exact BK101.out⟩, ⟨by (with_reducible repeat (first | refine blk_drewN ?_ _ | refine blk_drew ?_ | refine blk_alloc ?_ _)); refine blk_put (cs := #[.string ((rd_T58 l0_2 x3_2).f0), .int .i64 0]) ?_ 1 _ rfl; (with_reducible repeat (first | refine blk_drewN ?_ _ | refine blk_drew ?_ | refine blk_alloc ?_ _)); refine blk_put (cs := #[.string (⟨#[]⟩ : ByteArray), .int .i64 0]) ?_ 0 _ rfl; (with_reducible repeat (first | refine blk_drewN ?_ _ | refine blk_drew ?_ | refine blk_alloc ?_ _)); exact BK103.out⟩, ⟨by repeat (first | (with_reducible first | exact HB.out | apply below_alloc | apply pw_below_drewN | apply below_drew1 | refine below_set ?_ GE101.out | refine below_set ?_ GE103.out) | exact HB.out)⟩⟩
      case rest =>
       clear HC14
       try clear c1
       try clear p1
       try clear q1
       try clear hx1
       try clear c2
       try clear p2
       try clear c3
       try clear c4
       try clear c4b0
       try clear c6
       try clear c6b0
       try clear c8
       try clear c8b0
       try clear p10
       try clear q10
       try clear hx10
       try clear c11
       try clear c12
       try clear c12b0
       try clear c13
       try clear c13b0
       try clear c17
       try clear c20
       try clear c21
       try clear c21b0
       try clear c22
       try clear c24
       try clear c26
       try clear hcz10_0
       try clear hcz10_1
       try clear hcz10_2
       try clear hcz15_0
       try clear hcz15_1
       try clear hcz15_2
       try clear hcz18_0
       try clear hcz18_1
       try clear hcz23_0
       try clear hcz23_1
       try clear hcz25_0
       try clear hcz25_1
       try clear hcz27_0
       try clear hcz27_1
       try clear hcz5_0
       try clear hcz5_1
       try clear hcz5_2
       try clear hcz7_0
       try clear hcz7_1
       try clear hcz7_2
       try clear hcz9_0
       try clear hcz9_1
       try clear hcz9_2
       try clear hfz10_0
       try clear hfz10_1
       try clear hfz10_2
       try clear hfz15_0
       try clear hfz15_1
       try clear hfz15_2
       try clear hfz18_0
       try clear hfz18_1
       try clear hfz23_0
       try clear hfz23_1
       try clear hfz25_0
       try clear hfz25_1
       try clear hfz27_0
       try clear hfz27_1
       try clear hfz5_0
       try clear hfz5_1
       try clear hfz5_2
       try clear hfz7_0
       try clear hfz7_1
       try clear hfz7_2
       try clear hfz9_0
       try clear hfz9_1
       try clear hfz9_2
       try clear hx102_0
       try clear hx102_1
       try clear p102
       try clear p2
       try clear q102
       obtain ⟨kq, x51_13, rfl, HA, HJ13, BK101, BK103, HB⟩ := hcut
       cases kq with
       | zero => exact absurd HA.out (by simp [hatchwayref32_May.j2])
       | succ kj13 =>
        have H := HA.out
        clear HA
        simp only [hatchwayref32_May.j2] at H
        by_cases c28 : x51_13 = true
        ·subst c28
         have H1 : (some false) = some r := by rw [if_pos rfl] at H; exact H
         clear H
         have H := H1
         clear H1
         obtain rfl := Option.some.inj H
         go_wp2
         repeat (go_quiet (fail); try go_wp2)
         go_ret
         exact ⟨by first | rfl | (simp [errW_none, errW_some] <;> rfl) | (simp [*, errW_none, errW_some] <;> rfl), by repeat (first | (with_reducible first | exact HB.out | apply below_alloc | apply pw_below_drewN | apply below_drew1 | refine below_set ?_ GE101.out | refine below_set ?_ GE103.out) | exact HB.out)⟩
        replace c28 := Bool.eq_false_iff.mpr c28
        subst c28
        have H1 : (if x3_2 > 0 then (if 0 ≤ (wrap64 (x3_2 - 1)) then (if (wrap64 (x3_2 - 1)) < (l0_2.length : Int) then (if (Op.bytesLess (((rd_T58 l0_2 (wrap64 (x3_2 - 1))).f0).toList) ((rd_T58 l0_2 x3_2).f0).toList) = true then (hatchwayref32_May.l0 kj13 (wrap64 (x3_2 + 1)) a0_0 a0_1 l0_2) else (if ((rd_T58 l0_2 (wrap64 (x3_2 - 1))).f0).toList = ((rd_T58 l0_2 x3_2).f0).toList then (if (((rd_T58 l0_2 (wrap64 (x3_2 - 1))).f1) < ((rd_T58 l0_2 x3_2).f1)) then (hatchwayref32_May.l0 kj13 (wrap64 (x3_2 + 1)) a0_0 a0_1 l0_2) else (some false)) else (some false))) else (none)) else (none)) else (hatchwayref32_May.l0 kj13 (wrap64 (x3_2 + 1)) a0_0 a0_1 l0_2)) = some r := by rw [if_neg (show ¬ (false = true) by decide)] at H; exact H
        clear H
        have H := H1
        clear H1
        by_cases c29 : x3_2 > 0
        ·rw [if_pos c29] at H
         have c29b0 : decide (0 < x3_2) = true := decide_eq_true c29
         clear c29
         obtain ⟨ji30, hji30⟩ : ∃ j_ : Int, (wrap64 (x3_2 - 1)) = j_ := ⟨_, rfl⟩
         replace H : (if 0 ≤ (ji30) then (if (ji30) < (l0_2.length : Int) then (if (Op.bytesLess (((rd_T58 l0_2 (ji30)).f0).toList) ((rd_T58 l0_2 x3_2).f0).toList) = true then (hatchwayref32_May.l0 kj13 (wrap64 (x3_2 + 1)) a0_0 a0_1 l0_2) else (if ((rd_T58 l0_2 (ji30)).f0).toList = ((rd_T58 l0_2 x3_2).f0).toList then (if (((rd_T58 l0_2 (ji30)).f1) < ((rd_T58 l0_2 x3_2).f1)) then (hatchwayref32_May.l0 kj13 (wrap64 (x3_2 + 1)) a0_0 a0_1 l0_2) else (some false)) else (some false))) else (none)) else (none)) = some r := by first | (rw [hji30] at H; exact H) | (simp only [hji30] at H ⊢; exact H)
         have hji30w : (IntKind.i64.wrap (x3_2 - 1)) = ji30 := (i64_w _).trans hji30
         by_cases c31 : 0 ≤ (ji30)
         rotate_left
         ·rw [if_neg c31] at H
          exact absurd H (by simp)
         rw [if_pos c31] at H
         have c31b0 : decide (0 ≤ (ji30)) = true := decide_eq_true c31
         clear c31
         by_cases c32 : (ji30) < (l0_2.length : Int)
         rotate_left
         ·rw [if_neg c32] at H
          exact absurd H (by simp)
         rw [if_pos c32] at H
         have c32b0 : decide ((ji30) < (l0_2.length : Int)) = true := decide_eq_true c32
         clear c32
         by_cases c33 : (Op.bytesLess (((rd_T58 l0_2 (ji30)).f0).toList) ((rd_T58 l0_2 x3_2).f0).toList) = true
         ·rw [if_pos c33] at H
          have c33b0 : (Op.bytesLess (((rd_T58 l0_2 (ji30)).f0).toList) ((rd_T58 l0_2 x3_2).f0).toList) = true := c33
          clear c33
          have H' := A0 H
          clear H
          have hnb34 := NB101_103.out
          have hnc34 := NB103_101.out
          have hcz35_0 : wc.cell? ⟨gb101, 0, none⟩ = some (.int .i64 a0_0) := bc BK101.out 0
          have hcz35_1 : wc.cell? ⟨gb101, 1, none⟩ = some (.int .i64 a0_1) := bc BK101.out 1
          have hcz35_2 : wc.cell? ⟨gb101, 2, none⟩ = some (.slice (some ad102) l0_2.length c0_2) := bc BK101.out 2
          have hfz35_0 := blk_frozen BK101.out 0
          have hfz35_1 := blk_frozen BK101.out 1
          have hfz35_2 := blk_frozen BK101.out 2
          have p105 : 0 ≤ ((ji30) : Int) := of_decide_eq_true (by first | (with_reducible assumption) | assumption)
          have q105 : (ji30) < (l0_2.length : Int) := of_decide_eq_true (by first | (with_reducible assumption) | assumption)
          obtain ⟨ad105, e105, hx105_0, hx105_1⟩ := at_T58 HR0_2.out (ji30) p105 q105
          obtain rfl : ad102 = ad105 := (by injection e105)
          replace hx105_0 := (HB.out.cell (World.block_lt_of_cell? w _ hx105_0)).trans hx105_0
          replace hx105_1 := (HB.out.cell (World.block_lt_of_cell? w _ hx105_1)).trans hx105_1
          replace p105 := eq_true p105
          replace q105 := eq_true q105
          have hcz36_0 : wc.cell? ⟨gb103, 0, none⟩ = some (.string ((rd_T58 l0_2 x3_2).f0)) := bc BK103.out 0
          have hcz36_1 : wc.cell? ⟨gb103, 1, none⟩ = some (.int .i64 ((rd_T58 l0_2 x3_2).f1)) := bc BK103.out 1
          have hfz36_0 := blk_frozen BK103.out 0
          have hfz36_1 := blk_frozen BK103.out 1
          go_wp2
          repeat (go_quiet (fail); try go_wp2)
          go_roundg kj13
          case measure => have := HJ1.out; have := HK2.out; have := HJ13.out; omega
          case rel => exact ⟨(wrap64 (x3_2 + 1)), (by first | rfl | (simp; done) | (simp [*]; done)), H', ⟨by have := HJ1.out; have := HK2.out; have := HJ13.out; omega⟩, ⟨by (with_reducible repeat (first | refine blk_drewN ?_ _ | refine blk_drew ?_ | refine blk_alloc ?_ _)); exact BK101.out⟩, ⟨by repeat (first | (with_reducible first | exact HB.out | apply below_alloc | apply pw_below_drewN | apply below_drew1 | refine below_set ?_ GE101.out | refine below_set ?_ GE103.out) | exact HB.out)⟩⟩
         rw [if_neg c33] at H
         have c33b0 : (Op.bytesLess (((rd_T58 l0_2 (ji30)).f0).toList) ((rd_T58 l0_2 x3_2).f0).toList) = false := by simpa using c33
         clear c33
         by_cases c37 : ((rd_T58 l0_2 (ji30)).f0).toList = ((rd_T58 l0_2 x3_2).f0).toList
         ·rw [if_pos c37] at H
          have c37b0 : (((rd_T58 l0_2 (ji30)).f0).toList == ((rd_T58 l0_2 x3_2).f0).toList) = true := beq_iff_eq.mpr c37
          have c37b1 : (((rd_T58 l0_2 (ji30)).f0).toList != ((rd_T58 l0_2 x3_2).f0).toList) = false := bne_eq_false_iff_eq.mpr c37
          clear c37
          by_cases c38 : (((rd_T58 l0_2 (ji30)).f1) < ((rd_T58 l0_2 x3_2).f1))
          ·rw [if_pos c38] at H
           have c38b0 : decide (((rd_T58 l0_2 (ji30)).f1) < ((rd_T58 l0_2 x3_2).f1)) = true := decide_eq_true c38
           clear c38
           have H' := A0 H
           clear H
           have hnb39 := NB101_103.out
           have hnc39 := NB103_101.out
           have hcz40_0 : wc.cell? ⟨gb101, 0, none⟩ = some (.int .i64 a0_0) := bc BK101.out 0
           have hcz40_1 : wc.cell? ⟨gb101, 1, none⟩ = some (.int .i64 a0_1) := bc BK101.out 1
           have hcz40_2 : wc.cell? ⟨gb101, 2, none⟩ = some (.slice (some ad102) l0_2.length c0_2) := bc BK101.out 2
           have hfz40_0 := blk_frozen BK101.out 0
           have hfz40_1 := blk_frozen BK101.out 1
           have hfz40_2 := blk_frozen BK101.out 2
           have p105 : 0 ≤ ((ji30) : Int) := of_decide_eq_true (by first | (with_reducible assumption) | assumption)
           have q105 : (ji30) < (l0_2.length : Int) := of_decide_eq_true (by first | (with_reducible assumption) | assumption)
           obtain ⟨ad105, e105, hx105_0, hx105_1⟩ := at_T58 HR0_2.out (ji30) p105 q105
           obtain rfl : ad102 = ad105 := (by injection e105)
           replace hx105_0 := (HB.out.cell (World.block_lt_of_cell? w _ hx105_0)).trans hx105_0
           replace hx105_1 := (HB.out.cell (World.block_lt_of_cell? w _ hx105_1)).trans hx105_1
           replace p105 := eq_true p105
           replace q105 := eq_true q105
           have hcz41_0 : wc.cell? ⟨gb103, 0, none⟩ = some (.string ((rd_T58 l0_2 x3_2).f0)) := bc BK103.out 0
           have hcz41_1 : wc.cell? ⟨gb103, 1, none⟩ = some (.int .i64 ((rd_T58 l0_2 x3_2).f1)) := bc BK103.out 1
           have hfz41_0 := blk_frozen BK103.out 0
           have hfz41_1 := blk_frozen BK103.out 1
           have p106 : 0 ≤ ((ji30) : Int) := of_decide_eq_true (by first | (with_reducible assumption) | assumption)
           have q106 : (ji30) < (l0_2.length : Int) := of_decide_eq_true (by first | (with_reducible assumption) | assumption)
           obtain ⟨ad106, e106, hx106_0, hx106_1⟩ := at_T58 HR0_2.out (ji30) p106 q106
           obtain rfl : ad102 = ad106 := (by injection e106)
           replace hx106_0 := (HB.out.cell (World.block_lt_of_cell? w _ hx106_0)).trans hx106_0
           replace hx106_1 := (HB.out.cell (World.block_lt_of_cell? w _ hx106_1)).trans hx106_1
           replace p106 := eq_true p106
           replace q106 := eq_true q106
           have p107 : 0 ≤ ((ji30) : Int) := of_decide_eq_true (by first | (with_reducible assumption) | assumption)
           have q107 : (ji30) < (l0_2.length : Int) := of_decide_eq_true (by first | (with_reducible assumption) | assumption)
           obtain ⟨ad107, e107, hx107_0, hx107_1⟩ := at_T58 HR0_2.out (ji30) p107 q107
           obtain rfl : ad102 = ad107 := (by injection e107)
           replace hx107_0 := (HB.out.cell (World.block_lt_of_cell? w _ hx107_0)).trans hx107_0
           replace hx107_1 := (HB.out.cell (World.block_lt_of_cell? w _ hx107_1)).trans hx107_1
           replace p107 := eq_true p107
           replace q107 := eq_true q107
           go_wp2
           repeat (go_quiet (fail); try go_wp2)
           go_roundg kj13
           case measure => have := HJ1.out; have := HK2.out; have := HJ13.out; omega
           case rel => exact ⟨(wrap64 (x3_2 + 1)), (by first | rfl | (simp; done) | (simp [*]; done)), H', ⟨by have := HJ1.out; have := HK2.out; have := HJ13.out; omega⟩, ⟨by (with_reducible repeat (first | refine blk_drewN ?_ _ | refine blk_drew ?_ | refine blk_alloc ?_ _)); exact BK101.out⟩, ⟨by repeat (first | (with_reducible first | exact HB.out | apply below_alloc | apply pw_below_drewN | apply below_drew1 | refine below_set ?_ GE101.out | refine below_set ?_ GE103.out) | exact HB.out)⟩⟩
          rw [if_neg c38] at H
          have c38b0 : decide (((rd_T58 l0_2 (ji30)).f1) < ((rd_T58 l0_2 x3_2).f1)) = false := decide_eq_false c38
          clear c38
          obtain rfl := Option.some.inj H
          have hnb42 := NB101_103.out
          have hnc42 := NB103_101.out
          have hcz43_0 : wc.cell? ⟨gb101, 0, none⟩ = some (.int .i64 a0_0) := bc BK101.out 0
          have hcz43_1 : wc.cell? ⟨gb101, 1, none⟩ = some (.int .i64 a0_1) := bc BK101.out 1
          have hcz43_2 : wc.cell? ⟨gb101, 2, none⟩ = some (.slice (some ad102) l0_2.length c0_2) := bc BK101.out 2
          have hfz43_0 := blk_frozen BK101.out 0
          have hfz43_1 := blk_frozen BK101.out 1
          have hfz43_2 := blk_frozen BK101.out 2
          have p105 : 0 ≤ ((ji30) : Int) := of_decide_eq_true (by first | (with_reducible assumption) | assumption)
          have q105 : (ji30) < (l0_2.length : Int) := of_decide_eq_true (by first | (with_reducible assumption) | assumption)
          obtain ⟨ad105, e105, hx105_0, hx105_1⟩ := at_T58 HR0_2.out (ji30) p105 q105
          obtain rfl : ad102 = ad105 := (by injection e105)
          replace hx105_0 := (HB.out.cell (World.block_lt_of_cell? w _ hx105_0)).trans hx105_0
          replace hx105_1 := (HB.out.cell (World.block_lt_of_cell? w _ hx105_1)).trans hx105_1
          replace p105 := eq_true p105
          replace q105 := eq_true q105
          have hcz44_0 : wc.cell? ⟨gb103, 0, none⟩ = some (.string ((rd_T58 l0_2 x3_2).f0)) := bc BK103.out 0
          have hcz44_1 : wc.cell? ⟨gb103, 1, none⟩ = some (.int .i64 ((rd_T58 l0_2 x3_2).f1)) := bc BK103.out 1
          have hfz44_0 := blk_frozen BK103.out 0
          have hfz44_1 := blk_frozen BK103.out 1
          have p106 : 0 ≤ ((ji30) : Int) := of_decide_eq_true (by first | (with_reducible assumption) | assumption)
          have q106 : (ji30) < (l0_2.length : Int) := of_decide_eq_true (by first | (with_reducible assumption) | assumption)
          obtain ⟨ad106, e106, hx106_0, hx106_1⟩ := at_T58 HR0_2.out (ji30) p106 q106
          obtain rfl : ad102 = ad106 := (by injection e106)
          replace hx106_0 := (HB.out.cell (World.block_lt_of_cell? w _ hx106_0)).trans hx106_0
          replace hx106_1 := (HB.out.cell (World.block_lt_of_cell? w _ hx106_1)).trans hx106_1
          replace p106 := eq_true p106
          replace q106 := eq_true q106
          have p107 : 0 ≤ ((ji30) : Int) := of_decide_eq_true (by first | (with_reducible assumption) | assumption)
          have q107 : (ji30) < (l0_2.length : Int) := of_decide_eq_true (by first | (with_reducible assumption) | assumption)
          obtain ⟨ad107, e107, hx107_0, hx107_1⟩ := at_T58 HR0_2.out (ji30) p107 q107
          obtain rfl : ad102 = ad107 := (by injection e107)
          replace hx107_0 := (HB.out.cell (World.block_lt_of_cell? w _ hx107_0)).trans hx107_0
          replace hx107_1 := (HB.out.cell (World.block_lt_of_cell? w _ hx107_1)).trans hx107_1
          replace p107 := eq_true p107
          replace q107 := eq_true q107
          go_wp2
          repeat (go_quiet (fail); try go_wp2)
          go_ret
          exact ⟨by first | rfl | (simp [errW_none, errW_some] <;> rfl) | (simp only [← hji30]; first | rfl | (simp [errW_none, errW_some] <;> rfl)) | (simp [*, errW_none, errW_some] <;> rfl), by repeat (first | (with_reducible first | exact HB.out | apply below_alloc | apply pw_below_drewN | apply below_drew1 | refine below_set ?_ GE101.out | refine below_set ?_ GE103.out) | exact HB.out)⟩
         rw [if_neg c37] at H
         have c37b0 : (((rd_T58 l0_2 (ji30)).f0).toList == ((rd_T58 l0_2 x3_2).f0).toList) = false := beq_eq_false_iff_ne.mpr c37
         have c37b1 : (((rd_T58 l0_2 (ji30)).f0).toList != ((rd_T58 l0_2 x3_2).f0).toList) = true := bne_iff_ne.mpr c37
         obtain rfl := Option.some.inj H
         have hnb45 := NB101_103.out
         have hnc45 := NB103_101.out
         have hcz46_0 : wc.cell? ⟨gb101, 0, none⟩ = some (.int .i64 a0_0) := bc BK101.out 0
         have hcz46_1 : wc.cell? ⟨gb101, 1, none⟩ = some (.int .i64 a0_1) := bc BK101.out 1
         have hcz46_2 : wc.cell? ⟨gb101, 2, none⟩ = some (.slice (some ad102) l0_2.length c0_2) := bc BK101.out 2
         have hfz46_0 := blk_frozen BK101.out 0
         have hfz46_1 := blk_frozen BK101.out 1
         have hfz46_2 := blk_frozen BK101.out 2
         have p105 : 0 ≤ ((ji30) : Int) := of_decide_eq_true (by first | (with_reducible assumption) | assumption)
         have q105 : (ji30) < (l0_2.length : Int) := of_decide_eq_true (by first | (with_reducible assumption) | assumption)
         obtain ⟨ad105, e105, hx105_0, hx105_1⟩ := at_T58 HR0_2.out (ji30) p105 q105
         obtain rfl : ad102 = ad105 := (by injection e105)
         replace hx105_0 := (HB.out.cell (World.block_lt_of_cell? w _ hx105_0)).trans hx105_0
         replace hx105_1 := (HB.out.cell (World.block_lt_of_cell? w _ hx105_1)).trans hx105_1
         replace p105 := eq_true p105
         replace q105 := eq_true q105
         have hcz47_0 : wc.cell? ⟨gb103, 0, none⟩ = some (.string ((rd_T58 l0_2 x3_2).f0)) := bc BK103.out 0
         have hcz47_1 : wc.cell? ⟨gb103, 1, none⟩ = some (.int .i64 ((rd_T58 l0_2 x3_2).f1)) := bc BK103.out 1
         have hfz47_0 := blk_frozen BK103.out 0
         have hfz47_1 := blk_frozen BK103.out 1
         have p106 : 0 ≤ ((ji30) : Int) := of_decide_eq_true (by first | (with_reducible assumption) | assumption)
         have q106 : (ji30) < (l0_2.length : Int) := of_decide_eq_true (by first | (with_reducible assumption) | assumption)
         obtain ⟨ad106, e106, hx106_0, hx106_1⟩ := at_T58 HR0_2.out (ji30) p106 q106
         obtain rfl : ad102 = ad106 := (by injection e106)
         replace hx106_0 := (HB.out.cell (World.block_lt_of_cell? w _ hx106_0)).trans hx106_0
         replace hx106_1 := (HB.out.cell (World.block_lt_of_cell? w _ hx106_1)).trans hx106_1
         replace p106 := eq_true p106
         replace q106 := eq_true q106
         go_wp2
         repeat (go_quiet (fail); try go_wp2)
         go_ret
         exact ⟨by first | rfl | (simp [errW_none, errW_some] <;> rfl) | (simp only [← hji30]; first | rfl | (simp [errW_none, errW_some] <;> rfl)) | (simp [*, errW_none, errW_some] <;> rfl), by repeat (first | (with_reducible first | exact HB.out | apply below_alloc | apply pw_below_drewN | apply below_drew1 | refine below_set ?_ GE101.out | refine below_set ?_ GE103.out) | exact HB.out)⟩
        rw [if_neg c29] at H
        have c29b0 : decide (0 < x3_2) = false := decide_eq_false c29
        clear c29
        have H' := A0 H
        clear H
        go_wp2
        repeat (go_quiet (fail); try go_wp2)
        go_roundg kj13
        case measure => have := HJ1.out; have := HK2.out; have := HJ13.out; omega
        case rel => exact ⟨(wrap64 (x3_2 + 1)), (by first | rfl | (simp; done) | (simp [*]; done)), H', ⟨by have := HJ1.out; have := HK2.out; have := HJ13.out; omega⟩, ⟨by (with_reducible repeat (first | refine blk_drewN ?_ _ | refine blk_drew ?_ | refine blk_alloc ?_ _)); exact BK101.out⟩, ⟨by repeat (first | (with_reducible first | exact HB.out | apply below_alloc | apply pw_below_drewN | apply below_drew1 | refine below_set ?_ GE101.out | refine below_set ?_ GE103.out) | exact HB.out)⟩⟩
     rw [if_neg c12] at H
     have c12b0 : decide (x3_2 < (l0_2.length : Int)) = false := decide_eq_false c12
     clear c12
     obtain rfl := Option.some.inj H
     have hcz48_0 : wr.cell? ⟨gb101, 0, none⟩ = some (.int .i64 a0_0) := bc BK101.out 0
     have hcz48_1 : wr.cell? ⟨gb101, 1, none⟩ = some (.int .i64 a0_1) := bc BK101.out 1
     have hcz48_2 : wr.cell? ⟨gb101, 2, none⟩ = some (.slice A0_2 l0_2.length c0_2) := bc BK101.out 2
     have hfz48_0 := blk_frozen BK101.out 0
     have hfz48_1 := blk_frozen BK101.out 1
     have hfz48_2 := blk_frozen BK101.out 2
     go_wp2
     repeat (go_quiet (fail); try go_wp2)
     go_ret
     exact ⟨by first | rfl | (simp [errW_none, errW_some] <;> rfl) | (simp [*, errW_none, errW_some] <;> rfl), by repeat (first | (with_reducible first | exact HB.out | apply below_alloc | apply pw_below_drewN | apply below_drew1 | refine below_set ?_ GE101.out) | exact HB.out)⟩
end Go.Proofs.Yteoibgpkimlahaa.P
end
section
namespace Go.Proofs.Yteoibgpkimlahaa.P
open Go.RowKit Go.Proofs.YteoibgpkimlahaaW.PrintWords Go.Proofs.YteoibgpkimlahaaW.PrintLast Go.Proofs.YteoibgpkimlahaaW.PrintMore
attribute [local go_sem] max2_int min2_int max_two min_two max_three min_three max_four min_four   
set_option linter.unusedVariables false
set_option linter.unusedSimpArgs false
def hatchwayref02_Least.l0 : Nat → Int → ByteArray → Option (ByteArray)
 | 0, _, _ => none
 | k + 1, x0, x3 => if x0 > 0 then ((some (([(Int.tmod x0 256) % 256] : List Int) : List Int)).bind fun y101 => (if (strOfNums y101).size + x3.size ≤ 9223372036854775807 then (hatchwayref02_Least.l0 k (IntKind.u64.wrap (Int.tdiv x0 256)) ((strOfNums y101) ++ x3)) else (none))) else (some x3)
def hatchwayref02_Least.f (k : Nat) (a0 : Int) : Option (ByteArray) := hatchwayref02_Least.l0 k a0 (⟨#[]⟩ : ByteArray)
theorem hatchwayref02_Least.mono_l : ∀ k, (∀ y0 y1, LeO (hatchwayref02_Least.l0 k y0 y1) (hatchwayref02_Least.l0 (k + 1) y0 y1))
 | 0 => fun _ _ r h => by simp [hatchwayref02_Least.l0] at h
 | k + 1 => by
  have ih0 := hatchwayref02_Least.mono_l k
  ·intro y0 y1
   unfold hatchwayref02_Least.l0
   repeat' first
   | (with_reducible exact ih0 _ _)
   | (with_reducible exact LeO.refl _)
   | (with_reducible exact LeO.none _)
   | (with_reducible refine LeO.ite ?_ ?_)
   | (with_reducible refine LeO.bind ?_ (fun _ => ?_))
   | exact ih0 _ _
   | exact LeO.none _
   | refine LeO.ite ?_ ?_
   | refine LeO.bind ?_ (fun _ => ?_)
theorem hatchwayref02_Least.mono : ∀ a0 k, LeO (hatchwayref02_Least.f k a0) (hatchwayref02_Least.f (k + 1) a0) := by
 intro a0 k
 have ih0 := hatchwayref02_Least.mono_l k
 unfold hatchwayref02_Least.f
 repeat' first
   | (with_reducible exact ih0 _ _)
   | (with_reducible exact LeO.refl _)
   | (with_reducible exact LeO.none _)
   | (with_reducible refine LeO.ite ?_ ?_)
   | (with_reducible refine LeO.bind ?_ (fun _ => ?_))
   | exact ih0 _ _
   | exact LeO.none _
   | refine LeO.ite ?_ ?_
   | refine LeO.bind ?_ (fun _ => ?_)
set_option maxHeartbeats 8000000 in
set_option maxRecDepth 100000 in
theorem hatchwayref02_Least.calls (k : Nat) (a0 : Int) (r : ByteArray) (w : World) (h : hatchwayref02_Least.f k a0 = some r) :
  Calls Try.prog 19 #[.int .u64 a0] w fun e w' => e = .returned (.string r) ∧ Below w.heap.size w w' := by
 have HB := Aside0.mk (Below.refl w.heap.size w)
 have H : (hatchwayref02_Least.l0 k a0 (⟨#[]⟩ : ByteArray)) = some r := h
 clear h
 have H' := Aside0.mk H
 clear H
 go_enter Try.func19, Try.ntmps19
 go_wp2
 go_loopg [0, 3] k (fun kq v0 v3 w' => ∃ (x0_1 : Int) (x3_1 : ByteArray), v0 = .int .u64 x0_1 ∧ v3 = .string x3_1 ∧ Aside0 (hatchwayref02_Least.l0 kq x0_1 x3_1 = some r) ∧ Aside0 (kq ≤ k) ∧ Aside0 (Below w.heap.size w w'))
 case atStart => exact ⟨(a0), ((⟨#[]⟩ : ByteArray)), (by first | rfl | (simp; done) | (simp [*]; done)), (by first | rfl | (simp; done) | (simp [*]; done)), H', ⟨Nat.le_refl _⟩, ⟨by repeat (first | (with_reducible first | exact HB.out | apply below_alloc | apply pw_below_drewN | apply below_drew1) | exact HB.out)⟩⟩
 case round =>
  clear H'
  try clear c1
  obtain ⟨x0_1, x3_1, rfl, rfl, HA, HK1, HB⟩ := hrel
  cases gk with
  | zero => exact absurd HA.out (by simp [hatchwayref02_Least.l0])
  | succ k1 =>
   have H := HA.out
   clear HA
   simp only [hatchwayref02_Least.l0] at H
   by_cases c2 : x0_1 > 0
   ·rw [if_pos c2] at H
    have c2b0 : decide (0 < x0_1) = true := decide_eq_true c2
    clear c2
    obtain ⟨y101, hy101⟩ : ∃ y_ : List Int, y_ = (([(Int.tmod x0_1 256) % 256] : List Int)) := ⟨_, rfl⟩
    replace H : (if (strOfNums y101).size + x3_1.size ≤ 9223372036854775807 then (hatchwayref02_Least.l0 k1 (IntKind.u64.wrap (Int.tdiv x0_1 256)) ((strOfNums y101) ++ x3_1)) else (none)) = some r := by first | (rw [hy101]; with_reducible exact H) | (have H2_ := (Option.bind_some _ _).symm.trans H; rw [hy101]; with_reducible exact H2_) | (have H2_ := (Option.bind_some _ _).symm.trans H; with_reducible exact H2_) | with_reducible exact H | (rw [hy101]; exact H) | exact H
    have Ny101 := Aside0.mk hy101
    clear hy101
    by_cases c3 : (strOfNums y101).size + x3_1.size ≤ 9223372036854775807
    ·rw [if_pos c3] at H
     have c3b0 := eq_true c3
     have c3b1 : decide ((strOfNums y101).size + x3_1.size ≤ 9223372036854775807) = true := decide_eq_true c3
     try have c3b2 : (9223372036854775807 < (strOfNums y101).size + x3_1.size) = False := eq_false (Nat.not_lt.2 c3)
     have H' := Aside0.mk H
     clear H
     go_wp2_with (first | ((with_reducible refine gate_dst (N := 9) rfl ?_); refine Kd.R_lit (Kd.int .u8) _ 5 ?hg (N := 9) ?hd (xs := ([(Int.tmod x0_1 256) % 256] : List Int)) (inner := [.int .u8 ((Int.tmod x0_1 256) % 256)]) (ok := fun _ => True) (okp := fun _ => True) ?hr ?hp (fun _ hk => hk) trivial (Below.refl _ _) (Nat.le_refl _) (by simp) ?_; (case hd => rfl); (case hg => rfl); (case hr => first | (go_simp; done) | (go_simp; rfl)); (case hp => exact (Reps.one (show Kd.M (Kd.int .u8) _ _ _ ((Int.tmod x0_1 256) % 256) [.int .u8 ((Int.tmod x0_1 256) % 256)] from rfl) (Reps.none _ _))); intro v102 w4 ho5 hb hg_ hnew_; clear hg_ hnew_; (first | rw [← Ny101.out] at ho5 | (simp only [Int.reduceToNat] at ho5; rw [← Ny101.out] at ho5)); have n0_ := Aside0.mk (Kd.R_lower ho5 (below_size (by repeat (first | (with_reducible first | exact HB.out | apply below_alloc | apply pw_below_drewN | apply below_drew1) | exact HB.out)))); have n1_ := Aside0.mk (below_step (by repeat (first | (with_reducible first | exact HB.out | apply below_alloc | apply pw_below_drewN | apply below_drew1) | exact HB.out)) hb); clear HB; have HO103 := n0_; have HB := n1_; clear n0_ n1_; clear hb ho5; have hcv6 := own_string (P := Try.prog) Try.underlying100 Try.underlying5 Try.underlying9 (Kd.own_of_R HO103.out)))
     go_roundg k1
     case measure => have := HK1.out; omega
     case rel => exact ⟨(IntKind.u64.wrap (Int.tdiv x0_1 256)), ((strOfNums y101) ++ x3_1), (by first | rfl | (simp; done) | (simp [*]; done)), (by first | rfl | (simp; done) | (simp [*]; done)), H', ⟨by have := HK1.out; omega⟩, ⟨by repeat (first | (with_reducible first | exact HB.out | apply below_alloc | apply pw_below_drewN | apply below_drew1) | exact HB.out)⟩⟩
    ·rw [if_neg c3] at H
     exact absurd H (by simp)
   ·rw [if_neg c2] at H
    have c2b0 : decide (0 < x0_1) = false := decide_eq_false c2
    clear c2
    obtain rfl := Option.some.inj H
    go_wp2
    go_ret
    exact ⟨by first | rfl | (simp [errW_none, errW_some] <;> rfl) | (simp [*, errW_none, errW_some] <;> rfl), by repeat (first | (with_reducible first | exact HB.out | apply below_alloc | apply pw_below_drewN | apply below_drew1) | exact HB.out)⟩
end Go.Proofs.Yteoibgpkimlahaa.P
end
section
namespace Go.Proofs.Yteoibgpkimlahaa.P
open Go.RowKit Go.Proofs.YteoibgpkimlahaaW.PrintWords Go.Proofs.YteoibgpkimlahaaW.PrintLast Go.Proofs.YteoibgpkimlahaaW.PrintMore
attribute [local go_sem] max2_int min2_int max_two min_two max_three min_three max_four min_four   
set_option linter.unusedVariables false
set_option linter.unusedSimpArgs false
def hatchwayref09_head.f (k : Nat) (a0 : Int) (a1 : Int) : Option (ByteArray) := if a1 ≤ 55 then (some (strOfNums (([(wrap64 (a0 + a1)) % 256] : List Int)))) else ((hatchwayref02_Least.f k (IntKind.u64.wrap (a1))).bind fun t104 => ((some (([(wrap64 ((wrap64 (a0 + 55)) + (t104.size : Int))) % 256] : List Int) : List Int)).bind fun y105 => (if (strOfNums y105).size + t104.size ≤ 9223372036854775807 then (some ((strOfNums y105) ++ t104)) else (none))))
theorem hatchwayref09_head.mono : ∀ a0 a1 k, LeO (hatchwayref09_head.f k a0 a1) (hatchwayref09_head.f (k + 1) a0 a1) := by
 intro a0 a1 k
 unfold hatchwayref09_head.f
 repeat' first
   | (with_reducible exact hatchwayref02_Least.mono _ _)
   | (with_reducible exact LeO.refl _)
   | (with_reducible exact LeO.none _)
   | (with_reducible refine LeO.ite ?_ ?_)
   | (with_reducible refine LeO.bind ?_ (fun _ => ?_))
   | exact hatchwayref02_Least.mono _ _
   | exact LeO.none _
   | refine LeO.ite ?_ ?_
   | refine LeO.bind ?_ (fun _ => ?_)
set_option maxHeartbeats 8000000 in
set_option maxRecDepth 100000 in
theorem hatchwayref09_head.calls (k : Nat) (a0 : Int) (a1 : Int) (r : ByteArray) (w : World) (h : hatchwayref09_head.f k a0 a1 = some r) :
  Calls Try.prog 81 #[.int .i64 a0, .int .i64 a1] w fun e w' => e = .returned (.string r) ∧ Below w.heap.size w w' := by
 have HB := Aside0.mk (Below.refl w.heap.size w)
 have H : (if a1 ≤ 55 then (some (strOfNums (([(wrap64 (a0 + a1)) % 256] : List Int)))) else ((hatchwayref02_Least.f k (IntKind.u64.wrap (a1))).bind fun t104 => ((some (([(wrap64 ((wrap64 (a0 + 55)) + (t104.size : Int))) % 256] : List Int) : List Int)).bind fun y105 => (if (strOfNums y105).size + t104.size ≤ 9223372036854775807 then (some ((strOfNums y105) ++ t104)) else (none))))) = some r := h
 clear h
 by_cases c3 : a1 ≤ 55
 ·rw [if_pos c3] at H
  have c3b0 : decide (a1 ≤ 55) = true := decide_eq_true c3
  clear c3
  obtain ⟨y101, hy101⟩ : ∃ y_ : List Int, y_ = (([(wrap64 (a0 + a1)) % 256] : List Int)) := ⟨_, rfl⟩
  replace H : (some (strOfNums y101)) = some r := by first | (rw [hy101]; with_reducible exact H) | (have H2_ := (Option.bind_some _ _).symm.trans H; rw [hy101]; with_reducible exact H2_) | (have H2_ := (Option.bind_some _ _).symm.trans H; with_reducible exact H2_) | with_reducible exact H | (rw [hy101]; exact H) | exact H
  have Ny101 := Aside0.mk hy101
  clear hy101
  obtain rfl := Option.some.inj H
  go_enter Try.func81, Try.ntmps81
  go_wp2_with (first | ((with_reducible refine gate_dst (N := 12) rfl ?_); refine Kd.R_lit (Kd.int .u8) _ 5 ?hg (N := 12) ?hd (xs := ([(wrap64 (a0 + a1)) % 256] : List Int)) (inner := [.int .u8 ((wrap64 (a0 + a1)) % 256)]) (ok := fun _ => True) (okp := fun _ => True) ?hr ?hp (fun _ hk => hk) trivial (Below.refl _ _) (Nat.le_refl _) (by simp) ?_; (case hd => rfl); (case hg => rfl); (case hr => first | (go_simp; done) | (go_simp; rfl)); (case hp => exact (Reps.one (show Kd.M (Kd.int .u8) _ _ _ ((wrap64 (a0 + a1)) % 256) [.int .u8 ((wrap64 (a0 + a1)) % 256)] from rfl) (Reps.none _ _))); intro v102 w4 ho5 hb hg_ hnew_; clear hg_ hnew_; (first | rw [← Ny101.out] at ho5 | (simp only [Int.reduceToNat] at ho5; rw [← Ny101.out] at ho5)); have n0_ := Aside0.mk (Kd.R_lower ho5 (below_size (by repeat (first | (with_reducible first | exact HB.out | apply below_alloc | apply pw_below_drewN | apply below_drew1) | exact HB.out)))); have n1_ := Aside0.mk (below_step (by repeat (first | (with_reducible first | exact HB.out | apply below_alloc | apply pw_below_drewN | apply below_drew1) | exact HB.out)) hb); clear HB; have HO103 := n0_; have HB := n1_; clear n0_ n1_; clear hb ho5; have hcv6 := own_string (P := Try.prog) Try.underlying100 Try.underlying5 Try.underlying9 (Kd.own_of_R HO103.out)))
  go_ret
  exact ⟨by first | rfl | (simp [errW_none, errW_some] <;> rfl) | (simp [*, errW_none, errW_some] <;> rfl), by repeat (first | (with_reducible first | exact HB.out | apply below_alloc | apply pw_below_drewN | apply below_drew1) | exact HB.out)⟩
 ·rw [if_neg c3] at H
  have c3b0 : decide (a1 ≤ 55) = false := decide_eq_false c3
  clear c3
  replace H := Option.bind_eq_some_iff.mp H
  obtain ⟨t104, A70, H⟩ := H
  replace H : ((some (([(wrap64 ((wrap64 (a0 + 55)) + (t104.size : Int))) % 256] : List Int) : List Int)).bind fun y105 => (if (strOfNums y105).size + t104.size ≤ 9223372036854775807 then (some ((strOfNums y105) ++ t104)) else (none))) = some r := H
  have A7 := Aside0.mk A70
  clear A70
  obtain ⟨y105, hy105⟩ : ∃ y_ : List Int, y_ = (([(wrap64 ((wrap64 (a0 + 55)) + (t104.size : Int))) % 256] : List Int)) := ⟨_, rfl⟩
  replace H : (if (strOfNums y105).size + t104.size ≤ 9223372036854775807 then (some ((strOfNums y105) ++ t104)) else (none)) = some r := by first | (rw [hy105]; with_reducible exact H) | (have H2_ := (Option.bind_some _ _).symm.trans H; rw [hy105]; with_reducible exact H2_) | (have H2_ := (Option.bind_some _ _).symm.trans H; with_reducible exact H2_) | with_reducible exact H | (rw [hy105]; exact H) | exact H
  have Ny105 := Aside0.mk hy105
  clear hy105
  by_cases c8 : (strOfNums y105).size + t104.size ≤ 9223372036854775807
  ·rw [if_pos c8] at H
   have c8b0 := eq_true c8
   have c8b1 : decide ((strOfNums y105).size + t104.size ≤ 9223372036854775807) = true := decide_eq_true c8
   try have c8b2 : (9223372036854775807 < (strOfNums y105).size + t104.size) = False := eq_false (Nat.not_lt.2 c8)
   obtain rfl := Option.some.inj H
   go_enter Try.func81, Try.ntmps81
   go_wp2_with (first | ((with_reducible refine gate_callee (f := 19) rfl ?_); refine goesL_ (some 16) rfl rfl Try.func19 (by kernel_rfl) rfl #[.int .u64 (IntKind.u64.wrap (a1))] rfl (by (try simp only [List.map_toArray, List.map_cons, List.map_nil]); first | done | rfl | (simp only [List.length_drop, List.length_take]; rfl)) ?_; (with_reducible refine (hatchwayref02_Least.calls k (IntKind.u64.wrap (a1)) t104 _ A7.out).mono ?_); rintro e w9 ⟨rfl, hb⟩; refine ⟨_, rfl, ?_⟩; have n0_ := Aside0.mk (below_step (by repeat (first | (with_reducible first | exact HB.out | apply below_alloc | apply pw_below_drewN | apply below_drew1) | exact HB.out)) hb); clear HB; have HB := n0_; clear n0_; (try clear hb); (try clear hb2); (try clear hk); (try clear hi)) | ((with_reducible refine gate_dst (N := 23) rfl ?_); refine Kd.R_lit (Kd.int .u8) _ 5 ?hg (N := 23) ?hd (xs := ([(wrap64 ((wrap64 (a0 + 55)) + (t104.size : Int))) % 256] : List Int)) (inner := [.int .u8 ((wrap64 ((wrap64 (a0 + 55)) + (t104.size : Int))) % 256)]) (ok := fun _ => True) (okp := fun _ => True) ?hr ?hp (fun _ hk => hk) trivial (Below.refl _ _) (Nat.le_refl _) (by simp) ?_; (case hd => rfl); (case hg => rfl); (case hr => first | (go_simp; done) | (go_simp; rfl)); (case hp => exact (Reps.one (show Kd.M (Kd.int .u8) _ _ _ ((wrap64 ((wrap64 (a0 + 55)) + (t104.size : Int))) % 256) [.int .u8 ((wrap64 ((wrap64 (a0 + 55)) + (t104.size : Int))) % 256)] from rfl) (Reps.none _ _))); intro v106 w10 ho11 hb hg_ hnew_; clear hg_ hnew_; (first | rw [← Ny105.out] at ho11 | (simp only [Int.reduceToNat] at ho11; rw [← Ny105.out] at ho11)); have n0_ := Aside0.mk (Kd.R_lower ho11 (below_size (by repeat (first | (with_reducible first | exact HB.out | apply below_alloc | apply pw_below_drewN | apply below_drew1) | exact HB.out)))); have n1_ := Aside0.mk (below_step (by repeat (first | (with_reducible first | exact HB.out | apply below_alloc | apply pw_below_drewN | apply below_drew1) | exact HB.out)) hb); clear HB; have HO107 := n0_; have HB := n1_; clear n0_ n1_; clear hb ho11; have hcv12 := own_string (P := Try.prog) Try.underlying100 Try.underlying5 Try.underlying9 (Kd.own_of_R HO107.out)))
   go_ret
   exact ⟨by first | rfl | (simp [errW_none, errW_some] <;> rfl) | (simp [*, errW_none, errW_some] <;> rfl), by repeat (first | (with_reducible first | exact HB.out | apply below_alloc | apply pw_below_drewN | apply below_drew1) | exact HB.out)⟩
  ·rw [if_neg c8] at H
   exact absurd H (by simp)
end Go.Proofs.Yteoibgpkimlahaa.P
end
section
namespace Go.Proofs.Yteoibgpkimlahaa.P
open Go.RowKit Go.Proofs.YteoibgpkimlahaaW.PrintWords Go.Proofs.YteoibgpkimlahaaW.PrintLast Go.Proofs.YteoibgpkimlahaaW.PrintMore
attribute [local go_sem] max2_int min2_int max_two min_two max_three min_three max_four min_four   
set_option linter.unusedVariables false
set_option linter.unusedSimpArgs false
mutual
def hatchwayref09_Put.l0 : Nat → ByteArray → Int → ByteArray → Bool → List (S62) → Option (ByteArray)
 | 0, _, _, _, _, _ => none
 | k + 1, x3, x4, x102000, x102001, x102002 => if x4 < (x102002.length : Int) then (if 0 ≤ x4 then ((hatchwayref09_Put.f k ((rd_T62 x102002 x4).f0) ((rd_T62 x102002 x4).f1) ((rd_T62 x102002 x4).f2)).bind fun t103 => (if x3.size + t103.size ≤ 9223372036854775807 then (hatchwayref09_Put.l0 k (x3 ++ t103) (wrap64 (x4 + 1)) x102000 x102001 x102002) else (none))) else (none)) else ((hatchwayref09_head.f k 192 (x3.size : Int)).bind fun t104 => (if t104.size + x3.size ≤ 9223372036854775807 then (some (t104 ++ x3)) else (none)))
def hatchwayref09_Put.f : Nat → ByteArray → Bool → List (S62) → Option (ByteArray)
 | 0, _, _, _ => none
 | k + 1, a0_0, a0_1, l0_2 => if a0_1 = true then (hatchwayref09_Put.l0 k (⟨#[]⟩ : ByteArray) 0 a0_0 a0_1 l0_2) else (if (a0_0.size : Int) = 1 then (if 0 < (a0_0.size : Int) then (if (bt a0_0 0) < 128 then (some a0_0) else ((hatchwayref09_head.f k 128 (a0_0.size : Int)).bind fun t105 => (if t105.size + a0_0.size ≤ 9223372036854775807 then (some (t105 ++ a0_0)) else (none)))) else (none)) else ((hatchwayref09_head.f k 128 (a0_0.size : Int)).bind fun t106 => (if t106.size + a0_0.size ≤ 9223372036854775807 then (some (t106 ++ a0_0)) else (none))))
end
theorem hatchwayref09_Put.mono_l : ∀ k, (∀ y0 y1 y2, LeO (hatchwayref09_Put.f k y0 y1 y2) (hatchwayref09_Put.f (k + 1) y0 y1 y2)) ∧ (∀ y0 y1 y2 y3 y4, LeO (hatchwayref09_Put.l0 k y0 y1 y2 y3 y4) (hatchwayref09_Put.l0 (k + 1) y0 y1 y2 y3 y4))
 | 0 => ⟨fun _ _ _ r h => by simp [hatchwayref09_Put.f] at h, fun _ _ _ _ _ r h => by simp [hatchwayref09_Put.l0] at h⟩
 | k + 1 => by
  obtain ⟨ih0, ih1⟩ := hatchwayref09_Put.mono_l k
  refine ⟨?_, ?_⟩
  ·intro y0 y1 y2
   unfold hatchwayref09_Put.f
   repeat' first
   | (with_reducible exact ih0 _ _ _)
   | (with_reducible exact ih1 _ _ _ _ _)
   | (with_reducible exact hatchwayref09_head.mono _ _ _)
   | (with_reducible exact LeO.refl _)
   | (with_reducible exact LeO.none _)
   | (with_reducible refine LeO.ite ?_ ?_)
   | (with_reducible refine LeO.bind ?_ (fun _ => ?_))
   | exact ih0 _ _ _
   | exact ih1 _ _ _ _ _
   | exact hatchwayref09_head.mono _ _ _
   | exact LeO.none _
   | refine LeO.ite ?_ ?_
   | refine LeO.bind ?_ (fun _ => ?_)
  ·intro y0 y1 y2 y3 y4
   unfold hatchwayref09_Put.l0
   repeat' first
   | (with_reducible exact ih0 _ _ _)
   | (with_reducible exact ih1 _ _ _ _ _)
   | (with_reducible exact hatchwayref09_head.mono _ _ _)
   | (with_reducible exact LeO.refl _)
   | (with_reducible exact LeO.none _)
   | (with_reducible refine LeO.ite ?_ ?_)
   | (with_reducible refine LeO.bind ?_ (fun _ => ?_))
   | exact ih0 _ _ _
   | exact ih1 _ _ _ _ _
   | exact hatchwayref09_head.mono _ _ _
   | exact LeO.none _
   | refine LeO.ite ?_ ?_
   | refine LeO.bind ?_ (fun _ => ?_)
theorem hatchwayref09_Put.mono : ∀ a0 a1 a2 k, LeO (hatchwayref09_Put.f k a0 a1 a2) (hatchwayref09_Put.f (k + 1) a0 a1 a2) := by
 intro a0 a1 a2 k
 obtain ⟨ih0, ih1⟩ := hatchwayref09_Put.mono_l k
 exact ih0 a0 a1 a2
def hatchwayref09_Put.T10 : Bool × List (List Nat × List Nat) := (true, [([], []), ([0], [0]), ([1], [1]), ([2], [2]), ([], []), ([4], [4]), ([3, 5], [3, 5]), ([6, 3, 0, 1, 2, 3, 4, 5, 6], [6])])
def hatchwayref09_Put.B10 : List Nat := [0, 1, 3, 7, 0, 16, 63, 127]
theorem hatchwayref09_Put.tab10 : rtab .any (opsOf Try.f45 10) = hatchwayref09_Put.T10 := by kernel_rfl
theorem hatchwayref09_Put.bits10 : waitsOk hatchwayref09_Put.T10.2 hatchwayref09_Put.B10 = true := by kernel_rfl
set_option maxHeartbeats 8000000 in
set_option maxRecDepth 100000 in
theorem hatchwayref09_Put.calls (k : Nat) : ∀ (a0_0 : ByteArray) (a0_1 : Bool) (A0_2 : Option Addr) (c0_2 : Nat) (l0_2 : List (S62)) (r : ByteArray) (w : World) (hr0_2 : Kd.C k62 w A0_2 l0_2.length l0_2) (hc0_2 : l0_2.length ≤ c0_2) (h : hatchwayref09_Put.f k a0_0 a0_1 l0_2 = some r),
  Calls Try.prog 45 #[.agg #[.string a0_0, .bool a0_1, .slice A0_2 l0_2.length c0_2]] w fun e w' => e = .returned (.string r) ∧ Below w.heap.size w w' := by
 induction k using Nat.strongRecOn with
 | _ k ih =>
 intro a0_0 a0_1 A0_2 c0_2 l0_2 r w hr0_2 hc0_2 h
 cases k with
 | zero => exact absurd h (by simp [hatchwayref09_Put.f])
 | succ k =>
 simp only [hatchwayref09_Put.f] at h
 have hu62 := Try.underlying62
 have HR0_2 := Aside0.mk hr0_2
 have HC0_2 := Aside0.mk hc0_2
 clear hr0_2 hc0_2
 have HB := Aside0.mk (Below.refl w.heap.size w)
 have H : (if a0_1 = true then (hatchwayref09_Put.l0 k (⟨#[]⟩ : ByteArray) 0 a0_0 a0_1 l0_2) else (if (a0_0.size : Int) = 1 then (if 0 < (a0_0.size : Int) then (if (bt a0_0 0) < 128 then (some a0_0) else ((hatchwayref09_head.f k 128 (a0_0.size : Int)).bind fun t105 => (if t105.size + a0_0.size ≤ 9223372036854775807 then (some (t105 ++ a0_0)) else (none)))) else (none)) else ((hatchwayref09_head.f k 128 (a0_0.size : Int)).bind fun t106 => (if t106.size + a0_0.size ≤ 9223372036854775807 then (some (t106 ++ a0_0)) else (none))))) = some r := h
 clear h
 by_cases c2 : a0_1 = true
 ·subst c2
  have H1 : (hatchwayref09_Put.l0 k (⟨#[]⟩ : ByteArray) 0 a0_0 true l0_2) = some r := by rw [if_pos rfl] at H; exact H
  clear H
  have H := H1
  clear H1
  have H' := Aside0.mk H
  clear H
  go_enter Try.func45, Try.ntmps45
  go_wp2_with (first | ((with_reducible refine gate_dst (N := 1) rfl ?_); refine box_event ?hg (N := 1) ?hd (cs := #[.string a0_0, .bool true, .slice A0_2 l0_2.length c0_2]) (t := 62) ?hr ?_; (case hd => rfl); (case hg => rfl); (case hr => first | (go_simp; done) | (go_simp; rfl)); intro gb101 hg w3 hbox hb; have n0_ := Aside0.mk (below_step (by repeat (first | (with_reducible first | exact HB.out | apply below_alloc | apply pw_below_drewN | apply below_drew1) | exact HB.out)) hb); have n1_ := Aside0.mk (hbox); have n2_ := Aside0.mk ((by rw [hg]; exact (below_size (by repeat (first | (with_reducible first | exact HB.out | apply below_alloc | apply pw_below_drewN | apply below_drew1) | exact HB.out))) : w.heap.size ≤ gb101)); have n3_ := Aside0.mk ((by rw [hg]; exact (below_size (by repeat (first | (with_reducible first | exact HB.out | apply below_alloc | apply pw_below_drewN | apply below_drew1) | exact HB.out))) : w.heap.size ≤ gb101)); clear HB; have HB := n0_; have BK101 := n1_; have GW101 := n2_; have GE101 := n3_; clear n0_ n1_ n2_ n3_; clear hb hbox hg; have hcz4_0 : w3.cell? ⟨gb101, 0, none⟩ = some (.string a0_0) := (blk_cell BK101.out 0).trans rfl; have hcz4_1 : w3.cell? ⟨gb101, 1, none⟩ = some (.bool true) := (blk_cell BK101.out 1).trans rfl; have hcz4_2 : w3.cell? ⟨gb101, 2, none⟩ = some (.slice A0_2 l0_2.length c0_2) := (blk_cell BK101.out 2).trans rfl; have hfz4_0 := blk_frozen BK101.out 0; have hfz4_1 := blk_frozen BK101.out 1; have hfz4_2 := blk_frozen BK101.out 2))
  go_loopg [3, 4] k (fun kq v3 v4 w' => ∃ (x3_1 : ByteArray) (x4_1 : Int), v3 = .string x3_1 ∧ v4 = .int .i64 x4_1 ∧ Aside0 (hatchwayref09_Put.l0 kq x3_1 x4_1 a0_0 true l0_2 = some r) ∧ Aside0 (kq ≤ k) ∧ Aside0 (w'.heap[gb101]? = some (.cells #[.string a0_0, .bool true, (.slice A0_2 l0_2.length c0_2)] 62 (0, 0))) ∧ Aside0 (Below w.heap.size w w'))
  case atStart => exact ⟨((⟨#[]⟩ : ByteArray)), (0), (by first | rfl | (simp; done) | (simp [*]; done)), (by first | rfl | (simp; done) | (simp [*]; done)), H', ⟨Nat.le_refl _⟩, ⟨by (with_reducible repeat (first | refine blk_drewN ?_ _ | refine blk_drew ?_ | refine blk_alloc ?_ _)); exact BK101.out⟩, ⟨by repeat (first | (with_reducible first | exact HB.out | apply below_alloc | apply pw_below_drewN | apply below_drew1 | refine below_set ?_ GE101.out) | exact HB.out)⟩⟩
  case round =>
   clear H'
   try clear c2
   try clear p2
   try clear c4
   try clear hcz4_0
   try clear hcz4_1
   try clear hcz4_2
   try clear hfz4_0
   try clear hfz4_1
   try clear hfz4_2
   obtain ⟨x3_1, x4_1, rfl, rfl, HA, HK1, BK101, HB⟩ := hrel
   cases gk with
   | zero => exact absurd HA.out (by simp [hatchwayref09_Put.l0])
   | succ k1 =>
    have H := HA.out
    clear HA
    simp only [hatchwayref09_Put.l0] at H
    by_cases c5 : x4_1 < (l0_2.length : Int)
    ·rw [if_pos c5] at H
     have c5b0 : decide (x4_1 < (l0_2.length : Int)) = true := decide_eq_true c5
     clear c5
     by_cases c6 : 0 ≤ x4_1
     ·rw [if_pos c6] at H
      have c6b0 : decide (0 ≤ x4_1) = true := decide_eq_true c6
      clear c6
      replace H := Option.bind_eq_some_iff.mp H
      obtain ⟨t103, A70, H⟩ := H
      replace H : (if x3_1.size + t103.size ≤ 9223372036854775807 then (hatchwayref09_Put.l0 k1 (x3_1 ++ t103) (wrap64 (x4_1 + 1)) a0_0 true l0_2) else (none)) = some r := H
      have A7 := Aside0.mk A70
      clear A70
      by_cases c8 : x3_1.size + t103.size ≤ 9223372036854775807
      ·rw [if_pos c8] at H
       have c8b0 := eq_true c8
       have c8b1 : decide (x3_1.size + t103.size ≤ 9223372036854775807) = true := decide_eq_true c8
       try have c8b2 : (9223372036854775807 < x3_1.size + t103.size) = False := eq_false (Nat.not_lt.2 c8)
       have H' := Aside0.mk H
       clear H
       have hcz9_0 : wr.cell? ⟨gb101, 0, none⟩ = some (.string a0_0) := (blk_cell BK101.out 0).trans rfl
       have hcz9_1 : wr.cell? ⟨gb101, 1, none⟩ = some (.bool true) := (blk_cell BK101.out 1).trans rfl
       have hcz9_2 : wr.cell? ⟨gb101, 2, none⟩ = some (.slice A0_2 l0_2.length c0_2) := (blk_cell BK101.out 2).trans rfl
       have hfz9_0 := blk_frozen BK101.out 0
       have hfz9_1 := blk_frozen BK101.out 1
       have hfz9_2 := blk_frozen BK101.out 2
       have p102 : 0 ≤ (x4_1 : Int) := of_decide_eq_true (by first | (with_reducible assumption) | assumption)
       have q102 : x4_1 < (l0_2.length : Int) := of_decide_eq_true (by first | (with_reducible assumption) | assumption)
       obtain ⟨ad102, A102_2, c102_2, e102, hx102_0, hx102_1, hx102_2, hl102_2, hi102_2⟩ := at_T62 HR0_2.out x4_1 p102 q102
       cases e102
       replace hx102_0 := (HB.out.cell (World.block_lt_of_cell? w _ hx102_0)).trans hx102_0
       replace hx102_1 := (HB.out.cell (World.block_lt_of_cell? w _ hx102_1)).trans hx102_1
       replace hx102_2 := (HB.out.cell (World.block_lt_of_cell? w _ hx102_2)).trans hx102_2
       have HR102_2 := Aside0.mk hi102_2
       have HC102_2 := Aside0.mk hl102_2
       clear hi102_2 hl102_2
       replace p102 := eq_true p102
       replace q102 := eq_true q102
       go_wp2_with (first | ((with_reducible refine gate_callee (f := 45) rfl ?_); refine goesL_ (some 20) rfl rfl Try.func45 (by kernel_rfl) rfl #[.agg #[.string ((rd_T62 l0_2 x4_1).f0), .bool ((rd_T62 l0_2 x4_1).f1), .slice A102_2 ((rd_T62 l0_2 x4_1).f2).length c102_2]] rfl (by (try simp only [List.map_toArray, List.map_cons, List.map_nil]); first | done | rfl | (simp only [List.length_drop, List.length_take]; rfl)) ?_; (with_reducible refine (ih k1 (by have := HK1.out; omega) ((rd_T62 l0_2 x4_1).f0) ((rd_T62 l0_2 x4_1).f1) _ _ ((rd_T62 l0_2 x4_1).f2) t103 _ ?side1 ?side2 A7.out).mono ?_); (case side1 => repeat (first | exact (Kd.C_below HR102_2.out HB.out) | (with_reducible refine Kd.C_alloc ?_ _) | (with_reducible refine Kd.C_drewN ?_ _) | (with_reducible refine Kd.C_drew ?_))); (case side2 => exact HC102_2.out); rintro e w10 ⟨rfl, hb⟩; refine ⟨_, rfl, ?_⟩; have n0_ := Aside0.mk (blk_below (g := gb101) (o := .cells #[.string a0_0, .bool true, .slice (some ad102) l0_2.length c0_2] 62 (0, 0)) (by (with_reducible repeat (first | refine blk_drewN ?_ _ | refine blk_drew ?_ | refine blk_alloc ?_ _)); exact BK101.out) hb); have n1_ := Aside0.mk (below_step (by repeat (first | (with_reducible first | exact HB.out | apply below_alloc | apply pw_below_drewN | apply below_drew1 | refine below_set ?_ GE101.out) | exact HB.out)) hb); clear BK101; clear HB; have BK101 := n0_; have HB := n1_; clear n0_ n1_; (try clear hb); (try clear hb2); (try clear hk); (try clear hi)))
       go_roundg k1
       case measure => have := HK1.out; omega
       case rel => exact ⟨(x3_1 ++ t103), (wrap64 (x4_1 + 1)), (by first | rfl | (simp; done) | (simp [*]; done)), (by first | rfl | (simp; done) | (simp [*]; done)), H', ⟨by have := HK1.out; omega⟩, ⟨by (with_reducible repeat (first | refine blk_drewN ?_ _ | refine blk_drew ?_ | refine blk_alloc ?_ _)); exact BK101.out⟩, ⟨by repeat (first | (with_reducible first | exact HB.out | apply below_alloc | apply pw_below_drewN | apply below_drew1 | refine below_set ?_ GE101.out) | exact HB.out)⟩⟩
      ·rw [if_neg c8] at H
       exact absurd H (by simp)
     ·rw [if_neg c6] at H
      exact absurd H (by simp)
    ·rw [if_neg c5] at H
     have c5b0 : decide (x4_1 < (l0_2.length : Int)) = false := decide_eq_false c5
     clear c5
     replace H := Option.bind_eq_some_iff.mp H
     obtain ⟨t104, A110, H⟩ := H
     replace H : (if t104.size + x3_1.size ≤ 9223372036854775807 then (some (t104 ++ x3_1)) else (none)) = some r := H
     have A11 := Aside0.mk A110
     clear A110
     by_cases c12 : t104.size + x3_1.size ≤ 9223372036854775807
     ·rw [if_pos c12] at H
      have c12b0 := eq_true c12
      have c12b1 : decide (t104.size + x3_1.size ≤ 9223372036854775807) = true := decide_eq_true c12
      try have c12b2 : (9223372036854775807 < t104.size + x3_1.size) = False := eq_false (Nat.not_lt.2 c12)
      obtain rfl := Option.some.inj H
      have hcz13_0 : wr.cell? ⟨gb101, 0, none⟩ = some (.string a0_0) := (blk_cell BK101.out 0).trans rfl
      have hcz13_1 : wr.cell? ⟨gb101, 1, none⟩ = some (.bool true) := (blk_cell BK101.out 1).trans rfl
      have hcz13_2 : wr.cell? ⟨gb101, 2, none⟩ = some (.slice A0_2 l0_2.length c0_2) := (blk_cell BK101.out 2).trans rfl
      have hfz13_0 := blk_frozen BK101.out 0
      have hfz13_1 := blk_frozen BK101.out 1
      have hfz13_2 := blk_frozen BK101.out 2
      go_wp2_with (first | ((with_reducible refine gate_callee (f := 81) rfl ?_); refine goesL_ (some 24) rfl rfl Try.func81 (by kernel_rfl) rfl #[.int .i64 192, .int .i64 (x3_1.size : Int)] rfl (by (try simp only [List.map_toArray, List.map_cons, List.map_nil]); first | done | rfl | (simp only [List.length_drop, List.length_take]; rfl)) ?_; (with_reducible refine (hatchwayref09_head.calls k1 192 (x3_1.size : Int) t104 _ A11.out).mono ?_); rintro e w14 ⟨rfl, hb⟩; refine ⟨_, rfl, ?_⟩; have n0_ := Aside0.mk (blk_below (g := gb101) (o := .cells #[.string a0_0, .bool true, .slice A0_2 l0_2.length c0_2] 62 (0, 0)) (by (with_reducible repeat (first | refine blk_drewN ?_ _ | refine blk_drew ?_ | refine blk_alloc ?_ _)); exact BK101.out) hb); have n1_ := Aside0.mk (below_step (by repeat (first | (with_reducible first | exact HB.out | apply below_alloc | apply pw_below_drewN | apply below_drew1 | refine below_set ?_ GE101.out) | exact HB.out)) hb); clear BK101; clear HB; have BK101 := n0_; have HB := n1_; clear n0_ n1_; (try clear hb); (try clear hb2); (try clear hk); (try clear hi)))
      go_ret
      exact ⟨by first | rfl | (simp [errW_none, errW_some] <;> rfl) | (simp [*, errW_none, errW_some] <;> rfl), by repeat (first | (with_reducible first | exact HB.out | apply below_alloc | apply pw_below_drewN | apply below_drew1 | refine below_set ?_ GE101.out) | exact HB.out)⟩
     ·rw [if_neg c12] at H
      exact absurd H (by simp)
 ·replace c2 := Bool.eq_false_iff.mpr c2
  subst c2
  have H1 : (if (a0_0.size : Int) = 1 then (if 0 < (a0_0.size : Int) then (if (bt a0_0 0) < 128 then (some a0_0) else ((hatchwayref09_head.f k 128 (a0_0.size : Int)).bind fun t105 => (if t105.size + a0_0.size ≤ 9223372036854775807 then (some (t105 ++ a0_0)) else (none)))) else (none)) else ((hatchwayref09_head.f k 128 (a0_0.size : Int)).bind fun t106 => (if t106.size + a0_0.size ≤ 9223372036854775807 then (some (t106 ++ a0_0)) else (none)))) = some r := by rw [if_neg (show ¬ (false = true) by decide)] at H; exact H
  clear H
  have H := H1
  clear H1
  by_cases c15 : (a0_0.size : Int) = 1
  ·rw [if_pos c15] at H
   have c15b0 : ((a0_0.size : Int) == 1) = true := beq_iff_eq.mpr c15
   have c15b1 : ((a0_0.size : Int) != 1) = false := bne_eq_false_iff_eq.mpr c15
   clear c15
   by_cases c16 : 0 < (a0_0.size : Int)
   ·rw [if_pos c16] at H
    have c16b0 : decide (0 < (a0_0.size : Int)) = true := decide_eq_true c16
    have c16b1 : decide (0 < a0_0.size) = true := decide_eq_true (by omega)
    clear c16
    by_cases c18 : (bt a0_0 0) < 128
    ·rw [if_pos c18] at H
     have c18b0 : decide ((bt a0_0 0) < 128) = true := decide_eq_true c18
     clear c18
     obtain rfl := Option.some.inj H
     go_enter Try.func45, Try.ntmps45
     go_wp2_with (first | ((with_reducible refine gate_dst (N := 1) rfl ?_); refine box_event ?hg (N := 1) ?hd (cs := #[.string a0_0, .bool false, .slice A0_2 l0_2.length c0_2]) (t := 62) ?hr ?_; (case hd => rfl); (case hg => rfl); (case hr => first | (go_simp; done) | (go_simp; rfl)); intro gb101 hg w19 hbox hb; have n0_ := Aside0.mk (below_step (by repeat (first | (with_reducible first | exact HB.out | apply below_alloc | apply pw_below_drewN | apply below_drew1) | exact HB.out)) hb); have n1_ := Aside0.mk (hbox); have n2_ := Aside0.mk ((by rw [hg]; exact (below_size (by repeat (first | (with_reducible first | exact HB.out | apply below_alloc | apply pw_below_drewN | apply below_drew1) | exact HB.out))) : w.heap.size ≤ gb101)); have n3_ := Aside0.mk ((by rw [hg]; exact (below_size (by repeat (first | (with_reducible first | exact HB.out | apply below_alloc | apply pw_below_drewN | apply below_drew1) | exact HB.out))) : w.heap.size ≤ gb101)); clear HB; have HB := n0_; have BK101 := n1_; have GW101 := n2_; have GE101 := n3_; clear n0_ n1_ n2_ n3_; clear hb hbox hg; have hcz20_0 : w19.cell? ⟨gb101, 0, none⟩ = some (.string a0_0) := (blk_cell BK101.out 0).trans rfl; have hcz20_1 : w19.cell? ⟨gb101, 1, none⟩ = some (.bool false) := (blk_cell BK101.out 1).trans rfl; have hcz20_2 : w19.cell? ⟨gb101, 2, none⟩ = some (.slice A0_2 l0_2.length c0_2) := (blk_cell BK101.out 2).trans rfl; have hfz20_0 := blk_frozen BK101.out 0; have hfz20_1 := blk_frozen BK101.out 1; have hfz20_2 := blk_frozen BK101.out 2; have p17 : 0 ≤ (0 : Int) := (by omega); have q17 : 0 < a0_0.size := (by have : (0 : Int) < (a0_0.size : Int) := of_decide_eq_true (by first | (with_reducible assumption) | assumption); omega); have hx17 : ∀ h : 0 < a0_0.size, ((a0_0[0]'h).toNat : Int) = bt a0_0 0 := bt_at a0_0 0; clear p17; have qi17 : (0 < (a0_0.size : Int)) = True := eq_true (of_decide_eq_true (by first | (with_reducible assumption) | assumption)); replace q17 := eq_true q17))
     go_ret
     exact ⟨by first | rfl | (simp [errW_none, errW_some] <;> rfl) | (simp [*, errW_none, errW_some] <;> rfl), by repeat (first | (with_reducible first | exact HB.out | apply below_alloc | apply pw_below_drewN | apply below_drew1 | refine below_set ?_ GE101.out) | exact HB.out)⟩
    ·rw [if_neg c18] at H
     have c18b0 : decide ((bt a0_0 0) < 128) = false := decide_eq_false c18
     clear c18
     replace H := Option.bind_eq_some_iff.mp H
     obtain ⟨t105, A210, H⟩ := H
     replace H : (if t105.size + a0_0.size ≤ 9223372036854775807 then (some (t105 ++ a0_0)) else (none)) = some r := H
     have A21 := Aside0.mk A210
     clear A210
     by_cases c22 : t105.size + a0_0.size ≤ 9223372036854775807
     ·rw [if_pos c22] at H
      have c22b0 := eq_true c22
      have c22b1 : decide (t105.size + a0_0.size ≤ 9223372036854775807) = true := decide_eq_true c22
      try have c22b2 : (9223372036854775807 < t105.size + a0_0.size) = False := eq_false (Nat.not_lt.2 c22)
      obtain rfl := Option.some.inj H
      go_enter Try.func45, Try.ntmps45
      try go_wp2_with (first | ((with_reducible refine gate_dst (N := 1) rfl ?_); refine box_event ?hg (N := 1) ?hd (cs := #[.string a0_0, .bool false, .slice A0_2 l0_2.length c0_2]) (t := 62) ?hr ?_; (case hd => rfl); (case hg => rfl); (case hr => first | (go_simp; done) | (go_simp; rfl)); intro gb101 hg w23 hbox hb; have n0_ := Aside0.mk (below_step (by repeat (first | (with_reducible first | exact HB.out | apply below_alloc | apply pw_below_drewN | apply below_drew1) | exact HB.out)) hb); have n1_ := Aside0.mk (hbox); have n2_ := Aside0.mk ((by rw [hg]; exact (below_size (by repeat (first | (with_reducible first | exact HB.out | apply below_alloc | apply pw_below_drewN | apply below_drew1) | exact HB.out))) : w.heap.size ≤ gb101)); have n3_ := Aside0.mk ((by rw [hg]; exact (below_size (by repeat (first | (with_reducible first | exact HB.out | apply below_alloc | apply pw_below_drewN | apply below_drew1) | exact HB.out))) : w.heap.size ≤ gb101)); clear HB; have HB := n0_; have BK101 := n1_; have GW101 := n2_; have GE101 := n3_; clear n0_ n1_ n2_ n3_; clear hb hbox hg; have hcz24_0 : w23.cell? ⟨gb101, 0, none⟩ = some (.string a0_0) := (blk_cell BK101.out 0).trans rfl; have hcz24_1 : w23.cell? ⟨gb101, 1, none⟩ = some (.bool false) := (blk_cell BK101.out 1).trans rfl; have hcz24_2 : w23.cell? ⟨gb101, 2, none⟩ = some (.slice A0_2 l0_2.length c0_2) := (blk_cell BK101.out 2).trans rfl; have hfz24_0 := blk_frozen BK101.out 0; have hfz24_1 := blk_frozen BK101.out 1; have hfz24_2 := blk_frozen BK101.out 2; have p17 : 0 ≤ (0 : Int) := (by omega); have q17 : 0 < a0_0.size := (by have : (0 : Int) < (a0_0.size : Int) := of_decide_eq_true (by first | (with_reducible assumption) | assumption); omega); have hx17 : ∀ h : 0 < a0_0.size, ((a0_0[0]'h).toNat : Int) = bt a0_0 0 := bt_at a0_0 0; clear p17; have qi17 : (0 < (a0_0.size : Int)) = True := eq_true (of_decide_eq_true (by first | (with_reducible assumption) | assumption)); replace q17 := eq_true q17))
      have n0_ := Aside0.mk (blk_drew BK101.out)
      have n1_ := Aside0.mk (below_drew1 HB.out)
      clear BK101
      clear HB
      have BK101 := n0_
      have HB := n1_
      clear n0_ n1_
      refine start_ (n := 8) (S := fun w' => w'.cell? ⟨gb101, 0, none⟩ = some (.string a0_0) ∧ w'.cell? ⟨gb101, 1, none⟩ = some (.bool false) ∧ w'.cell? ⟨gb101, 2, none⟩ = some (.slice A0_2 l0_2.length c0_2)) (ds := []) #[false, false, false, false, false, false, false, false] (by kernel_rfl) rfl rfl ⟨(blk_cell BK101.out 0).trans rfl, (blk_cell BK101.out 1).trans rfl, (blk_cell BK101.out 2).trans rfl⟩ (fun hHeld => ?_); refine with_tabW hatchwayref09_Put.tab10 hatchwayref09_Put.bits10 (fun HT_ HW_ => ?_)
      generalize w23.drew = w25 at BK101 HB hHeld ⊢
      refine pure_ (i := 0) (N := some 39) (v := ?_) (a' := ?_) #[true, false, false, false, false, false, false, false] rfl rfl (any_of HT_.out (by kernel_rfl)) (fun _ _ _ h => h) (Or.inl ⟨by rfl, ?_⟩) ?_ ?_
      rotate_left
      ·intro w'
       go_simp
       with_reducible rfl
      rotate_left
      ·simp only [Act.put, List.setIfInBounds_toArray, List.set_cons_zero, List.set_cons_succ, i64_w, i32_w]
       rfl
      refine pure_ (i := 4) (N := some 43) (v := ?_) (a' := ?_) #[true, false, false, false, true, false, false, false] rfl rfl (any_of HT_.out (by kernel_rfl)) (fun _ _ _ h => h) (Or.inl ⟨by rfl, ?_⟩) ?_ ?_
      rotate_left
      ·intro w'
       go_simp
       with_reducible rfl
      rotate_left
      ·simp only [Act.put, List.setIfInBounds_toArray, List.set_cons_zero, List.set_cons_succ, i64_w, i32_w]
       rfl
      refine take_ (i := 1) (N := some 40) (v := ?_) (a' := ?_) #[true, true, false, false, true, false, false, false] rfl rfl (take_ofW HT_.out HW_.out (by kernel_rfl)) (fun _ _ _ h => h) (Or.inl ⟨by rfl, ?_⟩) hHeld ?_ ?_
      rotate_left
      ·rintro w' ⟨s0, s1, s2⟩
       go_simp
       with_reducible rfl
      rotate_left
      ·simp only [Act.put, List.setIfInBounds_toArray, List.set_cons_zero, List.set_cons_succ, i64_w, i32_w]
       rfl
      refine pure_ (i := 2) (N := some 41) (v := ?_) (a' := ?_) #[true, true, true, false, true, false, false, false] rfl rfl (any_of HT_.out (by kernel_rfl)) (fun _ _ _ h => h) (Or.inl ⟨by rfl, ?_⟩) ?_ ?_
      rotate_left
      ·intro w'
       go_simp
       with_reducible rfl
      rotate_left
      ·simp only [Act.put, List.setIfInBounds_toArray, List.set_cons_zero, List.set_cons_succ, i64_w, i32_w]
       rfl
      refine take_ (i := 5) (N := some 44) (v := ?_) (a' := ?_) #[true, true, true, false, true, true, false, false] rfl rfl (take_ofW HT_.out HW_.out (by kernel_rfl)) (fun _ _ _ h => h) (Or.inl ⟨by rfl, ?_⟩) hHeld ?_ ?_
      rotate_left
      ·rintro w' ⟨s0, s1, s2⟩
       go_simp
       with_reducible rfl
      rotate_left
      ·simp only [Act.put, List.setIfInBounds_toArray, List.set_cons_zero, List.set_cons_succ, i64_w, i32_w]
       rfl
      refine one_ (i := 3) (N := some 42) #[true, true, true, true, true, true, false, false] rfl rfl (one_of HT_.out (by kernel_rfl)) (by decide) (fun K hK => ?_)
      refine goes_ Try.func81 (by kernel_rfl) rfl #[.int .i64 128, .int .i64 (a0_0.size : Int)] (by rfl) rfl rfl (by (try simp only [List.map_toArray, List.map_cons, List.map_nil]); first | done | rfl | (simp only [List.length_drop, List.length_take]; rfl)) ?_
      with_reducible refine (hatchwayref09_head.calls k 128 (a0_0.size : Int) t105 _ A21.out).mono ?_
      rintro e w26 ⟨rfl, hb⟩
      refine ⟨_, rfl, ?_⟩
      have n0_ := Aside0.mk (blk_below (g := gb101) (o := .cells #[.string a0_0, .bool false, .slice A0_2 l0_2.length c0_2] 62 (0, 0)) (by (with_reducible repeat (first | refine blk_drewN ?_ _ | refine blk_drew ?_ | refine blk_alloc ?_ _)); exact BK101.out) hb)
      have n1_ := Aside0.mk (below_step (by repeat (first | (with_reducible first | exact HB.out | apply below_alloc | apply pw_below_drewN | apply below_drew1 | refine below_set ?_ GE101.out) | exact HB.out)) hb)
      clear BK101
      clear HB
      have BK101 := n0_
      have HB := n1_
      clear n0_ n1_
      (try clear hb)
      (try clear hb2)
      (try clear hk)
      (try clear hi)
      refine hK.out _ _ ⟨(blk_cell BK101.out 0).trans rfl, (blk_cell BK101.out 1).trans rfl, (blk_cell BK101.out 2).trans rfl⟩ (fun hHeld => ?_)
      clear hK K
      refine norm_ (a' := ?_) ?_ ?_
      rotate_left
      ·show Act.put _ (some 42) _ = _
       simp only [Act.put, List.setIfInBounds_toArray, List.set_cons_zero, List.set_cons_succ, i64_w, i32_w]
       rfl
      refine pure_ (i := 6) (N := some 45) (v := ?_) (a' := ?_) #[true, true, true, true, true, true, true, false] rfl rfl (any_of HT_.out (by kernel_rfl)) (fun _ _ _ h => h) (Or.inl ⟨by rfl, ?_⟩) ?_ ?_
      rotate_left
      ·intro w'
       go_simp
       with_reducible rfl
      rotate_left
      ·simp only [Act.put, List.setIfInBounds_toArray, List.set_cons_zero, List.set_cons_succ, i64_w, i32_w]
       rfl
      refine pure_ (i := 7) (N := some 2) (v := ?_) (a' := ?_) #[true, true, true, true, true, true, true, true] rfl rfl (any_of HT_.out (by kernel_rfl)) (fun _ _ _ h => h) (Or.inl ⟨by rfl, ?_⟩) ?_ ?_
      rotate_left
      ·intro w'
       go_simp
       with_reducible rfl
      rotate_left
      ·simp only [Act.put, List.setIfInBounds_toArray, List.set_cons_zero, List.set_cons_succ, i64_w, i32_w]
       rfl
      refine done_ (done_of HT_.out (by kernel_rfl)) ?_
      try go_wp2
      go_ret
      exact ⟨by first | rfl | (simp [errW_none, errW_some] <;> rfl) | (simp [*, errW_none, errW_some] <;> rfl), by repeat (first | (with_reducible first | exact HB.out | apply below_alloc | apply pw_below_drewN | apply below_drew1 | refine below_set ?_ GE101.out) | exact HB.out)⟩
     ·rw [if_neg c22] at H
      exact absurd H (by simp)
   ·rw [if_neg c16] at H
    exact absurd H (by simp)
  ·rw [if_neg c15] at H
   have c15b0 : ((a0_0.size : Int) == 1) = false := beq_eq_false_iff_ne.mpr c15
   have c15b1 : ((a0_0.size : Int) != 1) = true := bne_iff_ne.mpr c15
   replace H := Option.bind_eq_some_iff.mp H
   obtain ⟨t106, A270, H⟩ := H
   replace H : (if t106.size + a0_0.size ≤ 9223372036854775807 then (some (t106 ++ a0_0)) else (none)) = some r := H
   have A27 := Aside0.mk A270
   clear A270
   by_cases c28 : t106.size + a0_0.size ≤ 9223372036854775807
   ·rw [if_pos c28] at H
    have c28b0 := eq_true c28
    have c28b1 : decide (t106.size + a0_0.size ≤ 9223372036854775807) = true := decide_eq_true c28
    try have c28b2 : (9223372036854775807 < t106.size + a0_0.size) = False := eq_false (Nat.not_lt.2 c28)
    obtain rfl := Option.some.inj H
    go_enter Try.func45, Try.ntmps45
    try go_wp2_with (first | ((with_reducible refine gate_dst (N := 1) rfl ?_); refine box_event ?hg (N := 1) ?hd (cs := #[.string a0_0, .bool false, .slice A0_2 l0_2.length c0_2]) (t := 62) ?hr ?_; (case hd => rfl); (case hg => rfl); (case hr => first | (go_simp; done) | (go_simp; rfl)); intro gb101 hg w29 hbox hb; have n0_ := Aside0.mk (below_step (by repeat (first | (with_reducible first | exact HB.out | apply below_alloc | apply pw_below_drewN | apply below_drew1) | exact HB.out)) hb); have n1_ := Aside0.mk (hbox); have n2_ := Aside0.mk ((by rw [hg]; exact (below_size (by repeat (first | (with_reducible first | exact HB.out | apply below_alloc | apply pw_below_drewN | apply below_drew1) | exact HB.out))) : w.heap.size ≤ gb101)); have n3_ := Aside0.mk ((by rw [hg]; exact (below_size (by repeat (first | (with_reducible first | exact HB.out | apply below_alloc | apply pw_below_drewN | apply below_drew1) | exact HB.out))) : w.heap.size ≤ gb101)); clear HB; have HB := n0_; have BK101 := n1_; have GW101 := n2_; have GE101 := n3_; clear n0_ n1_ n2_ n3_; clear hb hbox hg; have hcz30_0 : w29.cell? ⟨gb101, 0, none⟩ = some (.string a0_0) := (blk_cell BK101.out 0).trans rfl; have hcz30_1 : w29.cell? ⟨gb101, 1, none⟩ = some (.bool false) := (blk_cell BK101.out 1).trans rfl; have hcz30_2 : w29.cell? ⟨gb101, 2, none⟩ = some (.slice A0_2 l0_2.length c0_2) := (blk_cell BK101.out 2).trans rfl; have hfz30_0 := blk_frozen BK101.out 0; have hfz30_1 := blk_frozen BK101.out 1; have hfz30_2 := blk_frozen BK101.out 2))
    have n0_ := Aside0.mk (blk_drew BK101.out)
    have n1_ := Aside0.mk (below_drew1 HB.out)
    clear BK101
    clear HB
    have BK101 := n0_
    have HB := n1_
    clear n0_ n1_
    refine start_ (n := 8) (S := fun w' => w'.cell? ⟨gb101, 0, none⟩ = some (.string a0_0) ∧ w'.cell? ⟨gb101, 1, none⟩ = some (.bool false) ∧ w'.cell? ⟨gb101, 2, none⟩ = some (.slice A0_2 l0_2.length c0_2)) (ds := []) #[false, false, false, false, false, false, false, false] (by kernel_rfl) rfl rfl ⟨(blk_cell BK101.out 0).trans rfl, (blk_cell BK101.out 1).trans rfl, (blk_cell BK101.out 2).trans rfl⟩ (fun hHeld => ?_); refine with_tabW hatchwayref09_Put.tab10 hatchwayref09_Put.bits10 (fun HT_ HW_ => ?_)
    generalize w29.drew = w31 at BK101 HB hHeld ⊢
    refine pure_ (i := 0) (N := some 39) (v := ?_) (a' := ?_) #[true, false, false, false, false, false, false, false] rfl rfl (any_of HT_.out (by kernel_rfl)) (fun _ _ _ h => h) (Or.inl ⟨by rfl, ?_⟩) ?_ ?_
    rotate_left
    ·intro w'
     go_simp
     with_reducible rfl
    rotate_left
    ·simp only [Act.put, List.setIfInBounds_toArray, List.set_cons_zero, List.set_cons_succ, i64_w, i32_w]
     rfl
    refine pure_ (i := 4) (N := some 43) (v := ?_) (a' := ?_) #[true, false, false, false, true, false, false, false] rfl rfl (any_of HT_.out (by kernel_rfl)) (fun _ _ _ h => h) (Or.inl ⟨by rfl, ?_⟩) ?_ ?_
    rotate_left
    ·intro w'
     go_simp
     with_reducible rfl
    rotate_left
    ·simp only [Act.put, List.setIfInBounds_toArray, List.set_cons_zero, List.set_cons_succ, i64_w, i32_w]
     rfl
    refine take_ (i := 1) (N := some 40) (v := ?_) (a' := ?_) #[true, true, false, false, true, false, false, false] rfl rfl (take_ofW HT_.out HW_.out (by kernel_rfl)) (fun _ _ _ h => h) (Or.inl ⟨by rfl, ?_⟩) hHeld ?_ ?_
    rotate_left
    ·rintro w' ⟨s0, s1, s2⟩
     go_simp
     with_reducible rfl
    rotate_left
    ·simp only [Act.put, List.setIfInBounds_toArray, List.set_cons_zero, List.set_cons_succ, i64_w, i32_w]
     rfl
    refine pure_ (i := 2) (N := some 41) (v := ?_) (a' := ?_) #[true, true, true, false, true, false, false, false] rfl rfl (any_of HT_.out (by kernel_rfl)) (fun _ _ _ h => h) (Or.inl ⟨by rfl, ?_⟩) ?_ ?_
    rotate_left
    ·intro w'
     go_simp
     with_reducible rfl
    rotate_left
    ·simp only [Act.put, List.setIfInBounds_toArray, List.set_cons_zero, List.set_cons_succ, i64_w, i32_w]
     rfl
    refine take_ (i := 5) (N := some 44) (v := ?_) (a' := ?_) #[true, true, true, false, true, true, false, false] rfl rfl (take_ofW HT_.out HW_.out (by kernel_rfl)) (fun _ _ _ h => h) (Or.inl ⟨by rfl, ?_⟩) hHeld ?_ ?_
    rotate_left
    ·rintro w' ⟨s0, s1, s2⟩
     go_simp
     with_reducible rfl
    rotate_left
    ·simp only [Act.put, List.setIfInBounds_toArray, List.set_cons_zero, List.set_cons_succ, i64_w, i32_w]
     rfl
    refine one_ (i := 3) (N := some 42) #[true, true, true, true, true, true, false, false] rfl rfl (one_of HT_.out (by kernel_rfl)) (by decide) (fun K hK => ?_)
    refine goes_ Try.func81 (by kernel_rfl) rfl #[.int .i64 128, .int .i64 (a0_0.size : Int)] (by rfl) rfl rfl (by (try simp only [List.map_toArray, List.map_cons, List.map_nil]); first | done | rfl | (simp only [List.length_drop, List.length_take]; rfl)) ?_
    with_reducible refine (hatchwayref09_head.calls k 128 (a0_0.size : Int) t106 _ A27.out).mono ?_
    rintro e w32 ⟨rfl, hb⟩
    refine ⟨_, rfl, ?_⟩
    have n0_ := Aside0.mk (blk_below (g := gb101) (o := .cells #[.string a0_0, .bool false, .slice A0_2 l0_2.length c0_2] 62 (0, 0)) (by (with_reducible repeat (first | refine blk_drewN ?_ _ | refine blk_drew ?_ | refine blk_alloc ?_ _)); exact BK101.out) hb)
    have n1_ := Aside0.mk (below_step (by repeat (first | (with_reducible first | exact HB.out | apply below_alloc | apply pw_below_drewN | apply below_drew1 | refine below_set ?_ GE101.out) | exact HB.out)) hb)
    clear BK101
    clear HB
    have BK101 := n0_
    have HB := n1_
    clear n0_ n1_
    (try clear hb)
    (try clear hb2)
    (try clear hk)
    (try clear hi)
    refine hK.out _ _ ⟨(blk_cell BK101.out 0).trans rfl, (blk_cell BK101.out 1).trans rfl, (blk_cell BK101.out 2).trans rfl⟩ (fun hHeld => ?_)
    clear hK K
    refine norm_ (a' := ?_) ?_ ?_
    rotate_left
    ·show Act.put _ (some 42) _ = _
     simp only [Act.put, List.setIfInBounds_toArray, List.set_cons_zero, List.set_cons_succ, i64_w, i32_w]
     rfl
    refine pure_ (i := 6) (N := some 45) (v := ?_) (a' := ?_) #[true, true, true, true, true, true, true, false] rfl rfl (any_of HT_.out (by kernel_rfl)) (fun _ _ _ h => h) (Or.inl ⟨by rfl, ?_⟩) ?_ ?_
    rotate_left
    ·intro w'
     go_simp
     with_reducible rfl
    rotate_left
    ·simp only [Act.put, List.setIfInBounds_toArray, List.set_cons_zero, List.set_cons_succ, i64_w, i32_w]
     rfl
    refine pure_ (i := 7) (N := some 2) (v := ?_) (a' := ?_) #[true, true, true, true, true, true, true, true] rfl rfl (any_of HT_.out (by kernel_rfl)) (fun _ _ _ h => h) (Or.inl ⟨by rfl, ?_⟩) ?_ ?_
    rotate_left
    ·intro w'
     go_simp
     with_reducible rfl
    rotate_left
    ·simp only [Act.put, List.setIfInBounds_toArray, List.set_cons_zero, List.set_cons_succ, i64_w, i32_w]
     rfl
    refine done_ (done_of HT_.out (by kernel_rfl)) ?_
    try go_wp2
    go_ret
    exact ⟨by first | rfl | (simp [errW_none, errW_some] <;> rfl) | (simp [*, errW_none, errW_some] <;> rfl), by repeat (first | (with_reducible first | exact HB.out | apply below_alloc | apply pw_below_drewN | apply below_drew1 | refine below_set ?_ GE101.out) | exact HB.out)⟩
   ·rw [if_neg c28] at H
    exact absurd H (by simp)
end Go.Proofs.Yteoibgpkimlahaa.P
end
section
namespace Go.Proofs.Yteoibgpkimlahaa.P
open Go.RowKit Go.Proofs.YteoibgpkimlahaaW.PrintWords Go.Proofs.YteoibgpkimlahaaW.PrintLast Go.Proofs.YteoibgpkimlahaaW.PrintMore
attribute [local go_sem] max2_int min2_int max_two min_two max_three min_three max_four min_four   
set_option linter.unusedVariables false
set_option linter.unusedSimpArgs false
def hatchwayref32_number.f (k : Nat) (a0 : Int) : Option (ByteArray × Bool × (List (S62))) := (hatchwayref02_Least.f k (IntKind.u64.wrap (a0))).bind fun t102 => (some (t102, false, ([] : List (S62))))
theorem hatchwayref32_number.mono : ∀ a0 k, LeO (hatchwayref32_number.f k a0) (hatchwayref32_number.f (k + 1) a0) := by
 intro a0 k
 unfold hatchwayref32_number.f
 repeat' first
   | (with_reducible exact hatchwayref02_Least.mono _ _)
   | (with_reducible exact LeO.refl _)
   | (with_reducible exact LeO.none _)
   | (with_reducible refine LeO.ite ?_ ?_)
   | (with_reducible refine LeO.bind ?_ (fun _ => ?_))
   | exact hatchwayref02_Least.mono _ _
   | exact LeO.none _
   | refine LeO.ite ?_ ?_
   | refine LeO.bind ?_ (fun _ => ?_)
set_option maxHeartbeats 8000000 in
set_option maxRecDepth 100000 in
theorem hatchwayref32_number.calls (k : Nat) (a0 : Int) (r1 : ByteArray) (r2 : Bool) (r3 : List (S62)) (w : World) (h : hatchwayref32_number.f k a0 = some (r1, r2, r3)) :
  Calls Try.prog 93 #[.int .i64 a0] w fun e w' => ∃ v2_ : Value, e = .returned (.agg #[.string r1, .bool r2, v2_]) ∧ Kd.R k62 62 w' w.heap.size (fun _ => True) v2_ r3 ∧ Below w.heap.size w w' := by
 have hu62 := Try.underlying62
 have HB := Aside0.mk (Below.refl w.heap.size w)
 have H : ((hatchwayref02_Least.f k (IntKind.u64.wrap (a0))).bind fun t102 => (some (t102, false, ([] : List (S62))))) = some (r1, r2, r3) := h
 clear h
 replace H := Option.bind_eq_some_iff.mp H
 obtain ⟨t102, A20, H⟩ := H
 replace H : (some (t102, false, ([] : List (S62)))) = some (r1, r2, r3) := H
 have A2 := Aside0.mk A20
 clear A20
 simp only [Option.some.injEq, Prod.mk.injEq] at H
 obtain ⟨rfl, rfl, rfl⟩ := H
 go_enter Try.func93, Try.ntmps93
 go_wp2_with (first | ((with_reducible refine gate_dst (N := 2) rfl ?_); refine box_event ?hg (N := 2) ?hd (cs := #[.string (⟨#[]⟩ : ByteArray), .bool false, .slice none 0 0]) (t := 62) ?hr ?_; (case hd => rfl); (case hg => rfl); (case hr => first | (go_simp; done) | (go_simp; rfl)); intro gb101 hg w3 hbox hb; have n0_ := Aside0.mk (below_step (by repeat (first | (with_reducible first | exact HB.out | apply below_alloc | apply pw_below_drewN | apply below_drew1) | exact HB.out)) hb); have n1_ := Aside0.mk (hbox); have n2_ := Aside0.mk ((by rw [hg]; exact (below_size (by repeat (first | (with_reducible first | exact HB.out | apply below_alloc | apply pw_below_drewN | apply below_drew1) | exact HB.out))) : w.heap.size ≤ gb101)); have n3_ := Aside0.mk ((by rw [hg]; exact (below_size (by repeat (first | (with_reducible first | exact HB.out | apply below_alloc | apply pw_below_drewN | apply below_drew1) | exact HB.out))) : w.heap.size ≤ gb101)); clear HB; have HB := n0_; have BK101 := n1_; have GW101 := n2_; have GE101 := n3_; clear n0_ n1_ n2_ n3_; clear hb hbox hg) | ((with_reducible refine gate_callee (f := 19) rfl ?_); refine goesL_ (some 5) rfl rfl Try.func19 (by kernel_rfl) rfl #[.int .u64 (IntKind.u64.wrap (a0))] rfl (by (try simp only [List.map_toArray, List.map_cons, List.map_nil]); first | done | rfl | (simp only [List.length_drop, List.length_take]; rfl)) ?_; (with_reducible refine (hatchwayref02_Least.calls k (IntKind.u64.wrap (a0)) t102 _ A2.out).mono ?_); rintro e w4 ⟨rfl, hb⟩; refine ⟨_, rfl, ?_⟩; have n0_ := Aside0.mk (blk_below (g := gb101) (o := .cells #[.string (⟨#[]⟩ : ByteArray), .bool false, .slice none 0 0] 62 (0, 0)) (by (with_reducible repeat (first | refine blk_drewN ?_ _ | refine blk_drew ?_ | refine blk_alloc ?_ _)); exact BK101.out) hb); have n1_ := Aside0.mk (below_step (by repeat (first | (with_reducible first | exact HB.out | apply below_alloc | apply pw_below_drewN | apply below_drew1 | refine below_set ?_ GE101.out) | exact HB.out)) hb); clear BK101; clear HB; have BK101 := n0_; have HB := n1_; clear n0_ n1_; (try clear hb); (try clear hb2); (try clear hk); (try clear hi); have hcz5_0 : w4.cell? ⟨gb101, 0, none⟩ = some (.string (⟨#[]⟩ : ByteArray)) := (blk_cell BK101.out 0).trans rfl; have hcz5_1 : w4.cell? ⟨gb101, 1, none⟩ = some (.bool false) := (blk_cell BK101.out 1).trans rfl; have hcz5_2 : w4.cell? ⟨gb101, 2, none⟩ = some (.slice none 0 0) := (blk_cell BK101.out 2).trans rfl; have hfz5_0 := blk_frozen BK101.out 0; have hfz5_1 := blk_frozen BK101.out 1; have hfz5_2 := blk_frozen BK101.out 2))
 refine bodyPost_ret (results_cell_row rfl _ _ gb101 62 #[.string t102, .bool false, .slice none 0 0] (0, 0) _ rfl (by (with_reducible repeat (first | refine blk_drewN ?_ _ | refine blk_drew ?_ | refine blk_alloc ?_ _)); refine blk_put (cs := #[.string t102, .bool false, .slice none 0 0]) ?_ 2 _ rfl; (with_reducible repeat (first | refine blk_drewN ?_ _ | refine blk_drew ?_ | refine blk_alloc ?_ _)); refine blk_put (cs := #[.string t102, .bool false, .slice none 0 0]) ?_ 1 _ rfl; (with_reducible repeat (first | refine blk_drewN ?_ _ | refine blk_drew ?_ | refine blk_alloc ?_ _)); refine blk_put (cs := #[.string (⟨#[]⟩ : ByteArray), .bool false, .slice none 0 0]) ?_ 0 _ rfl; (with_reducible repeat (first | refine blk_drewN ?_ _ | refine blk_drew ?_ | refine blk_alloc ?_ _)); exact BK101.out) Try.underlying62 rfl (by kernel_rfl)) rfl ?_
 exact ⟨_, by first | rfl | (simp [errW_none, errW_some] <;> rfl) | (simp [*, errW_none, errW_some] <;> rfl), by first | exact Kd.R_nil _ _ _ _ _ | exact Kd.N_nil _ _ _ _ _ | exact Kd.V_nil _ _ _ _ _ | exact Kd.Q_nil _ _ _ _ _ | exact Kd.S_nil _ _ _ _ _, by repeat (first | (with_reducible first | exact HB.out | apply below_alloc | apply pw_below_drewN | apply below_drew1 | refine below_set ?_ GE101.out) | exact HB.out)⟩
end Go.Proofs.Yteoibgpkimlahaa.P
end
section
namespace Go.Proofs.Yteoibgpkimlahaa.P
open Go.RowKit Go.Proofs.YteoibgpkimlahaaW.PrintWords Go.Proofs.YteoibgpkimlahaaW.PrintLast Go.Proofs.YteoibgpkimlahaaW.PrintMore
attribute [local go_sem] max2_int min2_int max_two min_two max_three min_three max_four min_four   
set_option linter.unusedVariables false
set_option linter.unusedSimpArgs false
def hatchwayref32_Put.l0 : Nat → Int → Int → Int → List (S58) → ByteArray → Bool → List (S62) → Option (ByteArray)
 | 0, _, _, _, _, _, _, _ => none
 | k + 1, x4, x102000, x102001, x102002, x103000, x103001, x103002 => if x4 < (x102002.length : Int) then (if 0 ≤ x4 then ((hatchwayref32_number.f k ((rd_T58 x102002 x4).f1)).bind fun bt105 => (if x103002.length < 2932031007402 then (hatchwayref32_Put.l0 k (wrap64 (x4 + 1)) x102000 x102001 x102002 x103000 x103001 (x103002 ++ [(⟨(⟨#[]⟩ : ByteArray), true, (([(⟨(rd_T58 x102002 x4).f0, false, ([] : List (S62))⟩ : S62), (⟨bt105.1, bt105.2.1, bt105.2.2⟩ : S62)] : List (S62)))⟩ : S62)])) else (none))) else (none)) else ((hatchwayref32_number.f k x102000).bind fun bt116 => ((hatchwayref32_number.f k x102001).bind fun bt121 => ((hatchwayref09_Put.f k (⟨#[]⟩ : ByteArray) true (([(⟨bt116.1, bt116.2.1, bt116.2.2⟩ : S62), (⟨bt121.1, bt121.2.1, bt121.2.2⟩ : S62), (⟨x103000, x103001, x103002⟩ : S62)] : List (S62)))).bind fun t129 => (some t129))))
def hatchwayref32_Put.f (k : Nat) (a0_0 : Int) (a0_1 : Int) (l0_2 : List (S58)) : Option (ByteArray) := hatchwayref32_Put.l0 k 0 a0_0 a0_1 l0_2 (⟨#[]⟩ : ByteArray) true ([] : List (S62))
theorem hatchwayref32_Put.mono_l : ∀ k, (∀ y0 y1 y2 y3 y4 y5 y6, LeO (hatchwayref32_Put.l0 k y0 y1 y2 y3 y4 y5 y6) (hatchwayref32_Put.l0 (k + 1) y0 y1 y2 y3 y4 y5 y6))
 | 0 => fun _ _ _ _ _ _ _ r h => by simp [hatchwayref32_Put.l0] at h
 | k + 1 => by
  have ih0 := hatchwayref32_Put.mono_l k
  ·intro y0 y1 y2 y3 y4 y5 y6
   unfold hatchwayref32_Put.l0
   repeat' first
   | (with_reducible exact ih0 _ _ _ _ _ _ _)
   | (with_reducible exact hatchwayref09_Put.mono _ _ _ _)
   | (with_reducible exact hatchwayref32_number.mono _ _)
   | (with_reducible exact LeO.refl _)
   | (with_reducible exact LeO.none _)
   | (with_reducible refine LeO.ite ?_ ?_)
   | (with_reducible refine LeO.bind ?_ (fun _ => ?_))
   | exact ih0 _ _ _ _ _ _ _
   | exact hatchwayref09_Put.mono _ _ _ _
   | exact hatchwayref32_number.mono _ _
   | exact LeO.none _
   | refine LeO.ite ?_ ?_
   | refine LeO.bind ?_ (fun _ => ?_)
theorem hatchwayref32_Put.mono : ∀ a0 a1 a2 k, LeO (hatchwayref32_Put.f k a0 a1 a2) (hatchwayref32_Put.f (k + 1) a0 a1 a2) := by
 intro a0 a1 a2 k
 have ih0 := hatchwayref32_Put.mono_l k
 unfold hatchwayref32_Put.f
 repeat' first
   | (with_reducible exact ih0 _ _ _ _ _ _ _)
   | (with_reducible exact hatchwayref09_Put.mono _ _ _ _)
   | (with_reducible exact hatchwayref32_number.mono _ _)
   | (with_reducible exact LeO.refl _)
   | (with_reducible exact LeO.none _)
   | (with_reducible refine LeO.ite ?_ ?_)
   | (with_reducible refine LeO.bind ?_ (fun _ => ?_))
   | exact ih0 _ _ _ _ _ _ _
   | exact hatchwayref09_Put.mono _ _ _ _
   | exact hatchwayref32_number.mono _ _
   | exact LeO.none _
   | refine LeO.ite ?_ ?_
   | refine LeO.bind ?_ (fun _ => ?_)
def hatchwayref32_Put.T5 : Bool × List (List Nat × List Nat) := (true, [([], []), ([0], [0]), ([], []), ([2], [2]), ([], []), ([3, 4], [3, 4]), ([5], [5]), ([6], [6]), ([7], [7]), ([], []), ([9], [9]), ([], []), ([10, 11], [10, 11]), ([12], [12]), ([13], [13]), ([14], [14]), ([8, 15], [8, 15]), ([16], [16]), ([17], [17]), ([1, 18, 15], [1, 18]), ([0, 1, 2, 3, 4, 5, 6, 7, 8, 9, 10, 11, 12, 13, 14, 15, 16, 17, 18, 19], []), ([20, 19, 19, 0, 1, 2, 3, 4, 5, 6, 7, 8, 9, 10, 11, 12, 13, 14, 15, 16, 17, 18, 19], [19, 20])])
def hatchwayref32_Put.B5 : List Nat := [0, 1, 0, 4, 0, 28, 60, 124, 252, 0, 512, 0, 3584, 7680, 15872, 32256, 65532, 131068, 262140, 524287, 1048575, 2097151]
theorem hatchwayref32_Put.tab5 : rtab .any (opsOf Try.f59 5) = hatchwayref32_Put.T5 := by kernel_rfl
theorem hatchwayref32_Put.bits5 : waitsOk hatchwayref32_Put.T5.2 hatchwayref32_Put.B5 = true := by kernel_rfl
def hatchwayref32_Put.T6 : Bool × List (List Nat × List Nat) := (true, [([], []), ([0], [0]), ([1], [1]), ([], []), ([3], [3]), ([4, 2], [4]), ([], []), ([2, 5, 6], [2, 5, 6]), ([7], [7]), ([8, 5], [8]), ([9, 9, 0, 1, 2, 3, 4, 5, 6, 7, 8, 9], [9])])
def hatchwayref32_Put.B6 : List Nat := [0, 1, 3, 0, 8, 31, 0, 127, 255, 511, 1023]
theorem hatchwayref32_Put.tab6 : rtab .any (opsOf Try.f59 6) = hatchwayref32_Put.T6 := by kernel_rfl
theorem hatchwayref32_Put.bits6 : waitsOk hatchwayref32_Put.T6.2 hatchwayref32_Put.B6 = true := by kernel_rfl
set_option maxHeartbeats 8000000 in
set_option maxRecDepth 100000 in
theorem hatchwayref32_Put.calls (k : Nat) (a0_0 : Int) (a0_1 : Int) (A0_2 : Option Addr) (c0_2 : Nat) (l0_2 : List (S58)) (r : ByteArray) (w : World) (hr0_2 : Kd.C k58 w A0_2 l0_2.length l0_2) (hc0_2 : l0_2.length ≤ c0_2) (h : hatchwayref32_Put.f k a0_0 a0_1 l0_2 = some r) :
  Calls Try.prog 59 #[.agg #[.int .i64 a0_0, .int .i64 a0_1, .slice A0_2 l0_2.length c0_2]] w fun e w' => e = .returned (.string r) ∧ Below w.heap.size w w' := by
 have hu39 := Try.underlying39
 have hu62 := Try.underlying62
 have HR0_2 := A0 hr0_2
 have HC0_2 := A0 hc0_2
 clear hr0_2 hc0_2
 have HB := A0 (Below.refl w.heap.size w)
 have H : (hatchwayref32_Put.l0 k 0 a0_0 a0_1 l0_2 (⟨#[]⟩ : ByteArray) true ([] : List (S62))) = some r := h
 clear h
 have H' := A0 H
 clear H
 go_enter Try.func59, Try.ntmps59
 go_wp2_with (first | ((with_reducible refine gate_dst (N := 1) rfl ?_); refine box_event ?hg (N := 1) ?hd (cs := #[.int .i64 a0_0, .int .i64 a0_1, .slice A0_2 l0_2.length c0_2]) (t := 39) ?hr ?_; (case hd => rfl); (case hg => rfl); (case hr => first | (go_simp; done) | (go_simp; rfl)); intro gb101 hg w2 hbox hb; have n0_ := A0 (below_step (by repeat (first | (with_reducible first | exact HB.out | apply below_alloc | apply pw_below_drewN | apply below_drew1) | exact HB.out)) hb); have n1_ := A0 (hbox); have n2_ := A0 ((by rw [hg]; exact (below_size (by repeat (first | (with_reducible first | exact HB.out | apply below_alloc | apply pw_below_drewN | apply below_drew1) | exact HB.out))) : w.heap.size ≤ gb101)); have n3_ := A0 ((by rw [hg]; exact (below_size (by repeat (first | (with_reducible first | exact HB.out | apply below_alloc | apply pw_below_drewN | apply below_drew1) | exact HB.out))) : w.heap.size ≤ gb101)); clear HB; have HB := n0_; have BK101 := n1_; have GW101 := n2_; have GE101 := n3_; clear n0_ n1_ n2_ n3_; clear hb hbox hg) | ((with_reducible refine gate_dst (N := 3) rfl ?_); refine box_event ?hg (N := 3) ?hd (cs := #[.string (⟨#[]⟩ : ByteArray), .bool false, .slice none 0 0]) (t := 62) ?hr ?_; (case hd => rfl); (case hg => rfl); (case hr => first | (go_simp; done) | (go_simp; rfl)); intro gb102 hg w3 hbox hb; have n0_ := A0 (blk_below (bS BK101.out) hb); have n1_ := A0 (below_step (lS HB.out) hb); have n2_ := A0 (hbox); have n3_ := A0 ((by rw [hg]; exact (below_size (lS HB.out)) : w.heap.size ≤ gb102)); have n4_ := A0 ((by rw [hg]; exact (below_size (lS HB.out)) : w.heap.size ≤ gb102)); have n5_ := A0 ((by rw [hg]; exact Nat.ne_of_lt (blk_lt (g := gb101) (o := .cells #[.int .i64 a0_0, .int .i64 a0_1, .slice A0_2 l0_2.length c0_2] 39 (0, 0)) (bS BK101.out)) : gb101 ≠ gb102)); have n6_ := A0 ((by rw [hg]; exact Nat.ne_of_gt (blk_lt (g := gb101) (o := .cells #[.int .i64 a0_0, .int .i64 a0_1, .slice A0_2 l0_2.length c0_2] 39 (0, 0)) (bS BK101.out)) : gb102 ≠ gb101)); clear BK101; clear HB; have BK101 := n0_; have HB := n1_; have BK102 := n2_; have GW102 := n3_; have GE102 := n4_; have NB101_102 := n5_; have NB102_101 := n6_; clear n0_ n1_ n2_ n3_ n4_ n5_ n6_; clear hb hbox hg; have hnb4 := NB102_101.out; have hnc4 := NB101_102.out; have hcz5_0 : w3.cell? ⟨gb102, 0, none⟩ = some (.string (⟨#[]⟩ : ByteArray)) := bc BK102.out 0; have hcz5_1 : w3.cell? ⟨gb102, 1, none⟩ = some (.bool false) := bc BK102.out 1; have hcz5_2 : w3.cell? ⟨gb102, 2, none⟩ = some (.slice none 0 0) := bc BK102.out 2; have hfz5_0 := blk_frozen BK102.out 0; have hfz5_1 := blk_frozen BK102.out 1; have hfz5_2 := blk_frozen BK102.out 2))
 go_loopg [4] k (fun kq v4 w' => ∃ (x4_1 : Int) (x103002_1 : List (S62)) (u103002 : Value), v4 = .int .i64 x4_1 ∧ Aside0 (hatchwayref32_Put.l0 kq x4_1 a0_0 a0_1 l0_2 (⟨#[]⟩ : ByteArray) true x103002_1 = some r) ∧ Aside0 (kq ≤ k) ∧ Aside0 (Kd.N k62 62 w' w.heap.size (fun k_ => k_ ≠ gb101 ∧ k_ ≠ gb102) u103002 x103002_1) ∧ Aside0 (w'.heap[gb101]? = some (.cells #[.int .i64 a0_0, .int .i64 a0_1, (.slice A0_2 l0_2.length c0_2)] 39 (0, 0))) ∧ Aside0 (w'.heap[gb102]? = some (.cells #[.string (⟨#[]⟩ : ByteArray), .bool true, u103002] 62 (0, 0))) ∧ Aside0 (Below w.heap.size w w'))
 case atStart => exact ⟨(0), (([] : List (S62))), (.slice none 0 0), (by first | rfl | (simp; done) | (simp [*]; done)), H', ⟨Nat.le_refl _⟩, ⟨by first | exact Kd.R_nil _ _ _ _ _ | exact Kd.N_nil _ _ _ _ _ | exact Kd.V_nil _ _ _ _ _ | exact Kd.Q_nil _ _ _ _ _ | exact Kd.S_nil _ _ _ _ _⟩, ⟨by (with_reducible repeat (first | refine blk_drewN ?_ _ | refine blk_drew ?_ | refine blk_alloc ?_ _)); refine blk_far ?_ NB101_102.out _; (with_reducible repeat (first | refine blk_drewN ?_ _ | refine blk_drew ?_ | refine blk_alloc ?_ _)); refine blk_far ?_ NB101_102.out _; (with_reducible repeat (first | refine blk_drewN ?_ _ | refine blk_drew ?_ | refine blk_alloc ?_ _)); refine blk_far ?_ NB101_102.out _; (with_reducible repeat (first | refine blk_drewN ?_ _ | refine blk_drew ?_ | refine blk_alloc ?_ _)); exact BK101.out⟩, ⟨by (with_reducible repeat (first | refine blk_drewN ?_ _ | refine blk_drew ?_ | refine blk_alloc ?_ _)); refine blk_put (cs := #[.string (⟨#[]⟩ : ByteArray), .bool true, .slice none 0 0]) ?_ 2 _ rfl; (with_reducible repeat (first | refine blk_drewN ?_ _ | refine blk_drew ?_ | refine blk_alloc ?_ _)); refine blk_put (cs := #[.string (⟨#[]⟩ : ByteArray), .bool false, .slice none 0 0]) ?_ 1 _ rfl; (with_reducible repeat (first | refine blk_drewN ?_ _ | refine blk_drew ?_ | refine blk_alloc ?_ _)); refine blk_put (cs := #[.string (⟨#[]⟩ : ByteArray), .bool false, .slice none 0 0]) ?_ 0 _ rfl; (with_reducible repeat (first | refine blk_drewN ?_ _ | refine blk_drew ?_ | refine blk_alloc ?_ _)); exact BK102.out⟩, ⟨by repeat (first | (with_reducible first | exact HB.out | apply below_alloc | apply pw_below_drewN | apply below_drew1 | refine below_set ?_ GE101.out | refine below_set ?_ GE102.out) | exact HB.out)⟩⟩
 case round =>
  clear H'
  try clear p2
  try clear c4
  try clear c5
  try clear hcz5_0
  try clear hcz5_1
  try clear hcz5_2
  try clear hfz5_0
  try clear hfz5_1
  try clear hfz5_2
  obtain ⟨x4_1, x103002_1, u103002, rfl, HA, HK1, HO_103002, BK101, BK102, HB⟩ := hrel
  cases gk with
  | zero => exact absurd HA.out (by simp [hatchwayref32_Put.l0])
  | succ k1 =>
   have H := HA.out
   clear HA
   simp only [hatchwayref32_Put.l0] at H
   by_cases c6 : x4_1 < (l0_2.length : Int)
   ·rw [if_pos c6] at H
    have c6b0 : decide (x4_1 < (l0_2.length : Int)) = true := decide_eq_true c6
    clear c6
    by_cases c7 : 0 ≤ x4_1
    rotate_left
    ·rw [if_neg c7] at H
     exact absurd H (by simp)
    rw [if_pos c7] at H
    have c7b0 : decide (0 ≤ x4_1) = true := decide_eq_true c7
    clear c7
    replace H := Option.bind_eq_some_iff.mp H
    obtain ⟨⟨t105, t106, t107⟩, A80, H⟩ := H
    replace H : (if x103002_1.length < 2932031007402 then (hatchwayref32_Put.l0 k1 (wrap64 (x4_1 + 1)) a0_0 a0_1 l0_2 (⟨#[]⟩ : ByteArray) true (x103002_1 ++ [(⟨(⟨#[]⟩ : ByteArray), true, (([(⟨(rd_T58 l0_2 x4_1).f0, false, ([] : List (S62))⟩ : S62), (⟨t105, t106, t107⟩ : S62)] : List (S62)))⟩ : S62)])) else (none)) = some r := H
    have A8 := A0 A80
    clear A80
    obtain ⟨y110, hy110⟩ : ∃ y_ : List (S62), y_ = (([(⟨(rd_T58 l0_2 x4_1).f0, false, ([] : List (S62))⟩ : S62), (⟨t105, t106, t107⟩ : S62)] : List (S62))) := ⟨_, rfl⟩
    replace H : (if x103002_1.length < 2932031007402 then (hatchwayref32_Put.l0 k1 (wrap64 (x4_1 + 1)) a0_0 a0_1 l0_2 (⟨#[]⟩ : ByteArray) true (x103002_1 ++ [(⟨(⟨#[]⟩ : ByteArray), true, y110⟩ : S62)])) else (none)) = some r := by first | (rw [hy110]; with_reducible exact H) | (have H2_ := (Option.bind_some _ _).symm.trans H; rw [hy110]; with_reducible exact H2_) | (have H2_ := (Option.bind_some _ _).symm.trans H; with_reducible exact H2_) | with_reducible exact H | (rw [hy110]; exact H) | exact H
    have Ny110 := A0 hy110
    clear hy110
    by_cases c9 : x103002_1.length < 2932031007402
    rotate_left
    ·rw [if_neg c9] at H
     exact absurd H (by simp)
    rw [if_pos c9] at H
    have LMc9 := A0 c9
    clear c9
    obtain ⟨y113, hy113⟩ : ∃ y_ : List (S62), y_ = (x103002_1 ++ [(⟨(⟨#[]⟩ : ByteArray), true, y110⟩ : S62)]) := ⟨_, rfl⟩
    replace H : (hatchwayref32_Put.l0 k1 (wrap64 (x4_1 + 1)) a0_0 a0_1 l0_2 (⟨#[]⟩ : ByteArray) true y113) = some r := by first | (rw [hy113]; with_reducible exact H) | (have H2_ := (Option.bind_some _ _).symm.trans H; rw [hy113]; with_reducible exact H2_) | (have H2_ := (Option.bind_some _ _).symm.trans H; with_reducible exact H2_) | with_reducible exact H | (rw [hy113]; exact H) | exact H
    have Ny113 := A0 hy113
    clear hy113
    have H' := A0 H
    clear H
    have hnb10 := NB101_102.out
    have hnc10 := NB102_101.out
    have hcz11_0 : wr.cell? ⟨gb101, 0, none⟩ = some (.int .i64 a0_0) := bc BK101.out 0
    have hcz11_1 : wr.cell? ⟨gb101, 1, none⟩ = some (.int .i64 a0_1) := bc BK101.out 1
    have hcz11_2 : wr.cell? ⟨gb101, 2, none⟩ = some (.slice A0_2 l0_2.length c0_2) := bc BK101.out 2
    have hfz11_0 := blk_frozen BK101.out 0
    have hfz11_1 := blk_frozen BK101.out 1
    have hfz11_2 := blk_frozen BK101.out 2
    try go_wp2
    replace HO_103002 := A0 (Kd.N_drew HO_103002.out)
    replace BK101 := A0 (blk_drew BK101.out)
    replace BK102 := A0 (blk_drew BK102.out)
    replace HB := A0 (below_drew1 HB.out)
    have p103 : 0 ≤ (x4_1 : Int) := of_decide_eq_true (by first | (with_reducible assumption) | assumption)
    have q103 : x4_1 < (l0_2.length : Int) := of_decide_eq_true (by first | (with_reducible assumption) | assumption)
    obtain ⟨ad103, e103, hx103_0, hx103_1⟩ := at_T58 HR0_2.out x4_1 p103 q103
    have hw103_1 := hx103_1
    have hw103_0 := hx103_0
    cases e103
    replace hx103_0 := (HB.out.cell (World.block_lt_of_cell? w _ hx103_0)).trans hx103_0
    replace hx103_1 := (HB.out.cell (World.block_lt_of_cell? w _ hx103_1)).trans hx103_1
    replace p103 := eq_true p103
    replace q103 := eq_true q103
    have p104 : 0 ≤ (x4_1 : Int) := of_decide_eq_true (by first | (with_reducible assumption) | assumption)
    have q104 : x4_1 < (l0_2.length : Int) := of_decide_eq_true (by first | (with_reducible assumption) | assumption)
    obtain ⟨ad104, e104, hx104_0, hx104_1⟩ := at_T58 HR0_2.out x4_1 p104 q104
    have hw104_1 := hx104_1
    have hw104_0 := hx104_0
    obtain rfl : ad103 = ad104 := (by injection e104)
    replace hx104_0 := (HB.out.cell (World.block_lt_of_cell? w _ hx104_0)).trans hx104_0
    replace hx104_1 := (HB.out.cell (World.block_lt_of_cell? w _ hx104_1)).trans hx104_1
    replace p104 := eq_true p104
    replace q104 := eq_true q104
    refine start_ (n := 22) (S := fun w' => w'.cell? ⟨gb102, 0, none⟩ = some (.string (⟨#[]⟩ : ByteArray)) ∧ w'.cell? ⟨gb102, 1, none⟩ = some (.bool true) ∧ w'.cell? ⟨gb102, 2, none⟩ = some (u103002) ∧ w'.cell? ⟨gb101, 0, none⟩ = some (.int .i64 a0_0) ∧ w'.cell? ⟨gb101, 1, none⟩ = some (.int .i64 a0_1) ∧ w'.cell? ⟨gb101, 2, none⟩ = some (.slice (some ad103) l0_2.length c0_2) ∧ w'.cell? (ad103.add ((x4_1).toNat * 2)) = some (.string ((rd_T58 l0_2 x4_1).f0)) ∧ w'.cell? ⟨(ad103.add ((x4_1).toNat * 2)).block, (ad103.add ((x4_1).toNat * 2)).off + 1, none⟩ = some (.int .i64 ((rd_T58 l0_2 x4_1).f1)) ∧ w'.cell? (ad103.add ((x4_1).toNat * 2)) = some (.string ((rd_T58 l0_2 x4_1).f0)) ∧ w'.cell? ⟨(ad103.add ((x4_1).toNat * 2)).block, (ad103.add ((x4_1).toNat * 2)).off + 1, none⟩ = some (.int .i64 ((rd_T58 l0_2 x4_1).f1))) (ds := [21]) (bA 22 0) (by kernel_rfl) rfl rfl ⟨bc BK102.out 0, bc BK102.out 1, bc BK102.out 2, bc BK101.out 0, bc BK101.out 1, bc BK101.out 2, ((HB.out.cell (World.block_lt_of_cell? w _ hw103_0)).trans hw103_0), ((HB.out.cell (World.block_lt_of_cell? w _ hw103_1)).trans hw103_1), ((HB.out.cell (World.block_lt_of_cell? w _ hw104_0)).trans hw104_0), ((HB.out.cell (World.block_lt_of_cell? w _ hw104_1)).trans hw104_1)⟩ (fun hHeld => ?_); refine with_tabW hatchwayref32_Put.tab5 hatchwayref32_Put.bits5 (fun HT_ HW_ => ?_)
    generalize wr.drew = w12 at HO_103002 BK101 BK102 HB hx103_0 hx103_1 hx104_0 hx104_1 hHeld ⊢
    apply pu (i := 0) (N := some 13) (bA 22 1) rfl rfl (any_of HT_.out (by kernel_rfl)) (fun _ _ _ h => h) rfl
    ·intro w'; go_simp; with_reducible rfl
    ·simp only [Act.put, zu1, zu2, zu3, i64_w, i32_w]; rfl
    apply pu (i := 2) (N := some 15) (bA 22 5) rfl rfl (any_of HT_.out (by kernel_rfl)) (fun _ _ _ h => h) rfl
    ·intro w'; go_simp; with_reducible rfl
    ·simp only [Act.put, zu1, zu2, zu3, i64_w, i32_w]; rfl
    apply pu (i := 4) (N := some 17) (bA 22 21) rfl rfl (any_of HT_.out (by kernel_rfl)) (fun _ _ _ h => h) rfl
    ·intro w'; go_simp; with_reducible rfl
    ·simp only [Act.put, zu1, zu2, zu3, i64_w, i32_w]; rfl
    apply pu (i := 9) (N := some 22) (bA 22 533) rfl rfl (any_of HT_.out (by kernel_rfl)) (fun _ _ _ h => h) rfl
    ·intro w'; go_simp; with_reducible rfl
    ·simp only [Act.put, zu1, zu2, zu3, i64_w, i32_w]; rfl
    apply pu (i := 11) (N := some 24) (bA 22 2581) rfl rfl (any_of HT_.out (by kernel_rfl)) (fun _ _ _ h => h) rfl
    ·intro w'; go_simp; with_reducible rfl
    ·simp only [Act.put, zu1, zu2, zu3, i64_w, i32_w]; rfl
    apply tk (i := 1) (N := some 14) (bA 22 2583) rfl rfl (take_ofW HT_.out HW_.out (by kernel_rfl)) (fun _ _ _ h => h) rfl hHeld
    ·rintro w' ⟨s0, s1, s2, s3, s4, s5, s6, s7, s8, s9⟩; go_simp; with_reducible rfl
    ·simp only [Act.put, zu1, zu2, zu3, i64_w, i32_w]; rfl
    apply tk (i := 3) (N := some 16) (bA 22 2591) rfl rfl (take_ofW HT_.out HW_.out (by kernel_rfl)) (fun _ _ _ h => h) rfl hHeld
    ·rintro w' ⟨s0, s1, s2, s3, s4, s5, s6, s7, s8, s9⟩; go_simp; with_reducible rfl
    ·simp only [Act.put, zu1, zu2, zu3, i64_w, i32_w]; rfl
    apply pu (i := 5) (N := some 18) (bA 22 2623) rfl rfl (any_of HT_.out (by kernel_rfl)) (fun _ _ _ h => h) rfl
    ·intro w'; go_simp; with_reducible rfl
    ·simp only [Act.put, zu1, zu2, zu3, i64_w, i32_w]; rfl
    apply pu (i := 6) (N := some 19) (bA 22 2687) rfl rfl (any_of HT_.out (by kernel_rfl)) (fun _ _ _ h => h) rfl
    ·intro w'; go_simp; with_reducible rfl
    ·simp only [Act.put, zu1, zu2, zu3, i64_w, i32_w]; rfl
    apply tk (i := 7) (N := some 20) (bA 22 2815) rfl rfl (take_ofW HT_.out HW_.out (by kernel_rfl)) (fun _ _ _ h => h) rfl hHeld
    ·rintro w' ⟨s0, s1, s2, s3, s4, s5, s6, s7, s8, s9⟩; go_simp; with_reducible rfl
    ·simp only [Act.put, zu1, zu2, zu3, i64_w, i32_w]; rfl
    apply pu (i := 8) (N := some 21) (bA 22 3071) rfl rfl (any_of HT_.out (by kernel_rfl)) (fun _ _ _ h => h) rfl
    ·intro w'; go_simp; with_reducible rfl
    ·simp only [Act.put, zu1, zu2, zu3, i64_w, i32_w]; rfl
    apply tk (i := 10) (N := some 23) (bA 22 4095) rfl rfl (take_ofW HT_.out HW_.out (by kernel_rfl)) (fun _ _ _ h => h) rfl hHeld
    ·rintro w' ⟨s0, s1, s2, s3, s4, s5, s6, s7, s8, s9⟩; go_simp; with_reducible rfl
    ·simp only [Act.put, zu1, zu2, zu3, i64_w, i32_w]; rfl
    apply pu (i := 12) (N := some 25) (bA 22 8191) rfl rfl (any_of HT_.out (by kernel_rfl)) (fun _ _ _ h => h) rfl
    ·intro w'; go_simp; with_reducible rfl
    ·simp only [Act.put, zu1, zu2, zu3, i64_w, i32_w]; rfl
    apply pu (i := 13) (N := some 26) (bA 22 16383) rfl rfl (any_of HT_.out (by kernel_rfl)) (fun _ _ _ h => h) rfl
    ·intro w'; go_simp; with_reducible rfl
    ·simp only [Act.put, zu1, zu2, zu3, i64_w, i32_w]; rfl
    apply tk (i := 14) (N := some 27) (bA 22 32767) rfl rfl (take_ofW HT_.out HW_.out (by kernel_rfl)) (fun _ _ _ h => h) rfl hHeld
    ·rintro w' ⟨s0, s1, s2, s3, s4, s5, s6, s7, s8, s9⟩; go_simp; with_reducible rfl
    ·simp only [Act.put, zu1, zu2, zu3, i64_w, i32_w]; rfl
    refine one_ (i := 15) (N := some 28) (bA 22 65535) rfl rfl (one_of HT_.out (by kernel_rfl)) (by decide) (fun K hK => ?_)
    refine goes_ Try.func93 (by kernel_rfl) rfl #[.int .i64 ((rd_T58 l0_2 x4_1).f1)] (by rfl) rfl rfl (by (try simp only [List.map_toArray, List.map_cons, List.map_nil]); first | done | rfl | (simp only [List.length_drop, List.length_take]; rfl)) ?_
    with_reducible refine (hatchwayref32_number.calls k1 ((rd_T58 l0_2 x4_1).f1) t105 t106 t107 _ A8.out).mono ?_
    rintro e w13 ⟨v108, rfl, ho0, hb⟩
    refine ⟨_, rfl, ?_⟩
    have n0_ := A0 (Kd.N_elder' (by (with_reducible repeat (first | apply Kd.N_alloc | apply Kd.N_drewN | apply Kd.N_drew)); exact HO_103002.out) (Kd.R_base ho0) hb)
    have n1_ := A0 (Kd.N_lower (Kd.N_mono (ok' := fun k_ => some k_ ≠ (u103002 : Value).ownBlock ∧ k_ ≠ gb101 ∧ k_ ≠ gb102) (Kd.R_N (Kd.R_bound ho0)) (fun k_ hk_ => ⟨(Kd.fresh' (Kd.N_lt (by (with_reducible repeat (first | apply Kd.N_alloc | apply Kd.N_drewN | apply Kd.N_drew)); exact HO_103002.out)) k_ hk_.2.1), (Kd.freshB (g := gb101) (o := .cells #[.int .i64 a0_0, .int .i64 a0_1, .slice (some ad103) l0_2.length c0_2] 39 (0, 0)) (bS BK101.out) k_ hk_.2.1), (Kd.freshB (g := gb102) (o := .cells #[.string (⟨#[]⟩ : ByteArray), .bool true, u103002] 62 (0, 0)) (bS BK102.out) k_ hk_.2.1)⟩)) (below_size (lS HB.out)))
    have n2_ := A0 (blk_below (bS BK101.out) hb)
    have n3_ := A0 (blk_below (g := gb102) (o := .cells #[.string (⟨#[]⟩ : ByteArray), .bool true, u103002] 62 (0, 0)) (bS BK102.out) hb)
    have n4_ := A0 (below_step (lS HB.out) hb)
    clear HO_103002
    clear BK101
    clear BK102
    clear HB
    have HO_103002 := n0_
    have HO109 := n1_
    have BK101 := n2_
    have BK102 := n3_
    have HB := n4_
    clear n0_ n1_ n2_ n3_ n4_
    (try clear hb)
    (try clear hb2)
    (try clear hk)
    (try clear hi)
    (try clear ho0)
    obtain ⟨Ao14, co14, eo14⟩ := Kd.N_slice HO109.out
    (first | subst eo14 | (injection eo14 with f1_ f2_ f3_; have f4_ := f1_.symm; have f5_ := f3_.symm; clear f1_ f2_ f3_; subst f4_; subst f5_))
    refine hK.out _ _ ⟨bc BK102.out 0, bc BK102.out 1, bc BK102.out 2, bc BK101.out 0, bc BK101.out 1, bc BK101.out 2, ((HB.out.cell (World.block_lt_of_cell? w _ hw103_0)).trans hw103_0), ((HB.out.cell (World.block_lt_of_cell? w _ hw103_1)).trans hw103_1), ((HB.out.cell (World.block_lt_of_cell? w _ hw104_0)).trans hw104_0), ((HB.out.cell (World.block_lt_of_cell? w _ hw104_1)).trans hw104_1)⟩ (fun hHeld => ?_)
    clear hK K
    refine norm_ (a' := ?_) ?_ ?_
    rotate_left
    ·show Act.put _ (some 28) _ = _
     simp only [Act.put, zu1, zu2, zu3, i64_w, i32_w]
     rfl
    refine one_ (i := 16) (N := some 29) (bA 22 131071) rfl rfl (one_of HT_.out (by kernel_rfl)) (by decide) (fun K hK => ?_)
    refine Kd.N_lit_step k62 _ 62 ?hg (N' := 29) ?hd (xs := ([(⟨(rd_T58 l0_2 x4_1).f0, false, ([] : List (S62))⟩ : S62), (⟨t105, t106, t107⟩ : S62)] : List (S62))) (inner := [.string ((rd_T58 l0_2 x4_1).f0), .bool false, .slice none 0 0, .string t105, .bool t106, .slice Ao14 t107.length co14]) (ok := (fun k_ => some k_ ≠ (u103002 : Value).ownBlock ∧ k_ ≠ gb101 ∧ k_ ≠ gb102)) (okp := (fun k_ => some k_ ≠ (u103002 : Value).ownBlock ∧ k_ ≠ gb101 ∧ k_ ≠ gb102)) ?hr ?hp (fun _ hk => hk) ((show ∀ k_, w13.heap.size ≤ k_ → (fun k_ => some k_ ≠ (u103002 : Value).ownBlock ∧ k_ ≠ gb101 ∧ k_ ≠ gb102) k_ from fun k_ hk => ⟨Kd.fresh' (Kd.N_lt (by (with_reducible repeat (first | apply Kd.N_alloc | apply Kd.N_drewN | apply Kd.N_drew)); exact HO_103002.out)) k_ hk, Kd.freshB (g := gb101) (o := .cells #[.int .i64 a0_0, .int .i64 a0_1, .slice (some ad103) l0_2.length c0_2] 39 (0, 0)) (bS BK101.out) k_ hk, Kd.freshB (g := gb102) (o := .cells #[.string (⟨#[]⟩ : ByteArray), .bool true, u103002] 62 (0, 0)) (bS BK102.out) k_ hk⟩) _ (Nat.le_refl _)) (Below.refl _ _) (Nat.le_refl _) (by simp) ?_; (case hd => rfl); (case hg => rfl); (case hr => first | (go_simp; done) | (go_simp; rfl)); (case hp => exact (Reps.c3 (show Kd.FK k62 _ _ (⟨(rd_T58 l0_2 x4_1).f0, false, ([] : List (S62))⟩ : S62) [.string ((rd_T58 l0_2 x4_1).f0), .bool false, .slice none 0 0] from (k62_mkF _ _ (⟨(rd_T58 l0_2 x4_1).f0, false, ([] : List (S62))⟩ : S62) (Nat.le_refl _) (Kd.F_nil _ _ _))) (Reps.c3 (show Kd.FK k62 _ _ (⟨t105, t106, t107⟩ : S62) [.string t105, .bool t106, .slice Ao14 t107.length co14] from (k62_mkF _ _ (⟨t105, t106, t107⟩ : S62) (Kd.N_reads' (Kd.N_mono (ok' := (fun k_ => some k_ ≠ (u103002 : Value).ownBlock ∧ k_ ≠ gb101 ∧ k_ ≠ gb102)) (HO109.out) (fun k_ hk => ⟨hk.1, ⟨hk.2.1, hk.2.2⟩⟩))).2.1 (Kd.N_F (Kd.N_mono (ok' := (fun k_ => some k_ ≠ (u103002 : Value).ownBlock ∧ k_ ≠ gb101 ∧ k_ ≠ gb102)) (HO109.out) (fun k_ hk => ⟨hk.1, ⟨hk.2.1, hk.2.2⟩⟩))))) (Reps.none _ _))))
    intro v111 w15 ho16 hb hg_ hnew_
    clear hg_ hnew_
    (first | rw [← Ny110.out] at ho16 | (simp only [Int.reduceToNat] at ho16; rw [← Ny110.out] at ho16))
    replace HO_103002 := A0 (Kd.N_elder' (by (with_reducible repeat (first | apply Kd.N_alloc | apply Kd.N_drewN | apply Kd.N_drew)); exact HO_103002.out) (Kd.N_base ho16) hb)
    have HO112 := A0 (Kd.N_lower ho16 (below_size (lS HB.out)))
    replace BK101 := A0 (blk_below (bS BK101.out) hb)
    replace BK102 := A0 (blk_below (g := gb102) (o := .cells #[.string (⟨#[]⟩ : ByteArray), .bool true, u103002] 62 (0, 0)) (bS BK102.out) hb)
    replace HB := A0 (below_step (lS HB.out) hb)
    clear HO109
    clear hb ho16
    obtain ⟨Ao17, co17, eo17⟩ := Kd.N_slice HO112.out
    (first | subst eo17 | (injection eo17 with f1_ f2_ f3_; have f4_ := f1_.symm; have f5_ := f3_.symm; clear f1_ f2_ f3_; subst f4_; subst f5_))
    refine hK.out _ _ ⟨bc BK102.out 0, bc BK102.out 1, bc BK102.out 2, bc BK101.out 0, bc BK101.out 1, bc BK101.out 2, ((HB.out.cell (World.block_lt_of_cell? w _ hw103_0)).trans hw103_0), ((HB.out.cell (World.block_lt_of_cell? w _ hw103_1)).trans hw103_1), ((HB.out.cell (World.block_lt_of_cell? w _ hw104_0)).trans hw104_0), ((HB.out.cell (World.block_lt_of_cell? w _ hw104_1)).trans hw104_1)⟩ (fun hHeld => ?_)
    clear hK K
    refine norm_ (a' := ?_) ?_ ?_
    rotate_left
    ·show Act.put _ (some 29) _ = _
     simp only [Act.put, zu1, zu2, zu3, i64_w, i32_w]
     rfl
    apply pu (i := 17) (N := some 30) (bA 22 262143) rfl rfl (any_of HT_.out (by kernel_rfl)) (fun _ _ _ h => h) rfl
    ·intro w'; go_simp; with_reducible rfl
    ·simp only [Act.put, zu1, zu2, zu3, i64_w, i32_w]; rfl
    refine one_ (i := 18) (N := some 31) (bA 22 524287) rfl rfl (one_of HT_.out (by kernel_rfl)) (by decide) (fun K hK => ?_)
    refine value_ (w1 := ?_) (v := ?_) (by rfl) rfl ?_ ?_
    rotate_left 2
    ·go_simp
     constructor
     ·rfl
     rfl
    refine hK.out _ _ ⟨(blk_cell (blk_alloc BK102.out _) 0).trans rfl, (blk_cell (blk_alloc BK102.out _) 1).trans rfl, (blk_cell (blk_alloc BK102.out _) 2).trans rfl, (blk_cell (blk_alloc BK101.out _) 0).trans rfl, (blk_cell (blk_alloc BK101.out _) 1).trans rfl, (blk_cell (blk_alloc BK101.out _) 2).trans rfl, (World.cell?_alloc_lt _ _ _ (World.block_lt_of_cell? _ _ (((HB.out.cell (World.block_lt_of_cell? w _ hw103_0)).trans hw103_0)))).trans (((HB.out.cell (World.block_lt_of_cell? w _ hw103_0)).trans hw103_0)), (World.cell?_alloc_lt _ _ _ (World.block_lt_of_cell? _ _ (((HB.out.cell (World.block_lt_of_cell? w _ hw103_1)).trans hw103_1)))).trans (((HB.out.cell (World.block_lt_of_cell? w _ hw103_1)).trans hw103_1)), (World.cell?_alloc_lt _ _ _ (World.block_lt_of_cell? _ _ (((HB.out.cell (World.block_lt_of_cell? w _ hw104_0)).trans hw104_0)))).trans (((HB.out.cell (World.block_lt_of_cell? w _ hw104_0)).trans hw104_0)), (World.cell?_alloc_lt _ _ _ (World.block_lt_of_cell? _ _ (((HB.out.cell (World.block_lt_of_cell? w _ hw104_1)).trans hw104_1)))).trans (((HB.out.cell (World.block_lt_of_cell? w _ hw104_1)).trans hw104_1))⟩ (fun hHeld => ?_)
    clear hK K
    refine norm_ (a' := ?_) ?_ ?_
    rotate_left
    ·show Act.put _ (some 31) _ = _
     simp only [Act.put, zu1, zu2, zu3, i64_w, i32_w]
     rfl
    refine one_ (i := 19) (N := some 32) (bA 22 1048575) rfl rfl (one_of HT_.out (by kernel_rfl)) (by decide) (fun K hK => ?_)
    refine Kd.N_append_step k62 (w0 := w) w.heap.size (by rfl) (.tmp 14) (.tmp 31) 60 62 (.agg #[(.string ⟨#[]⟩), (.bool false), (.slice none 0 0)]) 48 rfl Try.underlying60 info62 rfl (by decide) (by omega) u103002 x103002_1 (⟨(⟨#[]⟩ : ByteArray), true, y110⟩ : S62) [.string (⟨#[]⟩ : ByteArray), .bool true, .slice Ao17 y110.length co17] (fun k_ => k_ ≠ gb101 ∧ k_ ≠ gb102) (fun k_ => ((fun k_ => k_ ≠ gb101 ∧ k_ ≠ gb102)) k_ ∧ some k_ ≠ (u103002 : Value).ownBlock) rfl rfl ?aP (fun _ hk => hk) ?aF ?aO ?aB ?aS ?aL ?_
    (case aP => exact (k62_mkF _ _ (⟨(⟨#[]⟩ : ByteArray), true, y110⟩ : S62) (Kd.N_reads' (Kd.N_mono (ok' := (fun k_ => ((fun k_ => k_ ≠ gb101 ∧ k_ ≠ gb102)) k_ ∧ some k_ ≠ (u103002 : Value).ownBlock)) (HO112.out) (fun k_ hk => ⟨⟨hk.2.1, hk.2.2⟩, hk.1⟩))).2.1 (Kd.N_F (Kd.N_mono (ok' := (fun k_ => ((fun k_ => k_ ≠ gb101 ∧ k_ ≠ gb102)) k_ ∧ some k_ ≠ (u103002 : Value).ownBlock)) (HO112.out) (fun k_ hk => ⟨⟨hk.2.1, hk.2.2⟩, hk.1⟩)))))
    (case aB => exact (by repeat (first | (with_reducible first | exact HB.out | apply below_alloc | apply pw_below_drewN | apply below_drew1 | refine below_set ?_ GE101.out | refine below_set ?_ GE102.out) | exact HB.out)))
    (case aF => exact (fun k_ hk => ⟨Kd.freshB (g := gb101) (o := .cells #[.int .i64 a0_0, .int .i64 a0_1, .slice (some ad103) l0_2.length c0_2] 39 (0, 0)) (bS BK101.out) k_ hk, Kd.freshB (g := gb102) (o := .cells #[.string (⟨#[]⟩ : ByteArray), .bool true, u103002] 62 (0, 0)) (bS BK102.out) k_ hk⟩))
    (case aO => exact (by (with_reducible repeat (first | apply Kd.N_alloc | apply Kd.N_drewN | apply Kd.N_drew)); exact Kd.N_mono HO_103002.out (fun _ hk => ⟨hk.1.1.1, hk.1.1.2⟩)))
    (case aS => exact (below_size (lS HB.out)))
    (case aL => have := LMc9.out; omega)
    intro v114 w18 ho hb hg hat
    rw [← Ny113.out] at ho
    replace BK101 := A0 (blk_grown (g := gb101) (o := .cells #[.int .i64 a0_0, .int .i64 a0_1, .slice (some ad103) l0_2.length c0_2] 39 (0, 0)) (bS BK101.out) hg (Kd.N_ne HO_103002.out BK101.out (by decide)))
    replace BK102 := A0 (blk_grown (g := gb102) (o := .cells #[.string (⟨#[]⟩ : ByteArray), .bool true, u103002] 62 (0, 0)) (bS BK102.out) hg (Kd.N_away HO_103002.out (fun _ hk => hk.1.1.2)))
    replace HB := A0 (hb)
    have HO115 := A0 (ho)
    clear HO_103002
    clear HO112
    clear ho hb hg hat
    obtain ⟨Ao19, co19, eo19⟩ := Kd.N_slice HO115.out
    (first | subst eo19 | (injection eo19 with f1_ f2_ f3_; have f4_ := f1_.symm; have f5_ := f3_.symm; clear f1_ f2_ f3_; subst f4_; subst f5_))
    refine hK.out _ _ ⟨bc BK102.out 0, bc BK102.out 1, bc BK102.out 2, bc BK101.out 0, bc BK101.out 1, bc BK101.out 2, ((HB.out.cell (World.block_lt_of_cell? w _ hw103_0)).trans hw103_0), ((HB.out.cell (World.block_lt_of_cell? w _ hw103_1)).trans hw103_1), ((HB.out.cell (World.block_lt_of_cell? w _ hw104_0)).trans hw104_0), ((HB.out.cell (World.block_lt_of_cell? w _ hw104_1)).trans hw104_1)⟩ (fun hHeld => ?_)
    clear hK K
    refine norm_ (a' := ?_) ?_ ?_
    rotate_left
    ·show Act.put _ (some 32) _ = _
     simp only [Act.put, zu1, zu2, zu3, i64_w, i32_w]
     rfl
    apply pu (i := 20) (N := some 33) (bA 22 2097151) rfl rfl (any_of HT_.out (by kernel_rfl)) (fun _ _ _ h => h) rfl
    ·intro w'; go_simp; with_reducible rfl
    ·simp only [Act.put, zu1, zu2, zu3, i64_w, i32_w]; rfl
    refine last_ (i := 21) (N := none) (bA 22 4194303) rfl rfl (one_of HT_.out (by kernel_rfl)) (by decide) (fun K hK => ?_)
    have hs20 : w18.cell? ⟨gb102, 2, none⟩ = some (u103002) := bc BK102.out 2
    have hfs20 := blk_frozen BK102.out 2
    have hns20_0 := NB101_102.out
    have hms20_0 := NB102_101.out
    refine skip_ (w1 := ?_) (by rfl) rfl ?_ ?_
    rotate_left
    ·go_simp
     rfl
    refine hK.out _ _ ?_
    clear hK K
    refine done_ (done_of HT_.out (by kernel_rfl)) ?_
    try go_wp2
    go_roundg k1
    case measure => have := HK1.out; omega
    case rel => exact ⟨(wrap64 (x4_1 + 1)), (y113), (.slice Ao19 y113.length co19), (by first | rfl | (simp; done) | (simp [*]; done)), H', ⟨by have := HK1.out; omega⟩, ⟨by (with_reducible repeat (first | apply Kd.N_alloc | apply Kd.N_drewN | apply Kd.N_drew)); exact Kd.N_mono (Kd.N_far (p := ⟨gb102, 2, none⟩) (Kd.N_mono HO115.out (fun k_ hk => (⟨hk, hk.2⟩ : _ ∧ k_ ≠ gb102))) (fun _ hk => hk.2) (.slice Ao19 y113.length co19)) (fun _ hk => ⟨hk.1.1, hk.1.2⟩)⟩, ⟨by (with_reducible repeat (first | refine blk_drewN ?_ _ | refine blk_drew ?_ | refine blk_alloc ?_ _)); refine blk_far ?_ NB101_102.out _; (with_reducible repeat (first | refine blk_drewN ?_ _ | refine blk_drew ?_ | refine blk_alloc ?_ _)); exact BK101.out⟩, ⟨by (with_reducible repeat (first | refine blk_drewN ?_ _ | refine blk_drew ?_ | refine blk_alloc ?_ _)); refine blk_put (cs := #[.string (⟨#[]⟩ : ByteArray), .bool true, u103002]) ?_ 2 _ rfl; (with_reducible repeat (first | refine blk_drewN ?_ _ | refine blk_drew ?_ | refine blk_alloc ?_ _)); exact BK102.out⟩, ⟨by repeat (first | (with_reducible first | exact HB.out | apply below_alloc | apply pw_below_drewN | apply below_drew1 | refine below_set ?_ GE101.out | refine below_set ?_ GE102.out) | exact HB.out)⟩⟩
   rw [if_neg c6] at H
   have c6b0 : decide (x4_1 < (l0_2.length : Int)) = false := decide_eq_false c6
   clear c6
   replace H := Option.bind_eq_some_iff.mp H
   obtain ⟨⟨t116, t117, t118⟩, A210, H⟩ := H
   replace H : ((hatchwayref32_number.f k1 a0_1).bind fun bt121 => ((hatchwayref09_Put.f k1 (⟨#[]⟩ : ByteArray) true (([(⟨t116, t117, t118⟩ : S62), (⟨bt121.1, bt121.2.1, bt121.2.2⟩ : S62), (⟨(⟨#[]⟩ : ByteArray), true, x103002_1⟩ : S62)] : List (S62)))).bind fun t129 => (some t129))) = some r := H
   have A21 := A0 A210
   clear A210
   replace H := Option.bind_eq_some_iff.mp H
   obtain ⟨⟨t121, t122, t123⟩, A220, H⟩ := H
   replace H : ((hatchwayref09_Put.f k1 (⟨#[]⟩ : ByteArray) true (([(⟨t116, t117, t118⟩ : S62), (⟨t121, t122, t123⟩ : S62), (⟨(⟨#[]⟩ : ByteArray), true, x103002_1⟩ : S62)] : List (S62)))).bind fun t129 => (some t129)) = some r := H
   have A22 := A0 A220
   clear A220
   obtain ⟨y126, hy126⟩ : ∃ y_ : List (S62), y_ = (([(⟨t116, t117, t118⟩ : S62), (⟨t121, t122, t123⟩ : S62), (⟨(⟨#[]⟩ : ByteArray), true, x103002_1⟩ : S62)] : List (S62))) := ⟨_, rfl⟩
   replace H : ((hatchwayref09_Put.f k1 (⟨#[]⟩ : ByteArray) true y126).bind fun t129 => (some t129)) = some r := by first | (rw [hy126]; with_reducible exact H) | (have H2_ := (Option.bind_some _ _).symm.trans H; rw [hy126]; with_reducible exact H2_) | (have H2_ := (Option.bind_some _ _).symm.trans H; with_reducible exact H2_) | with_reducible exact H | (rw [hy126]; exact H) | exact H
   have Ny126 := A0 hy126
   clear hy126
   replace H := Option.bind_eq_some_iff.mp H
   obtain ⟨t129, A230, H⟩ := H
   replace H : (some t129) = some r := H
   have A23 := A0 A230
   clear A230
   obtain rfl := Option.some.inj H
   have hnb24 := NB101_102.out
   have hnc24 := NB102_101.out
   have hcz25_0 : wr.cell? ⟨gb101, 0, none⟩ = some (.int .i64 a0_0) := bc BK101.out 0
   have hcz25_1 : wr.cell? ⟨gb101, 1, none⟩ = some (.int .i64 a0_1) := bc BK101.out 1
   have hcz25_2 : wr.cell? ⟨gb101, 2, none⟩ = some (.slice A0_2 l0_2.length c0_2) := bc BK101.out 2
   have hfz25_0 := blk_frozen BK101.out 0
   have hfz25_1 := blk_frozen BK101.out 1
   have hfz25_2 := blk_frozen BK101.out 2
   try go_wp2
   replace HO_103002 := A0 (Kd.N_drew HO_103002.out)
   replace BK101 := A0 (blk_drew BK101.out)
   replace BK102 := A0 (blk_drew BK102.out)
   replace HB := A0 (below_drew1 HB.out)
   refine start_ (n := 11) (S := fun w' => w'.cell? ⟨gb101, 0, none⟩ = some (.int .i64 a0_0) ∧ w'.cell? ⟨gb101, 1, none⟩ = some (.int .i64 a0_1) ∧ w'.cell? ⟨gb101, 2, none⟩ = some (.slice A0_2 l0_2.length c0_2) ∧ w'.cell? ⟨gb102, 0, none⟩ = some (.string (⟨#[]⟩ : ByteArray)) ∧ w'.cell? ⟨gb102, 1, none⟩ = some (.bool true) ∧ w'.cell? ⟨gb102, 2, none⟩ = some (u103002)) (ds := []) (bA 11 0) (by kernel_rfl) rfl rfl ⟨bc BK101.out 0, bc BK101.out 1, bc BK101.out 2, bc BK102.out 0, bc BK102.out 1, bc BK102.out 2⟩ (fun hHeld => ?_); refine with_tabW hatchwayref32_Put.tab6 hatchwayref32_Put.bits6 (fun HT_ HW_ => ?_)
   generalize wr.drew = w26 at HO_103002 BK101 BK102 HB hHeld ⊢
   apply pu (i := 0) (N := some 34) (bA 11 1) rfl rfl (any_of HT_.out (by kernel_rfl)) (fun _ _ _ h => h) rfl
   ·intro w'; go_simp; with_reducible rfl
   ·simp only [Act.put, zu1, zu2, zu3, i64_w, i32_w]; rfl
   apply pu (i := 3) (N := some 37) (bA 11 9) rfl rfl (any_of HT_.out (by kernel_rfl)) (fun _ _ _ h => h) rfl
   ·intro w'; go_simp; with_reducible rfl
   ·simp only [Act.put, zu1, zu2, zu3, i64_w, i32_w]; rfl
   apply tk (i := 1) (N := some 35) (bA 11 11) rfl rfl (take_ofW HT_.out HW_.out (by kernel_rfl)) (fun _ _ _ h => h) rfl hHeld
   ·rintro w' ⟨s0, s1, s2, s3, s4, s5⟩; go_simp; with_reducible rfl
   ·simp only [Act.put, zu1, zu2, zu3, i64_w, i32_w]; rfl
   apply tk (i := 4) (N := some 38) (bA 11 27) rfl rfl (take_ofW HT_.out HW_.out (by kernel_rfl)) (fun _ _ _ h => h) rfl hHeld
   ·rintro w' ⟨s0, s1, s2, s3, s4, s5⟩; go_simp; with_reducible rfl
   ·simp only [Act.put, zu1, zu2, zu3, i64_w, i32_w]; rfl
   apply tk (i := 6) (N := some 40) (bA 11 91) rfl rfl (take_ofW HT_.out HW_.out (by kernel_rfl)) (fun _ _ _ h => h) rfl hHeld
   ·rintro w' ⟨s0, s1, s2, s3, s4, s5⟩; go_simp; with_reducible rfl
   ·simp only [Act.put, zu1, zu2, zu3, i64_w, i32_w]; rfl
   refine one_ (i := 2) (N := some 36) (bA 11 95) rfl rfl (one_of HT_.out (by kernel_rfl)) (by decide) (fun K hK => ?_)
   refine goes_ Try.func93 (by kernel_rfl) rfl #[.int .i64 a0_0] (by rfl) rfl rfl (by (try simp only [List.map_toArray, List.map_cons, List.map_nil]); first | done | rfl | (simp only [List.length_drop, List.length_take]; rfl)) ?_
   with_reducible refine (hatchwayref32_number.calls k1 a0_0 t116 t117 t118 _ A21.out).mono ?_
   rintro e w27 ⟨v119, rfl, ho0, hb⟩
   refine ⟨_, rfl, ?_⟩
   have n0_ := A0 (Kd.N_elder' (by (with_reducible repeat (first | apply Kd.N_alloc | apply Kd.N_drewN | apply Kd.N_drew)); exact HO_103002.out) (Kd.R_base ho0) hb)
   have n1_ := A0 (Kd.N_lower (Kd.N_mono (ok' := fun k_ => some k_ ≠ (u103002 : Value).ownBlock ∧ k_ ≠ gb101 ∧ k_ ≠ gb102) (Kd.R_N (Kd.R_bound ho0)) (fun k_ hk_ => ⟨(Kd.fresh' (Kd.N_lt (by (with_reducible repeat (first | apply Kd.N_alloc | apply Kd.N_drewN | apply Kd.N_drew)); exact HO_103002.out)) k_ hk_.2.1), (Kd.freshB (g := gb101) (o := .cells #[.int .i64 a0_0, .int .i64 a0_1, .slice A0_2 l0_2.length c0_2] 39 (0, 0)) (bS BK101.out) k_ hk_.2.1), (Kd.freshB (g := gb102) (o := .cells #[.string (⟨#[]⟩ : ByteArray), .bool true, u103002] 62 (0, 0)) (bS BK102.out) k_ hk_.2.1)⟩)) (below_size (lS HB.out)))
   have n2_ := A0 (blk_below (bS BK101.out) hb)
   have n3_ := A0 (blk_below (g := gb102) (o := .cells #[.string (⟨#[]⟩ : ByteArray), .bool true, u103002] 62 (0, 0)) (bS BK102.out) hb)
   have n4_ := A0 (below_step (lS HB.out) hb)
   clear HO_103002
   clear BK101
   clear BK102
   clear HB
   have HO_103002 := n0_
   have HO120 := n1_
   have BK101 := n2_
   have BK102 := n3_
   have HB := n4_
   clear n0_ n1_ n2_ n3_ n4_
   (try clear hb)
   (try clear hb2)
   (try clear hk)
   (try clear hi)
   (try clear ho0)
   refine hK.out _ _ ⟨bc BK101.out 0, bc BK101.out 1, bc BK101.out 2, bc BK102.out 0, bc BK102.out 1, bc BK102.out 2⟩ (fun hHeld => ?_)
   clear hK K
   refine norm_ (a' := ?_) ?_ ?_
   rotate_left
   ·show Act.put _ (some 36) _ = _
    simp only [Act.put, zu1, zu2, zu3, i64_w, i32_w]
    rfl
   refine one_ (i := 5) (N := some 39) (bA 11 127) rfl rfl (one_of HT_.out (by kernel_rfl)) (by decide) (fun K hK => ?_)
   refine goes_ Try.func93 (by kernel_rfl) rfl #[.int .i64 a0_1] (by rfl) rfl rfl (by (try simp only [List.map_toArray, List.map_cons, List.map_nil]); first | done | rfl | (simp only [List.length_drop, List.length_take]; rfl)) ?_
   with_reducible refine (hatchwayref32_number.calls k1 a0_1 t121 t122 t123 _ A22.out).mono ?_
   rintro e w28 ⟨v124, rfl, ho0, hb⟩
   refine ⟨_, rfl, ?_⟩
   have n0_ := A0 (Kd.N_elder' (by (with_reducible repeat (first | apply Kd.N_alloc | apply Kd.N_drewN | apply Kd.N_drew)); exact HO_103002.out) (Kd.R_base ho0) hb)
   have n1_ := A0 (Kd.N_elder' (by (with_reducible repeat (first | apply Kd.N_alloc | apply Kd.N_drewN | apply Kd.N_drew)); exact HO120.out) (Kd.R_base ho0) hb)
   have n2_ := A0 (Kd.N_lower (Kd.N_mono (ok' := fun k_ => some k_ ≠ (u103002 : Value).ownBlock ∧ some k_ ≠ (v119 : Value).ownBlock ∧ k_ ≠ gb101 ∧ k_ ≠ gb102) (Kd.R_N (Kd.R_bound ho0)) (fun k_ hk_ => ⟨(Kd.fresh' (Kd.N_lt (by (with_reducible repeat (first | apply Kd.N_alloc | apply Kd.N_drewN | apply Kd.N_drew)); exact HO_103002.out)) k_ hk_.2.1), (Kd.fresh' (Kd.N_lt (by (with_reducible repeat (first | apply Kd.N_alloc | apply Kd.N_drewN | apply Kd.N_drew)); exact HO120.out)) k_ hk_.2.1), (Kd.freshB (g := gb101) (o := .cells #[.int .i64 a0_0, .int .i64 a0_1, .slice A0_2 l0_2.length c0_2] 39 (0, 0)) (bS BK101.out) k_ hk_.2.1), (Kd.freshB (g := gb102) (o := .cells #[.string (⟨#[]⟩ : ByteArray), .bool true, u103002] 62 (0, 0)) (bS BK102.out) k_ hk_.2.1)⟩)) (below_size (lS HB.out)))
   have n3_ := A0 (blk_below (bS BK101.out) hb)
   have n4_ := A0 (blk_below (g := gb102) (o := .cells #[.string (⟨#[]⟩ : ByteArray), .bool true, u103002] 62 (0, 0)) (bS BK102.out) hb)
   have n5_ := A0 (below_step (lS HB.out) hb)
   clear HO_103002
   clear HO120
   clear BK101
   clear BK102
   clear HB
   have HO_103002 := n0_
   have HO120 := n1_
   have HO125 := n2_
   have BK101 := n3_
   have BK102 := n4_
   have HB := n5_
   clear n0_ n1_ n2_ n3_ n4_ n5_
   (try clear hb)
   (try clear hb2)
   (try clear hk)
   (try clear hi)
   (try clear ho0)
   obtain ⟨Ao29, co29, eo29⟩ := Kd.N_slice HO120.out
   (first | subst eo29 | (injection eo29 with f1_ f2_ f3_; have f4_ := f1_.symm; have f5_ := f3_.symm; clear f1_ f2_ f3_; subst f4_; subst f5_))
   obtain ⟨Ao30, co30, eo30⟩ := Kd.N_slice HO125.out
   (first | subst eo30 | (injection eo30 with f1_ f2_ f3_; have f4_ := f1_.symm; have f5_ := f3_.symm; clear f1_ f2_ f3_; subst f4_; subst f5_))
   obtain ⟨Ao31, co31, eo31⟩ := Kd.N_slice HO_103002.out
   (first | subst eo31 | (injection eo31 with f1_ f2_ f3_; have f4_ := f1_.symm; have f5_ := f3_.symm; clear f1_ f2_ f3_; subst f4_; subst f5_))
   refine hK.out _ _ ⟨bc BK101.out 0, bc BK101.out 1, bc BK101.out 2, bc BK102.out 0, bc BK102.out 1, bc BK102.out 2⟩ (fun hHeld => ?_)
   clear hK K
   refine norm_ (a' := ?_) ?_ ?_
   rotate_left
   ·show Act.put _ (some 39) _ = _
    simp only [Act.put, zu1, zu2, zu3, i64_w, i32_w]
    rfl
   refine one_ (i := 7) (N := some 41) (bA 11 255) rfl rfl (one_of HT_.out (by kernel_rfl)) (by decide) (fun K hK => ?_)
   refine Kd.N_lit_step k62 _ 62 ?hg (N' := 41) ?hd (xs := ([(⟨t116, t117, t118⟩ : S62), (⟨t121, t122, t123⟩ : S62), (⟨(⟨#[]⟩ : ByteArray), true, x103002_1⟩ : S62)] : List (S62))) (inner := [.string t116, .bool t117, .slice Ao29 t118.length co29, .string t121, .bool t122, .slice Ao30 t123.length co30, .string (⟨#[]⟩ : ByteArray), .bool true, .slice Ao31 x103002_1.length co31]) (ok := (fun k_ => k_ ≠ gb101 ∧ k_ ≠ gb102)) (okp := (fun k_ => k_ ≠ gb101 ∧ k_ ≠ gb102)) ?hr ?hp (fun _ hk => hk) ((show ∀ k_, w28.heap.size ≤ k_ → (fun k_ => k_ ≠ gb101 ∧ k_ ≠ gb102) k_ from fun k_ hk => ⟨Kd.freshB (g := gb101) (o := .cells #[.int .i64 a0_0, .int .i64 a0_1, .slice A0_2 l0_2.length c0_2] 39 (0, 0)) (bS BK101.out) k_ hk, Kd.freshB (g := gb102) (o := .cells #[.string (⟨#[]⟩ : ByteArray), .bool true, .slice Ao31 x103002_1.length co31] 62 (0, 0)) (bS BK102.out) k_ hk⟩) _ (Nat.le_refl _)) (Below.refl _ _) (Nat.le_refl _) (by simp) ?_; (case hd => rfl); (case hg => rfl); (case hr => first | (go_simp; done) | (go_simp; rfl)); (case hp => exact (Reps.c3 (show Kd.FK k62 _ _ (⟨t116, t117, t118⟩ : S62) [.string t116, .bool t117, .slice Ao29 t118.length co29] from (k62_mkF _ _ (⟨t116, t117, t118⟩ : S62) (Kd.N_reads' (Kd.N_mono (ok' := (fun k_ => k_ ≠ gb101 ∧ k_ ≠ gb102)) (HO120.out) (fun k_ hk => ⟨hk.1.2.1, hk.1.2.2⟩))).2.1 (Kd.N_F (Kd.N_mono (ok' := (fun k_ => k_ ≠ gb101 ∧ k_ ≠ gb102)) (HO120.out) (fun k_ hk => ⟨hk.1.2.1, hk.1.2.2⟩))))) (Reps.c3 (show Kd.FK k62 _ _ (⟨t121, t122, t123⟩ : S62) [.string t121, .bool t122, .slice Ao30 t123.length co30] from (k62_mkF _ _ (⟨t121, t122, t123⟩ : S62) (Kd.N_reads' (Kd.N_mono (ok' := (fun k_ => k_ ≠ gb101 ∧ k_ ≠ gb102)) (HO125.out) (fun k_ hk => ⟨hk.2.2.1, hk.2.2.2⟩))).2.1 (Kd.N_F (Kd.N_mono (ok' := (fun k_ => k_ ≠ gb101 ∧ k_ ≠ gb102)) (HO125.out) (fun k_ hk => ⟨hk.2.2.1, hk.2.2.2⟩))))) (Reps.c3 (show Kd.FK k62 _ _ (⟨(⟨#[]⟩ : ByteArray), true, x103002_1⟩ : S62) [.string (⟨#[]⟩ : ByteArray), .bool true, .slice Ao31 x103002_1.length co31] from (k62_mkF _ _ (⟨(⟨#[]⟩ : ByteArray), true, x103002_1⟩ : S62) (Kd.N_reads' (Kd.N_mono (ok' := (fun k_ => k_ ≠ gb101 ∧ k_ ≠ gb102)) (HO_103002.out) (fun k_ hk => ⟨hk.1.1.1, hk.1.1.2⟩))).2.1 (Kd.N_F (Kd.N_mono (ok' := (fun k_ => k_ ≠ gb101 ∧ k_ ≠ gb102)) (HO_103002.out) (fun k_ hk => ⟨hk.1.1.1, hk.1.1.2⟩))))) (Reps.none _ _)))))
   intro v127 w32 ho33 hb hg_ hnew_
   clear hg_ hnew_
   (first | rw [← Ny126.out] at ho33 | (simp only [Int.reduceToNat] at ho33; rw [← Ny126.out] at ho33))
   have HO128 := A0 (Kd.N_lower ho33 (below_size (lS HB.out)))
   replace BK101 := A0 (blk_below (bS BK101.out) hb)
   replace BK102 := A0 (blk_below (g := gb102) (o := .cells #[.string (⟨#[]⟩ : ByteArray), .bool true, .slice Ao31 x103002_1.length co31] 62 (0, 0)) (bS BK102.out) hb)
   replace HB := A0 (below_step (lS HB.out) hb)
   clear HO120
   clear HO125
   clear HO_103002
   clear hb ho33
   obtain ⟨Ao34, co34, eo34⟩ := Kd.N_slice HO128.out
   (first | subst eo34 | (injection eo34 with f1_ f2_ f3_; have f4_ := f1_.symm; have f5_ := f3_.symm; clear f1_ f2_ f3_; subst f4_; subst f5_))
   refine hK.out _ _ ⟨bc BK101.out 0, bc BK101.out 1, bc BK101.out 2, bc BK102.out 0, bc BK102.out 1, bc BK102.out 2⟩ (fun hHeld => ?_)
   clear hK K
   refine norm_ (a' := ?_) ?_ ?_
   rotate_left
   ·show Act.put _ (some 41) _ = _
    simp only [Act.put, zu1, zu2, zu3, i64_w, i32_w]
    rfl
   apply pu (i := 8) (N := some 42) (bA 11 511) rfl rfl (any_of HT_.out (by kernel_rfl)) (fun _ _ _ h => h) rfl
   ·intro w'; go_simp; with_reducible rfl
   ·simp only [Act.put, zu1, zu2, zu3, i64_w, i32_w]; rfl
   refine one_ (i := 9) (N := some 43) (bA 11 1023) rfl rfl (one_of HT_.out (by kernel_rfl)) (by decide) (fun K hK => ?_)
   refine goes_ Try.func45 (by kernel_rfl) rfl #[.agg #[.string (⟨#[]⟩ : ByteArray), .bool true, .slice Ao34 y126.length co34]] (by rfl) rfl rfl (by (try simp only [List.map_toArray, List.map_cons, List.map_nil]); first | done | rfl | (simp only [List.length_drop, List.length_take]; rfl)) ?_
   with_reducible refine (hatchwayref09_Put.calls k1 (⟨#[]⟩ : ByteArray) true _ _ y126 t129 _ ?side1 ?side2 A23.out).mono ?_
   (case side1 => repeat (first | exact (Kd.N_reads' HO128.out).2.2 | (with_reducible refine Kd.C_alloc ?_ _) | (with_reducible refine Kd.C_drewN ?_ _) | (with_reducible refine Kd.C_drew ?_)))
   (case side2 => exact (Kd.N_reads' HO128.out).2.1)
   rintro e w35 ⟨rfl, hb⟩
   refine ⟨_, rfl, ?_⟩
   replace HO128 := A0 (Kd.N_below (by (with_reducible repeat (first | apply Kd.N_alloc | apply Kd.N_drewN | apply Kd.N_drew)); exact HO128.out) hb)
   replace BK101 := A0 (blk_below (bS BK101.out) hb)
   replace BK102 := A0 (blk_below (g := gb102) (o := .cells #[.string (⟨#[]⟩ : ByteArray), .bool true, .slice Ao31 x103002_1.length co31] 62 (0, 0)) (bS BK102.out) hb)
   replace HB := A0 (below_step (lS HB.out) hb)
   (try clear hb)
   (try clear hb2)
   (try clear hk)
   (try clear hi)
   refine hK.out _ _ ⟨bc BK101.out 0, bc BK101.out 1, bc BK101.out 2, bc BK102.out 0, bc BK102.out 1, bc BK102.out 2⟩ (fun hHeld => ?_)
   clear hK K
   refine norm_ (a' := ?_) ?_ ?_
   rotate_left
   ·show Act.put _ (some 43) _ = _
    simp only [Act.put, zu1, zu2, zu3, i64_w, i32_w]
    rfl
   apply pu (i := 10) (N := some 2) (bA 11 2047) rfl rfl (any_of HT_.out (by kernel_rfl)) (fun _ _ _ h => h) rfl
   ·intro w'; go_simp; with_reducible rfl
   ·simp only [Act.put, zu1, zu2, zu3, i64_w, i32_w]; rfl
   refine done_ (done_of HT_.out (by kernel_rfl)) ?_
   try go_wp2
   go_ret
   exact ⟨by first | rfl | (simp [errW_none, errW_some] <;> rfl) | (simp [*, errW_none, errW_some] <;> rfl), by repeat (first | (with_reducible first | exact HB.out | apply below_alloc | apply pw_below_drewN | apply below_drew1 | refine below_set ?_ GE101.out | refine below_set ?_ GE102.out) | exact HB.out)⟩
end Go.Proofs.Yteoibgpkimlahaa.P
end
section
namespace Go.Proofs.Yteoibgpkimlahaa.P
open Go.RowKit Go.Proofs.YteoibgpkimlahaaW.PrintWords Go.Proofs.YteoibgpkimlahaaW.PrintLast Go.Proofs.YteoibgpkimlahaaW.PrintMore
attribute [local go_sem] max2_int min2_int max_two min_two max_three min_three max_four min_four   
set_option linter.unusedVariables false
set_option linter.unusedSimpArgs false
def fixed_number.l0 : Nat → Int → List Int → Int → Int → Option (Int)
 | 0, _, _, _, _ => none
 | k + 1, x3, x6, x7, x8 => if x8 < x7 then (if 0 ≤ x8 then (if x8 < (x6.length : Int) then (fixed_number.l0 k (Go.bits .or .u64 (IntKind.u64.wrap (x3 * 256)) (IntKind.u64.wrap (rd x6 x8))) x6 x7 (wrap64 (x8 + 1))) else (none)) else (none)) else (some x3)
def fixed_number.f (k : Nat) (l0 : List Int) : Option (Int) := fixed_number.l0 k 0 l0 (l0.length : Int) 0
theorem fixed_number.mono_l : ∀ k, (∀ y0 y1 y2 y3, LeO (fixed_number.l0 k y0 y1 y2 y3) (fixed_number.l0 (k + 1) y0 y1 y2 y3))
 | 0 => fun _ _ _ _ r h => by simp [fixed_number.l0] at h
 | k + 1 => by
  have ih0 := fixed_number.mono_l k
  ·intro y0 y1 y2 y3
   unfold fixed_number.l0
   repeat' first
   | (with_reducible exact ih0 _ _ _ _)
   | (with_reducible exact LeO.refl _)
   | (with_reducible exact LeO.none _)
   | (with_reducible refine LeO.ite ?_ ?_)
   | (with_reducible refine LeO.bind ?_ (fun _ => ?_))
   | exact ih0 _ _ _ _
   | exact LeO.none _
   | refine LeO.ite ?_ ?_
   | refine LeO.bind ?_ (fun _ => ?_)
theorem fixed_number.mono : ∀ a0 k, LeO (fixed_number.f k a0) (fixed_number.f (k + 1) a0) := by
 intro a0 k
 have ih0 := fixed_number.mono_l k
 unfold fixed_number.f
 repeat' first
   | (with_reducible exact ih0 _ _ _ _)
   | (with_reducible exact LeO.refl _)
   | (with_reducible exact LeO.none _)
   | (with_reducible refine LeO.ite ?_ ?_)
   | (with_reducible refine LeO.bind ?_ (fun _ => ?_))
   | exact ih0 _ _ _ _
   | exact LeO.none _
   | refine LeO.ite ?_ ?_
   | refine LeO.bind ?_ (fun _ => ?_)
set_option maxHeartbeats 8000000 in
set_option maxRecDepth 100000 in
theorem fixed_number.calls (k : Nat) (A0 : Option Addr) (c0 : Nat) (l0 : List Int) (r : Int) (w : World) (hr0 : Kd.C (Kd.int .u8) w A0 l0.length l0) (hc0 : l0.length ≤ c0) (h : fixed_number.f k l0 = some r) :
  Calls Try.prog 67 #[.slice A0 l0.length c0] w fun e w' => e = .returned (.int .u64 r) ∧ Drawn0 w w' := by
 have HR0 := Aside0.mk hr0
 have HC0 := Aside0.mk hc0
 clear hr0 hc0
 have H : (fixed_number.l0 k 0 l0 (l0.length : Int) 0) = some r := h
 clear h
 have H' := Aside0.mk H
 clear H
 go_enter Try.func67, Try.ntmps67
 go_wp2
 go_loopg [3, 8] k (fun kq v3 v8 w' => ∃ (x3_1 : Int) (x8_1 : Int), v3 = .int .u64 x3_1 ∧ v8 = .int .i64 x8_1 ∧ Aside0 (fixed_number.l0 kq x3_1 l0 (l0.length : Int) x8_1 = some r) ∧ Aside0 (kq ≤ k) ∧ Drawn0 w w')
 case atStart => exact ⟨(0), (0), (by first | rfl | (simp; done) | (simp [*]; done)), (by first | rfl | (simp; done) | (simp [*]; done)), H', ⟨Nat.le_refl _⟩, by repeat (first | exact Drawn0.refl _ | apply Drawn0.step)⟩
 case round =>
  clear H'
  obtain ⟨x3_1, x8_1, rfl, rfl, HA, HK1, ⟨m1, rfl⟩⟩ := hrel
  cases gk with
  | zero => exact absurd HA.out (by simp [fixed_number.l0])
  | succ k1 =>
   have H := HA.out
   clear HA
   simp only [fixed_number.l0] at H
   by_cases c2 : x8_1 < (l0.length : Int)
   ·rw [if_pos c2] at H
    have c2b0 : decide (x8_1 < (l0.length : Int)) = true := decide_eq_true c2
    clear c2
    by_cases c3 : 0 ≤ x8_1
    ·rw [if_pos c3] at H
     have c3b0 : decide (0 ≤ x8_1) = true := decide_eq_true c3
     clear c3
     by_cases c4 : x8_1 < (l0.length : Int)
     ·rw [if_pos c4] at H
      have c4b0 : decide (x8_1 < (l0.length : Int)) = true := decide_eq_true c4
      clear c4
      have H' := Aside0.mk H
      clear H
      have p101 : 0 ≤ (x8_1 : Int) := of_decide_eq_true (by first | (with_reducible assumption) | assumption)
      have q101 : x8_1 < (l0.length : Int) := of_decide_eq_true (by first | (with_reducible assumption) | assumption)
      obtain ⟨ad101, e101, hx101_0⟩ := Kd.at_int HR0.out x8_1 p101 q101
      cases e101
      replace p101 := eq_true p101
      replace q101 := eq_true q101
      go_wp2
      go_roundg k1
      case measure => have := HK1.out; omega
      case rel => exact ⟨(Go.bits .or .u64 (IntKind.u64.wrap (x3_1 * 256)) (IntKind.u64.wrap (rd l0 x8_1))), (wrap64 (x8_1 + 1)), (by first | rfl | (simp; done) | (simp [*]; done)), (by first | rfl | (simp; done) | (simp [*]; done)), H', ⟨by have := HK1.out; omega⟩, by repeat (first | exact Drawn0.refl _ | apply Drawn0.step)⟩
     ·rw [if_neg c4] at H
      exact absurd H (by simp)
    ·rw [if_neg c3] at H
     exact absurd H (by simp)
   ·rw [if_neg c2] at H
    have c2b0 : decide (x8_1 < (l0.length : Int)) = false := decide_eq_false c2
    clear c2
    obtain rfl := Option.some.inj H
    go_wp2
    go_ret
    exact ⟨by first | rfl | (simp; done) | (simp [*]; done), by repeat (first | exact Drawn0.refl _ | apply Drawn0.step)⟩
end Go.Proofs.Yteoibgpkimlahaa.P
end
section
namespace Go.Proofs.Yteoibgpkimlahaa.P
open Go.RowKit Go.Proofs.YteoibgpkimlahaaW.PrintWords Go.Proofs.YteoibgpkimlahaaW.PrintLast Go.Proofs.YteoibgpkimlahaaW.PrintMore
attribute [local go_sem] max2_int min2_int max_two min_two max_three min_three max_four min_four   
set_option linter.unusedVariables false
set_option linter.unusedSimpArgs false
def fixed_fits.f (a0 : Int) (a1 : Int) : Option (Bool) := if a1 ≥ 8 then (some true) else (if 0 ≤ (wrap64 (8 * a1)) then (some ((shr .u64 a0 (wrap64 (8 * a1))) == 0)) else (none))
set_option maxHeartbeats 8000000 in
set_option maxRecDepth 100000 in
theorem fixed_fits.calls (a0 : Int) (a1 : Int) (r : Bool) (w : World) (h : fixed_fits.f a0 a1 = some r) :
  Calls Try.prog 65 #[.int .u64 a0, .int .i64 a1] w fun e w' => e = .returned (.bool r) ∧ Drawn0 w w' := by
 have H : (if a1 ≥ 8 then (some true) else (if 0 ≤ (wrap64 (8 * a1)) then (some ((shr .u64 a0 (wrap64 (8 * a1))) == 0)) else (none))) = some r := h
 clear h
 by_cases c3 : a1 ≥ 8
 ·rw [if_pos c3] at H
  have c3b0 : decide (8 ≤ a1) = true := decide_eq_true c3
  clear c3
  obtain rfl := Option.some.inj H
  go_enter Try.func65, Try.ntmps65
  go_wp2
  go_ret
  exact ⟨by first | rfl | (simp; done) | (simp [*]; done), by repeat (first | exact Drawn0.refl _ | apply Drawn0.step)⟩
 ·rw [if_neg c3] at H
  have c3b0 : decide (8 ≤ a1) = false := decide_eq_false c3
  clear c3
  obtain ⟨ji4, hji4⟩ : ∃ j_ : Int, (wrap64 (8 * a1)) = j_ := ⟨_, rfl⟩
  replace H : (if 0 ≤ (ji4) then (some ((shr .u64 a0 (ji4)) == 0)) else (none)) = some r := by first | (rw [hji4] at H; exact H) | (simp only [hji4] at H ⊢; exact H)
  have hji4w : (IntKind.i64.wrap (8 * a1)) = ji4 := (i64_w _).trans hji4
  by_cases c5 : 0 ≤ (ji4)
  ·rw [if_pos c5] at H
   have c5b0 := eq_true c5
   have c5b1 : decide (0 ≤ (ji4)) = true := decide_eq_true c5
   clear c5
   obtain ⟨ji6, hji6⟩ : ∃ j_ : Int, (shr .u64 a0 (ji4)) = j_ := ⟨_, rfl⟩
   replace H : (some ((ji6) == 0)) = some r := by first | (rw [hji6] at H; exact H) | (simp only [hji6] at H ⊢; exact H)
   have hji6_ : (a0 / 2 ^ min (ji4).toNat 64) = ji6 := hji6
   have hji6z : (ji4) ≤ 64 → (a0 / 2 ^ (ji4).toNat) = ji6 := shr_small hji6
   obtain rfl := Option.some.inj H
   go_enter Try.func65, Try.ntmps65
   go_wp2
   go_ret
   exact ⟨by first | rfl | (simp; done) | (simp only [← hji4, ← hji6] <;> (first | rfl | simp)) | (simp [*]; done), by repeat (first | exact Drawn0.refl _ | apply Drawn0.step)⟩
  ·rw [if_neg c5] at H
   exact absurd H (by simp)
end Go.Proofs.Yteoibgpkimlahaa.P
end
section
namespace Go.Proofs.Yteoibgpkimlahaa.P
open Go.RowKit Go.Proofs.YteoibgpkimlahaaW.PrintWords Go.Proofs.YteoibgpkimlahaaW.PrintLast Go.Proofs.YteoibgpkimlahaaW.PrintMore
attribute [local go_sem] max2_int min2_int max_two min_two max_three min_three max_four min_four   
set_option linter.unusedVariables false
set_option linter.unusedSimpArgs false
def fixed_digits.l0 : Nat → Int → List Int → Int → Int → Option (List Int)
 | 0, _, _, _, _ => none
 | k + 1, x0, x5, x10, x11 => if x11 < x10 then (if 0 ≤ (wrap64 (8 * x11)) then (if 0 ≤ x11 then (if x11 < (x5.length : Int) then (fixed_digits.l0 k x0 (x5.set (x11 : Int).toNat ((shr .u64 x0 (wrap64 (8 * x11))) % 256)) x10 (wrap64 (x11 + 1))) else (none)) else (none)) else (none)) else (some x5)
def fixed_digits.f (k : Nat) (a0 : Int) (a1 : Int) : Option (List Int) := if 0 ≤ a1 then (if (a1 : Int).toNat ≤ 281474976710656 then ((some (List.replicate (a1 : Int).toNat 0 : List Int)).bind fun y101 => (fixed_digits.l0 k a0 y101 (y101.length : Int) 0)) else (none)) else (none)
theorem fixed_digits.mono_l : ∀ k, (∀ y0 y1 y2 y3, LeO (fixed_digits.l0 k y0 y1 y2 y3) (fixed_digits.l0 (k + 1) y0 y1 y2 y3))
 | 0 => fun _ _ _ _ r h => by simp [fixed_digits.l0] at h
 | k + 1 => by
  have ih0 := fixed_digits.mono_l k
  ·intro y0 y1 y2 y3
   unfold fixed_digits.l0
   repeat' first
   | (with_reducible exact ih0 _ _ _ _)
   | (with_reducible exact LeO.refl _)
   | (with_reducible exact LeO.none _)
   | (with_reducible refine LeO.ite ?_ ?_)
   | (with_reducible refine LeO.bind ?_ (fun _ => ?_))
   | exact ih0 _ _ _ _
   | exact LeO.none _
   | refine LeO.ite ?_ ?_
   | refine LeO.bind ?_ (fun _ => ?_)
theorem fixed_digits.mono : ∀ a0 a1 k, LeO (fixed_digits.f k a0 a1) (fixed_digits.f (k + 1) a0 a1) := by
 intro a0 a1 k
 have ih0 := fixed_digits.mono_l k
 unfold fixed_digits.f
 repeat' first
   | (with_reducible exact ih0 _ _ _ _)
   | (with_reducible exact LeO.refl _)
   | (with_reducible exact LeO.none _)
   | (with_reducible refine LeO.ite ?_ ?_)
   | (with_reducible refine LeO.bind ?_ (fun _ => ?_))
   | exact ih0 _ _ _ _
   | exact LeO.none _
   | refine LeO.ite ?_ ?_
   | refine LeO.bind ?_ (fun _ => ?_)
set_option maxHeartbeats 8000000 in
set_option maxRecDepth 100000 in
theorem fixed_digits.calls (k : Nat) (a0 : Int) (a1 : Int) (r : List Int) (w : World) (h : fixed_digits.f k a0 a1 = some r) :
  Calls Try.prog 66 #[.int .u64 a0, .int .i64 a1] w fun e w' => ∃ v0_ : Value, e = .returned (v0_) ∧ Kd.R (Kd.int .u8) 5 w' w.heap.size (fun _ => True) v0_ r ∧ Below w.heap.size w w' := by
 have HB := Aside0.mk (Below.refl w.heap.size w)
 have H : (if 0 ≤ a1 then (if (a1 : Int).toNat ≤ 281474976710656 then ((some (List.replicate (a1 : Int).toNat 0 : List Int)).bind fun y101 => (fixed_digits.l0 k a0 y101 (y101.length : Int) 0)) else (none)) else (none)) = some r := h
 clear h
 by_cases c3 : 0 ≤ a1
 ·rw [if_pos c3] at H
  have c3b0 := eq_true c3
  have c3b1 : decide (0 ≤ a1) = true := decide_eq_true c3
  clear c3
  by_cases c4 : (a1 : Int).toNat ≤ 281474976710656
  ·rw [if_pos c4] at H
   have c4b0 := eq_true c4
   have c4b1 : decide ((a1 : Int).toNat ≤ 281474976710656) = true := decide_eq_true c4
   clear c4
   obtain ⟨y101, hy101⟩ : ∃ y_ : List Int, y_ = (List.replicate (a1 : Int).toNat 0) := ⟨_, rfl⟩
   replace H : (fixed_digits.l0 k a0 y101 (y101.length : Int) 0) = some r := by first | (rw [hy101]; with_reducible exact H) | (have H2_ := (Option.bind_some _ _).symm.trans H; rw [hy101]; with_reducible exact H2_) | (have H2_ := (Option.bind_some _ _).symm.trans H; with_reducible exact H2_) | with_reducible exact H | (rw [hy101]; exact H) | exact H
   have Ny101 := Aside0.mk hy101
   clear hy101
   have H' := Aside0.mk H
   clear H
   go_enter Try.func66, Try.ntmps66
   go_wp2_with (first | ((with_reducible refine gate_dst (N := 8) rfl ?_); refine Kd.R_make (Kd.int .u8) _ 5 rfl (N := 8) rfl 100 _ _ rfl a1 rfl rfl Try.underlying100 (.int .u8 0) 1 info5 rfl (by decide) (by omega) 0 (ok := fun _ => True) (okp := fun _ => True) rfl (fun _ hk => hk) trivial (of_decide_eq_true (by first | (with_reducible assumption) | assumption)) (Nat.le_trans (Nat.mul_le_mul_right _ (of_decide_eq_true (by first | (with_reducible assumption) | assumption) : a1.toNat ≤ 281474976710656)) (by omega)) (Below.refl _ _) (Nat.le_refl _) ?_; intro v102 w5 ho6 hb hg_ hnew_; clear hg_ hnew_; (first | rw [← Ny101.out] at ho6 | (simp only [Int.reduceToNat] at ho6; rw [← Ny101.out] at ho6)); have n0_ := Aside0.mk (Kd.R_lower ho6 (below_size (by repeat (first | (with_reducible first | exact HB.out | apply below_alloc | apply pw_below_drewN | apply below_drew1) | exact HB.out)))); have n1_ := Aside0.mk (below_step (by repeat (first | (with_reducible first | exact HB.out | apply below_alloc | apply pw_below_drewN | apply below_drew1) | exact HB.out)) hb); clear HB; have HO103 := n0_; have HB := n1_; clear n0_ n1_; clear hb ho6; obtain ⟨Ao7, co7, eo7⟩ := Kd.R_slice HO103.out; subst eo7))
   go_loopg [11] k (fun kq v11 w' => ∃ (x5_1 : List Int) (x11_1 : Int), v11 = .int .i64 x11_1 ∧ Aside0 (fixed_digits.l0 kq a0 x5_1 (y101.length : Int) x11_1 = some r) ∧ Aside0 (kq ≤ k) ∧ Aside0 (Kd.R (Kd.int .u8) 5 w' w.heap.size (fun _ => True) (.slice Ao7 y101.length co7) x5_1) ∧ Aside0 (Below w.heap.size w w'))
   case atStart => exact ⟨(y101), (0), (by first | rfl | (simp; done) | (simp [*]; done)), H', ⟨Nat.le_refl _⟩, ⟨by (with_reducible repeat (first | apply Kd.R_alloc | apply Kd.R_drewN | apply Kd.R_drew)); exact HO103.out⟩, ⟨by repeat (first | (with_reducible first | exact HB.out | apply below_alloc | apply pw_below_drewN | apply below_drew1) | exact HB.out)⟩⟩
   case round =>
    clear H'
    try clear p2
    try clear c3
    try clear c3b0
    try clear c3b1
    try clear c4
    try clear c4b0
    try clear c4b1
    try clear c6
    obtain ⟨x5_1, x11_1, rfl, HA, HK1, HO_5, HB⟩ := hrel
    have hl5_1 := (Kd.R_reads' HO_5.out).1
    rw [hl5_1] at HO_5
    (try simp only [hl5_1])
    cases gk with
    | zero => exact absurd HA.out (by simp [fixed_digits.l0])
    | succ k1 =>
     have H := HA.out
     clear HA
     simp only [fixed_digits.l0] at H
     by_cases c8 : x11_1 < (y101.length : Int)
     ·rw [if_pos c8] at H
      have c8b0 : decide (x11_1 < (y101.length : Int)) = true := decide_eq_true c8
      clear c8
      obtain ⟨ji9, hji9⟩ : ∃ j_ : Int, (wrap64 (8 * x11_1)) = j_ := ⟨_, rfl⟩
      replace H : (if 0 ≤ (ji9) then (if 0 ≤ x11_1 then (if x11_1 < (x5_1.length : Int) then (fixed_digits.l0 k1 a0 (x5_1.set (x11_1 : Int).toNat ((shr .u64 a0 (ji9)) % 256)) (y101.length : Int) (wrap64 (x11_1 + 1))) else (none)) else (none)) else (none)) = some r := by first | (rw [hji9] at H; exact H) | (simp only [hji9] at H ⊢; exact H)
      have hji9w : (IntKind.i64.wrap (8 * x11_1)) = ji9 := (i64_w _).trans hji9
      by_cases c10 : 0 ≤ (ji9)
      ·rw [if_pos c10] at H
       have c10b0 := eq_true c10
       have c10b1 : decide (0 ≤ (ji9)) = true := decide_eq_true c10
       clear c10
       obtain ⟨ji11, hji11⟩ : ∃ j_ : Int, (shr .u64 a0 (ji9)) = j_ := ⟨_, rfl⟩
       replace H : (if 0 ≤ x11_1 then (if x11_1 < (x5_1.length : Int) then (fixed_digits.l0 k1 a0 (x5_1.set (x11_1 : Int).toNat ((ji11) % 256)) (y101.length : Int) (wrap64 (x11_1 + 1))) else (none)) else (none)) = some r := by first | (rw [hji11] at H; exact H) | (simp only [hji11] at H ⊢; exact H)
       have hji11_ : (a0 / 2 ^ min (ji9).toNat 64) = ji11 := hji11
       have hji11z : (ji9) ≤ 64 → (a0 / 2 ^ (ji9).toNat) = ji11 := shr_small hji11
       by_cases c12 : 0 ≤ x11_1
       ·rw [if_pos c12] at H
        have c12b0 : decide (0 ≤ x11_1) = true := decide_eq_true c12
        clear c12
        by_cases c13 : x11_1 < (x5_1.length : Int)
        ·rw [if_pos c13] at H
         have c13b0 : decide (x11_1 < (x5_1.length : Int)) = true := decide_eq_true c13
         clear c13
         obtain ⟨y104, hy104⟩ : ∃ y_ : List Int, y_ = (x5_1.set (x11_1 : Int).toNat ((ji11) % 256)) := ⟨_, rfl⟩
         replace H : (fixed_digits.l0 k1 a0 y104 (y101.length : Int) (wrap64 (x11_1 + 1))) = some r := by first | (rw [hy104]; with_reducible exact H) | (have H2_ := (Option.bind_some _ _).symm.trans H; rw [hy104]; with_reducible exact H2_) | (have H2_ := (Option.bind_some _ _).symm.trans H; with_reducible exact H2_) | with_reducible exact H | (rw [hy104]; exact H) | exact H
         have Ny104 := Aside0.mk hy104
         clear hy104
         have H' := Aside0.mk H
         clear H
         have p14 : 0 ≤ (x11_1 : Int) := of_decide_eq_true (by first | (with_reducible assumption) | assumption)
         have q14 : (x11_1 : Int) < ((x5_1.length : Int) : Int) := of_decide_eq_true (by first | (with_reducible assumption) | assumption)
         obtain ⟨go14, co14, eo14, gb14, gl14, cl14, HG14⟩ := Kd.R_form HO_5.out (by omega)
         (first | cases eo14 | (injection eo14 with ea_ en_ ec_; (first | subst ea_ | (injection ea_ with ea_; subst ea_)); subst ec_; clear en_))
         have GB14 := Aside0.mk gb14
         have GG14 := Aside0.mk HG14
         clear gb14 gl14 HG14
         obtain ⟨hx14_0, hf14_0⟩ := Kd.R_celln 0 HO_5.out (x11_1 : Int) p14 q14
         replace p14 := eq_true p14
         replace q14 := eq_true q14
         have HP15 := Kd.R_putg HO_5.out (x11_1 : Int) ((ji11) % 256)
         go_wp2_with (first | ((with_reducible refine gate_store (t := 5) (p := 21) rfl ?_); refine store_event (t := 5) (p := 21) (v := ?vo_w16) (w1 := (wr.setCell ⟨go14, (x11_1 : Int).toNat, none⟩ (.int .u8 ((ji11) % 256)))) ?hg ?ho ?hn ?hr ?_; (case ho => rfl); (case hg => rfl); (case hn => rfl); (case hr => first | (go_simp; done) | (go_simp; rfl)); intro w16 hw; have hg : wr.grownBy w16 (some go14) := (by rw [hw]; exact HP15.2); have hp_ : Kd.R (Kd.int .u8) 5 w16 w.heap.size (fun _ => True) (.slice (some ⟨go14, 0, none⟩) x5_1.length co7) y104 := (by rw [hw, Ny104.out]; exact HP15.1); clear HP15; have n0_ := Aside0.mk (hp_); have n1_ := Aside0.mk ((by rw [hw]; exact below_set (HB.out) GB14.out : Below w.heap.size w w16)); clear HO_5; clear HB; have HO_5 := n0_; have HB := n1_; clear n0_ n1_; clear hg hw hp_))
         (try simp only [← hl5_1])
         go_roundg k1
         case measure => have := HK1.out; omega
         case rel => exact ⟨(y104), (wrap64 (x11_1 + 1)), (by first | rfl | (simp; done) | (simp [*]; done)), H', ⟨by have := HK1.out; omega⟩, ⟨by (try simp only [hl5_1]); (with_reducible repeat (first | apply Kd.R_alloc | apply Kd.R_drewN | apply Kd.R_drew)); exact HO_5.out⟩, ⟨by repeat (first | (with_reducible first | exact HB.out | apply below_alloc | apply pw_below_drewN | apply below_drew1) | exact HB.out)⟩⟩
        ·rw [if_neg c13] at H
         exact absurd H (by simp)
       ·rw [if_neg c12] at H
        exact absurd H (by simp)
      ·rw [if_neg c10] at H
       exact absurd H (by simp)
     ·rw [if_neg c8] at H
      have c8b0 : decide (x11_1 < (y101.length : Int)) = false := decide_eq_false c8
      rw [hl5_1] at c8b0
      clear c8
      obtain rfl := Option.some.inj H
      go_wp2
      go_ret
      exact ⟨_, by first | rfl | (simp [errW_none, errW_some] <;> rfl) | (simp [*, errW_none, errW_some] <;> rfl), by (with_reducible repeat (first | apply Kd.R_alloc | apply Kd.R_drewN | apply Kd.R_drew)); exact HO_5.out, by repeat (first | (with_reducible first | exact HB.out | apply below_alloc | apply pw_below_drewN | apply below_drew1) | exact HB.out)⟩
  ·rw [if_neg c4] at H
   exact absurd H (by simp)
 ·rw [if_neg c3] at H
  exact absurd H (by simp)
end Go.Proofs.Yteoibgpkimlahaa.P
end
