/- What two agree on is the same whichever is asked first, and it is the document's. (part 8 of 19) -/
import Derived.Test.YteoibgpkimlahaaB6
import Derived.Test.YteoibgpkimlahaaB7
section
namespace Go.Proofs.Yteoibgpkimlahaa.P
open Go.RowKit Go.Proofs.YteoibgpkimlahaaW.PrintWords Go.Proofs.YteoibgpkimlahaaW.PrintLast Go.Proofs.YteoibgpkimlahaaW.PrintMore
attribute [local go_sem] max2_int min2_int max_two min_two max_three min_three max_four min_four   
set_option linter.unusedVariables false
set_option linter.unusedSimpArgs false
mutual
def hatchwayref32_May.j0 : Nat → Bool → Int → Int → List (S58) → Option (Bool)
 | 0, _, _, _, _ => none
 | k + 1, x25, x102000, x102001, x102002 => if x25 = true then (some false) else (hatchwayref32_May.l0 k 0 x102000 x102001 x102002)
def hatchwayref32_May.l0 : Nat → Int → Int → Int → List (S58) → Option (Bool)
 | 0, _, _, _, _ => none
 | k + 1, x3, x102000, x102001, x102002 => if x3 < (x102002.length : Int) then (if 0 ≤ x3 then ((hatchwayref13_May.f k ((rd_T58 x102002 x3).f0)).bind fun t104 => (if t104 = true then (if ((rd_T58 x102002 x3).f1) < 1 then (hatchwayref32_May.j2 k x3 true x102000 x102001 x102002 ((rd_T58 x102002 x3).f0) ((rd_T58 x102002 x3).f1)) else (hatchwayref32_May.j2 k x3 (decide (((rd_T58 x102002 x3).f1) > 255)) x102000 x102001 x102002 ((rd_T58 x102002 x3).f0) ((rd_T58 x102002 x3).f1))) else (hatchwayref32_May.j2 k x3 true x102000 x102001 x102002 ((rd_T58 x102002 x3).f0) ((rd_T58 x102002 x3).f1)))) else (none)) else (some true)
def hatchwayref32_May.j2 : Nat → Int → Bool → Int → Int → List (S58) → ByteArray → Int → Option (Bool)
 | 0, _, _, _, _, _, _, _ => none
 | k + 1, x3, x51, x102000, x102001, x102002, x104000, x104001 => if x51 = true then (some false) else (if x3 > 0 then (if 0 ≤ (wrap64 (x3 - 1)) then (if (wrap64 (x3 - 1)) < (x102002.length : Int) then (if (Op.bytesLess (((rd_T58 x102002 (wrap64 (x3 - 1))).f0).toList) x104000.toList) = true then (hatchwayref32_May.l0 k (wrap64 (x3 + 1)) x102000 x102001 x102002) else (if ((rd_T58 x102002 (wrap64 (x3 - 1))).f0).toList = x104000.toList then (if (((rd_T58 x102002 (wrap64 (x3 - 1))).f1) < x104001) then (hatchwayref32_May.l0 k (wrap64 (x3 + 1)) x102000 x102001 x102002) else (some false)) else (some false))) else (none)) else (none)) else (hatchwayref32_May.l0 k (wrap64 (x3 + 1)) x102000 x102001 x102002))
end
def hatchwayref32_May.f (k : Nat) (a0_0 : Int) (a0_1 : Int) (l0_2 : List (S58)) : Option (Bool) := if a0_0 < 1 then (hatchwayref32_May.j0 k true a0_0 a0_1 l0_2) else (if a0_0 > a0_1 then (hatchwayref32_May.j0 k true a0_0 a0_1 l0_2) else (if a0_1 > 65535 then (hatchwayref32_May.j0 k true a0_0 a0_1 l0_2) else (hatchwayref32_May.j0 k (decide ((l0_2.length : Int) > 16)) a0_0 a0_1 l0_2)))
theorem hatchwayref32_May.mono_l : ∀ k, (∀ y0 y1 y2 y3, LeO (hatchwayref32_May.j0 k y0 y1 y2 y3) (hatchwayref32_May.j0 (k + 1) y0 y1 y2 y3)) ∧ (∀ y0 y1 y2 y3, LeO (hatchwayref32_May.l0 k y0 y1 y2 y3) (hatchwayref32_May.l0 (k + 1) y0 y1 y2 y3)) ∧ (∀ y0 y1 y2 y3 y4 y5 y6, LeO (hatchwayref32_May.j2 k y0 y1 y2 y3 y4 y5 y6) (hatchwayref32_May.j2 (k + 1) y0 y1 y2 y3 y4 y5 y6))
 | 0 => ⟨fun _ _ _ _ r h => by simp [hatchwayref32_May.j0] at h, fun _ _ _ _ r h => by simp [hatchwayref32_May.l0] at h, fun _ _ _ _ _ _ _ r h => by simp [hatchwayref32_May.j2] at h⟩
 | k + 1 => by
  obtain ⟨ih0, ih1, ih2⟩ := hatchwayref32_May.mono_l k
  refine ⟨?_, ?_, ?_⟩
  ·intro y0 y1 y2 y3
   unfold hatchwayref32_May.j0
   repeat' first
   | (with_reducible exact ih0 _ _ _ _)
   | (with_reducible exact ih1 _ _ _ _)
   | (with_reducible exact ih2 _ _ _ _ _ _ _)
   | (with_reducible exact hatchwayref13_May.mono _ _)
   | (with_reducible exact LeO.refl _)
   | (with_reducible exact LeO.none _)
   | (with_reducible refine LeO.ite ?_ ?_)
   | (with_reducible refine LeO.bind ?_ (fun _ => ?_))
   | exact ih0 _ _ _ _
   | exact ih1 _ _ _ _
   | exact ih2 _ _ _ _ _ _ _
   | exact hatchwayref13_May.mono _ _
   | exact LeO.none _
   | refine LeO.ite ?_ ?_
   | refine LeO.bind ?_ (fun _ => ?_)
  ·intro y0 y1 y2 y3
   unfold hatchwayref32_May.l0
   repeat' first
   | (with_reducible exact ih0 _ _ _ _)
   | (with_reducible exact ih1 _ _ _ _)
   | (with_reducible exact ih2 _ _ _ _ _ _ _)
   | (with_reducible exact hatchwayref13_May.mono _ _)
   | (with_reducible exact LeO.refl _)
   | (with_reducible exact LeO.none _)
   | (with_reducible refine LeO.ite ?_ ?_)
   | (with_reducible refine LeO.bind ?_ (fun _ => ?_))
   | exact ih0 _ _ _ _
   | exact ih1 _ _ _ _
   | exact ih2 _ _ _ _ _ _ _
   | exact hatchwayref13_May.mono _ _
   | exact LeO.none _
   | refine LeO.ite ?_ ?_
   | refine LeO.bind ?_ (fun _ => ?_)
  ·intro y0 y1 y2 y3 y4 y5 y6
   unfold hatchwayref32_May.j2
   repeat' first
   | (with_reducible exact ih0 _ _ _ _)
   | (with_reducible exact ih1 _ _ _ _)
   | (with_reducible exact ih2 _ _ _ _ _ _ _)
   | (with_reducible exact hatchwayref13_May.mono _ _)
   | (with_reducible exact LeO.refl _)
   | (with_reducible exact LeO.none _)
   | (with_reducible refine LeO.ite ?_ ?_)
   | (with_reducible refine LeO.bind ?_ (fun _ => ?_))
   | exact ih0 _ _ _ _
   | exact ih1 _ _ _ _
   | exact ih2 _ _ _ _ _ _ _
   | exact hatchwayref13_May.mono _ _
   | exact LeO.none _
   | refine LeO.ite ?_ ?_
   | refine LeO.bind ?_ (fun _ => ?_)
theorem hatchwayref32_May.mono : ∀ a0 a1 a2 k, LeO (hatchwayref32_May.f k a0 a1 a2) (hatchwayref32_May.f (k + 1) a0 a1 a2) := by
 intro a0 a1 a2 k
 obtain ⟨ih0, ih1, ih2⟩ := hatchwayref32_May.mono_l k
 unfold hatchwayref32_May.f
 repeat' first
   | (with_reducible exact ih0 _ _ _ _)
   | (with_reducible exact ih1 _ _ _ _)
   | (with_reducible exact ih2 _ _ _ _ _ _ _)
   | (with_reducible exact hatchwayref13_May.mono _ _)
   | (with_reducible exact LeO.refl _)
   | (with_reducible exact LeO.none _)
   | (with_reducible refine LeO.ite ?_ ?_)
   | (with_reducible refine LeO.bind ?_ (fun _ => ?_))
   | exact ih0 _ _ _ _
   | exact ih1 _ _ _ _
   | exact ih2 _ _ _ _ _ _ _
   | exact hatchwayref13_May.mono _ _
   | exact LeO.none _
   | refine LeO.ite ?_ ?_
   | refine LeO.bind ?_ (fun _ => ?_)
set_option maxHeartbeats 8000000 in
set_option maxRecDepth 100000 in
theorem hatchwayref32_May.calls (k : Nat) (a0_0 : Int) (a0_1 : Int) (A0_2 : Option Addr) (c0_2 : Nat) (l0_2 : List (S58)) (r : Bool) (w : World) (hr0_2 : Kd.C k58 w A0_2 l0_2.length l0_2) (hc0_2 : l0_2.length ≤ c0_2) (h : hatchwayref32_May.f k a0_0 a0_1 l0_2 = some r) :
  Calls Try.prog 31 #[.agg #[.int .i64 a0_0, .int .i64 a0_1, .slice A0_2 l0_2.length c0_2]] w fun e w' => e = .returned (.bool r) ∧ Below w.heap.size w w' := by
 have hu39 := Try.underlying39
 have hu58 := Try.underlying58
 have HR0_2 := Aside0.mk hr0_2
 have HC0_2 := Aside0.mk hc0_2
 clear hr0_2 hc0_2
 have HB := Aside0.mk (Below.refl w.heap.size w)
 have H : (if a0_0 < 1 then (hatchwayref32_May.j0 k true a0_0 a0_1 l0_2) else (if a0_0 > a0_1 then (hatchwayref32_May.j0 k true a0_0 a0_1 l0_2) else (if a0_1 > 65535 then (hatchwayref32_May.j0 k true a0_0 a0_1 l0_2) else (hatchwayref32_May.j0 k (decide ((l0_2.length : Int) > 16)) a0_0 a0_1 l0_2)))) = some r := h
 clear h
 have HC2 := Aside0.mk H
 clear H
 go_enter Try.func31, Try.ntmps31
 go_upto_region 1 with (first | ((with_reducible refine gate_dst (N := 1) rfl ?_); (try (refine gate_guard (by rfl) ?_; dsimp only)); refine box_event ?hg (N := 1) ?hd (cs := #[.int .i64 a0_0, .int .i64 a0_1, .slice A0_2 l0_2.length c0_2]) (t := 39) ?hr ?_; (case hd => rfl); (case hg => rfl); (case hr => first | (go_simp; done) | (go_simp; rfl)); intro gb101 hg w3 hbox hb; have n0_ := Aside0.mk (below_step (by repeat (first | (with_reducible first | exact HB.out | apply below_alloc | apply pw_below_drewN | apply below_drew1) | exact HB.out)) hb); have n1_ := Aside0.mk (hbox); have n2_ := Aside0.mk ((by rw [hg]; exact (below_size (by repeat (first | (with_reducible first | exact HB.out | apply below_alloc | apply pw_below_drewN | apply below_drew1) | exact HB.out))) : w.heap.size ≤ gb101)); have n3_ := Aside0.mk ((by rw [hg]; exact (below_size (by repeat (first | (with_reducible first | exact HB.out | apply below_alloc | apply pw_below_drewN | apply below_drew1) | exact HB.out))) : w.heap.size ≤ gb101)); clear HB; have HB := n0_; have BK101 := n1_; have GW101 := n2_; have GE101 := n3_; clear n0_ n1_ n2_ n3_; clear hb hbox hg))
 repeat (go_quiet (first | ((with_reducible refine gate_dst (N := 1) rfl ?_); (try (refine gate_guard (by rfl) ?_; dsimp only)); refine box_event ?hg (N := 1) ?hd (cs := #[.int .i64 a0_0, .int .i64 a0_1, .slice A0_2 l0_2.length c0_2]) (t := 39) ?hr ?_; (case hd => rfl); (case hg => rfl); (case hr => first | (go_simp; done) | (go_simp; rfl)); intro gb101 hg w3 hbox hb; have n0_ := Aside0.mk (below_step (by repeat (first | (with_reducible first | exact HB.out | apply below_alloc | apply pw_below_drewN | apply below_drew1) | exact HB.out)) hb); have n1_ := Aside0.mk (hbox); have n2_ := Aside0.mk ((by rw [hg]; exact (below_size (by repeat (first | (with_reducible first | exact HB.out | apply below_alloc | apply pw_below_drewN | apply below_drew1) | exact HB.out))) : w.heap.size ≤ gb101)); have n3_ := Aside0.mk ((by rw [hg]; exact (below_size (by repeat (first | (with_reducible first | exact HB.out | apply below_alloc | apply pw_below_drewN | apply below_drew1) | exact HB.out))) : w.heap.size ≤ gb101)); clear HB; have HB := n0_; have BK101 := n1_; have GW101 := n2_; have GE101 := n3_; clear n0_ n1_ n2_ n3_; clear hb hbox hg)); go_upto_region 1 with (first | ((with_reducible refine gate_dst (N := 1) rfl ?_); (try (refine gate_guard (by rfl) ?_; dsimp only)); refine box_event ?hg (N := 1) ?hd (cs := #[.int .i64 a0_0, .int .i64 a0_1, .slice A0_2 l0_2.length c0_2]) (t := 39) ?hr ?_; (case hd => rfl); (case hg => rfl); (case hr => first | (go_simp; done) | (go_simp; rfl)); intro gb101 hg w3 hbox hb; have n0_ := Aside0.mk (below_step (by repeat (first | (with_reducible first | exact HB.out | apply below_alloc | apply pw_below_drewN | apply below_drew1) | exact HB.out)) hb); have n1_ := Aside0.mk (hbox); have n2_ := Aside0.mk ((by rw [hg]; exact (below_size (by repeat (first | (with_reducible first | exact HB.out | apply below_alloc | apply pw_below_drewN | apply below_drew1) | exact HB.out))) : w.heap.size ≤ gb101)); have n3_ := Aside0.mk ((by rw [hg]; exact (below_size (by repeat (first | (with_reducible first | exact HB.out | apply below_alloc | apply pw_below_drewN | apply below_drew1) | exact HB.out))) : w.heap.size ≤ gb101)); clear HB; have HB := n0_; have BK101 := n1_; have GW101 := n2_; have GE101 := n3_; clear n0_ n1_ n2_ n3_; clear hb hbox hg)))
 (try simp only [Act.put, List.setIfInBounds_toArray, List.set_cons_zero, List.set_cons_succ])
 go_cut [25] (fun v25 wc => ∃ (kq : Nat) (x25_1 : Bool), v25 = .bool x25_1 ∧ Aside0 (hatchwayref32_May.j0 kq x25_1 a0_0 a0_1 l0_2 = some r) ∧ Aside0 (kq ≤ k) ∧ Aside0 (wc.heap[gb101]? = some (.cells #[.int .i64 a0_0, .int .i64 a0_1, (.slice A0_2 l0_2.length c0_2)] 39 (0, 0))) ∧ Aside0 (Below w.heap.size w wc))
 case first =>
  have H := HC2.out
  clear HC2
  by_cases c4 : a0_0 < 1
  ·rw [if_pos c4] at H
   have c4b0 : decide (a0_0 < 1) = true := decide_eq_true c4
   clear c4
   (first | rw [c4b0] | (simp only [i64_w, i32_w]; rw [c4b0]) | skip)
   have H' := Aside0.mk H
   clear H
   have hcz5_0 : w3.cell? ⟨gb101, 0, none⟩ = some (.int .i64 a0_0) := (blk_cell BK101.out 0).trans rfl
   have hcz5_1 : w3.cell? ⟨gb101, 1, none⟩ = some (.int .i64 a0_1) := (blk_cell BK101.out 1).trans rfl
   have hcz5_2 : w3.cell? ⟨gb101, 2, none⟩ = some (.slice A0_2 l0_2.length c0_2) := (blk_cell BK101.out 2).trans rfl
   have hfz5_0 := blk_frozen BK101.out 0
   have hfz5_1 := blk_frozen BK101.out 1
   have hfz5_2 := blk_frozen BK101.out 2
   go_wp2
   repeat (go_quiet (fail); try go_wp2)
   go_meet
   case rel => exact ⟨_, (true), (by first | rfl | (simp; done) | (simp [*]; done)), H', ⟨by first | omega | exact Nat.le_refl _⟩, ⟨by (with_reducible repeat (first | refine blk_drewN ?_ _ | refine blk_drew ?_ | refine blk_alloc ?_ _)); exact BK101.out⟩, ⟨by repeat (first | (with_reducible first | exact HB.out | apply below_alloc | apply pw_below_drewN | apply below_drew1 | refine below_set ?_ GE101.out) | exact HB.out)⟩⟩
  ·rw [if_neg c4] at H
   have c4b0 : decide (a0_0 < 1) = false := decide_eq_false c4
   clear c4
   (first | rw [c4b0] | (simp only [i64_w, i32_w]; rw [c4b0]) | skip)
   by_cases c6 : a0_0 > a0_1
   ·rw [if_pos c6] at H
    have c6b0 : decide (a0_1 < a0_0) = true := decide_eq_true c6
    clear c6
    have H' := Aside0.mk H
    clear H
    have hcz7_0 : w3.cell? ⟨gb101, 0, none⟩ = some (.int .i64 a0_0) := (blk_cell BK101.out 0).trans rfl
    have hcz7_1 : w3.cell? ⟨gb101, 1, none⟩ = some (.int .i64 a0_1) := (blk_cell BK101.out 1).trans rfl
    have hcz7_2 : w3.cell? ⟨gb101, 2, none⟩ = some (.slice A0_2 l0_2.length c0_2) := (blk_cell BK101.out 2).trans rfl
    have hfz7_0 := blk_frozen BK101.out 0
    have hfz7_1 := blk_frozen BK101.out 1
    have hfz7_2 := blk_frozen BK101.out 2
    go_wp2
    repeat (go_quiet (fail); try go_wp2)
    go_meet
    case rel => exact ⟨_, (true), (by first | rfl | (simp; done) | (simp [*]; done)), H', ⟨by first | omega | exact Nat.le_refl _⟩, ⟨by (with_reducible repeat (first | refine blk_drewN ?_ _ | refine blk_drew ?_ | refine blk_alloc ?_ _)); exact BK101.out⟩, ⟨by repeat (first | (with_reducible first | exact HB.out | apply below_alloc | apply pw_below_drewN | apply below_drew1 | refine below_set ?_ GE101.out) | exact HB.out)⟩⟩
   ·rw [if_neg c6] at H
    have c6b0 : decide (a0_1 < a0_0) = false := decide_eq_false c6
    clear c6
    by_cases c8 : a0_1 > 65535
    ·rw [if_pos c8] at H
     have c8b0 : decide (65535 < a0_1) = true := decide_eq_true c8
     clear c8
     have H' := Aside0.mk H
     clear H
     have hcz9_0 : w3.cell? ⟨gb101, 0, none⟩ = some (.int .i64 a0_0) := (blk_cell BK101.out 0).trans rfl
     have hcz9_1 : w3.cell? ⟨gb101, 1, none⟩ = some (.int .i64 a0_1) := (blk_cell BK101.out 1).trans rfl
     have hcz9_2 : w3.cell? ⟨gb101, 2, none⟩ = some (.slice A0_2 l0_2.length c0_2) := (blk_cell BK101.out 2).trans rfl
     have hfz9_0 := blk_frozen BK101.out 0
     have hfz9_1 := blk_frozen BK101.out 1
     have hfz9_2 := blk_frozen BK101.out 2
     go_wp2
     repeat (go_quiet (fail); try go_wp2)
     go_meet
     case rel => exact ⟨_, (true), (by first | rfl | (simp; done) | (simp [*]; done)), H', ⟨by first | omega | exact Nat.le_refl _⟩, ⟨by (with_reducible repeat (first | refine blk_drewN ?_ _ | refine blk_drew ?_ | refine blk_alloc ?_ _)); exact BK101.out⟩, ⟨by repeat (first | (with_reducible first | exact HB.out | apply below_alloc | apply pw_below_drewN | apply below_drew1 | refine below_set ?_ GE101.out) | exact HB.out)⟩⟩
    ·rw [if_neg c8] at H
     have c8b0 : decide (65535 < a0_1) = false := decide_eq_false c8
     clear c8
     have H' := Aside0.mk H
     clear H
     have hcz10_0 : w3.cell? ⟨gb101, 0, none⟩ = some (.int .i64 a0_0) := (blk_cell BK101.out 0).trans rfl
     have hcz10_1 : w3.cell? ⟨gb101, 1, none⟩ = some (.int .i64 a0_1) := (blk_cell BK101.out 1).trans rfl
     have hcz10_2 : w3.cell? ⟨gb101, 2, none⟩ = some (.slice A0_2 l0_2.length c0_2) := (blk_cell BK101.out 2).trans rfl
     have hfz10_0 := blk_frozen BK101.out 0
     have hfz10_1 := blk_frozen BK101.out 1
     have hfz10_2 := blk_frozen BK101.out 2
     go_wp2
     repeat (go_quiet (fail); try go_wp2)
     go_meet
     case rel => exact ⟨_, (decide ((l0_2.length : Int) > 16)), (by first | rfl | (simp; done) | (simp [*]; done)), H', ⟨by first | omega | exact Nat.le_refl _⟩, ⟨by (with_reducible repeat (first | refine blk_drewN ?_ _ | refine blk_drew ?_ | refine blk_alloc ?_ _)); exact BK101.out⟩, ⟨by repeat (first | (with_reducible first | exact HB.out | apply below_alloc | apply pw_below_drewN | apply below_drew1 | refine below_set ?_ GE101.out) | exact HB.out)⟩⟩
 case rest =>
  clear HC2
  try clear p2
  try clear c3
  try clear c4
  try clear c4b0
  try clear c6
  try clear c6b0
  try clear c8
  try clear c8b0
  try clear hcz10_0
  try clear hcz10_1
  try clear hcz10_2
  try clear hcz5_0
  try clear hcz5_1
  try clear hcz5_2
  try clear hcz7_0
  try clear hcz7_1
  try clear hcz7_2
  try clear hcz9_0
  try clear hcz9_1
  try clear hcz9_2
  try clear hfz10_0
  try clear hfz10_1
  try clear hfz10_2
  try clear hfz5_0
  try clear hfz5_1
  try clear hfz5_2
  try clear hfz7_0
  try clear hfz7_1
  try clear hfz7_2
  try clear hfz9_0
  try clear hfz9_1
  try clear hfz9_2
  obtain ⟨kq, x25_1, rfl, HA, HJ1, BK101, HB⟩ := hcut
  cases kq with
  | zero => exact absurd HA.out (by simp [hatchwayref32_May.j0])
  | succ kj1 =>
   have H := HA.out
   clear HA
   simp only [hatchwayref32_May.j0] at H
   by_cases c11 : x25_1 = true
   ·subst c11
    have H1 : (some false) = some r := by rw [if_pos rfl] at H; exact H
    clear H
    have H := H1
    clear H1
    obtain rfl := Option.some.inj H
    go_wp2
    repeat (go_quiet (fail); try go_wp2)
    go_ret
    exact ⟨by first | rfl | (simp [errW_none, errW_some] <;> rfl) | (simp [*, errW_none, errW_some] <;> rfl), by repeat (first | (with_reducible first | exact HB.out | apply below_alloc | apply pw_below_drewN | apply below_drew1 | refine below_set ?_ GE101.out) | exact HB.out)⟩
   ·replace c11 := Bool.eq_false_iff.mpr c11
    subst c11
    have H1 : (hatchwayref32_May.l0 kj1 0 a0_0 a0_1 l0_2) = some r := by rw [if_neg (show ¬ (false = true) by decide)] at H; exact H
    clear H
    have H := H1
    clear H1
    have H' := Aside0.mk H
    clear H
    go_wp2
    repeat (go_quiet (fail); try go_wp2)
    go_loopg [3] kj1 (fun kq v3 w' => ∃ (x3_2 : Int), v3 = .int .i64 x3_2 ∧ Aside0 (hatchwayref32_May.l0 kq x3_2 a0_0 a0_1 l0_2 = some r) ∧ Aside0 (kq ≤ kj1) ∧ Aside0 (w'.heap[gb101]? = some (.cells #[.int .i64 a0_0, .int .i64 a0_1, (.slice A0_2 l0_2.length c0_2)] 39 (0, 0))) ∧ Aside0 (Below w.heap.size w w'))
    case atStart => exact ⟨(0), (by first | rfl | (simp; done) | (simp [*]; done)), H', ⟨Nat.le_refl _⟩, ⟨by (with_reducible repeat (first | refine blk_drewN ?_ _ | refine blk_drew ?_ | refine blk_alloc ?_ _)); exact BK101.out⟩, ⟨by repeat (first | (with_reducible first | exact HB.out | apply below_alloc | apply pw_below_drewN | apply below_drew1 | refine below_set ?_ GE101.out) | exact HB.out)⟩⟩
    case round =>
     clear H'
     try clear c1
     try clear p2
     try clear c3
     try clear c4
     try clear c4b0
     try clear c6
     try clear c6b0
     try clear c8
     try clear c8b0
     try clear c11
     try clear hcz10_0
     try clear hcz10_1
     try clear hcz10_2
     try clear hcz5_0
     try clear hcz5_1
     try clear hcz5_2
     try clear hcz7_0
     try clear hcz7_1
     try clear hcz7_2
     try clear hcz9_0
     try clear hcz9_1
     try clear hcz9_2
     try clear hfz10_0
     try clear hfz10_1
     try clear hfz10_2
     try clear hfz5_0
     try clear hfz5_1
     try clear hfz5_2
     try clear hfz7_0
     try clear hfz7_1
     try clear hfz7_2
     try clear hfz9_0
     try clear hfz9_1
     try clear hfz9_2
     try clear p2
     obtain ⟨x3_2, rfl, HA, HK2, BK101, HB⟩ := hrel
     cases gk with
     | zero => exact absurd HA.out (by simp [hatchwayref32_May.l0])
     | succ k2 =>
      have H := HA.out
      clear HA
      simp only [hatchwayref32_May.l0] at H
      by_cases c12 : x3_2 < (l0_2.length : Int)
      ·rw [if_pos c12] at H
       have c12b0 : decide (x3_2 < (l0_2.length : Int)) = true := decide_eq_true c12
       clear c12
       by_cases c13 : 0 ≤ x3_2
       ·rw [if_pos c13] at H
        have c13b0 : decide (0 ≤ x3_2) = true := decide_eq_true c13
        clear c13
        have HC14 := Aside0.mk H
        clear H
        have hcz15_0 : wr.cell? ⟨gb101, 0, none⟩ = some (.int .i64 a0_0) := (blk_cell BK101.out 0).trans rfl
        have hcz15_1 : wr.cell? ⟨gb101, 1, none⟩ = some (.int .i64 a0_1) := (blk_cell BK101.out 1).trans rfl
        have hcz15_2 : wr.cell? ⟨gb101, 2, none⟩ = some (.slice A0_2 l0_2.length c0_2) := (blk_cell BK101.out 2).trans rfl
        have hfz15_0 := blk_frozen BK101.out 0
        have hfz15_1 := blk_frozen BK101.out 1
        have hfz15_2 := blk_frozen BK101.out 2
        have p102 : 0 ≤ (x3_2 : Int) := of_decide_eq_true (by first | (with_reducible assumption) | assumption)
        have q102 : x3_2 < (l0_2.length : Int) := of_decide_eq_true (by first | (with_reducible assumption) | assumption)
        obtain ⟨ad102, e102, hx102_0, hx102_1⟩ := at_T58 HR0_2.out x3_2 p102 q102
        cases e102
        replace hx102_0 := (HB.out.cell (World.block_lt_of_cell? w _ hx102_0)).trans hx102_0
        replace hx102_1 := (HB.out.cell (World.block_lt_of_cell? w _ hx102_1)).trans hx102_1
        replace p102 := eq_true p102
        replace q102 := eq_true q102
        go_upto_region 7 with (first | ((with_reducible refine gate_dst (N := 4) rfl ?_); (try (refine gate_guard (by rfl) ?_; dsimp only)); refine box_event ?hg (N := 4) ?hd (cs := #[.string (⟨#[]⟩ : ByteArray), .int .i64 0]) (t := 58) ?hr ?_; (case hd => rfl); (case hg => rfl); (case hr => first | (go_simp; done) | (go_simp; rfl)); intro gb103 hg w16 hbox hb; have n0_ := Aside0.mk (blk_below (g := gb101) (o := .cells #[.int .i64 a0_0, .int .i64 a0_1, .slice (some ad102) l0_2.length c0_2] 39 (0, 0)) (by (with_reducible repeat (first | refine blk_drewN ?_ _ | refine blk_drew ?_ | refine blk_alloc ?_ _)); exact BK101.out) hb); have n1_ := Aside0.mk (below_step (by repeat (first | (with_reducible first | exact HB.out | apply below_alloc | apply pw_below_drewN | apply below_drew1 | refine below_set ?_ GE101.out) | exact HB.out)) hb); have n2_ := Aside0.mk (hbox); have n3_ := Aside0.mk ((by rw [hg]; exact (below_size (by repeat (first | (with_reducible first | exact HB.out | apply below_alloc | apply pw_below_drewN | apply below_drew1 | refine below_set ?_ GE101.out) | exact HB.out))) : w.heap.size ≤ gb103)); have n4_ := Aside0.mk ((by rw [hg]; exact (below_size (by repeat (first | (with_reducible first | exact HB.out | apply below_alloc | apply pw_below_drewN | apply below_drew1 | refine below_set ?_ GE101.out) | exact HB.out))) : w.heap.size ≤ gb103)); have n5_ := Aside0.mk ((by rw [hg]; exact Nat.ne_of_lt (blk_lt (g := gb101) (o := .cells #[.int .i64 a0_0, .int .i64 a0_1, .slice (some ad102) l0_2.length c0_2] 39 (0, 0)) (by (with_reducible repeat (first | refine blk_drewN ?_ _ | refine blk_drew ?_ | refine blk_alloc ?_ _)); exact BK101.out)) : gb101 ≠ gb103)); have n6_ := Aside0.mk ((by rw [hg]; exact Nat.ne_of_gt (blk_lt (g := gb101) (o := .cells #[.int .i64 a0_0, .int .i64 a0_1, .slice (some ad102) l0_2.length c0_2] 39 (0, 0)) (by (with_reducible repeat (first | refine blk_drewN ?_ _ | refine blk_drew ?_ | refine blk_alloc ?_ _)); exact BK101.out)) : gb103 ≠ gb101)); clear BK101; clear HB; have BK101 := n0_; have HB := n1_; have BK103 := n2_; have GW103 := n3_; have GE103 := n4_; have NB101_103 := n5_; have NB103_101 := n6_; clear n0_ n1_ n2_ n3_ n4_ n5_ n6_; clear hb hbox hg; have hnb17 := NB103_101.out; have hnc17 := NB101_103.out; have hcz18_0 : w16.cell? ⟨gb103, 0, none⟩ = some (.string (⟨#[]⟩ : ByteArray)) := (blk_cell BK103.out 0).trans rfl; have hcz18_1 : w16.cell? ⟨gb103, 1, none⟩ = some (.int .i64 0) := (blk_cell BK103.out 1).trans rfl; have hfz18_0 := blk_frozen BK103.out 0; have hfz18_1 := blk_frozen BK103.out 1))
        repeat (go_quiet (first | ((with_reducible refine gate_dst (N := 4) rfl ?_); (try (refine gate_guard (by rfl) ?_; dsimp only)); refine box_event ?hg (N := 4) ?hd (cs := #[.string (⟨#[]⟩ : ByteArray), .int .i64 0]) (t := 58) ?hr ?_; (case hd => rfl); (case hg => rfl); (case hr => first | (go_simp; done) | (go_simp; rfl)); intro gb103 hg w16 hbox hb; have n0_ := Aside0.mk (blk_below (g := gb101) (o := .cells #[.int .i64 a0_0, .int .i64 a0_1, .slice (some ad102) l0_2.length c0_2] 39 (0, 0)) (by (with_reducible repeat (first | refine blk_drewN ?_ _ | refine blk_drew ?_ | refine blk_alloc ?_ _)); exact BK101.out) hb); have n1_ := Aside0.mk (below_step (by repeat (first | (with_reducible first | exact HB.out | apply below_alloc | apply pw_below_drewN | apply below_drew1 | refine below_set ?_ GE101.out) | exact HB.out)) hb); have n2_ := Aside0.mk (hbox); have n3_ := Aside0.mk ((by rw [hg]; exact (below_size (by repeat (first | (with_reducible first | exact HB.out | apply below_alloc | apply pw_below_drewN | apply below_drew1 | refine below_set ?_ GE101.out) | exact HB.out))) : w.heap.size ≤ gb103)); have n4_ := Aside0.mk ((by rw [hg]; exact (below_size (by repeat (first | (with_reducible first | exact HB.out | apply below_alloc | apply pw_below_drewN | apply below_drew1 | refine below_set ?_ GE101.out) | exact HB.out))) : w.heap.size ≤ gb103)); have n5_ := Aside0.mk ((by rw [hg]; exact Nat.ne_of_lt (blk_lt (g := gb101) (o := .cells #[.int .i64 a0_0, .int .i64 a0_1, .slice (some ad102) l0_2.length c0_2] 39 (0, 0)) (by (with_reducible repeat (first | refine blk_drewN ?_ _ | refine blk_drew ?_ | refine blk_alloc ?_ _)); exact BK101.out)) : gb101 ≠ gb103)); have n6_ := Aside0.mk ((by rw [hg]; exact Nat.ne_of_gt (blk_lt (g := gb101) (o := .cells #[.int .i64 a0_0, .int .i64 a0_1, .slice (some ad102) l0_2.length c0_2] 39 (0, 0)) (by (with_reducible repeat (first | refine blk_drewN ?_ _ | refine blk_drew ?_ | refine blk_alloc ?_ _)); exact BK101.out)) : gb103 ≠ gb101)); clear BK101; clear HB; have BK101 := n0_; have HB := n1_; have BK103 := n2_; have GW103 := n3_; have GE103 := n4_; have NB101_103 := n5_; have NB103_101 := n6_; clear n0_ n1_ n2_ n3_ n4_ n5_ n6_; clear hb hbox hg; have hnb17 := NB103_101.out; have hnc17 := NB101_103.out; have hcz18_0 : w16.cell? ⟨gb103, 0, none⟩ = some (.string (⟨#[]⟩ : ByteArray)) := (blk_cell BK103.out 0).trans rfl; have hcz18_1 : w16.cell? ⟨gb103, 1, none⟩ = some (.int .i64 0) := (blk_cell BK103.out 1).trans rfl; have hfz18_0 := blk_frozen BK103.out 0; have hfz18_1 := blk_frozen BK103.out 1)); go_upto_region 7 with (first | ((with_reducible refine gate_dst (N := 4) rfl ?_); (try (refine gate_guard (by rfl) ?_; dsimp only)); refine box_event ?hg (N := 4) ?hd (cs := #[.string (⟨#[]⟩ : ByteArray), .int .i64 0]) (t := 58) ?hr ?_; (case hd => rfl); (case hg => rfl); (case hr => first | (go_simp; done) | (go_simp; rfl)); intro gb103 hg w16 hbox hb; have n0_ := Aside0.mk (blk_below (g := gb101) (o := .cells #[.int .i64 a0_0, .int .i64 a0_1, .slice (some ad102) l0_2.length c0_2] 39 (0, 0)) (by (with_reducible repeat (first | refine blk_drewN ?_ _ | refine blk_drew ?_ | refine blk_alloc ?_ _)); exact BK101.out) hb); have n1_ := Aside0.mk (below_step (by repeat (first | (with_reducible first | exact HB.out | apply below_alloc | apply pw_below_drewN | apply below_drew1 | refine below_set ?_ GE101.out) | exact HB.out)) hb); have n2_ := Aside0.mk (hbox); have n3_ := Aside0.mk ((by rw [hg]; exact (below_size (by repeat (first | (with_reducible first | exact HB.out | apply below_alloc | apply pw_below_drewN | apply below_drew1 | refine below_set ?_ GE101.out) | exact HB.out))) : w.heap.size ≤ gb103)); have n4_ := Aside0.mk ((by rw [hg]; exact (below_size (by repeat (first | (with_reducible first | exact HB.out | apply below_alloc | apply pw_below_drewN | apply below_drew1 | refine below_set ?_ GE101.out) | exact HB.out))) : w.heap.size ≤ gb103)); have n5_ := Aside0.mk ((by rw [hg]; exact Nat.ne_of_lt (blk_lt (g := gb101) (o := .cells #[.int .i64 a0_0, .int .i64 a0_1, .slice (some ad102) l0_2.length c0_2] 39 (0, 0)) (by (with_reducible repeat (first | refine blk_drewN ?_ _ | refine blk_drew ?_ | refine blk_alloc ?_ _)); exact BK101.out)) : gb101 ≠ gb103)); have n6_ := Aside0.mk ((by rw [hg]; exact Nat.ne_of_gt (blk_lt (g := gb101) (o := .cells #[.int .i64 a0_0, .int .i64 a0_1, .slice (some ad102) l0_2.length c0_2] 39 (0, 0)) (by (with_reducible repeat (first | refine blk_drewN ?_ _ | refine blk_drew ?_ | refine blk_alloc ?_ _)); exact BK101.out)) : gb103 ≠ gb101)); clear BK101; clear HB; have BK101 := n0_; have HB := n1_; have BK103 := n2_; have GW103 := n3_; have GE103 := n4_; have NB101_103 := n5_; have NB103_101 := n6_; clear n0_ n1_ n2_ n3_ n4_ n5_ n6_; clear hb hbox hg; have hnb17 := NB103_101.out; have hnc17 := NB101_103.out; have hcz18_0 : w16.cell? ⟨gb103, 0, none⟩ = some (.string (⟨#[]⟩ : ByteArray)) := (blk_cell BK103.out 0).trans rfl; have hcz18_1 : w16.cell? ⟨gb103, 1, none⟩ = some (.int .i64 0) := (blk_cell BK103.out 1).trans rfl; have hfz18_0 := blk_frozen BK103.out 0; have hfz18_1 := blk_frozen BK103.out 1)))
        (try simp only [Act.put, List.setIfInBounds_toArray, List.set_cons_zero, List.set_cons_succ])
        go_cut [51] (fun v51 wc => ∃ (kq : Nat) (x51_13 : Bool), v51 = .bool x51_13 ∧ Aside0 (hatchwayref32_May.j2 kq x3_2 x51_13 a0_0 a0_1 l0_2 ((rd_T58 l0_2 x3_2).f0) ((rd_T58 l0_2 x3_2).f1) = some r) ∧ Aside0 (kq ≤ k2) ∧ Aside0 (wc.heap[gb101]? = some (.cells #[.int .i64 a0_0, .int .i64 a0_1, (.slice (some ad102) l0_2.length c0_2)] 39 (0, 0))) ∧ Aside0 (wc.heap[gb103]? = some (.cells #[.string ((rd_T58 l0_2 x3_2).f0), .int .i64 ((rd_T58 l0_2 x3_2).f1)] 58 (0, 0))) ∧ Aside0 (Below w.heap.size w wc))
        case first =>
         have H := HC14.out
         clear HC14
         replace H := Option.bind_eq_some_iff.mp H
         obtain ⟨t104, A190, H⟩ := H
         replace H : (if t104 = true then (if ((rd_T58 l0_2 x3_2).f1) < 1 then (hatchwayref32_May.j2 k2 x3_2 true a0_0 a0_1 l0_2 ((rd_T58 l0_2 x3_2).f0) ((rd_T58 l0_2 x3_2).f1)) else (hatchwayref32_May.j2 k2 x3_2 (decide (((rd_T58 l0_2 x3_2).f1) > 255)) a0_0 a0_1 l0_2 ((rd_T58 l0_2 x3_2).f0) ((rd_T58 l0_2 x3_2).f1))) else (hatchwayref32_May.j2 k2 x3_2 true a0_0 a0_1 l0_2 ((rd_T58 l0_2 x3_2).f0) ((rd_T58 l0_2 x3_2).f1))) = some r := H
         have A19 := Aside0.mk A190
         clear A190
         by_cases c20 : t104 = true
         ·subst c20
          have H1 : (if ((rd_T58 l0_2 x3_2).f1) < 1 then (hatchwayref32_May.j2 k2 x3_2 true a0_0 a0_1 l0_2 ((rd_T58 l0_2 x3_2).f0) ((rd_T58 l0_2 x3_2).f1)) else (hatchwayref32_May.j2 k2 x3_2 (decide (((rd_T58 l0_2 x3_2).f1) > 255)) a0_0 a0_1 l0_2 ((rd_T58 l0_2 x3_2).f0) ((rd_T58 l0_2 x3_2).f1))) = some r := by rw [if_pos rfl] at H; exact H
          clear H
          have H := H1
          clear H1
          by_cases c21 : ((rd_T58 l0_2 x3_2).f1) < 1
          ·rw [if_pos c21] at H
           have c21b0 : decide (((rd_T58 l0_2 x3_2).f1) < 1) = true := decide_eq_true c21
           clear c21
           (first | rw [c21b0] | (simp only [i64_w, i32_w]; rw [c21b0]) | skip)
           have H' := Aside0.mk H
           clear H
           have hnb22 := NB103_101.out
           have hnc22 := NB101_103.out
           have hcz23_0 : w16.cell? ⟨gb103, 0, none⟩ = some (.string (⟨#[]⟩ : ByteArray)) := (blk_cell BK103.out 0).trans rfl
           have hcz23_1 : w16.cell? ⟨gb103, 1, none⟩ = some (.int .i64 0) := (blk_cell BK103.out 1).trans rfl
           have hfz23_0 := blk_frozen BK103.out 0
           have hfz23_1 := blk_frozen BK103.out 1
           go_wp2_with (first | (go_at_call 71; (with_reducible refine (hatchwayref13_May.calls k2 ((rd_T58 l0_2 x3_2).f0) true _ A19.out).mono ?_); rintro e w' ⟨rfl, ⟨nd, rfl⟩⟩; (try first | exact ⟨rfl, _, World.drewN_drewN _ _ _⟩ | exact ⟨rfl, _, Eq.trans (World.drewN_drewN _ _ _) (congrArg (World.drewN _) (Nat.add_assoc _ _ _))⟩)))
           repeat (go_quiet (first | (go_at_call 71; (with_reducible refine (hatchwayref13_May.calls k2 ((rd_T58 l0_2 x3_2).f0) true _ A19.out).mono ?_); rintro e w' ⟨rfl, ⟨nd, rfl⟩⟩; (try first | exact ⟨rfl, _, World.drewN_drewN _ _ _⟩ | exact ⟨rfl, _, Eq.trans (World.drewN_drewN _ _ _) (congrArg (World.drewN _) (Nat.add_assoc _ _ _))⟩))); try go_wp2_with (first | (go_at_call 71; (with_reducible refine (hatchwayref13_May.calls k2 ((rd_T58 l0_2 x3_2).f0) true _ A19.out).mono ?_); rintro e w' ⟨rfl, ⟨nd, rfl⟩⟩; (try first | exact ⟨rfl, _, World.drewN_drewN _ _ _⟩ | exact ⟨rfl, _, Eq.trans (World.drewN_drewN _ _ _) (congrArg (World.drewN _) (Nat.add_assoc _ _ _))⟩))))
           go_meet
           case rel => exact ⟨_, (true), (by first | rfl | (simp; done) | (simp [*]; done)), H', ⟨by have := HJ1.out; have := HK2.out; first | omega | exact Nat.le_refl _⟩, ⟨by (with_reducible repeat (first | refine blk_drewN ?_ _ | refine blk_drew ?_ | refine blk_alloc ?_ _)); refine blk_far ?_ NB101_103.out _; (with_reducible repeat (first | refine blk_drewN ?_ _ | refine blk_drew ?_ | refine blk_alloc ?_ _)); refine blk_far ?_ NB101_103.out _; (with_reducible repeat (first | refine blk_drewN ?_ _ | refine blk_drew ?_ | refine blk_alloc ?_ _)); exact BK101.out⟩, ⟨by (with_reducible repeat (first | refine blk_drewN ?_ _ | refine blk_drew ?_ | refine blk_alloc ?_ _)); refine blk_put (cs := #[.string ((rd_T58 l0_2 x3_2).f0), .int .i64 0]) ?_ 1 _ rfl; (with_reducible repeat (first | refine blk_drewN ?_ _ | refine blk_drew ?_ | refine blk_alloc ?_ _)); refine blk_put (cs := #[.string (⟨#[]⟩ : ByteArray), .int .i64 0]) ?_ 0 _ rfl; (with_reducible repeat (first | refine blk_drewN ?_ _ | refine blk_drew ?_ | refine blk_alloc ?_ _)); exact BK103.out⟩, ⟨by repeat (first | (with_reducible first | exact HB.out | apply below_alloc | apply pw_below_drewN | apply below_drew1 | refine below_set ?_ GE101.out | refine below_set ?_ GE103.out) | exact HB.out)⟩⟩
          ·rw [if_neg c21] at H
           have c21b0 : decide (((rd_T58 l0_2 x3_2).f1) < 1) = false := decide_eq_false c21
           clear c21
           (first | rw [c21b0] | (simp only [i64_w, i32_w]; rw [c21b0]) | skip)
           have H' := Aside0.mk H
           clear H
           have hnb24 := NB103_101.out
           have hnc24 := NB101_103.out
           have hcz25_0 : w16.cell? ⟨gb103, 0, none⟩ = some (.string (⟨#[]⟩ : ByteArray)) := (blk_cell BK103.out 0).trans rfl
           have hcz25_1 : w16.cell? ⟨gb103, 1, none⟩ = some (.int .i64 0) := (blk_cell BK103.out 1).trans rfl
           have hfz25_0 := blk_frozen BK103.out 0
           have hfz25_1 := blk_frozen BK103.out 1
           go_wp2_with (first | (go_at_call 71; (with_reducible refine (hatchwayref13_May.calls k2 ((rd_T58 l0_2 x3_2).f0) true _ A19.out).mono ?_); rintro e w' ⟨rfl, ⟨nd, rfl⟩⟩; (try first | exact ⟨rfl, _, World.drewN_drewN _ _ _⟩ | exact ⟨rfl, _, Eq.trans (World.drewN_drewN _ _ _) (congrArg (World.drewN _) (Nat.add_assoc _ _ _))⟩)))
           repeat (go_quiet (first | (go_at_call 71; (with_reducible refine (hatchwayref13_May.calls k2 ((rd_T58 l0_2 x3_2).f0) true _ A19.out).mono ?_); rintro e w' ⟨rfl, ⟨nd, rfl⟩⟩; (try first | exact ⟨rfl, _, World.drewN_drewN _ _ _⟩ | exact ⟨rfl, _, Eq.trans (World.drewN_drewN _ _ _) (congrArg (World.drewN _) (Nat.add_assoc _ _ _))⟩))); try go_wp2_with (first | (go_at_call 71; (with_reducible refine (hatchwayref13_May.calls k2 ((rd_T58 l0_2 x3_2).f0) true _ A19.out).mono ?_); rintro e w' ⟨rfl, ⟨nd, rfl⟩⟩; (try first | exact ⟨rfl, _, World.drewN_drewN _ _ _⟩ | exact ⟨rfl, _, Eq.trans (World.drewN_drewN _ _ _) (congrArg (World.drewN _) (Nat.add_assoc _ _ _))⟩))))
           go_meet
           case rel => exact ⟨_, (decide (((rd_T58 l0_2 x3_2).f1) > 255)), (by first | rfl | (simp; done) | (simp [*]; done)), H', ⟨by have := HJ1.out; have := HK2.out; first | omega | exact Nat.le_refl _⟩, ⟨by (with_reducible repeat (first | refine blk_drewN ?_ _ | refine blk_drew ?_ | refine blk_alloc ?_ _)); refine blk_far ?_ NB101_103.out _; (with_reducible repeat (first | refine blk_drewN ?_ _ | refine blk_drew ?_ | refine blk_alloc ?_ _)); refine blk_far ?_ NB101_103.out _; (with_reducible repeat (first | refine blk_drewN ?_ _ | refine blk_drew ?_ | refine blk_alloc ?_ _)); exact BK101.out⟩, ⟨by (with_reducible repeat (first | refine blk_drewN ?_ _ | refine blk_drew ?_ | refine blk_alloc ?_ _)); refine blk_put (cs := #[.string ((rd_T58 l0_2 x3_2).f0), .int .i64 0]) ?_ 1 _ rfl; (with_reducible repeat (first | refine blk_drewN ?_ _ | refine blk_drew ?_ | refine blk_alloc ?_ _)); refine blk_put (cs := #[.string (⟨#[]⟩ : ByteArray), .int .i64 0]) ?_ 0 _ rfl; (with_reducible repeat (first | refine blk_drewN ?_ _ | refine blk_drew ?_ | refine blk_alloc ?_ _)); exact BK103.out⟩, ⟨by repeat (first | (with_reducible first | exact HB.out | apply below_alloc | apply pw_below_drewN | apply below_drew1 | refine below_set ?_ GE101.out | refine below_set ?_ GE103.out) | exact HB.out)⟩⟩
         ·replace c20 := Bool.eq_false_iff.mpr c20
          subst c20
          have H1 : (hatchwayref32_May.j2 k2 x3_2 true a0_0 a0_1 l0_2 ((rd_T58 l0_2 x3_2).f0) ((rd_T58 l0_2 x3_2).f1)) = some r := by rw [if_neg (show ¬ (false = true) by decide)] at H; exact H
          clear H
          have H := H1
          clear H1
          have H' := Aside0.mk H
          clear H
          have hnb26 := NB103_101.out
          have hnc26 := NB101_103.out
          have hcz27_0 : w16.cell? ⟨gb103, 0, none⟩ = some (.string (⟨#[]⟩ : ByteArray)) := (blk_cell BK103.out 0).trans rfl
          have hcz27_1 : w16.cell? ⟨gb103, 1, none⟩ = some (.int .i64 0) := (blk_cell BK103.out 1).trans rfl
          have hfz27_0 := blk_frozen BK103.out 0
          have hfz27_1 := blk_frozen BK103.out 1
          go_wp2_with (first | (go_at_call 71; (with_reducible refine (hatchwayref13_May.calls k2 ((rd_T58 l0_2 x3_2).f0) false _ A19.out).mono ?_); rintro e w' ⟨rfl, ⟨nd, rfl⟩⟩; (try first | exact ⟨rfl, _, World.drewN_drewN _ _ _⟩ | exact ⟨rfl, _, Eq.trans (World.drewN_drewN _ _ _) (congrArg (World.drewN _) (Nat.add_assoc _ _ _))⟩)))
          repeat (go_quiet (first | (go_at_call 71; (with_reducible refine (hatchwayref13_May.calls k2 ((rd_T58 l0_2 x3_2).f0) false _ A19.out).mono ?_); rintro e w' ⟨rfl, ⟨nd, rfl⟩⟩; (try first | exact ⟨rfl, _, World.drewN_drewN _ _ _⟩ | exact ⟨rfl, _, Eq.trans (World.drewN_drewN _ _ _) (congrArg (World.drewN _) (Nat.add_assoc _ _ _))⟩))); try go_wp2_with (first | (go_at_call 71; (with_reducible refine (hatchwayref13_May.calls k2 ((rd_T58 l0_2 x3_2).f0) false _ A19.out).mono ?_); rintro e w' ⟨rfl, ⟨nd, rfl⟩⟩; (try first | exact ⟨rfl, _, World.drewN_drewN _ _ _⟩ | exact ⟨rfl, _, Eq.trans (World.drewN_drewN _ _ _) (congrArg (World.drewN _) (Nat.add_assoc _ _ _))⟩))))
          go_meet
          case rel => exact ⟨_, (true), (by first | rfl | (simp; done) | (simp [*]; done)), H', ⟨by have := HJ1.out; have := HK2.out; first | omega | exact Nat.le_refl _⟩, ⟨by (with_reducible repeat (first | refine blk_drewN ?_ _ | refine blk_drew ?_ | refine blk_alloc ?_ _)); refine blk_far ?_ NB101_103.out _; (with_reducible repeat (first | refine blk_drewN ?_ _ | refine blk_drew ?_ | refine blk_alloc ?_ _)); refine blk_far ?_ NB101_103.out _; (with_reducible repeat (first | refine blk_drewN ?_ _ | refine blk_drew ?_ | refine blk_alloc ?_ _)); exact BK101.out⟩, ⟨by (with_reducible repeat (first | refine blk_drewN ?_ _ | refine blk_drew ?_ | refine blk_alloc ?_ _)); refine blk_put (cs := #[.string ((rd_T58 l0_2 x3_2).f0), .int .i64 0]) ?_ 1 _ rfl; (with_reducible repeat (first | refine blk_drewN ?_ _ | refine blk_drew ?_ | refine blk_alloc ?_ _)); refine blk_put (cs := #[.string (⟨#[]⟩ : ByteArray), .int .i64 0]) ?_ 0 _ rfl; (with_reducible repeat (first | refine blk_drewN ?_ _ | refine blk_drew ?_ | refine blk_alloc ?_ _)); exact BK103.out⟩, ⟨by repeat (first | (with_reducible first | exact HB.out | apply below_alloc | apply pw_below_drewN | apply below_drew1 | refine below_set ?_ GE101.out | refine below_set ?_ GE103.out) | exact HB.out)⟩⟩
        case rest =>
         clear HC14
         try clear c1
         try clear p1
         try clear q1
         try clear hx1
         try clear c2
         try clear p2
         try clear c3
         try clear c4
         try clear c4b0
         try clear c6
         try clear c6b0
         try clear c8
         try clear c8b0
         try clear p10
         try clear q10
         try clear hx10
         try clear c11
         try clear c12
         try clear c12b0
         try clear c13
         try clear c13b0
         try clear c17
         try clear c20
         try clear c21
         try clear c21b0
         try clear c22
         try clear c24
         try clear c26
         try clear hcz10_0
         try clear hcz10_1
         try clear hcz10_2
         try clear hcz15_0
         try clear hcz15_1
         try clear hcz15_2
         try clear hcz18_0
         try clear hcz18_1
         try clear hcz23_0
         try clear hcz23_1
         try clear hcz25_0
         try clear hcz25_1
         try clear hcz27_0
         try clear hcz27_1
         try clear hcz5_0
         try clear hcz5_1
         try clear hcz5_2
         try clear hcz7_0
         try clear hcz7_1
         try clear hcz7_2
         try clear hcz9_0
         try clear hcz9_1
         try clear hcz9_2
         try clear hfz10_0
         try clear hfz10_1
         try clear hfz10_2
         try clear hfz15_0
         try clear hfz15_1
         try clear hfz15_2
         try clear hfz18_0
         try clear hfz18_1
         try clear hfz23_0
         try clear hfz23_1
         try clear hfz25_0
         try clear hfz25_1
         try clear hfz27_0
         try clear hfz27_1
         try clear hfz5_0
         try clear hfz5_1
         try clear hfz5_2
         try clear hfz7_0
         try clear hfz7_1
         try clear hfz7_2
         try clear hfz9_0
         try clear hfz9_1
         try clear hfz9_2
         try clear hx102_0
         try clear hx102_1
         try clear p102
         try clear p2
         try clear q102
         obtain ⟨kq, x51_13, rfl, HA, HJ13, BK101, BK103, HB⟩ := hcut
         cases kq with
         | zero => exact absurd HA.out (by simp [hatchwayref32_May.j2])
         | succ kj13 =>
          have H := HA.out
          clear HA
          simp only [hatchwayref32_May.j2] at H
          by_cases c28 : x51_13 = true
          ·subst c28
           have H1 : (some false) = some r := by rw [if_pos rfl] at H; exact H
           clear H
           have H := H1
           clear H1
           obtain rfl := Option.some.inj H
           go_wp2
           repeat (go_quiet (fail); try go_wp2)
           go_ret
           exact ⟨by first | rfl | (simp [errW_none, errW_some] <;> rfl) | (simp [*, errW_none, errW_some] <;> rfl), by repeat (first | (with_reducible first | exact HB.out | apply below_alloc | apply pw_below_drewN | apply below_drew1 | refine below_set ?_ GE101.out | refine below_set ?_ GE103.out) | exact HB.out)⟩
          ·replace c28 := Bool.eq_false_iff.mpr c28
           subst c28
           have H1 : (if x3_2 > 0 then (if 0 ≤ (wrap64 (x3_2 - 1)) then (if (wrap64 (x3_2 - 1)) < (l0_2.length : Int) then (if (Op.bytesLess (((rd_T58 l0_2 (wrap64 (x3_2 - 1))).f0).toList) ((rd_T58 l0_2 x3_2).f0).toList) = true then (hatchwayref32_May.l0 kj13 (wrap64 (x3_2 + 1)) a0_0 a0_1 l0_2) else (if ((rd_T58 l0_2 (wrap64 (x3_2 - 1))).f0).toList = ((rd_T58 l0_2 x3_2).f0).toList then (if (((rd_T58 l0_2 (wrap64 (x3_2 - 1))).f1) < ((rd_T58 l0_2 x3_2).f1)) then (hatchwayref32_May.l0 kj13 (wrap64 (x3_2 + 1)) a0_0 a0_1 l0_2) else (some false)) else (some false))) else (none)) else (none)) else (hatchwayref32_May.l0 kj13 (wrap64 (x3_2 + 1)) a0_0 a0_1 l0_2)) = some r := by rw [if_neg (show ¬ (false = true) by decide)] at H; exact H
           clear H
           have H := H1
           clear H1
           by_cases c29 : x3_2 > 0
           ·rw [if_pos c29] at H
            have c29b0 : decide (0 < x3_2) = true := decide_eq_true c29
            clear c29
            obtain ⟨ji30, hji30⟩ : ∃ j_ : Int, (wrap64 (x3_2 - 1)) = j_ := ⟨_, rfl⟩
            replace H : (if 0 ≤ (ji30) then (if (ji30) < (l0_2.length : Int) then (if (Op.bytesLess (((rd_T58 l0_2 (ji30)).f0).toList) ((rd_T58 l0_2 x3_2).f0).toList) = true then (hatchwayref32_May.l0 kj13 (wrap64 (x3_2 + 1)) a0_0 a0_1 l0_2) else (if ((rd_T58 l0_2 (ji30)).f0).toList = ((rd_T58 l0_2 x3_2).f0).toList then (if (((rd_T58 l0_2 (ji30)).f1) < ((rd_T58 l0_2 x3_2).f1)) then (hatchwayref32_May.l0 kj13 (wrap64 (x3_2 + 1)) a0_0 a0_1 l0_2) else (some false)) else (some false))) else (none)) else (none)) = some r := by first | (rw [hji30] at H; exact H) | (simp only [hji30] at H ⊢; exact H)
            have hji30w : (IntKind.i64.wrap (x3_2 - 1)) = ji30 := (i64_w _).trans hji30
            by_cases c31 : 0 ≤ (ji30)
            ·rw [if_pos c31] at H
             have c31b0 : decide (0 ≤ (ji30)) = true := decide_eq_true c31
             clear c31
             by_cases c32 : (ji30) < (l0_2.length : Int)
             ·rw [if_pos c32] at H
              have c32b0 : decide ((ji30) < (l0_2.length : Int)) = true := decide_eq_true c32
              clear c32
              by_cases c33 : (Op.bytesLess (((rd_T58 l0_2 (ji30)).f0).toList) ((rd_T58 l0_2 x3_2).f0).toList) = true
              ·rw [if_pos c33] at H
               have c33b0 : (Op.bytesLess (((rd_T58 l0_2 (ji30)).f0).toList) ((rd_T58 l0_2 x3_2).f0).toList) = true := c33
               clear c33
               have H' := Aside0.mk H
               clear H
               have hnb34 := NB101_103.out
               have hnc34 := NB103_101.out
               have hcz35_0 : wc.cell? ⟨gb101, 0, none⟩ = some (.int .i64 a0_0) := (blk_cell BK101.out 0).trans rfl
               have hcz35_1 : wc.cell? ⟨gb101, 1, none⟩ = some (.int .i64 a0_1) := (blk_cell BK101.out 1).trans rfl
               have hcz35_2 : wc.cell? ⟨gb101, 2, none⟩ = some (.slice (some ad102) l0_2.length c0_2) := (blk_cell BK101.out 2).trans rfl
               have hfz35_0 := blk_frozen BK101.out 0
               have hfz35_1 := blk_frozen BK101.out 1
               have hfz35_2 := blk_frozen BK101.out 2
               have p105 : 0 ≤ ((ji30) : Int) := of_decide_eq_true (by first | (with_reducible assumption) | assumption)
               have q105 : (ji30) < (l0_2.length : Int) := of_decide_eq_true (by first | (with_reducible assumption) | assumption)
               obtain ⟨ad105, e105, hx105_0, hx105_1⟩ := at_T58 HR0_2.out (ji30) p105 q105
               obtain rfl : ad102 = ad105 := (by injection e105)
               replace hx105_0 := (HB.out.cell (World.block_lt_of_cell? w _ hx105_0)).trans hx105_0
               replace hx105_1 := (HB.out.cell (World.block_lt_of_cell? w _ hx105_1)).trans hx105_1
               replace p105 := eq_true p105
               replace q105 := eq_true q105
               have hcz36_0 : wc.cell? ⟨gb103, 0, none⟩ = some (.string ((rd_T58 l0_2 x3_2).f0)) := (blk_cell BK103.out 0).trans rfl
               have hcz36_1 : wc.cell? ⟨gb103, 1, none⟩ = some (.int .i64 ((rd_T58 l0_2 x3_2).f1)) := (blk_cell BK103.out 1).trans rfl
               have hfz36_0 := blk_frozen BK103.out 0
               have hfz36_1 := blk_frozen BK103.out 1
               go_wp2
               repeat (go_quiet (fail); try go_wp2)
               go_roundg kj13
               case measure => have := HJ1.out; have := HK2.out; have := HJ13.out; omega
               case rel => exact ⟨(wrap64 (x3_2 + 1)), (by first | rfl | (simp; done) | (simp [*]; done)), H', ⟨by have := HJ1.out; have := HK2.out; have := HJ13.out; omega⟩, ⟨by (with_reducible repeat (first | refine blk_drewN ?_ _ | refine blk_drew ?_ | refine blk_alloc ?_ _)); exact BK101.out⟩, ⟨by repeat (first | (with_reducible first | exact HB.out | apply below_alloc | apply pw_below_drewN | apply below_drew1 | refine below_set ?_ GE101.out | refine below_set ?_ GE103.out) | exact HB.out)⟩⟩
              ·rw [if_neg c33] at H
               have c33b0 : (Op.bytesLess (((rd_T58 l0_2 (ji30)).f0).toList) ((rd_T58 l0_2 x3_2).f0).toList) = false := by simpa using c33
               clear c33
               by_cases c37 : ((rd_T58 l0_2 (ji30)).f0).toList = ((rd_T58 l0_2 x3_2).f0).toList
               ·rw [if_pos c37] at H
                have c37b0 : (((rd_T58 l0_2 (ji30)).f0).toList == ((rd_T58 l0_2 x3_2).f0).toList) = true := beq_iff_eq.mpr c37
                have c37b1 : (((rd_T58 l0_2 (ji30)).f0).toList != ((rd_T58 l0_2 x3_2).f0).toList) = false := bne_eq_false_iff_eq.mpr c37
                clear c37
                by_cases c38 : (((rd_T58 l0_2 (ji30)).f1) < ((rd_T58 l0_2 x3_2).f1))
                ·rw [if_pos c38] at H
                 have c38b0 : decide (((rd_T58 l0_2 (ji30)).f1) < ((rd_T58 l0_2 x3_2).f1)) = true := decide_eq_true c38
                 clear c38
                 have H' := Aside0.mk H
                 clear H
                 have hnb39 := NB101_103.out
                 have hnc39 := NB103_101.out
                 have hcz40_0 : wc.cell? ⟨gb101, 0, none⟩ = some (.int .i64 a0_0) := (blk_cell BK101.out 0).trans rfl
                 have hcz40_1 : wc.cell? ⟨gb101, 1, none⟩ = some (.int .i64 a0_1) := (blk_cell BK101.out 1).trans rfl
                 have hcz40_2 : wc.cell? ⟨gb101, 2, none⟩ = some (.slice (some ad102) l0_2.length c0_2) := (blk_cell BK101.out 2).trans rfl
                 have hfz40_0 := blk_frozen BK101.out 0
                 have hfz40_1 := blk_frozen BK101.out 1
                 have hfz40_2 := blk_frozen BK101.out 2
                 have p105 : 0 ≤ ((ji30) : Int) := of_decide_eq_true (by first | (with_reducible assumption) | assumption)
                 have q105 : (ji30) < (l0_2.length : Int) := of_decide_eq_true (by first | (with_reducible assumption) | assumption)
                 obtain ⟨ad105, e105, hx105_0, hx105_1⟩ := at_T58 HR0_2.out (ji30) p105 q105
                 obtain rfl : ad102 = ad105 := (by injection e105)
                 replace hx105_0 := (HB.out.cell (World.block_lt_of_cell? w _ hx105_0)).trans hx105_0
                 replace hx105_1 := (HB.out.cell (World.block_lt_of_cell? w _ hx105_1)).trans hx105_1
                 replace p105 := eq_true p105
                 replace q105 := eq_true q105
                 have hcz41_0 : wc.cell? ⟨gb103, 0, none⟩ = some (.string ((rd_T58 l0_2 x3_2).f0)) := (blk_cell BK103.out 0).trans rfl
                 have hcz41_1 : wc.cell? ⟨gb103, 1, none⟩ = some (.int .i64 ((rd_T58 l0_2 x3_2).f1)) := (blk_cell BK103.out 1).trans rfl
                 have hfz41_0 := blk_frozen BK103.out 0
                 have hfz41_1 := blk_frozen BK103.out 1
                 have p106 : 0 ≤ ((ji30) : Int) := of_decide_eq_true (by first | (with_reducible assumption) | assumption)
                 have q106 : (ji30) < (l0_2.length : Int) := of_decide_eq_true (by first | (with_reducible assumption) | assumption)
                 obtain ⟨ad106, e106, hx106_0, hx106_1⟩ := at_T58 HR0_2.out (ji30) p106 q106
                 obtain rfl : ad102 = ad106 := (by injection e106)
                 replace hx106_0 := (HB.out.cell (World.block_lt_of_cell? w _ hx106_0)).trans hx106_0
                 replace hx106_1 := (HB.out.cell (World.block_lt_of_cell? w _ hx106_1)).trans hx106_1
                 replace p106 := eq_true p106
                 replace q106 := eq_true q106
                 have p107 : 0 ≤ ((ji30) : Int) := of_decide_eq_true (by first | (with_reducible assumption) | assumption)
                 have q107 : (ji30) < (l0_2.length : Int) := of_decide_eq_true (by first | (with_reducible assumption) | assumption)
                 obtain ⟨ad107, e107, hx107_0, hx107_1⟩ := at_T58 HR0_2.out (ji30) p107 q107
                 obtain rfl : ad102 = ad107 := (by injection e107)
                 replace hx107_0 := (HB.out.cell (World.block_lt_of_cell? w _ hx107_0)).trans hx107_0
                 replace hx107_1 := (HB.out.cell (World.block_lt_of_cell? w _ hx107_1)).trans hx107_1
                 replace p107 := eq_true p107
                 replace q107 := eq_true q107
                 go_wp2
                 repeat (go_quiet (fail); try go_wp2)
                 go_roundg kj13
                 case measure => have := HJ1.out; have := HK2.out; have := HJ13.out; omega
                 case rel => exact ⟨(wrap64 (x3_2 + 1)), (by first | rfl | (simp; done) | (simp [*]; done)), H', ⟨by have := HJ1.out; have := HK2.out; have := HJ13.out; omega⟩, ⟨by (with_reducible repeat (first | refine blk_drewN ?_ _ | refine blk_drew ?_ | refine blk_alloc ?_ _)); exact BK101.out⟩, ⟨by repeat (first | (with_reducible first | exact HB.out | apply below_alloc | apply pw_below_drewN | apply below_drew1 | refine below_set ?_ GE101.out | refine below_set ?_ GE103.out) | exact HB.out)⟩⟩
                ·rw [if_neg c38] at H
                 have c38b0 : decide (((rd_T58 l0_2 (ji30)).f1) < ((rd_T58 l0_2 x3_2).f1)) = false := decide_eq_false c38
                 clear c38
                 obtain rfl := Option.some.inj H
                 have hnb42 := NB101_103.out
                 have hnc42 := NB103_101.out
                 have hcz43_0 : wc.cell? ⟨gb101, 0, none⟩ = some (.int .i64 a0_0) := (blk_cell BK101.out 0).trans rfl
                 have hcz43_1 : wc.cell? ⟨gb101, 1, none⟩ = some (.int .i64 a0_1) := (blk_cell BK101.out 1).trans rfl
                 have hcz43_2 : wc.cell? ⟨gb101, 2, none⟩ = some (.slice (some ad102) l0_2.length c0_2) := (blk_cell BK101.out 2).trans rfl
                 have hfz43_0 := blk_frozen BK101.out 0
                 have hfz43_1 := blk_frozen BK101.out 1
                 have hfz43_2 := blk_frozen BK101.out 2
                 have p105 : 0 ≤ ((ji30) : Int) := of_decide_eq_true (by first | (with_reducible assumption) | assumption)
                 have q105 : (ji30) < (l0_2.length : Int) := of_decide_eq_true (by first | (with_reducible assumption) | assumption)
                 obtain ⟨ad105, e105, hx105_0, hx105_1⟩ := at_T58 HR0_2.out (ji30) p105 q105
                 obtain rfl : ad102 = ad105 := (by injection e105)
                 replace hx105_0 := (HB.out.cell (World.block_lt_of_cell? w _ hx105_0)).trans hx105_0
                 replace hx105_1 := (HB.out.cell (World.block_lt_of_cell? w _ hx105_1)).trans hx105_1
                 replace p105 := eq_true p105
                 replace q105 := eq_true q105
                 have hcz44_0 : wc.cell? ⟨gb103, 0, none⟩ = some (.string ((rd_T58 l0_2 x3_2).f0)) := (blk_cell BK103.out 0).trans rfl
                 have hcz44_1 : wc.cell? ⟨gb103, 1, none⟩ = some (.int .i64 ((rd_T58 l0_2 x3_2).f1)) := (blk_cell BK103.out 1).trans rfl
                 have hfz44_0 := blk_frozen BK103.out 0
                 have hfz44_1 := blk_frozen BK103.out 1
                 have p106 : 0 ≤ ((ji30) : Int) := of_decide_eq_true (by first | (with_reducible assumption) | assumption)
                 have q106 : (ji30) < (l0_2.length : Int) := of_decide_eq_true (by first | (with_reducible assumption) | assumption)
                 obtain ⟨ad106, e106, hx106_0, hx106_1⟩ := at_T58 HR0_2.out (ji30) p106 q106
                 obtain rfl : ad102 = ad106 := (by injection e106)
                 replace hx106_0 := (HB.out.cell (World.block_lt_of_cell? w _ hx106_0)).trans hx106_0
                 replace hx106_1 := (HB.out.cell (World.block_lt_of_cell? w _ hx106_1)).trans hx106_1
                 replace p106 := eq_true p106
                 replace q106 := eq_true q106
                 have p107 : 0 ≤ ((ji30) : Int) := of_decide_eq_true (by first | (with_reducible assumption) | assumption)
                 have q107 : (ji30) < (l0_2.length : Int) := of_decide_eq_true (by first | (with_reducible assumption) | assumption)
                 obtain ⟨ad107, e107, hx107_0, hx107_1⟩ := at_T58 HR0_2.out (ji30) p107 q107
                 obtain rfl : ad102 = ad107 := (by injection e107)
                 replace hx107_0 := (HB.out.cell (World.block_lt_of_cell? w _ hx107_0)).trans hx107_0
                 replace hx107_1 := (HB.out.cell (World.block_lt_of_cell? w _ hx107_1)).trans hx107_1
                 replace p107 := eq_true p107
                 replace q107 := eq_true q107
                 go_wp2
                 repeat (go_quiet (fail); try go_wp2)
                 go_ret
                 exact ⟨by first | rfl | (simp [errW_none, errW_some] <;> rfl) | (simp only [← hji30]; first | rfl | (simp [errW_none, errW_some] <;> rfl)) | (simp [*, errW_none, errW_some] <;> rfl), by repeat (first | (with_reducible first | exact HB.out | apply below_alloc | apply pw_below_drewN | apply below_drew1 | refine below_set ?_ GE101.out | refine below_set ?_ GE103.out) | exact HB.out)⟩
               ·rw [if_neg c37] at H
                have c37b0 : (((rd_T58 l0_2 (ji30)).f0).toList == ((rd_T58 l0_2 x3_2).f0).toList) = false := beq_eq_false_iff_ne.mpr c37
                have c37b1 : (((rd_T58 l0_2 (ji30)).f0).toList != ((rd_T58 l0_2 x3_2).f0).toList) = true := bne_iff_ne.mpr c37
                obtain rfl := Option.some.inj H
                have hnb45 := NB101_103.out
                have hnc45 := NB103_101.out
                have hcz46_0 : wc.cell? ⟨gb101, 0, none⟩ = some (.int .i64 a0_0) := (blk_cell BK101.out 0).trans rfl
                have hcz46_1 : wc.cell? ⟨gb101, 1, none⟩ = some (.int .i64 a0_1) := (blk_cell BK101.out 1).trans rfl
                have hcz46_2 : wc.cell? ⟨gb101, 2, none⟩ = some (.slice (some ad102) l0_2.length c0_2) := (blk_cell BK101.out 2).trans rfl
                have hfz46_0 := blk_frozen BK101.out 0
                have hfz46_1 := blk_frozen BK101.out 1
                have hfz46_2 := blk_frozen BK101.out 2
                have p105 : 0 ≤ ((ji30) : Int) := of_decide_eq_true (by first | (with_reducible assumption) | assumption)
                have q105 : (ji30) < (l0_2.length : Int) := of_decide_eq_true (by first | (with_reducible assumption) | assumption)
                obtain ⟨ad105, e105, hx105_0, hx105_1⟩ := at_T58 HR0_2.out (ji30) p105 q105
                obtain rfl : ad102 = ad105 := (by injection e105)
                replace hx105_0 := (HB.out.cell (World.block_lt_of_cell? w _ hx105_0)).trans hx105_0
                replace hx105_1 := (HB.out.cell (World.block_lt_of_cell? w _ hx105_1)).trans hx105_1
                replace p105 := eq_true p105
                replace q105 := eq_true q105
                have hcz47_0 : wc.cell? ⟨gb103, 0, none⟩ = some (.string ((rd_T58 l0_2 x3_2).f0)) := (blk_cell BK103.out 0).trans rfl
                have hcz47_1 : wc.cell? ⟨gb103, 1, none⟩ = some (.int .i64 ((rd_T58 l0_2 x3_2).f1)) := (blk_cell BK103.out 1).trans rfl
                have hfz47_0 := blk_frozen BK103.out 0
                have hfz47_1 := blk_frozen BK103.out 1
                have p106 : 0 ≤ ((ji30) : Int) := of_decide_eq_true (by first | (with_reducible assumption) | assumption)
                have q106 : (ji30) < (l0_2.length : Int) := of_decide_eq_true (by first | (with_reducible assumption) | assumption)
                obtain ⟨ad106, e106, hx106_0, hx106_1⟩ := at_T58 HR0_2.out (ji30) p106 q106
                obtain rfl : ad102 = ad106 := (by injection e106)
                replace hx106_0 := (HB.out.cell (World.block_lt_of_cell? w _ hx106_0)).trans hx106_0
                replace hx106_1 := (HB.out.cell (World.block_lt_of_cell? w _ hx106_1)).trans hx106_1
                replace p106 := eq_true p106
                replace q106 := eq_true q106
                go_wp2
                repeat (go_quiet (fail); try go_wp2)
                go_ret
                exact ⟨by first | rfl | (simp [errW_none, errW_some] <;> rfl) | (simp only [← hji30]; first | rfl | (simp [errW_none, errW_some] <;> rfl)) | (simp [*, errW_none, errW_some] <;> rfl), by repeat (first | (with_reducible first | exact HB.out | apply below_alloc | apply pw_below_drewN | apply below_drew1 | refine below_set ?_ GE101.out | refine below_set ?_ GE103.out) | exact HB.out)⟩
             ·rw [if_neg c32] at H
              exact absurd H (by simp)
            ·rw [if_neg c31] at H
             exact absurd H (by simp)
           ·rw [if_neg c29] at H
            have c29b0 : decide (0 < x3_2) = false := decide_eq_false c29
            clear c29
            have H' := Aside0.mk H
            clear H
            go_wp2
            repeat (go_quiet (fail); try go_wp2)
            go_roundg kj13
            case measure => have := HJ1.out; have := HK2.out; have := HJ13.out; omega
            case rel => exact ⟨(wrap64 (x3_2 + 1)), (by first | rfl | (simp; done) | (simp [*]; done)), H', ⟨by have := HJ1.out; have := HK2.out; have := HJ13.out; omega⟩, ⟨by (with_reducible repeat (first | refine blk_drewN ?_ _ | refine blk_drew ?_ | refine blk_alloc ?_ _)); exact BK101.out⟩, ⟨by repeat (first | (with_reducible first | exact HB.out | apply below_alloc | apply pw_below_drewN | apply below_drew1 | refine below_set ?_ GE101.out | refine below_set ?_ GE103.out) | exact HB.out)⟩⟩
       ·rw [if_neg c13] at H
        exact absurd H (by simp)
      ·rw [if_neg c12] at H
       have c12b0 : decide (x3_2 < (l0_2.length : Int)) = false := decide_eq_false c12
       clear c12
       obtain rfl := Option.some.inj H
       have hcz48_0 : wr.cell? ⟨gb101, 0, none⟩ = some (.int .i64 a0_0) := (blk_cell BK101.out 0).trans rfl
       have hcz48_1 : wr.cell? ⟨gb101, 1, none⟩ = some (.int .i64 a0_1) := (blk_cell BK101.out 1).trans rfl
       have hcz48_2 : wr.cell? ⟨gb101, 2, none⟩ = some (.slice A0_2 l0_2.length c0_2) := (blk_cell BK101.out 2).trans rfl
       have hfz48_0 := blk_frozen BK101.out 0
       have hfz48_1 := blk_frozen BK101.out 1
       have hfz48_2 := blk_frozen BK101.out 2
       go_wp2
       repeat (go_quiet (fail); try go_wp2)
       go_ret
       exact ⟨by first | rfl | (simp [errW_none, errW_some] <;> rfl) | (simp [*, errW_none, errW_some] <;> rfl), by repeat (first | (with_reducible first | exact HB.out | apply below_alloc | apply pw_below_drewN | apply below_drew1 | refine below_set ?_ GE101.out) | exact HB.out)⟩
end Go.Proofs.Yteoibgpkimlahaa.P
end
section
namespace Go.Proofs.Yteoibgpkimlahaa.P
open Go.RowKit Go.Proofs.YteoibgpkimlahaaW.PrintWords Go.Proofs.YteoibgpkimlahaaW.PrintLast Go.Proofs.YteoibgpkimlahaaW.PrintMore
attribute [local go_sem] max2_int min2_int max_two min_two max_three min_three max_four min_four   
set_option linter.unusedVariables false
set_option linter.unusedSimpArgs false
attribute [local go_sem high] eqA58
def hatchwayref32_Same.l0 : Nat → List (S58) → List (S58) → Int → Option (Bool)
 | 0, _, _, _ => none
 | k + 1, x0, x1, x5 => if x5 < (x0.length : Int) then (if 0 ≤ x5 then (if x5 < (x1.length : Int) then (if (!((((rd_T58 x0 x5).f0).toList) == (((rd_T58 x1 x5).f0).toList)) || (!(((rd_T58 x0 x5).f1) == ((rd_T58 x1 x5).f1)))) = true then (some false) else (hatchwayref32_Same.l0 k x0 x1 (wrap64 (x5 + 1)))) else (none)) else (none)) else (some true)
def hatchwayref32_Same.f (k : Nat) (l0 : List (S58)) (l1 : List (S58)) : Option (Bool) := if (l0.length : Int) = (l1.length : Int) then (hatchwayref32_Same.l0 k l0 l1 0) else (some false)
theorem hatchwayref32_Same.mono_l : ∀ k, (∀ y0 y1 y2, LeO (hatchwayref32_Same.l0 k y0 y1 y2) (hatchwayref32_Same.l0 (k + 1) y0 y1 y2))
 | 0 => fun _ _ _ r h => by simp [hatchwayref32_Same.l0] at h
 | k + 1 => by
  have ih0 := hatchwayref32_Same.mono_l k
  ·intro y0 y1 y2
   unfold hatchwayref32_Same.l0
   repeat' first
   | (with_reducible exact ih0 _ _ _)
   | (with_reducible exact LeO.refl _)
   | (with_reducible exact LeO.none _)
   | (with_reducible refine LeO.ite ?_ ?_)
   | (with_reducible refine LeO.bind ?_ (fun _ => ?_))
   | exact ih0 _ _ _
   | exact LeO.none _
   | refine LeO.ite ?_ ?_
   | refine LeO.bind ?_ (fun _ => ?_)
theorem hatchwayref32_Same.mono : ∀ a0 a1 k, LeO (hatchwayref32_Same.f k a0 a1) (hatchwayref32_Same.f (k + 1) a0 a1) := by
 intro a0 a1 k
 have ih0 := hatchwayref32_Same.mono_l k
 unfold hatchwayref32_Same.f
 repeat' first
   | (with_reducible exact ih0 _ _ _)
   | (with_reducible exact LeO.refl _)
   | (with_reducible exact LeO.none _)
   | (with_reducible refine LeO.ite ?_ ?_)
   | (with_reducible refine LeO.bind ?_ (fun _ => ?_))
   | exact ih0 _ _ _
   | exact LeO.none _
   | refine LeO.ite ?_ ?_
   | refine LeO.bind ?_ (fun _ => ?_)
set_option maxHeartbeats 8000000 in
set_option maxRecDepth 100000 in
theorem hatchwayref32_Same.calls (k : Nat) (A0 : Option Addr) (c0 : Nat) (l0 : List (S58)) (A1 : Option Addr) (c1 : Nat) (l1 : List (S58)) (r : Bool) (w : World) (hr0 : Kd.C k58 w A0 l0.length l0) (hc0 : l0.length ≤ c0) (hr1 : Kd.C k58 w A1 l1.length l1) (hc1 : l1.length ≤ c1) (h : hatchwayref32_Same.f k l0 l1 = some r) :
  Calls Try.prog 29 #[.slice A0 l0.length c0, .slice A1 l1.length c1] w fun e w' => e = .returned (.bool r) ∧ Drawn0 w w' := by
 have hu58 := Try.underlying58
 have HR0 := Aside0.mk hr0
 have HC0 := Aside0.mk hc0
 clear hr0 hc0
 have HR1 := Aside0.mk hr1
 have HC1 := Aside0.mk hc1
 clear hr1 hc1
 have H : (if (l0.length : Int) = (l1.length : Int) then (hatchwayref32_Same.l0 k l0 l1 0) else (some false)) = some r := h
 clear h
 by_cases c3 : (l0.length : Int) = (l1.length : Int)
 ·rw [if_pos c3] at H
  have c3b0 : ((l0.length : Int) == (l1.length : Int)) = true := beq_iff_eq.mpr c3
  have c3b1 : ((l0.length : Int) != (l1.length : Int)) = false := bne_eq_false_iff_eq.mpr c3
  have c3b2 : (l0.length == l1.length) = true := by first | simpa using c3 | (simp at c3 ⊢; omega)
  clear c3
  have H' := Aside0.mk H
  clear H
  go_enter Try.func29, Try.ntmps29
  go_wp2
  repeat (go_quiet (fail); try go_wp2)
  go_loopg [5] k (fun kq v5 w' => ∃ (x5_1 : Int), v5 = .int .i64 x5_1 ∧ Aside0 (hatchwayref32_Same.l0 kq l0 l1 x5_1 = some r) ∧ Aside0 (kq ≤ k) ∧ Drawn0 w w')
  case atStart => exact ⟨(0), (by first | rfl | (simp; done) | (simp [*]; done)), H', ⟨Nat.le_refl _⟩, by repeat (first | exact Drawn0.refl _ | apply Drawn0.step)⟩
  case round =>
   clear H'
   try clear c1
   try clear c2
   try clear p2
   try clear c3
   try clear c3b0
   try clear c3b1
   try clear c3b2
   obtain ⟨x5_1, rfl, HA, HK1, ⟨m1, rfl⟩⟩ := hrel
   cases gk with
   | zero => exact absurd HA.out (by simp [hatchwayref32_Same.l0])
   | succ k1 =>
    have H := HA.out
    clear HA
    simp only [hatchwayref32_Same.l0] at H
    by_cases c4 : x5_1 < (l0.length : Int)
    ·rw [if_pos c4] at H
     have c4b0 : decide (x5_1 < (l0.length : Int)) = true := decide_eq_true c4
     clear c4
     by_cases c5 : 0 ≤ x5_1
     ·rw [if_pos c5] at H
      have c5b0 : decide (0 ≤ x5_1) = true := decide_eq_true c5
      clear c5
      by_cases c6 : x5_1 < (l1.length : Int)
      ·rw [if_pos c6] at H
       have c6b0 : decide (x5_1 < (l1.length : Int)) = true := decide_eq_true c6
       clear c6
       by_cases c7 : (!((((rd_T58 l0 x5_1).f0).toList) == (((rd_T58 l1 x5_1).f0).toList)) || (!(((rd_T58 l0 x5_1).f1) == ((rd_T58 l1 x5_1).f1)))) = true
       ·rw [if_pos c7] at H
        have c7b0 : (!((((rd_T58 l0 x5_1).f0).toList) == (((rd_T58 l1 x5_1).f0).toList)) || (!(((rd_T58 l0 x5_1).f1) == ((rd_T58 l1 x5_1).f1)))) = true := c7
        clear c7
        obtain rfl := Option.some.inj H
        have p101 : 0 ≤ (x5_1 : Int) := of_decide_eq_true (by first | (with_reducible assumption) | assumption)
        have q101 : x5_1 < (l0.length : Int) := of_decide_eq_true (by first | (with_reducible assumption) | assumption)
        obtain ⟨ad101, e101, hx101_0, hx101_1⟩ := at_T58 HR0.out x5_1 p101 q101
        cases e101
        replace p101 := eq_true p101
        replace q101 := eq_true q101
        have p102 : 0 ≤ (x5_1 : Int) := of_decide_eq_true (by first | (with_reducible assumption) | assumption)
        have q102 : x5_1 < (l1.length : Int) := of_decide_eq_true (by first | (with_reducible assumption) | assumption)
        obtain ⟨ad102, e102, hx102_0, hx102_1⟩ := at_T58 HR1.out x5_1 p102 q102
        cases e102
        replace p102 := eq_true p102
        replace q102 := eq_true q102
        go_wp2
        repeat (go_quiet (fail); try go_wp2)
        go_ret
        exact ⟨by first | rfl | (simp; done) | (simp [*]; done), by repeat (first | exact Drawn0.refl _ | apply Drawn0.step)⟩
       ·rw [if_neg c7] at H
        have c7b0 : (!((((rd_T58 l0 x5_1).f0).toList) == (((rd_T58 l1 x5_1).f0).toList)) || (!(((rd_T58 l0 x5_1).f1) == ((rd_T58 l1 x5_1).f1)))) = false := by simpa using c7
        clear c7
        have H' := Aside0.mk H
        clear H
        have p101 : 0 ≤ (x5_1 : Int) := of_decide_eq_true (by first | (with_reducible assumption) | assumption)
        have q101 : x5_1 < (l0.length : Int) := of_decide_eq_true (by first | (with_reducible assumption) | assumption)
        obtain ⟨ad101, e101, hx101_0, hx101_1⟩ := at_T58 HR0.out x5_1 p101 q101
        cases e101
        replace p101 := eq_true p101
        replace q101 := eq_true q101
        have p102 : 0 ≤ (x5_1 : Int) := of_decide_eq_true (by first | (with_reducible assumption) | assumption)
        have q102 : x5_1 < (l1.length : Int) := of_decide_eq_true (by first | (with_reducible assumption) | assumption)
        obtain ⟨ad102, e102, hx102_0, hx102_1⟩ := at_T58 HR1.out x5_1 p102 q102
        cases e102
        replace p102 := eq_true p102
        replace q102 := eq_true q102
        go_wp2
        repeat (go_quiet (fail); try go_wp2)
        go_roundg k1
        case measure => have := HK1.out; omega
        case rel => exact ⟨(wrap64 (x5_1 + 1)), (by first | rfl | (simp; done) | (simp [*]; done)), H', ⟨by have := HK1.out; omega⟩, by repeat (first | exact Drawn0.refl _ | apply Drawn0.step)⟩
      ·rw [if_neg c6] at H
       exact absurd H (by simp)
     ·rw [if_neg c5] at H
      exact absurd H (by simp)
    ·rw [if_neg c4] at H
     have c4b0 : decide (x5_1 < (l0.length : Int)) = false := decide_eq_false c4
     clear c4
     obtain rfl := Option.some.inj H
     go_wp2
     repeat (go_quiet (fail); try go_wp2)
     go_ret
     exact ⟨by first | rfl | (simp; done) | (simp [*]; done), by repeat (first | exact Drawn0.refl _ | apply Drawn0.step)⟩
 ·rw [if_neg c3] at H
  have c3b0 : ((l0.length : Int) == (l1.length : Int)) = false := beq_eq_false_iff_ne.mpr c3
  have c3b1 : ((l0.length : Int) != (l1.length : Int)) = true := bne_iff_ne.mpr c3
  have c3b2 : (l0.length == l1.length) = false := by first | simpa using c3 | (simp at c3 ⊢; omega)
  obtain rfl := Option.some.inj H
  go_enter Try.func29, Try.ntmps29
  go_wp2
  repeat (go_quiet (fail); try go_wp2)
  go_ret
  exact ⟨by first | rfl | (simp; done) | (simp [*]; done), by repeat (first | exact Drawn0.refl _ | apply Drawn0.step)⟩
end Go.Proofs.Yteoibgpkimlahaa.P
end
section
namespace Go.Proofs.Yteoibgpkimlahaa.P
open Go.RowKit Go.Proofs.YteoibgpkimlahaaW.PrintWords Go.Proofs.YteoibgpkimlahaaW.PrintLast Go.Proofs.YteoibgpkimlahaaW.PrintMore
abbrev Aft (w w' : World) : Prop := Nonempty (PLift (Below w.heap.size w w'))
theorem aftOut {w w' : World} (h : Aft w w') : Below w.heap.size w w' := h.elim fun x => x.down
instance aft0 (w : World) : Aft w w := ⟨⟨Below.refl _ _⟩⟩
instance aft1 (w w' : World) (o : Obj) [h : Aft w w'] : Aft w (w'.alloc o) := ⟨⟨below_alloc (aftOut h) o⟩⟩
instance aft2 (w w' : World) [h : Aft w w'] : Aft w w'.drew := ⟨⟨below_drew1 (aftOut h)⟩⟩
instance aft3 (w w' : World) (n : Nat) [h : Aft w w'] : Aft w (w'.drewN n) := ⟨⟨pw_below_drewN (aftOut h) n⟩⟩
theorem bS {w w' : World} {g : Nat} {o : Obj} [i : Aft w w'] (h : w.heap[g]? = some o) : w'.heap[g]? = some o := blk_below h (aftOut i)
theorem rS {α : Type} {d : Kd α} {e base : Nat} {ok : Nat → Prop} {v : Value} {xs : List α} {w w' : World} [i : Aft w w'] (h : d.R e w base ok v xs) : d.R e w' base ok v xs := Kd.R_below h (aftOut i)
theorem lS {w0 w w' : World} [i : Aft w w'] (h : Below w0.heap.size w0 w) : Below w0.heap.size w0 w' := h.trans ((aftOut i).mono h.size)
theorem A0 {p : Prop} (h : p) : Aside0 p := Aside0.mk h
@[reducible] def bA (n k : Nat) : Array Bool := ((List.range n).map fun i => k.testBit i).toArray
section
variable {P : Program} {ops : Array Oper} {Q : Exit → Act → World → Prop} {md : Region.Mode} {S : World → Prop} {ds : List Nat}
theorem pu {i : Nat} {N : Option Tmp} {oi : Oper} {v : Value} {fuel : Nat} {l : Array Bool} {a : Act} {w : World} (l' : Array Bool) (hi : ops[i]? = some oi) (hN : oi.dst = N) (hc : anyB md ops l l' i = true)
  (hQ : ∀ c a w, Q (.panic c) (a.put oi.dst v) w → Q (.panic c) a w) (hg : Region.wanted oi (yielded ops a.tmps) = true) (hs : ∀ w, (execOp a.eval oi).run P w = .ok (.value v) w) {a' : Act} (ha : a.put N v = a')
  (h : wpAnyLast P md ops Q S ds fuel l' a' w) : wpAnyLast P md ops Q S ds (fuel + 1) l a w := pure_ l' hi hN hc hQ (.inl ⟨hg, hs⟩) ha h
theorem tk {i : Nat} {N : Option Tmp} {oi : Oper} {v : Value} {fuel : Nat} {l : Array Bool} {a : Act} {w : World} (l' : Array Bool) (hi : ops[i]? = some oi) (hN : oi.dst = N) (hc : takeB md ops ds l l' i = true)
  (hQ : ∀ c a w, Q (.panic c) (a.put oi.dst v) w → Q (.panic c) a w) (hg : Region.wanted oi (yielded ops a.tmps) = true) (hS : S w) (hs : ∀ w, S w → (execOp a.eval oi).run P w = .ok (.value v) w) {a' : Act} (ha : a.put N v = a')
  (h : wpAnyLast P md ops Q S ds fuel l' a' w) : wpAnyLast P md ops Q S ds (fuel + 1) l a w := take_ l' hi hN hc hQ (.inl ⟨hg, hs⟩) hS ha h
theorem un {i : Nat} {N : Option Tmp} {oi : Oper} {fuel : Nat} {l : Array Bool} {a : Act} {w : World} (l' : Array Bool) (hi : ops[i]? = some oi) (hN : oi.dst = N) (hc : anyB md ops l l' i = true)
  (hQ : ∀ c a w, Q (.panic c) (a.put oi.dst undef) w → Q (.panic c) a w) (hg : Region.wanted oi (yielded ops a.tmps) = false) {a' : Act} (ha : a.put N undef = a')
  (h : wpAnyLast P md ops Q S ds fuel l' a' w) : wpAnyLast P md ops Q S ds (fuel + 1) l a w := pure_ l' hi hN hc hQ (.inr ⟨hg, rfl⟩) ha h
end
theorem bc {w : World} {g t : Nat} {cs : Array Value} (h : w.heap[g]? = some (.cells cs t (0, 0))) (i : Nat) {v : Option Value} (hv : cs[i]? = v := by rfl) : w.cell? ⟨g, i, none⟩ = v := (blk_cell h i).trans hv
theorem u1 {α : Type _} {xs : List α} {i : Nat} {a : α} : xs.toArray.setIfInBounds i a = (xs.set i a).toArray := by simp
theorem u2 {α : Type _} {x : α} {xs : List α} {a : α} : (x :: xs).set 0 a = a :: xs := rfl
theorem u3 {α : Type _} {x : α} {xs : List α} {i : Nat} {a : α} : (x :: xs).set (i + 1) a = x :: xs.set i a := rfl
end Go.Proofs.Yteoibgpkimlahaa.P
end
