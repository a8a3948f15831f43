/- Whether any hello may be, and its bytes, or the error, are the document's; it is got again. (part 23 of 27) -/
import Derived.Test.YteoibgpkimlahaaB6
import Derived.Test.YteoibgpkimlahaaB16
import Derived.Test.YteoibgpkimlahaaB8
import Derived.Test.YteoibgpkimlahaaB19
section
namespace Go.Proofs.Yteoibgpkimlahaa.P
open Go.RowKit Go.Proofs.YteoibgpkimlahaaW.PrintWords Go.Proofs.YteoibgpkimlahaaW.PrintLast Go.Proofs.YteoibgpkimlahaaW.PrintMore
attribute [local go_sem] max2_int min2_int max_two min_two max_three min_three max_four min_four   
set_option linter.unusedVariables false
set_option linter.unusedSimpArgs false
def hello_Put.l0 : Nat → List (S104) → Int → Int → Int → Int → List (S104) → ByteArray → Bool → List (S62) → Option (ByteArray × Int)
 | 0, _, _, _, _, _, _, _, _, _ => none
 | k + 1, x12, x13, x14, x102000, x102001, x102002, x104000, x104001, x104002 => if x14 < x13 then (if 0 ≤ x14 then (if x14 < (x12.length : Int) then ((item_Text.f ((rd_T104 x12 x14).f0)).bind fun bt106 => ((hello_number.f k ((rd_T104 x12 x14).f1)).bind fun bt111 => ((item_List.f (([(⟨bt106.1, bt106.2.1, bt106.2.2⟩ : S62), (⟨bt111.1, bt111.2.1, bt111.2.2⟩ : S62)] : List (S62)))).bind fun bt119 => (if x104002.length < 2932031007402 then (hello_Put.l0 k x12 x13 (wrap64 (x14 + 1)) x102000 x102001 x102002 x104000 x104001 (x104002 ++ [(⟨bt119.1, bt119.2.1, bt119.2.2⟩ : S62)])) else (none))))) else (none)) else (none)) else ((hello_number.f k x102000).bind fun bt127 => ((hello_number.f k x102001).bind fun bt132 => ((item_List.f (([(⟨bt127.1, bt127.2.1, bt127.2.2⟩ : S62), (⟨bt132.1, bt132.2.1, bt132.2.2⟩ : S62), (⟨x104000, x104001, x104002⟩ : S62)] : List (S62)))).bind fun bt140 => ((rlp_Put.f bt140.1 bt140.2.1 bt140.2.2).bind fun bt145 => (some (bt145.1, bt145.2))))))
def hello_Put.f (k : Nat) (a0_0 : Int) (a0_1 : Int) (l0_2 : List (S104)) : Option (ByteArray × Int) := (hello_May.f k a0_0 a0_1 l0_2).bind fun t102 => (if t102 = true then (hello_Put.l0 k l0_2 (l0_2.length : Int) 0 a0_0 a0_1 l0_2 (⟨#[]⟩ : ByteArray) true ([] : List (S62))) else (some ((⟨#[]⟩ : ByteArray), 1)))
theorem hello_Put.mono_l : ∀ k, (∀ y0 y1 y2 y3 y4 y5 y6 y7 y8, LeO (hello_Put.l0 k y0 y1 y2 y3 y4 y5 y6 y7 y8) (hello_Put.l0 (k + 1) y0 y1 y2 y3 y4 y5 y6 y7 y8))
 | 0 => fun _ _ _ _ _ _ _ _ _ r h => by simp [hello_Put.l0] at h
 | k + 1 => by
  have ih0 := hello_Put.mono_l k
  ·intro y0 y1 y2 y3 y4 y5 y6 y7 y8
   unfold hello_Put.l0
   repeat' first
   | (with_reducible exact ih0 _ _ _ _ _ _ _ _ _)
   | (with_reducible exact hello_May.mono _ _ _ _)
   | (with_reducible exact hello_number.mono _ _)
   | (with_reducible exact LeO.refl _)
   | (with_reducible exact LeO.none _)
   | (with_reducible refine LeO.ite ?_ ?_)
   | (with_reducible refine LeO.bind ?_ (fun _ => ?_))
   | exact ih0 _ _ _ _ _ _ _ _ _
   | exact hello_May.mono _ _ _ _
   | exact hello_number.mono _ _
   | exact LeO.none _
   | refine LeO.ite ?_ ?_
   | refine LeO.bind ?_ (fun _ => ?_)
theorem hello_Put.mono : ∀ a0 a1 a2 k, LeO (hello_Put.f k a0 a1 a2) (hello_Put.f (k + 1) a0 a1 a2) := by
 intro a0 a1 a2 k
 have ih0 := hello_Put.mono_l k
 unfold hello_Put.f
 repeat' first
   | (with_reducible exact ih0 _ _ _ _ _ _ _ _ _)
   | (with_reducible exact hello_May.mono _ _ _ _)
   | (with_reducible exact hello_number.mono _ _)
   | (with_reducible exact LeO.refl _)
   | (with_reducible exact LeO.none _)
   | (with_reducible refine LeO.ite ?_ ?_)
   | (with_reducible refine LeO.bind ?_ (fun _ => ?_))
   | exact ih0 _ _ _ _ _ _ _ _ _
   | exact hello_May.mono _ _ _ _
   | exact hello_number.mono _ _
   | exact LeO.none _
   | refine LeO.ite ?_ ?_
   | refine LeO.bind ?_ (fun _ => ?_)
def hello_Put.T7 : Bool × List (List Nat × List Nat) := (true, [([], []), ([0], [0]), ([], []), ([2], [2]), ([3], [3]), ([], []), ([5], [5]), ([6, 4], [6]), ([4, 7], [4, 7]), ([8, 7], [8]), ([9], [9]), ([1, 10, 9], [1, 10]), ([0, 1, 2, 3, 4, 5, 6, 7, 8, 9, 10, 11], []), ([12, 11, 11, 0, 1, 2, 3, 4, 5, 6, 7, 8, 9, 10, 11], [11, 12])])
def hello_Put.B7 : List Nat := [0, 1, 0, 4, 12, 0, 32, 124, 252, 508, 1020, 2047, 4095, 8191]
theorem hello_Put.tab7 : rtab .any (opsOf Try.f56 7) = hello_Put.T7 := by kernel_rfl
theorem hello_Put.bits7 : waitsOk hello_Put.T7.2 hello_Put.B7 = true := by kernel_rfl
def hello_Put.T9 : Bool × List (List Nat × List Nat) := (true, [([], []), ([0], [0]), ([1], [1]), ([], []), ([3], [3]), ([4, 2], [4]), ([], []), ([2, 5, 6], [2, 5, 6]), ([7, 5], [7]), ([8, 8], [8]), ([9], [9]), ([9], [9]), ([10, 9, 0, 1, 2, 3, 4, 5, 6, 7, 8, 9, 10, 11], [10]), ([11, 12, 0, 1, 2, 3, 4, 5, 6, 7, 8, 9, 10, 11, 12], [11])])
def hello_Put.B9 : List Nat := [0, 1, 3, 0, 8, 31, 0, 127, 255, 511, 1023, 1023, 4095, 8191]
theorem hello_Put.tab9 : rtab .any (opsOf Try.f56 9) = hello_Put.T9 := by kernel_rfl
theorem hello_Put.bits9 : waitsOk hello_Put.T9.2 hello_Put.B9 = true := by kernel_rfl
set_option maxHeartbeats 8000000 in
set_option maxRecDepth 100000 in
theorem hello_Put.calls (k : Nat) (a0_0 : Int) (a0_1 : Int) (A0_2 : Option Addr) (c0_2 : Nat) (l0_2 : List (S104)) (r1 : ByteArray) (r2 : Int) (w : World) (hr0_2 : Kd.C k104 w A0_2 l0_2.length l0_2) (hc0_2 : l0_2.length ≤ c0_2) (h : hello_Put.f k a0_0 a0_1 l0_2 = some (r1, r2)) :
  Calls Try.prog 56 #[.agg #[.int .i64 a0_0, .int .i64 a0_1, .slice A0_2 l0_2.length c0_2]] w fun e w' => e = .returned (.tuple #[.string r1, .int .i64 r2]) ∧ Below w.heap.size w w' := by
 have hu47 := Try.underlying47
 have hu62 := Try.underlying62
 have hu104 := Try.underlying104
 have HR0_2 := A0 hr0_2
 have HC0_2 := A0 hc0_2
 clear hr0_2 hc0_2
 have HB := A0 (Below.refl w.heap.size w)
 have H : ((hello_May.f k a0_0 a0_1 l0_2).bind fun t102 => (if t102 = true then (hello_Put.l0 k l0_2 (l0_2.length : Int) 0 a0_0 a0_1 l0_2 (⟨#[]⟩ : ByteArray) true ([] : List (S62))) else (some ((⟨#[]⟩ : ByteArray), 1)))) = some (r1, r2) := h
 clear h
 replace H := Option.bind_eq_some_iff.mp H
 obtain ⟨t102, A20, H⟩ := H
 replace H : (if t102 = true then (hello_Put.l0 k l0_2 (l0_2.length : Int) 0 a0_0 a0_1 l0_2 (⟨#[]⟩ : ByteArray) true ([] : List (S62))) else (some ((⟨#[]⟩ : ByteArray), 1))) = some (r1, r2) := H
 have A2 := A0 A20
 clear A20
 by_cases c3 : t102 = true
 ·subst c3
  have H1 : (hello_Put.l0 k l0_2 (l0_2.length : Int) 0 a0_0 a0_1 l0_2 (⟨#[]⟩ : ByteArray) true ([] : List (S62))) = some (r1, r2) := by rw [if_pos rfl] at H; exact H
  clear H
  have H := H1
  clear H1
  have H' := A0 H
  clear H
  go_enter Try.func56, Try.ntmps56
  go_wp2_with (first | ((with_reducible refine gate_dst (N := 1) rfl ?_); refine box_event ?hg (N := 1) ?hd (cs := #[.int .i64 a0_0, .int .i64 a0_1, .slice A0_2 l0_2.length c0_2]) (t := 47) ?hr ?_; (case hd => rfl); (case hg => rfl); (case hr => first | (go_simp; done) | (go_simp; rfl)); intro gb101 hg w4 hbox hb; have n0_ := A0 (below_step (by repeat (first | (with_reducible first | exact HB.out | apply below_alloc | apply pw_below_drewN | apply below_drew1) | exact HB.out)) hb); have n1_ := A0 (hbox); have n2_ := A0 ((by rw [hg]; exact (below_size (by repeat (first | (with_reducible first | exact HB.out | apply below_alloc | apply pw_below_drewN | apply below_drew1) | exact HB.out))) : w.heap.size ≤ gb101)); have n3_ := A0 ((by rw [hg]; exact (below_size (by repeat (first | (with_reducible first | exact HB.out | apply below_alloc | apply pw_below_drewN | apply below_drew1) | exact HB.out))) : w.heap.size ≤ gb101)); clear HB; have HB := n0_; have BK101 := n1_; have GW101 := n2_; have GE101 := n3_; clear n0_ n1_ n2_ n3_; clear hb hbox hg; have hcz5_0 : w4.cell? ⟨gb101, 0, none⟩ = some (.int .i64 a0_0) := bc BK101.out 0; have hcz5_1 : w4.cell? ⟨gb101, 1, none⟩ = some (.int .i64 a0_1) := bc BK101.out 1; have hcz5_2 : w4.cell? ⟨gb101, 2, none⟩ = some (.slice A0_2 l0_2.length c0_2) := bc BK101.out 2; have hfz5_0 := blk_frozen BK101.out 0; have hfz5_1 := blk_frozen BK101.out 1; have hfz5_2 := blk_frozen BK101.out 2) | ((with_reducible refine gate_callee (f := 57) rfl ?_); refine goesL_ (some 8) rfl rfl Try.func57 (by kernel_rfl) rfl #[.agg #[.int .i64 a0_0, .int .i64 a0_1, .slice A0_2 l0_2.length c0_2]] rfl (by (try simp only [List.map_toArray, List.map_cons, List.map_nil]); first | done | rfl | (simp only [List.length_drop, List.length_take]; rfl)) ?_; (with_reducible refine (hello_May.calls k a0_0 a0_1 _ _ l0_2 true _ ?side1 ?side2 A2.out).mono ?_); (case side1 => repeat (first | exact (Kd.C_below HR0_2.out HB.out) | (with_reducible refine Kd.C_alloc ?_ _) | (with_reducible refine Kd.C_drewN ?_ _) | (with_reducible refine Kd.C_drew ?_))); (case side2 => exact HC0_2.out); rintro e w6 ⟨rfl, hb⟩; refine ⟨_, rfl, ?_⟩; replace BK101 := A0 (blk_below (bS BK101.out) hb); replace HB := A0 (below_step (lS HB.out) hb); (try clear hb); (try clear hb2); (try clear hk); (try clear hi)) | ((with_reducible refine gate_dst (N := 4) rfl ?_); refine box_event ?hg (N := 4) ?hd (cs := #[.string (⟨#[]⟩ : ByteArray), .bool false, .slice none 0 0]) (t := 62) ?hr ?_; (case hd => rfl); (case hg => rfl); (case hr => first | (go_simp; done) | (go_simp; rfl)); intro gb103 hg w7 hbox hb; have n0_ := A0 (blk_below (bS BK101.out) hb); have n1_ := A0 (below_step (lS HB.out) hb); have n2_ := A0 (hbox); have n3_ := A0 ((by rw [hg]; exact (below_size (lS HB.out)) : w.heap.size ≤ gb103)); have n4_ := A0 ((by rw [hg]; exact (below_size (lS HB.out)) : w.heap.size ≤ gb103)); have n5_ := A0 ((by rw [hg]; exact Nat.ne_of_lt (blk_lt (g := gb101) (o := .cells #[.int .i64 a0_0, .int .i64 a0_1, .slice A0_2 l0_2.length c0_2] 47 (0, 0)) (bS BK101.out)) : gb101 ≠ gb103)); have n6_ := A0 ((by rw [hg]; exact Nat.ne_of_gt (blk_lt (g := gb101) (o := .cells #[.int .i64 a0_0, .int .i64 a0_1, .slice A0_2 l0_2.length c0_2] 47 (0, 0)) (bS BK101.out)) : gb103 ≠ gb101)); clear BK101; clear HB; have BK101 := n0_; have HB := n1_; have BK103 := n2_; have GW103 := n3_; have GE103 := n4_; have NB101_103 := n5_; have NB103_101 := n6_; clear n0_ n1_ n2_ n3_ n4_ n5_ n6_; clear hb hbox hg; have hnb8 := NB103_101.out; have hnc8 := NB101_103.out; have hcz9_0 : w7.cell? ⟨gb103, 0, none⟩ = some (.string (⟨#[]⟩ : ByteArray)) := bc BK103.out 0; have hcz9_1 : w7.cell? ⟨gb103, 1, none⟩ = some (.bool false) := bc BK103.out 1; have hcz9_2 : w7.cell? ⟨gb103, 2, none⟩ = some (.slice none 0 0) := bc BK103.out 2; have hfz9_0 := blk_frozen BK103.out 0; have hfz9_1 := blk_frozen BK103.out 1; have hfz9_2 := blk_frozen BK103.out 2; have hcz10_0 : w7.cell? ⟨gb101, 0, none⟩ = some (.int .i64 a0_0) := bc BK101.out 0; have hcz10_1 : w7.cell? ⟨gb101, 1, none⟩ = some (.int .i64 a0_1) := bc BK101.out 1; have hcz10_2 : w7.cell? ⟨gb101, 2, none⟩ = some (.slice A0_2 l0_2.length c0_2) := bc BK101.out 2; have hfz10_0 := blk_frozen BK101.out 0; have hfz10_1 := blk_frozen BK101.out 1; have hfz10_2 := blk_frozen BK101.out 2))
  go_loopg [14] k (fun kq v14 w' => ∃ (x14_1 : Int) (x104002_1 : List (S62)) (u104002 : Value), v14 = .int .i64 x14_1 ∧ Aside0 (hello_Put.l0 kq l0_2 (l0_2.length : Int) x14_1 a0_0 a0_1 l0_2 (⟨#[]⟩ : ByteArray) true x104002_1 = some (r1, r2)) ∧ Aside0 (kq ≤ k) ∧ Aside0 (Kd.N k62 62 w' w.heap.size (fun k_ => k_ ≠ gb101 ∧ k_ ≠ gb103) u104002 x104002_1) ∧ Aside0 (w'.heap[gb101]? = some (.cells #[.int .i64 a0_0, .int .i64 a0_1, (.slice A0_2 l0_2.length c0_2)] 47 (0, 0))) ∧ Aside0 (w'.heap[gb103]? = some (.cells #[.string (⟨#[]⟩ : ByteArray), .bool true, u104002] 62 (0, 0))) ∧ Aside0 (Below w.heap.size w w'))
  case atStart => exact ⟨(0), (([] : List (S62))), (.slice none 0 0), (by first | rfl | (simp; done) | (simp [*]; done)), H', ⟨Nat.le_refl _⟩, ⟨by first | exact Kd.R_nil _ _ _ _ _ | exact Kd.N_nil _ _ _ _ _ | exact Kd.V_nil _ _ _ _ _ | exact Kd.Q_nil _ _ _ _ _ | exact Kd.S_nil _ _ _ _ _⟩, ⟨by (with_reducible repeat (first | refine blk_drewN ?_ _ | refine blk_drew ?_ | refine blk_alloc ?_ _)); refine blk_far ?_ NB101_103.out _; (with_reducible repeat (first | refine blk_drewN ?_ _ | refine blk_drew ?_ | refine blk_alloc ?_ _)); refine blk_far ?_ NB101_103.out _; (with_reducible repeat (first | refine blk_drewN ?_ _ | refine blk_drew ?_ | refine blk_alloc ?_ _)); refine blk_far ?_ NB101_103.out _; (with_reducible repeat (first | refine blk_drewN ?_ _ | refine blk_drew ?_ | refine blk_alloc ?_ _)); exact BK101.out⟩, ⟨by (with_reducible repeat (first | refine blk_drewN ?_ _ | refine blk_drew ?_ | refine blk_alloc ?_ _)); refine blk_put (cs := #[.string (⟨#[]⟩ : ByteArray), .bool true, .slice none 0 0]) ?_ 2 _ rfl; (with_reducible repeat (first | refine blk_drewN ?_ _ | refine blk_drew ?_ | refine blk_alloc ?_ _)); refine blk_put (cs := #[.string (⟨#[]⟩ : ByteArray), .bool false, .slice none 0 0]) ?_ 1 _ rfl; (with_reducible repeat (first | refine blk_drewN ?_ _ | refine blk_drew ?_ | refine blk_alloc ?_ _)); refine blk_put (cs := #[.string (⟨#[]⟩ : ByteArray), .bool false, .slice none 0 0]) ?_ 0 _ rfl; (with_reducible repeat (first | refine blk_drewN ?_ _ | refine blk_drew ?_ | refine blk_alloc ?_ _)); exact BK103.out⟩, ⟨by repeat (first | (with_reducible first | exact HB.out | apply below_alloc | apply pw_below_drewN | apply below_drew1 | refine below_set ?_ GE101.out | refine below_set ?_ GE103.out) | exact HB.out)⟩⟩
  case round =>
   clear H'
   try clear p2
   try clear c3
   try clear c5
   try clear c8
   try clear hcz10_0
   try clear hcz10_1
   try clear hcz10_2
   try clear hcz5_0
   try clear hcz5_1
   try clear hcz5_2
   try clear hcz9_0
   try clear hcz9_1
   try clear hcz9_2
   try clear hfz10_0
   try clear hfz10_1
   try clear hfz10_2
   try clear hfz5_0
   try clear hfz5_1
   try clear hfz5_2
   try clear hfz9_0
   try clear hfz9_1
   try clear hfz9_2
   obtain ⟨x14_1, x104002_1, u104002, rfl, HA, HK1, HO_104002, BK101, BK103, HB⟩ := hrel
   cases gk with
   | zero => exact absurd HA.out (by simp [hello_Put.l0])
   | succ k1 =>
    have H := HA.out
    clear HA
    simp only [hello_Put.l0] at H
    by_cases c11 : x14_1 < (l0_2.length : Int)
    ·rw [if_pos c11] at H
     have c11b0 : decide (x14_1 < (l0_2.length : Int)) = true := decide_eq_true c11
     clear c11
     by_cases c12 : 0 ≤ x14_1
     rotate_left
     ·rw [if_neg c12] at H
      exact absurd H (by simp)
     rw [if_pos c12] at H
     have c12b0 : decide (0 ≤ x14_1) = true := decide_eq_true c12
     clear c12
     by_cases c13 : x14_1 < (l0_2.length : Int)
     rotate_left
     ·rw [if_neg c13] at H
      exact absurd H (by simp)
     rw [if_pos c13] at H
     have c13b0 : decide (x14_1 < (l0_2.length : Int)) = true := decide_eq_true c13
     clear c13
     replace H := Option.bind_eq_some_iff.mp H
     obtain ⟨⟨t106, t107, t108⟩, A140, H⟩ := H
     replace H : ((hello_number.f k1 ((rd_T104 l0_2 x14_1).f1)).bind fun bt111 => ((item_List.f (([(⟨t106, t107, t108⟩ : S62), (⟨bt111.1, bt111.2.1, bt111.2.2⟩ : S62)] : List (S62)))).bind fun bt119 => (if x104002_1.length < 2932031007402 then (hello_Put.l0 k1 l0_2 (l0_2.length : Int) (wrap64 (x14_1 + 1)) a0_0 a0_1 l0_2 (⟨#[]⟩ : ByteArray) true (x104002_1 ++ [(⟨bt119.1, bt119.2.1, bt119.2.2⟩ : S62)])) else (none)))) = some (r1, r2) := H
     have A14 := A0 A140
     clear A140
     replace H := Option.bind_eq_some_iff.mp H
     obtain ⟨⟨t111, t112, t113⟩, A150, H⟩ := H
     replace H : ((item_List.f (([(⟨t106, t107, t108⟩ : S62), (⟨t111, t112, t113⟩ : S62)] : List (S62)))).bind fun bt119 => (if x104002_1.length < 2932031007402 then (hello_Put.l0 k1 l0_2 (l0_2.length : Int) (wrap64 (x14_1 + 1)) a0_0 a0_1 l0_2 (⟨#[]⟩ : ByteArray) true (x104002_1 ++ [(⟨bt119.1, bt119.2.1, bt119.2.2⟩ : S62)])) else (none))) = some (r1, r2) := H
     have A15 := A0 A150
     clear A150
     obtain ⟨y116, hy116⟩ : ∃ y_ : List (S62), y_ = (([(⟨t106, t107, t108⟩ : S62), (⟨t111, t112, t113⟩ : S62)] : List (S62))) := ⟨_, rfl⟩
     replace H : ((item_List.f y116).bind fun bt119 => (if x104002_1.length < 2932031007402 then (hello_Put.l0 k1 l0_2 (l0_2.length : Int) (wrap64 (x14_1 + 1)) a0_0 a0_1 l0_2 (⟨#[]⟩ : ByteArray) true (x104002_1 ++ [(⟨bt119.1, bt119.2.1, bt119.2.2⟩ : S62)])) else (none))) = some (r1, r2) := by first | (rw [hy116]; with_reducible exact H) | (have H2_ := (Option.bind_some _ _).symm.trans H; rw [hy116]; with_reducible exact H2_) | (have H2_ := (Option.bind_some _ _).symm.trans H; with_reducible exact H2_) | with_reducible exact H | (rw [hy116]; exact H) | exact H
     have Ny116 := A0 hy116
     clear hy116
     replace H := Option.bind_eq_some_iff.mp H
     obtain ⟨⟨t119, t120, t121⟩, A160, H⟩ := H
     replace H : (if x104002_1.length < 2932031007402 then (hello_Put.l0 k1 l0_2 (l0_2.length : Int) (wrap64 (x14_1 + 1)) a0_0 a0_1 l0_2 (⟨#[]⟩ : ByteArray) true (x104002_1 ++ [(⟨t119, t120, t121⟩ : S62)])) else (none)) = some (r1, r2) := H
     have A16 := A0 A160
     clear A160
     by_cases c17 : x104002_1.length < 2932031007402
     rotate_left
     ·rw [if_neg c17] at H
      exact absurd H (by simp)
     rw [if_pos c17] at H
     have LMc17 := A0 c17
     clear c17
     obtain ⟨y124, hy124⟩ : ∃ y_ : List (S62), y_ = (x104002_1 ++ [(⟨t119, t120, t121⟩ : S62)]) := ⟨_, rfl⟩
     replace H : (hello_Put.l0 k1 l0_2 (l0_2.length : Int) (wrap64 (x14_1 + 1)) a0_0 a0_1 l0_2 (⟨#[]⟩ : ByteArray) true y124) = some (r1, r2) := by first | (rw [hy124]; with_reducible exact H) | (have H2_ := (Option.bind_some _ _).symm.trans H; rw [hy124]; with_reducible exact H2_) | (have H2_ := (Option.bind_some _ _).symm.trans H; with_reducible exact H2_) | with_reducible exact H | (rw [hy124]; exact H) | exact H
     have Ny124 := A0 hy124
     clear hy124
     have H' := A0 H
     clear H
     have p104 : 0 ≤ (x14_1 : Int) := of_decide_eq_true (by first | (with_reducible assumption) | assumption)
     have q104 : x14_1 < (l0_2.length : Int) := of_decide_eq_true (by first | (with_reducible assumption) | assumption)
     obtain ⟨ad104, e104, hx104_0, hx104_1⟩ := at_T104 HR0_2.out x14_1 p104 q104
     cases e104
     replace hx104_0 := (HB.out.cell (World.block_lt_of_cell? w _ hx104_0)).trans hx104_0
     replace hx104_1 := (HB.out.cell (World.block_lt_of_cell? w _ hx104_1)).trans hx104_1
     replace p104 := eq_true p104
     replace q104 := eq_true q104
     try go_wp2_with (first | ((with_reducible refine gate_dst (N := 6) rfl ?_); refine box_event ?hg (N := 6) ?hd (cs := #[.string (⟨#[]⟩ : ByteArray), .int .i64 0]) (t := 104) ?hr ?_; (case hd => rfl); (case hg => rfl); (case hr => first | (go_simp; done) | (go_simp; rfl)); intro gb105 hg w18 hbox hb; have n0_ := A0 (Kd.N_below (Kd.N_elderB (by (with_reducible repeat (first | apply Kd.N_alloc | apply Kd.N_drewN | apply Kd.N_drew)); exact HO_104002.out) gb105 (Nat.le_of_eq hg.symm)) hb); have n1_ := A0 (blk_below (bS BK101.out) hb); have n2_ := A0 (blk_below (g := gb103) (o := .cells #[.string (⟨#[]⟩ : ByteArray), .bool true, u104002] 62 (0, 0)) (bS BK103.out) hb); have n3_ := A0 (below_step (lS HB.out) hb); have n4_ := A0 (hbox); have n5_ := A0 ((by rw [hg]; exact (below_size (lS HB.out)) : w.heap.size ≤ gb105)); have n6_ := A0 ((by rw [hg]; exact (below_size (lS HB.out)) : w.heap.size ≤ gb105)); have n7_ := A0 ((by rw [hg]; exact Nat.ne_of_lt (blk_lt (g := gb101) (o := .cells #[.int .i64 a0_0, .int .i64 a0_1, .slice (some ad104) l0_2.length c0_2] 47 (0, 0)) (bS BK101.out)) : gb101 ≠ gb105)); have n8_ := A0 ((by rw [hg]; exact Nat.ne_of_gt (blk_lt (g := gb101) (o := .cells #[.int .i64 a0_0, .int .i64 a0_1, .slice (some ad104) l0_2.length c0_2] 47 (0, 0)) (bS BK101.out)) : gb105 ≠ gb101)); have n9_ := A0 ((by rw [hg]; exact Nat.ne_of_lt (blk_lt (g := gb103) (o := .cells #[.string (⟨#[]⟩ : ByteArray), .bool true, u104002] 62 (0, 0)) (bS BK103.out)) : gb103 ≠ gb105)); have n10_ := A0 ((by rw [hg]; exact Nat.ne_of_gt (blk_lt (g := gb103) (o := .cells #[.string (⟨#[]⟩ : ByteArray), .bool true, u104002] 62 (0, 0)) (bS BK103.out)) : gb105 ≠ gb103)); clear HO_104002; clear BK101; clear BK103; clear HB; have HO_104002 := n0_; have BK101 := n1_; have BK103 := n2_; have HB := n3_; have BK105 := n4_; have GW105 := n5_; have GE105 := n6_; have NB101_105 := n7_; have NB105_101 := n8_; have NB103_105 := n9_; have NB105_103 := n10_; clear n0_ n1_ n2_ n3_ n4_ n5_ n6_ n7_ n8_ n9_ n10_; clear hb hbox hg; have hnb19 := NB105_101.out; have hnc19 := NB101_105.out; have hnb20 := NB105_103.out; have hnc20 := NB103_105.out; have hcz21_0 : w18.cell? ⟨gb105, 0, none⟩ = some (.string (⟨#[]⟩ : ByteArray)) := bc BK105.out 0; have hcz21_1 : w18.cell? ⟨gb105, 1, none⟩ = some (.int .i64 0) := bc BK105.out 1; have hfz21_0 := blk_frozen BK105.out 0; have hfz21_1 := blk_frozen BK105.out 1))
     have n0_ : Aside0 (Kd.N k62 62 ((w18.setCell ⟨gb105, 0, none⟩ (.string ((rd_T104 l0_2 x14_1).f0))).setCell ⟨gb105, 1, none⟩ (.int .i64 ((rd_T104 l0_2 x14_1).f1))) w.heap.size (fun k_ => k_ ≠ gb101 ∧ k_ ≠ gb103 ∧ k_ ≠ gb105) u104002 x104002_1) := ⟨by (with_reducible repeat (first | apply Kd.N_alloc | apply Kd.N_drewN | apply Kd.N_drew)); exact Kd.N_mono (Kd.N_far (p := ⟨gb105, 1, none⟩) (Kd.N_far (p := ⟨gb105, 0, none⟩) (Kd.N_mono HO_104002.out (fun k_ hk => (⟨hk, hk.2⟩ : _ ∧ k_ ≠ gb105))) (fun _ hk => hk.2) (.string ((rd_T104 l0_2 x14_1).f0))) (fun _ hk => hk.2) (.int .i64 ((rd_T104 l0_2 x14_1).f1))) (fun _ hk => ⟨hk.1.1.1, ⟨hk.1.1.2, hk.1.2⟩⟩)⟩
     have n1_ : Aside0 (((w18.setCell ⟨gb105, 0, none⟩ (.string ((rd_T104 l0_2 x14_1).f0))).setCell ⟨gb105, 1, none⟩ (.int .i64 ((rd_T104 l0_2 x14_1).f1))).heap[gb101]? = some (.cells #[.int .i64 a0_0, .int .i64 a0_1, .slice (some ad104) l0_2.length c0_2] 47 (0, 0))) := ⟨by (with_reducible repeat (first | refine blk_drewN ?_ _ | refine blk_drew ?_ | refine blk_alloc ?_ _)); refine blk_far ?_ NB101_105.out _; (with_reducible repeat (first | refine blk_drewN ?_ _ | refine blk_drew ?_ | refine blk_alloc ?_ _)); refine blk_far ?_ NB101_105.out _; (with_reducible repeat (first | refine blk_drewN ?_ _ | refine blk_drew ?_ | refine blk_alloc ?_ _)); exact BK101.out⟩
     have n2_ : Aside0 (((w18.setCell ⟨gb105, 0, none⟩ (.string ((rd_T104 l0_2 x14_1).f0))).setCell ⟨gb105, 1, none⟩ (.int .i64 ((rd_T104 l0_2 x14_1).f1))).heap[gb103]? = some (.cells #[.string (⟨#[]⟩ : ByteArray), .bool true, u104002] 62 (0, 0))) := ⟨by (with_reducible repeat (first | refine blk_drewN ?_ _ | refine blk_drew ?_ | refine blk_alloc ?_ _)); refine blk_far ?_ NB103_105.out _; (with_reducible repeat (first | refine blk_drewN ?_ _ | refine blk_drew ?_ | refine blk_alloc ?_ _)); refine blk_far ?_ NB103_105.out _; (with_reducible repeat (first | refine blk_drewN ?_ _ | refine blk_drew ?_ | refine blk_alloc ?_ _)); exact BK103.out⟩
     have n3_ : Aside0 (((w18.setCell ⟨gb105, 0, none⟩ (.string ((rd_T104 l0_2 x14_1).f0))).setCell ⟨gb105, 1, none⟩ (.int .i64 ((rd_T104 l0_2 x14_1).f1))).heap[gb105]? = some (.cells #[.string ((rd_T104 l0_2 x14_1).f0), .int .i64 ((rd_T104 l0_2 x14_1).f1)] 104 (0, 0))) := ⟨by (with_reducible repeat (first | refine blk_drewN ?_ _ | refine blk_drew ?_ | refine blk_alloc ?_ _)); refine blk_put (cs := #[.string ((rd_T104 l0_2 x14_1).f0), .int .i64 0]) ?_ 1 _ rfl; (with_reducible repeat (first | refine blk_drewN ?_ _ | refine blk_drew ?_ | refine blk_alloc ?_ _)); refine blk_put (cs := #[.string (⟨#[]⟩ : ByteArray), .int .i64 0]) ?_ 0 _ rfl; (with_reducible repeat (first | refine blk_drewN ?_ _ | refine blk_drew ?_ | refine blk_alloc ?_ _)); exact BK105.out⟩
     have n4_ : Aside0 (Below w.heap.size w ((w18.setCell ⟨gb105, 0, none⟩ (.string ((rd_T104 l0_2 x14_1).f0))).setCell ⟨gb105, 1, none⟩ (.int .i64 ((rd_T104 l0_2 x14_1).f1)))) := ⟨by repeat (first | (with_reducible first | exact HB.out | apply below_alloc | apply pw_below_drewN | apply below_drew1 | refine below_set ?_ GE101.out | refine below_set ?_ GE103.out | refine below_set ?_ GE105.out) | exact HB.out)⟩
     (try clear HO_104002)
     (try clear BK101)
     (try clear BK103)
     (try clear BK105)
     (try clear HB)
     generalize ((w18.setCell ⟨gb105, 0, none⟩ (.string ((rd_T104 l0_2 x14_1).f0))).setCell ⟨gb105, 1, none⟩ (.int .i64 ((rd_T104 l0_2 x14_1).f1))) = w22 at n0_ n1_ n2_ n3_ n4_ ⊢
     have HO_104002 := n0_
     have BK101 := n1_
     have BK103 := n2_
     have BK105 := n3_
     have HB := n4_
     clear n0_ n1_ n2_ n3_ n4_
     replace HO_104002 := A0 (Kd.N_drew HO_104002.out)
     replace BK101 := A0 (blk_drew BK101.out)
     replace BK103 := A0 (blk_drew BK103.out)
     replace BK105 := A0 (blk_drew BK105.out)
     replace HB := A0 (below_drew1 HB.out)
     refine start_ (n := 14) (S := fun w' => w'.cell? ⟨gb103, 0, none⟩ = some (.string (⟨#[]⟩ : ByteArray)) ∧ w'.cell? ⟨gb103, 1, none⟩ = some (.bool true) ∧ w'.cell? ⟨gb103, 2, none⟩ = some (u104002) ∧ w'.cell? ⟨gb105, 0, none⟩ = some (.string ((rd_T104 l0_2 x14_1).f0)) ∧ w'.cell? ⟨gb105, 1, none⟩ = some (.int .i64 ((rd_T104 l0_2 x14_1).f1))) (ds := [13]) (bA 14 0) (by kernel_rfl) rfl rfl ⟨bc BK103.out 0, bc BK103.out 1, bc BK103.out 2, bc BK105.out 0, bc BK105.out 1⟩ (fun hHeld => ?_); refine with_tabW hello_Put.tab7 hello_Put.bits7 (fun HT_ HW_ => ?_)
     generalize w22.drew = w23 at HO_104002 BK101 BK103 BK105 HB hHeld ⊢
     apply pu (i := 0) (N := some 18) (bA 14 1) rfl rfl (any_of HT_.out (by kernel_rfl)) (fun _ _ _ h => h) rfl
     ·intro w'; go_simp; with_reducible rfl
     ·simp only [Act.put, zu1, zu2, zu3, i64_w, i32_w]; rfl
     apply pu (i := 2) (N := some 20) (bA 14 5) rfl rfl (any_of HT_.out (by kernel_rfl)) (fun _ _ _ h => h) rfl
     ·intro w'; go_simp; with_reducible rfl
     ·simp only [Act.put, zu1, zu2, zu3, i64_w, i32_w]; rfl
     apply pu (i := 5) (N := some 23) (bA 14 37) rfl rfl (any_of HT_.out (by kernel_rfl)) (fun _ _ _ h => h) rfl
     ·intro w'; go_simp; with_reducible rfl
     ·simp only [Act.put, zu1, zu2, zu3, i64_w, i32_w]; rfl
     apply tk (i := 1) (N := some 19) (bA 14 39) rfl rfl (take_ofW HT_.out HW_.out (by kernel_rfl)) (fun _ _ _ h => h) rfl hHeld
     ·rintro w' ⟨s0, s1, s2, s3, s4⟩; go_simp; with_reducible rfl
     ·simp only [Act.put, zu1, zu2, zu3, i64_w, i32_w]; rfl
     apply tk (i := 3) (N := some 21) (bA 14 47) rfl rfl (take_ofW HT_.out HW_.out (by kernel_rfl)) (fun _ _ _ h => h) rfl hHeld
     ·rintro w' ⟨s0, s1, s2, s3, s4⟩; go_simp; with_reducible rfl
     ·simp only [Act.put, zu1, zu2, zu3, i64_w, i32_w]; rfl
     apply tk (i := 6) (N := some 24) (bA 14 111) rfl rfl (take_ofW HT_.out HW_.out (by kernel_rfl)) (fun _ _ _ h => h) rfl hHeld
     ·rintro w' ⟨s0, s1, s2, s3, s4⟩; go_simp; with_reducible rfl
     ·simp only [Act.put, zu1, zu2, zu3, i64_w, i32_w]; rfl
     refine one_ (i := 4) (N := some 22) (bA 14 127) rfl rfl (one_of HT_.out (by kernel_rfl)) (by decide) (fun K hK => ?_)
     refine goes_ Try.func80 (by kernel_rfl) rfl #[.string ((rd_T104 l0_2 x14_1).f0)] (by rfl) rfl rfl (by (try simp only [List.map_toArray, List.map_cons, List.map_nil]); first | done | rfl | (simp only [List.length_drop, List.length_take]; rfl)) ?_
     with_reducible refine (item_Text.calls ((rd_T104 l0_2 x14_1).f0) t106 t107 t108 _ A14.out).mono ?_
     rintro e w24 ⟨v109, rfl, ho0, hb⟩
     refine ⟨_, rfl, ?_⟩
     have n0_ := A0 (Kd.N_elder' (by (with_reducible repeat (first | apply Kd.N_alloc | apply Kd.N_drewN | apply Kd.N_drew)); exact HO_104002.out) (by first | exact Kd.N_base ho0 | exact Kd.R_base ho0) hb)
     have n1_ := A0 (Kd.N_lower (Kd.N_mono (ok' := fun k_ => some k_ ≠ (u104002 : Value).ownBlock ∧ k_ ≠ gb101 ∧ k_ ≠ gb103 ∧ k_ ≠ gb105) (Kd.R_N (Kd.R_bound ho0)) (fun k_ hk_ => ⟨(Kd.fresh' (Kd.N_lt (by (with_reducible repeat (first | apply Kd.N_alloc | apply Kd.N_drewN | apply Kd.N_drew)); exact HO_104002.out)) k_ hk_.2.1), (Kd.freshB (g := gb101) (o := .cells #[.int .i64 a0_0, .int .i64 a0_1, .slice (some ad104) l0_2.length c0_2] 47 (0, 0)) (bS BK101.out) k_ hk_.2.1), (Kd.freshB (g := gb103) (o := .cells #[.string (⟨#[]⟩ : ByteArray), .bool true, u104002] 62 (0, 0)) (bS BK103.out) k_ hk_.2.1), (Kd.freshB (g := gb105) (o := .cells #[.string ((rd_T104 l0_2 x14_1).f0), .int .i64 ((rd_T104 l0_2 x14_1).f1)] 104 (0, 0)) (bS BK105.out) k_ hk_.2.1)⟩)) (below_size (lS HB.out)))
     have n2_ := A0 (blk_below (bS BK101.out) hb)
     have n3_ := A0 (blk_below (g := gb103) (o := .cells #[.string (⟨#[]⟩ : ByteArray), .bool true, u104002] 62 (0, 0)) (bS BK103.out) hb)
     have n4_ := A0 (blk_below (bS BK105.out) hb)
     have n5_ := A0 (below_step (lS HB.out) hb)
     clear HO_104002
     clear BK101
     clear BK103
     clear BK105
     clear HB
     have HO_104002 := n0_
     have HO110 := n1_
     have BK101 := n2_
     have BK103 := n3_
     have BK105 := n4_
     have HB := n5_
     clear n0_ n1_ n2_ n3_ n4_ n5_
     (try clear hb)
     (try clear hb2)
     (try clear hk)
     (try clear hi)
     (try clear ho0)
     refine hK.out _ _ ⟨bc BK103.out 0, bc BK103.out 1, bc BK103.out 2, bc BK105.out 0, bc BK105.out 1⟩ (fun hHeld => ?_)
     clear hK K
     refine norm_ (a' := ?_) ?_ ?_
     rotate_left
     ·show Act.put _ (some 22) _ = _
      simp only [Act.put, zu1, zu2, zu3, i64_w, i32_w]
      rfl
     refine one_ (i := 7) (N := some 25) (bA 14 255) rfl rfl (one_of HT_.out (by kernel_rfl)) (by decide) (fun K hK => ?_)
     refine goes_ Try.func87 (by kernel_rfl) rfl #[.int .i64 ((rd_T104 l0_2 x14_1).f1)] (by rfl) rfl rfl (by (try simp only [List.map_toArray, List.map_cons, List.map_nil]); first | done | rfl | (simp only [List.length_drop, List.length_take]; rfl)) ?_
     with_reducible refine (hello_number.calls k1 ((rd_T104 l0_2 x14_1).f1) t111 t112 t113 _ A15.out).mono ?_
     rintro e w25 ⟨v114, rfl, ho0, hb⟩
     refine ⟨_, rfl, ?_⟩
     have n0_ := A0 (Kd.N_elder' (by (with_reducible repeat (first | apply Kd.N_alloc | apply Kd.N_drewN | apply Kd.N_drew)); exact HO_104002.out) (by first | exact Kd.N_base ho0 | exact Kd.R_base ho0) hb)
     have n1_ := A0 (Kd.N_elder' (by (with_reducible repeat (first | apply Kd.N_alloc | apply Kd.N_drewN | apply Kd.N_drew)); exact HO110.out) (by first | exact Kd.N_base ho0 | exact Kd.R_base ho0) hb)
     have n2_ := A0 (Kd.N_lower (Kd.N_mono (ok' := fun k_ => some k_ ≠ (u104002 : Value).ownBlock ∧ some k_ ≠ (v109 : Value).ownBlock ∧ k_ ≠ gb101 ∧ k_ ≠ gb103 ∧ k_ ≠ gb105) (Kd.R_N (Kd.R_bound ho0)) (fun k_ hk_ => ⟨(Kd.fresh' (Kd.N_lt (by (with_reducible repeat (first | apply Kd.N_alloc | apply Kd.N_drewN | apply Kd.N_drew)); exact HO_104002.out)) k_ hk_.2.1), (Kd.fresh' (Kd.N_lt (by (with_reducible repeat (first | apply Kd.N_alloc | apply Kd.N_drewN | apply Kd.N_drew)); exact HO110.out)) k_ hk_.2.1), (Kd.freshB (g := gb101) (o := .cells #[.int .i64 a0_0, .int .i64 a0_1, .slice (some ad104) l0_2.length c0_2] 47 (0, 0)) (bS BK101.out) k_ hk_.2.1), (Kd.freshB (g := gb103) (o := .cells #[.string (⟨#[]⟩ : ByteArray), .bool true, u104002] 62 (0, 0)) (bS BK103.out) k_ hk_.2.1), (Kd.freshB (g := gb105) (o := .cells #[.string ((rd_T104 l0_2 x14_1).f0), .int .i64 ((rd_T104 l0_2 x14_1).f1)] 104 (0, 0)) (bS BK105.out) k_ hk_.2.1)⟩)) (below_size (lS HB.out)))
     have n3_ := A0 (blk_below (bS BK101.out) hb)
     have n4_ := A0 (blk_below (g := gb103) (o := .cells #[.string (⟨#[]⟩ : ByteArray), .bool true, u104002] 62 (0, 0)) (bS BK103.out) hb)
     have n5_ := A0 (blk_below (bS BK105.out) hb)
     have n6_ := A0 (below_step (lS HB.out) hb)
     clear HO_104002
     clear HO110
     clear BK101
     clear BK103
     clear BK105
     clear HB
     have HO_104002 := n0_
     have HO110 := n1_
     have HO115 := n2_
     have BK101 := n3_
     have BK103 := n4_
     have BK105 := n5_
     have HB := n6_
     clear n0_ n1_ n2_ n3_ n4_ n5_ n6_
     (try clear hb)
     (try clear hb2)
     (try clear hk)
     (try clear hi)
     (try clear ho0)
     obtain ⟨Ao26, co26, eo26⟩ := Kd.N_slice HO110.out
     (first | subst eo26 | (injection eo26 with f1_ f2_ f3_; have f4_ := f1_.symm; have f5_ := f3_.symm; clear f1_ f2_ f3_; subst f4_; subst f5_))
     obtain ⟨Ao27, co27, eo27⟩ := Kd.N_slice HO115.out
     (first | subst eo27 | (injection eo27 with f1_ f2_ f3_; have f4_ := f1_.symm; have f5_ := f3_.symm; clear f1_ f2_ f3_; subst f4_; subst f5_))
     refine hK.out _ _ ⟨bc BK103.out 0, bc BK103.out 1, bc BK103.out 2, bc BK105.out 0, bc BK105.out 1⟩ (fun hHeld => ?_)
     clear hK K
     refine norm_ (a' := ?_) ?_ ?_
     rotate_left
     ·show Act.put _ (some 25) _ = _
      simp only [Act.put, zu1, zu2, zu3, i64_w, i32_w]
      rfl
     refine one_ (i := 8) (N := some 26) (bA 14 511) rfl rfl (one_of HT_.out (by kernel_rfl)) (by decide) (fun K hK => ?_)
     refine Kd.N_lit_step k62 _ 62 ?hg (N' := 26) ?hd (xs := ([(⟨t106, t107, t108⟩ : S62), (⟨t111, t112, t113⟩ : S62)] : List (S62))) (inner := [.string t106, .bool t107, .slice Ao26 t108.length co26, .string t111, .bool t112, .slice Ao27 t113.length co27]) (ok := (fun k_ => some k_ ≠ (u104002 : Value).ownBlock ∧ k_ ≠ gb101 ∧ k_ ≠ gb103 ∧ k_ ≠ gb105)) (okp := (fun k_ => some k_ ≠ (u104002 : Value).ownBlock ∧ k_ ≠ gb101 ∧ k_ ≠ gb103 ∧ k_ ≠ gb105)) ?hr ?hp (fun _ hk => hk) ((show ∀ k_, w25.heap.size ≤ k_ → (fun k_ => some k_ ≠ (u104002 : Value).ownBlock ∧ k_ ≠ gb101 ∧ k_ ≠ gb103 ∧ k_ ≠ gb105) k_ from fun k_ hk => ⟨Kd.fresh' (Kd.N_lt (by (with_reducible repeat (first | apply Kd.N_alloc | apply Kd.N_drewN | apply Kd.N_drew)); exact HO_104002.out)) k_ hk, Kd.freshB (g := gb101) (o := .cells #[.int .i64 a0_0, .int .i64 a0_1, .slice (some ad104) l0_2.length c0_2] 47 (0, 0)) (bS BK101.out) k_ hk, Kd.freshB (g := gb103) (o := .cells #[.string (⟨#[]⟩ : ByteArray), .bool true, u104002] 62 (0, 0)) (bS BK103.out) k_ hk, Kd.freshB (g := gb105) (o := .cells #[.string ((rd_T104 l0_2 x14_1).f0), .int .i64 ((rd_T104 l0_2 x14_1).f1)] 104 (0, 0)) (bS BK105.out) k_ hk⟩) _ (Nat.le_refl _)) (Below.refl _ _) (Nat.le_refl _) (by simp) ?_; (case hd => rfl); (case hg => rfl); (case hr => first | (go_simp; done) | (go_simp; rfl)); (case hp => exact (Reps.c3 (show Kd.FK k62 _ _ (⟨t106, t107, t108⟩ : S62) [.string t106, .bool t107, .slice Ao26 t108.length co26] from (k62_mkF _ _ (⟨t106, t107, t108⟩ : S62) (Kd.N_reads' (Kd.N_mono (ok' := (fun k_ => some k_ ≠ (u104002 : Value).ownBlock ∧ k_ ≠ gb101 ∧ k_ ≠ gb103 ∧ k_ ≠ gb105)) (HO110.out) (fun k_ hk => ⟨hk.1.1, ⟨hk.1.2.1, ⟨hk.1.2.2.1, hk.1.2.2.2⟩⟩⟩))).2.1 (Kd.N_F (Kd.N_mono (ok' := (fun k_ => some k_ ≠ (u104002 : Value).ownBlock ∧ k_ ≠ gb101 ∧ k_ ≠ gb103 ∧ k_ ≠ gb105)) (HO110.out) (fun k_ hk => ⟨hk.1.1, ⟨hk.1.2.1, ⟨hk.1.2.2.1, hk.1.2.2.2⟩⟩⟩))))) (Reps.c3 (show Kd.FK k62 _ _ (⟨t111, t112, t113⟩ : S62) [.string t111, .bool t112, .slice Ao27 t113.length co27] from (k62_mkF _ _ (⟨t111, t112, t113⟩ : S62) (Kd.N_reads' (Kd.N_mono (ok' := (fun k_ => some k_ ≠ (u104002 : Value).ownBlock ∧ k_ ≠ gb101 ∧ k_ ≠ gb103 ∧ k_ ≠ gb105)) (HO115.out) (fun k_ hk => ⟨hk.1, ⟨hk.2.2.1, ⟨hk.2.2.2.1, hk.2.2.2.2⟩⟩⟩))).2.1 (Kd.N_F (Kd.N_mono (ok' := (fun k_ => some k_ ≠ (u104002 : Value).ownBlock ∧ k_ ≠ gb101 ∧ k_ ≠ gb103 ∧ k_ ≠ gb105)) (HO115.out) (fun k_ hk => ⟨hk.1, ⟨hk.2.2.1, ⟨hk.2.2.2.1, hk.2.2.2.2⟩⟩⟩))))) (Reps.none _ _))))
     intro v117 w28 ho29 hb hg_ hnew_
     clear hg_ hnew_
     (first | rw [← Ny116.out] at ho29 | (simp only [Int.reduceToNat] at ho29; rw [← Ny116.out] at ho29))
     replace HO_104002 := A0 (Kd.N_elder' (by (with_reducible repeat (first | apply Kd.N_alloc | apply Kd.N_drewN | apply Kd.N_drew)); exact HO_104002.out) (Kd.N_base ho29) hb)
     have HO118 := A0 (Kd.N_lower ho29 (below_size (lS HB.out)))
     replace BK101 := A0 (blk_below (bS BK101.out) hb)
     replace BK103 := A0 (blk_below (g := gb103) (o := .cells #[.string (⟨#[]⟩ : ByteArray), .bool true, u104002] 62 (0, 0)) (bS BK103.out) hb)
     replace BK105 := A0 (blk_below (bS BK105.out) hb)
     replace HB := A0 (below_step (lS HB.out) hb)
     clear HO110
     clear HO115
     clear hb ho29
     obtain ⟨Ao30, co30, eo30⟩ := Kd.N_slice HO118.out
     (first | subst eo30 | (injection eo30 with f1_ f2_ f3_; have f4_ := f1_.symm; have f5_ := f3_.symm; clear f1_ f2_ f3_; subst f4_; subst f5_))
     refine hK.out _ _ ⟨bc BK103.out 0, bc BK103.out 1, bc BK103.out 2, bc BK105.out 0, bc BK105.out 1⟩ (fun hHeld => ?_)
     clear hK K
     refine norm_ (a' := ?_) ?_ ?_
     rotate_left
     ·show Act.put _ (some 26) _ = _
      simp only [Act.put, zu1, zu2, zu3, i64_w, i32_w]
      rfl
     refine one_ (i := 9) (N := some 27) (bA 14 1023) rfl rfl (one_of HT_.out (by kernel_rfl)) (by decide) (fun K hK => ?_)
     refine goes_ Try.func86 (by kernel_rfl) rfl #[.slice Ao30 y116.length co30] (by rfl) rfl rfl (by (try simp only [List.map_toArray, List.map_cons, List.map_nil]); first | done | rfl | (simp only [List.length_drop, List.length_take]; rfl)) ?_
     with_reducible refine (item_List.calls (fun k_ => (some k_ ≠ (u104002 : Value).ownBlock ∧ (k_ ≠ gb101 ∧ (k_ ≠ gb103 ∧ k_ ≠ gb105)))) _ _ y116 t119 t120 t121 _ ?side1 A16.out).mono ?_
     (case side1 => exact Kd.N_V (HO118.out))
     rintro e w31 ⟨v122, rfl, ho0, hb⟩
     refine ⟨_, rfl, ?_⟩
     have n0_ := A0 (Kd.N_elder' (by (with_reducible repeat (first | apply Kd.N_alloc | apply Kd.N_drewN | apply Kd.N_drew)); exact HO_104002.out) (by first | exact Kd.N_base ho0 | exact Kd.R_base ho0) hb)
     have n1_ := A0 (Kd.N_elder' (by (with_reducible repeat (first | apply Kd.N_alloc | apply Kd.N_drewN | apply Kd.N_drew)); exact HO118.out) (by first | exact Kd.N_base ho0 | exact Kd.R_base ho0) hb)
     have n2_ := A0 (Kd.N_lower (Kd.N_mono (ok' := fun k_ => some k_ ≠ (u104002 : Value).ownBlock ∧ k_ ≠ gb101 ∧ k_ ≠ gb103 ∧ k_ ≠ gb105) ho0 (fun k_ hk_ => ⟨Or.elim hk_ (fun hs_ => hs_.1) (fun hn_ => (Kd.fresh' (Kd.N_lt (by (with_reducible repeat (first | apply Kd.N_alloc | apply Kd.N_drewN | apply Kd.N_drew)); exact HO_104002.out)) k_ hn_)), Or.elim hk_ (fun hs_ => hs_.2.1) (fun hn_ => (Kd.freshB (g := gb101) (o := .cells #[.int .i64 a0_0, .int .i64 a0_1, .slice (some ad104) l0_2.length c0_2] 47 (0, 0)) (bS BK101.out) k_ hn_)), Or.elim hk_ (fun hs_ => hs_.2.2.1) (fun hn_ => (Kd.freshB (g := gb103) (o := .cells #[.string (⟨#[]⟩ : ByteArray), .bool true, u104002] 62 (0, 0)) (bS BK103.out) k_ hn_)), Or.elim hk_ (fun hs_ => hs_.2.2.2) (fun hn_ => (Kd.freshB (g := gb105) (o := .cells #[.string ((rd_T104 l0_2 x14_1).f0), .int .i64 ((rd_T104 l0_2 x14_1).f1)] 104 (0, 0)) (bS BK105.out) k_ hn_))⟩)) (below_size (lS HB.out)))
     have n3_ := A0 (blk_below (bS BK101.out) hb)
     have n4_ := A0 (blk_below (g := gb103) (o := .cells #[.string (⟨#[]⟩ : ByteArray), .bool true, u104002] 62 (0, 0)) (bS BK103.out) hb)
     have n5_ := A0 (blk_below (bS BK105.out) hb)
     have n6_ := A0 (below_step (lS HB.out) hb)
     clear HO_104002
     clear HO118
     clear BK101
     clear BK103
     clear BK105
     clear HB
     have HO_104002 := n0_
     have HO118 := n1_
     have HO123 := n2_
     have BK101 := n3_
     have BK103 := n4_
     have BK105 := n5_
     have HB := n6_
     clear n0_ n1_ n2_ n3_ n4_ n5_ n6_
     (try clear hb)
     (try clear hb2)
     (try clear hk)
     (try clear hi)
     (try clear ho0)
     obtain ⟨Ao33, co33, eo33⟩ := Kd.N_slice HO123.out
     (first | subst eo33 | (injection eo33 with f1_ f2_ f3_; have f4_ := f1_.symm; have f5_ := f3_.symm; clear f1_ f2_ f3_; subst f4_; subst f5_))
     refine hK.out _ _ ⟨bc BK103.out 0, bc BK103.out 1, bc BK103.out 2, bc BK105.out 0, bc BK105.out 1⟩ (fun hHeld => ?_)
     clear hK K
     refine norm_ (a' := ?_) ?_ ?_
     rotate_left
     ·show Act.put _ (some 27) _ = _
      simp only [Act.put, zu1, zu2, zu3, i64_w, i32_w]
      rfl
     refine one_ (i := 10) (N := some 28) (bA 14 2047) rfl rfl (one_of HT_.out (by kernel_rfl)) (by decide) (fun K hK => ?_)
     refine value_ (w1 := ?_) (v := ?_) (by rfl) rfl ?_ ?_
     rotate_left 2
     ·go_simp
      constructor
      ·rfl
      rfl
     refine hK.out _ _ ⟨(blk_cell (blk_alloc BK103.out _) 0).trans rfl, (blk_cell (blk_alloc BK103.out _) 1).trans rfl, (blk_cell (blk_alloc BK103.out _) 2).trans rfl, (blk_cell (blk_alloc BK105.out _) 0).trans rfl, (blk_cell (blk_alloc BK105.out _) 1).trans rfl⟩ (fun hHeld => ?_)
     clear hK K
     refine norm_ (a' := ?_) ?_ ?_
     rotate_left
     ·show Act.put _ (some 28) _ = _
      simp only [Act.put, zu1, zu2, zu3, i64_w, i32_w]
      rfl
     refine one_ (i := 11) (N := some 29) (bA 14 4095) rfl rfl (one_of HT_.out (by kernel_rfl)) (by decide) (fun K hK => ?_)
     refine Kd.N_append_step k62 (w0 := w) w.heap.size (by rfl) (.tmp 19) (.tmp 28) 60 62 (.agg #[(.string ⟨#[]⟩), (.bool false), (.slice none 0 0)]) 48 rfl Try.underlying60 info62 rfl (by decide) (by omega) u104002 x104002_1 (⟨t119, t120, t121⟩ : S62) [.string t119, .bool t120, .slice Ao33 t121.length co33] (fun k_ => k_ ≠ gb101 ∧ k_ ≠ gb103 ∧ k_ ≠ gb105) (fun k_ => ((fun k_ => k_ ≠ gb101 ∧ k_ ≠ gb103 ∧ k_ ≠ gb105)) k_ ∧ some k_ ≠ (u104002 : Value).ownBlock) rfl rfl ?aP (fun _ hk => hk) ?aF ?aO ?aB ?aS ?aL ?_
     (case aP => exact (k62_mkF _ _ (⟨t119, t120, t121⟩ : S62) (Kd.N_reads' (Kd.N_mono (ok' := (fun k_ => ((fun k_ => k_ ≠ gb101 ∧ k_ ≠ gb103 ∧ k_ ≠ gb105)) k_ ∧ some k_ ≠ (u104002 : Value).ownBlock)) (HO123.out) (fun k_ hk => ⟨⟨hk.2.1, ⟨hk.2.2.1, hk.2.2.2⟩⟩, hk.1⟩))).2.1 (Kd.N_F (Kd.N_mono (ok' := (fun k_ => ((fun k_ => k_ ≠ gb101 ∧ k_ ≠ gb103 ∧ k_ ≠ gb105)) k_ ∧ some k_ ≠ (u104002 : Value).ownBlock)) (HO123.out) (fun k_ hk => ⟨⟨hk.2.1, ⟨hk.2.2.1, hk.2.2.2⟩⟩, hk.1⟩)))))
     (case aB => exact (by repeat (first | (with_reducible first | exact HB.out | apply below_alloc | apply pw_below_drewN | apply below_drew1 | refine below_set ?_ GE101.out | refine below_set ?_ GE103.out | refine below_set ?_ GE105.out) | exact HB.out)))
     (case aF => exact (fun k_ hk => ⟨Kd.freshB (g := gb101) (o := .cells #[.int .i64 a0_0, .int .i64 a0_1, .slice (some ad104) l0_2.length c0_2] 47 (0, 0)) (bS BK101.out) k_ hk, Kd.freshB (g := gb103) (o := .cells #[.string (⟨#[]⟩ : ByteArray), .bool true, u104002] 62 (0, 0)) (bS BK103.out) k_ hk, Kd.freshB (g := gb105) (o := .cells #[.string ((rd_T104 l0_2 x14_1).f0), .int .i64 ((rd_T104 l0_2 x14_1).f1)] 104 (0, 0)) (bS BK105.out) k_ hk⟩))
     (case aO => exact (by (with_reducible repeat (first | apply Kd.N_alloc | apply Kd.N_drewN | apply Kd.N_drew)); exact Kd.N_mono HO_104002.out (fun _ hk => ⟨hk.1.1.1.1.1, ⟨hk.1.1.1.1.2.1, hk.1.1.1.1.2.2⟩⟩)))
     (case aS => exact (below_size (lS HB.out)))
     (case aL => have := LMc17.out; omega)
     intro v125 w32 ho hb hg hat
     rw [← Ny124.out] at ho
     replace BK101 := A0 (blk_grown (g := gb101) (o := .cells #[.int .i64 a0_0, .int .i64 a0_1, .slice (some ad104) l0_2.length c0_2] 47 (0, 0)) (bS BK101.out) hg (Kd.N_ne HO_104002.out BK101.out (by decide)))
     replace BK103 := A0 (blk_grown (g := gb103) (o := .cells #[.string (⟨#[]⟩ : ByteArray), .bool true, u104002] 62 (0, 0)) (bS BK103.out) hg (Kd.N_away HO_104002.out (fun _ hk => hk.1.1.1.1.2.1)))
     replace BK105 := A0 (blk_grown (g := gb105) (o := .cells #[.string ((rd_T104 l0_2 x14_1).f0), .int .i64 ((rd_T104 l0_2 x14_1).f1)] 104 (0, 0)) (bS BK105.out) hg (Kd.N_ne HO_104002.out BK105.out (by decide)))
     replace HO118 := A0 (Kd.N_afterv (ok := (fun k_ => some k_ ≠ (.slice Ao33 t121.length co33 : Value).ownBlock ∧ k_ ≠ gb101 ∧ k_ ≠ gb103 ∧ k_ ≠ gb105)) (by (with_reducible repeat (first | apply Kd.N_alloc | apply Kd.N_drewN | apply Kd.N_drew)); exact Kd.N_mono HO118.out (fun _ hk => ⟨⟨hk.2, ⟨hk.1.2.1, ⟨hk.1.2.2.1, hk.1.2.2.2⟩⟩⟩, hk.1.1⟩)) hg hat)
     replace HB := A0 (hb)
     have HO126 := A0 (ho)
     clear HO_104002
     clear HO123
     clear ho hb hg hat
     obtain ⟨Ao34, co34, eo34⟩ := Kd.N_slice HO126.out
     (first | subst eo34 | (injection eo34 with f1_ f2_ f3_; have f4_ := f1_.symm; have f5_ := f3_.symm; clear f1_ f2_ f3_; subst f4_; subst f5_))
     refine hK.out _ _ ⟨bc BK103.out 0, bc BK103.out 1, bc BK103.out 2, bc BK105.out 0, bc BK105.out 1⟩ (fun hHeld => ?_)
     clear hK K
     refine norm_ (a' := ?_) ?_ ?_
     rotate_left
     ·show Act.put _ (some 29) _ = _
      simp only [Act.put, zu1, zu2, zu3, i64_w, i32_w]
      rfl
     apply pu (i := 12) (N := some 30) (bA 14 8191) rfl rfl (any_of HT_.out (by kernel_rfl)) (fun _ _ _ h => h) rfl
     ·intro w'; go_simp; with_reducible rfl
     ·simp only [Act.put, zu1, zu2, zu3, i64_w, i32_w]; rfl
     refine last_ (i := 13) (N := none) (bA 14 16383) rfl rfl (one_of HT_.out (by kernel_rfl)) (by decide) (fun K hK => ?_)
     have hs35 : w32.cell? ⟨gb103, 2, none⟩ = some (u104002) := bc BK103.out 2
     have hfs35 := blk_frozen BK103.out 2
     have hns35_0 := NB101_103.out
     have hns35_2 := NB105_103.out
     have hms35_0 := NB103_101.out
     have hms35_2 := NB103_105.out
     refine skip_ (w1 := ?_) (by rfl) rfl ?_ ?_
     rotate_left
     ·go_simp
      rfl
     refine hK.out _ _ ?_
     clear hK K
     refine done_ (done_of HT_.out (by kernel_rfl)) ?_
     try go_wp2
     go_roundg k1
     case measure => have := HK1.out; omega
     case rel => exact ⟨(wrap64 (x14_1 + 1)), (y124), (.slice Ao34 y124.length co34), (by first | rfl | (simp; done) | (simp [*]; done)), H', ⟨by have := HK1.out; omega⟩, ⟨by (with_reducible repeat (first | apply Kd.N_alloc | apply Kd.N_drewN | apply Kd.N_drew)); exact Kd.N_mono (Kd.N_far (p := ⟨gb103, 2, none⟩) (Kd.N_mono HO126.out (fun k_ hk => (⟨hk, hk.2.1⟩ : _ ∧ k_ ≠ gb103))) (fun _ hk => hk.2) (.slice Ao34 y124.length co34)) (fun _ hk => ⟨hk.1.1, hk.1.2.1⟩)⟩, ⟨by (with_reducible repeat (first | refine blk_drewN ?_ _ | refine blk_drew ?_ | refine blk_alloc ?_ _)); refine blk_far ?_ NB101_103.out _; (with_reducible repeat (first | refine blk_drewN ?_ _ | refine blk_drew ?_ | refine blk_alloc ?_ _)); exact BK101.out⟩, ⟨by (with_reducible repeat (first | refine blk_drewN ?_ _ | refine blk_drew ?_ | refine blk_alloc ?_ _)); refine blk_put (cs := #[.string (⟨#[]⟩ : ByteArray), .bool true, u104002]) ?_ 2 _ rfl; (with_reducible repeat (first | refine blk_drewN ?_ _ | refine blk_drew ?_ | refine blk_alloc ?_ _)); exact BK103.out⟩, ⟨by repeat (first | (with_reducible first | exact HB.out | apply below_alloc | apply pw_below_drewN | apply below_drew1 | refine below_set ?_ GE101.out | refine below_set ?_ GE103.out | refine below_set ?_ GE105.out) | exact HB.out)⟩⟩
    rw [if_neg c11] at H
    have c11b0 : decide (x14_1 < (l0_2.length : Int)) = false := decide_eq_false c11
    clear c11
    replace H := Option.bind_eq_some_iff.mp H
    obtain ⟨⟨t127, t128, t129⟩, A360, H⟩ := H
    replace H : ((hello_number.f k1 a0_1).bind fun bt132 => ((item_List.f (([(⟨t127, t128, t129⟩ : S62), (⟨bt132.1, bt132.2.1, bt132.2.2⟩ : S62), (⟨(⟨#[]⟩ : ByteArray), true, x104002_1⟩ : S62)] : List (S62)))).bind fun bt140 => ((rlp_Put.f bt140.1 bt140.2.1 bt140.2.2).bind fun bt145 => (some (bt145.1, bt145.2))))) = some (r1, r2) := H
    have A36 := A0 A360
    clear A360
    replace H := Option.bind_eq_some_iff.mp H
    obtain ⟨⟨t132, t133, t134⟩, A370, H⟩ := H
    replace H : ((item_List.f (([(⟨t127, t128, t129⟩ : S62), (⟨t132, t133, t134⟩ : S62), (⟨(⟨#[]⟩ : ByteArray), true, x104002_1⟩ : S62)] : List (S62)))).bind fun bt140 => ((rlp_Put.f bt140.1 bt140.2.1 bt140.2.2).bind fun bt145 => (some (bt145.1, bt145.2)))) = some (r1, r2) := H
    have A37 := A0 A370
    clear A370
    obtain ⟨y137, hy137⟩ : ∃ y_ : List (S62), y_ = (([(⟨t127, t128, t129⟩ : S62), (⟨t132, t133, t134⟩ : S62), (⟨(⟨#[]⟩ : ByteArray), true, x104002_1⟩ : S62)] : List (S62))) := ⟨_, rfl⟩
    replace H : ((item_List.f y137).bind fun bt140 => ((rlp_Put.f bt140.1 bt140.2.1 bt140.2.2).bind fun bt145 => (some (bt145.1, bt145.2)))) = some (r1, r2) := by first | (rw [hy137]; with_reducible exact H) | (have H2_ := (Option.bind_some _ _).symm.trans H; rw [hy137]; with_reducible exact H2_) | (have H2_ := (Option.bind_some _ _).symm.trans H; with_reducible exact H2_) | with_reducible exact H | (rw [hy137]; exact H) | exact H
    have Ny137 := A0 hy137
    clear hy137
    replace H := Option.bind_eq_some_iff.mp H
    obtain ⟨⟨t140, t141, t142⟩, A380, H⟩ := H
    replace H : ((rlp_Put.f t140 t141 t142).bind fun bt145 => (some (bt145.1, bt145.2))) = some (r1, r2) := H
    have A38 := A0 A380
    clear A380
    replace H := Option.bind_eq_some_iff.mp H
    obtain ⟨⟨t145, t146⟩, A390, H⟩ := H
    replace H : (some (t145, t146)) = some (r1, r2) := H
    have A39 := A0 A390
    clear A390
    simp only [Option.some.injEq, Prod.mk.injEq] at H
    obtain ⟨rfl, rfl⟩ := H
    try go_wp2
    replace HO_104002 := A0 (Kd.N_drew HO_104002.out)
    replace BK101 := A0 (blk_drew BK101.out)
    replace BK103 := A0 (blk_drew BK103.out)
    replace HB := A0 (below_drew1 HB.out)
    refine start_ (n := 14) (S := fun w' => w'.cell? ⟨gb101, 0, none⟩ = some (.int .i64 a0_0) ∧ w'.cell? ⟨gb101, 1, none⟩ = some (.int .i64 a0_1) ∧ w'.cell? ⟨gb101, 2, none⟩ = some (.slice A0_2 l0_2.length c0_2) ∧ w'.cell? ⟨gb103, 0, none⟩ = some (.string (⟨#[]⟩ : ByteArray)) ∧ w'.cell? ⟨gb103, 1, none⟩ = some (.bool true) ∧ w'.cell? ⟨gb103, 2, none⟩ = some (u104002)) (ds := []) (bA 14 0) (by kernel_rfl) rfl rfl ⟨bc BK101.out 0, bc BK101.out 1, bc BK101.out 2, bc BK103.out 0, bc BK103.out 1, bc BK103.out 2⟩ (fun hHeld => ?_); refine with_tabW hello_Put.tab9 hello_Put.bits9 (fun HT_ HW_ => ?_)
    generalize wr.drew = w40 at HO_104002 BK101 BK103 HB hHeld ⊢
    apply pu (i := 0) (N := some 32) (bA 14 1) rfl rfl (any_of HT_.out (by kernel_rfl)) (fun _ _ _ h => h) rfl
    ·intro w'; go_simp; with_reducible rfl
    ·simp only [Act.put, zu1, zu2, zu3, i64_w, i32_w]; rfl
    apply pu (i := 3) (N := some 35) (bA 14 9) rfl rfl (any_of HT_.out (by kernel_rfl)) (fun _ _ _ h => h) rfl
    ·intro w'; go_simp; with_reducible rfl
    ·simp only [Act.put, zu1, zu2, zu3, i64_w, i32_w]; rfl
    apply tk (i := 1) (N := some 33) (bA 14 11) rfl rfl (take_ofW HT_.out HW_.out (by kernel_rfl)) (fun _ _ _ h => h) rfl hHeld
    ·rintro w' ⟨s0, s1, s2, s3, s4, s5⟩; go_simp; with_reducible rfl
    ·simp only [Act.put, zu1, zu2, zu3, i64_w, i32_w]; rfl
    apply tk (i := 4) (N := some 36) (bA 14 27) rfl rfl (take_ofW HT_.out HW_.out (by kernel_rfl)) (fun _ _ _ h => h) rfl hHeld
    ·rintro w' ⟨s0, s1, s2, s3, s4, s5⟩; go_simp; with_reducible rfl
    ·simp only [Act.put, zu1, zu2, zu3, i64_w, i32_w]; rfl
    apply tk (i := 6) (N := some 38) (bA 14 91) rfl rfl (take_ofW HT_.out HW_.out (by kernel_rfl)) (fun _ _ _ h => h) rfl hHeld
    ·rintro w' ⟨s0, s1, s2, s3, s4, s5⟩; go_simp; with_reducible rfl
    ·simp only [Act.put, zu1, zu2, zu3, i64_w, i32_w]; rfl
    refine one_ (i := 2) (N := some 34) (bA 14 95) rfl rfl (one_of HT_.out (by kernel_rfl)) (by decide) (fun K hK => ?_)
    refine goes_ Try.func87 (by kernel_rfl) rfl #[.int .i64 a0_0] (by rfl) rfl rfl (by (try simp only [List.map_toArray, List.map_cons, List.map_nil]); first | done | rfl | (simp only [List.length_drop, List.length_take]; rfl)) ?_
    with_reducible refine (hello_number.calls k1 a0_0 t127 t128 t129 _ A36.out).mono ?_
    rintro e w41 ⟨v130, rfl, ho0, hb⟩
    refine ⟨_, rfl, ?_⟩
    have n0_ := A0 (Kd.N_elder' (by (with_reducible repeat (first | apply Kd.N_alloc | apply Kd.N_drewN | apply Kd.N_drew)); exact HO_104002.out) (by first | exact Kd.N_base ho0 | exact Kd.R_base ho0) hb)
    have n1_ := A0 (Kd.N_lower (Kd.N_mono (ok' := fun k_ => some k_ ≠ (u104002 : Value).ownBlock ∧ k_ ≠ gb101 ∧ k_ ≠ gb103) (Kd.R_N (Kd.R_bound ho0)) (fun k_ hk_ => ⟨(Kd.fresh' (Kd.N_lt (by (with_reducible repeat (first | apply Kd.N_alloc | apply Kd.N_drewN | apply Kd.N_drew)); exact HO_104002.out)) k_ hk_.2.1), (Kd.freshB (g := gb101) (o := .cells #[.int .i64 a0_0, .int .i64 a0_1, .slice A0_2 l0_2.length c0_2] 47 (0, 0)) (bS BK101.out) k_ hk_.2.1), (Kd.freshB (g := gb103) (o := .cells #[.string (⟨#[]⟩ : ByteArray), .bool true, u104002] 62 (0, 0)) (bS BK103.out) k_ hk_.2.1)⟩)) (below_size (lS HB.out)))
    have n2_ := A0 (blk_below (bS BK101.out) hb)
    have n3_ := A0 (blk_below (g := gb103) (o := .cells #[.string (⟨#[]⟩ : ByteArray), .bool true, u104002] 62 (0, 0)) (bS BK103.out) hb)
    have n4_ := A0 (below_step (lS HB.out) hb)
    clear HO_104002
    clear BK101
    clear BK103
    clear HB
    have HO_104002 := n0_
    have HO131 := n1_
    have BK101 := n2_
    have BK103 := n3_
    have HB := n4_
    clear n0_ n1_ n2_ n3_ n4_
    (try clear hb)
    (try clear hb2)
    (try clear hk)
    (try clear hi)
    (try clear ho0)
    refine hK.out _ _ ⟨bc BK101.out 0, bc BK101.out 1, bc BK101.out 2, bc BK103.out 0, bc BK103.out 1, bc BK103.out 2⟩ (fun hHeld => ?_)
    clear hK K
    refine norm_ (a' := ?_) ?_ ?_
    rotate_left
    ·show Act.put _ (some 34) _ = _
     simp only [Act.put, zu1, zu2, zu3, i64_w, i32_w]
     rfl
    refine one_ (i := 5) (N := some 37) (bA 14 127) rfl rfl (one_of HT_.out (by kernel_rfl)) (by decide) (fun K hK => ?_)
    refine goes_ Try.func87 (by kernel_rfl) rfl #[.int .i64 a0_1] (by rfl) rfl rfl (by (try simp only [List.map_toArray, List.map_cons, List.map_nil]); first | done | rfl | (simp only [List.length_drop, List.length_take]; rfl)) ?_
    with_reducible refine (hello_number.calls k1 a0_1 t132 t133 t134 _ A37.out).mono ?_
    rintro e w42 ⟨v135, rfl, ho0, hb⟩
    refine ⟨_, rfl, ?_⟩
    have n0_ := A0 (Kd.N_elder' (by (with_reducible repeat (first | apply Kd.N_alloc | apply Kd.N_drewN | apply Kd.N_drew)); exact HO_104002.out) (by first | exact Kd.N_base ho0 | exact Kd.R_base ho0) hb)
    have n1_ := A0 (Kd.N_elder' (by (with_reducible repeat (first | apply Kd.N_alloc | apply Kd.N_drewN | apply Kd.N_drew)); exact HO131.out) (by first | exact Kd.N_base ho0 | exact Kd.R_base ho0) hb)
    have n2_ := A0 (Kd.N_lower (Kd.N_mono (ok' := fun k_ => some k_ ≠ (u104002 : Value).ownBlock ∧ some k_ ≠ (v130 : Value).ownBlock ∧ k_ ≠ gb101 ∧ k_ ≠ gb103) (Kd.R_N (Kd.R_bound ho0)) (fun k_ hk_ => ⟨(Kd.fresh' (Kd.N_lt (by (with_reducible repeat (first | apply Kd.N_alloc | apply Kd.N_drewN | apply Kd.N_drew)); exact HO_104002.out)) k_ hk_.2.1), (Kd.fresh' (Kd.N_lt (by (with_reducible repeat (first | apply Kd.N_alloc | apply Kd.N_drewN | apply Kd.N_drew)); exact HO131.out)) k_ hk_.2.1), (Kd.freshB (g := gb101) (o := .cells #[.int .i64 a0_0, .int .i64 a0_1, .slice A0_2 l0_2.length c0_2] 47 (0, 0)) (bS BK101.out) k_ hk_.2.1), (Kd.freshB (g := gb103) (o := .cells #[.string (⟨#[]⟩ : ByteArray), .bool true, u104002] 62 (0, 0)) (bS BK103.out) k_ hk_.2.1)⟩)) (below_size (lS HB.out)))
    have n3_ := A0 (blk_below (bS BK101.out) hb)
    have n4_ := A0 (blk_below (g := gb103) (o := .cells #[.string (⟨#[]⟩ : ByteArray), .bool true, u104002] 62 (0, 0)) (bS BK103.out) hb)
    have n5_ := A0 (below_step (lS HB.out) hb)
    clear HO_104002
    clear HO131
    clear BK101
    clear BK103
    clear HB
    have HO_104002 := n0_
    have HO131 := n1_
    have HO136 := n2_
    have BK101 := n3_
    have BK103 := n4_
    have HB := n5_
    clear n0_ n1_ n2_ n3_ n4_ n5_
    (try clear hb)
    (try clear hb2)
    (try clear hk)
    (try clear hi)
    (try clear ho0)
    obtain ⟨Ao43, co43, eo43⟩ := Kd.N_slice HO131.out
    (first | subst eo43 | (injection eo43 with f1_ f2_ f3_; have f4_ := f1_.symm; have f5_ := f3_.symm; clear f1_ f2_ f3_; subst f4_; subst f5_))
    obtain ⟨Ao44, co44, eo44⟩ := Kd.N_slice HO136.out
    (first | subst eo44 | (injection eo44 with f1_ f2_ f3_; have f4_ := f1_.symm; have f5_ := f3_.symm; clear f1_ f2_ f3_; subst f4_; subst f5_))
    obtain ⟨Ao45, co45, eo45⟩ := Kd.N_slice HO_104002.out
    (first | subst eo45 | (injection eo45 with f1_ f2_ f3_; have f4_ := f1_.symm; have f5_ := f3_.symm; clear f1_ f2_ f3_; subst f4_; subst f5_))
    refine hK.out _ _ ⟨bc BK101.out 0, bc BK101.out 1, bc BK101.out 2, bc BK103.out 0, bc BK103.out 1, bc BK103.out 2⟩ (fun hHeld => ?_)
    clear hK K
    refine norm_ (a' := ?_) ?_ ?_
    rotate_left
    ·show Act.put _ (some 37) _ = _
     simp only [Act.put, zu1, zu2, zu3, i64_w, i32_w]
     rfl
    refine one_ (i := 7) (N := some 39) (bA 14 255) rfl rfl (one_of HT_.out (by kernel_rfl)) (by decide) (fun K hK => ?_)
    refine Kd.N_lit_step k62 _ 62 ?hg (N' := 39) ?hd (xs := ([(⟨t127, t128, t129⟩ : S62), (⟨t132, t133, t134⟩ : S62), (⟨(⟨#[]⟩ : ByteArray), true, x104002_1⟩ : S62)] : List (S62))) (inner := [.string t127, .bool t128, .slice Ao43 t129.length co43, .string t132, .bool t133, .slice Ao44 t134.length co44, .string (⟨#[]⟩ : ByteArray), .bool true, .slice Ao45 x104002_1.length co45]) (ok := (fun k_ => k_ ≠ gb101 ∧ k_ ≠ gb103)) (okp := (fun k_ => k_ ≠ gb101 ∧ k_ ≠ gb103)) ?hr ?hp (fun _ hk => hk) ((show ∀ k_, w42.heap.size ≤ k_ → (fun k_ => k_ ≠ gb101 ∧ k_ ≠ gb103) k_ from fun k_ hk => ⟨Kd.freshB (g := gb101) (o := .cells #[.int .i64 a0_0, .int .i64 a0_1, .slice A0_2 l0_2.length c0_2] 47 (0, 0)) (bS BK101.out) k_ hk, Kd.freshB (g := gb103) (o := .cells #[.string (⟨#[]⟩ : ByteArray), .bool true, .slice Ao45 x104002_1.length co45] 62 (0, 0)) (bS BK103.out) k_ hk⟩) _ (Nat.le_refl _)) (Below.refl _ _) (Nat.le_refl _) (by simp) ?_; (case hd => rfl); (case hg => rfl); (case hr => first | (go_simp; done) | (go_simp; rfl)); (case hp => exact (Reps.c3 (show Kd.FK k62 _ _ (⟨t127, t128, t129⟩ : S62) [.string t127, .bool t128, .slice Ao43 t129.length co43] from (k62_mkF _ _ (⟨t127, t128, t129⟩ : S62) (Kd.N_reads' (Kd.N_mono (ok' := (fun k_ => k_ ≠ gb101 ∧ k_ ≠ gb103)) (HO131.out) (fun k_ hk => ⟨hk.1.2.1, hk.1.2.2⟩))).2.1 (Kd.N_F (Kd.N_mono (ok' := (fun k_ => k_ ≠ gb101 ∧ k_ ≠ gb103)) (HO131.out) (fun k_ hk => ⟨hk.1.2.1, hk.1.2.2⟩))))) (Reps.c3 (show Kd.FK k62 _ _ (⟨t132, t133, t134⟩ : S62) [.string t132, .bool t133, .slice Ao44 t134.length co44] from (k62_mkF _ _ (⟨t132, t133, t134⟩ : S62) (Kd.N_reads' (Kd.N_mono (ok' := (fun k_ => k_ ≠ gb101 ∧ k_ ≠ gb103)) (HO136.out) (fun k_ hk => ⟨hk.2.2.1, hk.2.2.2⟩))).2.1 (Kd.N_F (Kd.N_mono (ok' := (fun k_ => k_ ≠ gb101 ∧ k_ ≠ gb103)) (HO136.out) (fun k_ hk => ⟨hk.2.2.1, hk.2.2.2⟩))))) (Reps.c3 (show Kd.FK k62 _ _ (⟨(⟨#[]⟩ : ByteArray), true, x104002_1⟩ : S62) [.string (⟨#[]⟩ : ByteArray), .bool true, .slice Ao45 x104002_1.length co45] from (k62_mkF _ _ (⟨(⟨#[]⟩ : ByteArray), true, x104002_1⟩ : S62) (Kd.N_reads' (Kd.N_mono (ok' := (fun k_ => k_ ≠ gb101 ∧ k_ ≠ gb103)) (HO_104002.out) (fun k_ hk => ⟨hk.1.1.1, hk.1.1.2⟩))).2.1 (Kd.N_F (Kd.N_mono (ok' := (fun k_ => k_ ≠ gb101 ∧ k_ ≠ gb103)) (HO_104002.out) (fun k_ hk => ⟨hk.1.1.1, hk.1.1.2⟩))))) (Reps.none _ _)))))
    intro v138 w46 ho47 hb hg_ hnew_
    clear hg_ hnew_
    (first | rw [← Ny137.out] at ho47 | (simp only [Int.reduceToNat] at ho47; rw [← Ny137.out] at ho47))
    have HO139 := A0 (Kd.N_lower ho47 (below_size (lS HB.out)))
    replace BK101 := A0 (blk_below (bS BK101.out) hb)
    replace BK103 := A0 (blk_below (g := gb103) (o := .cells #[.string (⟨#[]⟩ : ByteArray), .bool true, .slice Ao45 x104002_1.length co45] 62 (0, 0)) (bS BK103.out) hb)
    replace HB := A0 (below_step (lS HB.out) hb)
    clear HO131
    clear HO136
    clear HO_104002
    clear hb ho47
    obtain ⟨Ao48, co48, eo48⟩ := Kd.N_slice HO139.out
    (first | subst eo48 | (injection eo48 with f1_ f2_ f3_; have f4_ := f1_.symm; have f5_ := f3_.symm; clear f1_ f2_ f3_; subst f4_; subst f5_))
    refine hK.out _ _ ⟨bc BK101.out 0, bc BK101.out 1, bc BK101.out 2, bc BK103.out 0, bc BK103.out 1, bc BK103.out 2⟩ (fun hHeld => ?_)
    clear hK K
    refine norm_ (a' := ?_) ?_ ?_
    rotate_left
    ·show Act.put _ (some 39) _ = _
     simp only [Act.put, zu1, zu2, zu3, i64_w, i32_w]
     rfl
    refine one_ (i := 8) (N := some 40) (bA 14 511) rfl rfl (one_of HT_.out (by kernel_rfl)) (by decide) (fun K hK => ?_)
    refine goes_ Try.func86 (by kernel_rfl) rfl #[.slice Ao48 y137.length co48] (by rfl) rfl rfl (by (try simp only [List.map_toArray, List.map_cons, List.map_nil]); first | done | rfl | (simp only [List.length_drop, List.length_take]; rfl)) ?_
    with_reducible refine (item_List.calls (fun k_ => (k_ ≠ gb101 ∧ k_ ≠ gb103)) _ _ y137 t140 t141 t142 _ ?side1 A38.out).mono ?_
    (case side1 => exact Kd.N_V (HO139.out))
    rintro e w49 ⟨v143, rfl, ho0, hb⟩
    refine ⟨_, rfl, ?_⟩
    replace HO139 := A0 (Kd.N_elder' (by (with_reducible repeat (first | apply Kd.N_alloc | apply Kd.N_drewN | apply Kd.N_drew)); exact HO139.out) (by first | exact Kd.N_base ho0 | exact Kd.R_base ho0) hb)
    have HO144 := A0 (Kd.N_lower (Kd.N_mono (ok' := fun k_ => k_ ≠ gb101 ∧ k_ ≠ gb103) ho0 (fun k_ hk_ => ⟨Or.elim hk_ (fun hs_ => hs_.1) (fun hn_ => (Kd.freshB (g := gb101) (o := .cells #[.int .i64 a0_0, .int .i64 a0_1, .slice A0_2 l0_2.length c0_2] 47 (0, 0)) (bS BK101.out) k_ hn_)), Or.elim hk_ (fun hs_ => hs_.2) (fun hn_ => (Kd.freshB (g := gb103) (o := .cells #[.string (⟨#[]⟩ : ByteArray), .bool true, .slice Ao45 x104002_1.length co45] 62 (0, 0)) (bS BK103.out) k_ hn_))⟩)) (below_size (lS HB.out)))
    replace BK101 := A0 (blk_below (bS BK101.out) hb)
    replace BK103 := A0 (blk_below (g := gb103) (o := .cells #[.string (⟨#[]⟩ : ByteArray), .bool true, .slice Ao45 x104002_1.length co45] 62 (0, 0)) (bS BK103.out) hb)
    replace HB := A0 (below_step (lS HB.out) hb)
    (try clear hb)
    (try clear hb2)
    (try clear hk)
    (try clear hi)
    (try clear ho0)
    obtain ⟨Ao50, co50, eo50⟩ := Kd.N_slice HO144.out
    (first | subst eo50 | (injection eo50 with f1_ f2_ f3_; have f4_ := f1_.symm; have f5_ := f3_.symm; clear f1_ f2_ f3_; subst f4_; subst f5_))
    refine hK.out _ _ ⟨bc BK101.out 0, bc BK101.out 1, bc BK101.out 2, bc BK103.out 0, bc BK103.out 1, bc BK103.out 2⟩ (fun hHeld => ?_)
    clear hK K
    refine norm_ (a' := ?_) ?_ ?_
    rotate_left
    ·show Act.put _ (some 40) _ = _
     simp only [Act.put, zu1, zu2, zu3, i64_w, i32_w]
     rfl
    refine one_ (i := 9) (N := some 41) (bA 14 1023) rfl rfl (one_of HT_.out (by kernel_rfl)) (by decide) (fun K hK => ?_)
    refine goes_ Try.func54 (by kernel_rfl) rfl #[.agg #[.string t140, .bool t141, .slice Ao50 t142.length co50]] (by rfl) rfl rfl (by (try simp only [List.map_toArray, List.map_cons, List.map_nil]); first | done | rfl | (simp only [List.length_drop, List.length_take]; rfl)) ?_
    with_reducible refine (rlp_Put.calls t140 t141 _ _ t142 t145 t146 _ ?side1 ?side2 A39.out).mono ?_
    (case side1 => repeat (first | exact (Kd.N_reads' HO144.out).2.2 | (with_reducible refine Kd.C_alloc ?_ _) | (with_reducible refine Kd.C_drewN ?_ _) | (with_reducible refine Kd.C_drew ?_)))
    (case side2 => exact (Kd.N_reads' HO144.out).2.1)
    rintro e w51 ⟨rfl, hb⟩
    refine ⟨_, rfl, ?_⟩
    replace HO139 := A0 (Kd.N_below (by (with_reducible repeat (first | apply Kd.N_alloc | apply Kd.N_drewN | apply Kd.N_drew)); exact HO139.out) hb)
    replace HO144 := A0 (Kd.N_below (by (with_reducible repeat (first | apply Kd.N_alloc | apply Kd.N_drewN | apply Kd.N_drew)); exact HO144.out) hb)
    replace BK101 := A0 (blk_below (bS BK101.out) hb)
    replace BK103 := A0 (blk_below (g := gb103) (o := .cells #[.string (⟨#[]⟩ : ByteArray), .bool true, .slice Ao45 x104002_1.length co45] 62 (0, 0)) (bS BK103.out) hb)
    replace HB := A0 (below_step (lS HB.out) hb)
    (try clear hb)
    (try clear hb2)
    (try clear hk)
    (try clear hi)
    refine hK.out _ _ ⟨bc BK101.out 0, bc BK101.out 1, bc BK101.out 2, bc BK103.out 0, bc BK103.out 1, bc BK103.out 2⟩ (fun hHeld => ?_)
    clear hK K
    refine norm_ (a' := ?_) ?_ ?_
    rotate_left
    ·show Act.put _ (some 41) _ = _
     simp only [Act.put, zu1, zu2, zu3, i64_w, i32_w]
     rfl
    apply pu (i := 10) (N := some 42) (bA 14 2047) rfl rfl (any_of HT_.out (by kernel_rfl)) (fun _ _ _ h => h) rfl
    ·intro w'; go_simp; with_reducible rfl
    ·simp only [Act.put, zu1, zu2, zu3, i64_w, i32_w]; rfl
    apply pu (i := 11) (N := some 43) (bA 14 4095) rfl rfl (any_of HT_.out (by kernel_rfl)) (fun _ _ _ h => h) rfl
    ·intro w'; go_simp; with_reducible rfl
    ·simp only [Act.put, zu1, zu2, zu3, i64_w, i32_w]; rfl
    apply pu (i := 12) (N := some 2) (bA 14 8191) rfl rfl (any_of HT_.out (by kernel_rfl)) (fun _ _ _ h => h) rfl
    ·intro w'; go_simp; with_reducible rfl
    ·simp only [Act.put, zu1, zu2, zu3, i64_w, i32_w]; rfl
    apply pu (i := 13) (N := some 3) (bA 14 16383) rfl rfl (any_of HT_.out (by kernel_rfl)) (fun _ _ _ h => h) rfl
    ·intro w'; go_simp; with_reducible rfl
    ·simp only [Act.put, zu1, zu2, zu3, i64_w, i32_w]; rfl
    refine done_ (done_of HT_.out (by kernel_rfl)) ?_
    try go_wp2
    go_ret2
    exact ⟨by first | rfl | (simp [errW_none, errW_some] <;> rfl) | (simp [*, errW_none, errW_some] <;> rfl), by repeat (first | (with_reducible first | exact HB.out | apply below_alloc | apply pw_below_drewN | apply below_drew1 | refine below_set ?_ GE101.out | refine below_set ?_ GE103.out) | exact HB.out)⟩
 replace c3 := Bool.eq_false_iff.mpr c3
 subst c3
 have H1 : (some ((⟨#[]⟩ : ByteArray), 1)) = some (r1, r2) := by rw [if_neg (show ¬ (false = true) by decide)] at H; exact H
 clear H
 have H := H1
 clear H1
 simp only [Option.some.injEq, Prod.mk.injEq] at H
 obtain ⟨rfl, rfl⟩ := H
 go_enter Try.func56, Try.ntmps56
 go_wp2_with (first | ((with_reducible refine gate_dst (N := 1) rfl ?_); refine box_event ?hg (N := 1) ?hd (cs := #[.int .i64 a0_0, .int .i64 a0_1, .slice A0_2 l0_2.length c0_2]) (t := 47) ?hr ?_; (case hd => rfl); (case hg => rfl); (case hr => first | (go_simp; done) | (go_simp; rfl)); intro gb101 hg w52 hbox hb; have n0_ := A0 (below_step (by repeat (first | (with_reducible first | exact HB.out | apply below_alloc | apply pw_below_drewN | apply below_drew1) | exact HB.out)) hb); have n1_ := A0 (hbox); have n2_ := A0 ((by rw [hg]; exact (below_size (by repeat (first | (with_reducible first | exact HB.out | apply below_alloc | apply pw_below_drewN | apply below_drew1) | exact HB.out))) : w.heap.size ≤ gb101)); have n3_ := A0 ((by rw [hg]; exact (below_size (by repeat (first | (with_reducible first | exact HB.out | apply below_alloc | apply pw_below_drewN | apply below_drew1) | exact HB.out))) : w.heap.size ≤ gb101)); clear HB; have HB := n0_; have BK101 := n1_; have GW101 := n2_; have GE101 := n3_; clear n0_ n1_ n2_ n3_; clear hb hbox hg; have hcz53_0 : w52.cell? ⟨gb101, 0, none⟩ = some (.int .i64 a0_0) := bc BK101.out 0; have hcz53_1 : w52.cell? ⟨gb101, 1, none⟩ = some (.int .i64 a0_1) := bc BK101.out 1; have hcz53_2 : w52.cell? ⟨gb101, 2, none⟩ = some (.slice A0_2 l0_2.length c0_2) := bc BK101.out 2; have hfz53_0 := blk_frozen BK101.out 0; have hfz53_1 := blk_frozen BK101.out 1; have hfz53_2 := blk_frozen BK101.out 2) | ((with_reducible refine gate_callee (f := 57) rfl ?_); refine goesL_ (some 8) rfl rfl Try.func57 (by kernel_rfl) rfl #[.agg #[.int .i64 a0_0, .int .i64 a0_1, .slice A0_2 l0_2.length c0_2]] rfl (by (try simp only [List.map_toArray, List.map_cons, List.map_nil]); first | done | rfl | (simp only [List.length_drop, List.length_take]; rfl)) ?_; (with_reducible refine (hello_May.calls k a0_0 a0_1 _ _ l0_2 false _ ?side1 ?side2 A2.out).mono ?_); (case side1 => repeat (first | exact (Kd.C_below HR0_2.out HB.out) | (with_reducible refine Kd.C_alloc ?_ _) | (with_reducible refine Kd.C_drewN ?_ _) | (with_reducible refine Kd.C_drew ?_))); (case side2 => exact HC0_2.out); rintro e w54 ⟨rfl, hb⟩; refine ⟨_, rfl, ?_⟩; replace BK101 := A0 (blk_below (bS BK101.out) hb); replace HB := A0 (below_step (lS HB.out) hb); (try clear hb); (try clear hb2); (try clear hk); (try clear hi)))
 go_ret2
 exact ⟨by first | rfl | (simp [errW_none, errW_some] <;> rfl) | (simp [*, errW_none, errW_some] <;> rfl), by repeat (first | (with_reducible first | exact HB.out | apply below_alloc | apply pw_below_drewN | apply below_drew1 | refine below_set ?_ GE101.out) | exact HB.out)⟩
end Go.Proofs.Yteoibgpkimlahaa.P
end
