/- Whether any hello may be, and its bytes, or the error, are the document's; it is got again. (part 24 of 27) -/
import Derived.LoopIn
import Derived.OwnWalkIn
import Derived.TacticsInMore
import Derived.Outline
import Derived.Test.YteoibgpkimlahaaB6
import Derived.Test.YteoibgpkimlahaaB16
import Derived.Test.YteoibgpkimlahaaB13
import Derived.Test.YteoibgpkimlahaaB14
import Derived.Test.YteoibgpkimlahaaB8
import Derived.Test.YteoibgpkimlahaaB7
section
namespace Go.Proofs.Yteoibgpkimlahaa.P
open Go.RowKit Go.Proofs.YteoibgpkimlahaaW.PrintWords Go.Proofs.YteoibgpkimlahaaW.PrintLast Go.Proofs.YteoibgpkimlahaaW.PrintMore
attribute [local go_sem] max2_int min2_int max_two min_two max_three min_three max_four min_four   
set_option linter.unusedVariables false
set_option linter.unusedSimpArgs false
attribute [local go_sem] Oper.semAt_some
def ordS (x y : S104) : Int := if Lib.compareBytes x.f0.data.toList y.f0.data.toList = 0 then (if x.f1 < y.f1 then -1 else if y.f1 < x.f1 then 1 else 0) else Lib.compareBytes x.f0.data.toList y.f0.data.toList
def bothL : List S104 → List S104 → List S104
 | x :: xs, y :: ys => if ordS x y = 0 then x :: bothL xs ys else if ordS x y < 0 then bothL xs (y :: ys) else bothL (x :: xs) ys
 | _, _ => []
termination_by xs ys => xs.length + ys.length
theorem order_ordS (x y : S104) : hello_order.f 5 x.f0 x.f1 y.f0 y.f1 = some (ordS x y) := by
 have w1 : wrap64 1 = 1 := by unfold wrap64; omega
 have w2 : wrap64 2 = 2 := by unfold wrap64; omega
 unfold hello_order.f
 simp only [strings_Compare.f, cmp_Compare_int.f, cmp_isNaN_int.f, Option.bind_some, bne_self_eq_false, Bool.false_eq_true, if_false, cmp_Or_int.f]
 unfold ordS
 by_cases h1 : x.f1 < y.f1
 ·rw [if_pos h1]
  simp only [Option.bind_some, cmp_Or_int.l0, List.length_cons, List.length_nil, rd]
  by_cases h3 : Lib.compareBytes x.f0.data.toList y.f0.data.toList = 0 <;> simp [h1, h3, w1, w2]
 ·rw [if_neg h1]
  by_cases h2 : x.f1 > y.f1
  ·rw [if_pos h2]
   simp only [Option.bind_some, cmp_Or_int.l0, List.length_cons, List.length_nil, rd]
   by_cases h3 : Lib.compareBytes x.f0.data.toList y.f0.data.toList = 0 <;> simp [h1, h2, h3, w1, w2]
  ·rw [if_neg h2]
   simp only [Option.bind_some, cmp_Or_int.l0, List.length_cons, List.length_nil, rd]
   by_cases h3 : Lib.compareBytes x.f0.data.toList y.f0.data.toList = 0 <;> simp [h1, h2, h3, w1, w2] <;> omega
def boxLen (W : World) (b : Nat) : Nat := match W.cell? ⟨b, 0, none⟩ with
 | some (.slice _ n _) => n
 | _ => 0
theorem boxLen_eq {W : World} {b n c t : Nat} {A : Option Addr} (h : W.heap[b]? = some (.cells #[.slice A n c] t (0, 0))) : boxLen W b = n := by
 have : W.cell? ⟨b, 0, none⟩ = some (.slice A n c) := (blk_cell h 0).trans rfl
 rw [boxLen, this]
def both_T : Bool × List (List Nat × List Nat) := (true, [([], []), ([0], [0]), ([1], [1]), ([], []), ([3], [3]), ([4], [4]), ([2, 5], [2, 5]), ([6, 6, 0, 1, 2, 3, 4, 5, 6], [6])])
def both_B : List Nat := [0, 1, 3, 0, 8, 24, 63, 127]
def agree_T : Bool × List (List Nat × List Nat) := (true, [([], []), ([0], [0]), ([1], [1]), ([2], [2]), ([3, 2], [2, 3]), ([2], [2]), ([4, 5, 2], [2, 4, 5]), ([6, 2], [2, 6]), ([7, 2], [2, 7]), ([2], [2]), ([9, 2], [2, 9]), ([8, 10, 2], [2, 8, 10]), ([2, 11], [2, 11])])
def agree_B : List Nat := [0, 1, 3, 7, 15, 7, 63, 127, 255, 7, 519, 2047, 4095]
theorem agree_tab : rtab .any (opsOf Try.f27 9) = agree_T := by kernel_rfl
theorem agree_bits : waitsOk agree_T.2 agree_B = true := by kernel_rfl
theorem both_tab : rtab .any (opsOf Try.f96 1) = both_T := by kernel_rfl
theorem both_bits : waitsOk both_T.2 both_B = true := by kernel_rfl
set_option maxHeartbeats 8000000 in
set_option maxRecDepth 100000 in
theorem both_lit (n l ba bb : Nat) (J : List S104 → World → Prop) (xs ys : List S104) (A0 B0 : Option Addr) (ca cb : Nat) (w0 W : World)
  (hJ : ∀ pre W1 W2, J pre W1 → Below w0.heap.size W1 W2 → Kept W1 W2 (fun k => k = ba ∨ k = bb) → J pre W2)
  (hY : ∀ pre x W1, (∃ r, pre ++ x :: r = bothL xs ys) → J pre W1 → YieldAt Fence.wide n Try.prog l #[.agg #[.string x.f0, .int .i64 x.f1]] W1 fun e W2 =>
   e = .returned (.bool true) ∧ J (pre ++ [x]) W2 ∧ Below w0.heap.size W1 W2 ∧ W2.heap[ba]? = W1.heap[ba]? ∧ W2.heap[bb]? = W1.heap[bb]?)
  (hab : ba ≠ bb) (ga : w0.heap.size ≤ ba) (gb : w0.heap.size ≤ bb)
  (hA : Kd.C k104 w0 A0 xs.length xs) (hcA : xs.length ≤ ca) (hB : Kd.C k104 w0 B0 ys.length ys) (hcB : ys.length ≤ cb)
  (ka : W.heap[ba]? = some (.cells #[.slice A0 xs.length ca] 41 (0, 0))) (kb : W.heap[bb]? = some (.cells #[.slice B0 ys.length cb] 41 (0, 0)))
  (h0 : J [] W) (hW : Below w0.heap.size w0 W) :
  CallsIn Fence.wide (n + 1) Try.prog 96 #[.func (.yield l) #[] #[], .pointer (some ⟨ba, 0, none⟩), .pointer (some ⟨bb, 0, none⟩)] W fun e W' => (∃ v, e = .returned v) ∧ J (bothL xs ys) W' := by
 have hu104 := Try.underlying104
 refine callsIn_of_wp Try.func96 rfl trivial ?_ rfl
 simp only [Try.ntmps96, List.size_toArray, List.length_cons, List.length_nil, Nat.reduceAdd, Nat.reduceSub, Array.replicate_succ, Array.replicate_zero, List.push_toArray, List.append_toArray, List.nil_append, List.cons_append]
 gi_wp2
 gi_loopw [4] (fun _ wr => ∃ (xs' ys' pre : List S104) (A B : Option Addr) (ca' cb' : Nat), Kd.C k104 w0 A xs'.length xs' ∧ xs'.length ≤ ca' ∧ Kd.C k104 w0 B ys'.length ys' ∧ ys'.length ≤ cb' ∧
   wr.heap[ba]? = some (.cells #[.slice A xs'.length ca'] 41 (0, 0)) ∧ wr.heap[bb]? = some (.cells #[.slice B ys'.length cb'] 41 (0, 0)) ∧ pre ++ bothL xs' ys' = bothL xs ys ∧ J pre wr ∧ Below w0.heap.size w0 wr)
  (fun _ wr => boxLen wr ba + boxLen wr bb)
 case atStart => exact ⟨xs, ys, [], A0, B0, ca, cb, hA, hcA, hB, hcB, ka, kb, rfl, h0, hW⟩
 case round =>
  obtain ⟨xs', ys', pre, A, B, ca', cb', hA', hcA', hB', hcB', ka', kb', hpre, hJ', hW'⟩ := hrel
  have hca : wr.cell? ⟨ba, 0, none⟩ = some (.slice A xs'.length ca') := (blk_cell ka' 0).trans rfl
  have hcb : wr.cell? ⟨bb, 0, none⟩ = some (.slice B ys'.length cb') := (blk_cell kb' 0).trans rfl
  have hfa := blk_frozen ka' 0
  have hfb := blk_frozen kb' 0
  cases xs' with
  | nil =>
   rw [show bothL [] ys' = [] by (rw [bothL]; rintro _ _ _ _ h; cases h), List.append_nil] at hpre
   gi_wp2
   go_end0
   rw [← hpre]
   exact ⟨⟨_, rfl⟩, hJ'⟩
  | cons x xs' =>
  cases ys' with
  | nil =>
   rw [show bothL (x :: xs') [] = [] by (rw [bothL]; rintro _ _ _ _ h h2; cases h2), List.append_nil] at hpre
   gi_wp2
   go_end0
   rw [← hpre]
   exact ⟨⟨_, rfl⟩, hJ'⟩
  | cons y ys' =>
  obtain ⟨ada, ea, hxa0, hxa1⟩ := at_T104 hA' 0 (by omega) (by simp)
  obtain ⟨adb, eb, hxb0, hxb1⟩ := at_T104 hB' 0 (by omega) (by simp)
  cases ea
  cases eb
  replace hxa0 := (hW'.cell (World.block_lt_of_cell? w0 _ hxa0)).trans hxa0
  replace hxa1 := (hW'.cell (World.block_lt_of_cell? w0 _ hxa1)).trans hxa1
  replace hxb0 := (hW'.cell (World.block_lt_of_cell? w0 _ hxb0)).trans hxb0
  replace hxb1 := (hW'.cell (World.block_lt_of_cell? w0 _ hxb1)).trans hxb1
  have za : ada.add 0 = ada := by simp [Addr.add]
  have zb : adb.add 0 = adb := by simp [Addr.add]
  simp only [Int.toNat_zero, Nat.zero_mul, rd_T104, List.getD_cons_zero, za, zb] at hxa0 hxa1 hxb0 hxb1
  gi_wp2
  refine region_draw_rd (ro := none) (n := n + 1) (m := 8) (S := fun w' => w'.cell? ⟨ba, 0, none⟩ = some (.slice (some ada) (xs'.length + 1) ca') ∧ w'.cell? ⟨bb, 0, none⟩ = some (.slice (some adb) (ys'.length + 1) cb') ∧
   w'.cell? ada = some (.string x.f0) ∧ w'.cell? ⟨ada.block, ada.off + 1, none⟩ = some (.int .i64 x.f1) ∧ w'.cell? adb = some (.string y.f0) ∧ w'.cell? ⟨adb.block, adb.off + 1, none⟩ = some (.int .i64 y.f1))
   (ds := []) ?hL (by kernel_rfl) #[false, false, false, false, false, false, false, false] (by kernel_rfl) rfl rfl ⟨hca, hcb, hxa0, hxa1, hxb0, hxb1⟩ (fun hHeld => ?_)
  case hL => rintro ⟨a, w, h⟩; simp +zetaDelta [Exit.then, Exit.inBlock, bodyPost] at h
  refine with_tabW both_tab both_bits (fun HT_ HW_ => ?_)
  have hd1 : Below wr.heap.size wr wr.drew := below_drew (Below.refl _ _)
  generalize wr.drew = w1 at hHeld hd1 ⊢
  refine take_ (i := 0) (N := some 13) (v := ?_) (a' := ?_) #[true, false, false, false, false, false, false, false] rfl rfl (take_ofW HT_.out HW_.out (by kernel_rfl)) (fun _ _ _ h => h) (Or.inl ⟨by rfl, ?_⟩) hHeld ?_ ?_
  rotate_left
  ·rintro w' ⟨s0, s1, s2, s3, s4, s5⟩
   go_simp
   with_reducible rfl
  rotate_left
  ·simp only [Act.put, List.setIfInBounds_toArray, List.set_cons_zero, List.set_cons_succ, i64_w, i32_w]
   rfl
  refine pure_ (i := 1) (N := some 14) (v := ?_) (a' := ?_) #[true, true, false, false, false, false, false, false] rfl rfl (any_of HT_.out (by kernel_rfl)) (fun _ _ _ h => h) (Or.inl ⟨by rfl, ?_⟩) ?_ ?_
  rotate_left
  ·intro w'
   go_simp
   with_reducible rfl
  rotate_left
  ·simp only [Act.put, List.setIfInBounds_toArray, List.set_cons_zero, List.set_cons_succ, i64_w, i32_w]
   rfl
  refine take_ (i := 2) (N := some 15) (v := ?_) (a' := ?_) #[true, true, true, false, false, false, false, false] rfl rfl (take_ofW HT_.out HW_.out (by kernel_rfl)) (fun _ _ _ h => h) (Or.inl ⟨by rfl, ?_⟩) hHeld ?_ ?_
  rotate_left
  ·rintro w' ⟨s0, s1, s2, s3, s4, s5⟩
   go_simp
   with_reducible rfl
  rotate_left
  ·simp only [Act.put, List.setIfInBounds_toArray, List.set_cons_zero, List.set_cons_succ, i64_w, i32_w]
   rfl
  refine take_ (i := 3) (N := some 16) (v := ?_) (a' := ?_) #[true, true, true, true, false, false, false, false] rfl rfl (take_ofW HT_.out HW_.out (by kernel_rfl)) (fun _ _ _ h => h) (Or.inl ⟨by rfl, ?_⟩) hHeld ?_ ?_
  rotate_left
  ·rintro w' ⟨s0, s1, s2, s3, s4, s5⟩
   go_simp
   with_reducible rfl
  rotate_left
  ·simp only [Act.put, List.setIfInBounds_toArray, List.set_cons_zero, List.set_cons_succ, i64_w, i32_w]
   rfl
  refine pure_ (i := 4) (N := some 17) (v := ?_) (a' := ?_) #[true, true, true, true, true, false, false, false] rfl rfl (any_of HT_.out (by kernel_rfl)) (fun _ _ _ h => h) (Or.inl ⟨by rfl, ?_⟩) ?_ ?_
  rotate_left
  ·intro w'
   go_simp
   with_reducible rfl
  rotate_left
  ·simp only [Act.put, List.setIfInBounds_toArray, List.set_cons_zero, List.set_cons_succ, i64_w, i32_w]
   rfl
  refine take_ (i := 5) (N := some 18) (v := ?_) (a' := ?_) #[true, true, true, true, true, true, false, false] rfl rfl (take_ofW HT_.out HW_.out (by kernel_rfl)) (fun _ _ _ h => h) (Or.inl ⟨by rfl, ?_⟩) hHeld ?_ ?_
  rotate_left
  ·rintro w' ⟨s0, s1, s2, s3, s4, s5⟩
   go_simp
   with_reducible rfl
  rotate_left
  ·simp only [Act.put, List.setIfInBounds_toArray, List.set_cons_zero, List.set_cons_succ, i64_w, i32_w]
   rfl
  refine one_ (i := 6) (N := some 19) #[true, true, true, true, true, true, true, false] rfl rfl (one_of HT_.out (by kernel_rfl)) (by decide) (fun K hK => ?_)
  refine goes_ Try.func89 (by kernel_rfl) rfl #[.agg #[.string x.f0, .int .i64 x.f1], .agg #[.string y.f0, .int .i64 y.f1]] (by rfl) rfl rfl (by (try simp only [List.map_toArray, List.map_cons, List.map_nil]); first | done | rfl | simp [Act.eval]) ?_
  with_reducible refine (hello_order.calls 5 x.f0 x.f1 y.f0 y.f1 (ordS x y) _ (order_ordS x y)).mono ?_
  rintro e w2 ⟨rfl, hb⟩
  refine ⟨_, rfl, ?_⟩
  have hb2 : Below wr.heap.size wr w2 := hd1.trans (hb.mono hd1.size)
  have ka2 := blk_below ka' hb2
  have kb2 := blk_below kb' hb2
  have hJ2 : J pre w2 := hJ pre wr w2 hJ' (hb2.mono hW'.size) (Kept.of_below hb2 _)
  have hW2 : Below w0.heap.size w0 w2 := hW'.trans (hb2.mono hW'.size)
  have hca2 : w2.cell? ⟨ba, 0, none⟩ = some (.slice (some ada) (xs'.length + 1) ca') := (blk_cell ka2 0).trans rfl
  have hcb2 : w2.cell? ⟨bb, 0, none⟩ = some (.slice (some adb) (ys'.length + 1) cb') := (blk_cell kb2 0).trans rfl
  have hfa2 := blk_frozen ka2 0
  have hfb2 := blk_frozen kb2 0
  replace hxa0 := (hb2.cell (World.block_lt_of_cell? wr _ hxa0)).trans hxa0
  replace hxa1 := (hb2.cell (World.block_lt_of_cell? wr _ hxa1)).trans hxa1
  replace hxb0 := (hb2.cell (World.block_lt_of_cell? wr _ hxb0)).trans hxb0
  replace hxb1 := (hb2.cell (World.block_lt_of_cell? wr _ hxb1)).trans hxb1
  refine hK.out _ _ ⟨hca2, hcb2, hxa0, hxa1, hxb0, hxb1⟩ (fun hHeld => ?_)
  clear hK K hHeld hd1 hb
  refine norm_ (a' := ?_) ?_ ?_
  rotate_left
  ·show Act.put _ (some 19) _ = _
   simp only [Act.put, List.setIfInBounds_toArray, List.set_cons_zero, List.set_cons_succ, i64_w, i32_w]
   rfl
  refine pure_ (i := 7) (N := some 4) (v := ?_) (a' := ?_) #[true, true, true, true, true, true, true, true] rfl rfl (any_of HT_.out (by kernel_rfl)) (fun _ _ _ h => h) (Or.inl ⟨by rfl, ?_⟩) ?_ ?_
  rotate_left
  ·intro w'
   go_simp
   with_reducible rfl
  rotate_left
  ·simp only [Act.put, List.setIfInBounds_toArray, List.set_cons_zero, List.set_cons_succ, i64_w, i32_w]
   rfl
  refine done_ (done_of HT_.out (by kernel_rfl)) ?_
  clear HT_ HW_
  have hA2 : Kd.C k104 w0 (if ca' = 1 then some ada else some ⟨ada.block, ada.off + 2, none⟩) xs'.length xs' := Kd.C_drop (m := 1) (c := ca') hA' (by simp) hcA'
  have hB2 : Kd.C k104 w0 (if cb' = 1 then some adb else some ⟨adb.block, adb.off + 2, none⟩) ys'.length ys' := Kd.C_drop (m := 1) (c := cb') hB' (by simp) hcB'
  have hla : xs'.length + 1 ≤ ca' := hcA'
  have hlb : ys'.length + 1 ≤ cb' := hcB'
  have hmea : boxLen wr ba + boxLen wr bb = xs'.length + 1 + (ys'.length + 1) := by rw [boxLen_eq ka', boxLen_eq kb']; simp
  have hbo : bothL (x :: xs') (y :: ys') = if ordS x y = 0 then x :: bothL xs' ys' else if ordS x y < 0 then bothL xs' (y :: ys') else bothL (x :: xs') ys' := by rw [bothL]
  rw [hbo] at hpre
  clear hca hcb hfa hfb ka' kb' hJ' hb2 hbo
  generalize ordS x y = o at hpre ⊢
  by_cases h1 : o = 0
  ·subst h1
   rw [if_pos rfl] at hpre
   obtain ⟨fn, tmps, assign, body, hy, hR⟩ := hY pre x w2 ⟨_, hpre⟩ hJ2
   gi_wp2
   refine hR.mono ?_
   rintro e W3 ⟨rfl, hJ3, hB3, h3a, h3b⟩
   replace h3a := h3a.trans ka2
   replace h3b := h3b.trans kb2
   have hca3 : W3.cell? ⟨ba, 0, none⟩ = some (.slice (some ada) (xs'.length + 1) ca') := (blk_cell h3a 0).trans rfl
   have hcb3 : W3.cell? ⟨bb, 0, none⟩ = some (.slice (some adb) (ys'.length + 1) cb') := (blk_cell h3b 0).trans rfl
   have hfa3 := blk_frozen h3a 0
   have hfb3 := blk_frozen h3b 0
   gi_wp2
   have ka4 := blk_far (p := ⟨bb, 0, none⟩) (blk_put h3a 0 (.slice (if ca' = 1 then some ada else some ⟨ada.block, ada.off + 2, none⟩) xs'.length (ca' - 1)) rfl) hab (.slice (if cb' = 1 then some adb else some ⟨adb.block, adb.off + 2, none⟩) ys'.length (cb' - 1))
   have kb4 := blk_put (blk_far (p := ⟨ba, 0, none⟩) h3b hab.symm (.slice (if ca' = 1 then some ada else some ⟨ada.block, ada.off + 2, none⟩) xs'.length (ca' - 1))) 0 (.slice (if cb' = 1 then some adb else some ⟨adb.block, adb.off + 2, none⟩) ys'.length (cb' - 1)) rfl
   have hb4 : Below w0.heap.size W3 ((W3.setCell ⟨ba, 0, none⟩ (.slice (if ca' = 1 then some ada else some ⟨ada.block, ada.off + 2, none⟩) xs'.length (ca' - 1))).setCell ⟨bb, 0, none⟩ (.slice (if cb' = 1 then some adb else some ⟨adb.block, adb.off + 2, none⟩) ys'.length (cb' - 1))) :=
    ((Below.refl _ _).setCell (p := ⟨ba, 0, none⟩) ga _).setCell (p := ⟨bb, 0, none⟩) gb _
   refine ⟨⟨xs', ys', pre ++ [x], _, _, _, _, hA2, by omega, hB2, by omega, ka4, kb4, by rw [List.append_assoc]; exact hpre, hJ _ _ _ hJ3 hb4 (((Kept.refl W3 _).setCell (p := ⟨ba, 0, none⟩) (.inl (.inl rfl)) _).setCell (p := ⟨bb, 0, none⟩) (.inl (.inr rfl)) _), (hW2.trans hB3).trans hb4⟩, ?_⟩
   rw [hmea, boxLen_eq ka4, boxLen_eq kb4]
   omega
  ·rw [if_neg h1] at hpre
   by_cases h2 : o < 0
   ·rw [if_pos h2] at hpre
    have e1 : (o == 0) = false := beq_eq_false_iff_ne.2 h1
    have e2 : decide (o ≤ 0) = true := decide_eq_true (by omega)
    have e3 : decide (0 ≤ o) = false := decide_eq_false (by omega)
    clear h1 h2
    gi_wp2
    refine ⟨fun _ h => (by cases h), ?_⟩
    gi_wp2
    have ka4 := blk_put ka2 0 (.slice (if ca' = 1 then some ada else some ⟨ada.block, ada.off + 2, none⟩) xs'.length (ca' - 1)) rfl
    have kb4 := blk_far (p := ⟨ba, 0, none⟩) kb2 hab.symm (.slice (if ca' = 1 then some ada else some ⟨ada.block, ada.off + 2, none⟩) xs'.length (ca' - 1))
    have hb4 : Below w0.heap.size w2 (w2.setCell ⟨ba, 0, none⟩ (.slice (if ca' = 1 then some ada else some ⟨ada.block, ada.off + 2, none⟩) xs'.length (ca' - 1))) := (Below.refl _ _).setCell (p := ⟨ba, 0, none⟩) ga _
    refine ⟨⟨xs', y :: ys', pre, _, _, _, _, hA2, by omega, hB', hlb, ka4, kb4, hpre, hJ _ _ _ hJ2 hb4 ((Kept.refl w2 _).setCell (p := ⟨ba, 0, none⟩) (.inl (.inl rfl)) _), hW2.trans hb4⟩, ?_⟩
    rw [hmea, boxLen_eq ka4, boxLen_eq kb4]
    simp only [List.length_cons]
    omega
   ·rw [if_neg h2] at hpre
    have e1 : (o == 0) = false := beq_eq_false_iff_ne.2 h1
    have e2 : decide (o ≤ 0) = false := decide_eq_false (by omega)
    have e3 : decide (0 ≤ o) = true := decide_eq_true (by omega)
    clear h1 h2
    gi_wp2
    refine ⟨fun _ h => (by cases h), ?_⟩
    gi_wp2
    have kb4 := blk_put kb2 0 (.slice (if cb' = 1 then some adb else some ⟨adb.block, adb.off + 2, none⟩) ys'.length (cb' - 1)) rfl
    have ka4 := blk_far (p := ⟨bb, 0, none⟩) ka2 hab (.slice (if cb' = 1 then some adb else some ⟨adb.block, adb.off + 2, none⟩) ys'.length (cb' - 1))
    have hb4 : Below w0.heap.size w2 (w2.setCell ⟨bb, 0, none⟩ (.slice (if cb' = 1 then some adb else some ⟨adb.block, adb.off + 2, none⟩) ys'.length (cb' - 1))) := (Below.refl _ _).setCell (p := ⟨bb, 0, none⟩) gb _
    refine ⟨⟨x :: xs', ys', pre, _, _, _, _, hA', hla, hB2, by omega, ka4, kb4, hpre, hJ _ _ _ hJ2 hb4 ((Kept.refl w2 _).setCell (p := ⟨bb, 0, none⟩) (.inl (.inr rfl)) _), hW2.trans hb4⟩, ?_⟩
    rw [hmea, boxLen_eq ka4, boxLen_eq kb4]
    simp only [List.length_cons]
    omega
theorem both_calls (A B : Option Addr) (n m ca cb : Nat) (w : World) : Calls Try.prog 69 #[.slice A n ca, .slice B m cb] w fun e w' =>
  e = .returned (.func (.func 96) #[] #[.pointer (some ⟨w.heap.size, 0, none⟩), .pointer (some ⟨w.heap.size + 1, 0, none⟩)]) ∧ w' = (w.alloc (.cells #[.slice A n ca] 41 (0, 0))).alloc (.cells #[.slice B m cb] 41 (0, 0)) := by
 go_enter Try.func69, Try.ntmps69
 go_wp2
 go_ret
 exact ⟨rfl, rfl⟩
def addCap (acc : List S104) (c : S104) : List S104 :=
 if 0 ≤ (acc.length : Int) - 1 ∧ (rd_T104 acc ((acc.length : Int) - 1)).f0.toList = c.f0.toList then acc.set (acc.length - 1) c else acc ++ [c]
def dealL (xs : List S104) : List S104 := xs.foldl addCap []
theorem dealL_snoc (xs : List S104) (x : S104) : dealL (xs ++ [x]) = addCap (dealL xs) x := by simp [dealL]
theorem addCap_len (acc : List S104) (c : S104) : (addCap acc c).length ≤ acc.length + 1 := by
 unfold addCap
 split
 ·simp
 ·simp
def hello_Agree.f (k : Nat) (a0_0 a0_1 : Int) (l0_2 : List (S104)) (a1_0 a1_1 : Int) (l1_2 : List (S104)) : Option (Int × List (S104) × Int) :=
 (hello_May.f k a0_0 a0_1 l0_2).bind fun m1 => if m1 = true then ((hello_May.f k a1_0 a1_1 l1_2).bind fun m2 => if m2 = true then
  (if mn a0_1 a1_1 < mx a0_0 a1_0 then some (0, [], 7) else if (bothL l0_2 l1_2).length * 24 ≤ 140737488355328 then some (mn a0_1 a1_1, dealL (bothL l0_2 l1_2), 0) else none)
  else some (0, [], 1)) else some (0, [], 1)
theorem hello_Agree.mono : ∀ a0 a1 a2 a3 a4 a5 k, LeO (hello_Agree.f k a0 a1 a2 a3 a4 a5) (hello_Agree.f (k + 1) a0 a1 a2 a3 a4 a5) := by
 intro a0 a1 a2 a3 a4 a5 k
 unfold hello_Agree.f
 refine LeO.bind (hello_May.mono _ _ _ _) (fun _ => ?_)
 refine LeO.ite ?_ (LeO.refl _)
 exact LeO.bind (hello_May.mono _ _ _ _) (fun _ => LeO.refl _)
set_option maxHeartbeats 8000000 in
set_option maxRecDepth 100000 in
theorem hello_Agree.calls (k : Nat) (a0_0 a0_1 : Int) (A0_2 : Option Addr) (c0_2 : Nat) (l0_2 : List (S104)) (a1_0 a1_1 : Int) (A1_2 : Option Addr) (c1_2 : Nat) (l1_2 : List (S104)) (r1 : Int) (r2 : List (S104)) (r3 : Int) (w : World) (hr0_2 : Kd.C k104 w A0_2 l0_2.length l0_2) (hc0_2 : l0_2.length ≤ c0_2) (hr1_2 : Kd.C k104 w A1_2 l1_2.length l1_2) (hc1_2 : l1_2.length ≤ c1_2) (h : hello_Agree.f k a0_0 a0_1 l0_2 a1_0 a1_1 l1_2 = some (r1, r2, r3)) :
  Calls Try.prog 27 #[.agg #[.int .i64 a0_0, .int .i64 a0_1, .slice A0_2 l0_2.length c0_2], .agg #[.int .i64 a1_0, .int .i64 a1_1, .slice A1_2 l1_2.length c1_2]] w fun e w' => ∃ v1_ : Value, e = .returned (.tuple #[.agg #[.int .i64 r1, v1_], .int .i64 r3]) ∧ Kd.R k104 104 w' w.heap.size (fun _ => True) v1_ r2 ∧ Below w.heap.size w w' := by
 have hu104 := Try.underlying104
 have hu43 := Try.underlying43
 have hu47 := Try.underlying47
 obtain ⟨m1, A1, h⟩ := Option.bind_eq_some_iff.1 h
 refine (callsIn_wide (n := 9)).1 (callsIn_of_wp_marks Try.func27 rfl trivial ?_ rfl)
 simp only [Try.ntmps27, List.size_toArray, List.length_cons, List.length_nil, Nat.reduceAdd, Nat.reduceSub, Array.replicate_succ, Array.replicate_zero, List.push_toArray, List.append_toArray, List.nil_append, List.cons_append]
 have s1 : (w.alloc (.cells #[.int .i64 a0_0, .int .i64 a0_1, .slice A0_2 l0_2.length c0_2] 47 (0, 0))).heap.size = w.heap.size + 1 := by simp
 have s2 : ((w.alloc (.cells #[.int .i64 a0_0, .int .i64 a0_1, .slice A0_2 l0_2.length c0_2] 47 (0, 0))).alloc (.cells #[.int .i64 a1_0, .int .i64 a1_1, .slice A1_2 l1_2.length c1_2] 47 (0, 0))).heap.size = w.heap.size + 1 + 1 := by simp
 have kA := blk_alloc (blk_alloc (blk_new w (.cells #[.int .i64 a0_0, .int .i64 a0_1, .slice A0_2 l0_2.length c0_2] 47 (0, 0))) (.cells #[.int .i64 a1_0, .int .i64 a1_1, .slice A1_2 l1_2.length c1_2] 47 (0, 0))) (.cells #[.int .i64 0, .slice none 0 0] 43 (0, 0))
 have kB := blk_alloc (blk_new (w.alloc (.cells #[.int .i64 a0_0, .int .i64 a0_1, .slice A0_2 l0_2.length c0_2] 47 (0, 0))) (.cells #[.int .i64 a1_0, .int .i64 a1_1, .slice A1_2 l1_2.length c1_2] 47 (0, 0))) (.cells #[.int .i64 0, .slice none 0 0] 43 (0, 0))
 have kR := blk_new ((w.alloc (.cells #[.int .i64 a0_0, .int .i64 a0_1, .slice A0_2 l0_2.length c0_2] 47 (0, 0))).alloc (.cells #[.int .i64 a1_0, .int .i64 a1_1, .slice A1_2 l1_2.length c1_2] 47 (0, 0))) (.cells #[.int .i64 0, .slice none 0 0] 43 (0, 0))
 rw [s1] at kB
 rw [s2] at kR
 have hB1 : Below w.heap.size w (((w.alloc (.cells #[.int .i64 a0_0, .int .i64 a0_1, .slice A0_2 l0_2.length c0_2] 47 (0, 0))).alloc (.cells #[.int .i64 a1_0, .int .i64 a1_1, .slice A1_2 l1_2.length c1_2] 47 (0, 0))).alloc (.cells #[.int .i64 0, .slice none 0 0] 43 (0, 0))) := below_alloc (below_alloc (below_alloc (Below.refl _ _) _) _) _
 have call1 := callsIn_wide (n := 8).2 (hello_May.calls k a0_0 a0_1 A0_2 c0_2 l0_2 m1 _ (Kd.C_below hr0_2 hB1) hc0_2 A1)
 cases m1 with
 | false =>
  gi_wp2
  refine ⟨trivial, ?_⟩
  refine call1.mono ?_
  rintro e w2 ⟨rfl, hb⟩
  have kR2 := blk_below kR hb
  have hB2 := hB1.trans (hb.mono hB1.size)
  clear call1 hb
  obtain ⟨rfl, rfl, rfl⟩ : 0 = r1 ∧ [] = r2 ∧ 1 = r3 := by simpa using h
  have hcr : w2.cell? ⟨w.heap.size + 1 + 1, 0, none⟩ = some (.int .i64 0) := (blk_cell kR2 0).trans rfl
  have hcr1 : w2.cell? ⟨w.heap.size + 1 + 1, 1, none⟩ = some (.slice none 0 0) := (blk_cell kR2 1).trans rfl
  have hfr := blk_frozen kR2 0
  have hfr1 := blk_frozen kR2 1
  gi_wp2
  refine ⟨trivial, ?_⟩
  gi_wp2
  have kR3 := blk_put (blk_put kR2 0 (.int .i64 0) rfl) 1 (.slice none 0 0) rfl
  have hB3 := below_set (j := 1) (v := .slice none 0 0) (below_set (g := w.heap.size + 1 + 1) (j := 0) (v := .int .i64 0) hB2 (by omega)) (g := w.heap.size + 1 + 1) (by omega)
  refine ⟨_, results_ct rfl _ _ (w.heap.size + 1 + 1) 43 #[.int .i64 0, .slice none 0 0] (0, 0) _ rfl kR3 Try.underlying43 rfl (by kernel_rfl), ?_⟩
  exact ⟨_, rfl, Kd.R_nil _ _ _ _ _, hB3⟩
 | true =>
  replace h : ((hello_May.f k a1_0 a1_1 l1_2).bind fun m2 => if m2 = true then
  (if mn a0_1 a1_1 < mx a0_0 a1_0 then some (0, [], 7) else if (bothL l0_2 l1_2).length * 24 ≤ 140737488355328 then some (mn a0_1 a1_1, dealL (bothL l0_2 l1_2), 0) else none)
  else some (0, [], 1)) = some (r1, r2, r3) := h
  obtain ⟨m2, A2, h⟩ := Option.bind_eq_some_iff.1 h
  gi_wp2
  refine ⟨trivial, ?_⟩
  refine call1.mono ?_
  rintro e w2 ⟨rfl, hb⟩
  have kA2 := blk_below kA hb
  have kB2 := blk_below kB hb
  have kR2 := blk_below kR hb
  have hB2 := hB1.trans (hb.mono hB1.size)
  have call2 := callsIn_wide (n := 8).2 (hello_May.calls k a1_0 a1_1 A1_2 c1_2 l1_2 m2 _ (Kd.C_below hr1_2 hB2) hc1_2 A2)
  clear call1 hb kA kB kR hB1
  have hcb0 : w2.cell? ⟨w.heap.size + 1, 0, none⟩ = some (.int .i64 a1_0) := (blk_cell kB2 0).trans rfl
  have hcb1 : w2.cell? ⟨w.heap.size + 1, 1, none⟩ = some (.int .i64 a1_1) := (blk_cell kB2 1).trans rfl
  have hcb2 : w2.cell? ⟨w.heap.size + 1, 2, none⟩ = some (.slice A1_2 l1_2.length c1_2) := (blk_cell kB2 2).trans rfl
  gi_wp2
  refine ⟨trivial, ?_⟩
  refine call2.mono ?_
  rintro e w3 ⟨rfl, hb⟩
  have kA3 := blk_below kA2 hb
  have kB3 := blk_below kB2 hb
  have kR3 := blk_below kR2 hb
  have hB3 := hB2.trans (hb.mono hB2.size)
  clear call2 hb kA2 kB2 kR2 hB2 hcb0 hcb1 hcb2
  have hcr : w3.cell? ⟨w.heap.size + 1 + 1, 0, none⟩ = some (.int .i64 0) := (blk_cell kR3 0).trans rfl
  have hcr1 : w3.cell? ⟨w.heap.size + 1 + 1, 1, none⟩ = some (.slice none 0 0) := (blk_cell kR3 1).trans rfl
  have hfr := blk_frozen kR3 0
  have hfr1 := blk_frozen kR3 1
  cases m2 with
  | false =>
   obtain ⟨rfl, rfl, rfl⟩ : 0 = r1 ∧ [] = r2 ∧ 1 = r3 := by simpa using h
   gi_wp2
   have kR4 := blk_put (blk_put kR3 0 (.int .i64 0) rfl) 1 (.slice none 0 0) rfl
   have hB4 := below_set (j := 1) (v := .slice none 0 0) (below_set (g := w.heap.size + 1 + 1) (j := 0) (v := .int .i64 0) hB3 (by omega)) (g := w.heap.size + 1 + 1) (by omega)
   refine ⟨_, results_ct rfl _ _ (w.heap.size + 1 + 1) 43 #[.int .i64 0, .slice none 0 0] (0, 0) _ rfl kR4 Try.underlying43 rfl (by kernel_rfl), ?_⟩
   exact ⟨_, rfl, Kd.R_nil _ _ _ _ _, hB4⟩
  | true =>
  rw [if_pos rfl] at h
  have ha0 : w3.cell? ⟨w.heap.size, 0, none⟩ = some (.int .i64 a0_0) := (blk_cell kA3 0).trans rfl
  have ha1 : w3.cell? ⟨w.heap.size, 1, none⟩ = some (.int .i64 a0_1) := (blk_cell kA3 1).trans rfl
  have ha2 : w3.cell? ⟨w.heap.size, 2, none⟩ = some (.slice A0_2 l0_2.length c0_2) := (blk_cell kA3 2).trans rfl
  have hb0 : w3.cell? ⟨w.heap.size + 1, 0, none⟩ = some (.int .i64 a1_0) := (blk_cell kB3 0).trans rfl
  have hb1 : w3.cell? ⟨w.heap.size + 1, 1, none⟩ = some (.int .i64 a1_1) := (blk_cell kB3 1).trans rfl
  have hb2 : w3.cell? ⟨w.heap.size + 1, 2, none⟩ = some (.slice A1_2 l1_2.length c1_2) := (blk_cell kB3 2).trans rfl
  obtain ⟨ver, hver⟩ : ∃ ver, mn a0_1 a1_1 = ver := ⟨_, rfl⟩
  obtain ⟨low, hlow⟩ : ∃ low, mx a0_0 a1_0 = low := ⟨_, rfl⟩
  rw [hver, hlow] at h
  have hver' : (if a1_1 < a0_1 then a1_1 else a0_1) = ver := hver
  have hlow' : (if a0_0 < a1_0 then a1_0 else a0_0) = low := hlow
  have hH := Aside0.mk h
  clear h
  have hz0 : ∀ o, (w3.alloc o).cell? ⟨w.heap.size, 0, none⟩ = some (.int .i64 a0_0) := fun o => (blk_cell (blk_alloc kA3 o) 0).trans rfl
  have hz2 : ∀ o, (w3.alloc o).cell? ⟨w.heap.size, 2, none⟩ = some (.slice A0_2 l0_2.length c0_2) := fun o => (blk_cell (blk_alloc kA3 o) 2).trans rfl
  have hy0 : ∀ o, (w3.alloc o).cell? ⟨w.heap.size + 1, 0, none⟩ = some (.int .i64 a1_0) := fun o => (blk_cell (blk_alloc kB3 o) 0).trans rfl
  have hy2 : ∀ o, (w3.alloc o).cell? ⟨w.heap.size + 1, 2, none⟩ = some (.slice A1_2 l1_2.length c1_2) := fun o => (blk_cell (blk_alloc kB3 o) 2).trans rfl
  have hr0 : ∀ o, (w3.alloc o).cell? ⟨w.heap.size + 1 + 1, 0, none⟩ = some (.int .i64 0) := fun o => (blk_cell (blk_alloc kR3 o) 0).trans rfl
  have hr1 : ∀ o, (w3.alloc o).cell? ⟨w.heap.size + 1 + 1, 1, none⟩ = some (.slice none 0 0) := fun o => (blk_cell (blk_alloc kR3 o) 1).trans rfl
  have hrf : ∀ o i, (w3.alloc o).frozen? ⟨w.heap.size + 1 + 1, i, none⟩ = false := fun o i => blk_frozen (blk_alloc kR3 o) i
  cases hlt : decide (ver < low) with
  | true =>
   obtain ⟨rfl, rfl, rfl⟩ : 0 = r1 ∧ [] = r2 ∧ 7 = r3 := by have := hH.out; rw [if_pos (of_decide_eq_true hlt)] at this; simpa using this
   gi_wp2
   have kR4 := blk_put (blk_put (blk_alloc kR3 (.cells #[.int .i64 ver, .slice none 0 0] 43 (0, 0))) 0 (.int .i64 0) rfl) 1 (.slice none 0 0) rfl
   have hB4 := below_set (j := 1) (v := .slice none 0 0) (below_set (g := w.heap.size + 1 + 1) (j := 0) (v := .int .i64 0) (below_alloc hB3 (.cells #[.int .i64 ver, .slice none 0 0] 43 (0, 0))) (by omega)) (g := w.heap.size + 1 + 1) (by omega)
   refine ⟨_, results_ct rfl _ _ (w.heap.size + 1 + 1) 43 #[.int .i64 0, .slice none 0 0] (0, 0) _ rfl kR4 Try.underlying43 rfl (by kernel_rfl), ?_⟩
   exact ⟨_, rfl, Kd.R_nil _ _ _ _ _, hB4⟩
  | false =>
  have hH2 := hH.out
  rw [if_neg (of_decide_eq_false hlt)] at hH2
  have hguard : (bothL l0_2 l1_2).length * 24 ≤ 140737488355328 := by
   by_cases hg : (bothL l0_2 l1_2).length * 24 ≤ 140737488355328
   ·exact hg
   ·rw [if_neg hg] at hH2; cases hH2
  rw [if_pos hguard] at hH2
  obtain ⟨rfl, rfl, rfl⟩ : ver = r1 ∧ dealL (bothL l0_2 l1_2) = r2 ∧ 0 = r3 := by simpa using hH2
  clear hH hH2
  have HG := Aside0.mk hguard
  clear hguard
  gi_wp2
  refine ⟨trivial, ?_⟩
  refine (callsIn_wide.2 (both_calls A0_2 A1_2 l0_2.length l1_2.length c0_2 c1_2 _)).mono ?_
  rintro e w5 ⟨rfl, rfl⟩
  have t1 : (w3.alloc (.cells #[.int .i64 ver, .slice none 0 0] 43 (0, 0))).heap.size = w3.heap.size + 1 := by simp
  have t2 : ((w3.alloc (.cells #[.int .i64 ver, .slice none 0 0] 43 (0, 0))).alloc (.cells #[.slice A0_2 l0_2.length c0_2] 41 (0, 0))).heap.size = w3.heap.size + 1 + 1 := by simp
  have kD := blk_alloc (blk_alloc (blk_new w3 (.cells #[.int .i64 ver, .slice none 0 0] 43 (0, 0))) (.cells #[.slice A0_2 l0_2.length c0_2] 41 (0, 0))) (.cells #[.slice A1_2 l1_2.length c1_2] 41 (0, 0))
  have kb1 := blk_alloc (blk_new (w3.alloc (.cells #[.int .i64 ver, .slice none 0 0] 43 (0, 0))) (.cells #[.slice A0_2 l0_2.length c0_2] 41 (0, 0))) (.cells #[.slice A1_2 l1_2.length c1_2] 41 (0, 0))
  have kb2 := blk_new ((w3.alloc (.cells #[.int .i64 ver, .slice none 0 0] 43 (0, 0))).alloc (.cells #[.slice A0_2 l0_2.length c0_2] 41 (0, 0))) (.cells #[.slice A1_2 l1_2.length c1_2] 41 (0, 0))
  have kR5 := blk_alloc (blk_alloc (blk_alloc kR3 (.cells #[.int .i64 ver, .slice none 0 0] 43 (0, 0))) (.cells #[.slice A0_2 l0_2.length c0_2] 41 (0, 0))) (.cells #[.slice A1_2 l1_2.length c1_2] 41 (0, 0))
  have hB5 := below_alloc (below_alloc (below_alloc hB3 (.cells #[.int .i64 ver, .slice none 0 0] 43 (0, 0))) (.cells #[.slice A0_2 l0_2.length c0_2] 41 (0, 0))) (.cells #[.slice A1_2 l1_2.length c1_2] 41 (0, 0))
  rw [t1] at kb1
  rw [t2] at kb2
  have hw3 : w.heap.size + 1 + 1 < w3.heap.size := blk_lt kR3
  clear hz0 hz2 hy0 hy2 hr0 hr1 hrf hver hlow hver' hlow' ha0 ha1 ha2 hb0 hb1 hb2 hcr hcr1 hfr hfr1 kA3 kB3 kR3 hlt
  gi_wp2
  have t3 : (((w3.alloc (.cells #[.int .i64 ver, .slice none 0 0] 43 (0, 0))).alloc (.cells #[.slice A0_2 l0_2.length c0_2] 41 (0, 0))).alloc (.cells #[.slice A1_2 l1_2.length c1_2] 41 (0, 0))).heap.size = w3.heap.size + 1 + 1 + 1 := by simp
  generalize ((w3.alloc (.cells #[.int .i64 ver, .slice none 0 0] 43 (0, 0))).alloc (.cells #[.slice A0_2 l0_2.length c0_2] 41 (0, 0))).alloc (.cells #[.slice A1_2 l1_2.length c1_2] 41 (0, 0)) = w6 at kD kb1 kb2 kR5 hB5 t3 ⊢
  generalize w3.heap.size = bd at kD kb1 kb2 hw3 t1 t2 t3 ⊢
  have hS6 : ∀ k, (k = bd + 1 ∨ k = bd + 1 + 1) → k < w6.heap.size := by intro k hk; omega
  refine range_law (n := 7) (lb := #[.pointer (some ⟨bd + 1, 0, none⟩), .pointer (some ⟨bd + 1 + 1, 0, none⟩)]) rfl (fun args w => rfl) (encs := fun x : S104 => #[.agg #[.string x.f0, .int .i64 x.f1]]) (fun _ => rfl) w.heap.size (by omega) (fun k => k = bd + 1 ∨ k = bd + 1 + 1) hS6 (bothL l0_2 l1_2) ?hiter
   (fun pre W => ∃ v, W.heap[bd]? = some (.cells #[.int .i64 ver, v] 43 (0, 0)) ∧ Kd.R k104 104 W w.heap.size (fun k => k ≠ w.heap.size + 1 + 1 ∧ k ≠ bd ∧ k ≠ bd + 1 ∧ k ≠ bd + 1 + 1 ∧ k ≠ w6.heap.size ∧ k ≠ w6.heap.size + 1) v (dealL pre) ∧
    (dealL pre).length ≤ pre.length ∧ W.heap[w.heap.size + 1 + 1]? = some (.cells #[.int .i64 0, .slice none 0 0] 43 (0, 0)) ∧ Below w.heap.size w W)
   ?hI ⟨_, kD, Kd.R_nil _ _ _ _ _, Nat.le_refl _, kR5, hB5⟩ ?hround ?hdone
  case hiter =>
   intro W1 hb l J hJ hY h0
   exact both_lit 7 l (bd + 1) (bd + 1 + 1) J l0_2 l1_2 A0_2 A1_2 c0_2 c1_2 w W1 hJ (fun pre x W hpx hj => by
    obtain ⟨fn, tmps, asg, bo, h1, h2⟩ := hY pre x W hpx hj
    exact ⟨fn, tmps, asg, bo, h1, h2.mono fun e W' hh => ⟨hh.1, hh.2.1, hh.2.2.1, hh.2.2.2 _ (.inl rfl), hh.2.2.2 _ (.inr rfl)⟩⟩)
    (by omega) (by omega) (by omega) hr0_2 hc0_2 hr1_2 hc1_2 (blk_below kb1 hb) (blk_below kb2 hb) h0 (hB5.trans (hb.mono hB5.size))
  case hI =>
   rintro pre W1 W2 ⟨v, h1, h2, h3, h4, h5⟩ hb hk
   exact ⟨v, blk_kept h1 hk (by omega), Kd.R_kept h2 hk (by intro k hk; omega), h3, blk_kept h4 hk (by omega), h5.trans hb⟩
  case hround =>
   rintro pre x W hpx ⟨v, h1, h2, h3, h4, h5⟩ hlt
   have hlen : pre.length + 1 ≤ (bothL l0_2 l1_2).length := by
    obtain ⟨r, hr⟩ := hpx
    rw [← hr]
    simp
   gi_wp2
   refine ⟨(Below.refl w.heap.size W).alloc (by omega) _, fun k hk => Below.heap_alloc W _ k (by omega), fun o => ?_⟩
   have q1 : ((W.alloc (.cells #[.string x.f0, .int .i64 x.f1] 104 (0, 0))).putObj (w6.heap.size + 1) o).heap[bd]? = _ := (World.putObj_heap_other (by omega)).trans (blk_alloc h1 (.cells #[.string x.f0, .int .i64 x.f1] 104 (0, 0)))
   have qr : ((W.alloc (.cells #[.string x.f0, .int .i64 x.f1] 104 (0, 0))).putObj (w6.heap.size + 1) o).heap[w.heap.size + 1 + 1]? = _ := (World.putObj_heap_other (by omega)).trans (blk_alloc h4 (.cells #[.string x.f0, .int .i64 x.f1] 104 (0, 0)))
   have qx : ((W.alloc (.cells #[.string x.f0, .int .i64 x.f1] 104 (0, 0))).putObj (w6.heap.size + 1) o).heap[W.heap.size]? = _ := (World.putObj_heap_other (by omega)).trans (blk_new W (.cells #[.string x.f0, .int .i64 x.f1] 104 (0, 0)))
   have q2 := Kd.R_kept (Kd.R_bound (Kd.R_alloc h2 (.cells #[.string x.f0, .int .i64 x.f1] 104 (0, 0)))) (kept_putObj (W.alloc (.cells #[.string x.f0, .int .i64 x.f1] 104 (0, 0))) (w6.heap.size + 1) o (fun k => k = w6.heap.size + 1) rfl) (by intro k hk; omega)
   have q2' := Kd.R_mono (ok' := fun k => k ≠ w.heap.size + 1 + 1 ∧ k ≠ bd ∧ k ≠ bd + 1 ∧ k ≠ bd + 1 + 1 ∧ k ≠ w6.heap.size ∧ k ≠ w6.heap.size + 1) q2 (fun k hk => hk.1)
   have q5 : Below w.heap.size w ((W.alloc (.cells #[.string x.f0, .int .i64 x.f1] 104 (0, 0))).putObj (w6.heap.size + 1) o) := (below_alloc h5 _).trans (below_putObj _ _ _ (by omega))
   have qs : W.heap.size < ((W.alloc (.cells #[.string x.f0, .int .i64 x.f1] 104 (0, 0))).putObj (w6.heap.size + 1) o).heap.size := by simp
   clear q2 h1 h2 h4 h5
   generalize (W.alloc (.cells #[.string x.f0, .int .i64 x.f1] 104 (0, 0))).putObj (w6.heap.size + 1) o = W7 at q1 qr qx q2' q5 qs ⊢
   obtain ⟨acc, hacc⟩ : ∃ acc, dealL pre = acc := ⟨_, rfl⟩
   have hdl : dealL (pre ++ [x]) = addCap acc x := by rw [dealL_snoc, hacc]
   rw [hacc] at q2' h3
   have hl2 : (addCap acc x).length ≤ (pre ++ [x]).length := by have := addCap_len acc x; simp; omega
   obtain ⟨Av, cv, rfl, hlv, hCv⟩ := Kd.R_reads q2'
   have hc1 : W7.cell? ⟨bd, 1, none⟩ = some (.slice Av acc.length cv) := (blk_cell q1 1).trans rfl
   have hf1 := blk_frozen q1 1
   have hx0 : W7.cell? ⟨W.heap.size, 0, none⟩ = some (.string x.f0) := (blk_cell qx 0).trans rfl
   have hx1 : W7.cell? ⟨W.heap.size, 1, none⟩ = some (.int .i64 x.f1) := (blk_cell qx 1).trans rfl
   obtain ⟨li, hli⟩ : ∃ li, (acc.length : Int) - 1 = li := ⟨_, rfl⟩
   have hmax : acc.length ≤ 9223372036854775807 := Kd.C_max hCv
   have hwl : wrap64 ((acc.length : Int) - 1) = li := by rw [← hli]; unfold wrap64; omega
   have HL := Aside0.mk hli
   clear hli
   gi_wp2
   rw [HL.out]
   clear hwl
   replace q1 : W7.drew.heap[bd]? = _ := q1
   replace qr : W7.drew.heap[w.heap.size + 1 + 1]? = _ := qr
   replace qx : W7.drew.heap[W.heap.size]? = _ := qx
   replace q2' := Kd.R_drew q2'
   replace q5 : Below w.heap.size w W7.drew := below_drew q5
   replace qs : W.heap.size < W7.drew.heap.size := qs
   replace hc1 : W7.drew.cell? ⟨bd, 1, none⟩ = _ := hc1
   replace hf1 : W7.drew.frozen? ⟨bd, 1, none⟩ = _ := hf1
   replace hx0 : W7.drew.cell? ⟨W.heap.size, 0, none⟩ = _ := hx0
   replace hx1 : W7.drew.cell? ⟨W.heap.size, 1, none⟩ = _ := hx1
   replace hCv := Kd.C_drew hCv
   have b78 : Below w.heap.size W7 W7.drew := below_drew (Below.refl _ _)
   have h78 : ∀ k : Nat, W7.drew.heap[k]? = W7.heap[k]? := fun _ => rfl
   cases d0 : decide (0 ≤ li) with
   | false =>
    refine region_draw_rd (ro := some (w6.heap.size + 1)) (n := 7) (m := 13) (S := fun w' => w'.cell? ⟨bd, 1, none⟩ = some (.slice Av acc.length cv)) (ds := []) ?hL (by kernel_rfl) #[false, false, false, false, false, false, false, false, false, false, false, false, false] (by kernel_rfl) rfl rfl hc1 (fun hHeld => ?_)
    case hL => rintro ⟨_, _, h⟩; exact h
    refine with_tabW agree_tab agree_bits (fun HT_ HW_ => ?_)
    generalize W7.drew = W8 at q1 qr qx q2' q5 qs hc1 hf1 hx0 hx1 hCv b78 h78 hHeld ⊢
    refine pure_ (i := 0) (N := some 43) (v := ?_) (a' := ?_) #[true, false, false, false, false, false, false, false, false, false, false, false, false] rfl rfl (any_of HT_.out (by kernel_rfl)) (fun _ _ _ h => h) (Or.inl ⟨by rfl, ?_⟩) ?_ ?_
    rotate_left
    ·intro w'
     go_simp
     with_reducible rfl
    rotate_left
    ·simp only [Act.put, List.setIfInBounds_toArray, List.set_cons_zero, List.set_cons_succ, i64_w, i32_w]
     rfl
    refine pure_ (i := 1) (N := some 44) (v := ?_) (a' := ?_) #[true, true, false, false, false, false, false, false, false, false, false, false, false] rfl rfl (any_of HT_.out (by kernel_rfl)) (fun _ _ _ h => h) (Or.inl ⟨by rfl, ?_⟩) ?_ ?_
    rotate_left
    ·intro w'
     go_simp
     with_reducible rfl
    rotate_left
    ·simp only [Act.put, List.setIfInBounds_toArray, List.set_cons_zero, List.set_cons_succ, i64_w, i32_w]
     rfl
    refine pure_ (i := 2) (N := some 45) (v := ?_) (a' := ?_) #[true, true, true, false, false, false, false, false, false, false, false, false, false] rfl rfl (any_of HT_.out (by kernel_rfl)) (fun _ _ _ h => h) (Or.inl ⟨by rfl, ?_⟩) ?_ ?_
    rotate_left
    ·intro w'
     go_simp
     with_reducible rfl
    rotate_left
    ·simp only [Act.put, List.setIfInBounds_toArray, List.set_cons_zero, List.set_cons_succ, i64_w, i32_w]
     rfl
    refine pure_ (i := 3) (N := some 46) (v := undef) (a' := ?_) #[true, true, true, true, false, false, false, false, false, false, false, false, false] rfl rfl (any_of HT_.out (by kernel_rfl)) (fun _ _ _ h => h) (Or.inr ⟨by rfl, rfl⟩) ?_ ?_
    rotate_left
    ·simp only [Act.put, List.setIfInBounds_toArray, List.set_cons_zero, List.set_cons_succ, i64_w, i32_w]
     rfl
    refine pure_ (i := 4) (N := some 47) (v := undef) (a' := ?_) #[true, true, true, true, true, false, false, false, false, false, false, false, false] rfl rfl (any_of HT_.out (by kernel_rfl)) (fun _ _ _ h => h) (Or.inr ⟨by rfl, rfl⟩) ?_ ?_
    rotate_left
    ·simp only [Act.put, List.setIfInBounds_toArray, List.set_cons_zero, List.set_cons_succ, i64_w, i32_w]
     rfl
    refine pure_ (i := 5) (N := some 48) (v := undef) (a' := ?_) #[true, true, true, true, true, true, false, false, false, false, false, false, false] rfl rfl (any_of HT_.out (by kernel_rfl)) (fun _ _ _ h => h) (Or.inr ⟨by rfl, rfl⟩) ?_ ?_
    rotate_left
    ·simp only [Act.put, List.setIfInBounds_toArray, List.set_cons_zero, List.set_cons_succ, i64_w, i32_w]
     rfl
    refine pure_ (i := 6) (N := some 49) (v := undef) (a' := ?_) #[true, true, true, true, true, true, true, false, false, false, false, false, false] rfl rfl (any_of HT_.out (by kernel_rfl)) (fun _ _ _ h => h) (Or.inr ⟨by rfl, rfl⟩) ?_ ?_
    rotate_left
    ·simp only [Act.put, List.setIfInBounds_toArray, List.set_cons_zero, List.set_cons_succ, i64_w, i32_w]
     rfl
    refine pure_ (i := 7) (N := some 50) (v := undef) (a' := ?_) #[true, true, true, true, true, true, true, true, false, false, false, false, false] rfl rfl (any_of HT_.out (by kernel_rfl)) (fun _ _ _ h => h) (Or.inr ⟨by rfl, rfl⟩) ?_ ?_
    rotate_left
    ·simp only [Act.put, List.setIfInBounds_toArray, List.set_cons_zero, List.set_cons_succ, i64_w, i32_w]
     rfl
    refine pure_ (i := 8) (N := some 51) (v := undef) (a' := ?_) #[true, true, true, true, true, true, true, true, true, false, false, false, false] rfl rfl (any_of HT_.out (by kernel_rfl)) (fun _ _ _ h => h) (Or.inr ⟨by rfl, rfl⟩) ?_ ?_
    rotate_left
    ·simp only [Act.put, List.setIfInBounds_toArray, List.set_cons_zero, List.set_cons_succ, i64_w, i32_w]
     rfl
    refine pure_ (i := 9) (N := some 52) (v := undef) (a' := ?_) #[true, true, true, true, true, true, true, true, true, true, false, false, false] rfl rfl (any_of HT_.out (by kernel_rfl)) (fun _ _ _ h => h) (Or.inr ⟨by rfl, rfl⟩) ?_ ?_
    rotate_left
    ·simp only [Act.put, List.setIfInBounds_toArray, List.set_cons_zero, List.set_cons_succ, i64_w, i32_w]
     rfl
    refine pure_ (i := 10) (N := some 53) (v := undef) (a' := ?_) #[true, true, true, true, true, true, true, true, true, true, true, false, false] rfl rfl (any_of HT_.out (by kernel_rfl)) (fun _ _ _ h => h) (Or.inr ⟨by rfl, rfl⟩) ?_ ?_
    rotate_left
    ·simp only [Act.put, List.setIfInBounds_toArray, List.set_cons_zero, List.set_cons_succ, i64_w, i32_w]
     rfl
    refine pure_ (i := 11) (N := some 54) (v := undef) (a' := ?_) #[true, true, true, true, true, true, true, true, true, true, true, true, false] rfl rfl (any_of HT_.out (by kernel_rfl)) (fun _ _ _ h => h) (Or.inr ⟨by rfl, rfl⟩) ?_ ?_
    rotate_left
    ·simp only [Act.put, List.setIfInBounds_toArray, List.set_cons_zero, List.set_cons_succ, i64_w, i32_w]
     rfl
    refine pure_ (i := 12) (N := some 55) (v := ?_) (a' := ?_) #[true, true, true, true, true, true, true, true, true, true, true, true, true] rfl rfl (any_of HT_.out (by kernel_rfl)) (fun _ _ _ h => h) (Or.inl ⟨by rfl, ?_⟩) ?_ ?_
    rotate_left
    ·intro w'
     go_simp
     with_reducible rfl
    rotate_left
    ·simp only [Act.put, List.setIfInBounds_toArray, List.set_cons_zero, List.set_cons_succ, i64_w, i32_w]
     rfl
    refine done_ (done_of HT_.out (by kernel_rfl)) ?_
    clear HT_ HW_ hHeld
    have hac : addCap acc x = acc ++ [x] := by
     unfold addCap
     rw [if_neg (fun h => by rw [HL.out] at h; exact of_decide_eq_false d0 h.1)]
    rw [hac] at hdl hl2
    gi_wp2_with (first | (gi_at_builtin; refine wpListIn_of (ro := some (w6.heap.size + 1)) (by rintro ⟨_, _, h⟩; exact h) _ _ _ (by kernel_rfl) ?_; refine Kd.R_append k104 (w0 := w) w.heap.size rfl (.tmp 62) (.tmp 64) 41 104 (.agg #[(.string ⟨#[]⟩), (.int .i64 0)]) 24 rfl Try.underlying41 info104 rfl (by decide) (by omega) (.slice Av acc.length cv) acc x [.string x.f0, .int .i64 x.f1] (fun k => k ≠ w.heap.size + 1 + 1 ∧ k ≠ bd ∧ k ≠ bd + 1 ∧ k ≠ bd + 1 + 1 ∧ k ≠ w6.heap.size ∧ k ≠ w6.heap.size + 1) (fun _ => False) rfl rfl ?aP (fun _ hk => hk.elim) ?aF ?aO ?aB ?aS ?aL ?_))
    case aP => exact k104_mkM _ _ _ x
    case aF => intro k hk; omega
    case aO => exact Kd.R_mono q2' (fun k hk => by omega)
    try (case aB => exact q5)
    try (case aS => exact q5.size)
    case aL => have := HG.out; have := hlen; omega
    intro v1 W9 ho hb9 hg9 hat
    obtain ⟨A1, c1, rfl, hl1, hC1⟩ := Kd.R_reads ho
    have hgk : ∀ k : Nat, k < W8.heap.size → (∀ j, (Value.slice Av acc.length cv).ownBlock = some j → j ≠ k) → W9.heap[k]? = W8.heap[k]? := fun k hk hj => hg9.block k hk (fun e => hj k e.symm rfl)
    have r1 := (hgk bd (blk_lt q1) (fun j hj e => (q2'.1 j hj).2.1 e)).trans q1
    have rr := (hgk (w.heap.size + 1 + 1) (blk_lt qr) (fun j hj e => (q2'.1 j hj).1 e)).trans qr
    have hk9 : ∀ k : Nat, (k = bd + 1 ∨ k = bd + 1 + 1) ∨ k = w6.heap.size ∨ k = w6.heap.size + 1 → W9.heap[k]? = W7.heap[k]? := fun k hk =>
     (hgk k (by omega) (fun j hj e => by have := q2'.1 j hj; omega)).trans (h78 k)
    have hb79 : Below w.heap.size W7 W9 := b78.trans ⟨hg9.os, hg9.tape, hg9.output, hg9.size, fun k hk => hgk k (by omega) (fun j hj e => by
     have := (Kd.R_bound q2').1 j hj
     omega)⟩
    have s1 : W9.cell? ⟨bd, 1, none⟩ = some (.slice Av acc.length cv) := (blk_cell r1 1).trans rfl
    have s2 := blk_frozen r1 1
    go_wp2
    refine ⟨hb79.trans ((Below.refl _ W9).setCell (p := ⟨bd, 1, none⟩) (by show w.heap.size ≤ bd; omega) _), fun k hk => (Below.heap_setCell W9 ⟨bd, 1, none⟩ _ k (by show k ≠ bd; omega)).trans (hk9 k hk), ?_⟩
    refine ⟨_, blk_put r1 1 _ rfl, ?_, ?_, blk_far rr (p := ⟨bd, 1, none⟩) (by show w.heap.size + 1 + 1 ≠ bd; omega) _, below_set hb9 (by omega)⟩
    ·rw [hdl]
     have hl9 : (acc ++ [x]).length = acc.length + 1 := by simp
     rw [hl9] at ho
     exact Kd.R_far (p := ⟨bd, 1, none⟩) (Kd.R_mono (ok' := (fun k => k ≠ w.heap.size + 1 + 1 ∧ k ≠ bd ∧ k ≠ bd + 1 ∧ k ≠ bd + 1 + 1 ∧ k ≠ w6.heap.size ∧ k ≠ w6.heap.size + 1)) ho (fun k hk => by omega)) (fun k hk => hk.2.1) _
    ·rw [hdl]; exact hl2
   | true =>
    have hp0 : 0 ≤ li := of_decide_eq_true d0
    have hq0 : li < (acc.length : Int) := by have := HL.out; omega
    obtain ⟨g, cap, hv, hgb, hgs, gcells, hgc⟩ := Kd.R_form q2' (by omega)
    injection hv with hv1 hv2 hv3
    subst hv1
    subst hv3
    obtain ⟨ad, ead, he0, he1⟩ := at_T104 hCv li hp0 hq0
    obtain rfl : (⟨g, 0, none⟩ : Addr) = ad := Option.some.inj ead
    have haz : ∀ n : Nat, (⟨g, 0, none⟩ : Addr).add n = ⟨g, n, none⟩ := fun n => by cases n <;> simp [Addr.add]
    rw [haz] at he0 he1
    have hp : (0 ≤ li) = True := eq_true hp0
    have hq : (li < (acc.length : Int)) = True := eq_true hq0
    cases d1 : ((rd_T104 acc li).f0.toList == x.f0.toList) with
    | false =>
     refine region_draw_rd (ro := some (w6.heap.size + 1)) (n := 7) (m := 13) (S := fun w' => w'.cell? ⟨bd, 1, none⟩ = some (.slice (some ⟨g, 0, none⟩) acc.length cv) ∧ w'.cell? ⟨g, li.toNat * 2, none⟩ = some (.string (rd_T104 acc li).f0) ∧ w'.cell? ⟨W.heap.size, 0, none⟩ = some (.string x.f0)) (ds := []) ?hL (by kernel_rfl) #[false, false, false, false, false, false, false, false, false, false, false, false, false] (by kernel_rfl) rfl rfl ⟨hc1, he0, hx0⟩ (fun hHeld => ?_)
     case hL => rintro ⟨_, _, h⟩; exact h
     refine with_tabW agree_tab agree_bits (fun HT_ HW_ => ?_)
     generalize W7.drew = W8 at q1 qr qx q2' q5 qs hc1 hf1 hx0 hx1 hCv b78 h78 he0 he1 hgc hHeld ⊢
     refine pure_ (i := 0) (N := some 43) (v := ?_) (a' := ?_) #[true, false, false, false, false, false, false, false, false, false, false, false, false] rfl rfl (any_of HT_.out (by kernel_rfl)) (fun _ _ _ h => h) (Or.inl ⟨by rfl, ?_⟩) ?_ ?_
     rotate_left
     ·intro w'
      go_simp
      with_reducible rfl
     rotate_left
     ·simp only [Act.put, List.setIfInBounds_toArray, List.set_cons_zero, List.set_cons_succ, i64_w, i32_w]
      rfl
     refine pure_ (i := 1) (N := some 44) (v := ?_) (a' := ?_) #[true, true, false, false, false, false, false, false, false, false, false, false, false] rfl rfl (any_of HT_.out (by kernel_rfl)) (fun _ _ _ h => h) (Or.inl ⟨by rfl, ?_⟩) ?_ ?_
     rotate_left
     ·intro w'
      go_simp
      with_reducible rfl
     rotate_left
     ·simp only [Act.put, List.setIfInBounds_toArray, List.set_cons_zero, List.set_cons_succ, i64_w, i32_w]
      rfl
     refine pure_ (i := 2) (N := some 45) (v := ?_) (a' := ?_) #[true, true, true, false, false, false, false, false, false, false, false, false, false] rfl rfl (any_of HT_.out (by kernel_rfl)) (fun _ _ _ h => h) (Or.inl ⟨by rfl, ?_⟩) ?_ ?_
     rotate_left
     ·intro w'
      go_simp
      with_reducible rfl
     rotate_left
     ·simp only [Act.put, List.setIfInBounds_toArray, List.set_cons_zero, List.set_cons_succ, i64_w, i32_w]
      rfl
     refine pure_ (i := 3) (N := some 46) (v := ?_) (a' := ?_) #[true, true, true, true, false, false, false, false, false, false, false, false, false] rfl rfl (any_of HT_.out (by kernel_rfl)) (fun _ _ _ h => h) (Or.inl ⟨by rfl, ?_⟩) ?_ ?_
     rotate_left
     ·intro w'
      go_simp
      with_reducible rfl
     rotate_left
     ·simp only [Act.put, List.setIfInBounds_toArray, List.set_cons_zero, List.set_cons_succ, i64_w, i32_w]
      rfl
     refine take_ (i := 4) (N := some 47) (v := ?_) (a' := ?_) #[true, true, true, true, true, false, false, false, false, false, false, false, false] rfl rfl (take_ofW HT_.out HW_.out (by kernel_rfl)) (fun _ _ _ h => h) (Or.inl ⟨by rfl, ?_⟩) hHeld ?_ ?_
     rotate_left
     ·rintro w' ⟨s0, s1, s2⟩
      go_simp
      with_reducible rfl
     rotate_left
     ·simp only [Act.put, List.setIfInBounds_toArray, List.set_cons_zero, List.set_cons_succ, i64_w, i32_w]
      rfl
     refine pure_ (i := 5) (N := some 48) (v := ?_) (a' := ?_) #[true, true, true, true, true, true, false, false, false, false, false, false, false] rfl rfl (any_of HT_.out (by kernel_rfl)) (fun _ _ _ h => h) (Or.inl ⟨by rfl, ?_⟩) ?_ ?_
     rotate_left
     ·intro w'
      go_simp
      with_reducible rfl
     rotate_left
     ·simp only [Act.put, List.setIfInBounds_toArray, List.set_cons_zero, List.set_cons_succ, i64_w, i32_w]
      rfl
     refine pure_ (i := 6) (N := some 49) (v := ?_) (a' := ?_) #[true, true, true, true, true, true, true, false, false, false, false, false, false] rfl rfl (any_of HT_.out (by kernel_rfl)) (fun _ _ _ h => h) (Or.inl ⟨by rfl, ?_⟩) ?_ ?_
     rotate_left
     ·intro w'
      go_simp
      with_reducible rfl
     rotate_left
     ·simp only [Act.put, List.setIfInBounds_toArray, List.set_cons_zero, List.set_cons_succ, i64_w, i32_w]
      rfl
     refine pure_ (i := 7) (N := some 50) (v := ?_) (a' := ?_) #[true, true, true, true, true, true, true, true, false, false, false, false, false] rfl rfl (any_of HT_.out (by kernel_rfl)) (fun _ _ _ h => h) (Or.inl ⟨by rfl, ?_⟩) ?_ ?_
     rotate_left
     ·intro w'
      go_simp
      with_reducible rfl
     rotate_left
     ·simp only [Act.put, List.setIfInBounds_toArray, List.set_cons_zero, List.set_cons_succ, i64_w, i32_w]
      rfl
     refine take_ (i := 8) (N := some 51) (v := ?_) (a' := ?_) #[true, true, true, true, true, true, true, true, true, false, false, false, false] rfl rfl (take_ofW HT_.out HW_.out (by kernel_rfl)) (fun _ _ _ h => h) (Or.inl ⟨by rfl, ?_⟩) hHeld ?_ ?_
     rotate_left
     ·rintro w' ⟨s0, s1, s2⟩
      go_simp
      with_reducible rfl
     rotate_left
     ·simp only [Act.put, List.setIfInBounds_toArray, List.set_cons_zero, List.set_cons_succ, i64_w, i32_w]
      rfl
     refine pure_ (i := 9) (N := some 52) (v := ?_) (a' := ?_) #[true, true, true, true, true, true, true, true, true, true, false, false, false] rfl rfl (any_of HT_.out (by kernel_rfl)) (fun _ _ _ h => h) (Or.inl ⟨by rfl, ?_⟩) ?_ ?_
     rotate_left
     ·intro w'
      go_simp
      with_reducible rfl
     rotate_left
     ·simp only [Act.put, List.setIfInBounds_toArray, List.set_cons_zero, List.set_cons_succ, i64_w, i32_w]
      rfl
     refine take_ (i := 10) (N := some 53) (v := ?_) (a' := ?_) #[true, true, true, true, true, true, true, true, true, true, true, false, false] rfl rfl (take_ofW HT_.out HW_.out (by kernel_rfl)) (fun _ _ _ h => h) (Or.inl ⟨by rfl, ?_⟩) hHeld ?_ ?_
     rotate_left
     ·rintro w' ⟨s0, s1, s2⟩
      go_simp
      with_reducible rfl
     rotate_left
     ·simp only [Act.put, List.setIfInBounds_toArray, List.set_cons_zero, List.set_cons_succ, i64_w, i32_w]
      rfl
     refine pure_ (i := 11) (N := some 54) (v := ?_) (a' := ?_) #[true, true, true, true, true, true, true, true, true, true, true, true, false] rfl rfl (any_of HT_.out (by kernel_rfl)) (fun _ _ _ h => h) (Or.inl ⟨by rfl, ?_⟩) ?_ ?_
     rotate_left
     ·intro w'
      go_simp
      with_reducible rfl
     rotate_left
     ·simp only [Act.put, List.setIfInBounds_toArray, List.set_cons_zero, List.set_cons_succ, i64_w, i32_w]
      rfl
     refine pure_ (i := 12) (N := some 55) (v := ?_) (a' := ?_) #[true, true, true, true, true, true, true, true, true, true, true, true, true] rfl rfl (any_of HT_.out (by kernel_rfl)) (fun _ _ _ h => h) (Or.inl ⟨by rfl, ?_⟩) ?_ ?_
     rotate_left
     ·intro w'
      go_simp
      with_reducible rfl
     rotate_left
     ·simp only [Act.put, List.setIfInBounds_toArray, List.set_cons_zero, List.set_cons_succ, i64_w, i32_w]
      rfl
     refine done_ (done_of HT_.out (by kernel_rfl)) ?_
     clear HT_ HW_ hHeld
     have hac : addCap acc x = acc ++ [x] := by
      unfold addCap
      rw [if_neg (fun h => by rw [HL.out] at h; rw [beq_eq_false_iff_ne] at d1; exact d1 h.2)]
     rw [hac] at hdl hl2
     gi_wp2_with (first | (gi_at_builtin; refine wpListIn_of (ro := some (w6.heap.size + 1)) (by rintro ⟨_, _, h⟩; exact h) _ _ _ (by kernel_rfl) ?_; refine Kd.R_append k104 (w0 := w) w.heap.size rfl (.tmp 62) (.tmp 64) 41 104 (.agg #[(.string ⟨#[]⟩), (.int .i64 0)]) 24 rfl Try.underlying41 info104 rfl (by decide) (by omega) (.slice (some ⟨g, 0, none⟩) acc.length cv) acc x [.string x.f0, .int .i64 x.f1] (fun k => k ≠ w.heap.size + 1 + 1 ∧ k ≠ bd ∧ k ≠ bd + 1 ∧ k ≠ bd + 1 + 1 ∧ k ≠ w6.heap.size ∧ k ≠ w6.heap.size + 1) (fun _ => False) rfl rfl ?aP (fun _ hk => hk.elim) ?aF ?aO ?aB ?aS ?aL ?_))
     case aP => exact k104_mkM _ _ _ x
     case aF => intro k hk; omega
     case aO => exact Kd.R_mono q2' (fun k hk => by omega)
     try (case aB => exact q5)
     try (case aS => exact q5.size)
     case aL => have := HG.out; have := hlen; omega
     intro v1 W9 ho hb9 hg9 hat
     obtain ⟨A1, c1, rfl, hl1, hC1⟩ := Kd.R_reads ho
     have hgk : ∀ k : Nat, k < W8.heap.size → (∀ j, (Value.slice (some ⟨g, 0, none⟩) acc.length cv).ownBlock = some j → j ≠ k) → W9.heap[k]? = W8.heap[k]? := fun k hk hj => hg9.block k hk (fun e => hj k e.symm rfl)
     have r1 := (hgk bd (blk_lt q1) (fun j hj e => (q2'.1 j hj).2.1 e)).trans q1
     have rr := (hgk (w.heap.size + 1 + 1) (blk_lt qr) (fun j hj e => (q2'.1 j hj).1 e)).trans qr
     have hk9 : ∀ k : Nat, (k = bd + 1 ∨ k = bd + 1 + 1) ∨ k = w6.heap.size ∨ k = w6.heap.size + 1 → W9.heap[k]? = W7.heap[k]? := fun k hk =>
      (hgk k (by omega) (fun j hj e => by have := q2'.1 j hj; omega)).trans (h78 k)
     have hb79 : Below w.heap.size W7 W9 := b78.trans ⟨hg9.os, hg9.tape, hg9.output, hg9.size, fun k hk => hgk k (by omega) (fun j hj e => by
      have := (Kd.R_bound q2').1 j hj
      omega)⟩
     have s1 : W9.cell? ⟨bd, 1, none⟩ = some (.slice (some ⟨g, 0, none⟩) acc.length cv) := (blk_cell r1 1).trans rfl
     have s2 := blk_frozen r1 1
     go_wp2
     refine ⟨hb79.trans ((Below.refl _ W9).setCell (p := ⟨bd, 1, none⟩) (by show w.heap.size ≤ bd; omega) _), fun k hk => (Below.heap_setCell W9 ⟨bd, 1, none⟩ _ k (by show k ≠ bd; omega)).trans (hk9 k hk), ?_⟩
     refine ⟨_, blk_put r1 1 _ rfl, ?_, ?_, blk_far rr (p := ⟨bd, 1, none⟩) (by show w.heap.size + 1 + 1 ≠ bd; omega) _, below_set hb9 (by omega)⟩
     ·rw [hdl]
      have hl9 : (acc ++ [x]).length = acc.length + 1 := by simp
      rw [hl9] at ho
      exact Kd.R_far (p := ⟨bd, 1, none⟩) (Kd.R_mono (ok' := (fun k => k ≠ w.heap.size + 1 + 1 ∧ k ≠ bd ∧ k ≠ bd + 1 ∧ k ≠ bd + 1 + 1 ∧ k ≠ w6.heap.size ∧ k ≠ w6.heap.size + 1)) ho (fun k hk => by omega)) (fun k hk => hk.2.1) _
     ·rw [hdl]; exact hl2
    | true =>
     refine region_draw_rd (ro := some (w6.heap.size + 1)) (n := 7) (m := 13) (S := fun w' => w'.cell? ⟨bd, 1, none⟩ = some (.slice (some ⟨g, 0, none⟩) acc.length cv) ∧ w'.cell? ⟨g, li.toNat * 2, none⟩ = some (.string (rd_T104 acc li).f0) ∧ w'.cell? ⟨W.heap.size, 0, none⟩ = some (.string x.f0)) (ds := []) ?hL (by kernel_rfl) #[false, false, false, false, false, false, false, false, false, false, false, false, false] (by kernel_rfl) rfl rfl ⟨hc1, he0, hx0⟩ (fun hHeld => ?_)
     case hL => rintro ⟨_, _, h⟩; exact h
     refine with_tabW agree_tab agree_bits (fun HT_ HW_ => ?_)
     generalize W7.drew = W8 at q1 qr qx q2' q5 qs hc1 hf1 hx0 hx1 hCv b78 h78 he0 he1 hgc hHeld ⊢
     refine pure_ (i := 0) (N := some 43) (v := ?_) (a' := ?_) #[true, false, false, false, false, false, false, false, false, false, false, false, false] rfl rfl (any_of HT_.out (by kernel_rfl)) (fun _ _ _ h => h) (Or.inl ⟨by rfl, ?_⟩) ?_ ?_
     rotate_left
     ·intro w'
      go_simp
      with_reducible rfl
     rotate_left
     ·simp only [Act.put, List.setIfInBounds_toArray, List.set_cons_zero, List.set_cons_succ, i64_w, i32_w]
      rfl
     refine pure_ (i := 1) (N := some 44) (v := ?_) (a' := ?_) #[true, true, false, false, false, false, false, false, false, false, false, false, false] rfl rfl (any_of HT_.out (by kernel_rfl)) (fun _ _ _ h => h) (Or.inl ⟨by rfl, ?_⟩) ?_ ?_
     rotate_left
     ·intro w'
      go_simp
      with_reducible rfl
     rotate_left
     ·simp only [Act.put, List.setIfInBounds_toArray, List.set_cons_zero, List.set_cons_succ, i64_w, i32_w]
      rfl
     refine pure_ (i := 2) (N := some 45) (v := ?_) (a' := ?_) #[true, true, true, false, false, false, false, false, false, false, false, false, false] rfl rfl (any_of HT_.out (by kernel_rfl)) (fun _ _ _ h => h) (Or.inl ⟨by rfl, ?_⟩) ?_ ?_
     rotate_left
     ·intro w'
      go_simp
      with_reducible rfl
     rotate_left
     ·simp only [Act.put, List.setIfInBounds_toArray, List.set_cons_zero, List.set_cons_succ, i64_w, i32_w]
      rfl
     refine pure_ (i := 3) (N := some 46) (v := ?_) (a' := ?_) #[true, true, true, true, false, false, false, false, false, false, false, false, false] rfl rfl (any_of HT_.out (by kernel_rfl)) (fun _ _ _ h => h) (Or.inl ⟨by rfl, ?_⟩) ?_ ?_
     rotate_left
     ·intro w'
      go_simp
      with_reducible rfl
     rotate_left
     ·simp only [Act.put, List.setIfInBounds_toArray, List.set_cons_zero, List.set_cons_succ, i64_w, i32_w]
      rfl
     refine take_ (i := 4) (N := some 47) (v := ?_) (a' := ?_) #[true, true, true, true, true, false, false, false, false, false, false, false, false] rfl rfl (take_ofW HT_.out HW_.out (by kernel_rfl)) (fun _ _ _ h => h) (Or.inl ⟨by rfl, ?_⟩) hHeld ?_ ?_
     rotate_left
     ·rintro w' ⟨s0, s1, s2⟩
      go_simp
      with_reducible rfl
     rotate_left
     ·simp only [Act.put, List.setIfInBounds_toArray, List.set_cons_zero, List.set_cons_succ, i64_w, i32_w]
      rfl
     refine pure_ (i := 5) (N := some 48) (v := ?_) (a' := ?_) #[true, true, true, true, true, true, false, false, false, false, false, false, false] rfl rfl (any_of HT_.out (by kernel_rfl)) (fun _ _ _ h => h) (Or.inl ⟨by rfl, ?_⟩) ?_ ?_
     rotate_left
     ·intro w'
      go_simp
      with_reducible rfl
     rotate_left
     ·simp only [Act.put, List.setIfInBounds_toArray, List.set_cons_zero, List.set_cons_succ, i64_w, i32_w]
      rfl
     refine pure_ (i := 6) (N := some 49) (v := ?_) (a' := ?_) #[true, true, true, true, true, true, true, false, false, false, false, false, false] rfl rfl (any_of HT_.out (by kernel_rfl)) (fun _ _ _ h => h) (Or.inl ⟨by rfl, ?_⟩) ?_ ?_
     rotate_left
     ·intro w'
      go_simp
      with_reducible rfl
     rotate_left
     ·simp only [Act.put, List.setIfInBounds_toArray, List.set_cons_zero, List.set_cons_succ, i64_w, i32_w]
      rfl
     refine pure_ (i := 7) (N := some 50) (v := ?_) (a' := ?_) #[true, true, true, true, true, true, true, true, false, false, false, false, false] rfl rfl (any_of HT_.out (by kernel_rfl)) (fun _ _ _ h => h) (Or.inl ⟨by rfl, ?_⟩) ?_ ?_
     rotate_left
     ·intro w'
      go_simp
      with_reducible rfl
     rotate_left
     ·simp only [Act.put, List.setIfInBounds_toArray, List.set_cons_zero, List.set_cons_succ, i64_w, i32_w]
      rfl
     refine take_ (i := 8) (N := some 51) (v := ?_) (a' := ?_) #[true, true, true, true, true, true, true, true, true, false, false, false, false] rfl rfl (take_ofW HT_.out HW_.out (by kernel_rfl)) (fun _ _ _ h => h) (Or.inl ⟨by rfl, ?_⟩) hHeld ?_ ?_
     rotate_left
     ·rintro w' ⟨s0, s1, s2⟩
      go_simp
      with_reducible rfl
     rotate_left
     ·simp only [Act.put, List.setIfInBounds_toArray, List.set_cons_zero, List.set_cons_succ, i64_w, i32_w]
      rfl
     refine pure_ (i := 9) (N := some 52) (v := ?_) (a' := ?_) #[true, true, true, true, true, true, true, true, true, true, false, false, false] rfl rfl (any_of HT_.out (by kernel_rfl)) (fun _ _ _ h => h) (Or.inl ⟨by rfl, ?_⟩) ?_ ?_
     rotate_left
     ·intro w'
      go_simp
      with_reducible rfl
     rotate_left
     ·simp only [Act.put, List.setIfInBounds_toArray, List.set_cons_zero, List.set_cons_succ, i64_w, i32_w]
      rfl
     refine take_ (i := 10) (N := some 53) (v := ?_) (a' := ?_) #[true, true, true, true, true, true, true, true, true, true, true, false, false] rfl rfl (take_ofW HT_.out HW_.out (by kernel_rfl)) (fun _ _ _ h => h) (Or.inl ⟨by rfl, ?_⟩) hHeld ?_ ?_
     rotate_left
     ·rintro w' ⟨s0, s1, s2⟩
      go_simp
      with_reducible rfl
     rotate_left
     ·simp only [Act.put, List.setIfInBounds_toArray, List.set_cons_zero, List.set_cons_succ, i64_w, i32_w]
      rfl
     refine pure_ (i := 11) (N := some 54) (v := ?_) (a' := ?_) #[true, true, true, true, true, true, true, true, true, true, true, true, false] rfl rfl (any_of HT_.out (by kernel_rfl)) (fun _ _ _ h => h) (Or.inl ⟨by rfl, ?_⟩) ?_ ?_
     rotate_left
     ·intro w'
      go_simp
      with_reducible rfl
     rotate_left
     ·simp only [Act.put, List.setIfInBounds_toArray, List.set_cons_zero, List.set_cons_succ, i64_w, i32_w]
      rfl
     refine pure_ (i := 12) (N := some 55) (v := ?_) (a' := ?_) #[true, true, true, true, true, true, true, true, true, true, true, true, true] rfl rfl (any_of HT_.out (by kernel_rfl)) (fun _ _ _ h => h) (Or.inl ⟨by rfl, ?_⟩) ?_ ?_
     rotate_left
     ·intro w'
      go_simp
      with_reducible rfl
     rotate_left
     ·simp only [Act.put, List.setIfInBounds_toArray, List.set_cons_zero, List.set_cons_succ, i64_w, i32_w]
      rfl
     refine done_ (done_of HT_.out (by kernel_rfl)) ?_
     clear HT_ HW_ hHeld
     have hac : addCap acc x = acc.set (acc.length - 1) x := by
      unfold addCap
      rw [if_pos (by rw [HL.out]; exact ⟨hp0, by simpa using d1⟩)]
     rw [hac] at hdl hl2
     have hfg : ∀ i, W8.frozen? ⟨g, i, none⟩ = false := fun i => blk_frozen hgc i
     have hset := Kd.R_seg q2' li hp0 hq0 (c := [.string (rd_T104 acc li).f0, .int .i64 (rd_T104 acc li).f1]) (seg := [.string x.f0, .int .i64 x.f1]) (j := 0) (x' := x) (okp := fun _ => False) rfl
      (by intro j u hj; match j, hj with
       | 0, hj => obtain rfl := Option.some.inj hj; exact he0
       | 1, hj => obtain rfl := Option.some.inj hj; exact he1
       | j + 2, hj => simp at hj) (Nat.le_refl 2) (k104_mkM _ _ _ x) (fun _ h => h.elim)
     have HSR := Aside0.mk hset
     clear hset
     have HLS := Aside0.mk (show li.toNat = acc.length - 1 by have := HL.out; omega)
     have HGN := Aside0.mk (q2'.1 g rfl)
     obtain ⟨vse, hse⟩ := cell?_setCell_some (p := ⟨g, li.toNat * 2, none⟩) (x := .string x.f0) he1
     gi_wp2
     obtain ⟨hsR, hsG⟩ := HSR.out
     have hgn := HGN.out
     have hgk : ∀ k : Nat, k < W8.heap.size → k ≠ g → (W8.setCells g (li.toNat * k104.sz + 0) [.string x.f0, .int .i64 x.f1]).heap[k]? = W8.heap[k]? := fun k hk hj => hsG.block k hk (fun e => hj (Option.some.inj e))
     have hb89 : Below w.heap.size W8 (W8.setCells g (li.toNat * k104.sz + 0) [.string x.f0, .int .i64 x.f1]) := ⟨hsG.os, hsG.tape, hsG.output, hsG.size, fun k hk => hgk k (by omega) (by omega)⟩
     have e9 : acc.set (acc.length - 1) x = acc.set li.toNat x := by rw [HLS.out]
     refine ⟨b78.trans hb89, fun k hk => (hgk k (by omega) (by omega)).trans (h78 k), ⟨_, (hgk bd (blk_lt q1) (by omega)).trans q1, ?_, ?_, (hgk _ (blk_lt qr) (by omega)).trans qr, q5.trans hb89⟩⟩
     ·rw [hdl, e9]
      exact Kd.R_mono hsR (fun k hk => by omega)
     ·rw [hdl]; exact hl2
  case hdone =>
   rintro D W hD ⟨v, h1, h2, h3, h4, h5⟩ hKD
   obtain ⟨Av, cv, rfl, hlv, hCv⟩ := Kd.R_reads h2
   have hc0 : W.cell? ⟨bd, 0, none⟩ = some (.int .i64 ver) := (blk_cell h1 0).trans rfl
   have hc1 : W.cell? ⟨bd, 1, none⟩ = some (.slice Av (dealL (bothL l0_2 l1_2)).length cv) := (blk_cell h1 1).trans rfl
   have hd0 : W.cell? ⟨w.heap.size + 1 + 1, 0, none⟩ = some (.int .i64 0) := (blk_cell h4 0).trans rfl
   have hd1 : W.cell? ⟨w.heap.size + 1 + 1, 1, none⟩ = some (.slice none 0 0) := (blk_cell h4 1).trans rfl
   have hf0 := blk_frozen h4 0
   have hf1 := blk_frozen h4 1
   gi_wp2
   have kR7 := blk_put (blk_put h4 0 (.int .i64 ver) rfl) 1 (.slice Av (dealL (bothL l0_2 l1_2)).length cv) rfl
   have hKD2 : ((W.setCell ⟨w.heap.size + 1 + 1, 0, none⟩ (.int .i64 ver)).setCell ⟨w.heap.size + 1 + 1, 1, none⟩ (.slice Av (dealL (bothL l0_2 l1_2)).length cv)).heap[D]? = some (.deferred (some [])) :=
    (Below.heap_setCell _ ⟨w.heap.size + 1 + 1, 1, none⟩ _ D (by show D ≠ w.heap.size + 1 + 1; omega)).trans ((Below.heap_setCell _ ⟨w.heap.size + 1 + 1, 0, none⟩ _ D (by show D ≠ w.heap.size + 1 + 1; omega)).trans hKD)
   have hR7 := Kd.R_far (p := ⟨w.heap.size + 1 + 1, 1, none⟩) (Kd.R_far (p := ⟨w.heap.size + 1 + 1, 0, none⟩) h2 (fun k hk => hk.1) (.int .i64 ver)) (fun k hk => hk.1) (.slice Av (dealL (bothL l0_2 l1_2)).length cv)
   have hB7 := below_set (j := 1) (v := .slice Av (dealL (bothL l0_2 l1_2)).length cv) (below_set (g := w.heap.size + 1 + 1) (j := 0) (v := .int .i64 ver) h5 (by omega)) (g := w.heap.size + 1 + 1) (by omega)
   refine ⟨by simp, .inl ⟨_, _, rfl, run_takeDeferred hKD2, ?_⟩⟩
   refine ⟨_, results_ct rfl _ _ (w.heap.size + 1 + 1) 43 #[.int .i64 ver, .slice Av (dealL (bothL l0_2 l1_2)).length cv] (0, 0) _ rfl ((World.putObj_heap_other (by omega)).trans kR7) Try.underlying43 rfl (by kernel_rfl), ?_⟩
   refine ⟨_, rfl, Kd.R_mono (Kd.R_kept hR7 (kept_putObj _ D _ (fun k => k = D) rfl) (fun k hk => by omega)) (fun _ _ => trivial), hB7.trans (below_putObj _ _ _ (by omega))⟩
end Go.Proofs.Yteoibgpkimlahaa.P
end
section
namespace Go.Proofs.Yteoibgpkimlahaa.P
open Go.RowKit Go.Proofs.YteoibgpkimlahaaW.PrintWords Go.Proofs.YteoibgpkimlahaaW.PrintLast Go.Proofs.YteoibgpkimlahaaW.PrintMore
attribute [local go_sem] max2_int min2_int max_two min_two max_three min_three max_four min_four   
set_option linter.unusedVariables false
set_option linter.unusedSimpArgs false
def hatchwaylaw32_alive.f (k : Nat)  : Option (Bool) := (hello_Agree.f k 1 3 (([(⟨(⟨#[101, 116, 104]⟩ : ByteArray), 5⟩ : S104), (⟨(⟨#[101, 116, 104]⟩ : ByteArray), 6⟩ : S104)] : List (S104))) 2 9 (([(⟨(⟨#[101, 116, 104]⟩ : ByteArray), 5⟩ : S104), (⟨(⟨#[101, 116, 104]⟩ : ByteArray), 7⟩ : S104)] : List (S104)))).bind fun bt109 => ((hello_Offset.f k bt109.1 bt109.2.1 (⟨#[101, 116, 104]⟩ : ByteArray)).bind fun bt115 => (if bt109.2.2 = 0 then (if bt109.1 = 3 then (if (bt109.2.1.length : Int) = 1 then (if 0 < (bt109.2.1.length : Int) then (if ((rd_T104 bt109.2.1 0).f1) = 5 then (if bt115.1 = 16 then (some bt115.2) else (some false)) else (some false)) else (none)) else (some false)) else (some false)) else (some false)))
theorem hatchwaylaw32_alive.mono : ∀ k, LeO (hatchwaylaw32_alive.f k ) (hatchwaylaw32_alive.f (k + 1) ) := by
 intro  k
 unfold hatchwaylaw32_alive.f
 repeat' first
   | (with_reducible exact hello_Agree.mono _ _ _ _ _ _ _)
   | (with_reducible exact hello_Offset.mono _ _ _ _)
   | (with_reducible exact LeO.refl _)
   | (with_reducible exact LeO.none _)
   | (with_reducible refine LeO.ite ?_ ?_)
   | (with_reducible refine LeO.bind ?_ (fun _ => ?_))
   | exact hello_Agree.mono _ _ _ _ _ _ _
   | exact hello_Offset.mono _ _ _ _
   | exact LeO.none _
   | refine LeO.ite ?_ ?_
   | refine LeO.bind ?_ (fun _ => ?_)
set_option maxHeartbeats 8000000 in
set_option maxRecDepth 100000 in
theorem hatchwaylaw32_alive.calls (k : Nat)  (r : Bool) (w : World) (h : hatchwaylaw32_alive.f k  = some r) (ht_ : r = true) :
  Calls Try.prog 25 #[] w fun e w' => e = .returned (.bool r) ∧ Below w.heap.size w w' := by
 have hu104 := Try.underlying104
 have hu47 := Try.underlying47
 have hu43 := Try.underlying43
 have HB := Aside0.mk (Below.refl w.heap.size w)
 have H : ((hello_Agree.f k 1 3 (([(⟨(⟨#[101, 116, 104]⟩ : ByteArray), 5⟩ : S104), (⟨(⟨#[101, 116, 104]⟩ : ByteArray), 6⟩ : S104)] : List (S104))) 2 9 (([(⟨(⟨#[101, 116, 104]⟩ : ByteArray), 5⟩ : S104), (⟨(⟨#[101, 116, 104]⟩ : ByteArray), 7⟩ : S104)] : List (S104)))).bind fun bt109 => ((hello_Offset.f k bt109.1 bt109.2.1 (⟨#[101, 116, 104]⟩ : ByteArray)).bind fun bt115 => (if bt109.2.2 = 0 then (if bt109.1 = 3 then (if (bt109.2.1.length : Int) = 1 then (if 0 < (bt109.2.1.length : Int) then (if ((rd_T104 bt109.2.1 0).f1) = 5 then (if bt115.1 = 16 then (some bt115.2) else (some false)) else (some false)) else (none)) else (some false)) else (some false)) else (some false)))) = some r := h
 clear h
 obtain ⟨y101, hy101⟩ : ∃ y_ : List (S104), y_ = (([(⟨(⟨#[101, 116, 104]⟩ : ByteArray), 5⟩ : S104), (⟨(⟨#[101, 116, 104]⟩ : ByteArray), 6⟩ : S104)] : List (S104))) := ⟨_, rfl⟩
 replace H : ((hello_Agree.f k 1 3 y101 2 9 (([(⟨(⟨#[101, 116, 104]⟩ : ByteArray), 5⟩ : S104), (⟨(⟨#[101, 116, 104]⟩ : ByteArray), 7⟩ : S104)] : List (S104)))).bind fun bt109 => ((hello_Offset.f k bt109.1 bt109.2.1 (⟨#[101, 116, 104]⟩ : ByteArray)).bind fun bt115 => (if bt109.2.2 = 0 then (if bt109.1 = 3 then (if (bt109.2.1.length : Int) = 1 then (if 0 < (bt109.2.1.length : Int) then (if ((rd_T104 bt109.2.1 0).f1) = 5 then (if bt115.1 = 16 then (some bt115.2) else (some false)) else (some false)) else (none)) else (some false)) else (some false)) else (some false)))) = some r := by first | (rw [hy101]; with_reducible exact H) | (have H2_ := (Option.bind_some _ _).symm.trans H; rw [hy101]; with_reducible exact H2_) | (have H2_ := (Option.bind_some _ _).symm.trans H; with_reducible exact H2_) | with_reducible exact H | (rw [hy101]; exact H) | exact H
 have Ny101 := Aside0.mk hy101
 clear hy101
 obtain ⟨y105, hy105⟩ : ∃ y_ : List (S104), y_ = (([(⟨(⟨#[101, 116, 104]⟩ : ByteArray), 5⟩ : S104), (⟨(⟨#[101, 116, 104]⟩ : ByteArray), 7⟩ : S104)] : List (S104))) := ⟨_, rfl⟩
 replace H : ((hello_Agree.f k 1 3 y101 2 9 y105).bind fun bt109 => ((hello_Offset.f k bt109.1 bt109.2.1 (⟨#[101, 116, 104]⟩ : ByteArray)).bind fun bt115 => (if bt109.2.2 = 0 then (if bt109.1 = 3 then (if (bt109.2.1.length : Int) = 1 then (if 0 < (bt109.2.1.length : Int) then (if ((rd_T104 bt109.2.1 0).f1) = 5 then (if bt115.1 = 16 then (some bt115.2) else (some false)) else (some false)) else (none)) else (some false)) else (some false)) else (some false)))) = some r := by first | (rw [hy105]; with_reducible exact H) | (have H2_ := (Option.bind_some _ _).symm.trans H; rw [hy105]; with_reducible exact H2_) | (have H2_ := (Option.bind_some _ _).symm.trans H; with_reducible exact H2_) | with_reducible exact H | (rw [hy105]; exact H) | exact H
 have Ny105 := Aside0.mk hy105
 clear hy105
 replace H := Option.bind_eq_some_iff.mp H
 obtain ⟨⟨t109, t110, t113⟩, A10, H⟩ := H
 replace H : ((hello_Offset.f k t109 t110 (⟨#[101, 116, 104]⟩ : ByteArray)).bind fun bt115 => (if t113 = 0 then (if t109 = 3 then (if (t110.length : Int) = 1 then (if 0 < (t110.length : Int) then (if ((rd_T104 t110 0).f1) = 5 then (if bt115.1 = 16 then (some bt115.2) else (some false)) else (some false)) else (none)) else (some false)) else (some false)) else (some false))) = some r := H
 have A1 := Aside0.mk A10
 clear A10
 replace H := Option.bind_eq_some_iff.mp H
 obtain ⟨⟨t115, t116⟩, A20, H⟩ := H
 replace H : (if t113 = 0 then (if t109 = 3 then (if (t110.length : Int) = 1 then (if 0 < (t110.length : Int) then (if ((rd_T104 t110 0).f1) = 5 then (if t115 = 16 then (some t116) else (some false)) else (some false)) else (none)) else (some false)) else (some false)) else (some false)) = some r := H
 have A2 := Aside0.mk A20
 clear A20
 by_cases c3 : t113 = 0
 ·rw [if_pos c3] at H
  have c3b0 : (t113 == 0) = true := beq_iff_eq.mpr c3
  have c3b1 : (t113 != 0) = false := bne_eq_false_iff_eq.mpr c3
  clear c3
  by_cases c4 : t109 = 3
  ·rw [if_pos c4] at H
   have c4b0 : (t109 == 3) = true := beq_iff_eq.mpr c4
   have c4b1 : (t109 != 3) = false := bne_eq_false_iff_eq.mpr c4
   clear c4
   by_cases c5 : (t110.length : Int) = 1
   ·rw [if_pos c5] at H
    have c5b0 : ((t110.length : Int) == 1) = true := beq_iff_eq.mpr c5
    have c5b1 : ((t110.length : Int) != 1) = false := bne_eq_false_iff_eq.mpr c5
    clear c5
    by_cases c6 : 0 < (t110.length : Int)
    ·rw [if_pos c6] at H
     have c6b0 : decide (0 < (t110.length : Int)) = true := decide_eq_true c6
     have c6b1 : decide (0 < t110.length) = true := decide_eq_true (by omega)
     clear c6
     by_cases c7 : ((rd_T104 t110 0).f1) = 5
     ·rw [if_pos c7] at H
      have c7b0 : (((rd_T104 t110 0).f1) == 5) = true := beq_iff_eq.mpr c7
      have c7b1 : (((rd_T104 t110 0).f1) != 5) = false := bne_eq_false_iff_eq.mpr c7
      clear c7
      by_cases c8 : t115 = 16
      ·rw [if_pos c8] at H
       have c8b0 : (t115 == 16) = true := beq_iff_eq.mpr c8
       have c8b1 : (t115 != 16) = false := bne_eq_false_iff_eq.mpr c8
       clear c8
       obtain rfl := Option.some.inj H
       go_enter Try.func25, Try.ntmps25
       go_wp2_with (first | ((with_reducible refine gate_dst (N := 9) rfl ?_); (try (refine gate_guard (by rfl) ?_; dsimp only)); refine Kd.R_lit k104 _ 104 ?hg (N := 9) ?hd (xs := ([(⟨(⟨#[101, 116, 104]⟩ : ByteArray), 5⟩ : S104), (⟨(⟨#[101, 116, 104]⟩ : ByteArray), 6⟩ : S104)] : List (S104))) (inner := [.string (⟨#[101, 116, 104]⟩ : ByteArray), .int .i64 5, .string (⟨#[101, 116, 104]⟩ : ByteArray), .int .i64 6]) (ok := fun _ => True) (okp := fun _ => True) ?hr ?hp (fun _ hk => hk) trivial (Below.refl _ _) (Nat.le_refl _) (by simp) ?_; (case hd => rfl); (case hg => rfl); (case hr => first | (go_simp; done) | (go_simp; rfl)); (case hp => exact (Reps.c2 (show Kd.M k104 _ _ _ (⟨(⟨#[101, 116, 104]⟩ : ByteArray), 5⟩ : S104) [.string (⟨#[101, 116, 104]⟩ : ByteArray), .int .i64 5] from (k104_mkM _ _ _ (⟨(⟨#[101, 116, 104]⟩ : ByteArray), 5⟩ : S104) )) (Reps.c2 (show Kd.M k104 _ _ _ (⟨(⟨#[101, 116, 104]⟩ : ByteArray), 6⟩ : S104) [.string (⟨#[101, 116, 104]⟩ : ByteArray), .int .i64 6] from (k104_mkM _ _ _ (⟨(⟨#[101, 116, 104]⟩ : ByteArray), 6⟩ : S104) )) (Reps.none _ _)))); intro v102 w9 ho10 hb hg_ hnew_; clear hg_ hnew_; (first | rw [← Ny101.out] at ho10 | (simp only [Int.reduceToNat] at ho10; rw [← Ny101.out] at ho10)); have n0_ := Aside0.mk (Kd.R_lower ho10 (below_size (by repeat (first | (with_reducible first | exact HB.out | apply below_alloc | apply pw_below_drewN | apply below_drew1) | exact HB.out)))); have n1_ := Aside0.mk (below_step (by repeat (first | (with_reducible first | exact HB.out | apply below_alloc | apply pw_below_drewN | apply below_drew1) | exact HB.out)) hb); clear HB; have HO103 := n0_; have HB := n1_; clear n0_ n1_; clear hb ho10; obtain ⟨Ao11, co11, eo11⟩ := Kd.R_slice HO103.out; subst eo11) | ((with_reducible refine gate_dst (N := 1) rfl ?_); (try (refine gate_guard (by rfl) ?_; dsimp only)); refine box_event ?hg (N := 1) ?hd (cs := #[.int .i64 0, .int .i64 0, .slice none 0 0]) (t := 47) ?hr ?_; (case hd => rfl); (case hg => rfl); (case hr => first | (go_simp; done) | (go_simp; rfl)); intro gb104 hg w12 hbox hb; have n0_ := Aside0.mk (Kd.R_below (by (with_reducible repeat (first | apply Kd.R_alloc | apply Kd.R_drewN | apply Kd.R_drew)); exact HO103.out) hb); have n1_ := Aside0.mk (below_step (by repeat (first | (with_reducible first | exact HB.out | apply below_alloc | apply pw_below_drewN | apply below_drew1) | exact HB.out)) hb); have n2_ := Aside0.mk (hbox); have n3_ := Aside0.mk ((by rw [hg]; exact (below_size (by repeat (first | (with_reducible first | exact HB.out | apply below_alloc | apply pw_below_drewN | apply below_drew1) | exact HB.out))) : w.heap.size ≤ gb104)); have n4_ := Aside0.mk ((by rw [hg]; exact (below_size (by repeat (first | (with_reducible first | exact HB.out | apply below_alloc | apply pw_below_drewN | apply below_drew1) | exact HB.out))) : w.heap.size ≤ gb104)); clear HO103; clear HB; have HO103 := n0_; have HB := n1_; have BK104 := n2_; have GW104 := n3_; have GE104 := n4_; clear n0_ n1_ n2_ n3_ n4_; clear hb hbox hg; have hcz13_0 : w12.cell? ⟨gb104, 0, none⟩ = some (.int .i64 0) := (blk_cell BK104.out 0).trans rfl; have hcz13_1 : w12.cell? ⟨gb104, 1, none⟩ = some (.int .i64 0) := (blk_cell BK104.out 1).trans rfl; have hcz13_2 : w12.cell? ⟨gb104, 2, none⟩ = some (.slice none 0 0) := (blk_cell BK104.out 2).trans rfl; have hfz13_0 := blk_frozen BK104.out 0; have hfz13_1 := blk_frozen BK104.out 1; have hfz13_2 := blk_frozen BK104.out 2) | ((with_reducible refine gate_dst (N := 13) rfl ?_); (try (refine gate_guard (by rfl) ?_; dsimp only)); refine Kd.R_lit k104 _ 104 ?hg (N := 13) ?hd (xs := ([(⟨(⟨#[101, 116, 104]⟩ : ByteArray), 5⟩ : S104), (⟨(⟨#[101, 116, 104]⟩ : ByteArray), 7⟩ : S104)] : List (S104))) (inner := [.string (⟨#[101, 116, 104]⟩ : ByteArray), .int .i64 5, .string (⟨#[101, 116, 104]⟩ : ByteArray), .int .i64 7]) (ok := fun _ => True) (okp := fun _ => True) ?hr ?hp (fun _ hk => hk) trivial (Below.refl _ _) (Nat.le_refl _) (by simp) ?_; (case hd => rfl); (case hg => rfl); (case hr => first | (go_simp; done) | (go_simp; rfl)); (case hp => exact (Reps.c2 (show Kd.M k104 _ _ _ (⟨(⟨#[101, 116, 104]⟩ : ByteArray), 5⟩ : S104) [.string (⟨#[101, 116, 104]⟩ : ByteArray), .int .i64 5] from (k104_mkM _ _ _ (⟨(⟨#[101, 116, 104]⟩ : ByteArray), 5⟩ : S104) )) (Reps.c2 (show Kd.M k104 _ _ _ (⟨(⟨#[101, 116, 104]⟩ : ByteArray), 7⟩ : S104) [.string (⟨#[101, 116, 104]⟩ : ByteArray), .int .i64 7] from (k104_mkM _ _ _ (⟨(⟨#[101, 116, 104]⟩ : ByteArray), 7⟩ : S104) )) (Reps.none _ _)))); intro v106 w14 ho15 hb hg_ hnew_; clear hg_ hnew_; (first | rw [← Ny105.out] at ho15 | (simp only [Int.reduceToNat] at ho15; rw [← Ny105.out] at ho15)); have n0_ := Aside0.mk (Kd.R_elder' (by (with_reducible repeat (first | apply Kd.R_alloc | apply Kd.R_drewN | apply Kd.R_drew)); exact (Kd.R_mono (Kd.R_far (p := ⟨gb104, 2, none⟩) (Kd.R_far (p := ⟨gb104, 1, none⟩) (Kd.R_far (p := ⟨gb104, 0, none⟩) (Kd.R_types HO103.out BK104.out (by decide)) (fun _ hk => hk.2) (.int .i64 1)) (fun _ hk => hk.2) (.int .i64 3)) (fun _ hk => hk.2) (.slice Ao11 y101.length co11)) (fun _ h_ => h_.1))) (Kd.R_base ho15) hb); have n1_ := Aside0.mk (Kd.R_lower (Kd.R_new' ho15 (Kd.R_lt (by (with_reducible repeat (first | apply Kd.R_alloc | apply Kd.R_drewN | apply Kd.R_drew)); exact (Kd.R_mono (Kd.R_far (p := ⟨gb104, 2, none⟩) (Kd.R_far (p := ⟨gb104, 1, none⟩) (Kd.R_far (p := ⟨gb104, 0, none⟩) (Kd.R_types HO103.out BK104.out (by decide)) (fun _ hk => hk.2) (.int .i64 1)) (fun _ hk => hk.2) (.int .i64 3)) (fun _ hk => hk.2) (.slice Ao11 y101.length co11)) (fun _ h_ => h_.1))))) (below_size (by repeat (first | (with_reducible first | exact HB.out | apply below_alloc | apply pw_below_drewN | apply below_drew1 | refine below_set ?_ GE104.out) | exact HB.out)))); have n2_ := Aside0.mk (blk_below (g := gb104) (o := .cells #[.int .i64 1, .int .i64 3, .slice Ao11 y101.length co11] 47 (0, 0)) (by (with_reducible repeat (first | refine blk_drewN ?_ _ | refine blk_drew ?_ | refine blk_alloc ?_ _)); refine blk_put (cs := #[.int .i64 1, .int .i64 3, .slice none 0 0]) ?_ 2 _ rfl; (with_reducible repeat (first | refine blk_drewN ?_ _ | refine blk_drew ?_ | refine blk_alloc ?_ _)); refine blk_put (cs := #[.int .i64 1, .int .i64 0, .slice none 0 0]) ?_ 1 _ rfl; (with_reducible repeat (first | refine blk_drewN ?_ _ | refine blk_drew ?_ | refine blk_alloc ?_ _)); refine blk_put (cs := #[.int .i64 0, .int .i64 0, .slice none 0 0]) ?_ 0 _ rfl; (with_reducible repeat (first | refine blk_drewN ?_ _ | refine blk_drew ?_ | refine blk_alloc ?_ _)); exact BK104.out) hb); have n3_ := Aside0.mk (below_step (by repeat (first | (with_reducible first | exact HB.out | apply below_alloc | apply pw_below_drewN | apply below_drew1 | refine below_set ?_ GE104.out) | exact HB.out)) hb); clear HO103; clear BK104; clear HB; have HO103 := n0_; have HO107 := n1_; have BK104 := n2_; have HB := n3_; clear n0_ n1_ n2_ n3_; clear hb ho15; obtain ⟨Ao16, co16, eo16⟩ := Kd.R_slice HO107.out; subst eo16) | ((with_reducible refine gate_dst (N := 2) rfl ?_); (try (refine gate_guard (by rfl) ?_; dsimp only)); refine box_event ?hg (N := 2) ?hd (cs := #[.int .i64 0, .int .i64 0, .slice none 0 0]) (t := 47) ?hr ?_; (case hd => rfl); (case hg => rfl); (case hr => first | (go_simp; done) | (go_simp; rfl)); intro gb108 hg w17 hbox hb; have n0_ := Aside0.mk (Kd.R_below (by (with_reducible repeat (first | apply Kd.R_alloc | apply Kd.R_drewN | apply Kd.R_drew)); exact HO103.out) hb); have n1_ := Aside0.mk (Kd.R_below (by (with_reducible repeat (first | apply Kd.R_alloc | apply Kd.R_drewN | apply Kd.R_drew)); exact HO107.out) hb); have n2_ := Aside0.mk (blk_below (g := gb104) (o := .cells #[.int .i64 1, .int .i64 3, .slice Ao11 y101.length co11] 47 (0, 0)) (by (with_reducible repeat (first | refine blk_drewN ?_ _ | refine blk_drew ?_ | refine blk_alloc ?_ _)); exact BK104.out) hb); have n3_ := Aside0.mk (below_step (by repeat (first | (with_reducible first | exact HB.out | apply below_alloc | apply pw_below_drewN | apply below_drew1 | refine below_set ?_ GE104.out) | exact HB.out)) hb); have n4_ := Aside0.mk (hbox); have n5_ := Aside0.mk ((by rw [hg]; exact (below_size (by repeat (first | (with_reducible first | exact HB.out | apply below_alloc | apply pw_below_drewN | apply below_drew1 | refine below_set ?_ GE104.out) | exact HB.out))) : w.heap.size ≤ gb108)); have n6_ := Aside0.mk ((by rw [hg]; exact (below_size (by repeat (first | (with_reducible first | exact HB.out | apply below_alloc | apply pw_below_drewN | apply below_drew1 | refine below_set ?_ GE104.out) | exact HB.out))) : w.heap.size ≤ gb108)); have n7_ := Aside0.mk ((by rw [hg]; exact Nat.ne_of_lt (blk_lt (g := gb104) (o := .cells #[.int .i64 1, .int .i64 3, .slice Ao11 y101.length co11] 47 (0, 0)) (by (with_reducible repeat (first | refine blk_drewN ?_ _ | refine blk_drew ?_ | refine blk_alloc ?_ _)); exact BK104.out)) : gb104 ≠ gb108)); have n8_ := Aside0.mk ((by rw [hg]; exact Nat.ne_of_gt (blk_lt (g := gb104) (o := .cells #[.int .i64 1, .int .i64 3, .slice Ao11 y101.length co11] 47 (0, 0)) (by (with_reducible repeat (first | refine blk_drewN ?_ _ | refine blk_drew ?_ | refine blk_alloc ?_ _)); exact BK104.out)) : gb108 ≠ gb104)); clear HO103; clear HO107; clear BK104; clear HB; have HO103 := n0_; have HO107 := n1_; have BK104 := n2_; have HB := n3_; have BK108 := n4_; have GW108 := n5_; have GE108 := n6_; have NB104_108 := n7_; have NB108_104 := n8_; clear n0_ n1_ n2_ n3_ n4_ n5_ n6_ n7_ n8_; clear hb hbox hg; have hnb18 := NB108_104.out; have hnc18 := NB104_108.out; have hcz19_0 : w17.cell? ⟨gb108, 0, none⟩ = some (.int .i64 0) := (blk_cell BK108.out 0).trans rfl; have hcz19_1 : w17.cell? ⟨gb108, 1, none⟩ = some (.int .i64 0) := (blk_cell BK108.out 1).trans rfl; have hcz19_2 : w17.cell? ⟨gb108, 2, none⟩ = some (.slice none 0 0) := (blk_cell BK108.out 2).trans rfl; have hfz19_0 := blk_frozen BK108.out 0; have hfz19_1 := blk_frozen BK108.out 1; have hfz19_2 := blk_frozen BK108.out 2; have hcz20_0 : w17.cell? ⟨gb104, 0, none⟩ = some (.int .i64 1) := (blk_cell BK104.out 0).trans rfl; have hcz20_1 : w17.cell? ⟨gb104, 1, none⟩ = some (.int .i64 3) := (blk_cell BK104.out 1).trans rfl; have hcz20_2 : w17.cell? ⟨gb104, 2, none⟩ = some (.slice Ao11 y101.length co11) := (blk_cell BK104.out 2).trans rfl; have hfz20_0 := blk_frozen BK104.out 0; have hfz20_1 := blk_frozen BK104.out 1; have hfz20_2 := blk_frozen BK104.out 2) | ((with_reducible refine gate_callee (f := 27) rfl ?_); refine goesL_ (some 18) rfl rfl Try.func27 (by kernel_rfl) rfl #[.agg #[.int .i64 1, .int .i64 3, .slice Ao11 y101.length co11], .agg #[.int .i64 2, .int .i64 9, .slice Ao16 y105.length co16]] rfl (by (try simp only [List.map_toArray, List.map_cons, List.map_nil]); first | done | rfl | (simp only [List.length_drop, List.length_take]; rfl)) ?_; (with_reducible refine (hello_Agree.calls k 1 3 _ _ y101 2 9 _ _ y105 t109 t110 t113 _ ?side1 ?side2 ?side3 ?side4 A1.out).mono ?_); (case side1 => refine (Kd.R_reads' (e := 104) (base := w.heap.size) (ok := fun k_ => (True ∧ some k_ ≠ (.slice Ao16 y105.length co16 : Value).ownBlock)) (n := y101.length) (c := co11) ?_).2.2; exact (by (with_reducible repeat (first | apply Kd.R_alloc | apply Kd.R_drewN | apply Kd.R_drew)); exact (Kd.R_mono (Kd.R_far (p := ⟨gb108, 2, none⟩) (Kd.R_far (p := ⟨gb108, 1, none⟩) (Kd.R_far (p := ⟨gb108, 0, none⟩) (Kd.R_types HO103.out BK108.out (by decide)) (fun _ hk => hk.2) (.int .i64 2)) (fun _ hk => hk.2) (.int .i64 9)) (fun _ hk => hk.2) (.slice Ao16 y105.length co16)) (fun _ h_ => h_.1)))); (case side2 => exact (Kd.R_reads' HO103.out).2.1); (case side3 => refine (Kd.R_reads' (e := 104) (base := w.heap.size) (ok := fun k_ => (True ∧ some k_ ≠ (.slice Ao11 y101.length co11 : Value).ownBlock)) (n := y105.length) (c := co16) ?_).2.2; exact (by (with_reducible repeat (first | apply Kd.R_alloc | apply Kd.R_drewN | apply Kd.R_drew)); exact (Kd.R_mono (Kd.R_far (p := ⟨gb108, 2, none⟩) (Kd.R_far (p := ⟨gb108, 1, none⟩) (Kd.R_far (p := ⟨gb108, 0, none⟩) (Kd.R_types HO107.out BK108.out (by decide)) (fun _ hk => hk.2) (.int .i64 2)) (fun _ hk => hk.2) (.int .i64 9)) (fun _ hk => hk.2) (.slice Ao16 y105.length co16)) (fun _ h_ => h_.1)))); (case side4 => exact (Kd.R_reads' HO107.out).2.1); rintro e w21 ⟨v111, rfl, ho0, hb⟩; refine ⟨_, rfl, ?_⟩; have n0_ := Aside0.mk (Kd.R_elder' (by (with_reducible repeat (first | apply Kd.R_alloc | apply Kd.R_drewN | apply Kd.R_drew)); exact (Kd.R_mono (Kd.R_far (p := ⟨gb108, 2, none⟩) (Kd.R_far (p := ⟨gb108, 1, none⟩) (Kd.R_far (p := ⟨gb108, 0, none⟩) (Kd.R_types HO103.out BK108.out (by decide)) (fun _ hk => hk.2) (.int .i64 2)) (fun _ hk => hk.2) (.int .i64 9)) (fun _ hk => hk.2) (.slice Ao16 y105.length co16)) (fun _ h_ => h_.1))) (Kd.R_base ho0) hb); have n1_ := Aside0.mk (Kd.R_elder' (by (with_reducible repeat (first | apply Kd.R_alloc | apply Kd.R_drewN | apply Kd.R_drew)); exact (Kd.R_mono (Kd.R_far (p := ⟨gb108, 2, none⟩) (Kd.R_far (p := ⟨gb108, 1, none⟩) (Kd.R_far (p := ⟨gb108, 0, none⟩) (Kd.R_types HO107.out BK108.out (by decide)) (fun _ hk => hk.2) (.int .i64 2)) (fun _ hk => hk.2) (.int .i64 9)) (fun _ hk => hk.2) (.slice Ao16 y105.length co16)) (fun _ h_ => h_.1))) (Kd.R_base ho0) hb); have n2_ := Aside0.mk (Kd.R_lower (Kd.R_new' (Kd.R_new' ho0 (Kd.R_lt (by (with_reducible repeat (first | apply Kd.R_alloc | apply Kd.R_drewN | apply Kd.R_drew)); exact (Kd.R_mono (Kd.R_far (p := ⟨gb108, 2, none⟩) (Kd.R_far (p := ⟨gb108, 1, none⟩) (Kd.R_far (p := ⟨gb108, 0, none⟩) (Kd.R_types HO103.out BK108.out (by decide)) (fun _ hk => hk.2) (.int .i64 2)) (fun _ hk => hk.2) (.int .i64 9)) (fun _ hk => hk.2) (.slice Ao16 y105.length co16)) (fun _ h_ => h_.1))))) (Kd.R_lt (by (with_reducible repeat (first | apply Kd.R_alloc | apply Kd.R_drewN | apply Kd.R_drew)); exact (Kd.R_mono (Kd.R_far (p := ⟨gb108, 2, none⟩) (Kd.R_far (p := ⟨gb108, 1, none⟩) (Kd.R_far (p := ⟨gb108, 0, none⟩) (Kd.R_types HO107.out BK108.out (by decide)) (fun _ hk => hk.2) (.int .i64 2)) (fun _ hk => hk.2) (.int .i64 9)) (fun _ hk => hk.2) (.slice Ao16 y105.length co16)) (fun _ h_ => h_.1))))) (below_size (by repeat (first | (with_reducible first | exact HB.out | apply below_alloc | apply pw_below_drewN | apply below_drew1 | refine below_set ?_ GE104.out | refine below_set ?_ GE108.out) | exact HB.out)))); have n3_ := Aside0.mk (blk_below (g := gb104) (o := .cells #[.int .i64 1, .int .i64 3, .slice Ao11 y101.length co11] 47 (0, 0)) (by (with_reducible repeat (first | refine blk_drewN ?_ _ | refine blk_drew ?_ | refine blk_alloc ?_ _)); refine blk_far ?_ NB104_108.out _; (with_reducible repeat (first | refine blk_drewN ?_ _ | refine blk_drew ?_ | refine blk_alloc ?_ _)); refine blk_far ?_ NB104_108.out _; (with_reducible repeat (first | refine blk_drewN ?_ _ | refine blk_drew ?_ | refine blk_alloc ?_ _)); refine blk_far ?_ NB104_108.out _; (with_reducible repeat (first | refine blk_drewN ?_ _ | refine blk_drew ?_ | refine blk_alloc ?_ _)); exact BK104.out) hb); have n4_ := Aside0.mk (blk_below (g := gb108) (o := .cells #[.int .i64 2, .int .i64 9, .slice Ao16 y105.length co16] 47 (0, 0)) (by (with_reducible repeat (first | refine blk_drewN ?_ _ | refine blk_drew ?_ | refine blk_alloc ?_ _)); refine blk_put (cs := #[.int .i64 2, .int .i64 9, .slice none 0 0]) ?_ 2 _ rfl; (with_reducible repeat (first | refine blk_drewN ?_ _ | refine blk_drew ?_ | refine blk_alloc ?_ _)); refine blk_put (cs := #[.int .i64 2, .int .i64 0, .slice none 0 0]) ?_ 1 _ rfl; (with_reducible repeat (first | refine blk_drewN ?_ _ | refine blk_drew ?_ | refine blk_alloc ?_ _)); refine blk_put (cs := #[.int .i64 0, .int .i64 0, .slice none 0 0]) ?_ 0 _ rfl; (with_reducible repeat (first | refine blk_drewN ?_ _ | refine blk_drew ?_ | refine blk_alloc ?_ _)); exact BK108.out) hb); have n5_ := Aside0.mk (below_step (by repeat (first | (with_reducible first | exact HB.out | apply below_alloc | apply pw_below_drewN | apply below_drew1 | refine below_set ?_ GE104.out | refine below_set ?_ GE108.out) | exact HB.out)) hb); clear HO103; clear HO107; clear BK104; clear BK108; clear HB; have HO103 := n0_; have HO107 := n1_; have HO112 := n2_; have BK104 := n3_; have BK108 := n4_; have HB := n5_; clear n0_ n1_ n2_ n3_ n4_ n5_; (try clear hb); (try clear hb2); (try clear hk); (try clear hi); (try clear ho0)) | ((with_reducible refine gate_dst (N := 3) rfl ?_); (try (refine gate_guard (by rfl) ?_; dsimp only)); refine box_event ?hg (N := 3) ?hd (cs := #[.int .i64 0, .slice none 0 0]) (t := 43) ?hr ?_; (case hd => rfl); (case hg => rfl); (case hr => first | (go_simp; done) | (go_simp; rfl)); intro gb114 hg w22 hbox hb; have n0_ := Aside0.mk (Kd.R_below (by (with_reducible repeat (first | apply Kd.R_alloc | apply Kd.R_drewN | apply Kd.R_drew)); exact HO103.out) hb); have n1_ := Aside0.mk (Kd.R_below (by (with_reducible repeat (first | apply Kd.R_alloc | apply Kd.R_drewN | apply Kd.R_drew)); exact HO107.out) hb); have n2_ := Aside0.mk (Kd.R_below (by (with_reducible repeat (first | apply Kd.R_alloc | apply Kd.R_drewN | apply Kd.R_drew)); exact HO112.out) hb); have n3_ := Aside0.mk (blk_below (g := gb104) (o := .cells #[.int .i64 1, .int .i64 3, .slice Ao11 y101.length co11] 47 (0, 0)) (by (with_reducible repeat (first | refine blk_drewN ?_ _ | refine blk_drew ?_ | refine blk_alloc ?_ _)); exact BK104.out) hb); have n4_ := Aside0.mk (blk_below (g := gb108) (o := .cells #[.int .i64 2, .int .i64 9, .slice Ao16 y105.length co16] 47 (0, 0)) (by (with_reducible repeat (first | refine blk_drewN ?_ _ | refine blk_drew ?_ | refine blk_alloc ?_ _)); exact BK108.out) hb); have n5_ := Aside0.mk (below_step (by repeat (first | (with_reducible first | exact HB.out | apply below_alloc | apply pw_below_drewN | apply below_drew1 | refine below_set ?_ GE104.out | refine below_set ?_ GE108.out) | exact HB.out)) hb); have n6_ := Aside0.mk (hbox); have n7_ := Aside0.mk ((by rw [hg]; exact (below_size (by repeat (first | (with_reducible first | exact HB.out | apply below_alloc | apply pw_below_drewN | apply below_drew1 | refine below_set ?_ GE104.out | refine below_set ?_ GE108.out) | exact HB.out))) : w.heap.size ≤ gb114)); have n8_ := Aside0.mk ((by rw [hg]; exact (below_size (by repeat (first | (with_reducible first | exact HB.out | apply below_alloc | apply pw_below_drewN | apply below_drew1 | refine below_set ?_ GE104.out | refine below_set ?_ GE108.out) | exact HB.out))) : w.heap.size ≤ gb114)); have n9_ := Aside0.mk ((by rw [hg]; exact Nat.ne_of_lt (blk_lt (g := gb104) (o := .cells #[.int .i64 1, .int .i64 3, .slice Ao11 y101.length co11] 47 (0, 0)) (by (with_reducible repeat (first | refine blk_drewN ?_ _ | refine blk_drew ?_ | refine blk_alloc ?_ _)); exact BK104.out)) : gb104 ≠ gb114)); have n10_ := Aside0.mk ((by rw [hg]; exact Nat.ne_of_gt (blk_lt (g := gb104) (o := .cells #[.int .i64 1, .int .i64 3, .slice Ao11 y101.length co11] 47 (0, 0)) (by (with_reducible repeat (first | refine blk_drewN ?_ _ | refine blk_drew ?_ | refine blk_alloc ?_ _)); exact BK104.out)) : gb114 ≠ gb104)); have n11_ := Aside0.mk ((by rw [hg]; exact Nat.ne_of_lt (blk_lt (g := gb108) (o := .cells #[.int .i64 2, .int .i64 9, .slice Ao16 y105.length co16] 47 (0, 0)) (by (with_reducible repeat (first | refine blk_drewN ?_ _ | refine blk_drew ?_ | refine blk_alloc ?_ _)); exact BK108.out)) : gb108 ≠ gb114)); have n12_ := Aside0.mk ((by rw [hg]; exact Nat.ne_of_gt (blk_lt (g := gb108) (o := .cells #[.int .i64 2, .int .i64 9, .slice Ao16 y105.length co16] 47 (0, 0)) (by (with_reducible repeat (first | refine blk_drewN ?_ _ | refine blk_drew ?_ | refine blk_alloc ?_ _)); exact BK108.out)) : gb114 ≠ gb108)); clear HO103; clear HO107; clear HO112; clear BK104; clear BK108; clear HB; have HO103 := n0_; have HO107 := n1_; have HO112 := n2_; have BK104 := n3_; have BK108 := n4_; have HB := n5_; have BK114 := n6_; have GW114 := n7_; have GE114 := n8_; have NB104_114 := n9_; have NB114_104 := n10_; have NB108_114 := n11_; have NB114_108 := n12_; clear n0_ n1_ n2_ n3_ n4_ n5_ n6_ n7_ n8_ n9_ n10_ n11_ n12_; clear hb hbox hg; have hnb23 := NB114_104.out; have hnc23 := NB104_114.out; have hnb24 := NB114_108.out; have hnc24 := NB108_114.out; have hcz25_0 : w22.cell? ⟨gb114, 0, none⟩ = some (.int .i64 0) := (blk_cell BK114.out 0).trans rfl; have hcz25_1 : w22.cell? ⟨gb114, 1, none⟩ = some (.slice none 0 0) := (blk_cell BK114.out 1).trans rfl; have hfz25_0 := blk_frozen BK114.out 0; have hfz25_1 := blk_frozen BK114.out 1; obtain ⟨Ao26, co26, eo26⟩ := Kd.R_slice HO112.out; subst eo26) | ((with_reducible refine gate_callee (f := 33) rfl ?_); refine goesL_ (some 23) rfl rfl Try.func33 (by kernel_rfl) rfl #[.agg #[.int .i64 t109, .slice Ao26 t110.length co26], .string (⟨#[101, 116, 104]⟩ : ByteArray)] rfl (by (try simp only [List.map_toArray, List.map_cons, List.map_nil]); first | done | rfl | (simp only [List.length_drop, List.length_take]; rfl)) ?_; (with_reducible refine (hello_Offset.calls k t109 _ _ t110 (⟨#[101, 116, 104]⟩ : ByteArray) t115 t116 _ ?side1 ?side2 A2.out).mono ?_); (case side1 => refine (Kd.R_reads' (e := 104) (base := w.heap.size) (ok := fun k_ => ((True ∧ some k_ ≠ (.slice Ao11 y101.length co11 : Value).ownBlock) ∧ some k_ ≠ (.slice Ao16 y105.length co16 : Value).ownBlock)) (n := t110.length) (c := co26) ?_).2.2; exact (by (with_reducible repeat (first | apply Kd.R_alloc | apply Kd.R_drewN | apply Kd.R_drew)); exact (Kd.R_mono (Kd.R_far (p := ⟨gb114, 1, none⟩) (Kd.R_far (p := ⟨gb114, 0, none⟩) (Kd.R_types HO112.out BK114.out (by decide)) (fun _ hk => hk.2) (.int .i64 t109)) (fun _ hk => hk.2) (.slice Ao26 t110.length co26)) (fun _ h_ => h_.1)))); (case side2 => exact (Kd.R_reads' HO112.out).2.1); rintro e w27 ⟨rfl, hb⟩; refine ⟨_, rfl, ?_⟩; have n0_ := Aside0.mk (Kd.R_below (by (with_reducible repeat (first | apply Kd.R_alloc | apply Kd.R_drewN | apply Kd.R_drew)); exact (Kd.R_mono (Kd.R_far (p := ⟨gb114, 1, none⟩) (Kd.R_far (p := ⟨gb114, 0, none⟩) (Kd.R_types HO103.out BK114.out (by decide)) (fun _ hk => hk.2) (.int .i64 t109)) (fun _ hk => hk.2) (.slice Ao26 t110.length co26)) (fun _ h_ => h_.1))) hb); have n1_ := Aside0.mk (Kd.R_below (by (with_reducible repeat (first | apply Kd.R_alloc | apply Kd.R_drewN | apply Kd.R_drew)); exact (Kd.R_mono (Kd.R_far (p := ⟨gb114, 1, none⟩) (Kd.R_far (p := ⟨gb114, 0, none⟩) (Kd.R_types HO107.out BK114.out (by decide)) (fun _ hk => hk.2) (.int .i64 t109)) (fun _ hk => hk.2) (.slice Ao26 t110.length co26)) (fun _ h_ => h_.1))) hb); have n2_ := Aside0.mk (Kd.R_below (by (with_reducible repeat (first | apply Kd.R_alloc | apply Kd.R_drewN | apply Kd.R_drew)); exact (Kd.R_mono (Kd.R_far (p := ⟨gb114, 1, none⟩) (Kd.R_far (p := ⟨gb114, 0, none⟩) (Kd.R_types HO112.out BK114.out (by decide)) (fun _ hk => hk.2) (.int .i64 t109)) (fun _ hk => hk.2) (.slice Ao26 t110.length co26)) (fun _ h_ => h_.1))) hb); have n3_ := Aside0.mk (blk_below (g := gb104) (o := .cells #[.int .i64 1, .int .i64 3, .slice Ao11 y101.length co11] 47 (0, 0)) (by (with_reducible repeat (first | refine blk_drewN ?_ _ | refine blk_drew ?_ | refine blk_alloc ?_ _)); refine blk_far ?_ NB104_114.out _; (with_reducible repeat (first | refine blk_drewN ?_ _ | refine blk_drew ?_ | refine blk_alloc ?_ _)); refine blk_far ?_ NB104_114.out _; (with_reducible repeat (first | refine blk_drewN ?_ _ | refine blk_drew ?_ | refine blk_alloc ?_ _)); exact BK104.out) hb); have n4_ := Aside0.mk (blk_below (g := gb108) (o := .cells #[.int .i64 2, .int .i64 9, .slice Ao16 y105.length co16] 47 (0, 0)) (by (with_reducible repeat (first | refine blk_drewN ?_ _ | refine blk_drew ?_ | refine blk_alloc ?_ _)); refine blk_far ?_ NB108_114.out _; (with_reducible repeat (first | refine blk_drewN ?_ _ | refine blk_drew ?_ | refine blk_alloc ?_ _)); refine blk_far ?_ NB108_114.out _; (with_reducible repeat (first | refine blk_drewN ?_ _ | refine blk_drew ?_ | refine blk_alloc ?_ _)); exact BK108.out) hb); have n5_ := Aside0.mk (blk_below (g := gb114) (o := .cells #[.int .i64 t109, .slice Ao26 t110.length co26] 43 (0, 0)) (by (with_reducible repeat (first | refine blk_drewN ?_ _ | refine blk_drew ?_ | refine blk_alloc ?_ _)); refine blk_put (cs := #[.int .i64 t109, .slice none 0 0]) ?_ 1 _ rfl; (with_reducible repeat (first | refine blk_drewN ?_ _ | refine blk_drew ?_ | refine blk_alloc ?_ _)); refine blk_put (cs := #[.int .i64 0, .slice none 0 0]) ?_ 0 _ rfl; (with_reducible repeat (first | refine blk_drewN ?_ _ | refine blk_drew ?_ | refine blk_alloc ?_ _)); exact BK114.out) hb); have n6_ := Aside0.mk (below_step (by repeat (first | (with_reducible first | exact HB.out | apply below_alloc | apply pw_below_drewN | apply below_drew1 | refine below_set ?_ GE104.out | refine below_set ?_ GE108.out | refine below_set ?_ GE114.out) | exact HB.out)) hb); clear HO103; clear HO107; clear HO112; clear BK104; clear BK108; clear BK114; clear HB; have HO103 := n0_; have HO107 := n1_; have HO112 := n2_; have BK104 := n3_; have BK108 := n4_; have BK114 := n5_; have HB := n6_; clear n0_ n1_ n2_ n3_ n4_ n5_ n6_; (try clear hb); (try clear hb2); (try clear hk); (try clear hi); have hcz28_0 : w27.cell? ⟨gb114, 0, none⟩ = some (.int .i64 t109) := (blk_cell BK114.out 0).trans rfl; have hcz28_1 : w27.cell? ⟨gb114, 1, none⟩ = some (.slice Ao26 t110.length co26) := (blk_cell BK114.out 1).trans rfl; have hfz28_0 := blk_frozen BK114.out 0; have hfz28_1 := blk_frozen BK114.out 1; have p117 : 0 ≤ (0 : Int) := (by omega); have q117 : 0 < (t110.length : Int) := of_decide_eq_true (by first | (with_reducible assumption) | assumption); obtain ⟨ad117, e117, hx117_0, hx117_1⟩ := at_T104 (Kd.R_reads' HO112.out).2.2 0 p117 q117; cases e117; have qi117 : (0 < t110.length) = True := eq_true (by omega); (try rw [show ((0 : Int)).toNat = 0 from rfl] at hx117_0); (try rw [show 0 * 2 = 0 from rfl] at hx117_0); (try rw [Addr.add_zero'] at hx117_0); (try rw [show ((0 : Int)).toNat = 0 from rfl] at hx117_1); (try rw [show 0 * 2 = 0 from rfl] at hx117_1); (try rw [Addr.add_zero'] at hx117_1); replace p117 := eq_true p117; replace q117 := eq_true q117))
       go_ret
       exact ⟨by first | rfl | (simp [errW_none, errW_some] <;> rfl) | (simp [*, errW_none, errW_some] <;> rfl), by repeat (first | (with_reducible first | exact HB.out | apply below_alloc | apply pw_below_drewN | apply below_drew1 | refine below_set ?_ GE104.out | refine below_set ?_ GE108.out | refine below_set ?_ GE114.out) | exact HB.out)⟩
      ·rw [if_neg c8] at H
       exact absurd ((Option.some.inj H).trans ht_) (by decide)
     ·rw [if_neg c7] at H
      exact absurd ((Option.some.inj H).trans ht_) (by decide)
    ·rw [if_neg c6] at H
     exact absurd H (by simp)
   ·rw [if_neg c5] at H
    exact absurd ((Option.some.inj H).trans ht_) (by decide)
  ·rw [if_neg c4] at H
   exact absurd ((Option.some.inj H).trans ht_) (by decide)
 ·rw [if_neg c3] at H
  exact absurd ((Option.some.inj H).trans ht_) (by decide)
end Go.Proofs.Yteoibgpkimlahaa.P
end
