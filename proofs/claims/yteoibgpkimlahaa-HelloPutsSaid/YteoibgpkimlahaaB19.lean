/- Whether any hello may be, and its bytes, or the error, are the document's; it is got again. (part 19 of 27) -/
import Derived.Test.YteoibgpkimlahaaB6
import Derived.Test.YteoibgpkimlahaaB11
import Derived.Test.YteoibgpkimlahaaB18
import Derived.Test.YteoibgpkimlahaaB9
import Derived.Test.YteoibgpkimlahaaB7
import Derived.Test.YteoibgpkimlahaaB8
section
namespace Go.Proofs.Yteoibgpkimlahaa.P
open Go.RowKit Go.Proofs.YteoibgpkimlahaaW.PrintWords Go.Proofs.YteoibgpkimlahaaW.PrintLast Go.Proofs.YteoibgpkimlahaaW.PrintMore
attribute [local go_sem] max2_int min2_int max_two min_two max_three min_three max_four min_four   
set_option linter.unusedVariables false
set_option linter.unusedSimpArgs false
def rlp_Put.f (a0_0 : ByteArray) (a0_1 : Bool) (l0_2 : List (S62)) : Option (ByteArray × Int) := (item_May.f a0_0 a0_1 l0_2).bind fun t102 => (if t102 = true then ((rlp_put.f a0_0 a0_1 l0_2).bind fun t103 => (some (t103, 0))) else (some ((⟨#[]⟩ : ByteArray), 1)))
set_option maxHeartbeats 8000000 in
set_option maxRecDepth 100000 in
theorem rlp_Put.calls (a0_0 : ByteArray) (a0_1 : Bool) (A0_2 : Option Addr) (c0_2 : Nat) (l0_2 : List (S62)) (r1 : ByteArray) (r2 : Int) (w : World) (hr0_2 : Kd.C k62 w A0_2 l0_2.length l0_2) (hc0_2 : l0_2.length ≤ c0_2) (h : rlp_Put.f a0_0 a0_1 l0_2 = some (r1, r2)) :
  Calls Try.prog 54 #[.agg #[.string a0_0, .bool a0_1, .slice A0_2 l0_2.length c0_2]] w fun e w' => e = .returned (.tuple #[.string r1, .int .i64 r2]) ∧ Below w.heap.size w w' := by
 have hu62 := Try.underlying62
 have HR0_2 := Aside0.mk hr0_2
 have HC0_2 := Aside0.mk hc0_2
 clear hr0_2 hc0_2
 have HB := Aside0.mk (Below.refl w.heap.size w)
 have H : ((item_May.f a0_0 a0_1 l0_2).bind fun t102 => (if t102 = true then ((rlp_put.f a0_0 a0_1 l0_2).bind fun t103 => (some (t103, 0))) else (some ((⟨#[]⟩ : ByteArray), 1)))) = some (r1, r2) := h
 clear h
 replace H := Option.bind_eq_some_iff.mp H
 obtain ⟨t102, A20, H⟩ := H
 replace H : (if t102 = true then ((rlp_put.f a0_0 a0_1 l0_2).bind fun t103 => (some (t103, 0))) else (some ((⟨#[]⟩ : ByteArray), 1))) = some (r1, r2) := H
 have A2 := Aside0.mk A20
 clear A20
 by_cases c3 : t102 = true
 ·subst c3
  have H1 : ((rlp_put.f a0_0 a0_1 l0_2).bind fun t103 => (some (t103, 0))) = some (r1, r2) := by rw [if_pos rfl] at H; exact H
  clear H
  have H := H1
  clear H1
  replace H := Option.bind_eq_some_iff.mp H
  obtain ⟨t103, A40, H⟩ := H
  replace H : (some (t103, 0)) = some (r1, r2) := H
  have A4 := Aside0.mk A40
  clear A40
  simp only [Option.some.injEq, Prod.mk.injEq] at H
  obtain ⟨rfl, rfl⟩ := H
  go_enter Try.func54, Try.ntmps54
  go_wp2_with (first | ((with_reducible refine gate_dst (N := 1) rfl ?_); refine box_event ?hg (N := 1) ?hd (cs := #[.string a0_0, .bool a0_1, .slice A0_2 l0_2.length c0_2]) (t := 62) ?hr ?_; (case hd => rfl); (case hg => rfl); (case hr => first | (go_simp; done) | (go_simp; rfl)); intro gb101 hg w5 hbox hb; have n0_ := Aside0.mk (below_step (by repeat (first | (with_reducible first | exact HB.out | apply below_alloc | apply pw_below_drewN | apply below_drew1) | exact HB.out)) hb); have n1_ := Aside0.mk (hbox); have n2_ := Aside0.mk ((by rw [hg]; exact (below_size (by repeat (first | (with_reducible first | exact HB.out | apply below_alloc | apply pw_below_drewN | apply below_drew1) | exact HB.out))) : w.heap.size ≤ gb101)); have n3_ := Aside0.mk ((by rw [hg]; exact (below_size (by repeat (first | (with_reducible first | exact HB.out | apply below_alloc | apply pw_below_drewN | apply below_drew1) | exact HB.out))) : w.heap.size ≤ gb101)); clear HB; have HB := n0_; have BK101 := n1_; have GW101 := n2_; have GE101 := n3_; clear n0_ n1_ n2_ n3_; clear hb hbox hg; have hcz6_0 : w5.cell? ⟨gb101, 0, none⟩ = some (.string a0_0) := (blk_cell BK101.out 0).trans rfl; have hcz6_1 : w5.cell? ⟨gb101, 1, none⟩ = some (.bool a0_1) := (blk_cell BK101.out 1).trans rfl; have hcz6_2 : w5.cell? ⟨gb101, 2, none⟩ = some (.slice A0_2 l0_2.length c0_2) := (blk_cell BK101.out 2).trans rfl; have hfz6_0 := blk_frozen BK101.out 0; have hfz6_1 := blk_frozen BK101.out 1; have hfz6_2 := blk_frozen BK101.out 2) | ((with_reducible refine gate_callee (f := 74) rfl ?_); refine goesL_ (some 5) rfl rfl Try.func74 (by kernel_rfl) rfl #[.agg #[.string a0_0, .bool a0_1, .slice A0_2 l0_2.length c0_2]] rfl (by (try simp only [List.map_toArray, List.map_cons, List.map_nil]); first | done | rfl | (simp only [List.length_drop, List.length_take]; rfl)) ?_; (with_reducible refine (item_May.calls a0_0 a0_1 _ _ l0_2 true _ ?side1 ?side2 A2.out).mono ?_); (case side1 => repeat (first | exact (Kd.C_below HR0_2.out HB.out) | (with_reducible refine Kd.C_alloc ?_ _) | (with_reducible refine Kd.C_drewN ?_ _) | (with_reducible refine Kd.C_drew ?_))); (case side2 => exact HC0_2.out); rintro e w7 ⟨rfl, hb⟩; refine ⟨_, rfl, ?_⟩; have n0_ := Aside0.mk (blk_below (g := gb101) (o := .cells #[.string a0_0, .bool a0_1, .slice A0_2 l0_2.length c0_2] 62 (0, 0)) (by (with_reducible repeat (first | refine blk_drewN ?_ _ | refine blk_drew ?_ | refine blk_alloc ?_ _)); exact BK101.out) hb); have n1_ := Aside0.mk (below_step (by repeat (first | (with_reducible first | exact HB.out | apply below_alloc | apply pw_below_drewN | apply below_drew1 | refine below_set ?_ GE101.out) | exact HB.out)) hb); clear BK101; clear HB; have BK101 := n0_; have HB := n1_; clear n0_ n1_; (try clear hb); (try clear hb2); (try clear hk); (try clear hi); have hcz8_0 : w7.cell? ⟨gb101, 0, none⟩ = some (.string a0_0) := (blk_cell BK101.out 0).trans rfl; have hcz8_1 : w7.cell? ⟨gb101, 1, none⟩ = some (.bool a0_1) := (blk_cell BK101.out 1).trans rfl; have hcz8_2 : w7.cell? ⟨gb101, 2, none⟩ = some (.slice A0_2 l0_2.length c0_2) := (blk_cell BK101.out 2).trans rfl; have hfz8_0 := blk_frozen BK101.out 0; have hfz8_1 := blk_frozen BK101.out 1; have hfz8_2 := blk_frozen BK101.out 2) | ((with_reducible refine gate_callee (f := 85) rfl ?_); refine goesL_ (some 8) rfl rfl Try.func85 (by kernel_rfl) rfl #[.agg #[.string a0_0, .bool a0_1, .slice A0_2 l0_2.length c0_2]] rfl (by (try simp only [List.map_toArray, List.map_cons, List.map_nil]); first | done | rfl | (simp only [List.length_drop, List.length_take]; rfl)) ?_; (with_reducible refine (rlp_put.calls a0_0 a0_1 _ _ l0_2 t103 _ ?side1 ?side2 A4.out).mono ?_); (case side1 => repeat (first | exact (Kd.C_below HR0_2.out HB.out) | (with_reducible refine Kd.C_alloc ?_ _) | (with_reducible refine Kd.C_drewN ?_ _) | (with_reducible refine Kd.C_drew ?_))); (case side2 => exact HC0_2.out); rintro e w9 ⟨rfl, hb⟩; refine ⟨_, rfl, ?_⟩; have n0_ := Aside0.mk (blk_below (g := gb101) (o := .cells #[.string a0_0, .bool a0_1, .slice A0_2 l0_2.length c0_2] 62 (0, 0)) (by (with_reducible repeat (first | refine blk_drewN ?_ _ | refine blk_drew ?_ | refine blk_alloc ?_ _)); exact BK101.out) hb); have n1_ := Aside0.mk (below_step (by repeat (first | (with_reducible first | exact HB.out | apply below_alloc | apply pw_below_drewN | apply below_drew1 | refine below_set ?_ GE101.out) | exact HB.out)) hb); clear BK101; clear HB; have BK101 := n0_; have HB := n1_; clear n0_ n1_; (try clear hb); (try clear hb2); (try clear hk); (try clear hi)))
  go_ret2
  exact ⟨by first | rfl | (simp [errW_none, errW_some] <;> rfl) | (simp [*, errW_none, errW_some] <;> rfl), by repeat (first | (with_reducible first | exact HB.out | apply below_alloc | apply pw_below_drewN | apply below_drew1 | refine below_set ?_ GE101.out) | exact HB.out)⟩
 ·replace c3 := Bool.eq_false_iff.mpr c3
  subst c3
  have H1 : (some ((⟨#[]⟩ : ByteArray), 1)) = some (r1, r2) := by rw [if_neg (show ¬ (false = true) by decide)] at H; exact H
  clear H
  have H := H1
  clear H1
  simp only [Option.some.injEq, Prod.mk.injEq] at H
  obtain ⟨rfl, rfl⟩ := H
  go_enter Try.func54, Try.ntmps54
  go_wp2_with (first | ((with_reducible refine gate_dst (N := 1) rfl ?_); refine box_event ?hg (N := 1) ?hd (cs := #[.string a0_0, .bool a0_1, .slice A0_2 l0_2.length c0_2]) (t := 62) ?hr ?_; (case hd => rfl); (case hg => rfl); (case hr => first | (go_simp; done) | (go_simp; rfl)); intro gb101 hg w10 hbox hb; have n0_ := Aside0.mk (below_step (by repeat (first | (with_reducible first | exact HB.out | apply below_alloc | apply pw_below_drewN | apply below_drew1) | exact HB.out)) hb); have n1_ := Aside0.mk (hbox); have n2_ := Aside0.mk ((by rw [hg]; exact (below_size (by repeat (first | (with_reducible first | exact HB.out | apply below_alloc | apply pw_below_drewN | apply below_drew1) | exact HB.out))) : w.heap.size ≤ gb101)); have n3_ := Aside0.mk ((by rw [hg]; exact (below_size (by repeat (first | (with_reducible first | exact HB.out | apply below_alloc | apply pw_below_drewN | apply below_drew1) | exact HB.out))) : w.heap.size ≤ gb101)); clear HB; have HB := n0_; have BK101 := n1_; have GW101 := n2_; have GE101 := n3_; clear n0_ n1_ n2_ n3_; clear hb hbox hg; have hcz11_0 : w10.cell? ⟨gb101, 0, none⟩ = some (.string a0_0) := (blk_cell BK101.out 0).trans rfl; have hcz11_1 : w10.cell? ⟨gb101, 1, none⟩ = some (.bool a0_1) := (blk_cell BK101.out 1).trans rfl; have hcz11_2 : w10.cell? ⟨gb101, 2, none⟩ = some (.slice A0_2 l0_2.length c0_2) := (blk_cell BK101.out 2).trans rfl; have hfz11_0 := blk_frozen BK101.out 0; have hfz11_1 := blk_frozen BK101.out 1; have hfz11_2 := blk_frozen BK101.out 2) | ((with_reducible refine gate_callee (f := 74) rfl ?_); refine goesL_ (some 5) rfl rfl Try.func74 (by kernel_rfl) rfl #[.agg #[.string a0_0, .bool a0_1, .slice A0_2 l0_2.length c0_2]] rfl (by (try simp only [List.map_toArray, List.map_cons, List.map_nil]); first | done | rfl | (simp only [List.length_drop, List.length_take]; rfl)) ?_; (with_reducible refine (item_May.calls a0_0 a0_1 _ _ l0_2 false _ ?side1 ?side2 A2.out).mono ?_); (case side1 => repeat (first | exact (Kd.C_below HR0_2.out HB.out) | (with_reducible refine Kd.C_alloc ?_ _) | (with_reducible refine Kd.C_drewN ?_ _) | (with_reducible refine Kd.C_drew ?_))); (case side2 => exact HC0_2.out); rintro e w12 ⟨rfl, hb⟩; refine ⟨_, rfl, ?_⟩; have n0_ := Aside0.mk (blk_below (g := gb101) (o := .cells #[.string a0_0, .bool a0_1, .slice A0_2 l0_2.length c0_2] 62 (0, 0)) (by (with_reducible repeat (first | refine blk_drewN ?_ _ | refine blk_drew ?_ | refine blk_alloc ?_ _)); exact BK101.out) hb); have n1_ := Aside0.mk (below_step (by repeat (first | (with_reducible first | exact HB.out | apply below_alloc | apply pw_below_drewN | apply below_drew1 | refine below_set ?_ GE101.out) | exact HB.out)) hb); clear BK101; clear HB; have BK101 := n0_; have HB := n1_; clear n0_ n1_; (try clear hb); (try clear hb2); (try clear hk); (try clear hi)))
  go_ret2
  exact ⟨by first | rfl | (simp [errW_none, errW_some] <;> rfl) | (simp [*, errW_none, errW_some] <;> rfl), by repeat (first | (with_reducible first | exact HB.out | apply below_alloc | apply pw_below_drewN | apply below_drew1 | refine below_set ?_ GE101.out) | exact HB.out)⟩
end Go.Proofs.Yteoibgpkimlahaa.P
end
section
namespace Go.Proofs.Yteoibgpkimlahaa.P
open Go.RowKit Go.Proofs.YteoibgpkimlahaaW.PrintWords Go.Proofs.YteoibgpkimlahaaW.PrintLast Go.Proofs.YteoibgpkimlahaaW.PrintMore
theorem headL_pos (by_ n : Int) : 1 ≤ (headL by_ n).length := by unfold headL; split <;> simp
theorem putsL_room : ∀ (ys : List S62), (∀ y ∈ ys, (putL y).length ≤ 9 * cnt y + tot y) → (putsL ys).length ≤ 9 * cnts ys + tots ys
 | [], _ => by simp [putsL]
 | y :: ys, h => by
  rw [putsL_cons, List.length_append, cnts_cons, tots_cons]
  have := h y (by simp)
  have := putsL_room ys (fun z hz => h z (List.mem_cons_of_mem _ hz))
  omega
theorem tots_mem : ∀ (ys : List S62) (y : S62), y ∈ ys → tot y ≤ tots ys
 | z :: zs, y, h => by
  rw [tots_cons]
  rcases List.mem_cons.1 h with rfl | h
  ·omega
  ·have := tots_mem zs y h; omega
theorem putL_room : ∀ (x : S62), cnt x ≤ 1200 → tot x ≤ 6000 → (putL x).length ≤ 9 * cnt x + tot x
 | ⟨t, l, sub⟩, hc, ht => by
  rw [cnt_eq] at hc
  rw [tot_eq] at ht
  have h := putsL_room sub (fun y hy => putL_room y (by have := cnts_mem sub y hy; omega) (by have := tots_mem sub y hy; omega))
  rw [putL_eq, cnt_eq, tot_eq]
  split
  ·have := headL_len 192 (putsL sub).length (by omega) (by omega)
   rw [List.length_append]
   omega
  ·split
   ·rw [bytesOf_length]; omega
   ·have := headL_len 128 t.size (by omega) (by omega)
    rw [List.length_append, bytesOf_length]
    omega
theorem putL_pos : ∀ (x : S62), 1 ≤ (putL x).length
 | ⟨t, l, sub⟩ => by
  rw [putL_eq]
  split
  ·have := headL_pos 192 (putsL sub).length
   rw [List.length_append]
   omega
  ·split
   ·rename_i h; rw [bytesOf_length]; omega
   ·have := headL_pos 128 t.size
    rw [List.length_append]
    omega
theorem head09_ev (by_ n : Int) (h0 : 0 ≤ n) (h1 : n ≤ 1099511627776) (hb : by_ = 128 ∨ by_ = 192) : Ev (fun k => hatchwayref09_head.f k by_ n) (strOfNums (headL by_ n)) := by
 have w : ∀ x : Int, 0 ≤ x → x ≤ 256 → wrap64 x = x := fun x h h' => by unfold wrap64; omega
 unfold headL
 by_cases c : n ≤ 55
 ·refine Ev.congr (f := fun _ => some (strOfNums [by_ + n])) (fun k => ?_) (by rw [if_pos c]; exact Ev.now _)
  rw [hatchwayref09_head.f, if_pos c, w _ (by omega) (by omega), Int.emod_eq_of_lt (by omega) (by omega)]
 ·have hu : IntKind.u64.wrap n = n := u64_small h0 (by omega)
  have hs := sz_u64 h0 (show n < 18446744073709551616 by omega)
  have hl : (strOfNums (digs n)).size = sz n := by rw [strOfNums_size, digs_length]
  rw [if_neg c]
  refine Ev.congr (f := fun k => (hatchwayref02_Least.f k n).bind fun t104 => ((some ([(wrap64 ((wrap64 (by_ + 55)) + (t104.size : Int))) % 256] : List Int)).bind fun y105 => (if (strOfNums y105).size + t104.size ≤ 9223372036854775807 then (some ((strOfNums y105) ++ t104)) else (none)))) (fun k => by rw [hatchwayref09_head.f, if_neg c, hu]) ?_
  refine Ev.bind (rLeast_is n h0 (by omega)) ?_
  have e : (some ([(wrap64 ((wrap64 (by_ + 55)) + ((strOfNums (digs n)).size : Int))) % 256] : List Int)).bind (fun y105 => (if (strOfNums y105).size + (strOfNums (digs n)).size ≤ 9223372036854775807 then (some ((strOfNums y105) ++ (strOfNums (digs n)))) else (none))) = some (strOfNums ((by_ + 55 + sz n) :: digs n)) := by
   rw [Option.bind_some, hl, w (by_ + 55) (by omega) (by omega), w _ (by omega) (by omega), Int.emod_eq_of_lt (by omega) (by omega), if_pos, ← str_append]
   ·rfl
   ·have e1 : (strOfNums [by_ + 55 + (sz n : Int)]).size = 1 := rfl
    omega
  exact Ev.congr (fun _ => e) (Ev.now _)
theorem size_head (by_ n : Int) (h0 : 0 ≤ n) (h1 : n < 18446744073709551616) : (strOfNums (headL by_ n)).size ≤ 9 := by rw [strOfNums_size]; exact headL_len by_ n h0 h1
theorem put_evs : ∀ (m : Nat) (ys : List S62), (∀ y ∈ ys, Ev (fun k => hatchwayref09_Put.f k y.f0 y.f1 y.f2) (strOfNums (putL y))) → ys.length = m →
  ∀ (t : ByteArray) (l : Bool) (all : List S62) (i : Nat) (acc : List Int), all.drop i = ys → all.length ≤ 1200 → acc.length + (putsL ys).length ≤ 1000000 →
   Ev (fun k => hatchwayref09_Put.l0 k (strOfNums acc) (i : Int) t l all) (strOfNums (headL 192 (acc ++ putsL ys).length ++ (acc ++ putsL ys))) := by
 intro m
 induction m with
 | zero =>
  intro ys _ hm t l all i acc hd hl hb
  obtain rfl := List.length_eq_zero_iff.1 hm
  have hi := rd_end hd
  rw [show putsL [] = [] by rw [putsL], List.append_nil] at *
  have hz : ((strOfNums acc).size : Int) = acc.length := by rw [strOfNums_size]
  refine Ev.step (f := fun k => (hatchwayref09_head.f k 192 (acc.length : Int)).bind fun t104 => (if t104.size + (strOfNums acc).size ≤ 9223372036854775807 then (some (t104 ++ strOfNums acc)) else (none))) (fun k => by rw [hatchwayref09_Put.l0, if_neg (by omega), hz]) ?_
  refine Ev.bind (head09_ev 192 acc.length (by omega) (by omega) (.inr rfl)) ?_
  have := size_head 192 acc.length (by omega) (by omega)
  refine Ev.congr (fun _ => if_pos (by omega)) ?_
  rw [str_append]
  exact Ev.now _
 | succ m ih =>
  intro ys hy hm t l all i acc hd hl hb
  cases ys with
  | nil => cases hm
  | cons y ys =>
   obtain ⟨hr, hi, hd2⟩ := rd_drop hd
   rw [putsL_cons, List.length_append] at hb
   refine Ev.step (f := fun k => (hatchwayref09_Put.f k y.f0 y.f1 y.f2).bind fun t103 => (if (strOfNums acc).size + t103.size ≤ 9223372036854775807 then (hatchwayref09_Put.l0 k (strOfNums acc ++ t103) ((i + 1 : Nat) : Int) t l all) else (none))) (fun k => by rw [hatchwayref09_Put.l0, if_pos (by omega), if_pos (by omega), hr, wrp1 i (by omega)]) ?_
   refine Ev.bind (hy y (by simp)) ?_
   refine Ev.congr (fun _ => if_pos (by rw [strOfNums_size, strOfNums_size]; omega)) ?_
   have e : acc ++ putsL (y :: ys) = (acc ++ putL y) ++ putsL ys := by rw [putsL_cons, List.append_assoc]
   rw [e, ← str_append]
   exact ih ys (fun z hz => hy z (List.mem_cons_of_mem _ hz)) (by simpa using hm) t l all (i + 1) (acc ++ putL y) hd2 hl (by rw [List.length_append]; omega)
theorem put_ev : ∀ (x : S62), cnt x ≤ 1200 → tot x ≤ 6000 → Ev (fun k => hatchwayref09_Put.f k x.f0 x.f1 x.f2) (strOfNums (putL x))
 | ⟨t, l, sub⟩, hc, ht => by
  have hrm := putL_room ⟨t, l, sub⟩ hc ht
  rw [cnt_eq] at hc
  rw [tot_eq] at ht
  rw [putL_eq] at hrm ⊢
  have hln := cnts_len sub
  cases l
  ·rw [if_neg (by simp)] at hrm ⊢
   have hz := size_head 128 t.size (by omega) (by omega)
   have hh := head09_ev 128 t.size (by omega) (by omega) (.inl rfl)
   have hs : Ev (fun k => (hatchwayref09_head.f k 128 (t.size : Int)).bind fun t105 => (if t105.size + t.size ≤ 9223372036854775807 then (some (t105 ++ t)) else (none))) (strOfNums (headL 128 t.size ++ bytesOf t)) := by
    refine Ev.bind hh ?_
    refine Ev.congr (fun _ => if_pos (by omega)) ?_
    rw [str_append, str_bytesOf]
    exact Ev.now _
   by_cases c1 : (t.size : Int) = 1
   ·by_cases c2 : bt t 0 < 128
    ·rw [if_pos ⟨by omega, c2⟩, str_bytesOf]
     exact Ev.step (f := fun _ => some t) (fun k => by rw [hatchwayref09_Put.f, if_neg (by simp), if_pos c1, if_pos (show (0 : Int) < (t.size : Int) by omega), if_pos c2]) (Ev.now _)
    ·rw [if_neg (fun h => c2 h.2)]
     exact Ev.step (fun k => by rw [hatchwayref09_Put.f, if_neg (by simp), if_pos c1, if_pos (show (0 : Int) < (t.size : Int) by omega), if_neg c2]) hs
   ·rw [if_neg (fun h => c1 (by omega))]
    exact Ev.step (fun k => by rw [hatchwayref09_Put.f, if_neg (by simp), if_neg c1]) hs
  ·rw [if_pos rfl] at hrm ⊢
   rw [List.length_append, cnt_eq, tot_eq] at hrm
   have h2 := put_evs sub.length sub (fun y hy => put_ev y (by have := cnts_mem sub y hy; omega) (by have := tots_mem sub y hy; omega)) rfl t true sub 0 [] (by simp) (by omega) (by simp only [List.length_nil]; omega)
   rw [List.nil_append] at h2
   exact Ev.step (f := fun k => hatchwayref09_Put.l0 k (strOfNums []) ((0 : Nat) : Int) t true sub) (fun k => by rw [hatchwayref09_Put.f, if_pos rfl]; rfl) h2
theorem rlpPut_is (x : S62) (h1 : cnt x ≤ 1200) (h2 : tot x ≤ 6000) : rlp_put.f x.f0 x.f1 x.f2 = some (strOfNums (putL x)) := by
 unfold rlp_put.f
 have hx : (⟨x.f0, x.f1, x.f2⟩ : S62) = x := by cases x; rfl
 have := putL_room x h1 h2
 rw [hx, if_pos (by omega)]
end Go.Proofs.Yteoibgpkimlahaa.P
end
section
namespace Go.Proofs.Yteoibgpkimlahaa.P
open Go.RowKit Go.Proofs.YteoibgpkimlahaaW.PrintWords Go.Proofs.YteoibgpkimlahaaW.PrintLast Go.Proofs.YteoibgpkimlahaaW.PrintMore
theorem rlpPut_may (x : S62) (h1 : cnt x ≤ 1200) (h2 : tot x ≤ 6000) (hm : mayI x = true) : rlp_Put.f x.f0 x.f1 x.f2 = some (strOfNums (putL x), 0) := by
 unfold rlp_Put.f
 rw [itemMay_is, hm, Option.bind_some, if_pos rfl, rlpPut_is x h1 h2, Option.bind_some]
end Go.Proofs.Yteoibgpkimlahaa.P
end
