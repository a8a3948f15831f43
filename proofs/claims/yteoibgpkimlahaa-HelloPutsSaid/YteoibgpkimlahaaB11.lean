/- Whether any hello may be, and its bytes, or the error, are the document's; it is got again. (part 11 of 27) -/
import Derived.Laws.EntriesVeiled
import Derived.Test.YteoibgpkimlahaaB6
import Derived.Test.YteoibgpkimlahaaB8
section
namespace Go.Proofs.Yteoibgpkimlahaa.P
open Go.RowKit Go.Proofs.YteoibgpkimlahaaW.PrintWords Go.Proofs.YteoibgpkimlahaaW.PrintLast Go.Proofs.YteoibgpkimlahaaW.PrintMore
attribute [local go_sem] max2_int min2_int max_two min_two max_three min_three max_four min_four   
set_option linter.unusedVariables false
set_option linter.unusedSimpArgs false
mutual
def iwalk : S62 → Int → Int → Int → Int × Int × Bool
 | ⟨t, l, sub⟩, deep, c, d => if 16 < deep ∨ 1024 < c + 1 ∨ (l = true ∧ t.toList ≠ []) ∨ (l = false ∧ sub ≠ []) then (c + 1, mx d deep, false) else iwalks sub (deep + 1) (c + 1) (mx d deep)
def iwalks : List S62 → Int → Int → Int → Int × Int × Bool
 | [], _, c, d => (c, d, true)
 | y :: ys, deep, c, d => if (iwalk y deep c d).2.2 = true then iwalks ys deep (iwalk y deep c d).1 (iwalk y deep c d).2.1 else iwalk y deep c d
end
theorem iwalk_eq (t : ByteArray) (l : Bool) (sub : List S62) (deep c d : Int) : iwalk ⟨t, l, sub⟩ deep c d = if 16 < deep ∨ 1024 < c + 1 ∨ (l = true ∧ t.toList ≠ []) ∨ (l = false ∧ sub ≠ []) then (c + 1, mx d deep, false) else iwalks sub (deep + 1) (c + 1) (mx d deep) := by rw [iwalk]
theorem iwalks_cons (y : S62) (ys : List S62) (deep c d : Int) : iwalks (y :: ys) deep c d = if (iwalk y deep c d).2.2 = true then iwalks ys deep (iwalk y deep c d).1 (iwalk y deep c d).2.1 else iwalk y deep c d := by rw [iwalks]
mutual
theorem iwalk_bd : ∀ (x : S62) (deep c d : Int), 0 ≤ c → c ≤ 1024 → c + 1 ≤ (iwalk x deep c d).1 ∧ ((iwalk x deep c d).2.2 = true → (iwalk x deep c d).1 ≤ 1024)
 | ⟨t, l, sub⟩, deep, c, d, h0, h1 => by
  rw [iwalk_eq]
  split
  ·exact ⟨Int.le_refl _, fun h => by cases h⟩
  ·rename_i h
   have := iwalks_bd sub (deep + 1) (c + 1) (mx d deep) (by omega) (by omega)
   exact ⟨by omega, this.2⟩
theorem iwalks_bd : ∀ (xs : List S62) (deep c d : Int), 0 ≤ c → c ≤ 1024 → c ≤ (iwalks xs deep c d).1 ∧ ((iwalks xs deep c d).2.2 = true → (iwalks xs deep c d).1 ≤ 1024)
 | [], _, c, d, h0, h1 => by rw [iwalks]; exact ⟨Int.le_refl _, fun _ => h1⟩
 | y :: ys, deep, c, d, h0, h1 => by
  rw [iwalks_cons]
  have hy := iwalk_bd y deep c d h0 h1
  split
  ·rename_i h
   have := iwalks_bd ys deep (iwalk y deep c d).1 (iwalk y deep c d).2.1 (by omega) (hy.2 h)
   exact ⟨by omega, this.2⟩
  ·exact ⟨by omega, hy.2⟩
end
structure IWalk (w0 W : World) (bc bd ba : Nat) (c d : Int) : Prop where
 hc : W.heap[bc]? = some (.cells #[.int .i64 c] 3 (0, 0))
 hd : W.heap[bd]? = some (.cells #[.int .i64 d] 3 (0, 0))
 ha : W.heap[ba]? = some (.cells #[.func (.func 117) #[] #[.pointer (some ⟨bc, 0, none⟩), .pointer (some ⟨bd, 0, none⟩), .pointer (some ⟨ba, 0, none⟩)]] 170 (0, 0))
 hcd : bc ≠ bd
 gc : w0.heap.size ≤ bc
 gd : w0.heap.size ≤ bd
 ga : w0.heap.size ≤ ba
theorem IWalk.conv {w0 W : World} {bc bd ba : Nat} {c c2 d : Int} (h : IWalk w0 W bc bd ba c d) (e : c = c2) : IWalk w0 W bc bd ba c2 d := e ▸ h
theorem S62.eta (x : S62) : (⟨x.f0, x.f1, x.f2⟩ : S62) = x := by cases x; rfl
theorem IWalk.below {w0 W W1 : World} {bc bd ba : Nat} {c d : Int} (h : IWalk w0 W bc bd ba c d) (hb : Below W.heap.size W W1) : IWalk w0 W1 bc bd ba c d :=
 ⟨blk_below h.hc hb, blk_below h.hd hb, blk_below h.ha hb, h.hcd, h.gc, h.gd, h.ga⟩
theorem IWalk.alloc {w0 W : World} {bc bd ba : Nat} {c d : Int} (h : IWalk w0 W bc bd ba c d) (o : Obj) : IWalk w0 (W.alloc o) bc bd ba c d := h.below (below_alloc (Below.refl _ _) o)
theorem IWalk.ne_ca {w0 W : World} {bc bd ba : Nat} {c d : Int} (h : IWalk w0 W bc bd ba c d) : bc ≠ ba := by
 rintro rfl
 have := h.hc.symm.trans h.ha
 injection this with this
 injection this with h1 h2
 exact absurd h2 (by decide)
theorem IWalk.ne_da {w0 W : World} {bc bd ba : Nat} {c d : Int} (h : IWalk w0 W bc bd ba c d) : bd ≠ ba := by
 rintro rfl
 have := h.hd.symm.trans h.ha
 injection this with this
 injection this with h1 h2
 exact absurd h2 (by decide)
theorem IWalk.setc {w0 W : World} {bc bd ba : Nat} {c d : Int} (h : IWalk w0 W bc bd ba c d) (x : Int) : IWalk w0 (W.setCell ⟨bc, 0, none⟩ (.int .i64 x)) bc bd ba x d :=
 ⟨by simpa using blk_set h.hc 0 (.int .i64 x), blk_far h.hd h.hcd.symm _, blk_far h.ha h.ne_ca.symm _, h.hcd, h.gc, h.gd, h.ga⟩
theorem IWalk.setd {w0 W : World} {bc bd ba : Nat} {c d : Int} (h : IWalk w0 W bc bd ba c d) (x : Int) : IWalk w0 (W.setCell ⟨bd, 0, none⟩ (.int .i64 x)) bc bd ba c x :=
 ⟨blk_far h.hc h.hcd _, by simpa using blk_set h.hd 0 (.int .i64 x), blk_far h.ha h.ne_da.symm _, h.hcd, h.gc, h.gd, h.ga⟩
theorem IWalk.reads {w0 w : World} {bc bd ba : Nat} {c d : Int} (h : IWalk w0 w bc bd ba c d) (u1 u2 u3 : Value) (c' d' : Int) :
  (w.alloc (.cells #[u1, u2, u3] 62 (0, 0))).cell? ⟨bc, 0, none⟩ = some (.int .i64 c) ∧ (w.alloc (.cells #[u1, u2, u3] 62 (0, 0))).frozen? ⟨bc, 0, none⟩ = false ∧
  ((w.alloc (.cells #[u1, u2, u3] 62 (0, 0))).setCell ⟨bc, 0, none⟩ (.int .i64 c')).cell? ⟨bd, 0, none⟩ = some (.int .i64 d) ∧ ((w.alloc (.cells #[u1, u2, u3] 62 (0, 0))).setCell ⟨bc, 0, none⟩ (.int .i64 c')).frozen? ⟨bd, 0, none⟩ = false ∧
  (((w.alloc (.cells #[u1, u2, u3] 62 (0, 0))).setCell ⟨bc, 0, none⟩ (.int .i64 c')).setCell ⟨bd, 0, none⟩ (.int .i64 d')).heap[w.heap.size]? = some (.cells #[u1, u2, u3] 62 (0, 0)) ∧
  (((w.alloc (.cells #[u1, u2, u3] 62 (0, 0))).setCell ⟨bc, 0, none⟩ (.int .i64 c')).setCell ⟨bd, 0, none⟩ (.int .i64 d')).cell? ⟨bc, 0, none⟩ = some (.int .i64 c') ∧
  (((w.alloc (.cells #[u1, u2, u3] 62 (0, 0))).setCell ⟨bc, 0, none⟩ (.int .i64 c')).setCell ⟨bd, 0, none⟩ (.int .i64 d')).cell? ⟨w.heap.size, 0, none⟩ = some u1 ∧
  (((w.alloc (.cells #[u1, u2, u3] 62 (0, 0))).setCell ⟨bc, 0, none⟩ (.int .i64 c')).setCell ⟨bd, 0, none⟩ (.int .i64 d')).cell? ⟨w.heap.size, 1, none⟩ = some u2 ∧
  (((w.alloc (.cells #[u1, u2, u3] 62 (0, 0))).setCell ⟨bc, 0, none⟩ (.int .i64 c')).setCell ⟨bd, 0, none⟩ (.int .i64 d')).cell? ⟨w.heap.size, 2, none⟩ = some u3 ∧
  IWalk w0 (((w.alloc (.cells #[u1, u2, u3] 62 (0, 0))).setCell ⟨bc, 0, none⟩ (.int .i64 c')).setCell ⟨bd, 0, none⟩ (.int .i64 d')) bc bd ba c' d' := by
 have h1 := h.alloc (.cells #[u1, u2, u3] 62 (0, 0))
 have h2 := h1.setc c'
 have h3 := h2.setd d'
 have hc := blk_lt h.hc
 have hd := blk_lt h.hd
 have hb := blk_far (blk_far (blk_new w (.cells #[u1, u2, u3] 62 (0, 0))) (p := ⟨bc, 0, none⟩) (by show w.heap.size ≠ bc; omega) (.int .i64 c')) (p := ⟨bd, 0, none⟩) (by show w.heap.size ≠ bd; omega) (.int .i64 d')
 exact ⟨(blk_cell h1.hc 0).trans rfl, blk_frozen h1.hc 0, (blk_cell h2.hd 0).trans rfl, blk_frozen h2.hd 0, hb, (blk_cell h3.hc 0).trans rfl, (blk_cell hb 0).trans rfl, (blk_cell hb 1).trans rfl, (blk_cell hb 2).trans rfl, h3⟩
set_option maxHeartbeats 8000000 in
set_option maxRecDepth 100000 in
theorem item_walk_lit (n : Nat) : ∀ (t : ByteArray) (l : Bool) (A : Option Addr) (cp : Nat) (sub : List S62) (deep c d : Int) (bc bd ba : Nat) (w0 w : World),
  SizeOf.sizeOf sub ≤ n → 0 ≤ c → c ≤ 1024 → 0 ≤ deep → deep ≤ 17 → Kd.C k62 w0 A sub.length sub → sub.length ≤ cp → IWalk w0 w bc bd ba c d → Below w0.heap.size w0 w →
  Calls Try.prog 117 #[.agg #[.string t, .bool l, .slice A sub.length cp], .int .i64 deep, .pointer (some ⟨bc, 0, none⟩), .pointer (some ⟨bd, 0, none⟩), .pointer (some ⟨ba, 0, none⟩)] w fun e w' =>
   e = .returned (.bool (iwalk ⟨t, l, sub⟩ deep c d).2.2) ∧ IWalk w0 w' bc bd ba (iwalk ⟨t, l, sub⟩ deep c d).1 (iwalk ⟨t, l, sub⟩ deep c d).2.1 ∧ Below w0.heap.size w0 w' ∧ Kept w w' (fun k => k = bc ∨ k = bd) := by
 induction n with
 | zero =>
  intro t l A cp sub deep c d bc bd ba w0 w hn
  cases sub <;> simp at hn
 | succ n ih =>
 intro t l A cp sub deep c d bc bd ba w0 w hn h0 h1 h2 h3 hC hcp hI hB
 have hu62 := Try.underlying62
 have hI0 := hI
 have HR := Aside0.mk hC
 have HC := Aside0.mk hcp
 have HI := Aside0.mk hI
 have HB := Aside0.mk hB
 obtain ⟨m, hm'⟩ : ∃ m, mx d deep = m := ⟨_, rfl⟩
 have hm : (if d < deep then deep else d) = m := hm'
 obtain ⟨q1, q2, q3, q4, q5, hcc, hq0, hq1, hq2, q6⟩ := hI0.reads (.string t) (.bool l) (.slice A sub.length cp) (wrap64 (c + 1)) m
 have hf0 := blk_frozen q5 0
 have hf1 := blk_frozen q5 1
 have hf2 := blk_frozen q5 2
 have hcf := blk_frozen q6.hc 0
 have hw1 : wrap64 (c + 1) = c + 1 := by unfold wrap64; omega
 have w16 : wrap64 (deep + 1) = deep + 1 := by unfold wrap64; omega
 have HB6 := Aside0.mk (show Below w0.heap.size w0 _ from below_set (below_set (below_alloc hB (.cells #[.string t, .bool l, .slice A sub.length cp] 62 (0, 0))) (g := bc) (j := 0) (v := .int .i64 (wrap64 (c + 1))) hI0.gc) (g := bd) (j := 0) (v := .int .i64 m) hI0.gd)
 have HK6 := Aside0.mk (show Kept w _ (fun k => k = bc ∨ k = bd) from (((Kept.refl w (fun k => k = bc ∨ k = bd)).alloc (.cells #[.string t, .bool l, .slice A sub.length cp] 62 (0, 0))).setCell (p := ⟨bc, 0, none⟩) (.inl (.inl rfl)) (.int .i64 (wrap64 (c + 1)))).setCell (p := ⟨bd, 0, none⟩) (.inl (.inr rfl)) (.int .i64 m))
 have Q5 := Aside0.mk q5
 have Q6 := Aside0.mk (q6.conv hw1)
 have HW := Aside0.mk hw1
 have HP := Aside0.mk (show 0 ≤ deep ∧ 0 ≤ c + 1 ∧ c ≤ 1024 by omega)
 clear hC hcp hI hB hI0 q5 q6 hw1 h0 h1 h2 h3
 by_cases b1 : 16 < deep
 ·rw [show iwalk ⟨t, l, sub⟩ deep c d = (c + 1, m, false) by rw [iwalk_eq, if_pos (.inl b1)]; rw [hm']]
  have d1 : decide (16 < deep) = true := decide_eq_true b1
  clear b1
  go_enter Try.func117, Try.ntmps117
  go_wp2
  go_ret
  exact ⟨rfl, Q6.out, HB6.out, HK6.out⟩
 have d1 : decide (16 < deep) = false := decide_eq_false b1
 by_cases b2 : 1024 < c + 1
 ·rw [show iwalk ⟨t, l, sub⟩ deep c d = (c + 1, m, false) by rw [iwalk_eq, if_pos (.inr (.inl b2))]; rw [hm']]
  have d2 : decide (1024 < wrap64 (c + 1)) = true := by rw [HW.out]; exact decide_eq_true b2
  clear b1 b2
  go_enter Try.func117, Try.ntmps117
  go_wp2
  go_ret
  exact ⟨rfl, Q6.out, HB6.out, HK6.out⟩
 have d2 : decide (1024 < wrap64 (c + 1)) = false := by rw [HW.out]; exact decide_eq_false b2
 have d3 : decide (0 < (sub.length : Int)) = (!sub.isEmpty) := by cases sub <;> simp
 by_cases b3 : l = true ∧ t.toList ≠ []
 ·rw [show iwalk ⟨t, l, sub⟩ deep c d = (c + 1, m, false) by rw [iwalk_eq, if_pos (.inr (.inr (.inl b3)))]; rw [hm']]
  obtain ⟨rfl, b3⟩ := b3
  have d4 : (t.toList == []) = false := by simpa using b3
  clear b1 b2 b3
  go_enter Try.func117, Try.ntmps117
  go_wp2
  go_ret
  exact ⟨rfl, Q6.out, HB6.out, HK6.out⟩
 by_cases b4 : l = false ∧ sub ≠ []
 ·rw [show iwalk ⟨t, l, sub⟩ deep c d = (c + 1, m, false) by rw [iwalk_eq, if_pos (.inr (.inr (.inr b4)))]; rw [hm']]
  obtain ⟨rfl, b4⟩ := b4
  have d5 : decide (0 < (sub.length : Int)) = true := by cases sub <;> simp at *
  have d6 : decide (0 < sub.length) = true := by cases sub <;> simp at *
  clear b1 b2 b3 b4 d3
  go_enter Try.func117, Try.ntmps117
  go_wp2
  go_ret
  exact ⟨rfl, Q6.out, HB6.out, HK6.out⟩
 have e0 : iwalk ⟨t, l, sub⟩ deep c d = iwalks sub (deep + 1) (c + 1) m := by rw [iwalk_eq, if_neg (by simp only [not_or]; exact ⟨b1, b2, b3, b4⟩), hm']
 rw [e0]
 obtain ⟨dt, d4, d5, d6⟩ : ∃ dt : Bool, (t.toList == []) = (dt || l) ∧ decide (0 < (sub.length : Int)) = (l && decide (0 < (sub.length : Int))) ∧ decide (0 < sub.length) = (l && decide (0 < sub.length)) := by
  cases l
  ·refine ⟨t.toList == [], by simp, ?_, ?_⟩ <;> cases sub <;> simp at b4 ⊢
  ·refine ⟨true, ?_, by simp, by simp⟩
   by_cases ht : t.toList = []
   ·simp [ht]
   ·exact absurd ⟨rfl, ht⟩ b3
 have E0 := Aside0.mk e0
 have HN := Aside0.mk hn
 have HG := Aside0.mk (show deep ≤ 16 by omega)
 have HQ := Aside0.mk (show c + 1 ≤ 1024 by omega)
 clear b1 b2 b3 b4 e0 d3 hn
 cases l
 all_goals
  simp only [Bool.or_false, Bool.or_true, Bool.false_and, Bool.true_and] at d4 d5 d6
  go_enter Try.func117, Try.ntmps117
  go_wp2
  go_loopg [44] sub.length (fun kq v44 w' => ∃ (i c1 d1 : Int), v44 = .int .i64 i ∧ Aside0 (0 ≤ i ∧ i.toNat + kq = sub.length ∧ i ≤ c1 ∧ c1 ≤ 1024) ∧ Aside0 (iwalks sub (deep + 1) (c + 1) m = iwalks (sub.drop i.toNat) (deep + 1) c1 d1) ∧ Aside0 (IWalk w0 w' bc bd ba c1 d1) ∧ Aside0 (Below w0.heap.size w0 w') ∧ Aside0 (Kept w w' (fun k => k = bc ∨ k = bd)) ∧ Aside0 (∃ o, w'.heap[w.heap.size]? = some (.cells #[.string t, .bool o, .slice A sub.length cp] 62 (0, 0))))
  case atStart => exact ⟨0, c + 1, m, rfl, ⟨⟨Int.le_refl _, by simp, HP.out.2.1, HQ.out⟩⟩, ⟨rfl⟩, Q6, HB6, HK6, ⟨_, Q5.out⟩⟩
  case round =>
   obtain ⟨i, c1, d1, rfl, H0, HE, HI1, HB1, HK1, HX⟩ := hrel
   cases gk with
   | zero =>
    have ei : i = (sub.length : Int) := by have := H0.out; omega
    have hE : iwalks sub (deep + 1) (c + 1) m = (c1, d1, true) := by
     rw [HE.out, ei, Int.toNat_natCast, List.drop_length, iwalks]
    subst ei
    have c0 : decide ((sub.length : Int) < (sub.length : Int)) = false := by simp
    go_wp2
    go_ret
    rw [hE]
    exact ⟨rfl, HI1.out, HB1.out, HK1.out⟩
   | succ k1 =>
    have p0 : 0 ≤ i := H0.out.1
    have q0 : i < (sub.length : Int) := by have := H0.out; omega
    have c0 : decide (i < (sub.length : Int)) = true := decide_eq_true q0
    have hd0 : sub.drop i.toNat = rd_T62 sub i :: sub.drop (i.toNat + 1) := by
     have hlt : i.toNat < sub.length := by omega
     rw [List.drop_eq_getElem_cons hlt]
     simp [rd_T62, List.getD, hlt]
    obtain ⟨ad, A2, c2, ea, hx0, hx1, hx2, hl2, hi2⟩ := at_T62 HR.out i p0 q0
    cases ea
    replace hx0 := (HB1.out.cell (World.block_lt_of_cell? w0 _ hx0)).trans hx0
    replace hx1 := (HB1.out.cell (World.block_lt_of_cell? w0 _ hx1)).trans hx1
    replace hx2 := (HB1.out.cell (World.block_lt_of_cell? w0 _ hx2)).trans hx2
    have HR2 := Aside0.mk hi2
    have HC2 := Aside0.mk hl2
    have hsz : SizeOf.sizeOf (rd_T62 sub i).f2 ≤ n := by
     have hm : rd_T62 sub i ∈ sub := by
      have hlt : i.toNat < sub.length := by omega
      simp [rd_T62, List.getD, hlt]
     have h1 := List.sizeOf_lt_of_mem hm
     have h2 : SizeOf.sizeOf (rd_T62 sub i).f2 < SizeOf.sizeOf (rd_T62 sub i) := by
      cases rd_T62 sub i
      simp
     have := HN.out
     omega
    have HS := Aside0.mk hsz
    have HD := Aside0.mk hd0
    replace p0 := eq_true p0
    replace q0 := eq_true q0
    have ha : ∀ o, (wr.alloc o).cell? ⟨ba, 0, none⟩ = some (.func (.func 117) #[] #[.pointer (some ⟨bc, 0, none⟩), .pointer (some ⟨bd, 0, none⟩), .pointer (some ⟨ba, 0, none⟩)]) := fun o => (blk_cell (HI1.out.alloc o).ha 0).trans rfl
    clear hi2 hl2 hsz hd0
    have hbd := iwalk_bd (rd_T62 sub i) (deep + 1) c1 d1 (by have := H0.out; omega) H0.out.2.2.2
    obtain ⟨⟨rc, rd, rb⟩, hr⟩ : ∃ r, iwalk (rd_T62 sub i) (deep + 1) c1 d1 = r := ⟨_, rfl⟩
    rw [hr] at hbd
    have HBD := Aside0.mk hbd
    have HRR := Aside0.mk hr
    have HNX := Aside0.mk (show iwalks sub (deep + 1) (c + 1) m = if rb = true then iwalks (sub.drop (i.toNat + 1)) (deep + 1) rc rd else (rc, rd, rb) by
     rw [HE.out, HD.out, iwalks_cons, hr])
    clear hbd hr
    go_wp2_with fail
    refine (ih (rd_T62 sub i).f0 (rd_T62 sub i).f1 A2 c2 (rd_T62 sub i).f2 (deep + 1) c1 d1 bc bd ba w0 _ HS.out (by have := H0.out; omega) H0.out.2.2.2 (by have := HP.out; omega) (by have := HG.out; omega) HR2.out HC2.out (HI1.out.alloc _) (below_alloc HB1.out _)).mono ?_
    intro e w7 hq
    have hq' : e = .returned (.bool rb) ∧ IWalk w0 w7 bc bd ba rc rd ∧ Below w0.heap.size w0 w7 ∧ Kept (wr.alloc (.cells #[.string (rd_T62 sub i).f0, .bool (rd_T62 sub i).f1, .slice A2 (rd_T62 sub i).f2.length c2] 62 (0, 0))) w7 (fun k => k = bc ∨ k = bd) := by
     have := HRR.out
     rw [show (⟨(rd_T62 sub i).f0, (rd_T62 sub i).f1, (rd_T62 sub i).f2⟩ : S62) = rd_T62 sub i from S62.eta _, this] at hq
     exact hq
    obtain ⟨rfl, hI7, hB7, hK7⟩ := hq'
    clear hq
    have HI7 := Aside0.mk hI7
    have HB7 := Aside0.mk hB7
    have HK7 := Aside0.mk (show Kept w w7 (fun k => k = bc ∨ k = bd) from (HK1.out.alloc _).then_ hK7 (fun _ hk => .inl hk))
    obtain ⟨o, hX⟩ := HX.out
    have HX7 := Aside0.mk (blk_kept (blk_alloc hX (.cells #[.string (rd_T62 sub i).f0, .bool (rd_T62 sub i).f1, .slice A2 (rd_T62 sub i).f2.length c2] 62 (0, 0))) hK7 (by
     have h1 := blk_lt HI.out.hc
     have h2 := blk_lt HI.out.hd
     omega))
    clear hI7 hB7 hK7 hX
    cases rb
    ·go_wp2
     go_ret
     rw [HNX.out]
     exact ⟨rfl, HI7.out, HB7.out, HK7.out⟩
    ·have WI := Aside0.mk (show wrap64 (i + 1) = i + 1 by have := H0.out; unfold wrap64; omega)
     go_wp2
     go_roundg k1
     case measure => omega
     case rel => exact ⟨wrap64 (i + 1), rc, rd, rfl, ⟨by rw [WI.out]; have := H0.out; have := HBD.out; have := this.2 trivial; omega⟩, ⟨by rw [HNX.out, if_pos trivial, WI.out, show (i + 1).toNat = i.toNat + 1 by have := H0.out; omega]⟩, HI7, HB7, HK7, ⟨_, HX7.out⟩⟩
def item_walk.f (t : ByteArray) (l : Bool) (sub : List S62) : Option (Int × Int × Bool) := some (iwalk ⟨t, l, sub⟩ 1 0 0)
set_option maxHeartbeats 8000000 in
set_option maxRecDepth 100000 in
theorem item_walk.calls (a0_0 : ByteArray) (a0_1 : Bool) (A0_2 : Option Addr) (c0_2 : Nat) (l0_2 : List (S62)) (r1 r2 : Int) (r3 : Bool) (w : World) (hr0_2 : Kd.C k62 w A0_2 l0_2.length l0_2) (hc0_2 : l0_2.length ≤ c0_2) (h : item_walk.f a0_0 a0_1 l0_2 = some (r1, r2, r3)) :
  Calls Try.prog 97 #[.agg #[.string a0_0, .bool a0_1, .slice A0_2 l0_2.length c0_2]] w fun e w' => e = .returned (.tuple #[.int .i64 r1, .int .i64 r2, .bool r3]) ∧ Below w.heap.size w w' := by
 have hu62 := Try.underlying62
 have HR := Aside0.mk hr0_2
 have HC := Aside0.mk hc0_2
 have HE := Aside0.mk (Option.some.inj h)
 clear hr0_2 hc0_2 h
 go_enter Try.func97, Try.ntmps97
 go_wp2_with fail
 have hI : ∀ o1 fv, IWalk w ((((w.alloc o1).alloc (.cells #[.int .i64 0] 3 (0, 0))).alloc (.cells #[.int .i64 0] 3 (0, 0))).alloc (.cells #[.func (.func 117) #[] #[.pointer (some ⟨w.heap.size + 1, 0, none⟩), .pointer (some ⟨w.heap.size + 1 + 1, 0, none⟩), .pointer (some ⟨w.heap.size + 1 + 1 + 1, 0, none⟩)]] fv (0, 0)))
   (w.heap.size + 1) (w.heap.size + 1 + 1) (w.heap.size + 1 + 1 + 1) 0 0 ∨ fv ≠ 170 := by
  intro o1 fv
  by_cases hfv : fv = 170
  ·subst hfv
   have s1 : (w.alloc o1).heap.size = w.heap.size + 1 := by simp
   have s2 : ((w.alloc o1).alloc (.cells #[.int .i64 0] 3 (0, 0))).heap.size = w.heap.size + 1 + 1 := by simp
   have s3 : (((w.alloc o1).alloc (.cells #[.int .i64 0] 3 (0, 0))).alloc (.cells #[.int .i64 0] 3 (0, 0))).heap.size = w.heap.size + 1 + 1 + 1 := by simp
   refine .inl ⟨?_, ?_, ?_, by omega, by omega, by omega, by omega⟩
   ·exact blk_alloc (blk_alloc (by rw [← s1]; exact blk_new _ _) _) _
   ·exact blk_alloc (by rw [← s2]; exact blk_new _ _) _
   ·have := blk_new (((w.alloc o1).alloc (.cells #[.int .i64 0] 3 (0, 0))).alloc (.cells #[.int .i64 0] 3 (0, 0))) (.cells #[.func (.func 117) #[] #[.pointer (some ⟨w.heap.size + 1, 0, none⟩), .pointer (some ⟨w.heap.size + 1 + 1, 0, none⟩), .pointer (some ⟨w.heap.size + 1 + 1 + 1, 0, none⟩)]] 170 (0, 0))
    rw [s3] at this
    exact this
  ·exact .inr hfv
 refine (item_walk_lit (SizeOf.sizeOf l0_2) a0_0 a0_1 A0_2 c0_2 l0_2 1 0 0 _ _ _ w _ (Nat.le_refl _) (by omega) (by omega) (by omega) (by omega) HR.out HC.out ((hI _ _).resolve_right (fun hne => hne rfl)) (below_alloc (below_alloc (below_alloc (below_alloc (Below.refl _ _) _) _) _) _)).mono ?_
 rintro e w5 ⟨rfl, hI5, hB5, -⟩
 rw [HE.out] at hI5 ⊢
 have hcc : w5.cell? ⟨w.heap.size + 1, 0, none⟩ = some (.int .i64 r1) := (blk_cell hI5.hc 0).trans rfl
 have hdc : w5.cell? ⟨w.heap.size + 1 + 1, 0, none⟩ = some (.int .i64 r2) := (blk_cell hI5.hd 0).trans rfl
 have hcf := blk_frozen hI5.hc 0
 have hdf := blk_frozen hI5.hd 0
 have HB := Aside0.mk hB5
 clear hI hI5 hB5
 go_wp2
 repeat (go_quiet (fail); try go_wp2)
 go_ret3
 exact ⟨rfl, pw_below_drewN HB.out _⟩
end Go.Proofs.Yteoibgpkimlahaa.P
end
section
namespace Go.Proofs.Yteoibgpkimlahaa.P
open Go.RowKit Go.Proofs.YteoibgpkimlahaaW.PrintWords Go.Proofs.YteoibgpkimlahaaW.PrintLast Go.Proofs.YteoibgpkimlahaaW.PrintMore
attribute [local go_sem] max2_int min2_int max_two min_two max_three min_three max_four min_four   
set_option linter.unusedVariables false
set_option linter.unusedSimpArgs false
def item_May.f (a0_0 : ByteArray) (a0_1 : Bool) (l0_2 : List (S62)) : Option (Bool) := (item_walk.f a0_0 a0_1 l0_2).bind fun bt102 => (some bt102.2.2)
set_option maxHeartbeats 8000000 in
set_option maxRecDepth 100000 in
theorem item_May.calls (a0_0 : ByteArray) (a0_1 : Bool) (A0_2 : Option Addr) (c0_2 : Nat) (l0_2 : List (S62)) (r : Bool) (w : World) (hr0_2 : Kd.C k62 w A0_2 l0_2.length l0_2) (hc0_2 : l0_2.length ≤ c0_2) (h : item_May.f a0_0 a0_1 l0_2 = some r) :
  Calls Try.prog 74 #[.agg #[.string a0_0, .bool a0_1, .slice A0_2 l0_2.length c0_2]] w fun e w' => e = .returned (.bool r) ∧ Below w.heap.size w w' := by
 have hu62 := Try.underlying62
 have HR0_2 := Aside0.mk hr0_2
 have HC0_2 := Aside0.mk hc0_2
 clear hr0_2 hc0_2
 have HB := Aside0.mk (Below.refl w.heap.size w)
 have H : ((item_walk.f a0_0 a0_1 l0_2).bind fun bt102 => (some bt102.2.2)) = some r := h
 clear h
 replace H := Option.bind_eq_some_iff.mp H
 obtain ⟨⟨t102, t103, t104⟩, A20, H⟩ := H
 replace H : (some t104) = some r := H
 have A2 := Aside0.mk A20
 clear A20
 obtain rfl := Option.some.inj H
 go_enter Try.func74, Try.ntmps74
 go_wp2_with (first | ((with_reducible refine gate_dst (N := 1) rfl ?_); refine box_event ?hg (N := 1) ?hd (cs := #[.string a0_0, .bool a0_1, .slice A0_2 l0_2.length c0_2]) (t := 62) ?hr ?_; (case hd => rfl); (case hg => rfl); (case hr => first | (go_simp; done) | (go_simp; rfl)); intro gb101 hg w3 hbox hb; have n0_ := Aside0.mk (below_step (by repeat (first | (with_reducible first | exact HB.out | apply below_alloc | apply pw_below_drewN | apply below_drew1) | exact HB.out)) hb); have n1_ := Aside0.mk (hbox); have n2_ := Aside0.mk ((by rw [hg]; exact (below_size (by repeat (first | (with_reducible first | exact HB.out | apply below_alloc | apply pw_below_drewN | apply below_drew1) | exact HB.out))) : w.heap.size ≤ gb101)); have n3_ := Aside0.mk ((by rw [hg]; exact (below_size (by repeat (first | (with_reducible first | exact HB.out | apply below_alloc | apply pw_below_drewN | apply below_drew1) | exact HB.out))) : w.heap.size ≤ gb101)); clear HB; have HB := n0_; have BK101 := n1_; have GW101 := n2_; have GE101 := n3_; clear n0_ n1_ n2_ n3_; clear hb hbox hg; have hcz4_0 : w3.cell? ⟨gb101, 0, none⟩ = some (.string a0_0) := (blk_cell BK101.out 0).trans rfl; have hcz4_1 : w3.cell? ⟨gb101, 1, none⟩ = some (.bool a0_1) := (blk_cell BK101.out 1).trans rfl; have hcz4_2 : w3.cell? ⟨gb101, 2, none⟩ = some (.slice A0_2 l0_2.length c0_2) := (blk_cell BK101.out 2).trans rfl; have hfz4_0 := blk_frozen BK101.out 0; have hfz4_1 := blk_frozen BK101.out 1; have hfz4_2 := blk_frozen BK101.out 2) | ((with_reducible refine gate_callee (f := 97) rfl ?_); refine goesL_ (some 8) rfl rfl Try.func97 (by kernel_rfl) rfl #[.agg #[.string a0_0, .bool a0_1, .slice A0_2 l0_2.length c0_2]] rfl (by (try simp only [List.map_toArray, List.map_cons, List.map_nil]); first | done | rfl | (simp only [List.length_drop, List.length_take]; rfl)) ?_; (with_reducible refine (item_walk.calls a0_0 a0_1 _ _ l0_2 t102 t103 t104 _ ?side1 ?side2 A2.out).mono ?_); (case side1 => repeat (first | exact (Kd.C_below HR0_2.out HB.out) | (with_reducible refine Kd.C_alloc ?_ _) | (with_reducible refine Kd.C_drewN ?_ _) | (with_reducible refine Kd.C_drew ?_))); (case side2 => exact HC0_2.out); rintro e w5 ⟨rfl, hb⟩; refine ⟨_, rfl, ?_⟩; have n0_ := Aside0.mk (blk_below (g := gb101) (o := .cells #[.string a0_0, .bool a0_1, .slice A0_2 l0_2.length c0_2] 62 (0, 0)) (by (with_reducible repeat (first | refine blk_drewN ?_ _ | refine blk_drew ?_ | refine blk_alloc ?_ _)); exact BK101.out) hb); have n1_ := Aside0.mk (below_step (by repeat (first | (with_reducible first | exact HB.out | apply below_alloc | apply pw_below_drewN | apply below_drew1 | refine below_set ?_ GE101.out) | exact HB.out)) hb); clear BK101; clear HB; have BK101 := n0_; have HB := n1_; clear n0_ n1_; (try clear hb); (try clear hb2); (try clear hk); (try clear hi)))
 go_ret
 exact ⟨by first | rfl | (simp [errW_none, errW_some] <;> rfl) | (simp [*, errW_none, errW_some] <;> rfl), by repeat (first | (with_reducible first | exact HB.out | apply below_alloc | apply pw_below_drewN | apply below_drew1 | refine below_set ?_ GE101.out) | exact HB.out)⟩
end Go.Proofs.Yteoibgpkimlahaa.P
end
section
namespace Go.Proofs.Yteoibgpkimlahaa.P
open Go.RowKit Go.Proofs.YteoibgpkimlahaaW.PrintWords Go.Proofs.YteoibgpkimlahaaW.PrintLast Go.Proofs.YteoibgpkimlahaaW.PrintMore
mutual
def cnt : S62 → Nat
 | ⟨_, _, sub⟩ => 1 + cnts sub
def cnts : List S62 → Nat
 | [] => 0
 | y :: ys => cnt y + cnts ys
end
mutual
def dep : S62 → Nat
 | ⟨_, _, sub⟩ => 1 + deps sub
def deps : List S62 → Nat
 | [] => 0
 | y :: ys => max (dep y) (deps ys)
end
mutual
def tot : S62 → Nat
 | ⟨t, _, sub⟩ => t.size + tots sub
def tots : List S62 → Nat
 | [] => 0
 | y :: ys => tot y + tots ys
end
mutual
def rgt : S62 → Bool
 | ⟨t, l, sub⟩ => (if l = true then t.toList.isEmpty else sub.isEmpty) && rgts sub
def rgts : List S62 → Bool
 | [] => true
 | y :: ys => rgt y && rgts ys
end
theorem cnt_eq (t : ByteArray) (l : Bool) (sub : List S62) : cnt ⟨t, l, sub⟩ = 1 + cnts sub := by rw [cnt]
theorem cnts_cons (y : S62) (ys : List S62) : cnts (y :: ys) = cnt y + cnts ys := by rw [cnts]
theorem dep_eq (t : ByteArray) (l : Bool) (sub : List S62) : dep ⟨t, l, sub⟩ = 1 + deps sub := by rw [dep]
theorem deps_cons (y : S62) (ys : List S62) : deps (y :: ys) = max (dep y) (deps ys) := by rw [deps]
theorem tot_eq (t : ByteArray) (l : Bool) (sub : List S62) : tot ⟨t, l, sub⟩ = t.size + tots sub := by rw [tot]
theorem tots_cons (y : S62) (ys : List S62) : tots (y :: ys) = tot y + tots ys := by rw [tots]
theorem rgt_eq (t : ByteArray) (l : Bool) (sub : List S62) : rgt ⟨t, l, sub⟩ = ((if l = true then t.toList.isEmpty else sub.isEmpty) && rgts sub) := by rw [rgt]
theorem rgts_cons (y : S62) (ys : List S62) : rgts (y :: ys) = (rgt y && rgts ys) := by rw [rgts]
theorem cnt_pos (x : S62) : 1 ≤ cnt x := by cases x; rw [cnt_eq]; omega
theorem dep_pos (x : S62) : 1 ≤ dep x := by cases x; rw [dep_eq]; omega
theorem cnts_len : ∀ ys : List S62, ys.length ≤ cnts ys
 | [] => by simp [cnts]
 | y :: ys => by rw [cnts_cons, List.length_cons]; have := cnts_len ys; have := cnt_pos y; omega
theorem cnts_mem : ∀ (ys : List S62) (y : S62), y ∈ ys → cnt y ≤ cnts ys
 | z :: zs, y, h => by
  rw [cnts_cons]
  rcases List.mem_cons.1 h with rfl | h
  ·omega
  ·have := cnts_mem zs y h; omega
theorem wrp1 (i : Nat) (h : i < 4611686018427387904) : wrap64 ((i : Int) + 1) = ((i + 1 : Nat) : Int) := by unfold wrap64; omega
theorem rd_drop {all ys : List S62} {y : S62} {i : Nat} (h : all.drop i = y :: ys) : rd_T62 all (i : Int) = y ∧ i < all.length ∧ all.drop (i + 1) = ys := by
 have hi : i < all.length := by
  rcases Nat.lt_or_ge i all.length with h1 | h1
  ·exact h1
  ·rw [List.drop_eq_nil_of_le h1] at h; cases h
 rw [List.drop_eq_getElem_cons hi] at h
 injection h with h1 h2
 refine ⟨?_, hi, h2⟩
 unfold rd_T62
 rw [Int.toNat_natCast, List.getD, List.getElem?_eq_getElem hi]
 exact h1
theorem rd_end {all : List S62} {i : Nat} (h : all.drop i = []) : all.length ≤ i := List.drop_eq_nil_iff.1 h
def mayI (x : S62) : Bool := rgt x && decide (dep x ≤ 16) && decide (cnt x ≤ 1024)
theorem iwalks_is : ∀ (ys : List S62), (∀ y ∈ ys, ∀ dp c d : Int, 0 ≤ c → iwalk y dp c d = if rgt y = true ∧ dp + dep y ≤ 17 ∧ c + cnt y ≤ 1024 then (c + cnt y, (iwalk y dp c d).2.1, true) else ((iwalk y dp c d).1, (iwalk y dp c d).2.1, false)) →
  ∀ dp c d : Int, 0 ≤ c → ((iwalks ys dp c d).2.2 = true ↔ rgts ys = true ∧ (ys ≠ [] → dp + deps ys ≤ 17 ∧ c + cnts ys ≤ 1024)) ∧ ((iwalks ys dp c d).2.2 = true → (iwalks ys dp c d).1 = c + cnts ys) := by
 intro ys
 induction ys with
 | nil => intro _ dp c d _; rw [iwalks]; simp [rgts, cnts]
 | cons y ys ih =>
  intro hy dp c d hc
  have h1 := hy y (by simp) dp c d hc
  have hp := cnt_pos y
  have hq := dep_pos y
  rw [iwalks, rgts_cons, deps_cons, cnts_cons]
  by_cases hcond : rgt y = true ∧ dp + dep y ≤ 17 ∧ c + cnt y ≤ 1024
  ·rw [if_pos hcond] at h1
   have e1 : (iwalk y dp c d).1 = c + cnt y := by rw [h1]
   have e2 : (iwalk y dp c d).2.2 = true := by rw [h1]
   rw [if_pos e2, e1]
   obtain ⟨i1, i2⟩ := ih (fun z hz => hy z (List.mem_cons_of_mem _ hz)) dp (c + cnt y) (iwalk y dp c d).2.1 (by omega)
   refine ⟨i1.trans ?_, fun h => by rw [i2 h]; omega⟩
   rw [hcond.1, Bool.true_and]
   refine and_congr_right fun hr => ⟨fun h _ => ?_, fun h hne => by have := h (by simp); omega⟩
   cases ys with
   | nil => simp only [deps, cnts]; omega
   | cons z zs => have := h (by simp); omega
  ·rw [if_neg hcond] at h1
   have e2 : (iwalk y dp c d).2.2 = false := by rw [h1]
   rw [if_neg (by rw [e2]; simp), e2]
   refine ⟨⟨fun h => (by cases h), fun h => ?_⟩, fun h => (by cases h)⟩
   exfalso
   apply hcond
   have := h.2 (by simp)
   have hr := h.1
   rw [Bool.and_eq_true] at hr
   exact ⟨hr.1, by omega, by omega⟩
theorem iwalk_is : ∀ (x : S62) (dp c d : Int), 0 ≤ c → iwalk x dp c d = if rgt x = true ∧ dp + dep x ≤ 17 ∧ c + cnt x ≤ 1024 then (c + cnt x, (iwalk x dp c d).2.1, true) else ((iwalk x dp c d).1, (iwalk x dp c d).2.1, false)
 | ⟨t, l, sub⟩, dp, c, d, hc => by
  obtain ⟨h1, h2⟩ := iwalks_is sub (fun y hy dp c d hc => iwalk_is y dp c d hc) (dp + 1) (c + 1) (mx d dp) (by omega)
  have hsub : iwalk ⟨t, l, sub⟩ dp c d = if 16 < dp ∨ 1024 < c + 1 ∨ (l = true ∧ t.toList ≠ []) ∨ (l = false ∧ sub ≠ []) then (c + 1, mx d dp, false) else iwalks sub (dp + 1) (c + 1) (mx d dp) := by rw [iwalk]
  rw [hsub, rgt_eq, dep_eq, cnt_eq]
  by_cases hf : 16 < dp ∨ 1024 < c + 1 ∨ (l = true ∧ t.toList ≠ []) ∨ (l = false ∧ sub ≠ [])
  ·rw [if_pos hf, if_neg]
   rintro ⟨q1, q2, q3⟩
   rcases hf with hf | hf | ⟨rfl, hf⟩ | ⟨rfl, hf⟩
   ·omega
   ·omega
   ·rw [if_pos rfl, Bool.and_eq_true] at q1
    exact hf (List.isEmpty_iff.1 q1.1)
   ·rw [if_neg (by simp), Bool.and_eq_true] at q1
    exact hf (List.isEmpty_iff.1 q1.1)
  ·rw [if_neg hf]
   have hr : (if l = true then t.toList.isEmpty else sub.isEmpty) = true := by
    cases l
    ·rw [if_neg (by simp)]
     exact List.isEmpty_iff.2 (Classical.byContradiction fun h => hf (.inr (.inr (.inr ⟨rfl, h⟩))))
    ·rw [if_pos rfl]
     exact List.isEmpty_iff.2 (Classical.byContradiction fun h => hf (.inr (.inr (.inl ⟨rfl, h⟩))))
   rw [hr, Bool.true_and]
   have hb : ¬ 16 < dp ∧ ¬ 1024 < c + 1 := ⟨fun h => hf (.inl h), fun h => hf (.inr (.inl h))⟩
   have hiff : (rgts sub = true ∧ (sub ≠ [] → dp + 1 + deps sub ≤ 17 ∧ c + 1 + cnts sub ≤ 1024)) ↔ (rgts sub = true ∧ dp + ((1 + deps sub : Nat) : Int) ≤ 17 ∧ c + ((1 + cnts sub : Nat) : Int) ≤ 1024) := by
    refine and_congr_right fun _ => ⟨fun h => ?_, fun h _ => by omega⟩
    cases sub with
    | nil => simp only [deps, cnts]; omega
    | cons z zs => have := h (by simp); omega
   cases hv : (iwalks sub (dp + 1) (c + 1) (mx d dp)).2.2
   ·rw [if_neg (fun h => by have := h1.2 (hiff.2 h); rw [hv] at this; cases this)]
    rw [← hv]
   ·rw [if_pos (hiff.1 (h1.1 hv)), ← hv]
    have h3 := h2 hv
    have e : c + ((1 + cnts sub : Nat) : Int) = (iwalks sub (dp + 1) (c + 1) (mx d dp)).1 := by rw [h3]; omega
    rw [e]
theorem itemMay_is (x : S62) : item_May.f x.f0 x.f1 x.f2 = some (mayI x) := by
 unfold item_May.f item_walk.f mayI
 have h := iwalk_is x 1 0 0 (by decide)
 have hx : (⟨x.f0, x.f1, x.f2⟩ : S62) = x := by cases x; rfl
 rw [hx, Option.bind_some]
 congr 1
 by_cases hc : rgt x = true ∧ 1 + (dep x : Int) ≤ 17 ∧ 0 + (cnt x : Int) ≤ 1024
 ·rw [if_pos hc] at h
  rw [h, hc.1, decide_eq_true (by omega), decide_eq_true (by omega)]
  rfl
 ·rw [if_neg hc] at h
  rw [h]
  symm
  cases hr : rgt x
  ·rfl
  ·rw [Bool.true_and, Bool.and_eq_false_iff]
   by_cases hd : dep x ≤ 16
   ·exact .inr (decide_eq_false (fun h => hc ⟨hr, by omega, by omega⟩))
   ·exact .inl (decide_eq_false hd)
end Go.Proofs.Yteoibgpkimlahaa.P
end
