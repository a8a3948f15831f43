/- The pure statements of layer 2's laws. -/
import Derived.Test.YteoibgpkimlahaaQFixed2
import Derived.Test.YteoibgpkimlahaaFHatchwaylaw02FixedOrder
import Derived.Test.YteoibgpkimlahaaFHatchwaylaw02FixedPuts
import Derived.Test.YteoibgpkimlahaaFHatchwaylaw02FixedGets
namespace Go.Proofs.Yteoibgpkimlahaa.P
open Go.RowKit Go.Proofs.YteoibgpkimlahaaW.PrintWords Go.Proofs.YteoibgpkimlahaaW.PrintLast Go.Proofs.YteoibgpkimlahaaW.PrintMore

theorem wf_u64 {a : Int} (h : (Lit.int .u64 a).wf = true) : 0 ≤ a ∧ a < 18446744073709551616 := by
  have hmin : IntKind.u64.min = 0 := rfl
  have hmax : IntKind.u64.max = 18446744073709551615 := rfl
  simp only [Lit.wf, Bool.and_eq_true, decide_eq_true_eq] at h
  omega
theorem put_ok (rev : Bool) (n : Int) (m : Nat) (h0 : 0 ≤ n) (h1 : 1 ≤ m) (h8 : m ≤ 8) (h : m = 8 ∨ sz n ≤ m) : fixed_put.f rev n m = some (strOfNums (if rev = true then (leL n m).reverse else leL n m), 0) := by
  unfold fixed_put.f
  rw [if_pos h0, if_neg (by omega), Int.toNat_natCast, if_pos]
  rw [sz_le m n h0] at h
  exact h
theorem alive02 : Ev (fun k => hatchwaylaw02_alive.f k) true := by
  unfold hatchwaylaw02_alive.f
  have e1 : fixed_Little.f 258 3 = some (strOfNums [2, 1, 0], 0) := by decide +kernel
  have e2 : fixed_Big.f 258 3 = some (strOfNums [0, 1, 2], 0) := by decide +kernel
  have e3 : fixed_GetLeast.f (⟨#[0, 1]⟩ : ByteArray) = some (0, 3) := by decide +kernel
  simp only [e1, e2, e3, Option.bind_some, if_true]
  have g1 : (strOfNums [2, 1, 0]).toList = [2, 1, 0] := by rw [toList_str]; decide
  have g2 : (strOfNums [0, 1, 2]).toList = [0, 1, 2] := by rw [toList_str]; decide
  simp only [if_pos g1, if_pos g2]
  refine Ev.bind (fLeast_is 258 (by omega) (by omega)) ?_
  have e4 : digs 258 = [1, 2] := by rw [digs_pos (by omega), digs_pos (by omega), show (258 : Int) / 256 / 256 = 0 from rfl, digs_zero]; rfl
  rw [e4]
  simp only [toList_str]
  exact Ev.now _

/-- Of two rows of as many bytes the one of the lesser number is the lesser. -/
theorem bytes_less : ∀ (a b : List Int), IsByte a → IsByte b → a.length = b.length → ∀ x y : Int, 
    (decide ((a.foldl (fun n c => n * 256 + c) x) < (b.foldl (fun n c => n * 256 + c) y)) = (decide (x < y) || (decide (x = y) && Op.bytesLess (strOfNums a).toList (strOfNums b).toList))) := by
  intro a
  induction a with
  | nil =>
    intro b _ _ hl x y
    have : b = [] := List.eq_nil_of_length_eq_zero hl.symm
    subst this
    have e : Op.bytesLess (strOfNums ([] : List Int)).toList (strOfNums []).toList = false := by rw [toList_str]; rfl
    rw [e, Bool.and_false, Bool.or_false]
    rfl
  | cons c a ih =>
    intro b ha hb hl x y
    cases b with
    | nil => simp at hl
    | cons d b =>
      obtain ⟨h1, h2⟩ := ha c List.mem_cons_self
      obtain ⟨h3, h4⟩ := hb d List.mem_cons_self
      have := ih b (fun z hz => ha z (List.mem_cons_of_mem _ hz)) (fun z hz => hb z (List.mem_cons_of_mem _ hz)) (by simpa using hl) (x * 256 + c) (y * 256 + d)
      rw [List.foldl_cons, List.foldl_cons, this]
      rw [toList_str, toList_str, toList_str, toList_str, List.map_cons, List.map_cons]
      simp only [Op.bytesLess]
      generalize Op.bytesLess _ _ = q
      have e1 : decide (UInt8.ofNat c.toNat < UInt8.ofNat d.toNat) = decide (c < d) := by
        rw [decide_eq_decide, UInt8.lt_iff_toNat_lt, UInt8.toNat_ofNat', UInt8.toNat_ofNat']
        omega
      have e2 : (UInt8.ofNat c.toNat == UInt8.ofNat d.toNat) = decide (c = d) := by
        rw [Bool.eq_iff_iff, beq_iff_eq, decide_eq_true_iff, ← UInt8.toNat_inj, UInt8.toNat_ofNat', UInt8.toNat_ofNat']
        omega
      rw [e1, e2]
      by_cases g1 : x < y
      · rw [decide_eq_true g1, decide_eq_true (show x * 256 + c < y * 256 + d by omega)]; rfl
      · by_cases g2 : x = y
        · subst g2
          rw [decide_eq_false g1]
          simp
        · rw [decide_eq_false g1, decide_eq_false g2, decide_eq_false (show ¬ x * 256 + c < y * 256 + d by omega), decide_eq_false (show ¬ x * 256 + c = y * 256 + d by omega)]
          rfl
theorem FixedOrder : hatchwaylaw02_FixedOrder.Pure := by
  intro a b wa wb
  obtain ⟨a0, a1⟩ := wf_u64 wa
  obtain ⟨b0, b1⟩ := wf_u64 wb
  refine Ev.rounds ?_
  unfold hatchwaylaw02_FixedOrder.f
  refine Ev.bind alive02 ?_
  simp only [if_true]
  have e1 : fixed_Big.f a 8 = some (strOfNums (leL a 8).reverse, 0) := put_ok true a 8 a0 (by omega) (by omega) (.inl rfl)
  have e2 : fixed_Big.f b 8 = some (strOfNums (leL b 8).reverse, 0) := put_ok true b 8 b0 (by omega) (by omega) (.inl rfl)
  simp only [e1, e2, Option.bind_some, if_true]
  have ha := isByte_reverse (leL_byte 8 a)
  have hb := isByte_reverse (leL_byte 8 b)
  have na : numL (leL a 8).reverse = a := numL_leL 8 a a0 (by omega)
  have nb : numL (leL b 8).reverse = b := numL_leL 8 b b0 (by omega)
  have hless := bytes_less (leL a 8).reverse (leL b 8).reverse ha hb (by simp [leL_length]) 0 0
  have na' : List.foldl (fun n c => n * 256 + c) 0 (leL a 8).reverse = a := na
  have nb' : List.foldl (fun n c => n * 256 + c) 0 (leL b 8).reverse = b := nb
  rw [na', nb'] at hless
  simp only [decide_eq_false (show ¬ (0 : Int) < 0 by omega), Bool.false_or, decide_true, Bool.true_and] at hless
  rw [← hless]
  simp only [beq_self_eq_true, if_true]
  have e3 : ((strOfNums (leL a 8).reverse).toList == (strOfNums (leL b 8).reverse).toList) = (a == b) := by
    rw [Bool.eq_iff_iff, beq_iff_eq, beq_iff_eq]
    constructor
    · intro h
      rw [← na, ← nb, str_inj ha hb (toList_inj h)]
    · intro h
      rw [h]
  rw [e3]
  simp only [beq_self_eq_true]
  exact Ev.now _

theorem put_bad (rev : Bool) (n m : Int) (h0 : 0 ≤ n) (h : m < 1 ∨ 8 < m) : fixed_put.f rev n m = some ((⟨#[]⟩ : ByteArray), 1) := by
  unfold fixed_put.f
  rw [if_pos h0, if_pos h]
theorem put_over (rev : Bool) (n : Int) (m : Nat) (h0 : 0 ≤ n) (h1 : 1 ≤ m) (h8 : m < 8) (h : m < sz n) : fixed_put.f rev n m = some ((⟨#[]⟩ : ByteArray), 5) := by
  unfold fixed_put.f
  rw [if_pos h0, if_neg (by omega), Int.toNat_natCast, if_neg]
  rw [← sz_le m n h0]
  omega
theorem size_nil : (⟨#[]⟩ : ByteArray).toList = [] := by rw [ByteArray.toList_eq]
theorem ne_nil {s : ByteArray} (h : 0 < s.size) : s.toList ≠ [] := fun e => by rw [size_zero] at e; omega
theorem get_ok (rev : Bool) (s : ByteArray) (h0 : 0 < s.size) (h8 : s.size ≤ 8) : fixed_get.f rev s = some (numL (if rev = true then (bytesOf s).reverse else bytesOf s), 0) := by
  unfold fixed_get.f
  rw [if_neg (ne_nil h0), if_neg (by omega)]
theorem getLeast_digs (n : Int) (h0 : 0 ≤ n) (h1 : n < 18446744073709551616) : fixed_GetLeast.f (strOfNums (digs n)) = some (n, 0) := by
  unfold fixed_GetLeast.f
  have hb := bytesOf_str (digs n) (digs_byte n)
  rw [if_neg (by rw [strOfNums_size, digs_length]; have := sz_u64 h0 h1; omega), if_neg ?_, hb, numL_digs n h0]
  rintro ⟨h2, h3⟩
  have hn : 0 < n := by
    rcases Int.lt_or_le 0 n with h | h
    · exact h
    · exfalso
      have : n = 0 := by omega
      subst this
      rw [digs_zero] at h2
      exact h2 (by rw [toList_str]; rfl)
  have h4 := digs_head n hn
  have h5 := bt_getD (strOfNums (digs n)) 0
  rw [hb] at h5
  rw [show ((0 : Nat) : Int) = 0 from rfl, h3] at h5
  cases hd : digs n with
  | nil =>
    have := digs_length n
    rw [hd, sz_pos hn] at this
    simp at this
  | cons a l =>
    rw [hd] at h5 h4
    simp at h5 h4
    omega

theorem FixedPuts : hatchwaylaw02_FixedPuts.Pure := by
  intro n m wn wm
  obtain ⟨h0, h1⟩ := wf_u64 wn
  refine Ev.rounds ?_
  unfold hatchwaylaw02_FixedPuts.f
  refine Ev.bind alive02 ?_
  simp only [if_true]
  by_cases hm : m < 1 ∨ 8 < m
  · have e1 : fixed_Little.f n m = _ := put_bad false n m h0 hm
    have e2 : fixed_Big.f n m = _ := put_bad true n m h0 hm
    simp only [e1, e2, Option.bind_some]
    refine Ev.bind (fLeast_is n h0 h1) ?_
    rw [getLeast_digs n h0 h1]
    simp only [Option.bind_some]
    refine Ev.bind (rLeast_is n h0 h1) ?_
    simp only [if_true, bne_self_eq_false]
    refine Ev.step (f := fun k => _) (fun k => by simp only [hatchwaylaw02_FixedPuts.j0, Bool.false_eq_true, if_false]; rfl) ?_
    by_cases hm1 : m < 1
    · simp only [if_pos hm1]
      refine Ev.step (f := fun k => _) (fun k => by simp only [hatchwaylaw02_FixedPuts.j1, if_true, size_nil]; rfl) ?_
      exact Ev.now _
    · simp only [if_neg hm1]
      rw [decide_eq_true (show m > 8 by omega)]
      refine Ev.step (f := fun k => _) (fun k => by simp only [hatchwaylaw02_FixedPuts.j1, if_true, size_nil]; rfl) ?_
      exact Ev.now _
  · obtain ⟨m, rfl⟩ : ∃ q : Nat, m = (q : Int) := ⟨m.toNat, by omega⟩
    have hm1 : ¬ (m : Int) < 1 := by omega
    have hm8 : ¬ (m : Int) > 8 := by omega
    by_cases hs : m = 8 ∨ sz n ≤ m
    · have e1 : fixed_Little.f n m = _ := put_ok false n m h0 (by omega) (by omega) hs
      have e2 : fixed_Big.f n m = _ := put_ok true n m h0 (by omega) (by omega) hs
      have hs2 : sz n ≤ m := by have := sz_u64 h0 h1; omega
      have hn := (sz_le m n h0).1 hs2
      simp only [e1, e2, Option.bind_some]
      refine Ev.bind (fLeast_is n h0 h1) ?_
      rw [getLeast_digs n h0 h1]
      simp only [Option.bind_some]
      refine Ev.bind (rLeast_is n h0 h1) ?_
      simp only [if_true, bne_self_eq_false]
      refine Ev.step (f := fun k => _) (fun k => by simp only [hatchwaylaw02_FixedPuts.j0, Bool.false_eq_true, if_false, if_neg hm1, decide_eq_false hm8]; rfl) ?_
      refine Ev.step (f := fun k => _) (fun k => by simp only [hatchwaylaw02_FixedPuts.j1, Bool.false_eq_true, if_false]; rfl) ?_
      refine Ev.bind (rBig_yes n m h0 h1 hs2 (by omega)) ?_
      have b1 := bytesOf_str _ (leL_byte m n)
      have b2 := bytesOf_str _ (isByte_reverse (leL_byte m n))
      have z1 : (strOfNums (leL n m)).size = m := by rw [strOfNums_size, leL_length]
      have z2 : (strOfNums (leL n m).reverse).size = m := by rw [strOfNums_size, List.length_reverse, leL_length]
      have g1 : fixed_GetLittle.f (strOfNums (leL n m)) = some (n, 0) := by
        have := get_ok true _ (show 0 < (strOfNums (leL n m)).size by omega) (by omega)
        rw [b1, if_pos rfl, numL_leL m n h0 hn] at this
        exact this
      have g2 : fixed_GetBig.f (strOfNums (leL n m).reverse) = some (n, 0) := by
        have := get_ok false _ (show 0 < (strOfNums (leL n m).reverse).size by omega) (by omega)
        rw [b2, if_neg (by decide), numL_leL m n h0 hn] at this
        exact this
      simp only [if_true, g1, g2, Option.bind_some]
      refine Ev.bind (rTurned_is _ (by omega)) ?_
      rw [b2, List.reverse_reverse]
      simp only [if_true, beq_self_eq_true]
      exact Ev.now _
    · have e1 : fixed_Little.f n m = _ := put_over false n m h0 (by omega) (by omega) (by omega)
      have e2 : fixed_Big.f n m = _ := put_over true n m h0 (by omega) (by omega) (by omega)
      simp only [e1, e2, Option.bind_some]
      refine Ev.bind (fLeast_is n h0 h1) ?_
      rw [getLeast_digs n h0 h1]
      simp only [Option.bind_some]
      refine Ev.bind (rLeast_is n h0 h1) ?_
      simp only [if_true, bne_self_eq_false]
      refine Ev.step (f := fun k => _) (fun k => by simp only [hatchwaylaw02_FixedPuts.j0, Bool.false_eq_true, if_false, if_neg hm1, decide_eq_false hm8]; rfl) ?_
      refine Ev.step (f := fun k => _) (fun k => by simp only [hatchwaylaw02_FixedPuts.j1, Bool.false_eq_true, if_false]; rfl) ?_
      refine Ev.bind (rBig_no n m h0 h1 (by omega)) ?_
      simp only [Bool.false_eq_true, if_false, if_true, size_nil]
      exact Ev.now _

theorem FixedGets : hatchwaylaw02_FixedGets.Pure := by
  intro s hs
  refine Ev.rounds ?_
  unfold hatchwaylaw02_FixedGets.f
  refine Ev.bind alive02 ?_
  simp only [if_true]
  by_cases h100 : (s.size : Int) > 100
  · simp only [if_pos h100]
    exact Ev.now _
  simp only [if_neg h100]
  by_cases h8 : 8 < s.size
  · have hn := ne_nil (show 0 < s.size by omega)
    have e1 : fixed_GetLittle.f s = some (0, 5) := by unfold fixed_GetLittle.f fixed_get.f; rw [if_neg hn, if_pos h8]
    have e2 : fixed_GetBig.f s = some (0, 5) := by unfold fixed_GetBig.f fixed_get.f; rw [if_neg hn, if_pos h8]
    have e3 : fixed_GetLeast.f s = some (0, 5) := by unfold fixed_GetLeast.f; rw [if_pos h8]
    simp only [e1, e2, e3, Option.bind_some, if_pos (show (s.size : Int) > 8 by omega), if_true]
    exact Ev.now _
  by_cases hz : s.size = 0
  · have hn := (size_zero s).2 hz
    have hb : bytesOf s = [] := List.eq_nil_of_length_eq_zero (by rw [bytesOf_length, hz])
    have e1 : fixed_GetLittle.f s = some (0, 1) := by unfold fixed_GetLittle.f fixed_get.f; rw [if_pos hn]
    have e2 : fixed_GetBig.f s = some (0, 1) := by unfold fixed_GetBig.f fixed_get.f; rw [if_pos hn]
    have e3 : fixed_GetLeast.f s = some (0, 0) := by unfold fixed_GetLeast.f; rw [if_neg h8, if_neg (fun x => x.1 hn), hb]; rfl
    simp only [e1, e2, e3, Option.bind_some, if_neg (show ¬ (s.size : Int) > 8 by omega), if_pos hn, if_true]
    exact Ev.now _
  have hn := ne_nil (show 0 < s.size by omega)
  have hl := bytesOf_length s
  have hb := bytesOf_byte s
  have e1 : fixed_GetLittle.f s = _ := get_ok true s (by omega) (by omega)
  have e2 : fixed_GetBig.f s = _ := get_ok false s (by omega) (by omega)
  rw [if_pos rfl] at e1
  rw [if_neg (by decide)] at e2
  obtain ⟨p, hp⟩ : ∃ p, fixed_GetLeast.f s = some p ∧ (if bt s 0 = 0 then p = (0, 3) else p = (numL (bytesOf s), 0)) := by
    unfold fixed_GetLeast.f
    rw [if_neg h8]
    by_cases h : bt s 0 = 0
    · exact ⟨(0, 3), by rw [if_pos ⟨hn, h⟩], by rw [if_pos h]⟩
    · exact ⟨_, by rw [if_neg (fun x => h x.2)], by rw [if_neg h]⟩
  simp only [e1, e2, hp.1, Option.bind_some, if_neg (show ¬ (s.size : Int) > 8 by omega), if_neg hn, if_true]
  refine Ev.bind (rNumber_is s (by omega)) ?_
  simp only [if_true]
  refine Ev.bind (rTurned_is s hs) ?_
  have hz2 : (strOfNums (bytesOf s).reverse).size = s.size := by rw [strOfNums_size, List.length_reverse, hl]
  refine Ev.bind (rNumber_is _ (by omega)) ?_
  rw [bytesOf_str _ (isByte_reverse hb), bne_self_eq_false]
  have h00 : (0 : Int) < (s.size : Int) := by omega
  by_cases h : bt s 0 = 0
  · have h3 := hp.2
    rw [if_pos h] at h3
    subst h3
    refine Ev.step (f := fun k => _) (fun k => by simp only [hatchwaylaw02_FixedGets.j0, Bool.false_eq_true, if_false, if_pos h00, if_pos h, if_true]; rfl) ?_
    exact Ev.now _
  · have h3 := hp.2
    rw [if_neg h] at h3
    subst h3
    refine Ev.step (f := fun k => _) (fun k => by simp only [hatchwaylaw02_FixedGets.j0, Bool.false_eq_true, if_false, if_pos h00, if_neg h, if_true]; rfl) ?_
    have hbd := numL_bd (bytesOf s) hb
    have h5 : (256 : Int) ^ (bytesOf s).length ≤ 256 ^ 8 := pow256_le (by omega)
    refine Ev.bind (fLeast_is (numL (bytesOf s)) hbd.1 (by omega)) ?_
    have e5 : strOfNums (digs (numL (bytesOf s))) = s := by
      have hm : (numL (bytesOf s)) < 256 ^ (bytesOf s).length := hbd.2
      have hsz := (sz_le _ _ hbd.1).2 hm
      have heq : sz (numL (bytesOf s)) = (bytesOf s).length := by
        rcases Nat.lt_or_ge (sz (numL (bytesOf s))) (bytesOf s).length with hlt | hge
        · exfalso
          have h6 := leL_digs (numL (bytesOf s)) (bytesOf s).length hbd.1 hsz
          rw [leL_numL _ hb, List.reverse_reverse] at h6
          have h7 := bt_getD s 0
          rw [h6] at h7
          obtain ⟨q, hq⟩ : ∃ q, (bytesOf s).length - sz (numL (bytesOf s)) = q + 1 := ⟨_, (Nat.succ_pred_eq_of_pos (by omega)).symm⟩
          rw [hq, List.replicate_succ, List.cons_append] at h7
          exact h (by simpa using h7)
        · omega
      rw [digs, heq, leL_numL _ hb, List.reverse_reverse, str_bytesOf]
    rw [e5]
    simp only [beq_self_eq_true]
    exact Ev.now _
end Go.Proofs.Yteoibgpkimlahaa.P
