/- Compact numbers, as lists of bytes; what the program's and the reference's functions tell of them. -/
import Derived.Test.YteoibgpkimlahaaDoorQFixedPut
import Derived.Test.YteoibgpkimlahaaDoorFCompactPut
import Derived.Test.YteoibgpkimlahaaDoorFCompactNext
import Derived.Test.YteoibgpkimlahaaDoorFHatchwayref04Put
import Derived.Test.YteoibgpkimlahaaDoorFHatchwayref04Next
namespace Go.Proofs.YteoibgpkimlahaaDoor.P
open Go.RowKit Go.Proofs.YteoibgpkimlahaaDoorW.PrintWords Go.Proofs.YteoibgpkimlahaaDoorW.PrintLast Go.Proofs.YteoibgpkimlahaaDoorW.PrintMore

def nextL : List Int → Int × Int × Int
  | [] => (0, 0, 2)
  | b :: t => if b < 253 then (b, 1, 0) else if t.length < csz b then (0, 0, 2) else
      if (compL (numL (t.take (csz b)).reverse)).length = 1 + csz b then (numL (t.take (csz b)).reverse, ((1 + csz b : Nat) : Int), 0) else (0, 0, 3)
theorem cNext_is (s : ByteArray) : compact_Next.f s = some (nextL (bytesOf s)) := by
  unfold compact_Next.f
  have hl := bytesOf_length s
  have hbt := bt_getD s 0
  by_cases h : s.toList = []
  · rw [if_pos h]
    rw [size_zero] at h
    have : bytesOf s = [] := List.eq_nil_of_length_eq_zero (by omega)
    rw [this]; rfl
  · rw [if_neg h]
    cases hb : bytesOf s with
    | nil => rw [size_zero] at h; rw [hb] at hl; simp at hl; omega
    | cons b t =>
      rw [hb] at hl hbt
      simp only [List.length_cons] at hl
      have e0 : bt s 0 = b := hbt
      rw [e0]
      simp only [nextL]
      by_cases h1 : b < 253
      · rw [if_pos h1, if_pos h1]
      · rw [if_neg h1, if_neg h1]
        by_cases h2 : t.length < csz b
        · rw [if_pos (by omega), if_pos h2]
        · rw [if_neg (by omega), if_neg h2]
          have e : bytesOf (s.extract 1 (1 + csz b)) = t.take (csz b) := by
            rw [extract_str, bytesOf_str _ (isByte_drop (isByte_take (bytesOf_byte s) _) _), hb]
            simp [Nat.add_comm 1]
          rw [e]
          split <;> rfl
theorem csz_le (b : Int) : csz b ≤ 8 ∧ 2 ≤ csz b := by unfold csz; split <;> (try split) <;> omega
theorem compL_length (n : Int) : 1 ≤ (compL n).length ∧ (compL n).length ≤ 9 := by
  unfold compL
  split
  · simp
  · split
    · simp [leL_length]
    · split <;> simp [leL_length]
theorem compL_byte {n : Int} (h : 0 ≤ n) : IsByte (compL n) := by
  unfold compL
  split
  · intro x hx; simp at hx; omega
  · have hc : ∀ (b : Int) (m : Nat), 0 ≤ b ∧ b < 256 → IsByte (b :: leL n m) := fun b m hb x hx => by
      rcases List.mem_cons.1 hx with rfl | hx
      · exact hb
      · exact leL_byte _ _ x hx
    split
    · exact hc _ _ (by omega)
    · split <;> exact hc _ _ (by omega)
/-- A number's bytes, with whatever behind, are told as just it. -/
theorem nextL_put (n : Int) (h0 : 0 ≤ n) (h1 : n < 18446744073709551616) (more : List Int) : nextL (compL n ++ more) = (n, ((compL n).length : Int), 0) := by
  have key : ∀ (b : Int) (m : Nat), ¬ b < 253 → csz b = m → compL n = b :: leL n m → n < 256 ^ m → nextL ((b :: leL n m) ++ more) = (n, ((b :: leL n m).length : Int), 0) := by
    intro b m hb hc hp hn
    have e : ((leL n m) ++ more).take m = leL n m := by rw [List.take_left' (leL_length m n)]
    simp only [List.cons_append, nextL]
    rw [if_neg hb, hc, if_neg (by rw [List.length_append, leL_length]; omega), e, numL_leL m n h0 hn, hp]
    rw [if_pos (by rw [List.length_cons, leL_length]; omega), List.length_cons, leL_length, Nat.add_comm]
  by_cases c1 : n < 253
  · have : compL n = [n] := by unfold compL; rw [if_pos c1]
    rw [this]
    simp only [List.singleton_append, nextL, List.length_singleton]
    rw [if_pos c1]; rfl
  · by_cases c2 : n < 65536
    · have : compL n = 253 :: leL n 2 := by unfold compL; rw [if_neg c1, if_pos c2]
      rw [this]; exact key 253 2 (by omega) rfl this (by omega)
    · by_cases c3 : n < 4294967296
      · have : compL n = 254 :: leL n 4 := by unfold compL; rw [if_neg c1, if_neg c2, if_pos c3]
        rw [this]; exact key 254 4 (by omega) rfl this (by omega)
      · have : compL n = 255 :: leL n 8 := by unfold compL; rw [if_neg c1, if_neg c2, if_neg c3]
        rw [this]; exact key 255 8 (by omega) rfl this (by omega)
/-- Where as many bytes stand as the number has, they are the number's. -/
theorem compL_of (b : Int) (t : List Int) (hb : 253 ≤ b) (hb2 : b < 256) (ht : IsByte t) (hl : t.length = csz b) : (compL (numL t.reverse)).length = 1 + csz b ↔ compL (numL t.reverse) = b :: t := by
  constructor
  · intro h
    have e : leL (numL t.reverse) t.length = t := by
      have := leL_numL t.reverse (isByte_reverse ht)
      rw [List.length_reverse, List.reverse_reverse] at this
      exact this
    generalize numL t.reverse = n at *
    unfold compL at h ⊢
    split
    · rename_i c; rw [if_pos c] at h; have := csz_le b; simp at h; omega
    · rename_i c1
      rw [if_neg c1] at h
      have hb3 : b = 253 ∨ b = 254 ∨ b = 255 := by omega
      split
      · rename_i c2
        rw [if_pos c2] at h
        simp [leL_length] at h
        rcases hb3 with rfl | rfl | rfl <;> simp [csz] at h hl
        rw [← e, hl]
      · rename_i c2
        rw [if_neg c2] at h
        split
        · rename_i c3
          rw [if_pos c3] at h
          simp [leL_length] at h
          rcases hb3 with rfl | rfl | rfl <;> simp [csz] at h hl
          rw [← e, hl]
        · rename_i c3
          rw [if_neg c3] at h
          simp [leL_length] at h
          rcases hb3 with rfl | rfl | rfl <;> simp [csz] at h hl
          rw [← e, hl]
  · intro h
    rw [h, List.length_cons, hl, Nat.add_comm]

/-! the reference -/
theorem rLittle_is (n : Int) (m : Nat) (h0 : 0 ≤ n) (h1 : n < 18446744073709551616) (hm : n < 256 ^ m) (hm2 : m < 1000) : Ev (fun k => hatchwayref04_little.f k n m) (strOfNums (leL n m)) := by
  unfold hatchwayref04_little.f
  refine Ev.bind (rBig_yes n m h0 h1 ((sz_le m n h0).2 hm) hm2) ?_
  refine Ev.bind (rTurned_is _ (by rw [strOfNums_size, List.length_reverse, leL_length]; omega)) ?_
  rw [bytesOf_str _ (isByte_reverse (leL_byte _ _)), List.reverse_reverse]
  exact Ev.now _
theorem rPut_is (n : Int) (h0 : 0 ≤ n) (h1 : n < 18446744073709551616) : Ev (fun k => hatchwayref04_Put.f k n) (strOfNums (compL n)) := by
  unfold hatchwayref04_Put.f
  have key : ∀ (b : Int) (m : Nat), m ≤ 8 → n < 256 ^ m → Ev (fun k => (hatchwayref04_little.f k n m).bind fun t => (if 1 + t.size ≤ 9223372036854775807 then (some (strOfNums [b] ++ t)) else (none))) (strOfNums (b :: leL n m)) := by
    intro b m hm hn
    refine Ev.bind (rLittle_is n m h0 h1 hn (by omega)) ?_
    rw [if_pos (by rw [strOfNums_size, leL_length]; omega), ← str_append]
    exact Ev.now _
  by_cases c1 : n < 253
  · have : compL n = [n] := by unfold compL; rw [if_pos c1]
    simp only [if_pos c1]
    rw [this, show n % 256 = n by omega]
    exact Ev.now _
  · by_cases c2 : n < 65536
    · have : compL n = 253 :: leL n 2 := by unfold compL; rw [if_neg c1, if_pos c2]
      simp only [if_neg c1, if_pos c2]
      rw [this]; exact key 253 2 (by omega) (by omega)
    · by_cases c3 : n < 4294967296
      · have : compL n = 254 :: leL n 4 := by unfold compL; rw [if_neg c1, if_neg c2, if_pos c3]
        simp only [if_neg c1, if_neg c2, if_pos c3]
        rw [this]; exact key 254 4 (by omega) (by omega)
      · have : compL n = 255 :: leL n 8 := by unfold compL; rw [if_neg c1, if_neg c2, if_neg c3]
        simp only [if_neg c1, if_neg c2, if_neg c3]
        rw [this]; exact key 255 8 (by omega) (by omega)
theorem cPut_is (n : Int) (h0 : 0 ≤ n) (h1 : n < 18446744073709551616) : compact_Put.f n = some (strOfNums (compL n)) := by
  unfold compact_Put.f; rw [if_pos ⟨h0, h1⟩]
theorem rNext_is (s : ByteArray) (hs : s.size ≤ 140737488351232) : Ev (fun k => hatchwayref04_Next.f k s) (nextL (bytesOf s)) := by
  unfold hatchwayref04_Next.f
  have hl := bytesOf_length s
  have hbt := bt_getD s 0
  have hby := bytesOf_byte s
  by_cases h : s.toList = []
  · simp only [if_pos h]
    rw [size_zero] at h
    have : bytesOf s = [] := List.eq_nil_of_length_eq_zero (by omega)
    rw [this]
    exact Ev.now _
  · simp only [if_neg h]
    cases hb : bytesOf s with
    | nil => rw [size_zero] at h; rw [hb] at hl; simp at hl; omega
    | cons b t =>
      rw [hb] at hl hbt hby
      simp only [List.length_cons] at hl
      have e0 : bt s 0 = b := hbt
      have hs0 : (0 : Int) < (s.size : Int) := by omega
      obtain ⟨b0, b1⟩ := hby b List.mem_cons_self
      have ht : IsByte t := fun x hx => hby x (List.mem_cons_of_mem _ hx)
      simp only [if_pos hs0, e0]
      have big : ∀ m : Nat, 253 ≤ b → csz b = m → m ≤ 8 → 2 ≤ m → Ev (fun k => hatchwayref04_Next.j0 k s ((1 + m : Nat) : Int)) (nextL (b :: t)) := by
        intro m hb3 hc hm hm2
        simp only [nextL]
        rw [if_neg (show ¬ b < 253 by omega), hc]
        by_cases c1 : t.length < m
        · rw [if_pos c1]
          refine Ev.step (f := fun _ => some (0, 0, 2)) (fun k => by simp only [hatchwayref04_Next.j0]; rw [if_pos (by omega)]) (Ev.now _)
        · rw [if_neg c1]
          have e : bytesOf (s.extract 1 (1 + m)) = t.take m := by
            rw [extract_str, bytesOf_str _ (isByte_drop (isByte_take (bytesOf_byte s) _) _), hb]
            simp [Nat.add_comm 1]
          have e2 : (s.extract 0 (1 + m)) = strOfNums (b :: t.take m) := by
            rw [extract_str, hb]
            simp [Nat.add_comm 1]
          have hz : (s.extract 1 (1 + m)).size = m := by rw [← bytesOf_length, e, List.length_take]; omega
          refine Ev.step (f := fun k => (hatchwayref02_Turned.f k (s.extract 1 (1 + m))).bind fun t101 => ((hatchwayref02_Number.f k t101).bind fun t102 => ((hatchwayref04_Put.f k t102).bind fun t103 => (if t103.toList = (s.extract 0 (1 + m)).toList then (some (t102, ((1 + m : Nat) : Int), 0)) else (some (0, 0, 3)))))) (fun k => ?_) ?_
          · simp only [hatchwayref04_Next.j0]
            rw [if_neg (by omega), if_pos hs0, if_pos (by omega), if_pos (by omega), if_pos (by omega), Int.toNat_natCast]
            simp only [if_pos (show (0 : Int) ≤ ((1 + m : Nat) : Int) by omega)]
          · refine Ev.bind (rTurned_is _ (by omega)) ?_
            rw [e]
            have hbr := isByte_reverse (isByte_take ht m)
            refine Ev.bind (rNumber_is _ (by rw [strOfNums_size, List.length_reverse, List.length_take]; omega)) ?_
            rw [bytesOf_str _ hbr]
            have hbd := numL_bd _ hbr
            have h5 : (256 : Int) ^ (t.take m).reverse.length ≤ 256 ^ 8 := pow256_le (by rw [List.length_reverse, List.length_take]; omega)
            refine Ev.bind (rPut_is _ hbd.1 (by omega)) ?_
            have hco := compL_of b (t.take m) hb3 b1 (isByte_take ht m) (by rw [List.length_take, hc]; omega)
            rw [hc] at hco
            by_cases c2 : (compL (numL (t.take m).reverse)).length = 1 + m
            · rw [if_pos c2, e2, ← hco.1 c2, if_pos rfl]
              exact Ev.now _
            · rw [if_neg c2, if_neg]
              · exact Ev.now _
              · intro he
                rw [e2] at he
                exact c2 (hco.2 (str_inj (compL_byte hbd.1) (fun x hx => by
                  rcases List.mem_cons.1 hx with rfl | hx
                  · exact ⟨b0, b1⟩
                  · exact isByte_take ht m x hx) (toList_inj he)))
      by_cases c1 : b = 253
      · simp only [if_pos c1]
        exact big 2 (by omega) (by subst c1; rfl) (by omega) (by omega)
      by_cases c2 : b = 254
      · simp only [if_neg c1, if_pos c2]
        exact big 4 (by omega) (by subst c2; rfl) (by omega) (by omega)
      by_cases c3 : b = 255
      · simp only [if_neg c1, if_neg c2, if_pos c3]
        exact big 8 (by omega) (by subst c3; rfl) (by omega) (by omega)
      simp only [if_neg c1, if_neg c2, if_neg c3]
      have c4 : b < 253 := by omega
      simp only [nextL]
      rw [if_pos c4]
      have e2 : (s.extract 0 1) = strOfNums [b] := by
        rw [extract_str, hb]
        simp
      refine Ev.step (f := fun k => (hatchwayref04_Put.f k b).bind fun t104 => (if t104.toList = (s.extract 0 1).toList then (some (b, 1, 0)) else (some (0, 0, 3)))) (fun k => ?_) ?_
      · simp only [hatchwayref04_Next.j0]
        rw [if_neg (by omega), if_pos hs0, if_neg (by omega), e0, u64_small b0 (by omega)]
        congr 1; funext t104
        rw [if_pos (by omega), if_pos (by omega)]
        rfl
      · refine Ev.bind (rPut_is b b0 (by omega)) ?_
        have : compL b = [b] := by unfold compL; rw [if_pos c4]
        rw [e2, this, if_pos rfl]
        exact Ev.now _
/-- A beginning of bytes is short, or tells the same. -/
theorem nextL_take (l : List Int) (c : Nat) : (nextL (l.take c)).2.2 = 2 ∨ nextL (l.take c) = nextL l := by
  cases l with
  | nil => left; simp [nextL]
  | cons b t =>
    cases c with
    | zero => left; simp [nextL]
    | succ c =>
      rw [List.take_succ_cons]
      simp only [nextL]
      by_cases c1 : b < 253
      · right; rw [if_pos c1, if_pos c1]
      · rw [if_neg c1, if_neg c1]
        by_cases c2 : (t.take c).length < csz b
        · left; rw [if_pos c2]
        · right
          rw [List.length_take] at c2
          rw [List.take_take, Nat.min_eq_left (by omega), if_neg (show ¬ (t.take c).length < csz b by rw [List.length_take]; omega), if_neg (show ¬ t.length < csz b by omega)]
theorem nextL_ok {l : List Int} (hl : IsByte l) (h : (nextL l).2.2 = 0) : 0 ≤ (nextL l).1 ∧ (nextL l).1 < 18446744073709551616 ∧ 0 ≤ (nextL l).2.1 ∧ (nextL l).2.1 ≤ l.length ∧ compL (nextL l).1 = l.take (nextL l).2.1.toNat := by
  cases l with
  | nil => simp [nextL] at h
  | cons b t =>
    obtain ⟨b0, b1⟩ := hl b List.mem_cons_self
    have ht : IsByte t := fun x hx => hl x (List.mem_cons_of_mem _ hx)
    simp only [nextL] at h ⊢
    by_cases c1 : b < 253
    · rw [if_pos c1]
      refine ⟨b0, by show b < _; omega, by show (0 : Int) ≤ 1; omega, by show (1 : Int) ≤ _; simp; omega, ?_⟩
      show compL b = (b :: t).take 1
      unfold compL; rw [if_pos c1]; simp
    · rw [if_neg c1] at h ⊢
      by_cases c2 : t.length < csz b
      · rw [if_pos c2] at h; simp at h
      · rw [if_neg c2] at h ⊢
        by_cases c3 : (compL (numL (t.take (csz b)).reverse)).length = 1 + csz b
        · rw [if_pos c3]
          have hbr := isByte_reverse (isByte_take ht (csz b))
          have hbd := numL_bd _ hbr
          have h5 : (256 : Int) ^ (t.take (csz b)).reverse.length ≤ 256 ^ 8 := pow256_le (by rw [List.length_reverse, List.length_take]; have := csz_le b; omega)
          refine ⟨hbd.1, by show numL _ < _; omega, by show (0 : Int) ≤ ((1 + csz b : Nat) : Int); omega, by show ((1 + csz b : Nat) : Int) ≤ _; simp; omega, ?_⟩
          show compL _ = (b :: t).take (((1 + csz b : Nat) : Int)).toNat
          rw [Int.toNat_natCast, Nat.add_comm, List.take_succ_cons]
          exact (compL_of b _ (by omega) b1 (isByte_take ht _) (by rw [List.length_take]; omega)).1 c3
        · rw [if_neg c3] at h; simp at h
end Go.Proofs.YteoibgpkimlahaaDoor.P
