/- Whether any hello may be, and its bytes, or the error, are the document's; it is got again. (part 9 of 27) -/
import Derived.Laws.BitsAllLaws
import Derived.Test.YteoibgpkimlahaaB7
import Derived.Test.YteoibgpkimlahaaB8
import Derived.Test.YteoibgpkimlahaaB6
section
namespace Go.Proofs.Yteoibgpkimlahaa.P
open Go.RowKit Go.Proofs.YteoibgpkimlahaaW.PrintWords Go.Proofs.YteoibgpkimlahaaW.PrintLast Go.Proofs.YteoibgpkimlahaaW.PrintMore
def leL (n : Int) : Nat → List Int
 | 0 => []
 | m + 1 => n % 256 :: leL (n / 256) m
def numL (l : List Int) : Int := l.foldl (fun n b => n * 256 + b) 0
def IsByte (l : List Int) : Prop := ∀ x ∈ l, 0 ≤ x ∧ x < 256
theorem leL_length : ∀ (m : Nat) (n : Int), (leL n m).length = m
 | 0, _ => rfl
 | m + 1, n => by simp [leL, leL_length m]
theorem leL_byte : ∀ (m : Nat) (n : Int), IsByte (leL n m)
 | 0, _ => fun x hx => by simp [leL] at hx
 | m + 1, n => fun x hx => by
  simp only [leL, List.mem_cons] at hx
  rcases hx with rfl | hx
  ·omega
  ·exact leL_byte m _ x hx
theorem numL_snoc (l : List Int) (b : Int) : numL (l ++ [b]) = numL l * 256 + b := by simp [numL]
theorem numL_leL : ∀ (m : Nat) (n : Int), 0 ≤ n → n < 256 ^ m → numL (leL n m).reverse = n
 | 0, n, h0, h1 => by simp at h1; simp [leL, numL]; omega
 | m + 1, n, h0, h1 => by
  have h2 : n < 256 ^ m * 256 := by rw [Int.pow_succ] at h1; exact h1
  rw [leL, List.reverse_cons, numL_snoc, numL_leL m (n / 256) (by omega) (by omega)]
  omega
theorem snoc_ind {α : Type} {P : List α → Prop} (h0 : P []) (h1 : ∀ l b, P l → P (l ++ [b])) (l : List α) : P l := by
 rw [← List.reverse_reverse l]
 generalize l.reverse = r
 induction r with
 | nil => exact h0
 | cons b r ih => rw [List.reverse_cons]; exact h1 _ _ ih
theorem numL_bd (l : List Int) : IsByte l → 0 ≤ numL l ∧ numL l < 256 ^ l.length := by
 refine snoc_ind (P := fun l => IsByte l → 0 ≤ numL l ∧ numL l < 256 ^ l.length) (fun _ => by simp [numL]) ?_ l
 ·intro l b ih h
  obtain ⟨h1, h2⟩ := ih (fun x hx => h x (List.mem_append_left _ hx))
  obtain ⟨h3, h4⟩ := h b (by simp)
  rw [numL_snoc, List.length_append, List.length_singleton, Int.pow_succ]
  omega
theorem i64_small {x : Int} (h0 : 0 ≤ x) (h1 : x < 9223372036854775808) : wrap64 x = x := by unfold wrap64; omega
theorem pow256 (i : Nat) : (2 : Int) ^ (8 * i) = 256 ^ i := by rw [Int.pow_mul]; rfl
theorem shr_digit (n : Int) (i : Nat) (h : i < 8) : shr .u64 n (8 * (i : Int)) = n / 256 ^ i := by
 unfold shr
 rw [show (8 * (i : Int)).toNat = 8 * i by omega, show IntKind.u64.bits = 64 from rfl, Nat.min_eq_left (by omega), pow256]
theorem fits_is (n : Int) (m : Nat) (h0 : 0 ≤ n) : fixed_fits.f n m = some (decide (8 ≤ m ∨ n < 256 ^ m)) := by
 unfold fixed_fits.f
 by_cases h : (m : Int) ≥ 8
 ·rw [if_pos h, decide_eq_true (by left; omega)]
 ·rw [if_neg h, i64_small (by omega) (by omega), if_pos (by omega), shr_digit _ _ (by omega)]
  have hp : (0 : Int) < 256 ^ m := Int.pow_pos (by decide)
  have e : (n / 256 ^ m = 0) ↔ n < 256 ^ m := by
   constructor
   ·intro e
    have := Int.lt_ediv_add_one_mul_self n hp
    rw [e] at this
    simpa using this
   ·exact fun e => Int.ediv_eq_zero_of_lt h0 e
  by_cases e1 : n < 256 ^ m
  ·rw [decide_eq_true (Or.inr e1), e.2 e1]; rfl
  ·rw [decide_eq_false (by omega)]
   have : ¬ n / 256 ^ m = 0 := fun x => e1 (e.1 x)
   simp [this]
theorem digits_loop (n : Int) (m : Nat) (hm : m ≤ 8) : ∀ (d i : Nat) (xs : List Int) (k : Nat), xs.length = m → i + d = m → d < k →
  fixed_digits.l0 k n xs (m : Int) (i : Int) = some (xs.take i ++ leL (n / 256 ^ i) d) := by
 intro d
 induction d with
 | zero =>
  intro i xs k hx hi hk
  obtain ⟨k, rfl⟩ : ∃ q, k = q + 1 := ⟨k - 1, by omega⟩
  simp only [fixed_digits.l0]
  rw [if_neg (by omega), List.take_of_length_le (by omega)]
  simp [leL]
 | succ d ih =>
  intro i xs k hx hi hk
  obtain ⟨k, rfl⟩ : ∃ q, k = q + 1 := ⟨k - 1, by omega⟩
  simp only [fixed_digits.l0]
  rw [if_pos (by omega), i64_small (by omega) (by omega), if_pos (by omega), if_pos (by omega), if_pos (by omega), shr_digit _ _ (by omega), i64_small (by omega) (by omega)]
  have e : ((i : Int) + 1) = ((i + 1 : Nat) : Int) := by omega
  rw [e, ih (i + 1) _ k (by simpa using hx) (by omega) (by omega)]
  rw [Int.toNat_natCast, leL, List.take_succ_eq_append_getElem (by simp; omega), List.take_set_of_le (by omega), List.getElem_set_self, List.append_assoc]
  rw [Int.ediv_ediv_of_nonneg (Int.le_of_lt (Int.pow_pos (by decide)))]
  rfl
theorem digits_is (n : Int) (m : Nat) (hm : m ≤ 8) : fixed_digits.f 9 n m = some (leL n m) := by
 unfold fixed_digits.f
 rw [if_pos (by omega), Int.toNat_natCast, if_pos (by omega)]
 simp only [Option.bind_some, List.length_replicate]
 rw [show (0 : Int) = ((0 : Nat) : Int) from rfl, digits_loop n m hm m 0 _ 9 (by simp) (by omega) (by omega)]
 simp
theorem reverse_is : ∀ l : List Int, l.length ≤ 8 → slices_Reverse_byte_byte.f 6 l = some l.reverse
 | [], _ => by simp [slices_Reverse_byte_byte.f, slices_Reverse_byte_byte.l0, wrap64]
 | [a], _ => by simp [slices_Reverse_byte_byte.f, slices_Reverse_byte_byte.l0, wrap64]
 | [a, b], _ => by simp [slices_Reverse_byte_byte.f, slices_Reverse_byte_byte.l0, wrap64, rd]
 | [a, b, c], _ => by simp [slices_Reverse_byte_byte.f, slices_Reverse_byte_byte.l0, wrap64, rd]
 | [a, b, c, d], _ => by simp [slices_Reverse_byte_byte.f, slices_Reverse_byte_byte.l0, wrap64, rd]
 | [a, b, c, d, e], _ => by simp [slices_Reverse_byte_byte.f, slices_Reverse_byte_byte.l0, wrap64, rd]
 | [a, b, c, d, e, f], _ => by simp [slices_Reverse_byte_byte.f, slices_Reverse_byte_byte.l0, wrap64, rd]
 | [a, b, c, d, e, f, g], _ => by simp [slices_Reverse_byte_byte.f, slices_Reverse_byte_byte.l0, wrap64, rd]
 | [a, b, c, d, e, f, g, h], _ => by simp [slices_Reverse_byte_byte.f, slices_Reverse_byte_byte.l0, wrap64, rd]
 | a :: b :: c :: d :: e :: f :: g :: h :: i :: l, hl => by simp at hl
theorem u64_small {x : Int} (h0 : 0 ≤ x) (h1 : x < 18446744073709551616) : IntKind.u64.wrap x = x := by
 unfold IntKind.wrap; simp [IntKind.signed, IntKind.bits]; omega
theorem or_byte (x b : Int) (h0 : 0 ≤ x) (h1 : x < 256 ^ 7) (h2 : 0 ≤ b) (h3 : b < 256) : Go.bits .or .u64 (IntKind.u64.wrap (x * 256)) (IntKind.u64.wrap b) = x * 256 + b := by
 rw [u64_small (by omega) (by omega), u64_small (by omega) (by omega)]
 exact bits_join .u64 64 (by decide) (fun n h0 h1 => u64_small h0 (by simpa using h1)) 8 _ _ (by omega) (by omega) (by omega) h2 (by omega) (by omega)
theorem pow256_le {a b : Nat} (h : a ≤ b) : (256 : Int) ^ a ≤ 256 ^ b := by
 obtain ⟨c, rfl⟩ := Nat.le.dest h
 rw [Int.pow_add]
 have h1 : (0 : Int) < 256 ^ a := Int.pow_pos (by decide)
 have h2 : (0 : Int) < 256 ^ c := Int.pow_pos (by decide)
 have := Int.mul_le_mul_of_nonneg_left (show (1 : Int) ≤ 256 ^ c by omega) (Int.le_of_lt h1)
 omega
theorem number_loop (l : List Int) (hb : IsByte l) (hl : l.length ≤ 8) : ∀ (d i k : Nat), i + d = l.length → d < k →
  fixed_number.l0 k (numL (l.take i)) l (l.length : Int) (i : Int) = some (numL l) := by
 intro d
 induction d with
 | zero =>
  intro i k hi hk
  obtain ⟨k, rfl⟩ : ∃ q, k = q + 1 := ⟨k - 1, by omega⟩
  simp only [fixed_number.l0]
  rw [if_neg (by omega), List.take_of_length_le (by omega)]
 | succ d ih =>
  intro i k hi hk
  obtain ⟨k, rfl⟩ : ∃ q, k = q + 1 := ⟨k - 1, by omega⟩
  have hlt : i < l.length := by omega
  obtain ⟨h1, h2⟩ := numL_bd (l.take i) (fun x hx => hb x (List.mem_of_mem_take hx))
  obtain ⟨h3, h4⟩ := hb (l[i]) (List.getElem_mem hlt)
  have h5 : (256 : Int) ^ (l.take i).length ≤ 256 ^ 7 := pow256_le (by rw [List.length_take]; omega)
  have hr : rd l (i : Int) = l[i] := by simp [rd, List.getD_eq_getElem?_getD, List.getElem?_eq_getElem hlt]
  simp only [fixed_number.l0]
  rw [if_pos (by omega), if_pos (by omega), if_pos (by omega), hr, or_byte _ _ h1 (by omega) h3 h4, i64_small (by omega) (by omega), show ((i : Int) + 1) = ((i + 1 : Nat) : Int) by omega, ← numL_snoc, ← List.take_succ_eq_append_getElem hlt]
  exact ih (i + 1) k (by omega) (by omega)
theorem number_is (l : List Int) (hb : IsByte l) (hl : l.length ≤ 8) : fixed_number.f 9 l = some (numL l) := by
 unfold fixed_number.f
 exact number_loop l hb hl l.length 0 9 (by omega) (by omega)
def RawB (w : World) (g n : Nat) (l : List Int) : Prop := l.length = n ∧ ∀ j, j < n → w.cell? ⟨g, j, none⟩ = some (.int .u8 (l.getD j 0)) ∧ w.frozen? ⟨g, j, none⟩ = false
theorem RawB.at_ {w : World} {g n : Nat} {l : List Int} (h : RawB w g n l) (i : Int) (h0 : 0 ≤ i) (h1 : i < (n : Int)) : w.cell? ⟨g, i.toNat, none⟩ = some (.int .u8 (rd l i)) ∧ w.frozen? ⟨g, i.toNat, none⟩ = false := h.2 _ (by omega)
theorem RawB.drew {w : World} {g n : Nat} {l : List Int} (h : RawB w g n l) : RawB w.drew g n l := h
theorem RawB.set {w : World} {g n : Nat} {l : List Int} (h : RawB w g n l) (i v : Int) : RawB (w.setCell ⟨g, i.toNat, none⟩ (.int .u8 v)) g n (l.set i.toNat v) := by
 refine ⟨by rw [List.length_set]; exact h.1, fun j hj => ⟨?_, by rw [World.frozen?_setCell]; exact (h.2 j hj).2⟩⟩
 by_cases e : i.toNat = j
 ·subst e
  rw [World.cell?_setCell_same w _ _ (h.2 _ hj).1]
  simp [List.getD_eq_getElem?_getD, h.1, hj]
 ·rw [World.cell?_setCell_other w _ _ _ (by intro x; injection x with _ x; exact e x), (h.2 j hj).1]
  simp [List.getD_eq_getElem?_getD, List.getElem?_set_ne e]
theorem RawB.reads {w : World} {g n : Nat} {l : List Int} (h : RawB w g n l) (hn : n ≤ 9223372036854775807) : (Kd.int .u8).C w (some ⟨g, 0, none⟩) l.length l :=
 Kd.C_of_reads (d := (0 : Int)) (h1 := fun _ => rfl) ⟨rfl, by rw [h.1]; exact hn, fun _ => ⟨_, rfl, fun j hj => by rw [add_plain]; exact (h.2 j (by rw [← h.1]; exact hj)).1⟩⟩
theorem RawB.of_bytes (W : World) (e : TypeId) (s : ByteArray) : RawB (Lib.bytesWorld W e s) W.heap.size s.size (bytesOf s) := by
 refine ⟨bytesOf_length s, fun j hj => ⟨?_, ?_⟩⟩
 ·rw [Lib.bytesWorld_cell W e s j hj]
  have h' : j < s.data.toList.length := by rw [data_length]; exact hj
  simp [bytesOf, List.getD_eq_getElem?_getD, List.getElem?_eq_getElem h']
 ·unfold World.frozen?
  rw [Lib.bytesWorld_at_new]
  have : j < (Lib.bytesCells W e s).size := by simp [Lib.bytesCells]; omega
  simp only [Bool.and_eq_false_iff, decide_eq_false_iff_not]
  left
  omega
theorem bytesOf_byte (s : ByteArray) : IsByte (bytesOf s) := by
 intro x hx
 simp only [bytesOf, List.mem_map] at hx
 obtain ⟨b, _, rfl⟩ := hx
 have := b.toNat_lt
 omega
theorem isByte_reverse {l : List Int} (h : IsByte l) : IsByte l.reverse := fun x hx => h x (List.mem_reverse.1 hx)
theorem size_zero (s : ByteArray) : s.toList = [] ↔ s.size = 0 := by
 rw [ByteArray.toList_eq, ← List.length_eq_zero_iff, data_length]
end Go.Proofs.Yteoibgpkimlahaa.P
end
section
namespace Go.Proofs.Yteoibgpkimlahaa.P
open Go.RowKit Go.Proofs.YteoibgpkimlahaaW.PrintWords Go.Proofs.YteoibgpkimlahaaW.PrintLast Go.Proofs.YteoibgpkimlahaaW.PrintMore
attribute [local go_sem] max2_int min2_int max_two min_two max_three min_three max_four min_four   
set_option linter.unusedVariables false
set_option linter.unusedSimpArgs false
def fixed_GetLeast.f (a0 : ByteArray) : Option (Int × Int) :=
 if 8 < a0.size then some (0, 5) else if a0.toList ≠ [] ∧ bt a0 0 = 0 then some (0, 3) else some (numL (bytesOf a0), 0)
set_option maxHeartbeats 8000000 in
set_option maxRecDepth 100000 in
theorem fixed_GetLeast.calls (a0 : ByteArray) (r1 : Int) (r2 : Int) (w : World) (h : fixed_GetLeast.f a0 = some (r1, r2)) :
  Calls Try.prog 18 #[.string a0] w fun e w' => e = .returned (.tuple #[.int .u64 r1, .int .i64 r2]) ∧ Below w.heap.size w w' := by
 have HB := Aside0.mk (Below.refl w.heap.size w)
 unfold fixed_GetLeast.f at h
 by_cases c2 : 8 < a0.size
 ·rw [if_pos c2] at h
  injection h with h
  injection h with h1 h2
  subst h1 h2
  have b2 : decide (8 < a0.size) = true := decide_eq_true c2
  have b2' : decide (8 < (a0.size : Int)) = true := decide_eq_true (by omega)
  clear c2
  go_enter Try.func18, Try.ntmps18
  go_wp2
  go_ret2
  exact ⟨rfl, HB.out⟩
 ·rw [if_neg c2] at h
  have b2 : decide (8 < a0.size) = false := decide_eq_false c2
  have b2' : decide (8 < (a0.size : Int)) = false := decide_eq_false (by omega)
  have A3 := Aside0.mk (number_is (bytesOf a0) (bytesOf_byte a0) (by rw [bytesOf_length]; omega))
  have A4 := Aside0.mk (show a0.size ≤ 9223372036854775807 by omega)
  by_cases c1 : a0.toList = ([] : List UInt8)
  ·rw [if_neg (fun x => x.1 c1)] at h
   have c6b0 : (a0.toList == ([] : List UInt8)) = true := beq_iff_eq.mpr c1
   have c6b1 : (a0.toList != ([] : List UInt8)) = false := bne_eq_false_iff_eq.mpr c1
   injection h with h
   injection h with h1 h2
   subst h2
   have H1 := Aside0.mk h1
   clear c1 c2 h1
   have kb := fun W => print_bytes (P := Try.prog) 9 100 5 Try.underlying9 Try.underlying100 Try.underlying5 a0 W
   have hr := Kd.C_below ((RawB.of_bytes w 5 a0).reads A4.out) (Below.refl _ _)
   have hn := fixed_number.calls 9 (some ⟨w.heap.size, 0, none⟩) (grownCap w a0.size 0 5) (bytesOf a0) _ (Lib.bytesWorld w 5 a0) hr (by rw [bytesOf_length]; exact grownCap_ge _ _ _ _) A3.out
   simp only [bytesOf_length] at hn
   have HN := Aside0.mk hn
   have HB1 := Aside0.mk (bytes_below HB.out (Nat.le_refl _) 5 a0)
   clear hn hr
   go_enter Try.func18, Try.ntmps18
   go_wp2_with fail
   refine HN.out.mono ?_
   rintro e w' ⟨rfl, ⟨nm, rfl⟩⟩
   go_wp2
   go_ret2
   exact ⟨by first | rfl | (simp [H1.out]; done) | (have e := H1.out; simp at e; simp [e]) | (rw [← H1.out]; rfl), pw_below_drewN HB1.out _⟩
  ·have c6b0 : (a0.toList == ([] : List UInt8)) = false := beq_eq_false_iff_ne.mpr c1
   have c6b1 : (a0.toList != ([] : List UInt8)) = true := bne_iff_ne.mpr c1
   have q0 : 0 < a0.size := by have := mt (size_zero a0).2 c1; omega
   have hx0 : ∀ h : 0 < a0.size, ((a0[0]'h).toNat : Int) = bt a0 0 := bt_at a0 0
   have qi0 : (0 < (a0.size : Int)) = True := eq_true (by omega)
   by_cases c3 : bt a0 0 = 0
   ·rw [if_pos ⟨c1, c3⟩] at h
    injection h with h
    injection h with h1 h2
    subst h1 h2
    have c3b0 : (bt a0 0 == 0) = true := beq_iff_eq.mpr c3
    replace q0 := eq_true q0
    clear c1 c2 c3
    go_enter Try.func18, Try.ntmps18
    go_wp2
    go_ret2
    exact ⟨rfl, HB.out⟩
   ·rw [if_neg (fun x => c3 x.2)] at h
    injection h with h
    injection h with h1 h2
    subst h2
    have H1 := Aside0.mk h1
    have c3b0 : (bt a0 0 == 0) = false := beq_eq_false_iff_ne.mpr c3
    replace q0 := eq_true q0
    clear c1 c2 c3 h1
    have kb := fun W => print_bytes (P := Try.prog) 9 100 5 Try.underlying9 Try.underlying100 Try.underlying5 a0 W
    have hr := Kd.C_below ((RawB.of_bytes w 5 a0).reads A4.out) (Below.refl _ _)
    have hn := fixed_number.calls 9 (some ⟨w.heap.size, 0, none⟩) (grownCap w a0.size 0 5) (bytesOf a0) _ (Lib.bytesWorld w 5 a0) hr (by rw [bytesOf_length]; exact grownCap_ge _ _ _ _) A3.out
    simp only [bytesOf_length] at hn
    have HN := Aside0.mk hn
    have HB1 := Aside0.mk (bytes_below HB.out (Nat.le_refl _) 5 a0)
    clear hn hr
    go_enter Try.func18, Try.ntmps18
    go_wp2_with fail
    refine HN.out.mono ?_
    rintro e w' ⟨rfl, ⟨nm, rfl⟩⟩
    go_wp2
    go_ret2
    exact ⟨by first | rfl | (simp [H1.out]; done) | (have e := H1.out; simp at e; simp [e]) | (rw [← H1.out]; rfl), pw_below_drewN HB1.out _⟩
end Go.Proofs.Yteoibgpkimlahaa.P
end
section
namespace Go.Proofs.Yteoibgpkimlahaa.P
open Go.RowKit Go.Proofs.YteoibgpkimlahaaW.PrintWords Go.Proofs.YteoibgpkimlahaaW.PrintLast Go.Proofs.YteoibgpkimlahaaW.PrintMore
theorem bytesOf_str (l : List Int) (h : IsByte l) : bytesOf (strOfNums l) = l := by
 unfold bytesOf
 rw [strOfNums_data, List.map_map]
 conv => rhs; rw [← List.map_id l]
 refine List.map_congr_left fun x hx => ?_
 obtain ⟨h0, h1⟩ := h x hx
 show ((UInt8.ofNat x.toNat).toNat : Int) = x
 rw [UInt8.toNat_ofNat']
 omega
theorem str_bytesOf (s : ByteArray) : strOfNums (bytesOf s) = s := by
 refine Go.WideShapes.bytes_inj ?_
 rw [strOfNums_data, bytesOf, List.map_map]
 conv => rhs; rw [← List.map_id s.data.toList]
 refine List.map_congr_left fun x _ => ?_
 show UInt8.ofNat ((x.toNat : Int)).toNat = x
 simp
theorem str_append (a b : List Int) : strOfNums (a ++ b) = strOfNums a ++ strOfNums b := by
 refine Go.WideShapes.bytes_inj ?_
 simp [strOfNums, ByteArray.data_append]
theorem bytesOf_inj {a b : ByteArray} (h : bytesOf a = bytesOf b) : a = b := by rw [← str_bytesOf a, ← str_bytesOf b, h]
theorem toList_inj {a b : ByteArray} (h : a.toList = b.toList) : a = b := by
 rw [ByteArray.toList_eq, ByteArray.toList_eq] at h
 exact Go.WideShapes.bytes_inj h
theorem toList_str (l : List Int) : (strOfNums l).toList = l.map fun n => UInt8.ofNat n.toNat := by rw [ByteArray.toList_eq, strOfNums_data]
theorem bt_getD (s : ByteArray) (i : Nat) : bt s i = (bytesOf s).getD i 0 := by rw [← rd_bytesOf]; rfl
def sz (x : Int) : Nat := if _h : x ≤ 0 then 0 else sz (x / 256) + 1
termination_by x.toNat
decreasing_by omega
theorem sz_zero {x : Int} (h : x ≤ 0) : sz x = 0 := by rw [sz, dif_pos h]
theorem sz_pos {x : Int} (h : 0 < x) : sz x = sz (x / 256) + 1 := by rw [sz, dif_neg (by omega)]
theorem sz_le (m : Nat) : ∀ x : Int, 0 ≤ x → (sz x ≤ m ↔ x < 256 ^ m) := by
 induction m with
 | zero =>
  intro x h0
  by_cases h : x ≤ 0
  ·rw [sz_zero h]; simp; omega
  ·rw [sz_pos (by omega)]; simp; omega
 | succ m ih =>
  intro x h0
  have hp : (0 : Int) < 256 ^ m := Int.pow_pos (by decide)
  rw [Int.pow_succ]
  by_cases h : x ≤ 0
  ·rw [sz_zero h]
   constructor
   ·intro _; omega
   ·intro _; omega
  ·rw [sz_pos (by omega), Nat.add_le_add_iff_right, ih _ (by omega)]
   constructor <;> intro _ <;> omega
def digs (x : Int) : List Int := (leL x (sz x)).reverse
theorem digs_length (x : Int) : (digs x).length = sz x := by rw [digs, List.length_reverse, leL_length]
theorem digs_byte (x : Int) : IsByte (digs x) := isByte_reverse (leL_byte _ _)
theorem digs_zero : digs 0 = [] := by rw [digs, sz_zero (by omega)]; rfl
theorem digs_pos {x : Int} (h : 0 < x) : digs x = digs (x / 256) ++ [x % 256] := by
 rw [digs, sz_pos h, leL, List.reverse_cons]; rfl
theorem numL_digs (x : Int) (h : 0 ≤ x) : numL (digs x) = x := numL_leL _ _ h ((sz_le _ x h).1 (Nat.le_refl _))
theorem digs_head (x : Int) (h : 0 < x) : (digs x).head? ≠ some 0 := by
 intro he
 have hl := digs_length x
 have hb := digs_byte x
 have hn := numL_digs x (by omega)
 cases hd : digs x with
 | nil => rw [hd] at he; simp at he
 | cons a l =>
  rw [hd] at he hl hn hb
  simp only [List.head?_cons, Option.some.injEq] at he
  subst he
  have h1 : numL (0 :: l) = numL l := by simp [numL]
  have h2 := (numL_bd l (fun x hx => hb x (List.mem_cons_of_mem _ hx))).2
  rw [← h1, hn] at h2
  have := (sz_le _ x (by omega)).2 h2
  simp at hl
  omega
theorem sz_u64 {n : Int} (h0 : 0 ≤ n) (h1 : n < 18446744073709551616) : sz n ≤ 8 := (sz_le 8 n h0).2 (by omega)
theorem rLeast_loop : ∀ (d : Nat) (n : Int) (acc : List Int) (k : Nat), 0 ≤ n → n < 18446744073709551616 → sz n = d → d < k → acc.length + d < 1000 → d ≤ 8 →
  hatchwayref02_Least.l0 k n (strOfNums acc) = some (strOfNums (digs n ++ acc)) := by
 intro d
 induction d with
 | zero =>
  intro n acc k h0 h1 hd hk ha _
  obtain ⟨k, rfl⟩ : ∃ q, k = q + 1 := ⟨k - 1, by omega⟩
  have hn : n = 0 := by
   have := (sz_le 0 n h0).1 (by omega)
   simp at this; omega
  subst hn
  simp only [hatchwayref02_Least.l0]
  rw [if_neg (by omega), digs_zero]; rfl
 | succ d ih =>
  intro n acc k h0 h1 hd hk ha h8
  obtain ⟨k, rfl⟩ : ∃ q, k = q + 1 := ⟨k - 1, by omega⟩
  have hn : 0 < n := by
   rcases Int.lt_or_le 0 n with h | h
   ·exact h
   ·rw [sz_zero h] at hd; omega
  simp only [hatchwayref02_Least.l0]
  rw [if_pos hn]
  simp only [Option.bind_some]
  rw [if_pos (by rw [strOfNums_size, strOfNums_size]; simp; omega), Int.tmod_eq_emod_of_nonneg h0, Int.tdiv_eq_ediv_of_nonneg h0, Int.emod_emod, u64_small (by omega) (by omega), ← str_append]
  rw [ih (n / 256) _ k (by omega) (by omega) (by rw [sz_pos hn] at hd; omega) (by omega) (by simp; omega) (by omega), digs_pos hn, List.append_assoc]
theorem rLeast_is (n : Int) (h0 : 0 ≤ n) (h1 : n < 18446744073709551616) : Ev (fun k => hatchwayref02_Least.f k n) (strOfNums (digs n)) := by
 refine Ev.of (hatchwayref02_Least.mono n) (k := sz n + 1) ?_
 have := rLeast_loop (sz n) n [] (sz n + 1) h0 h1 rfl (by omega) (by have := sz_u64 h0 h1; simp; omega) (sz_u64 h0 h1)
 rw [List.append_nil] at this
 exact this
end Go.Proofs.Yteoibgpkimlahaa.P
end
section
namespace Go.Proofs.Yteoibgpkimlahaa.P
open Go.RowKit Go.Proofs.YteoibgpkimlahaaW.PrintWords Go.Proofs.YteoibgpkimlahaaW.PrintLast Go.Proofs.YteoibgpkimlahaaW.PrintMore
structure IsDec (w : World) (g : Nat) (s : ByteArray) (a d t : Int) (A : Option Addr) (c : Nat) (st : List S151) (f : Int) : Prop where
 hb : w.heap[g]? = some (.cells #[.string s, .int .i64 a, .int .i64 d, .int .i64 t, .slice A st.length c, .int .i64 f] 126 (0, 0))
 hC : ∀ W', KeepBut w W' g none → Kd.C k151 W' A st.length st
section
variable {w w0 w1 : World} {g : Nat} {s : ByteArray} {a d t : Int} {A : Option Addr} {c : Nat} {st : List S151} {f : Int}
theorem IsDec.drewN (h : IsDec w g s a d t A c st f) (n : Nat) : IsDec (w.drewN n) g s a d t A c st f := ⟨h.hb, fun W' hk => h.hC W' hk⟩
theorem IsDec.set1 (h : IsDec w g s a d t A c st f) (x : Int) : IsDec (w.setCell ⟨g, 1, none⟩ (.int .i64 x)) g s x d t A c st f := ⟨by simpa using blk_set h.hb 1 (.int .i64 x), Kd.C_foot_step h.hC ((KeepBut.refl w g none).set_ 1 _)⟩
theorem IsDec.set3 (h : IsDec w g s a d t A c st f) (x : Int) : IsDec (w.setCell ⟨g, 3, none⟩ (.int .i64 x)) g s a d x A c st f := ⟨by simpa using blk_set h.hb 3 (.int .i64 x), Kd.C_foot_step h.hC ((KeepBut.refl w g none).set_ 3 _)⟩
theorem IsDec.set5 (h : IsDec w g s a d t A c st f) (x : Int) : IsDec (w.setCell ⟨g, 5, none⟩ (.int .i64 x)) g s a d t A c st x := ⟨by simpa using blk_set h.hb 5 (.int .i64 x), Kd.C_foot_step h.hC ((KeepBut.refl w g none).set_ 5 _)⟩
theorem IsDec.below (h : IsDec w g s a d t A c st f) (hb : Below w.heap.size w w1) : IsDec w1 g s a d t A c st f := ⟨blk_below h.hb hb, Kd.C_foot_step h.hC (KeepBut.of_below hb _ _)⟩
theorem IsDec.reads (h : IsDec w g s a d t A c st f) : w.cell? ⟨g, 0, none⟩ = some (.string s) ∧ w.cell? ⟨g, 1, none⟩ = some (.int .i64 a) ∧ w.cell? ⟨g, 2, none⟩ = some (.int .i64 d) ∧ w.cell? ⟨g, 3, none⟩ = some (.int .i64 t) ∧ w.cell? ⟨g, 4, none⟩ = some (.slice A st.length c) ∧ w.cell? ⟨g, 5, none⟩ = some (.int .i64 f) :=
 ⟨(blk_cell h.hb 0).trans rfl, (blk_cell h.hb 1).trans rfl, (blk_cell h.hb 2).trans rfl, (blk_cell h.hb 3).trans rfl, (blk_cell h.hb 4).trans rfl, (blk_cell h.hb 5).trans rfl⟩
end
def failD (f e : Int) : Int := if f = 0 then e else f
def lackE (st : List S151) : Int := if st.length = 0 then 2 else 3
theorem failD_zero (f : Int) : failD f 0 = f := by unfold failD; split <;> omega
theorem failD_lack (st : List S151) (f : Int) : failD f (lackE st) ≠ 0 := by
 unfold failD lackE
 split
 ·split <;> omega
 ·assumption
def endD (s : ByteArray) (st : List S151) : Int := if st.length = 0 then s.size else (rd_T151 st (st.length - 1)).f1
def DecPost (w0 w : World) (g : Nat) (s : ByteArray) (d : Int) (A : Option Addr) (c : Nat) (st : List S151) (v : Value) (a t f : Int) (e : Ending) (w' : World) : Prop :=
 e = .returned v ∧ IsDec w' g s a d t A c st f ∧ Below w0.heap.size w0 w' ∧ KeepBut w w' g none
section
variable {w w0 w1 : World} {g : Nat} {s : ByteArray} {a d t : Int} {A : Option Addr} {c : Nat} {st : List S151} {f : Int}
set_option maxHeartbeats 4000000 in
set_option maxRecDepth 100000 in
theorem dec_fail (x : Int) (hI : IsDec w g s a d t A c st f) (hB : Below w0.heap.size w0 w) (hg : w0.heap.size ≤ g) :
  Calls Try.prog 104 #[.pointer (some ⟨g, 0, none⟩), .int .i64 x] w (DecPost w0 w g s d A c st (.tuple #[]) a t (failD f x)) := by
 have h5 := hI.reads.2.2.2.2.2
 have hf := blk_frozen hI.hb 5
 have HI := Aside0.mk hI
 have HB := Aside0.mk hB
 have HG := Aside0.mk hg
 clear hI hB hg
 unfold failD
 by_cases c0 : f = 0
 ·rw [if_pos c0]
  have c1 : (f == 0) = true := beq_iff_eq.mpr c0
  clear c0
  go_enter Try.func104, Try.ntmps104
  go_wp2
  go_end0
  exact ⟨rfl, HI.out.set5 _, below_set HB.out HG.out, (KeepBut.refl w g none).set_ 5 _⟩
 ·rw [if_neg c0]
  have c1 : (f == 0) = false := beq_eq_false_iff_ne.mpr c0
  clear c0
  go_enter Try.func104, Try.ntmps104
  go_wp2
  go_end0
  exact ⟨rfl, HI.out, HB.out, KeepBut.refl w g none⟩
set_option maxHeartbeats 4000000 in
set_option maxRecDepth 100000 in
theorem dec_lack (hI : IsDec w g s a d t A c st f) (hB : Below w0.heap.size w0 w) (hg : w0.heap.size ≤ g) :
  Calls Try.prog 120 #[.pointer (some ⟨g, 0, none⟩)] w (DecPost w0 w g s d A c st (.tuple #[]) a t (failD f (lackE st))) := by
 have h4 := hI.reads.2.2.2.2.1
 have hc := fun x => dec_fail x hI hB hg
 have HC := Aside0.mk hc
 clear hc hI hB hg
 unfold lackE
 by_cases c0 : st.length = 0
 ·rw [if_pos c0]
  have c1 : decide (0 < st.length) = false := decide_eq_false (by omega)
  clear c0
  go_enter Try.func120, Try.ntmps120
  go_wp2_with fail
  refine (HC.out 2).mono ?_
  rintro e w2 ⟨rfl, hi, hb, hk⟩
  have H := Aside0.mk (And.intro hi (And.intro hb hk))
  clear hi hb hk
  go_wp2
  go_end0
  exact ⟨rfl, H.out⟩
 ·rw [if_neg c0]
  have c1 : decide (0 < st.length) = true := decide_eq_true (by omega)
  clear c0
  go_enter Try.func120, Try.ntmps120
  go_wp2_with fail
  refine (HC.out 3).mono ?_
  rintro e w2 ⟨rfl, hi, hb, hk⟩
  have H := Aside0.mk (And.intro hi (And.intro hb hk))
  clear hi hb hk
  go_wp2
  go_end0
  exact ⟨rfl, H.out⟩
set_option maxHeartbeats 4000000 in
set_option maxRecDepth 100000 in
theorem dec_left (hI : IsDec w g s a d t A c st f) (h0 : 0 ≤ a) (h1 : a ≤ 4611686018427387904) (h2 : 0 ≤ endD s st) (h3 : endD s st ≤ 4611686018427387904) :
  Calls Try.prog 119 #[.pointer (some ⟨g, 0, none⟩)] w fun e w' => e = .returned (.int .i64 (endD s st - a)) ∧ ∃ q, w' = w.drewN q := by
 obtain ⟨r0, r1, r2, r3, r4, r5⟩ := hI.reads
 have hC := hI.hC w (KeepBut.refl w g none)
 clear hI
 unfold endD at h2 h3 ⊢
 by_cases c0 : st.length = 0
 ·rw [if_pos c0] at h2 h3 ⊢
  have c1 : decide (0 < st.length) = false := decide_eq_false (by omega)
  have hw : IntKind.i64.wrap ((s.size : Int) - a) = (s.size : Int) - a := by rw [i64_w]; unfold wrap64; omega
  clear c0 hC r2 r3 r5
  go_enter Try.func119, Try.ntmps119
  go_wp2
  repeat (go_quiet (fail); try go_wp2)
  go_ret
  exact ⟨rfl, _, rfl⟩
 ·rw [if_neg c0] at h2 h3 ⊢
  have c1 : decide (0 < st.length) = true := decide_eq_true (by omega)
  have hm := hC.2.1
  obtain ⟨j, hj⟩ : ∃ j : Int, (st.length : Int) - 1 = j := ⟨_, rfl⟩
  rw [hj] at h2 h3 ⊢
  have e2 : IntKind.i64.wrap ((st.length : Int) - 1) = j := by rw [← hj, i64_w]; unfold wrap64; omega
  have p0 : 0 ≤ j := by omega
  have p1 : j < (st.length : Int) := by omega
  obtain ⟨ad, A0, c2, rfl, hx0, hx1, hl2, hi2⟩ := at_T151 hC _ p0 p1
  have hw : IntKind.i64.wrap ((rd_T151 st j).f1 - a) = (rd_T151 st j).f1 - a := by rw [i64_w]; unfold wrap64; omega
  have p2 := eq_true p0
  have p3 := eq_true p1
  have p4 : decide (j < (st.length : Int)) = true := decide_eq_true p1
  clear c0 hC r2 r3 r5 hm hl2 hi2 hx0 hj
  go_enter Try.func119, Try.ntmps119
  go_wp2
  go_quiet (fail)
  go_wp2
  go_ret
  exact ⟨rfl, _, rfl⟩
structure DecOk (s : ByteArray) (a : Int) (st : List S151) : Prop where
 h0 : 0 ≤ a
 h1 : a ≤ endD s st
 h2 : endD s st ≤ s.size
 h3 : s.size ≤ 1099511627776
theorem dec_left_ok (hI : IsDec w g s a d t A c st f) (hK : DecOk s a st) : Calls Try.prog 119 #[.pointer (some ⟨g, 0, none⟩)] w fun e w' => e = .returned (.int .i64 (endD s st - a)) ∧ ∃ q, w' = w.drewN q :=
 dec_left hI hK.h0 (by have := hK.h1; have := hK.h2; have := hK.h3; omega) (by have := hK.h0; have := hK.h1; omega) (by have := hK.h2; have := hK.h3; omega)
set_option maxHeartbeats 4000000 in
set_option maxRecDepth 100000 in
theorem dec_take_ok (n : Int) (hI : IsDec w g s a d t A c st 0) (hB : Below w0.heap.size w0 w) (hg : w0.heap.size ≤ g) (hK : DecOk s a st) (hn : 0 ≤ n) (hl : n ≤ endD s st - a) :
  Calls Try.prog 102 #[.pointer (some ⟨g, 0, none⟩), .int .i64 n] w (DecPost w0 w g s d A c st (.string (s.extract a.toNat (a + n).toNat)) (a + n) t 0) := by
 have hk1 := hK.h0
 have hk2 := hK.h1
 have hk3 := hK.h2
 have hk4 := hK.h3
 have HL := Aside0.mk (dec_left_ok hI hK)
 have HI := Aside0.mk hI
 have HB := Aside0.mk hB
 have HG := Aside0.mk hg
 obtain ⟨m, hm⟩ : ∃ m, a + n = m := ⟨_, rfl⟩
 rw [hm]
 have e1 : wrap64 (a + n) = m := by unfold wrap64; omega
 have e2 : IntKind.i64.wrap (m - n) = a := by rw [i64_w]; unfold wrap64; omega
 have c1 : decide (endD s st - a < n) = false := decide_eq_false (by omega)
 have p1 := eq_true hk1
 have p2 := eq_true (show a ≤ m by omega)
 have p3 := eq_true (show m ≤ (s.size : Int) by omega)
 have p4 : decide (a ≤ m) = true := decide_eq_true (by omega)
 have p5 : decide (m ≤ (s.size : Int)) = true := decide_eq_true (by omega)
 have h0' : ∀ v, (w.setCell ⟨g, 1, none⟩ v).cell? ⟨g, 0, none⟩ = some (.string s) := fun v => (blk_cell (blk_set hI.hb 1 v) 0).trans rfl
 have hfz := blk_frozen hI.hb 1
 obtain ⟨r0, r1, r2, r3, r4, r5⟩ := hI.reads
 clear hI hB hg hK hk1 hk2 hk3 hk4 hl hm hn
 go_enter Try.func102, Try.ntmps102
 go_wp2_with fail
 refine HL.out.mono ?_
 rintro e w2 ⟨rfl, q, rfl⟩
 go_wp2
 go_quiet (fail)
 go_wp2
 go_ret
 exact ⟨rfl, ((HI.out.drewN q).set1 m).drewN _, pw_below_drewN (below_set (pw_below_drewN HB.out q) HG.out) _, ((KeepBut.refl w g none).set_ 1 _)⟩
set_option maxHeartbeats 4000000 in
set_option maxRecDepth 100000 in
theorem dec_take_no (n : Int) (hI : IsDec w g s a d t A c st f) (hB : Below w0.heap.size w0 w) (hg : w0.heap.size ≤ g) (hK : DecOk s a st) (hn : f ≠ 0 ∨ endD s st - a < n) :
  Calls Try.prog 102 #[.pointer (some ⟨g, 0, none⟩), .int .i64 n] w (DecPost w0 w g s d A c st (.string ⟨#[]⟩) a t (failD f (lackE st))) := by
 have HL := Aside0.mk (dec_left_ok hI hK)
 have HI := Aside0.mk hI
 have HB := Aside0.mk hB
 have HG := Aside0.mk hg
 by_cases c0 : endD s st - a < n
 ·have c1 : decide (endD s st - a < n) = true := decide_eq_true c0
  have hl := failD_lack st f
  clear c0 hI hB hg hK hn
  go_enter Try.func102, Try.ntmps102
  go_wp2_with fail
  refine HL.out.mono ?_
  rintro e w2 ⟨rfl, q, rfl⟩
  go_wp2_with fail
  refine (dec_lack (HI.out.drewN q) (pw_below_drewN HB.out q) HG.out).mono ?_
  rintro e w3 ⟨rfl, hi, hb, hk⟩
  obtain ⟨r0, r1, r2, r3, r4, r5⟩ := hi.reads
  have H := Aside0.mk (And.intro hi (And.intro hb (show KeepBut w w3 g none from hk)))
  clear hi hb hk
  generalize failD f (lackE st) = x at *
  have cx : (x != 0) = true := bne_iff_ne.mpr hl
  clear hl
  go_wp2
  go_ret
  exact ⟨rfl, H.out⟩
 ·have c1 : decide (endD s st - a < n) = false := decide_eq_false c0
  have hf : f ≠ 0 := hn.elim id (fun h => absurd h c0)
  have hl : failD f (lackE st) = f := by unfold failD; rw [if_neg hf]
  have cx : (f != 0) = true := bne_iff_ne.mpr hf
  obtain ⟨r0, r1, r2, r3, r4, r5⟩ := hI.reads
  rw [hl]
  clear c0 hI hB hg hK hn hf hl
  go_enter Try.func102, Try.ntmps102
  go_wp2_with fail
  refine HL.out.mono ?_
  rintro e w2 ⟨rfl, q, rfl⟩
  go_wp2
  go_ret
  exact ⟨rfl, HI.out.drewN q, pw_below_drewN HB.out q, KeepBut.refl w g none⟩
def startF1 (s : ByteArray) (a : Int) (st : List S151) : Int := if endD s st - a = 0 then lackE st else 0
def startF2 (s : ByteArray) (a d : Int) (st : List S151) : Int := failD (startF1 s a st) (if d ≤ (st.length : Int) then 6 else 0)
def startF (s : ByteArray) (a d t : Int) (st : List S151) : Int := failD (startF2 s a d st) (if t - 1 < 0 then 4 else 0)
theorem one_byte (s : ByteArray) (a : Int) (h0 : 0 ≤ a) (h1 : a + 1 ≤ s.size) : ∃ y : Nat, bt s a = (y : Int) ∧ wrap64 (y : Int) = (y : Int) ∧ ∃ q : 0 < (s.extract a.toNat (a + 1).toNat).size, ((s.extract a.toNat (a + 1).toNat)[0]'q).toNat = y ∧ ((s.extract a.toNat (a + 1).toNat).toList == []) = false := by
 have hx : (s.extract a.toNat (a + 1).toNat).size = 1 := by rw [ByteArray.size_extract]; omega
 refine ⟨(s[a.toNat]'(by omega)).toNat, by unfold bt; rw [dif_pos (by omega)], by have := (s[a.toNat]'(by omega)).toNat_lt; unfold wrap64; omega, by omega, by rw [ByteArray.getElem_extract]; simp, ?_⟩
 cases h : (s.extract a.toNat (a + 1).toNat).toList with
 | nil =>
  rw [ByteArray.toList_eq] at h
  have : (s.extract a.toNat (a + 1).toNat).size = 0 := by rw [← ByteArray.size_data, ← Array.length_toList, h]; rfl
  omega
 | cons _ _ => rfl
def startB (s : ByteArray) (a d t : Int) (st : List S151) : Int := if startF s a d t st = 0 then bt s a else 0
def startA (s : ByteArray) (a d t : Int) (st : List S151) : Int := if startF s a d t st = 0 then a + 1 else a
set_option maxHeartbeats 8000000 in
set_option maxRecDepth 100000 in
theorem dec_start (hI : IsDec w g s a d t A c st 0) (hB : Below w0.heap.size w0 w) (hg : w0.heap.size ≤ g) (hK : DecOk s a st) (ht : 0 ≤ t) (ht2 : t ≤ 4611686018427387904) :
  Calls Try.prog 101 #[.pointer (some ⟨g, 0, none⟩)] w
   (DecPost w0 w g s d A c st (.int .i64 (startB s a d t st)) (startA s a d t st) (t - 1) (startF s a d t st)) := by
 have HK := Aside0.mk hK
 obtain ⟨u, hu⟩ : ∃ u, t - 1 = u := ⟨_, rfl⟩
 rw [hu]
 have HU := Aside0.mk hu
 have hw : wrap64 (t - 1) = u := by rw [← hu]; unfold wrap64; omega
 have HL := Aside0.mk (dec_left_ok hI hK)
 have HI := Aside0.mk hI
 have HB := Aside0.mk hB
 have HG := Aside0.mk hg
 clear hI hB hg hK ht ht2 hu
 go_enter Try.func101, Try.ntmps101
 go_wp2_with fail
 refine HL.out.mono ?_
 rintro e w2 ⟨rfl, q, rfl⟩
 go_upto_if 6 with (fail)
 (try simp only [Act.put, List.setIfInBounds_toArray, List.set_cons_zero, List.set_cons_succ])
 go_cut [] (fun wc => Aside0 (IsDec wc g s a d t A c st (startF1 s a st)) ∧ Aside0 (KeepBut w wc g none) ∧ Aside0 (Below w0.heap.size w0 wc))
 case first =>
  by_cases c0 : endD s st - a = 0
  ·have E0 := Aside0.mk (show startF1 s a st = lackE st from if_pos c0)
   have c1 : (endD s st - a == 0) = true := beq_iff_eq.mpr c0
   clear c0
   go_wp2_with fail
   refine (dec_lack (HI.out.drewN q) (pw_below_drewN HB.out q) HG.out).mono ?_
   rintro e w3 ⟨rfl, hi, hb, hk⟩
   have H := Aside0.mk (show IsDec w3 g s a d t A c st (lackE st) from hi)
   have H2 := Aside0.mk hb
   have H3 := Aside0.mk (show KeepBut w w3 g none from hk)
   clear hi hb hk
   go_wp2
   go_meet
   case rel => exact ⟨⟨by rw [E0.out]; exact H.out⟩, H3, H2⟩
  ·have E0 := Aside0.mk (show startF1 s a st = 0 from if_neg c0)
   have c1 : (endD s st - a == 0) = false := beq_eq_false_iff_ne.mpr c0
   clear c0
   go_wp2
   go_meet
   case rel => exact ⟨⟨by rw [E0.out]; exact HI.out.drewN q⟩, ⟨KeepBut.refl w g none⟩, ⟨pw_below_drewN HB.out q⟩⟩
 case rest =>
  obtain ⟨HI2, HK2, HB2⟩ := hcut
  obtain ⟨f1, hf1⟩ : ∃ f1, startF1 s a st = f1 := ⟨_, rfl⟩
  rw [hf1] at HI2
  have HF1 := Aside0.mk hf1
  obtain ⟨r0, r1, r2, r3, r4, r5⟩ := HI2.out.reads
  clear hf1
  go_upto_if 18 with (fail)
  repeat (go_quiet (fail); go_upto_if 18 with (fail))
  (try simp only [Act.put, List.setIfInBounds_toArray, List.set_cons_zero, List.set_cons_succ])
  go_cut [] (fun wc => Aside0 (IsDec wc g s a d t A c st (startF2 s a d st)) ∧ Aside0 (KeepBut w wc g none) ∧ Aside0 (Below w0.heap.size w0 wc))
  case first =>
   by_cases c0 : d ≤ (st.length : Int)
   ·have E0 := Aside0.mk (show startF2 s a d st = failD f1 6 from by unfold startF2; rw [if_pos c0, HF1.out])
    have c1 : decide (d ≤ (st.length : Int)) = true := decide_eq_true c0
    rw [c1]
    clear c0
    go_wp2_with fail
    refine (dec_fail 6 (HI2.out.drewN _) (pw_below_drewN HB2.out _) HG.out).mono ?_
    rintro e w3 ⟨rfl, hi, hb, hk⟩
    have H := Aside0.mk hi
    have H2 := Aside0.mk hb
    have H3 := Aside0.mk (HK2.out.trans (show KeepBut wc w3 g none from hk) (.inl rfl))
    clear hi hb hk
    go_wp2
    go_meet
    case rel => exact ⟨⟨by rw [E0.out]; exact H.out⟩, H3, H2⟩
   ·have E0 := Aside0.mk (show startF2 s a d st = f1 from by unfold startF2; rw [if_neg c0, HF1.out, failD_zero])
    have c1 : decide (d ≤ (st.length : Int)) = false := decide_eq_false c0
    rw [c1]
    clear c0
    go_wp2
    go_meet
    case rel => exact ⟨⟨by rw [E0.out]; exact HI2.out.drewN _⟩, HK2, ⟨pw_below_drewN HB2.out _⟩⟩
  case rest =>
   clear r0 r1 r2 r3 r4 r5
   obtain ⟨HI3, HK3, HB3⟩ := hcut
   obtain ⟨f2, hf2⟩ : ∃ f2, startF2 s a d st = f2 := ⟨_, rfl⟩
   rw [hf2] at HI3
   have HF2 := Aside0.mk hf2
   obtain ⟨r0, r1, r2, r3, r4, r5⟩ := HI3.out.reads
   have hfz := blk_frozen HI3.out.hb 3
   clear hf2
   go_upto_if 32 with (fail)
   (try simp only [Act.put, List.setIfInBounds_toArray, List.set_cons_zero, List.set_cons_succ])
   go_cut [] (fun wc => Aside0 (IsDec wc g s a d u A c st (startF s a d t st)) ∧ Aside0 (KeepBut w wc g none) ∧ Aside0 (Below w0.heap.size w0 wc))
   case first =>
    by_cases c0 : u < 0
    ·have E0 := Aside0.mk (show startF s a d t st = failD f2 4 from by unfold startF; rw [HU.out, if_pos c0, HF2.out])
     have c1 : decide (u < 0) = true := decide_eq_true c0
     (try rw [c1])
     clear c0
     go_wp2_with fail
     refine (dec_fail 4 (HI3.out.set3 u) (below_set HB3.out HG.out) HG.out).mono ?_
     rintro e w3 ⟨rfl, hi, hb, hk⟩
     have H := Aside0.mk hi
     have H2 := Aside0.mk hb
     have H3 := Aside0.mk ((HK3.out.set_ 3 (.int .i64 u)).trans hk (.inl rfl))
     clear hi hb hk
     go_wp2
     go_meet
     case rel => exact ⟨⟨by rw [E0.out]; exact H.out⟩, H3, H2⟩
    ·have E0 := Aside0.mk (show startF s a d t st = f2 from by unfold startF; rw [HU.out, if_neg c0, HF2.out, failD_zero])
     have c1 : decide (u < 0) = false := decide_eq_false c0
     (try rw [c1])
     clear c0
     go_wp2
     go_meet
     case rel => exact ⟨⟨by rw [E0.out]; exact HI3.out.set3 u⟩, ⟨HK3.out.set_ 3 _⟩, ⟨below_set HB3.out HG.out⟩⟩
   case rest =>
    clear r0 r1 r2 r3 r4 r5 hfz
    obtain ⟨HI4, HK4, HB4⟩ := hcut
    by_cases c0 : startF s a d t st = 0
    ·have hi4 := HI4.out
     rw [c0] at hi4
     have hL : 1 ≤ endD s st - a := by
      have h1 := HK.out.h1
      by_cases h : endD s st - a = 0
      ·exfalso
       unfold startF startF2 startF1 at c0
       rw [if_pos h] at c0
       unfold failD at c0
       have := failD_lack st 0
       unfold failD at this
       split at c0
       ·split at c0 <;> simp_all
       ·simp_all
      ·omega
     have EB := Aside0.mk (show startB s a d t st = bt s a from if_pos c0)
     have EA := Aside0.mk (show startA s a d t st = a + 1 from if_pos c0)
     have E0 := Aside0.mk c0
     have hk1 := HK.out.h0
     have hk2 := HK.out.h2
     obtain ⟨y, hy, hwy, q0, hq0, hne⟩ := one_byte s a hk1 (by omega)
     have HQ := Aside0.mk hy
     have HT := Aside0.mk (dec_take_ok 1 hi4 HB4.out HG.out HK.out (by omega) hL)
     generalize s.extract a.toNat (a + 1).toNat = x at q0 hq0 hne HT
     clear hi4 hL hk1 hk2 hy c0
     go_wp2_with fail
     refine HT.out.mono ?_
     rintro e w3 ⟨rfl, hi, hb, hk⟩
     have H := Aside0.mk hi
     have H2 := Aside0.mk hb
     have H3 := Aside0.mk (HK4.out.trans hk (.inl rfl))
     clear hi hb hk
     go_wp2
     go_ret
     exact ⟨by rw [EB.out, HQ.out]; show Ending.returned (.int .i64 (wrap64 (y : Int))) = _; rw [hwy], by rw [EA.out, E0.out]; exact H.out, H2.out, H3.out⟩
    ·have EB := Aside0.mk (show startB s a d t st = 0 from if_neg c0)
     have EA := Aside0.mk (show startA s a d t st = a from if_neg c0)
     have HT := Aside0.mk (dec_take_no 1 HI4.out HB4.out HG.out HK.out (.inl c0))
     have EF := Aside0.mk (show failD (startF s a d t st) (lackE st) = startF s a d t st from if_neg c0)
     clear c0
     go_wp2_with fail
     refine HT.out.mono ?_
     rintro e w3 ⟨rfl, hi, hb, hk⟩
     have H := Aside0.mk hi
     have H2 := Aside0.mk hb
     have H3 := Aside0.mk (HK4.out.trans hk (.inl rfl))
     clear hi hb hk
     go_wp2
     go_ret
     exact ⟨by rw [EB.out]; rfl, by rw [EA.out, ← EF.out]; exact H.out, H2.out, H3.out⟩
def lenD (s : ByteArray) (a : Int) (st : List S151) (n : Int) : Int × Int × Int :=
 if n ≤ 55 then (n, a, if endD s st - a < n then lackE st else 0)
 else if endD s st - a < n - 55 then (0, a, lackE st)
 else match fixed_GetLeast.f (s.extract a.toNat (a + (n - 55)).toNat) with
  | none => (0, 0, 0)
  | some (m, e) => if endD s st - (a + (n - 55)) < m then (0, a + (n - 55), failD (if e = 0 ∧ 55 < m then 0 else 3) (lackE st)) else (m, a + (n - 55), if e = 0 ∧ 55 < m then 0 else 3)
set_option maxHeartbeats 8000000 in
set_option maxRecDepth 100000 in
theorem dec_length (n : Int) (hI : IsDec w g s a d t A c st 0) (hB : Below w0.heap.size w0 w) (hg : w0.heap.size ≤ g) (hK : DecOk s a st) (h0 : 0 ≤ n) (h1 : n ≤ 63)
  (hG : ∀ x : ByteArray, x.size ≤ 8 → ∃ m e, fixed_GetLeast.f x = some (m, e) ∧ 0 ≤ m ∧ m < 18446744073709551616 ∧ (x.size = 0 → m = 0 ∧ e = 0)) :
  Calls Try.prog 103 #[.pointer (some ⟨g, 0, none⟩), .int .i64 n] w (DecPost w0 w g s d A c st (.int .i64 (lenD s a st n).1) (lenD s a st n).2.1 t (lenD s a st n).2.2) := by
 have HL := Aside0.mk (dec_left_ok hI hK)
 have HI := Aside0.mk hI
 have HB := Aside0.mk hB
 have HG := Aside0.mk hg
 have HK := Aside0.mk hK
 have HM := Aside0.mk hG
 clear hI hB hg hK hG
 by_cases c0 : n ≤ 55
 ·have e0 : lenD s a st n = (n, a, if endD s st - a < n then lackE st else 0) := if_pos c0
  have d0 : decide (55 < n) = false := decide_eq_false (by omega)
  rw [e0]
  clear c0 e0 h0 h1
  by_cases c1 : endD s st - a < n
  ·have d1 : decide (endD s st - a < n) = true := decide_eq_true c1
   rw [if_pos c1]
   clear c1
   go_enter Try.func103, Try.ntmps103
   go_wp2_with fail
   refine HL.out.mono ?_
   rintro e w2 ⟨rfl, q, rfl⟩
   go_wp2_with fail
   refine (dec_lack (HI.out.drewN q) (pw_below_drewN HB.out q) HG.out).mono ?_
   rintro e w3 ⟨rfl, hi, hb, hk⟩
   have H := Aside0.mk (show IsDec w3 g s a d t A c st (lackE st) from hi)
   have H2 := Aside0.mk hb
   have H3 := Aside0.mk (show KeepBut w w3 g none from hk)
   clear hi hb hk
   go_wp2
   go_ret
   exact ⟨rfl, H.out, H2.out, H3.out⟩
  ·have d1 : decide (endD s st - a < n) = false := decide_eq_false c1
   rw [if_neg c1]
   clear c1
   go_enter Try.func103, Try.ntmps103
   go_wp2_with fail
   refine HL.out.mono ?_
   rintro e w2 ⟨rfl, q, rfl⟩
   go_wp2
   go_ret
   exact ⟨rfl, HI.out.drewN q, pw_below_drewN HB.out q, KeepBut.refl w g none⟩
 ·have d0 : decide (55 < n) = true := decide_eq_true (by omega)
  obtain ⟨k, hk⟩ : ∃ k, n - 55 = k := ⟨_, rfl⟩
  have hw : wrap64 (n - 55) = k := by rw [← hk]; unfold wrap64; omega
  by_cases c1 : endD s st - a < k
  ·have e0 : lenD s a st n = (0, a, lackE st) := by unfold lenD; rw [if_neg c0, hk, if_pos c1]
   obtain ⟨m, e, hm, -, -, hz⟩ := HM.out ⟨#[]⟩ (by decide)
   obtain ⟨rfl, rfl⟩ := hz rfl
   have hL0 : ¬ endD s st - a < 0 := by have := HK.out.h1; omega
   have dl0 : decide (endD s st - a < 0) = false := decide_eq_false hL0
   have hu : IntKind.u64.wrap (endD s st - a) = endD s st - a := u64_small (by omega) (by have := HK.out.h2; have := HK.out.h3; have := HK.out.h0; omega)
   have HMM := Aside0.mk hm
   have HT := Aside0.mk (dec_take_no k HI.out HB.out HG.out HK.out (.inr c1))
   rw [e0]
   clear c0 c1 e0 h0 h1 hk hm hL0
   go_enter Try.func103, Try.ntmps103
   go_wp2_with fail
   refine HT.out.mono ?_
   rintro e w2 ⟨rfl, hi, hb, hk⟩
   have H := Aside0.mk hi
   have H2 := Aside0.mk hb
   have H3 := Aside0.mk hk
   clear hi hb hk
   go_wp2_with fail
   refine (fixed_GetLeast.calls _ _ _ _ HMM.out).mono ?_
   rintro e w3 ⟨rfl, hb⟩
   have J := Aside0.mk (H.out.below hb)
   have J2 := Aside0.mk (H2.out.trans (hb.mono H2.out.size))
   have J3 := Aside0.mk (H3.out.trans (KeepBut.of_below hb g none) (.inl rfl))
   clear hb
   go_wp2_with fail
   refine (dec_fail 3 J.out J2.out HG.out).mono ?_
   rintro e w4 ⟨rfl, hi, hb, hk⟩
   have U := Aside0.mk (show IsDec w4 g s a d t A c st (lackE st) from (show failD (failD 0 (lackE st)) 3 = lackE st from if_neg (failD_lack st 0)) ▸ hi)
   have U2 := Aside0.mk hb
   have U3 := Aside0.mk (J3.out.trans hk (.inl rfl))
   clear hi hb hk
   go_wp2_with fail
   refine (dec_left_ok U.out HK.out).mono ?_
   rintro e w5 ⟨rfl, q, rfl⟩
   go_wp2_with fail
   refine (dec_left_ok (U.out.drewN q) HK.out).mono ?_
   rintro e w6 ⟨rfl, q2, rfl⟩
   go_wp2
   go_ret
   exact ⟨rfl, U.out.drewN _, pw_below_drewN U2.out _, U3.out⟩
  ·have hk0 : 0 ≤ k := by omega
   obtain ⟨b, hb⟩ : ∃ b, a + k = b := ⟨_, rfl⟩
   have hx8 : (s.extract a.toNat b.toNat).size ≤ 8 := by rw [ByteArray.size_extract]; omega
   obtain ⟨m, e, hm, m0, m1, -⟩ := HM.out _ hx8
   have e0 : lenD s a st n = if endD s st - b < m then (0, b, failD (if e = 0 ∧ 55 < m then 0 else 3) (lackE st)) else (m, b, if e = 0 ∧ 55 < m then 0 else 3) := by
    unfold lenD; rw [if_neg c0, hk, if_neg c1, hb, hm]
   have hT := dec_take_ok k HI.out HB.out HG.out HK.out hk0 (by omega)
   rw [hb] at hT
   have HT := Aside0.mk hT
   have KK := Aside0.mk (show DecOk s b st from ⟨by have := HK.out.h0; omega, by omega, HK.out.h2, HK.out.h3⟩)
   have hu : IntKind.u64.wrap (endD s st - b) = endD s st - b := u64_small (by have := KK.out.h1; omega) (by have := KK.out.h2; have := KK.out.h3; have := KK.out.h0; omega)
   have HMM := Aside0.mk hm
   rw [e0]
   generalize s.extract a.toNat b.toNat = x at hT HT hx8 HMM hm
   have hL2 : 0 ≤ endD s st - b := by have := KK.out.h1; omega
   have hL3 : endD s st - b ≤ 1099511627776 := by have := KK.out.h2; have := KK.out.h3; have := KK.out.h0; omega
   clear c0 c1 e0 h0 h1 hk hm hx8 hT hk0 hb
   by_cases c2 : e = 0 ∧ 55 < m
   ·rw [if_pos c2]
    obtain ⟨rfl, c3⟩ := c2
    have d3 : decide (m ≤ 55) = false := decide_eq_false (by omega)
    by_cases c4 : endD s st - b < m
    ·have d4 : decide (endD s st - b < m) = true := decide_eq_true c4
     rw [if_pos c4]
     clear c3 c4 m0 m1 hL2 hL3
     go_enter Try.func103, Try.ntmps103
     go_wp2_with fail
     refine HT.out.mono ?_
     rintro e2 w2 ⟨rfl, hi, hb, hk⟩
     have H := Aside0.mk hi
     have H2 := Aside0.mk hb
     have H3 := Aside0.mk hk
     clear hi hb hk
     go_wp2_with fail
     refine (fixed_GetLeast.calls _ _ _ _ HMM.out).mono ?_
     rintro e3 w3 ⟨rfl, hb⟩
     have J := Aside0.mk (H.out.below hb)
     have J2 := Aside0.mk (H2.out.trans (hb.mono H2.out.size))
     have J3 := Aside0.mk (H3.out.trans (KeepBut.of_below hb g none) (.inl rfl))
     clear hb
     go_wp2_with fail
     have U := J
     have U2 := J2
     have U3 := J3
     refine (dec_left_ok U.out KK.out).mono ?_
     rintro e5 w5 ⟨rfl, q, rfl⟩
     go_wp2_with fail
     refine (dec_lack (U.out.drewN q) (pw_below_drewN U2.out q) HG.out).mono ?_
     rintro e6 w6 ⟨rfl, hi, hb, hk⟩
     have V := Aside0.mk hi
     have V2 := Aside0.mk hb
     have V3 := Aside0.mk (U3.out.trans (show KeepBut _ w6 g none from hk) (.inl rfl))
     clear hi hb hk
     go_wp2
     go_ret
     exact ⟨rfl, V.out, V2.out, V3.out⟩
    ·have d4 : decide (endD s st - b < m) = false := decide_eq_false c4
     rw [if_neg c4]
     have hwm : wrap64 m = m := by unfold wrap64; omega
     clear c3 c4 m0 m1 hL2 hL3
     go_enter Try.func103, Try.ntmps103
     go_wp2_with fail
     refine HT.out.mono ?_
     rintro e2 w2 ⟨rfl, hi, hb, hk⟩
     have H := Aside0.mk hi
     have H2 := Aside0.mk hb
     have H3 := Aside0.mk hk
     clear hi hb hk
     go_wp2_with fail
     refine (fixed_GetLeast.calls _ _ _ _ HMM.out).mono ?_
     rintro e3 w3 ⟨rfl, hb⟩
     have J := Aside0.mk (H.out.below hb)
     have J2 := Aside0.mk (H2.out.trans (hb.mono H2.out.size))
     have J3 := Aside0.mk (H3.out.trans (KeepBut.of_below hb g none) (.inl rfl))
     clear hb
     go_wp2_with fail
     have U := J
     have U2 := J2
     have U3 := J3
     refine (dec_left_ok U.out KK.out).mono ?_
     rintro e5 w5 ⟨rfl, q, rfl⟩
     go_wp2_with fail
     refine (dec_left_ok (U.out.drewN q) KK.out).mono ?_
     rintro e6 w6 ⟨rfl, q2, rfl⟩
     go_wp2
     go_ret
     exact ⟨rfl, U.out.drewN _, pw_below_drewN U2.out _, U3.out⟩
   ·rw [if_neg c2]
    obtain ⟨b1, b2, hb12, d5, hbb⟩ : ∃ b1 b2 : Bool, (e != 0) = b1 ∧ decide (m ≤ 55) = b2 ∧ (b1 || b2) = true := by
     refine ⟨_, _, rfl, rfl, ?_⟩
     by_cases he : e = 0
     ·have : m ≤ 55 := by
       rcases Int.lt_or_le 55 m with h | h
       ·exact absurd ⟨he, h⟩ c2
       ·exact h
      simp [this]
     ·simp [he]
    by_cases c4 : endD s st - b < m
    ·have d4 : decide (endD s st - b < m) = true := decide_eq_true c4
     rw [if_pos c4]
     clear c2 c4 m0 m1 hL2 hL3
     cases b1 <;> cases b2 <;> first | (exact absurd hbb (by decide)) | skip
     all_goals
      clear hbb
      go_enter Try.func103, Try.ntmps103
      go_wp2_with fail
      refine HT.out.mono ?_
      rintro e2 w2 ⟨rfl, hi, hb, hk⟩
      have H := Aside0.mk hi
      have H2 := Aside0.mk hb
      have H3 := Aside0.mk hk
      clear hi hb hk
      go_wp2_with fail
      refine (fixed_GetLeast.calls _ _ _ _ HMM.out).mono ?_
      rintro e3 w3 ⟨rfl, hb⟩
      have J := Aside0.mk (H.out.below hb)
      have J2 := Aside0.mk (H2.out.trans (hb.mono H2.out.size))
      have J3 := Aside0.mk (H3.out.trans (KeepBut.of_below hb g none) (.inl rfl))
      clear hb
      go_wp2_with fail
      refine (dec_fail 3 J.out J2.out HG.out).mono ?_
      rintro e4 w4 ⟨rfl, hi, hb, hk⟩
      have U := Aside0.mk (show IsDec w4 g s b d t A c st 3 from hi)
      have U2 := Aside0.mk hb
      have U3 := Aside0.mk (J3.out.trans hk (.inl rfl))
      clear hi hb hk
      go_wp2_with fail
      refine (dec_left_ok U.out KK.out).mono ?_
      rintro e5 w5 ⟨rfl, q, rfl⟩
      go_wp2_with fail
      refine (dec_lack (U.out.drewN q) (pw_below_drewN U2.out q) HG.out).mono ?_
      rintro e6 w6 ⟨rfl, hi, hb, hk⟩
      have V := Aside0.mk hi
      have V2 := Aside0.mk hb
      have V3 := Aside0.mk (U3.out.trans (show KeepBut _ w6 g none from hk) (.inl rfl))
      clear hi hb hk
      go_wp2
      go_ret
      exact ⟨rfl, V.out, V2.out, V3.out⟩
    ·have d4 : decide (endD s st - b < m) = false := decide_eq_false c4
     rw [if_neg c4]
     have hwm : wrap64 m = m := by unfold wrap64; omega
     clear c2 c4 m0 m1 hL2 hL3
     cases b1 <;> cases b2 <;> first | (exact absurd hbb (by decide)) | skip
     all_goals
      clear hbb
      go_enter Try.func103, Try.ntmps103
      go_wp2_with fail
      refine HT.out.mono ?_
      rintro e2 w2 ⟨rfl, hi, hb, hk⟩
      have H := Aside0.mk hi
      have H2 := Aside0.mk hb
      have H3 := Aside0.mk hk
      clear hi hb hk
      go_wp2_with fail
      refine (fixed_GetLeast.calls _ _ _ _ HMM.out).mono ?_
      rintro e3 w3 ⟨rfl, hb⟩
      have J := Aside0.mk (H.out.below hb)
      have J2 := Aside0.mk (H2.out.trans (hb.mono H2.out.size))
      have J3 := Aside0.mk (H3.out.trans (KeepBut.of_below hb g none) (.inl rfl))
      clear hb
      go_wp2_with fail
      refine (dec_fail 3 J.out J2.out HG.out).mono ?_
      rintro e4 w4 ⟨rfl, hi, hb, hk⟩
      have U := Aside0.mk (show IsDec w4 g s b d t A c st 3 from hi)
      have U2 := Aside0.mk hb
      have U3 := Aside0.mk (J3.out.trans hk (.inl rfl))
      clear hi hb hk
      go_wp2_with fail
      refine (dec_left_ok U.out KK.out).mono ?_
      rintro e5 w5 ⟨rfl, q, rfl⟩
      go_wp2_with fail
      refine (dec_left_ok (U.out.drewN q) KK.out).mono ?_
      rintro e6 w6 ⟨rfl, q2, rfl⟩
      go_wp2
      go_ret
      exact ⟨rfl, U.out.drewN _, pw_below_drewN U2.out _, U3.out⟩
end
end Go.Proofs.Yteoibgpkimlahaa.P
end
section
namespace Go.Proofs.Yteoibgpkimlahaa.P
open Go.RowKit Go.Proofs.YteoibgpkimlahaaW.PrintWords Go.Proofs.YteoibgpkimlahaaW.PrintLast Go.Proofs.YteoibgpkimlahaaW.PrintMore
attribute [local go_sem] max2_int min2_int max_two min_two max_three min_three max_four min_four   
set_option linter.unusedVariables false
set_option linter.unusedSimpArgs false
def typed_Of.f (a0_0 : ByteArray) (a0_1 : Bool) (l0_2 : List (S62)) : Option (Int × Int) := if a0_1 = true then (some (0, 12)) else ((fixed_GetLeast.f a0_0).bind fun bt102 => (some (bt102.1, bt102.2)))
set_option maxHeartbeats 8000000 in
set_option maxRecDepth 100000 in
theorem typed_Of.calls (a0_0 : ByteArray) (a0_1 : Bool) (A0_2 : Option Addr) (c0_2 : Nat) (l0_2 : List (S62)) (r1 : Int) (r2 : Int) (w : World) (hr0_2 : Kd.C k62 w A0_2 l0_2.length l0_2) (hc0_2 : l0_2.length ≤ c0_2) (h : typed_Of.f a0_0 a0_1 l0_2 = some (r1, r2)) :
  Calls Try.prog 115 #[.agg #[.string a0_0, .bool a0_1, .slice A0_2 l0_2.length c0_2]] w fun e w' => e = .returned (.tuple #[.int .u64 r1, .int .i64 r2]) ∧ Below w.heap.size w w' := by
 have hu62 := Try.underlying62
 have HR0_2 := Aside0.mk hr0_2
 have HC0_2 := Aside0.mk hc0_2
 clear hr0_2 hc0_2
 have HB := Aside0.mk (Below.refl w.heap.size w)
 have H : (if a0_1 = true then (some (0, 12)) else ((fixed_GetLeast.f a0_0).bind fun bt102 => (some (bt102.1, bt102.2)))) = some (r1, r2) := h
 clear h
 by_cases c2 : a0_1 = true
 ·subst c2
  have H1 : (some (0, 12)) = some (r1, r2) := by rw [if_pos rfl] at H; exact H
  clear H
  have H := H1
  clear H1
  simp only [Option.some.injEq, Prod.mk.injEq] at H
  obtain ⟨rfl, rfl⟩ := H
  go_enter Try.func115, Try.ntmps115
  go_wp2_with (first | ((with_reducible refine gate_dst (N := 1) rfl ?_); refine box_event ?hg (N := 1) ?hd (cs := #[.string a0_0, .bool true, .slice A0_2 l0_2.length c0_2]) (t := 62) ?hr ?_; (case hd => rfl); (case hg => rfl); (case hr => first | (go_simp; done) | (go_simp; rfl)); intro gb101 hg w3 hbox hb; have n0_ := Aside0.mk (below_step (by repeat (first | (with_reducible first | exact HB.out | apply below_alloc | apply pw_below_drewN | apply below_drew1) | exact HB.out)) hb); have n1_ := Aside0.mk (hbox); have n2_ := Aside0.mk ((by rw [hg]; exact (below_size (by repeat (first | (with_reducible first | exact HB.out | apply below_alloc | apply pw_below_drewN | apply below_drew1) | exact HB.out))) : w.heap.size ≤ gb101)); have n3_ := Aside0.mk ((by rw [hg]; exact (below_size (by repeat (first | (with_reducible first | exact HB.out | apply below_alloc | apply pw_below_drewN | apply below_drew1) | exact HB.out))) : w.heap.size ≤ gb101)); clear HB; have HB := n0_; have BK101 := n1_; have GW101 := n2_; have GE101 := n3_; clear n0_ n1_ n2_ n3_; clear hb hbox hg; have hcz4_0 : w3.cell? ⟨gb101, 0, none⟩ = some (.string a0_0) := (blk_cell BK101.out 0).trans rfl; have hcz4_1 : w3.cell? ⟨gb101, 1, none⟩ = some (.bool true) := (blk_cell BK101.out 1).trans rfl; have hcz4_2 : w3.cell? ⟨gb101, 2, none⟩ = some (.slice A0_2 l0_2.length c0_2) := (blk_cell BK101.out 2).trans rfl; have hfz4_0 := blk_frozen BK101.out 0; have hfz4_1 := blk_frozen BK101.out 1; have hfz4_2 := blk_frozen BK101.out 2))
  go_ret2
  exact ⟨by first | rfl | (simp [errW_none, errW_some] <;> rfl) | (simp [*, errW_none, errW_some] <;> rfl), by repeat (first | (with_reducible first | exact HB.out | apply below_alloc | apply pw_below_drewN | apply below_drew1 | refine below_set ?_ GE101.out) | exact HB.out)⟩
 ·replace c2 := Bool.eq_false_iff.mpr c2
  subst c2
  have H1 : ((fixed_GetLeast.f a0_0).bind fun bt102 => (some (bt102.1, bt102.2))) = some (r1, r2) := by rw [if_neg (show ¬ (false = true) by decide)] at H; exact H
  clear H
  have H := H1
  clear H1
  replace H := Option.bind_eq_some_iff.mp H
  obtain ⟨⟨t102, t103⟩, A50, H⟩ := H
  replace H : (some (t102, t103)) = some (r1, r2) := H
  have A5 := Aside0.mk A50
  clear A50
  simp only [Option.some.injEq, Prod.mk.injEq] at H
  obtain ⟨rfl, rfl⟩ := H
  go_enter Try.func115, Try.ntmps115
  go_wp2_with (first | ((with_reducible refine gate_dst (N := 1) rfl ?_); refine box_event ?hg (N := 1) ?hd (cs := #[.string a0_0, .bool false, .slice A0_2 l0_2.length c0_2]) (t := 62) ?hr ?_; (case hd => rfl); (case hg => rfl); (case hr => first | (go_simp; done) | (go_simp; rfl)); intro gb101 hg w6 hbox hb; have n0_ := Aside0.mk (below_step (by repeat (first | (with_reducible first | exact HB.out | apply below_alloc | apply pw_below_drewN | apply below_drew1) | exact HB.out)) hb); have n1_ := Aside0.mk (hbox); have n2_ := Aside0.mk ((by rw [hg]; exact (below_size (by repeat (first | (with_reducible first | exact HB.out | apply below_alloc | apply pw_below_drewN | apply below_drew1) | exact HB.out))) : w.heap.size ≤ gb101)); have n3_ := Aside0.mk ((by rw [hg]; exact (below_size (by repeat (first | (with_reducible first | exact HB.out | apply below_alloc | apply pw_below_drewN | apply below_drew1) | exact HB.out))) : w.heap.size ≤ gb101)); clear HB; have HB := n0_; have BK101 := n1_; have GW101 := n2_; have GE101 := n3_; clear n0_ n1_ n2_ n3_; clear hb hbox hg; have hcz7_0 : w6.cell? ⟨gb101, 0, none⟩ = some (.string a0_0) := (blk_cell BK101.out 0).trans rfl; have hcz7_1 : w6.cell? ⟨gb101, 1, none⟩ = some (.bool false) := (blk_cell BK101.out 1).trans rfl; have hcz7_2 : w6.cell? ⟨gb101, 2, none⟩ = some (.slice A0_2 l0_2.length c0_2) := (blk_cell BK101.out 2).trans rfl; have hfz7_0 := blk_frozen BK101.out 0; have hfz7_1 := blk_frozen BK101.out 1; have hfz7_2 := blk_frozen BK101.out 2) | ((with_reducible refine gate_callee (f := 18) rfl ?_); refine goesL_ (some 8) rfl rfl Try.func18 (by kernel_rfl) rfl #[.string a0_0] rfl (by (try simp only [List.map_toArray, List.map_cons, List.map_nil]); first | done | rfl | (simp only [List.length_drop, List.length_take]; rfl)) ?_; (with_reducible refine (fixed_GetLeast.calls a0_0 t102 t103 _ A5.out).mono ?_); rintro e w8 ⟨rfl, hb⟩; refine ⟨_, rfl, ?_⟩; have n0_ := Aside0.mk (blk_below (g := gb101) (o := .cells #[.string a0_0, .bool false, .slice A0_2 l0_2.length c0_2] 62 (0, 0)) (by (with_reducible repeat (first | refine blk_drewN ?_ _ | refine blk_drew ?_ | refine blk_alloc ?_ _)); exact BK101.out) hb); have n1_ := Aside0.mk (below_step (by repeat (first | (with_reducible first | exact HB.out | apply below_alloc | apply pw_below_drewN | apply below_drew1 | refine below_set ?_ GE101.out) | exact HB.out)) hb); clear BK101; clear HB; have BK101 := n0_; have HB := n1_; clear n0_ n1_; (try clear hb); (try clear hb2); (try clear hk); (try clear hi)))
  go_ret2
  exact ⟨by first | rfl | (simp [errW_none, errW_some] <;> rfl) | (simp [*, errW_none, errW_some] <;> rfl), by repeat (first | (with_reducible first | exact HB.out | apply below_alloc | apply pw_below_drewN | apply below_drew1 | refine below_set ?_ GE101.out) | exact HB.out)⟩
end Go.Proofs.Yteoibgpkimlahaa.P
end
section
namespace Go.Proofs.Yteoibgpkimlahaa.P
open Go.RowKit Go.Proofs.YteoibgpkimlahaaW.PrintWords Go.Proofs.YteoibgpkimlahaaW.PrintLast Go.Proofs.YteoibgpkimlahaaW.PrintMore
attribute [local go_sem] max2_int min2_int max_two min_two max_three min_three max_four min_four   
set_option linter.unusedVariables false
set_option linter.unusedSimpArgs false
def hello_reader_number.f (s0_0 : Bool) (a1_0 : ByteArray) (a1_1 : Bool) (l1_2 : List (S62)) : Option (Int × Bool) := (typed_Of.f a1_0 a1_1 l1_2).bind fun bt102 => (if bt102.2 = 0 then (if bt102.1 > 65535 then (some (0, true)) else (some (wrap64 (bt102.1), s0_0))) else (some (0, true)))
set_option maxHeartbeats 8000000 in
set_option maxRecDepth 100000 in
theorem hello_reader_number.calls (g : Nat) (s0_0 : Bool) (a1_0 : ByteArray) (a1_1 : Bool) (A1_2 : Option Addr) (c1_2 : Nat) (l1_2 : List (S62)) (r1 : Int) (r2 : Bool) (w0 w : World) (hI : IsS134 w0 w g s0_0) (hB : Below w0.heap.size w0 w) (hr1_2 : ∀ W_, KeepBut w W_ g none → Kd.C k62 W_ A1_2 l1_2.length l1_2) (hc1_2 : l1_2.length ≤ c1_2) (h : hello_reader_number.f s0_0 a1_0 a1_1 l1_2 = some (r1, r2)) :
  Calls Try.prog 91 #[.pointer (some ⟨g, 0, none⟩), .agg #[.string a1_0, .bool a1_1, .slice A1_2 l1_2.length c1_2]] w fun e w' => e = .returned (.int .i64 r1) ∧ IsS134 w0 w' g r2 ∧ Below w0.heap.size w0 w' ∧ KeepBut w w' g none := by
 have hu62 := Try.underlying62
 have HR1_2 := Aside0.mk hr1_2
 have HC1_2 := Aside0.mk hc1_2
 clear hr1_2 hc1_2
 have HI0 := Aside0.mk hI
 have HK := Aside0.mk (KeepBut.refl w g none)
 have HL := Aside0.mk hB.size
 clear hI
 have HW0 := Aside0.mk hB.size
 have HB := Aside0.mk hB
 clear hB
 have H : ((typed_Of.f a1_0 a1_1 l1_2).bind fun bt102 => (if bt102.2 = 0 then (if bt102.1 > 65535 then (some (0, true)) else (some (wrap64 (bt102.1), s0_0))) else (some (0, true)))) = some (r1, r2) := h
 clear h
 replace H := Option.bind_eq_some_iff.mp H
 obtain ⟨⟨t102, t103⟩, A30, H⟩ := H
 replace H : (if t103 = 0 then (if t102 > 65535 then (some (0, true)) else (some (wrap64 (t102), s0_0))) else (some (0, true))) = some (r1, r2) := H
 have A3 := Aside0.mk A30
 clear A30
 by_cases c4 : t103 = 0
 ·rw [if_pos c4] at H
  have c4b0 : (t103 == 0) = true := beq_iff_eq.mpr c4
  have c4b1 : (t103 != 0) = false := bne_eq_false_iff_eq.mpr c4
  clear c4
  by_cases c5 : t102 > 65535
  ·rw [if_pos c5] at H
   have c5b0 : decide (65535 < t102) = true := decide_eq_true c5
   clear c5
   simp only [Option.some.injEq, Prod.mk.injEq] at H
   obtain ⟨rfl, rfl⟩ := H
   go_enter Try.func91, Try.ntmps91
   go_wp2_with (first | ((with_reducible refine gate_dst (N := 3) rfl ?_); refine box_event ?hg (N := 3) ?hd (cs := #[.string a1_0, .bool a1_1, .slice A1_2 l1_2.length c1_2]) (t := 62) ?hr ?_; (case hd => rfl); (case hg => rfl); (case hr => first | (go_simp; done) | (go_simp; rfl)); intro gb101 hg w6 hbox hb; have n0_ := Aside0.mk (IsS134.below (by repeat (first | (with_reducible first | exact HI0.out | apply IsS134.alloc | apply IsS134.drewN | apply IsS134.drew | apply IsS134.set_0) | exact HI0.out)) hb); have n1_ := Aside0.mk (KeepBut.trans (by repeat (first | (with_reducible first | exact HK.out | apply KeepBut.set_ | apply keep_drewN | apply keep_drew | apply keep_alloc) | exact HK.out)) (KeepBut.of_below hb g none) (.inl rfl)); have n2_ := Aside0.mk (below_step (by repeat (first | (with_reducible first | exact HB.out | apply below_alloc | apply pw_below_drewN | apply below_drew1 | refine below_set ?_ (IsS134.ge HI0.out)) | exact HB.out)) hb); have n3_ := Aside0.mk (hbox); have n4_ := Aside0.mk ((by rw [hg]; exact (keep_size (w := w) (g := g) (row := none) (by repeat (first | (with_reducible first | exact HK.out | apply KeepBut.set_ | apply keep_drewN | apply keep_drew | apply keep_alloc) | exact HK.out))) : w.heap.size ≤ gb101)); have n5_ := Aside0.mk ((Nat.le_trans HW0.out (by rw [hg]; exact (keep_size (w := w) (g := g) (row := none) (by repeat (first | (with_reducible first | exact HK.out | apply KeepBut.set_ | apply keep_drewN | apply keep_drew | apply keep_alloc) | exact HK.out))) : w.heap.size ≤ gb101) : w0.heap.size ≤ gb101)); have n6_ := Aside0.mk ((by rw [hg]; exact Nat.ne_of_lt (IsS134.lt (show IsS134 w0 _ g s0_0 from by repeat (first | (with_reducible first | exact HI0.out | apply IsS134.alloc | apply IsS134.drewN | apply IsS134.drew | apply IsS134.set_0) | exact HI0.out))) : g ≠ gb101)); have n7_ := Aside0.mk ((by rw [hg]; exact Nat.ne_of_gt (IsS134.lt (show IsS134 w0 _ g s0_0 from by repeat (first | (with_reducible first | exact HI0.out | apply IsS134.alloc | apply IsS134.drewN | apply IsS134.drew | apply IsS134.set_0) | exact HI0.out))) : gb101 ≠ g)); clear HI0; clear HK; clear HB; have HI0 := n0_; have HK := n1_; have HB := n2_; have BK101 := n3_; have GW101 := n4_; have GE101 := n5_; have NB0_101 := n6_; have NB101_0 := n7_; clear n0_ n1_ n2_ n3_ n4_ n5_ n6_ n7_; clear hb hbox hg; have hnb7 := NB101_0.out; have hnc7 := NB0_101.out; have hcz8_0 : w6.cell? ⟨gb101, 0, none⟩ = some (.string a1_0) := (blk_cell BK101.out 0).trans rfl; have hcz8_1 : w6.cell? ⟨gb101, 1, none⟩ = some (.bool a1_1) := (blk_cell BK101.out 1).trans rfl; have hcz8_2 : w6.cell? ⟨gb101, 2, none⟩ = some (.slice A1_2 l1_2.length c1_2) := (blk_cell BK101.out 2).trans rfl; have hfz8_0 := blk_frozen BK101.out 0; have hfz8_1 := blk_frozen BK101.out 1; have hfz8_2 := blk_frozen BK101.out 2) | ((with_reducible refine gate_callee (f := 115) rfl ?_); refine goesL_ (some 9) rfl rfl Try.func115 (by kernel_rfl) rfl #[.agg #[.string a1_0, .bool a1_1, .slice A1_2 l1_2.length c1_2]] rfl (by (try simp only [List.map_toArray, List.map_cons, List.map_nil]); first | done | rfl | (simp only [List.length_drop, List.length_take]; rfl)) ?_; (with_reducible refine (typed_Of.calls a1_0 a1_1 _ _ l1_2 t102 t103 _ ?side1 ?side2 A3.out).mono ?_); (case side1 => exact Kd.C_foot_now HR1_2.out (by repeat (first | (with_reducible first | exact HK.out | apply KeepBut.set_ | apply keep_drewN | apply keep_drew | apply keep_alloc | refine keep_far ?_ GW101.out _) | exact HK.out))); (case side2 => exact HC1_2.out); rintro e w9 ⟨rfl, hb⟩; refine ⟨_, rfl, ?_⟩; have n0_ := Aside0.mk (IsS134.below (by repeat (first | (with_reducible first | exact HI0.out | apply IsS134.alloc | apply IsS134.drewN | apply IsS134.drew | apply IsS134.set_0 | refine IsS134.far ?_ NB0_101.out _) | exact HI0.out)) hb); have n1_ := Aside0.mk (blk_below (g := gb101) (o := .cells #[.string a1_0, .bool a1_1, .slice A1_2 l1_2.length c1_2] 62 (0, 0)) (by (with_reducible repeat (first | refine blk_drewN ?_ _ | refine blk_drew ?_ | refine blk_alloc ?_ _)); exact BK101.out) hb); have n2_ := Aside0.mk (KeepBut.trans (by repeat (first | (with_reducible first | exact HK.out | apply KeepBut.set_ | apply keep_drewN | apply keep_drew | apply keep_alloc | refine keep_far ?_ GW101.out _) | exact HK.out)) (KeepBut.of_below hb g none) (.inl rfl)); have n3_ := Aside0.mk (below_step (by repeat (first | (with_reducible first | exact HB.out | apply below_alloc | apply pw_below_drewN | apply below_drew1 | refine below_set ?_ (IsS134.ge HI0.out) | refine below_set ?_ GE101.out) | exact HB.out)) hb); clear HI0; clear BK101; clear HK; clear HB; have HI0 := n0_; have BK101 := n1_; have HK := n2_; have HB := n3_; clear n0_ n1_ n2_ n3_; (try clear hb); (try clear hb2); (try clear hk); (try clear hi); obtain ⟨HGz10, hgz10⟩ := HI0.out; have hcz10_0 := cellS134_0 HGz10; have hfz10_0 := blk_frozen HGz10 0; clear HGz10 hgz10))
   go_ret
   exact ⟨by first | rfl | (simp [errW_none, errW_some] <;> rfl) | (simp [*, errW_none, errW_some] <;> rfl), by repeat (first | (with_reducible first | exact HI0.out | apply IsS134.alloc | apply IsS134.drewN | apply IsS134.drew | apply IsS134.set_0 | refine IsS134.far ?_ NB0_101.out _) | exact HI0.out), by repeat (first | (with_reducible first | exact HB.out | apply below_alloc | apply pw_below_drewN | apply below_drew1 | refine below_set ?_ (IsS134.ge HI0.out) | refine below_set ?_ GE101.out) | exact HB.out), by repeat (first | (with_reducible first | exact HK.out | apply KeepBut.set_ | apply keep_drewN | apply keep_drew | apply keep_alloc | refine keep_far ?_ GW101.out _) | exact HK.out)⟩
  ·rw [if_neg c5] at H
   have c5b0 : decide (65535 < t102) = false := decide_eq_false c5
   clear c5
   simp only [Option.some.injEq, Prod.mk.injEq] at H
   obtain ⟨rfl, rfl⟩ := H
   go_enter Try.func91, Try.ntmps91
   go_wp2_with (first | ((with_reducible refine gate_dst (N := 3) rfl ?_); refine box_event ?hg (N := 3) ?hd (cs := #[.string a1_0, .bool a1_1, .slice A1_2 l1_2.length c1_2]) (t := 62) ?hr ?_; (case hd => rfl); (case hg => rfl); (case hr => first | (go_simp; done) | (go_simp; rfl)); intro gb101 hg w11 hbox hb; have n0_ := Aside0.mk (IsS134.below (by repeat (first | (with_reducible first | exact HI0.out | apply IsS134.alloc | apply IsS134.drewN | apply IsS134.drew | apply IsS134.set_0) | exact HI0.out)) hb); have n1_ := Aside0.mk (KeepBut.trans (by repeat (first | (with_reducible first | exact HK.out | apply KeepBut.set_ | apply keep_drewN | apply keep_drew | apply keep_alloc) | exact HK.out)) (KeepBut.of_below hb g none) (.inl rfl)); have n2_ := Aside0.mk (below_step (by repeat (first | (with_reducible first | exact HB.out | apply below_alloc | apply pw_below_drewN | apply below_drew1 | refine below_set ?_ (IsS134.ge HI0.out)) | exact HB.out)) hb); have n3_ := Aside0.mk (hbox); have n4_ := Aside0.mk ((by rw [hg]; exact (keep_size (w := w) (g := g) (row := none) (by repeat (first | (with_reducible first | exact HK.out | apply KeepBut.set_ | apply keep_drewN | apply keep_drew | apply keep_alloc) | exact HK.out))) : w.heap.size ≤ gb101)); have n5_ := Aside0.mk ((Nat.le_trans HW0.out (by rw [hg]; exact (keep_size (w := w) (g := g) (row := none) (by repeat (first | (with_reducible first | exact HK.out | apply KeepBut.set_ | apply keep_drewN | apply keep_drew | apply keep_alloc) | exact HK.out))) : w.heap.size ≤ gb101) : w0.heap.size ≤ gb101)); have n6_ := Aside0.mk ((by rw [hg]; exact Nat.ne_of_lt (IsS134.lt (show IsS134 w0 _ g s0_0 from by repeat (first | (with_reducible first | exact HI0.out | apply IsS134.alloc | apply IsS134.drewN | apply IsS134.drew | apply IsS134.set_0) | exact HI0.out))) : g ≠ gb101)); have n7_ := Aside0.mk ((by rw [hg]; exact Nat.ne_of_gt (IsS134.lt (show IsS134 w0 _ g s0_0 from by repeat (first | (with_reducible first | exact HI0.out | apply IsS134.alloc | apply IsS134.drewN | apply IsS134.drew | apply IsS134.set_0) | exact HI0.out))) : gb101 ≠ g)); clear HI0; clear HK; clear HB; have HI0 := n0_; have HK := n1_; have HB := n2_; have BK101 := n3_; have GW101 := n4_; have GE101 := n5_; have NB0_101 := n6_; have NB101_0 := n7_; clear n0_ n1_ n2_ n3_ n4_ n5_ n6_ n7_; clear hb hbox hg; have hnb12 := NB101_0.out; have hnc12 := NB0_101.out; have hcz13_0 : w11.cell? ⟨gb101, 0, none⟩ = some (.string a1_0) := (blk_cell BK101.out 0).trans rfl; have hcz13_1 : w11.cell? ⟨gb101, 1, none⟩ = some (.bool a1_1) := (blk_cell BK101.out 1).trans rfl; have hcz13_2 : w11.cell? ⟨gb101, 2, none⟩ = some (.slice A1_2 l1_2.length c1_2) := (blk_cell BK101.out 2).trans rfl; have hfz13_0 := blk_frozen BK101.out 0; have hfz13_1 := blk_frozen BK101.out 1; have hfz13_2 := blk_frozen BK101.out 2) | ((with_reducible refine gate_callee (f := 115) rfl ?_); refine goesL_ (some 9) rfl rfl Try.func115 (by kernel_rfl) rfl #[.agg #[.string a1_0, .bool a1_1, .slice A1_2 l1_2.length c1_2]] rfl (by (try simp only [List.map_toArray, List.map_cons, List.map_nil]); first | done | rfl | (simp only [List.length_drop, List.length_take]; rfl)) ?_; (with_reducible refine (typed_Of.calls a1_0 a1_1 _ _ l1_2 t102 t103 _ ?side1 ?side2 A3.out).mono ?_); (case side1 => exact Kd.C_foot_now HR1_2.out (by repeat (first | (with_reducible first | exact HK.out | apply KeepBut.set_ | apply keep_drewN | apply keep_drew | apply keep_alloc | refine keep_far ?_ GW101.out _) | exact HK.out))); (case side2 => exact HC1_2.out); rintro e w14 ⟨rfl, hb⟩; refine ⟨_, rfl, ?_⟩; have n0_ := Aside0.mk (IsS134.below (by repeat (first | (with_reducible first | exact HI0.out | apply IsS134.alloc | apply IsS134.drewN | apply IsS134.drew | apply IsS134.set_0 | refine IsS134.far ?_ NB0_101.out _) | exact HI0.out)) hb); have n1_ := Aside0.mk (blk_below (g := gb101) (o := .cells #[.string a1_0, .bool a1_1, .slice A1_2 l1_2.length c1_2] 62 (0, 0)) (by (with_reducible repeat (first | refine blk_drewN ?_ _ | refine blk_drew ?_ | refine blk_alloc ?_ _)); exact BK101.out) hb); have n2_ := Aside0.mk (KeepBut.trans (by repeat (first | (with_reducible first | exact HK.out | apply KeepBut.set_ | apply keep_drewN | apply keep_drew | apply keep_alloc | refine keep_far ?_ GW101.out _) | exact HK.out)) (KeepBut.of_below hb g none) (.inl rfl)); have n3_ := Aside0.mk (below_step (by repeat (first | (with_reducible first | exact HB.out | apply below_alloc | apply pw_below_drewN | apply below_drew1 | refine below_set ?_ (IsS134.ge HI0.out) | refine below_set ?_ GE101.out) | exact HB.out)) hb); clear HI0; clear BK101; clear HK; clear HB; have HI0 := n0_; have BK101 := n1_; have HK := n2_; have HB := n3_; clear n0_ n1_ n2_ n3_; (try clear hb); (try clear hb2); (try clear hk); (try clear hi)))
   go_ret
   exact ⟨by first | rfl | (simp [errW_none, errW_some] <;> rfl) | (simp [*, errW_none, errW_some] <;> rfl), by repeat (first | (with_reducible first | exact HI0.out | apply IsS134.alloc | apply IsS134.drewN | apply IsS134.drew | apply IsS134.set_0 | refine IsS134.far ?_ NB0_101.out _) | exact HI0.out), by repeat (first | (with_reducible first | exact HB.out | apply below_alloc | apply pw_below_drewN | apply below_drew1 | refine below_set ?_ (IsS134.ge HI0.out) | refine below_set ?_ GE101.out) | exact HB.out), by repeat (first | (with_reducible first | exact HK.out | apply KeepBut.set_ | apply keep_drewN | apply keep_drew | apply keep_alloc | refine keep_far ?_ GW101.out _) | exact HK.out)⟩
 ·rw [if_neg c4] at H
  have c4b0 : (t103 == 0) = false := beq_eq_false_iff_ne.mpr c4
  have c4b1 : (t103 != 0) = true := bne_iff_ne.mpr c4
  simp only [Option.some.injEq, Prod.mk.injEq] at H
  obtain ⟨rfl, rfl⟩ := H
  go_enter Try.func91, Try.ntmps91
  go_wp2_with (first | ((with_reducible refine gate_dst (N := 3) rfl ?_); refine box_event ?hg (N := 3) ?hd (cs := #[.string a1_0, .bool a1_1, .slice A1_2 l1_2.length c1_2]) (t := 62) ?hr ?_; (case hd => rfl); (case hg => rfl); (case hr => first | (go_simp; done) | (go_simp; rfl)); intro gb101 hg w15 hbox hb; have n0_ := Aside0.mk (IsS134.below (by repeat (first | (with_reducible first | exact HI0.out | apply IsS134.alloc | apply IsS134.drewN | apply IsS134.drew | apply IsS134.set_0) | exact HI0.out)) hb); have n1_ := Aside0.mk (KeepBut.trans (by repeat (first | (with_reducible first | exact HK.out | apply KeepBut.set_ | apply keep_drewN | apply keep_drew | apply keep_alloc) | exact HK.out)) (KeepBut.of_below hb g none) (.inl rfl)); have n2_ := Aside0.mk (below_step (by repeat (first | (with_reducible first | exact HB.out | apply below_alloc | apply pw_below_drewN | apply below_drew1 | refine below_set ?_ (IsS134.ge HI0.out)) | exact HB.out)) hb); have n3_ := Aside0.mk (hbox); have n4_ := Aside0.mk ((by rw [hg]; exact (keep_size (w := w) (g := g) (row := none) (by repeat (first | (with_reducible first | exact HK.out | apply KeepBut.set_ | apply keep_drewN | apply keep_drew | apply keep_alloc) | exact HK.out))) : w.heap.size ≤ gb101)); have n5_ := Aside0.mk ((Nat.le_trans HW0.out (by rw [hg]; exact (keep_size (w := w) (g := g) (row := none) (by repeat (first | (with_reducible first | exact HK.out | apply KeepBut.set_ | apply keep_drewN | apply keep_drew | apply keep_alloc) | exact HK.out))) : w.heap.size ≤ gb101) : w0.heap.size ≤ gb101)); have n6_ := Aside0.mk ((by rw [hg]; exact Nat.ne_of_lt (IsS134.lt (show IsS134 w0 _ g s0_0 from by repeat (first | (with_reducible first | exact HI0.out | apply IsS134.alloc | apply IsS134.drewN | apply IsS134.drew | apply IsS134.set_0) | exact HI0.out))) : g ≠ gb101)); have n7_ := Aside0.mk ((by rw [hg]; exact Nat.ne_of_gt (IsS134.lt (show IsS134 w0 _ g s0_0 from by repeat (first | (with_reducible first | exact HI0.out | apply IsS134.alloc | apply IsS134.drewN | apply IsS134.drew | apply IsS134.set_0) | exact HI0.out))) : gb101 ≠ g)); clear HI0; clear HK; clear HB; have HI0 := n0_; have HK := n1_; have HB := n2_; have BK101 := n3_; have GW101 := n4_; have GE101 := n5_; have NB0_101 := n6_; have NB101_0 := n7_; clear n0_ n1_ n2_ n3_ n4_ n5_ n6_ n7_; clear hb hbox hg; have hnb16 := NB101_0.out; have hnc16 := NB0_101.out; have hcz17_0 : w15.cell? ⟨gb101, 0, none⟩ = some (.string a1_0) := (blk_cell BK101.out 0).trans rfl; have hcz17_1 : w15.cell? ⟨gb101, 1, none⟩ = some (.bool a1_1) := (blk_cell BK101.out 1).trans rfl; have hcz17_2 : w15.cell? ⟨gb101, 2, none⟩ = some (.slice A1_2 l1_2.length c1_2) := (blk_cell BK101.out 2).trans rfl; have hfz17_0 := blk_frozen BK101.out 0; have hfz17_1 := blk_frozen BK101.out 1; have hfz17_2 := blk_frozen BK101.out 2) | ((with_reducible refine gate_callee (f := 115) rfl ?_); refine goesL_ (some 9) rfl rfl Try.func115 (by kernel_rfl) rfl #[.agg #[.string a1_0, .bool a1_1, .slice A1_2 l1_2.length c1_2]] rfl (by (try simp only [List.map_toArray, List.map_cons, List.map_nil]); first | done | rfl | (simp only [List.length_drop, List.length_take]; rfl)) ?_; (with_reducible refine (typed_Of.calls a1_0 a1_1 _ _ l1_2 t102 t103 _ ?side1 ?side2 A3.out).mono ?_); (case side1 => exact Kd.C_foot_now HR1_2.out (by repeat (first | (with_reducible first | exact HK.out | apply KeepBut.set_ | apply keep_drewN | apply keep_drew | apply keep_alloc | refine keep_far ?_ GW101.out _) | exact HK.out))); (case side2 => exact HC1_2.out); rintro e w18 ⟨rfl, hb⟩; refine ⟨_, rfl, ?_⟩; have n0_ := Aside0.mk (IsS134.below (by repeat (first | (with_reducible first | exact HI0.out | apply IsS134.alloc | apply IsS134.drewN | apply IsS134.drew | apply IsS134.set_0 | refine IsS134.far ?_ NB0_101.out _) | exact HI0.out)) hb); have n1_ := Aside0.mk (blk_below (g := gb101) (o := .cells #[.string a1_0, .bool a1_1, .slice A1_2 l1_2.length c1_2] 62 (0, 0)) (by (with_reducible repeat (first | refine blk_drewN ?_ _ | refine blk_drew ?_ | refine blk_alloc ?_ _)); exact BK101.out) hb); have n2_ := Aside0.mk (KeepBut.trans (by repeat (first | (with_reducible first | exact HK.out | apply KeepBut.set_ | apply keep_drewN | apply keep_drew | apply keep_alloc | refine keep_far ?_ GW101.out _) | exact HK.out)) (KeepBut.of_below hb g none) (.inl rfl)); have n3_ := Aside0.mk (below_step (by repeat (first | (with_reducible first | exact HB.out | apply below_alloc | apply pw_below_drewN | apply below_drew1 | refine below_set ?_ (IsS134.ge HI0.out) | refine below_set ?_ GE101.out) | exact HB.out)) hb); clear HI0; clear BK101; clear HK; clear HB; have HI0 := n0_; have BK101 := n1_; have HK := n2_; have HB := n3_; clear n0_ n1_ n2_ n3_; (try clear hb); (try clear hb2); (try clear hk); (try clear hi); obtain ⟨HGz19, hgz19⟩ := HI0.out; have hcz19_0 := cellS134_0 HGz19; have hfz19_0 := blk_frozen HGz19 0; clear HGz19 hgz19))
  go_ret
  exact ⟨by first | rfl | (simp [errW_none, errW_some] <;> rfl) | (simp [*, errW_none, errW_some] <;> rfl), by repeat (first | (with_reducible first | exact HI0.out | apply IsS134.alloc | apply IsS134.drewN | apply IsS134.drew | apply IsS134.set_0 | refine IsS134.far ?_ NB0_101.out _) | exact HI0.out), by repeat (first | (with_reducible first | exact HB.out | apply below_alloc | apply pw_below_drewN | apply below_drew1 | refine below_set ?_ (IsS134.ge HI0.out) | refine below_set ?_ GE101.out) | exact HB.out), by repeat (first | (with_reducible first | exact HK.out | apply KeepBut.set_ | apply keep_drewN | apply keep_drew | apply keep_alloc | refine keep_far ?_ GW101.out _) | exact HK.out)⟩
end Go.Proofs.Yteoibgpkimlahaa.P
end
section
namespace Go.Proofs.Yteoibgpkimlahaa.P
open Go.RowKit Go.Proofs.YteoibgpkimlahaaW.PrintWords Go.Proofs.YteoibgpkimlahaaW.PrintLast Go.Proofs.YteoibgpkimlahaaW.PrintMore
theorem fLeast_loop (n : Int) (h0 : 0 ≤ n) (h1 : sz n ≤ 8) : ∀ d i k : Nat, i + d = sz n → d + 9 < k → fixed_Least.l0 k n (i : Int) = some (strOfNums (digs n)) := by
 intro d
 induction d with
 | zero =>
  intro i k hi hk
  obtain ⟨k, rfl⟩ : ∃ q, k = q + 1 := ⟨k - 1, by omega⟩
  simp only [fixed_Least.l0]
  rw [fits_is n i h0, decide_eq_true (Or.inr ((sz_le i n h0).1 (by omega)))]
  simp only [Option.bind_some, if_true]
  rw [at_rounds (fixed_digits.mono n i) (show 9 ≤ k by omega) (digits_is n i (by omega))]
  simp only [Option.bind_some]
  rw [at_rounds (slices_Reverse_byte_byte.mono _) (show 6 ≤ k by omega) (reverse_is _ (by rw [leL_length]; omega))]
  simp only [Option.bind_some]
  rw [show i = sz n by omega]; rfl
 | succ d ih =>
  intro i k hi hk
  obtain ⟨k, rfl⟩ : ∃ q, k = q + 1 := ⟨k - 1, by omega⟩
  simp only [fixed_Least.l0]
  rw [fits_is n i h0, decide_eq_false (by rw [← sz_le i n h0]; omega)]
  simp only [Option.bind_some, Bool.false_eq_true, if_false]
  rw [i64_small (by omega) (by omega), show (i : Int) + 1 = ((i + 1 : Nat) : Int) by omega]
  exact ih (i + 1) k (by omega) (by omega)
theorem fLeast_is (n : Int) (h0 : 0 ≤ n) (h1 : n < 18446744073709551616) : Ev (fun k => fixed_Least.f k n) (strOfNums (digs n)) :=
 Ev.of (fixed_Least.mono n) (k := 18 + sz n) (fLeast_loop n h0 (sz_u64 h0 h1) (sz n) 0 _ (by omega) (by omega))
end Go.Proofs.Yteoibgpkimlahaa.P
end
