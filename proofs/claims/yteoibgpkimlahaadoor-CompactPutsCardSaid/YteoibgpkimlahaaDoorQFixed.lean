/- Numbers and bytes: what the printed functions of layer 2 compute, as plain lists of digits. -/
import Derived.Test.YteoibgpkimlahaaDoorFFixedFits
import Derived.Test.YteoibgpkimlahaaDoorFFixedDigits
import Derived.Test.YteoibgpkimlahaaDoorFSlicesReverseByteByte
import Derived.Test.YteoibgpkimlahaaDoorFFixedNumber
import Derived.Laws.BitsAllLaws
namespace Go.Proofs.YteoibgpkimlahaaDoor.P
open Go.RowKit Go.Proofs.YteoibgpkimlahaaDoorW.PrintWords Go.Proofs.YteoibgpkimlahaaDoorW.PrintLast Go.Proofs.YteoibgpkimlahaaDoorW.PrintMore

/-- So many digits of a number, the lowest first. -/
def leL (n : Int) : Nat → List Int
  | 0 => []
  | m + 1 => n % 256 :: leL (n / 256) m
/-- The number of digits, the highest first. -/
def numL (l : List Int) : Int := l.foldl (fun n b => n * 256 + b) 0
def IsByte (l : List Int) : Prop := ∀ x ∈ l, 0 ≤ x ∧ x < 256

theorem leL_length : ∀ (m : Nat) (n : Int), (leL n m).length = m
  | 0, _ => rfl
  | m + 1, n => by simp [leL, leL_length m]
theorem leL_byte : ∀ (m : Nat) (n : Int), IsByte (leL n m)
  | 0, _ => fun x hx => by simp [leL] at hx
  | m + 1, n => fun x hx => by
    simp only [leL, List.mem_cons] at hx
    rcases hx with rfl | hx
    · omega
    · exact leL_byte m _ x hx
theorem numL_snoc (l : List Int) (b : Int) : numL (l ++ [b]) = numL l * 256 + b := by simp [numL]
theorem numL_nil : numL [] = 0 := rfl
theorem numL_leL : ∀ (m : Nat) (n : Int), 0 ≤ n → n < 256 ^ m → numL (leL n m).reverse = n
  | 0, n, h0, h1 => by simp at h1; simp [leL, numL]; omega
  | m + 1, n, h0, h1 => by
    have h2 : n < 256 ^ m * 256 := by rw [Int.pow_succ] at h1; exact h1
    rw [leL, List.reverse_cons, numL_snoc, numL_leL m (n / 256) (by omega) (by omega)]
    omega
theorem snoc_ind {α : Type} {P : List α → Prop} (h0 : P []) (h1 : ∀ l b, P l → P (l ++ [b])) (l : List α) : P l := by
  rw [← List.reverse_reverse l]
  generalize l.reverse = r
  induction r with
  | nil => exact h0
  | cons b r ih => rw [List.reverse_cons]; exact h1 _ _ ih
theorem numL_bd (l : List Int) : IsByte l → 0 ≤ numL l ∧ numL l < 256 ^ l.length := by
  refine snoc_ind (P := fun l => IsByte l → 0 ≤ numL l ∧ numL l < 256 ^ l.length) (fun _ => by simp [numL]) ?_ l
  · intro l b ih h
    obtain ⟨h1, h2⟩ := ih (fun x hx => h x (List.mem_append_left _ hx))
    obtain ⟨h3, h4⟩ := h b (by simp)
    rw [numL_snoc, List.length_append, List.length_singleton, Int.pow_succ]
    omega
theorem leL_numL (l : List Int) : IsByte l → leL (numL l) l.length = l.reverse := by
  refine snoc_ind (P := fun l => IsByte l → leL (numL l) l.length = l.reverse) (fun _ => rfl) ?_ l
  · intro l b ih h
    obtain ⟨h3, h4⟩ := h b (by simp)
    have h5 := ih (fun x hx => h x (List.mem_append_left _ hx))
    rw [List.length_append, List.length_singleton, leL, numL_snoc, List.reverse_append]
    rw [show (numL l * 256 + b) % 256 = b by omega, show (numL l * 256 + b) / 256 = numL l by omega, h5]
    rfl

/-! the printed functions -/
theorem i64_small {x : Int} (h0 : 0 ≤ x) (h1 : x < 9223372036854775808) : wrap64 x = x := by unfold wrap64; omega
theorem pow256 (i : Nat) : (2 : Int) ^ (8 * i) = 256 ^ i := by rw [Int.pow_mul]; rfl
theorem shr_digit (n : Int) (i : Nat) (h : i < 8) : shr .u64 n (8 * (i : Int)) = n / 256 ^ i := by
  unfold shr
  rw [show (8 * (i : Int)).toNat = 8 * i by omega, show IntKind.u64.bits = 64 from rfl, Nat.min_eq_left (by omega), pow256]

theorem fits_is (n : Int) (m : Nat) (h0 : 0 ≤ n) : fixed_fits.f n m = some (decide (8 ≤ m ∨ n < 256 ^ m)) := by
  unfold fixed_fits.f
  by_cases h : (m : Int) ≥ 8
  · rw [if_pos h, decide_eq_true (by left; omega)]
  · rw [if_neg h, i64_small (by omega) (by omega), if_pos (by omega), shr_digit _ _ (by omega)]
    have hp : (0 : Int) < 256 ^ m := Int.pow_pos (by decide)
    have e : (n / 256 ^ m = 0) ↔ n < 256 ^ m := by
      constructor
      · intro e
        have := Int.lt_ediv_add_one_mul_self n hp
        rw [e] at this
        simpa using this
      · exact fun e => Int.ediv_eq_zero_of_lt h0 e
    by_cases e1 : n < 256 ^ m
    · rw [decide_eq_true (Or.inr e1), e.2 e1]; rfl
    · rw [decide_eq_false (by omega)]
      have : ¬ n / 256 ^ m = 0 := fun x => e1 (e.1 x)
      simp [this]

theorem digits_loop (n : Int) (m : Nat) (hm : m ≤ 8) : ∀ (d i : Nat) (xs : List Int) (k : Nat), xs.length = m → i + d = m → d < k →
    fixed_digits.l0 k n xs (m : Int) (i : Int) = some (xs.take i ++ leL (n / 256 ^ i) d) := by
  intro d
  induction d with
  | zero =>
    intro i xs k hx hi hk
    obtain ⟨k, rfl⟩ : ∃ q, k = q + 1 := ⟨k - 1, by omega⟩
    simp only [fixed_digits.l0]
    rw [if_neg (by omega), List.take_of_length_le (by omega)]
    simp [leL]
  | succ d ih =>
    intro i xs k hx hi hk
    obtain ⟨k, rfl⟩ : ∃ q, k = q + 1 := ⟨k - 1, by omega⟩
    simp only [fixed_digits.l0]
    rw [if_pos (by omega), i64_small (by omega) (by omega), if_pos (by omega), if_pos (by omega), if_pos (by omega), shr_digit _ _ (by omega), i64_small (by omega) (by omega)]
    have e : ((i : Int) + 1) = ((i + 1 : Nat) : Int) := by omega
    rw [e, ih (i + 1) _ k (by simpa using hx) (by omega) (by omega)]
    rw [Int.toNat_natCast, leL, List.take_succ_eq_append_getElem (by simp; omega), List.take_set_of_le (by omega), List.getElem_set_self, List.append_assoc]
    rw [Int.ediv_ediv_of_nonneg (Int.le_of_lt (Int.pow_pos (by decide)))]
    rfl
theorem digits_is (n : Int) (m : Nat) (hm : m ≤ 8) : fixed_digits.f 9 n m = some (leL n m) := by
  unfold fixed_digits.f
  rw [if_pos (by omega), Int.toNat_natCast, if_pos (by omega)]
  simp only [Option.bind_some, List.length_replicate]
  rw [show (0 : Int) = ((0 : Nat) : Int) from rfl, digits_loop n m hm m 0 _ 9 (by simp) (by omega) (by omega)]
  simp

theorem reverse_is : ∀ l : List Int, l.length ≤ 8 → slices_Reverse_byte_byte.f 6 l = some l.reverse
  | [], _ => by simp [slices_Reverse_byte_byte.f, slices_Reverse_byte_byte.l0, wrap64]
  | [a], _ => by simp [slices_Reverse_byte_byte.f, slices_Reverse_byte_byte.l0, wrap64]
  | [a, b], _ => by simp [slices_Reverse_byte_byte.f, slices_Reverse_byte_byte.l0, wrap64, rd]
  | [a, b, c], _ => by simp [slices_Reverse_byte_byte.f, slices_Reverse_byte_byte.l0, wrap64, rd]
  | [a, b, c, d], _ => by simp [slices_Reverse_byte_byte.f, slices_Reverse_byte_byte.l0, wrap64, rd]
  | [a, b, c, d, e], _ => by simp [slices_Reverse_byte_byte.f, slices_Reverse_byte_byte.l0, wrap64, rd]
  | [a, b, c, d, e, f], _ => by simp [slices_Reverse_byte_byte.f, slices_Reverse_byte_byte.l0, wrap64, rd]
  | [a, b, c, d, e, f, g], _ => by simp [slices_Reverse_byte_byte.f, slices_Reverse_byte_byte.l0, wrap64, rd]
  | [a, b, c, d, e, f, g, h], _ => by simp [slices_Reverse_byte_byte.f, slices_Reverse_byte_byte.l0, wrap64, rd]
  | a :: b :: c :: d :: e :: f :: g :: h :: i :: l, hl => by simp at hl

theorem u64_small {x : Int} (h0 : 0 ≤ x) (h1 : x < 18446744073709551616) : IntKind.u64.wrap x = x := by
  unfold IntKind.wrap; simp [IntKind.signed, IntKind.bits]; omega
theorem or_byte (x b : Int) (h0 : 0 ≤ x) (h1 : x < 256 ^ 7) (h2 : 0 ≤ b) (h3 : b < 256) : Go.bits .or .u64 (IntKind.u64.wrap (x * 256)) (IntKind.u64.wrap b) = x * 256 + b := by
  rw [u64_small (by omega) (by omega), u64_small (by omega) (by omega)]
  exact bits_join .u64 64 (by decide) (fun n h0 h1 => u64_small h0 (by simpa using h1)) 8 _ _ (by omega) (by omega) (by omega) h2 (by omega) (by omega)
theorem pow256_le {a b : Nat} (h : a ≤ b) : (256 : Int) ^ a ≤ 256 ^ b := by
  obtain ⟨c, rfl⟩ := Nat.le.dest h
  rw [Int.pow_add]
  have h1 : (0 : Int) < 256 ^ a := Int.pow_pos (by decide)
  have h2 : (0 : Int) < 256 ^ c := Int.pow_pos (by decide)
  have := Int.mul_le_mul_of_nonneg_left (show (1 : Int) ≤ 256 ^ c by omega) (Int.le_of_lt h1)
  omega
theorem number_loop (l : List Int) (hb : IsByte l) (hl : l.length ≤ 8) : ∀ (d i k : Nat), i + d = l.length → d < k →
    fixed_number.l0 k (numL (l.take i)) l (l.length : Int) (i : Int) = some (numL l) := by
  intro d
  induction d with
  | zero =>
    intro i k hi hk
    obtain ⟨k, rfl⟩ : ∃ q, k = q + 1 := ⟨k - 1, by omega⟩
    simp only [fixed_number.l0]
    rw [if_neg (by omega), List.take_of_length_le (by omega)]
  | succ d ih =>
    intro i k hi hk
    obtain ⟨k, rfl⟩ : ∃ q, k = q + 1 := ⟨k - 1, by omega⟩
    have hlt : i < l.length := by omega
    obtain ⟨h1, h2⟩ := numL_bd (l.take i) (fun x hx => hb x (List.mem_of_mem_take hx))
    obtain ⟨h3, h4⟩ := hb (l[i]) (List.getElem_mem hlt)
    have h5 : (256 : Int) ^ (l.take i).length ≤ 256 ^ 7 := pow256_le (by rw [List.length_take]; omega)
    have hr : rd l (i : Int) = l[i] := by simp [rd, List.getD_eq_getElem?_getD, List.getElem?_eq_getElem hlt]
    simp only [fixed_number.l0]
    rw [if_pos (by omega), if_pos (by omega), if_pos (by omega), hr, or_byte _ _ h1 (by omega) h3 h4, i64_small (by omega) (by omega), show ((i : Int) + 1) = ((i + 1 : Nat) : Int) by omega, ← numL_snoc, ← List.take_succ_eq_append_getElem hlt]
    exact ih (i + 1) k (by omega) (by omega)
theorem number_is (l : List Int) (hb : IsByte l) (hl : l.length ≤ 8) : fixed_number.f 9 l = some (numL l) := by
  unfold fixed_number.f
  exact number_loop l hb hl l.length 0 9 (by omega) (by omega)

/-! a row of bytes that '[]byte(s)' laid: read and written cell by cell -/
def RawB (w : World) (g n : Nat) (l : List Int) : Prop := l.length = n ∧ ∀ j, j < n → w.cell? ⟨g, j, none⟩ = some (.int .u8 (l.getD j 0)) ∧ w.frozen? ⟨g, j, none⟩ = false
theorem RawB.at_ {w : World} {g n : Nat} {l : List Int} (h : RawB w g n l) (i : Int) (h0 : 0 ≤ i) (h1 : i < (n : Int)) : w.cell? ⟨g, i.toNat, none⟩ = some (.int .u8 (rd l i)) ∧ w.frozen? ⟨g, i.toNat, none⟩ = false := h.2 _ (by omega)
theorem RawB.drew {w : World} {g n : Nat} {l : List Int} (h : RawB w g n l) : RawB w.drew g n l := h
theorem RawB.set {w : World} {g n : Nat} {l : List Int} (h : RawB w g n l) (i v : Int) : RawB (w.setCell ⟨g, i.toNat, none⟩ (.int .u8 v)) g n (l.set i.toNat v) := by
  refine ⟨by rw [List.length_set]; exact h.1, fun j hj => ⟨?_, by rw [World.frozen?_setCell]; exact (h.2 j hj).2⟩⟩
  by_cases e : i.toNat = j
  · subst e
    rw [World.cell?_setCell_same w _ _ (h.2 _ hj).1]
    simp [List.getD_eq_getElem?_getD, h.1, hj]
  · rw [World.cell?_setCell_other w _ _ _ (by intro x; injection x with _ x; exact e x), (h.2 j hj).1]
    simp [List.getD_eq_getElem?_getD, List.getElem?_set_ne e]
theorem RawB.reads {w : World} {g n : Nat} {l : List Int} (h : RawB w g n l) (hn : n ≤ 9223372036854775807) : (Kd.int .u8).C w (some ⟨g, 0, none⟩) l.length l :=
  Kd.C_of_reads (d := (0 : Int)) (h1 := fun _ => rfl) ⟨rfl, by rw [h.1]; exact hn, fun _ => ⟨_, rfl, fun j hj => by rw [add_plain]; exact (h.2 j (by rw [← h.1]; exact hj)).1⟩⟩
theorem RawB.of_bytes (W : World) (e : TypeId) (s : ByteArray) : RawB (Lib.bytesWorld W e s) W.heap.size s.size (bytesOf s) := by
  refine ⟨bytesOf_length s, fun j hj => ⟨?_, ?_⟩⟩
  · rw [Lib.bytesWorld_cell W e s j hj]
    have h' : j < s.data.toList.length := by rw [data_length]; exact hj
    simp [bytesOf, List.getD_eq_getElem?_getD, List.getElem?_eq_getElem h']
  · unfold World.frozen?
    rw [Lib.bytesWorld_at_new]
    have : j < (Lib.bytesCells W e s).size := by simp [Lib.bytesCells]; omega
    simp only [Bool.and_eq_false_iff, decide_eq_false_iff_not]
    left
    omega
theorem bytesOf_byte (s : ByteArray) : IsByte (bytesOf s) := by
  intro x hx
  simp only [bytesOf, List.mem_map] at hx
  obtain ⟨b, _, rfl⟩ := hx
  have := b.toNat_lt
  omega
theorem isByte_reverse {l : List Int} (h : IsByte l) : IsByte l.reverse := fun x hx => h x (List.mem_reverse.1 hx)
theorem size_zero (s : ByteArray) : s.toList = [] ↔ s.size = 0 := by
  rw [ByteArray.toList_eq, ← List.length_eq_zero_iff, data_length]
end Go.Proofs.YteoibgpkimlahaaDoor.P
