/- Numbers and bytes: the least digits of a number; what the reference of layer 2 computes; the bytes of a list, and back. -/
import Derived.Test.YteoibgpkimlahaaDoorQFixed
import Derived.Test.YteoibgpkimlahaaDoorFHatchwayref02Least
import Derived.Test.YteoibgpkimlahaaDoorFHatchwayref02Big
import Derived.Test.YteoibgpkimlahaaDoorFHatchwayref02Turned
import Derived.Test.YteoibgpkimlahaaDoorFHatchwayref02Number
namespace Go.Proofs.YteoibgpkimlahaaDoor.P
open Go.RowKit Go.Proofs.YteoibgpkimlahaaDoorW.PrintWords Go.Proofs.YteoibgpkimlahaaDoorW.PrintLast Go.Proofs.YteoibgpkimlahaaDoorW.PrintMore

/-! bytes and lists -/
theorem bytesOf_str (l : List Int) (h : IsByte l) : bytesOf (strOfNums l) = l := by
  unfold bytesOf
  rw [strOfNums_data, List.map_map]
  conv => rhs; rw [← List.map_id l]
  refine List.map_congr_left fun x hx => ?_
  obtain ⟨h0, h1⟩ := h x hx
  show ((UInt8.ofNat x.toNat).toNat : Int) = x
  rw [UInt8.toNat_ofNat']
  omega
theorem str_bytesOf (s : ByteArray) : strOfNums (bytesOf s) = s := by
  refine Go.WideShapes.bytes_inj ?_
  rw [strOfNums_data, bytesOf, List.map_map]
  conv => rhs; rw [← List.map_id s.data.toList]
  refine List.map_congr_left fun x _ => ?_
  show UInt8.ofNat ((x.toNat : Int)).toNat = x
  simp
theorem str_append (a b : List Int) : strOfNums (a ++ b) = strOfNums a ++ strOfNums b := by
  refine Go.WideShapes.bytes_inj ?_
  simp [strOfNums, ByteArray.data_append]
theorem bytesOf_append (a b : ByteArray) : bytesOf (a ++ b) = bytesOf a ++ bytesOf b := by
  simp [bytesOf, ByteArray.data_append]
theorem str_inj {a b : List Int} (ha : IsByte a) (hb : IsByte b) (h : strOfNums a = strOfNums b) : a = b := by
  rw [← bytesOf_str a ha, ← bytesOf_str b hb, h]
theorem bytesOf_inj {a b : ByteArray} (h : bytesOf a = bytesOf b) : a = b := by rw [← str_bytesOf a, ← str_bytesOf b, h]
theorem toList_inj {a b : ByteArray} (h : a.toList = b.toList) : a = b := by
  rw [ByteArray.toList_eq, ByteArray.toList_eq] at h
  exact Go.WideShapes.bytes_inj h
theorem toList_str (l : List Int) : (strOfNums l).toList = l.map fun n => UInt8.ofNat n.toNat := by rw [ByteArray.toList_eq, strOfNums_data]
theorem isByte_append {a b : List Int} (ha : IsByte a) (hb : IsByte b) : IsByte (a ++ b) := fun x hx => (List.mem_append.1 hx).elim (ha x) (hb x)
theorem isByte_take {a : List Int} (ha : IsByte a) (n : Nat) : IsByte (a.take n) := fun x hx => ha x (List.mem_of_mem_take hx)
theorem isByte_drop {a : List Int} (ha : IsByte a) (n : Nat) : IsByte (a.drop n) := fun x hx => ha x (List.mem_of_mem_drop hx)
theorem extract_str (s : ByteArray) (i j : Nat) : s.extract i j = strOfNums (((bytesOf s).take j).drop i) := by
  refine Go.WideShapes.bytes_inj ?_
  rw [strOfNums_data, List.map_drop, List.map_take]
  have : (bytesOf s).map (fun n => UInt8.ofNat n.toNat) = s.data.toList := by rw [← strOfNums_data, str_bytesOf]
  rw [this]
  simp [ByteArray.data_extract, Array.toList_extract, List.drop_take]
theorem bt_getD (s : ByteArray) (i : Nat) : bt s i = (bytesOf s).getD i 0 := by rw [← rd_bytesOf]; rfl

/-! the least digits -/
def sz (x : Int) : Nat := if _h : x ≤ 0 then 0 else sz (x / 256) + 1
termination_by x.toNat
decreasing_by omega
theorem sz_zero {x : Int} (h : x ≤ 0) : sz x = 0 := by rw [sz, dif_pos h]
theorem sz_pos {x : Int} (h : 0 < x) : sz x = sz (x / 256) + 1 := by rw [sz, dif_neg (by omega)]
theorem sz_le (m : Nat) : ∀ x : Int, 0 ≤ x → (sz x ≤ m ↔ x < 256 ^ m) := by
  induction m with
  | zero =>
    intro x h0
    by_cases h : x ≤ 0
    · rw [sz_zero h]; simp; omega
    · rw [sz_pos (by omega)]; simp; omega
  | succ m ih =>
    intro x h0
    have hp : (0 : Int) < 256 ^ m := Int.pow_pos (by decide)
    rw [Int.pow_succ]
    by_cases h : x ≤ 0
    · rw [sz_zero h]
      constructor
      · intro _; omega
      · intro _; omega
    · rw [sz_pos (by omega), Nat.add_le_add_iff_right, ih _ (by omega)]
      constructor <;> intro _ <;> omega
/-- A number's least digits, the highest first. -/
def digs (x : Int) : List Int := (leL x (sz x)).reverse
theorem digs_length (x : Int) : (digs x).length = sz x := by rw [digs, List.length_reverse, leL_length]
theorem digs_byte (x : Int) : IsByte (digs x) := isByte_reverse (leL_byte _ _)
theorem digs_zero : digs 0 = [] := by rw [digs, sz_zero (by omega)]; rfl
theorem digs_pos {x : Int} (h : 0 < x) : digs x = digs (x / 256) ++ [x % 256] := by
  rw [digs, sz_pos h, leL, List.reverse_cons]; rfl
theorem numL_digs (x : Int) (h : 0 ≤ x) : numL (digs x) = x := numL_leL _ _ h ((sz_le _ x h).1 (Nat.le_refl _))
theorem digs_head (x : Int) (h : 0 < x) : (digs x).head? ≠ some 0 := by
  intro he
  have hl := digs_length x
  have hb := digs_byte x
  have hn := numL_digs x (by omega)
  cases hd : digs x with
  | nil => rw [hd] at he; simp at he
  | cons a l =>
    rw [hd] at he hl hn hb
    simp only [List.head?_cons, Option.some.injEq] at he
    subst he
    have h1 : numL (0 :: l) = numL l := by simp [numL]
    have h2 := (numL_bd l (fun x hx => hb x (List.mem_cons_of_mem _ hx))).2
    rw [← h1, hn] at h2
    have := (sz_le _ x (by omega)).2 h2
    simp at hl
    omega
theorem leL_add (a b : Nat) : ∀ x : Int, leL x (a + b) = leL x a ++ leL (x / 256 ^ a) b := by
  induction a with
  | zero => intro x; simp [leL]
  | succ a ih =>
    intro x
    rw [show a + 1 + b = (a + b) + 1 by omega, leL, ih, leL, List.cons_append, Int.ediv_ediv_of_nonneg (by decide), Int.pow_succ, Int.mul_comm]
theorem leL_zero (b : Nat) : leL 0 b = List.replicate b 0 := by
  induction b with
  | zero => rfl
  | succ b ih => rw [leL, List.replicate_succ]; simp [ih]
theorem leL_digs (x : Int) (m : Nat) (h0 : 0 ≤ x) (h : sz x ≤ m) : (leL x m).reverse = List.replicate (m - sz x) 0 ++ digs x := by
  obtain ⟨b, rfl⟩ := Nat.le.dest h
  have : x / 256 ^ sz x = 0 := Int.ediv_eq_zero_of_lt h0 ((sz_le _ x h0).1 (Nat.le_refl _))
  rw [leL_add, this, leL_zero, List.reverse_append, List.reverse_replicate, digs, show sz x + b - sz x = b by omega]

/-! what the printed functions tell -/
theorem sz_u64 {n : Int} (h0 : 0 ≤ n) (h1 : n < 18446744073709551616) : sz n ≤ 8 := (sz_le 8 n h0).2 (by omega)
theorem rLeast_loop : ∀ (d : Nat) (n : Int) (acc : List Int) (k : Nat), 0 ≤ n → n < 18446744073709551616 → sz n = d → d < k → acc.length + d < 1000 → d ≤ 8 →
    hatchwayref02_Least.l0 k n (strOfNums acc) = some (strOfNums (digs n ++ acc)) := by
  intro d
  induction d with
  | zero =>
    intro n acc k h0 h1 hd hk ha _
    obtain ⟨k, rfl⟩ : ∃ q, k = q + 1 := ⟨k - 1, by omega⟩
    have hn : n = 0 := by
      have := (sz_le 0 n h0).1 (by omega)
      simp at this; omega
    subst hn
    simp only [hatchwayref02_Least.l0]
    rw [if_neg (by omega), digs_zero]; rfl
  | succ d ih =>
    intro n acc k h0 h1 hd hk ha h8
    obtain ⟨k, rfl⟩ : ∃ q, k = q + 1 := ⟨k - 1, by omega⟩
    have hn : 0 < n := by
      rcases Int.lt_or_le 0 n with h | h
      · exact h
      · rw [sz_zero h] at hd; omega
    simp only [hatchwayref02_Least.l0]
    rw [if_pos hn]
    simp only [Option.bind_some]
    rw [if_pos (by rw [strOfNums_size, strOfNums_size]; simp; omega), Int.tmod_eq_emod_of_nonneg h0, Int.tdiv_eq_ediv_of_nonneg h0, Int.emod_emod, u64_small (by omega) (by omega), ← str_append]
    rw [ih (n / 256) _ k (by omega) (by omega) (by rw [sz_pos hn] at hd; omega) (by omega) (by simp; omega) (by omega), digs_pos hn, List.append_assoc]
theorem rLeast_is (n : Int) (h0 : 0 ≤ n) (h1 : n < 18446744073709551616) : Ev (fun k => hatchwayref02_Least.f k n) (strOfNums (digs n)) := by
  refine Ev.of (hatchwayref02_Least.mono n) (k := sz n + 1) ?_
  have := rLeast_loop (sz n) n [] (sz n + 1) h0 h1 rfl (by omega) (by have := sz_u64 h0 h1; simp; omega) (sz_u64 h0 h1)
  rw [List.append_nil] at this
  exact this

theorem rBig_loop (m : Nat) : ∀ (d : Nat) (l : List Int) (k : Nat), l.length + d = m → m < 1000 → d < k →
    hatchwayref02_Big.l0 k (m : Int) (strOfNums l) = some (strOfNums (List.replicate d 0 ++ l), true) := by
  intro d
  induction d with
  | zero =>
    intro l k hl hm hk
    obtain ⟨k, rfl⟩ : ∃ q, k = q + 1 := ⟨k - 1, by omega⟩
    simp only [hatchwayref02_Big.l0]
    rw [strOfNums_size, if_neg (by omega)]; rfl
  | succ d ih =>
    intro l k hl hm hk
    obtain ⟨k, rfl⟩ : ∃ q, k = q + 1 := ⟨k - 1, by omega⟩
    simp only [hatchwayref02_Big.l0]
    rw [strOfNums_size, if_pos (by omega), if_pos (by omega), show (⟨#[0]⟩ : ByteArray) = strOfNums [0] from rfl, ← str_append]
    rw [ih _ k (by simp; omega) hm (by omega), List.replicate_succ', List.append_assoc]
theorem rBig_yes (n : Int) (m : Nat) (h0 : 0 ≤ n) (h1 : n < 18446744073709551616) (hm : sz n ≤ m) (hm2 : m < 1000) : Ev (fun k => hatchwayref02_Big.f k n m) (strOfNums (leL n m).reverse, true) := by
  unfold hatchwayref02_Big.f
  refine Ev.bind (rLeast_is n h0 h1) ?_
  refine Ev.congr (f := fun k => hatchwayref02_Big.l0 k m (strOfNums (digs n))) (fun k => by rw [if_neg (by rw [strOfNums_size, digs_length]; omega)]) ?_
  refine ⟨m + 1, fun k hk => ?_⟩
  show hatchwayref02_Big.l0 k m (strOfNums (digs n)) = _
  rw [rBig_loop m (m - sz n) (digs n) k (by rw [digs_length]; omega) hm2 (by omega), leL_digs n m h0 hm]
theorem rBig_no (n : Int) (m : Nat) (h0 : 0 ≤ n) (h1 : n < 18446744073709551616) (hm : m < sz n) : Ev (fun k => hatchwayref02_Big.f k n m) ((⟨#[]⟩ : ByteArray), false) := by
  unfold hatchwayref02_Big.f
  refine Ev.bind (rLeast_is n h0 h1) ?_
  refine Ev.congr (f := fun _ => some ((⟨#[]⟩ : ByteArray), false)) (fun k => by rw [if_pos (by rw [strOfNums_size, digs_length]; omega)]) ?_
  exact Ev.now _

theorem rTurned_loop (s : ByteArray) (hs : s.size ≤ 140737488351232) : ∀ (d i k : Nat), i + d = s.size → d < k →
    hatchwayref02_Turned.l0 k s (strOfNums ((bytesOf s).take i).reverse) (i : Int) = some (strOfNums (bytesOf s).reverse) := by
  intro d
  have hl := bytesOf_length s
  induction d with
  | zero =>
    intro i k hi hk
    obtain ⟨k, rfl⟩ : ∃ q, k = q + 1 := ⟨k - 1, by omega⟩
    simp only [hatchwayref02_Turned.l0]
    rw [if_neg (by omega), List.take_of_length_le (by omega)]
  | succ d ih =>
    intro i k hi hk
    obtain ⟨k, rfl⟩ : ∃ q, k = q + 1 := ⟨k - 1, by omega⟩
    simp only [hatchwayref02_Turned.l0]
    rw [i64_small (by omega) (by omega), if_pos (by omega), if_pos (by omega), if_pos (by omega), if_pos (by omega), show (i : Int) + 1 = ((i + 1 : Nat) : Int) by omega, Int.toNat_natCast, Int.toNat_natCast, extract_str, ← str_append]
    have e : ((bytesOf s).take (i + 1)).drop i ++ ((bytesOf s).take i).reverse = ((bytesOf s).take (i + 1)).reverse := by
      rw [List.take_succ_eq_append_getElem (by omega), List.drop_left' (by rw [List.length_take]; omega), List.reverse_append]
      rfl
    rw [e, if_pos ?_]
    · exact ih (i + 1) k (by omega) (by omega)
    · rw [strOfNums_size, strOfNums_size]; simp; omega
theorem rTurned_is (s : ByteArray) (hs : s.size ≤ 140737488351232) : Ev (fun k => hatchwayref02_Turned.f k s) (strOfNums (bytesOf s).reverse) :=
  Ev.of (hatchwayref02_Turned.mono s) (k := s.size + 1) (rTurned_loop s hs s.size 0 _ (by omega) (by omega))

theorem rNumber_loop (s : ByteArray) (hs : s.size ≤ 8) : ∀ (d i k : Nat), i + d = s.size → d < k →
    hatchwayref02_Number.l0 k s (numL ((bytesOf s).take i)) (i : Int) = some (numL (bytesOf s)) := by
  intro d
  have hl := bytesOf_length s
  have hb := bytesOf_byte s
  induction d with
  | zero =>
    intro i k hi hk
    obtain ⟨k, rfl⟩ : ∃ q, k = q + 1 := ⟨k - 1, by omega⟩
    simp only [hatchwayref02_Number.l0]
    rw [if_neg (by omega), List.take_of_length_le (by omega)]
  | succ d ih =>
    intro i k hi hk
    obtain ⟨k, rfl⟩ : ∃ q, k = q + 1 := ⟨k - 1, by omega⟩
    have hlt : i < (bytesOf s).length := by omega
    obtain ⟨h1, h2⟩ := numL_bd ((bytesOf s).take i) (isByte_take hb i)
    obtain ⟨h3, h4⟩ := hb ((bytesOf s)[i]) (List.getElem_mem hlt)
    have h5 : (256 : Int) ^ ((bytesOf s).take i).length ≤ 256 ^ 7 := pow256_le (by rw [List.length_take]; omega)
    have hr : bt s (i : Int) = (bytesOf s)[i] := by rw [bt_getD, List.getD_eq_getElem?_getD, List.getElem?_eq_getElem hlt]; rfl
    simp only [hatchwayref02_Number.l0]
    rw [if_pos (by omega), if_pos (by omega), hr, u64_small (x := 256 * _) (by omega) (by omega), u64_small (x := (bytesOf s)[i]) (by omega) (by omega), u64_small (by omega) (by omega), i64_small (by omega) (by omega),
      show (i : Int) + 1 = ((i + 1 : Nat) : Int) by omega, Int.mul_comm, ← numL_snoc, ← List.take_succ_eq_append_getElem hlt]
    exact ih (i + 1) k (by omega) (by omega)
theorem rNumber_is (s : ByteArray) (hs : s.size ≤ 8) : Ev (fun k => hatchwayref02_Number.f k s) (numL (bytesOf s)) :=
  Ev.of (hatchwayref02_Number.mono s) (k := s.size + 1) (rNumber_loop s hs s.size 0 _ (by omega) (by omega))
end Go.Proofs.YteoibgpkimlahaaDoor.P
