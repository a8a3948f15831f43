/- Whether any hello may be, and its bytes, or the error, are the document's; it is got again. (part 18 of 27) -/
import Derived.Test.YteoibgpkimlahaaB6
import Derived.Test.YteoibgpkimlahaaB8
import Derived.Test.YteoibgpkimlahaaB17
import Derived.Test.YteoibgpkimlahaaB9
section
namespace Go.Proofs.Yteoibgpkimlahaa.P
open Go.RowKit Go.Proofs.YteoibgpkimlahaaW.PrintWords Go.Proofs.YteoibgpkimlahaaW.PrintLast Go.Proofs.YteoibgpkimlahaaW.PrintMore
attribute [local go_sem] max2_int min2_int max_two min_two max_three min_three max_four min_four   
set_option linter.unusedVariables false
set_option linter.unusedSimpArgs false
def headL (by_ n : Int) : List Int := if n ≤ 55 then [by_ + n] else (by_ + 55 + sz n) :: digs n
mutual
def putL : S62 → List Int
 | ⟨t, l, sub⟩ => if l = true then headL 192 (putsL sub).length ++ putsL sub else if t.size = 1 ∧ bt t 0 < 128 then bytesOf t else headL 128 t.size ++ bytesOf t
def putsL : List S62 → List Int
 | [] => []
 | y :: ys => putL y ++ putsL ys
end
theorem putL_eq (t : ByteArray) (l : Bool) (sub : List S62) : putL ⟨t, l, sub⟩ = if l = true then headL 192 (putsL sub).length ++ putsL sub else if t.size = 1 ∧ bt t 0 < 128 then bytesOf t else headL 128 t.size ++ bytesOf t := by rw [putL]
theorem putsL_cons (y : S62) (ys : List S62) : putsL (y :: ys) = putL y ++ putsL ys := by rw [putsL]
theorem putsL_append : ∀ (xs ys : List S62), putsL (xs ++ ys) = putsL xs ++ putsL ys
 | [], ys => by rw [putsL]; rfl
 | x :: xs, ys => by rw [List.cons_append, putsL_cons, putsL_cons, putsL_append xs ys, List.append_assoc]
theorem rlp_head_ev (by_ n : Int) (h0 : 0 ≤ n) (h1 : n ≤ 1099511627776) (hb : by_ = 128 ∨ by_ = 192) : ∃ k, rlp_head.f k by_ n = some (strOfNums (headL by_ n)) := by
 have w : ∀ x : Int, 0 ≤ x → x ≤ 256 → wrap64 x = x := fun x h h' => by unfold wrap64; omega
 unfold rlp_head.f headL
 by_cases c : n ≤ 55
 ·exact ⟨0, by rw [if_pos c, if_pos c, w _ (by omega) (by omega), Int.emod_eq_of_lt (by omega) (by omega)]⟩
 ·have hu : IntKind.u64.wrap n = n := u64_small h0 (by omega)
  obtain ⟨k, hk⟩ := fLeast_is n h0 (by omega)
  have hs := sz_u64 h0 (show n < 18446744073709551616 by omega)
  have hl : (strOfNums (digs n)).size = sz n := by rw [strOfNums_size, digs_length]
  replace hk : fixed_Least.f k n = some (strOfNums (digs n)) := hk k (Nat.le_refl _)
  refine ⟨k, ?_⟩
  rw [if_neg c, if_neg c, hu, hk]
  simp only [Option.bind_some]
  rw [if_pos (by omega), hl, w (by_ + 55) (by omega) (by omega), w _ (by omega) (by omega), Int.emod_eq_of_lt (by omega) (by omega), ← str_append]
  rfl
theorem rlp_head_calls (by_ n : Int) (h0 : 0 ≤ n) (h1 : n ≤ 1099511627776) (hb : by_ = 128 ∨ by_ = 192) (w : World) :
  Calls Try.prog 105 #[.int .i64 by_, .int .i64 n] w fun e w' => e = .returned (.string (strOfNums (headL by_ n))) ∧ Below w.heap.size w w' := by
 obtain ⟨k, hk⟩ := rlp_head_ev by_ n h0 h1 hb
 exact rlp_head.calls k by_ n _ w hk
theorem headL_len (by_ n : Int) (h0 : 0 ≤ n) (h1 : n < 18446744073709551616) : (headL by_ n).length ≤ 9 := by
 unfold headL
 split
 ·simp
 ·have := sz_u64 h0 h1
  simp [digs_length]
  omega
theorem add_fits (t : ByteArray) (ht : t.size ≤ 1099511627776) : (strOfNums (headL 128 (t.size : Int))).size + t.size ≤ 9223372036854775807 := by
 rw [strOfNums_size]
 have := headL_len 128 (t.size : Int) (by omega) (by omega)
 omega
set_option maxHeartbeats 8000000 in
set_option maxRecDepth 100000 in
theorem rlp_put_text (t : ByteArray) (A : Option Addr) (cp : Nat) (n : Nat) (w : World) (ht : t.size ≤ 1099511627776) :
  Calls Try.prog 85 #[.agg #[.string t, .bool false, .slice A n cp]] w fun e w' => e = .returned (.string (strOfNums (if t.size = 1 ∧ bt t 0 < 128 then bytesOf t else headL 128 t.size ++ bytesOf t))) ∧ Below w.heap.size w w' := by
 by_cases c : t.size = 1 ∧ bt t 0 < 128
 ·rw [if_pos c, str_bytesOf]
  obtain ⟨c1, c2⟩ := c
  have q0 : 0 < t.size := by omega
  have d1 : ((t.size : Int) == 1) = true := by rw [c1]; rfl
  have d2 : decide (((t[0]'q0).toNat : Int) < 128) = true := by
   have e : bt t 0 = ((t[0]'q0).toNat : Int) := by unfold bt; rw [dif_pos (by simpa using q0)]; rfl
   rw [e] at c2
   exact decide_eq_true c2
  clear c1 c2
  go_enter Try.func85, Try.ntmps85
  go_wp2
  go_ret
  exact ⟨rfl, below_alloc (Below.refl _ _) _⟩
 ·rw [if_neg c]
  have hh := fun w => rlp_head_calls 128 t.size (by omega) (by omega) (.inl rfl) w
  have HH := Aside0.mk hh
  have ha := add_fits t ht
  have hb := eq_false (Nat.not_lt.2 ha)
  clear hh ht
  by_cases c1 : t.size = 1
  ·have q0 : 0 < t.size := by omega
   have d1 : ((t.size : Int) == 1) = true := by rw [c1]; rfl
   have d2 : decide (((t[0]'q0).toNat : Int) < 128) = false := by
    have e : bt t 0 = ((t[0]'q0).toNat : Int) := by unfold bt; rw [dif_pos (by simpa using q0)]; rfl
    rw [← e]
    exact decide_eq_false (fun h => c ⟨c1, h⟩)
   clear c1 c
   go_enter Try.func85, Try.ntmps85
   go_wp2
   go_region_held3 (fun w' => w'.cell? ⟨w.heap.size, 0, none⟩ = some (.string t)) (go_keep) (first | (go_at_call 105; refine (HH.out _).mono ?_; rintro e w2 ⟨rfl, hb⟩; have hcell := hb.cell (p := ⟨w.heap.size, 0, none⟩) (by simp)))
   go_wp2
   go_ret
   exact ⟨by rw [str_append, str_bytesOf]; rfl, below_step (below_drew (below_alloc (Below.refl _ _) _)) hb⟩
  ·have d1 : ((t.size : Int) == 1) = false := by simpa using (show ¬ (t.size : Int) = 1 by omega)
   clear c1 c
   go_enter Try.func85, Try.ntmps85
   go_wp2
   go_region_held3 (fun w' => w'.cell? ⟨w.heap.size, 0, none⟩ = some (.string t)) (go_keep) (first | (go_at_call 105; refine (HH.out _).mono ?_; rintro e w2 ⟨rfl, hb⟩; have hcell := hb.cell (p := ⟨w.heap.size, 0, none⟩) (by simp)))
   go_wp2
   go_ret
   exact ⟨by rw [str_append, str_bytesOf]; rfl, below_step (below_drew (below_alloc (Below.refl _ _) _)) hb⟩
theorem S62.eta' (x : S62) : (⟨x.f0, x.f1, x.f2⟩ : S62) = x := by cases x; rfl
mutual
theorem putL_text : ∀ (x : S62), x.f1 = false → x.f0.size ≤ (putL x).length
 | ⟨t, l, sub⟩, h => by
  obtain rfl : l = false := h
  rw [putL_eq, if_neg (by simp)]
  split
  ·simp [bytesOf_length]
  ·simp [bytesOf_length]
end
theorem putsL_mem (xs : List S62) (x : S62) (h : x ∈ xs) : (putL x).length ≤ (putsL xs).length := by
 induction xs with
 | nil => cases h
 | cons y ys ih =>
  rw [putsL_cons, List.length_append]
  rcases List.mem_cons.1 h with rfl | h
  ·omega
  ·have := ih h; omega
theorem putL_list_len (t : ByteArray) (sub : List S62) : (putsL sub).length ≤ (putL ⟨t, true, sub⟩).length := by
 rw [putL_eq, if_pos rfl, List.length_append]
 omega
set_option maxHeartbeats 8000000 in
set_option maxRecDepth 100000 in
theorem rlp_put_all (n : Nat) : ∀ (t : ByteArray) (l : Bool) (A : Option Addr) (cp : Nat) (sub : List S62) (w : World), SizeOf.sizeOf sub ≤ n → Kd.C k62 w A sub.length sub → sub.length ≤ cp → (putL ⟨t, l, sub⟩).length ≤ 1099511627776 →
  Calls Try.prog 85 #[.agg #[.string t, .bool l, .slice A sub.length cp]] w fun e w' => e = .returned (.string (strOfNums (putL ⟨t, l, sub⟩))) ∧ Below w.heap.size w w' := by
 induction n with
 | zero =>
  intro t l A cp sub w hn
  cases sub <;> simp at hn
 | succ n ih =>
 intro t l A cp sub w hn hC hcp hlen
 cases l with
 | false =>
  have h1 := putL_text ⟨t, false, sub⟩ rfl
  rw [putL_eq, if_neg (by simp)]
  exact rlp_put_text t A cp sub.length w (by simpa using Nat.le_trans h1 hlen)
 | true =>
  have hu62 := Try.underlying62
  have hl2 := Nat.le_trans (putL_list_len t sub) hlen
  have HN := Aside0.mk hn
  have HR := Aside0.mk hC
  have HL := Aside0.mk hl2
  rw [putL_eq, if_pos rfl]
  clear hn hC hlen hl2 hcp
  go_enter Try.func85, Try.ntmps85
  go_wp2
  go_loopg [31] sub.length (fun kq v w' => ∃ i : Int, v = .int .i64 i ∧ Aside0 (0 ≤ i ∧ i.toNat + kq = sub.length) ∧ Aside0 (IsBld w.heap.size (w.heap.size + 1) (Lib.strCells (strOfNums (putsL (sub.take i.toNat)))) w') ∧ Aside0 (Below w.heap.size w w'))
  case atStart =>
   refine ⟨0, rfl, ⟨⟨Int.le_refl _, by simp⟩⟩, ⟨?_⟩, ⟨below_alloc (below_alloc (Below.refl _ _) _) _⟩⟩
   have := bld_new w.heap.size (w.alloc (.cells #[.string t, .bool true, .slice A sub.length cp] 62 (0, 0))) (by simp)
   rw [show (w.alloc (.cells #[.string t, .bool true, .slice A sub.length cp] 62 (0, 0))).heap.size = w.heap.size + 1 by simp] at this
   rw [Int.toNat_zero, List.take_zero, show putsL [] = [] by rw [putsL]]
   exact this
  case round =>
   obtain ⟨i, rfl, H0, HI, HB⟩ := hrel
   cases gk with
   | zero =>
    have ei : i = (sub.length : Int) := by have := H0.out; omega
    subst ei
    have hI := HI.out
    rw [Int.toNat_natCast, List.take_length] at hI
    have HI2 := Aside0.mk hI
    have c0 : decide ((sub.length : Int) < (sub.length : Int)) = false := by simp
    clear hI
    go_wp2_with fail
    refine (builder_Len _ _ _ _ HI2.out).mono ?_
    rintro e w2 ⟨rfl, rfl⟩
    have e1 : ((Lib.strCells (strOfNums (putsL sub))).length : Int) = ((putsL sub).length : Int) := by rw [Lib.strCells_length, strOfNums_size]
    rw [e1]
    clear e1
    go_wp2_with fail
    refine (rlp_head_calls 192 _ (by omega) (by have := HL.out; omega) (.inr rfl) _).mono ?_
    rintro e w3 ⟨rfl, hb⟩
    have HI3 := Aside0.mk (HI2.out.below hb)
    have HB3 := Aside0.mk (below_step HB.out hb)
    clear hb
    go_wp2_with fail
    refine (builder_String _ _ ((putsL sub).map fun n => UInt8.ofNat n.toNat) _ HI3.out (by have := HB3.out.size; omega)).mono ?_
    rintro e w4 ⟨rfl, hb⟩
    have HB4 := Aside0.mk (HB3.out.trans hb)
    have ha : (strOfNums (headL 192 ((putsL sub).length : Int))).size + (strOfNums (putsL sub)).size ≤ 9223372036854775807 := by
     rw [strOfNums_size, strOfNums_size]
     have := headL_len 192 ((putsL sub).length : Int) (by omega) (by have := HL.out; omega)
     have := HL.out
     omega
    have es : (⟨((putsL sub).map fun n => UInt8.ofNat n.toNat).toArray⟩ : ByteArray) = strOfNums (putsL sub) := rfl
    rw [es]
    clear es hb
    go_wp2
    go_ret
    exact ⟨by rw [str_append]; rfl, HB4.out⟩
   | succ k1 =>
    have p0 : 0 ≤ i := H0.out.1
    have q0 : i < (sub.length : Int) := by have := H0.out; omega
    have c0 : decide (i < (sub.length : Int)) = true := decide_eq_true q0
    have hlt : i.toNat < sub.length := by omega
    have hrd : rd_T62 sub i = sub[i.toNat] := by simp [rd_T62, List.getD, hlt]
    have hmem : rd_T62 sub i ∈ sub := by rw [hrd]; exact List.getElem_mem hlt
    have htk : sub.take (i + 1).toNat = sub.take i.toNat ++ [rd_T62 sub i] := by
     rw [show (i + 1).toNat = i.toNat + 1 by omega, List.take_add_one, List.getElem?_eq_getElem hlt, hrd]; rfl
    obtain ⟨ad, A2, c2, ea, hx0, hx1, hx2, hl2, hi2⟩ := at_T62 HR.out i p0 q0
    cases ea
    replace hx0 := (HB.out.cell (World.block_lt_of_cell? w _ hx0)).trans hx0
    replace hx1 := (HB.out.cell (World.block_lt_of_cell? w _ hx1)).trans hx1
    replace hx2 := (HB.out.cell (World.block_lt_of_cell? w _ hx2)).trans hx2
    have HR2 := Aside0.mk hi2
    have HC2 := Aside0.mk hl2
    have hsz : SizeOf.sizeOf (rd_T62 sub i).f2 ≤ n := by
     have h1 := List.sizeOf_lt_of_mem hmem
     have h2 : SizeOf.sizeOf (rd_T62 sub i).f2 < SizeOf.sizeOf (rd_T62 sub i) := by
      cases rd_T62 sub i
      simp
     have := HN.out
     omega
    have HS := Aside0.mk hsz
    have HT := Aside0.mk htk
    have HM := Aside0.mk (putsL_mem sub _ hmem)
    clear hi2 hl2 hsz htk hmem hrd hlt
    replace p0 := eq_true p0
    replace q0 := eq_true q0
    go_wp2_with fail
    refine (ih (rd_T62 sub i).f0 (rd_T62 sub i).f1 A2 c2 (rd_T62 sub i).f2 _ HS.out (Kd.C_below HR2.out (below_alloc (HB.out.mono (Nat.le_refl _)) _)) HC2.out (by rw [S62.eta']; have := HM.out; have := HL.out; omega)).mono ?_
    rintro e w7 ⟨rfl, hb⟩
    have HI7 := Aside0.mk ((HI.out.alloc _).below hb)
    have HB7 := Aside0.mk (below_step (below_alloc HB.out _) hb)
    have hle : (putsL (sub.take i.toNat)).length + (putL (rd_T62 sub i)).length ≤ (putsL sub).length := by
     have h1 := congrArg putsL HT.out
     rw [putsL_append, putsL_cons, show putsL [] = [] by rw [putsL], List.append_nil] at h1
     have h2 : (putsL sub).length = (putsL (sub.take (i + 1).toNat)).length + (putsL (sub.drop (i + 1).toNat)).length := by
      rw [← List.length_append, ← putsL_append, List.take_append_drop]
     rw [h1, List.length_append] at h2
     omega
    have HE := Aside0.mk hle
    have ex : (⟨(rd_T62 sub i).f0, (rd_T62 sub i).f1, (rd_T62 sub i).f2⟩ : S62) = rd_T62 sub i := S62.eta' _
    rw [ex]
    clear hb hle ex
    go_wp2_with fail
    refine (builder_WriteString _ _ _ _ _ HI7.out (by rw [Lib.strCells_length, strOfNums_size, strOfNums_size]; have := HE.out; have := HL.out; omega) (by have := HB7.out.size; omega)).mono ?_
    rintro e w8 ⟨rfl, hi, hb⟩
    have HI8 := Aside0.mk hi
    have HB8 := Aside0.mk (HB7.out.trans hb)
    have WI := Aside0.mk (show wrap64 (i + 1) = i + 1 by have := H0.out; have := HR.out.2.1; unfold wrap64; omega)
    clear hi hb
    go_wp2
    go_roundg k1
    case measure => omega
    case rel =>
     refine ⟨wrap64 (i + 1), rfl, ⟨by rw [WI.out]; have := H0.out; omega⟩, ⟨?_⟩, HB8⟩
     have h := HI8.out
     rw [WI.out, HT.out, putsL_append, putsL_cons, show putsL [] = [] by rw [putsL], List.append_nil]
     rw [str_append]
     simpa [Lib.strCells] using h
def rlp_put.f (t : ByteArray) (l : Bool) (sub : List S62) : Option ByteArray := if (putL ⟨t, l, sub⟩).length ≤ 1099511627776 then some (strOfNums (putL ⟨t, l, sub⟩)) else none
theorem rlp_put.calls (a0_0 : ByteArray) (a0_1 : Bool) (A0_2 : Option Addr) (c0_2 : Nat) (l0_2 : List (S62)) (r : ByteArray) (w : World) (hr0_2 : Kd.C k62 w A0_2 l0_2.length l0_2) (hc0_2 : l0_2.length ≤ c0_2) (h : rlp_put.f a0_0 a0_1 l0_2 = some r) :
  Calls Try.prog 85 #[.agg #[.string a0_0, .bool a0_1, .slice A0_2 l0_2.length c0_2]] w fun e w' => e = .returned (.string r) ∧ Below w.heap.size w w' := by
 unfold rlp_put.f at h
 by_cases c : (putL ⟨a0_0, a0_1, l0_2⟩).length ≤ 1099511627776
 ·rw [if_pos c] at h
  obtain rfl := Option.some.inj h
  exact rlp_put_all _ _ _ _ _ _ _ (Nat.le_refl _) hr0_2 hc0_2 c
 ·rw [if_neg c] at h; cases h
end Go.Proofs.Yteoibgpkimlahaa.P
end
