/- Whether any hello may be, and its bytes, or the error, are the document's; it is got again. (part 25 of 27) -/
import Derived.Test.YteoibgpkimlahaaB24
import Derived.Test.YteoibgpkimlahaaB9
import Derived.Test.YteoibgpkimlahaaB6
import Derived.Test.YteoibgpkimlahaaB7
import Derived.Test.YteoibgpkimlahaaB8
section
namespace Go.Proofs.Yteoibgpkimlahaa.P
open Go.RowKit Go.Proofs.YteoibgpkimlahaaW.PrintWords Go.Proofs.YteoibgpkimlahaaW.PrintLast Go.Proofs.YteoibgpkimlahaaW.PrintMore
open Lib (compareBytes)
theorem cmp_self : ∀ a : List UInt8, compareBytes a a = 0
 | [] => rfl
 | x :: a => by rw [compareBytes, if_neg (by simp), if_neg (by simp)]; exact cmp_self a
theorem cmp_zero : ∀ a b : List UInt8, compareBytes a b = 0 → a = b
 | [], [], _ => rfl
 | [], _ :: _, h => by simp [compareBytes] at h
 | _ :: _, [], h => by simp [compareBytes] at h
 | x :: a, y :: b, h => by
  rw [compareBytes] at h
  split at h
  ·cases h
  ·split at h
   ·cases h
   ·rename_i h1 h2
    have : x = y := by
     rw [← UInt8.toNat_inj]
     rw [UInt8.lt_iff_toNat_lt] at h1 h2
     omega
    rw [this, cmp_zero a b h]
theorem less_cmp : ∀ a b : List UInt8, Op.bytesLess a b = decide (compareBytes a b < 0)
 | [], [] => rfl
 | [], _ :: _ => rfl
 | _ :: _, [] => rfl
 | x :: a, y :: b => by
  rw [Op.bytesLess, compareBytes, less_cmp a b]
  by_cases h1 : x < y
  ·rw [if_pos h1]; simp [h1]
  ·rw [if_neg h1]
   by_cases h2 : y < x
   ·have : ¬ x = y := by rintro rfl; exact h1 h2
    rw [if_pos h2]; simp [h1, this]
   ·have : x = y := by
     rw [← UInt8.toNat_inj]
     rw [UInt8.lt_iff_toNat_lt] at h1 h2
     omega
    rw [if_neg h2]; simp [this]
theorem S104.ext {x y : S104} (h0 : x.f0 = y.f0) (h1 : x.f1 = y.f1) : x = y := by cases x; cases y; simp_all
theorem bothL_cons (x : S104) (xs : List S104) (y : S104) (ys : List S104) : bothL (x :: xs) (y :: ys) = if ordS x y = 0 then x :: bothL xs ys else if ordS x y < 0 then bothL xs (y :: ys) else bothL (x :: xs) ys := by rw [bothL]
theorem bothL_nil1 (ys : List S104) : bothL [] ys = [] := by rw [bothL]; rintro _ _ _ _ h; cases h
theorem bothL_nil2 (xs : List S104) : bothL xs [] = [] := by rw [bothL]; rintro _ _ _ _ _ h; cases h
end Go.Proofs.Yteoibgpkimlahaa.P
end
section
namespace Go.Proofs.Yteoibgpkimlahaa.P
open Go.RowKit Go.Proofs.YteoibgpkimlahaaW.PrintWords Go.Proofs.YteoibgpkimlahaaW.PrintLast Go.Proofs.YteoibgpkimlahaaW.PrintMore
open Lib (compareBytes)
theorem wr1 (i : Nat) (h : i < 4611686018427387904) : wrap64 ((i : Int) + 1) = ((i + 1 : Nat) : Int) := by unfold wrap64; omega
theorem wr0 (i : Nat) (h : i < 4611686018427387904) (h0 : 0 < i) : wrap64 ((i : Int) - 1) = ((i - 1 : Nat) : Int) := by unfold wrap64; omega
def conv (c : S58) : S104 := ⟨c.f0, c.f1⟩
def deconv (c : S104) : S58 := ⟨c.f0, c.f1⟩
theorem deconv_conv (c : S58) : deconv (conv c) = c := by cases c; rfl
theorem rd58_get (l : List S58) (i : Nat) (h : i < l.length) : rd_T58 l (i : Int) = l[i] := by simp [rd_T58, List.getD, h]
theorem rd104_get (l : List S104) (i : Nat) (h : i < l.length) : rd_T104 l (i : Int) = l[i] := by simp [rd_T104, List.getD, h]
theorem rd_conv (l : List S58) (i : Nat) (h : i < l.length) : rd_T104 (l.map conv) (i : Int) = conv (rd_T58 l (i : Int)) := by
 rw [rd58_get l i h, rd104_get _ i (by simpa using h)]
 simp
theorem great_is (a0 a1 : Int) (l : List S58) : ∃ b, Ev (fun k => hatchwaylaw32_great.f k a0 a1 l) b ∧ (b = false → l.length ≤ 40 ∧ ∀ c ∈ l, c.f0.size ≤ 100) := by
 by_cases hl : l.length ≤ 40
 ·have loop : ∀ m i : Nat, i + m = l.length → ∃ b, Ev (fun k => hatchwaylaw32_great.l0 k (i : Int) a0 a1 l) b ∧ (b = false → ∀ c ∈ l.drop i, c.f0.size ≤ 100) := by
   intro m
   induction m with
   | zero =>
    intro i hi
    refine ⟨false, Ev.step (f := fun _ => some false) (fun k => by rw [hatchwaylaw32_great.l0, if_neg (by omega)]) (Ev.now _), fun _ c hc => ?_⟩
    rw [List.drop_eq_nil_of_le (by omega)] at hc
    cases hc
   | succ m ih =>
    intro i hi
    by_cases hs : ((rd_T58 l (i : Int)).f0.size : Int) > 100
    ·exact ⟨true, Ev.step (f := fun _ => some true) (fun k => by rw [hatchwaylaw32_great.l0, if_pos (by omega), if_pos (by omega), if_pos hs]) (Ev.now _), fun h => by cases h⟩
    ·obtain ⟨b, h1, h2⟩ := ih (i + 1) (by omega)
     refine ⟨b, Ev.step (fun k => by rw [hatchwaylaw32_great.l0, if_pos (by omega), if_pos (by omega), if_neg hs, wr1 i (by omega)]) h1, fun hb c hc => ?_⟩
     rw [List.drop_eq_getElem_cons (by omega)] at hc
     rcases List.mem_cons.1 hc with rfl | hc
     ·rw [rd58_get l i (by omega)] at hs; omega
     ·exact h2 hb c hc
  obtain ⟨b, h1, h2⟩ := loop l.length 0 (by omega)
  refine ⟨b, Ev.congr (fun k => by rw [hatchwaylaw32_great.f, if_neg (by omega)]; rfl) h1, fun hb => ⟨hl, fun c hc => h2 hb c (by simpa using hc)⟩⟩
 ·exact ⟨true, Ev.congr (f := fun _ => some true) (fun k => by rw [hatchwaylaw32_great.f, if_pos (by omega)]) (Ev.now _), fun h => by cases h⟩
theorem caps_is (l : List S58) (hl : l.length ≤ 40) : Ev (fun k => hatchwaylaw32_caps.f k l) (l.map conv) := by
 have loop : ∀ m i : Nat, i + m = l.length → Ev (fun k => hatchwaylaw32_caps.l0 k l ((l.take i).map conv) (i : Int)) (l.map conv) := by
  intro m
  induction m with
  | zero =>
   intro i hi
   have e : l.take i = l := List.take_of_length_le (by omega)
   rw [e]
   exact Ev.step (f := fun _ => some (l.map conv)) (fun k => by rw [hatchwaylaw32_caps.l0, if_neg (by omega)]) (Ev.now _)
  | succ m ih =>
   intro i hi
   refine Ev.step (fun k => ?_) (ih (i + 1) (by omega))
   rw [hatchwaylaw32_caps.l0, if_pos (by omega), if_pos (by omega), if_pos (by simp; omega), wr1 i (by omega)]
   congr 1
   have e : l.take (i + 1) = l.take i ++ [l[i]] := by rw [List.take_add_one, List.getElem?_eq_getElem (by omega)]; rfl
   rw [rd58_get l i (by omega), e, List.map_append]
   rfl
 exact loop l.length 0 (by omega)
theorem plain_is (l : List S104) (hl : l.length ≤ 40) : Ev (fun k => hatchwaylaw32_plain.f k l) (l.map deconv) := by
 have loop : ∀ m i : Nat, i + m = l.length → Ev (fun k => hatchwaylaw32_plain.l0 k l ((l.take i).map deconv) (i : Int)) (l.map deconv) := by
  intro m
  induction m with
  | zero =>
   intro i hi
   have e : l.take i = l := List.take_of_length_le (by omega)
   rw [e]
   exact Ev.step (f := fun _ => some (l.map deconv)) (fun k => by rw [hatchwaylaw32_plain.l0, if_neg (by omega)]) (Ev.now _)
  | succ m ih =>
   intro i hi
   refine Ev.step (fun k => ?_) (ih (i + 1) (by omega))
   rw [hatchwaylaw32_plain.l0, if_pos (by omega), if_pos (by omega), if_pos (by simp; omega), wr1 i (by omega)]
   congr 1
   have e : l.take (i + 1) = l.take i ++ [l[i]] := by rw [List.take_add_one, List.getElem?_eq_getElem (by omega)]; rfl
   rw [rd104_get l i (by omega), e, List.map_append]
   rfl
 exact loop l.length 0 (by omega)
theorem same_refl (l : List S58) (hl : l.length ≤ 1000) : Ev (fun k => hatchwayref32_Same.f k l l) true := by
 have loop : ∀ m i : Nat, i + m = l.length → Ev (fun k => hatchwayref32_Same.l0 k l l (i : Int)) true := by
  intro m
  induction m with
  | zero =>
   intro i hi
   exact Ev.step (f := fun _ => some true) (fun k => by rw [hatchwayref32_Same.l0, if_neg (by omega)]) (Ev.now _)
  | succ m ih =>
   intro i hi
   refine Ev.step (fun k => ?_) (ih (i + 1) (by omega))
   rw [hatchwayref32_Same.l0, if_pos (by omega), if_pos (by omega), if_pos (by omega), if_neg (by simp), wr1 i (by omega)]
 exact Ev.congr (fun k => by rw [hatchwayref32_Same.f, if_pos rfl]; rfl) (loop l.length 0 (by omega))
theorem ref13_is (s : ByteArray) (hs : s.size ≤ 1000) : Ev (fun k => hatchwayref13_May.f k s) (nameOK s) := by
 have body : ∀ (i : Nat) (k : Nat), i < s.size → hatchwayref13_May.l0 (k + 1) s (i : Int) = if okB (bt s (i : Nat)) = true then hatchwayref13_May.l0 k s ((i + 1 : Nat) : Int) else some false := by
  intro i k hi
  rw [hatchwayref13_May.l0, if_pos (by omega), if_pos (by omega), wr1 i (by omega)]
  generalize bt s (i : Nat) = b
  unfold okB
  by_cases h1 : b ≥ 97 <;> by_cases h2 : b ≤ 122 <;> by_cases h3 : b ≥ 48 <;> by_cases h4 : b ≤ 57 <;> by_cases h5 : b = 95 <;> simp [h1, h2, h3, h4, h5] <;> first | omega | (intro h; omega) | skip
  all_goals (rw [if_neg]; omega)
 have loop : ∀ m i : Nat, i + m = s.size → ∀ b : Bool, (b = true ↔ (1 ≤ s.size ∧ s.size ≤ 12) ∧ ∀ j, i ≤ j → j < s.size → okB (bt s (j : Nat)) = true) → Ev (fun k => hatchwayref13_May.l0 k s (i : Int)) b := by
  intro m
  induction m with
  | zero =>
   intro i hi b hb
   refine Ev.step (f := fun _ => some b) (fun k => ?_) (Ev.now _)
   rw [hatchwayref13_May.l0, if_neg (by omega)]
   by_cases h1 : (s.size : Int) ≥ 1
   ·rw [if_pos h1]
    congr 1
    rw [Bool.eq_iff_iff, hb, decide_eq_true_eq]
    exact ⟨fun h => ⟨⟨by omega, by omega⟩, fun j h2 h3 => by omega⟩, fun h => by omega⟩
   ·rw [if_neg h1]
    cases b
    ·rfl
    ·have := hb.1 rfl; omega
  | succ m ih =>
   intro i hi b hb
   cases hok : okB (bt s (i : Nat))
   ·obtain rfl : b = false := by
     cases b
     ·rfl
     ·have := (hb.1 rfl).2 i (Nat.le_refl _) (by omega); rw [hok] at this; cases this
    exact Ev.step (f := fun _ => some false) (fun k => by rw [body i k (by omega), hok]; rfl) (Ev.now _)
   ·refine Ev.step (fun k => by rw [body i k (by omega), hok]; rfl) (ih (i + 1) (by omega) b ?_)
    rw [hb]
    refine and_congr_right fun _ => ⟨fun h j h1 h2 => h j (by omega) h2, fun h j h1 h2 => ?_⟩
    rcases Nat.eq_or_lt_of_le h1 with rfl | h3
    ·exact hok
    ·exact h j h3 h2
 refine loop s.size 0 (by omega) _ ?_
 unfold nameOK
 rw [Bool.and_eq_true, decide_eq_true_eq, decide_eq_true_eq]
 exact and_congr_right fun _ => ⟨fun h j _ hj => h j hj, fun h j hj => h j (by omega) hj⟩
def capAt (l : List S58) (j : Nat) : Prop := nameOK (rd_T58 l (j : Nat)).f0 = true ∧ 1 ≤ (rd_T58 l (j : Nat)).f1 ∧ (rd_T58 l (j : Nat)).f1 ≤ 255 ∧ (0 < j → ordS (conv (rd_T58 l ((j - 1 : Nat) : Int))) (conv (rd_T58 l (j : Nat))) < 0)
def mayP (a0 a1 : Int) (l : List S58) : Prop := (1 ≤ a0 ∧ a0 ≤ a1 ∧ a1 ≤ 65535 ∧ l.length ≤ 16) ∧ ∀ j, j < l.length → capAt l j
theorem ord_less (x y : S58) : ordS (conv x) (conv y) < 0 ↔ (Op.bytesLess x.f0.toList y.f0.toList = true ∨ (x.f0.toList = y.f0.toList ∧ x.f1 < y.f1)) := by
 rw [ByteArray.toList_eq, ByteArray.toList_eq, less_cmp, decide_eq_true_eq]
 unfold ordS conv
 simp only
 by_cases h : compareBytes x.f0.data.toList y.f0.data.toList = 0
 ·rw [if_pos h, h]
  have e := cmp_zero _ _ h
  by_cases h1 : x.f1 < y.f1
  ·rw [if_pos h1]; exact ⟨fun _ => .inr ⟨e, h1⟩, fun _ => by omega⟩
  ·rw [if_neg h1]
   by_cases h2 : y.f1 < x.f1
   ·rw [if_pos h2]; exact ⟨fun h => by omega, fun h => by rcases h with h | h <;> omega⟩
   ·rw [if_neg h2]; exact ⟨fun h => by omega, fun h => by rcases h with h | h <;> omega⟩
 ·rw [if_neg h]
  refine ⟨fun h => .inl h, fun h' => ?_⟩
  rcases h' with h' | ⟨h', _⟩
  ·exact h'
  ·rw [h', cmp_self] at h; exact absurd rfl h
theorem all_step {p : Nat → Prop} {i n : Nat} (_hi : i < n) (hp : p i) : (∀ j, i ≤ j → j < n → p j) ↔ (∀ j, i + 1 ≤ j → j < n → p j) := by
 refine ⟨fun h j h1 h2 => h j (by omega) h2, fun h j h1 h2 => ?_⟩
 rcases Nat.eq_or_lt_of_le h1 with rfl | h3
 ·exact hp
 ·exact h j h3 h2
theorem refMay_is (a0 a1 : Int) (l : List S58) (hl : l.length ≤ 40) (hn : ∀ c ∈ l, c.f0.size ≤ 100) (b : Bool) (hb : b = true ↔ mayP a0 a1 l) : Ev (fun k => hatchwayref32_May.f k a0 a1 l) b := by
 have j2 : ∀ (i : Nat) (x : Bool) (b : Bool), i < l.length → (x = true → b = false) → (x = false → (0 < i → ordS (conv (rd_T58 l ((i - 1 : Nat) : Int))) (conv (rd_T58 l (i : Nat))) < 0) → Ev (fun k => hatchwayref32_May.l0 k ((i + 1 : Nat) : Int) a0 a1 l) b) →
   (x = false → ¬ (0 < i → ordS (conv (rd_T58 l ((i - 1 : Nat) : Int))) (conv (rd_T58 l (i : Nat))) < 0) → b = false) →
   Ev (fun k => hatchwayref32_May.j2 k (i : Int) x a0 a1 l (rd_T58 l (i : Nat)).f0 (rd_T58 l (i : Nat)).f1) b := by
  intro i x b hi h1 h2 h3
  cases x
  ·by_cases h0 : 0 < i
   ·by_cases ho : ordS (conv (rd_T58 l ((i - 1 : Nat) : Int))) (conv (rd_T58 l (i : Nat))) < 0
    ·refine Ev.step (fun k => ?_) (h2 rfl (fun _ => ho))
     rw [hatchwayref32_May.j2, if_neg (by simp), if_pos (by omega), wr0 i (by omega) h0, if_pos (by omega), if_pos (by omega), wr1 i (by omega)]
     rcases (ord_less _ _).1 ho with hh | ⟨hh, hv⟩
     ·rw [if_pos hh]
     ·by_cases hc : Op.bytesLess (rd_T58 l ((i - 1 : Nat) : Int)).f0.toList (rd_T58 l (i : Nat)).f0.toList = true
      ·rw [if_pos hc]
      ·rw [if_neg hc, if_pos hh, if_pos hv]
    ·obtain rfl := h3 rfl (fun hh => ho (hh h0))
     refine Ev.step (f := fun _ => some false) (fun k => ?_) (Ev.now _)
     rw [hatchwayref32_May.j2, if_neg (by simp), if_pos (by omega), wr0 i (by omega) h0, if_pos (by omega), if_pos (by omega)]
     have := fun hh => ho ((ord_less _ _).2 hh)
     rw [if_neg (fun hc => this (.inl hc))]
     by_cases he : (rd_T58 l ((i - 1 : Nat) : Int)).f0.toList = (rd_T58 l (i : Nat)).f0.toList
     ·rw [if_pos he, if_neg (fun hv => this (.inr ⟨he, hv⟩))]
     ·rw [if_neg he]
   ·refine Ev.step (fun k => ?_) (h2 rfl (fun h => absurd h h0))
    rw [hatchwayref32_May.j2, if_neg (by simp), if_neg (by omega), wr1 i (by omega)]
  ·obtain rfl := h1 rfl
   exact Ev.step (f := fun _ => some false) (fun k => by rw [hatchwayref32_May.j2, if_pos rfl]) (Ev.now _)
 have loop : ∀ m i : Nat, i + m = l.length → ∀ b : Bool, (b = true ↔ ∀ j, i ≤ j → j < l.length → capAt l j) → Ev (fun k => hatchwayref32_May.l0 k (i : Int) a0 a1 l) b := by
  intro m
  induction m with
  | zero =>
   intro i hi b hb
   obtain rfl : b = true := hb.2 (fun j h1 h2 => by omega)
   exact Ev.step (f := fun _ => some true) (fun k => by rw [hatchwayref32_May.l0, if_neg (by omega)]) (Ev.now _)
  | succ m ih =>
   intro i hi b hb
   have hsz : (rd_T58 l (i : Int)).f0.size ≤ 1000 := by
    rw [rd58_get l i (by omega)]
    have := hn _ (List.getElem_mem (by omega : i < l.length))
    omega
   have go : ∀ x : Bool, (x = false ↔ nameOK (rd_T58 l (i : Int)).f0 = true ∧ 1 ≤ (rd_T58 l (i : Int)).f1 ∧ (rd_T58 l (i : Int)).f1 ≤ 255) → Ev (fun k => hatchwayref32_May.j2 k (i : Int) x a0 a1 l (rd_T58 l (i : Nat)).f0 (rd_T58 l (i : Nat)).f1) b := by
    intro x hx
    refine j2 i x b (by omega) (fun h => ?_) (fun h ho => ?_) (fun h ho => ?_)
    ·cases b
     ·rfl
     ·have := (hb.1 rfl) i (Nat.le_refl _) (by omega)
      have := hx.2 ⟨this.1, this.2.1, this.2.2.1⟩
      rw [this] at h; cases h
    ·have h1 := hx.1 h
     exact ih (i + 1) (by omega) b (hb.trans (all_step (by omega) ⟨h1.1, h1.2.1, h1.2.2, ho⟩))
    ·cases b
     ·rfl
     ·exact absurd ((hb.1 rfl) i (Nat.le_refl _) (by omega)).2.2.2 ho
   cases hok : nameOK (rd_T58 l (i : Int)).f0
   ·have h1 := ref13_is _ hsz
    rw [hok] at h1
    refine Ev.step (fun k => by rw [hatchwayref32_May.l0, if_pos (by omega), if_pos (by omega)]) (Ev.bind h1 ?_)
    exact go true ⟨fun h => (by cases h), fun h => (by rw [hok] at h; cases h.1)⟩
   ·have h1 := ref13_is _ hsz
    rw [hok] at h1
    refine Ev.step (fun k => by rw [hatchwayref32_May.l0, if_pos (by omega), if_pos (by omega)]) (Ev.bind h1 ?_)
    simp only [if_true]
    by_cases hv : (rd_T58 l (i : Int)).f1 < 1
    ·simp only [if_pos hv]
     exact go true ⟨fun h => (by cases h), fun h => (by omega)⟩
    ·simp only [if_neg hv]
     refine go _ ?_
     rw [decide_eq_false_iff_not]
     exact ⟨fun h => ⟨hok, by omega, by omega⟩, fun h => by omega⟩
 have j0 : ∀ x : Bool, (x = false ↔ 1 ≤ a0 ∧ a0 ≤ a1 ∧ a1 ≤ 65535 ∧ l.length ≤ 16) → Ev (fun k => hatchwayref32_May.j0 k x a0 a1 l) b := by
  intro x hx
  cases x
  ·refine Ev.step (fun k => by rw [hatchwayref32_May.j0, if_neg (by simp)]; rfl) (loop l.length 0 (by omega) b ?_)
   rw [hb]
   exact ⟨fun h j _ hj => h.2 j hj, fun h => ⟨hx.1 rfl, fun j hj => h j (by omega) hj⟩⟩
  ·obtain rfl : b = false := by
    cases b
    ·rfl
    ·have := hx.2 (hb.1 rfl).1; cases this
   exact Ev.step (f := fun _ => some false) (fun k => by rw [hatchwayref32_May.j0, if_pos rfl]) (Ev.now _)
 by_cases h1 : a0 < 1
 ·exact Ev.congr (fun k => by rw [hatchwayref32_May.f, if_pos h1]) (j0 true ⟨fun h => (by cases h), fun h => by omega⟩)
 ·by_cases h2 : a0 > a1
  ·exact Ev.congr (fun k => by rw [hatchwayref32_May.f, if_neg h1, if_pos h2]) (j0 true ⟨fun h => (by cases h), fun h => by omega⟩)
  ·by_cases h3 : a1 > 65535
   ·exact Ev.congr (fun k => by rw [hatchwayref32_May.f, if_neg h1, if_neg h2, if_pos h3]) (j0 true ⟨fun h => (by cases h), fun h => by omega⟩)
   ·exact Ev.congr (fun k => by rw [hatchwayref32_May.f, if_neg h1, if_neg h2, if_neg h3]) (j0 _ (by rw [decide_eq_false_iff_not]; omega))
theorem order_ev (x y : S104) : Ev (fun k => hello_order.f k x.f0 x.f1 y.f0 y.f1) (ordS x y) := Ev.of (fun k => hello_order.mono _ _ _ _ k) (order_ordS x y)
theorem helloMay_is (a0 a1 : Int) (l : List S58) (hl : l.length ≤ 40) (b : Bool) (hb : b = true ↔ mayP a0 a1 l) : Ev (fun k => hello_May.f k a0 a1 (l.map conv)) b := by
 have hlm : (l.map conv).length = l.length := by simp
 have fin : ∀ b : Bool, (b = true ↔ 1 ≤ a0 ∧ a0 ≤ a1 ∧ a1 ≤ 65535 ∧ l.length ≤ 16) → ∀ k : Nat, (if a0 ≥ 1 then (if a0 ≤ a1 then (if a1 ≤ 65535 then (some (decide ((((l.map conv).length : Nat) : Int) ≤ 16))) else (some false)) else (some false)) else (some false)) = some b := by
  intro b hb _
  rw [hlm]
  by_cases h1 : a0 ≥ 1
  ·by_cases h2 : a0 ≤ a1
   ·by_cases h3 : a1 ≤ 65535
    ·rw [if_pos h1, if_pos h2, if_pos h3]
     congr 1
     rw [Bool.eq_iff_iff, hb, decide_eq_true_eq]
     omega
    ·rw [if_pos h1, if_pos h2, if_neg h3]
     cases b
     ·rfl
     ·have := hb.1 rfl; omega
   ·rw [if_pos h1, if_neg h2]
    cases b
    ·rfl
    ·have := hb.1 rfl; omega
  ·rw [if_neg h1]
   cases b
   ·rfl
   ·have := hb.1 rfl; omega
 have loop : ∀ m i : Nat, i + m = l.length → ∀ b : Bool, (b = true ↔ (1 ≤ a0 ∧ a0 ≤ a1 ∧ a1 ≤ 65535 ∧ l.length ≤ 16) ∧ ∀ j, i ≤ j → j < l.length → capAt l j) → Ev (fun k => hello_May.l0 k (l.map conv) (((l.map conv).length : Nat) : Int) (i : Int) a0 a1 (l.map conv)) b := by
  intro m
  induction m with
  | zero =>
   intro i hi b hb
   refine Ev.step (f := fun _ => some b) (fun k => ?_) (Ev.now _)
   rw [hello_May.l0, if_neg (by rw [hlm]; omega)]
   exact fin b (by rw [hb]; exact ⟨fun h => h.1, fun h => ⟨h, fun j h1 h2 => by omega⟩⟩) 0
  | succ m ih =>
   intro i hi b hb
   have hr := rd_conv l i (by omega)
   have hne : ¬ capAt l i → b = false := fun h => by
    cases b
    ·rfl
    ·exact absurd ((hb.1 rfl).2 i (Nat.le_refl _) (by omega)) h
   have base : ∀ k, hello_May.l0 (k + 1) (l.map conv) (((l.map conv).length : Nat) : Int) (i : Int) a0 a1 (l.map conv) = _ := fun k => by rw [hello_May.l0, if_pos (by rw [hlm]; omega), if_pos (by omega), if_pos (by rw [hlm]; omega), hr]
   cases hok : nameOK (rd_T58 l (i : Int)).f0
   ·obtain rfl := hne (fun h => by rw [h.1] at hok; cases hok)
    refine Ev.step (f := fun _ => some false) (fun k => ?_) (Ev.now _)
    rw [base]
    simp [command_May.f, conv, hok]
   ·by_cases h1 : (rd_T58 l (i : Int)).f1 < 1
    ·obtain rfl := hne (fun h => by have := h.2.1; omega)
     refine Ev.step (f := fun _ => some false) (fun k => ?_) (Ev.now _)
     rw [base]
     simp [command_May.f, conv, hok, h1]
    ·by_cases h2 : (rd_T58 l (i : Int)).f1 > 255
     ·obtain rfl := hne (fun h => by have := h.2.2.1; omega)
      refine Ev.step (f := fun _ => some false) (fun k => ?_) (Ev.now _)
      rw [base]
      simp [command_May.f, conv, hok, h1, h2]
     ·by_cases h0 : 0 < i
      ·have hr0 := rd_conv l (i - 1) (by omega)
       by_cases ho : ordS (conv (rd_T58 l ((i - 1 : Nat) : Int))) (conv (rd_T58 l (i : Nat))) < 0
       ·have hcap : capAt l i := ⟨hok, by omega, by omega, fun _ => ho⟩
        refine Ev.step (f := fun k => (hello_order.f k (conv (rd_T58 l ((i - 1 : Nat) : Int))).f0 (conv (rd_T58 l ((i - 1 : Nat) : Int))).f1 (conv (rd_T58 l (i : Nat))).f0 (conv (rd_T58 l (i : Nat))).f1).bind fun t106 => if t106 ≥ 0 then some false else hello_May.l0 k (l.map conv) (((l.map conv).length : Nat) : Int) ((i + 1 : Nat) : Int) a0 a1 (l.map conv)) (fun k => ?_) ?_
        ·rw [base]
         simp only [command_May.f, Option.bind_some]
         rw [show nameOK (conv (rd_T58 l (i : Int))).f0 = true from hok, if_pos rfl, if_neg (show ¬ (conv (rd_T58 l (i : Int))).f1 < 1 from h1), if_neg (show ¬ (conv (rd_T58 l (i : Int))).f1 > 255 from h2), if_pos (by omega), wr0 i (by omega) h0, if_pos (by omega), if_pos (by rw [hlm]; omega), hr0, wr1 i (by omega)]
        ·refine Ev.bind (order_ev _ _) ?_
         simp only [if_neg (show ¬ ordS (conv (rd_T58 l ((i - 1 : Nat) : Int))) (conv (rd_T58 l (i : Nat))) ≥ 0 by omega)]
         exact ih (i + 1) (by omega) b (by rw [hb]; exact and_congr_right fun _ => all_step (by omega) hcap)
       ·obtain rfl := hne (fun h => ho (h.2.2.2 h0))
        refine Ev.step (f := fun k => (hello_order.f k (conv (rd_T58 l ((i - 1 : Nat) : Int))).f0 (conv (rd_T58 l ((i - 1 : Nat) : Int))).f1 (conv (rd_T58 l (i : Nat))).f0 (conv (rd_T58 l (i : Nat))).f1).bind fun t106 => if t106 ≥ 0 then some false else hello_May.l0 k (l.map conv) (((l.map conv).length : Nat) : Int) ((i + 1 : Nat) : Int) a0 a1 (l.map conv)) (fun k => ?_) ?_
        ·rw [base]
         simp only [command_May.f, Option.bind_some]
         rw [show nameOK (conv (rd_T58 l (i : Int))).f0 = true from hok, if_pos rfl, if_neg (show ¬ (conv (rd_T58 l (i : Int))).f1 < 1 from h1), if_neg (show ¬ (conv (rd_T58 l (i : Int))).f1 > 255 from h2), if_pos (by omega), wr0 i (by omega) h0, if_pos (by omega), if_pos (by rw [hlm]; omega), hr0, wr1 i (by omega)]
        ·refine Ev.bind (order_ev _ _) ?_
         simp only [if_pos (show ordS (conv (rd_T58 l ((i - 1 : Nat) : Int))) (conv (rd_T58 l (i : Nat))) ≥ 0 by omega)]
         exact Ev.now _
      ·have hcap : capAt l i := ⟨hok, by omega, by omega, fun h => absurd h h0⟩
       refine Ev.step (fun k => ?_) (ih (i + 1) (by omega) b (by rw [hb]; exact and_congr_right fun _ => all_step (by omega) hcap))
       rw [base]
       simp only [command_May.f, Option.bind_some]
       rw [show nameOK (conv (rd_T58 l (i : Int))).f0 = true from hok, if_pos rfl, if_neg (show ¬ (conv (rd_T58 l (i : Int))).f1 < 1 from h1), if_neg (show ¬ (conv (rd_T58 l (i : Int))).f1 > 255 from h2), if_neg (by omega), wr1 i (by omega)]
 refine Ev.congr (fun k => by rw [hello_May.f]; rfl) (loop l.length 0 (by omega) b ?_)
 rw [hb]
 exact ⟨fun h => ⟨h.1, fun j _ hj => h.2 j hj⟩, fun h => ⟨h.1, fun j hj => h.2 j (by omega) hj⟩⟩
theorem bothL_len (n : Nat) : ∀ xs ys : List S104, xs.length + ys.length ≤ n → (bothL xs ys).length ≤ xs.length := by
 induction n with
 | zero =>
  intro xs ys h
  have h1 : xs = [] := List.eq_nil_of_length_eq_zero (by omega)
  subst h1
  rw [bothL_nil1]; simp
 | succ n ih =>
  intro xs ys h
  cases xs with
  | nil => rw [bothL_nil1]; simp
  | cons x xs =>
   cases ys with
   | nil => rw [bothL_nil2]; simp
   | cons y ys =>
    simp only [List.length_cons] at h ⊢
    rw [bothL_cons]
    split
    ·have := ih xs ys (by omega); simp only [List.length_cons]; omega
    ·split
     ·have := ih xs (y :: ys) (by simp; omega); omega
     ·have := ih (x :: xs) ys (by simp; omega); simpa using this
def agreeR (m1 m2 : Bool) (a0 a1 : Int) (la : List S58) (b0 b1 : Int) (lb : List S58) : Int × List S104 × Int :=
 if m1 = true then (if m2 = true then (if mn a1 b1 < mx a0 b0 then (0, [], 7) else (mn a1 b1, dealL (bothL (la.map conv) (lb.map conv)), 0)) else (0, [], 1)) else (0, [], 1)
theorem agree_is (a0 a1 : Int) (la : List S58) (b0 b1 : Int) (lb : List S58) (ha : la.length ≤ 40) (hb : lb.length ≤ 40) (m1 m2 : Bool) (h1 : m1 = true ↔ mayP a0 a1 la) (h2 : m2 = true ↔ mayP b0 b1 lb) :
  Ev (fun k => hello_Agree.f k a0 a1 (la.map conv) b0 b1 (lb.map conv)) (agreeR m1 m2 a0 a1 la b0 b1 lb) := by
 have hlen : (bothL (la.map conv) (lb.map conv)).length * 24 ≤ 140737488355328 := by
  have := bothL_len _ (la.map conv) (lb.map conv) (Nat.le_refl _)
  simp only [List.length_map] at this
  omega
 unfold hello_Agree.f agreeR
 refine Ev.bind (helloMay_is a0 a1 la ha m1 h1) ?_
 cases m1
 ·simp only [Bool.false_eq_true, if_false]; exact Ev.now _
 ·simp only [if_true]
  refine Ev.bind (helloMay_is b0 b1 lb hb m2 h2) ?_
  cases m2
  ·simp only [Bool.false_eq_true, if_false]; exact Ev.now _
  ·simp only [if_true, if_pos hlen]
   by_cases hv : mn a1 b1 < mx a0 b0
   ·simp only [if_pos hv]; exact Ev.now _
   ·simp only [if_neg hv]; exact Ev.now _
section
variable {a0 a1 : Int} {la : List S58} {b0 b1 : Int} {lb : List S58} {v : Int} {acc : List S58} {r : Int × List S58 × Bool} {i : Nat}
end
end Go.Proofs.Yteoibgpkimlahaa.P
end
section
namespace Go.Proofs.Yteoibgpkimlahaa.P
open Go.RowKit Go.Proofs.YteoibgpkimlahaaW.PrintWords Go.Proofs.YteoibgpkimlahaaW.PrintLast Go.Proofs.YteoibgpkimlahaaW.PrintMore
def eth5 : S58 := ⟨⟨#[101, 116, 104]⟩, 5⟩
def eth6 : S58 := ⟨⟨#[101, 116, 104]⟩, 6⟩
def eth7 : S58 := ⟨⟨#[101, 116, 104]⟩, 7⟩
theorem capAt_two (x y : S58) (h1 : nameOK x.f0 = true ∧ 1 ≤ x.f1 ∧ x.f1 ≤ 255) (h2 : nameOK y.f0 = true ∧ 1 ≤ y.f1 ∧ y.f1 ≤ 255) (h3 : ordS (conv x) (conv y) < 0) : ∀ j, j < [x, y].length → capAt [x, y] j
 | 0, _ => ⟨h1.1, h1.2.1, h1.2.2, fun h => absurd h (Nat.lt_irrefl 0)⟩
 | 1, _ => ⟨h2.1, h2.2.1, h2.2.2, fun _ => h3⟩
 | j + 2, h => by simp at h; omega
theorem alive32 : Ev (fun k => hatchwaylaw32_alive.f k) true := by
 have e5 : nameOK eth5.f0 = true := by decide +kernel
 have m1 : mayP 1 3 [eth5, eth6] := ⟨by decide, capAt_two _ _ ⟨e5, by decide, by decide⟩ ⟨e5, by decide, by decide⟩ (by decide +kernel)⟩
 have m2 : mayP 2 9 [eth5, eth7] := ⟨by decide, capAt_two _ _ ⟨e5, by decide, by decide⟩ ⟨e5, by decide, by decide⟩ (by decide +kernel)⟩
 have h := agree_is 1 3 [eth5, eth6] 2 9 [eth5, eth7] (by decide) (by decide) true true ⟨fun _ => m1, fun _ => rfl⟩ ⟨fun _ => m2, fun _ => rfl⟩
 have hb : bothL ([eth5, eth6].map conv) ([eth5, eth7].map conv) = [conv eth5] := by
  simp only [List.map_cons, List.map_nil]
  rw [bothL_cons, if_pos (show ordS (conv eth5) (conv eth5) = 0 by decide +kernel), bothL_cons, if_neg (show ¬ ordS (conv eth6) (conv eth7) = 0 by decide +kernel), if_pos (show ordS (conv eth6) (conv eth7) < 0 by decide +kernel), bothL_nil1]
 have hr : agreeR true true 1 3 [eth5, eth6] 2 9 [eth5, eth7] = (3, [conv eth5], 0) := by
  unfold agreeR
  rw [hb]
  rfl
 rw [hr] at h
 unfold hatchwaylaw32_alive.f
 refine Ev.bind h ?_
 have ho : hello_Offset.f 5 3 [conv eth5] (⟨#[101, 116, 104]⟩ : ByteArray) = some (16, true) := by decide +kernel
 refine Ev.bind (Ev.of (fun k => hello_Offset.mono _ _ _ k) ho) ?_
 exact Ev.congr (fun k => by rfl) (Ev.now true)
end Go.Proofs.Yteoibgpkimlahaa.P
end
