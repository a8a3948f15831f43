/- What two agree on is the same whichever is asked first, and it is the document's. (part 18 of 19) -/
import Derived.Test.YteoibgpkimlahaaB15
import Derived.Test.YteoibgpkimlahaaB9
import Derived.Test.YteoibgpkimlahaaB6
import Derived.Test.YteoibgpkimlahaaB8
import Derived.Test.YteoibgpkimlahaaB7
import Derived.Test.YteoibgpkimlahaaB17
section
namespace Go.Proofs.Yteoibgpkimlahaa.P
open Go.RowKit Go.Proofs.YteoibgpkimlahaaW.PrintWords Go.Proofs.YteoibgpkimlahaaW.PrintLast Go.Proofs.YteoibgpkimlahaaW.PrintMore
open Lib (compareBytes)
theorem cmp_self : ∀ a : List UInt8, compareBytes a a = 0
 | [] => rfl
 | x :: a => by rw [compareBytes, if_neg (by simp), if_neg (by simp)]; exact cmp_self a
theorem cmp_zero : ∀ a b : List UInt8, compareBytes a b = 0 → a = b
 | [], [], _ => rfl
 | [], _ :: _, h => by simp [compareBytes] at h
 | _ :: _, [], h => by simp [compareBytes] at h
 | x :: a, y :: b, h => by
  rw [compareBytes] at h
  split at h
  ·cases h
  ·split at h
   ·cases h
   ·rename_i h1 h2
    have : x = y := by
     rw [← UInt8.toNat_inj]
     rw [UInt8.lt_iff_toNat_lt] at h1 h2
     omega
    rw [this, cmp_zero a b h]
theorem cmp_neg : ∀ a b : List UInt8, compareBytes b a = - compareBytes a b
 | [], [] => rfl
 | [], _ :: _ => rfl
 | _ :: _, [] => rfl
 | x :: a, y :: b => by
  rw [compareBytes, compareBytes]
  by_cases h1 : x < y
  ·have h2 : ¬ y < x := by rw [UInt8.lt_iff_toNat_lt] at *; omega
   rw [if_neg h2, if_pos h1, if_pos h1]; rfl
  ·by_cases h2 : y < x
   ·rw [if_pos h2, if_neg h1, if_pos h2]; try rfl
   ·rw [if_neg h2, if_neg h1, if_neg h1, if_neg h2]; exact cmp_neg a b
theorem cmp_trans : ∀ a b c : List UInt8, compareBytes a b < 0 → compareBytes b c < 0 → compareBytes a c < 0
 | [], [], c, h, _ => by simp [compareBytes] at h
 | [], _ :: _, [], _, h => by simp [compareBytes] at h
 | [], _ :: _, _ :: _, _, _ => by simp [compareBytes]
 | _ :: _, [], _, h, _ => by simp [compareBytes] at h
 | _ :: _, _ :: _, [], _, h => by simp [compareBytes] at h
 | x :: a, y :: b, z :: c, h, k => by
  rw [compareBytes] at h k ⊢
  simp only [UInt8.lt_iff_toNat_lt] at h k ⊢
  by_cases h1 : x.toNat < y.toNat
  ·by_cases k1 : y.toNat < z.toNat
   ·rw [if_pos (by omega)]; omega
   ·by_cases k2 : z.toNat < y.toNat
    ·rw [if_neg k1, if_pos k2] at k; omega
    ·rw [if_pos (by omega)]; omega
  ·by_cases h2 : y.toNat < x.toNat
   ·rw [if_neg h1, if_pos h2] at h; omega
   ·rw [if_neg h1, if_neg h2] at h
    by_cases k1 : y.toNat < z.toNat
    ·rw [if_pos (by omega)]; omega
    ·by_cases k2 : z.toNat < y.toNat
     ·rw [if_neg k1, if_pos k2] at k; omega
     ·rw [if_neg k1, if_neg k2] at k
      rw [if_neg (by omega), if_neg (by omega)]
      exact cmp_trans a b c h k
theorem less_cmp : ∀ a b : List UInt8, Op.bytesLess a b = decide (compareBytes a b < 0)
 | [], [] => rfl
 | [], _ :: _ => rfl
 | _ :: _, [] => rfl
 | x :: a, y :: b => by
  rw [Op.bytesLess, compareBytes, less_cmp a b]
  by_cases h1 : x < y
  ·rw [if_pos h1]; simp [h1]
  ·rw [if_neg h1]
   by_cases h2 : y < x
   ·have : ¬ x = y := by rintro rfl; exact h1 h2
    rw [if_pos h2]; simp [h1, this]
   ·have : x = y := by
     rw [← UInt8.toNat_inj]
     rw [UInt8.lt_iff_toNat_lt] at h1 h2
     omega
    rw [if_neg h2]; simp [this]
theorem S104.ext {x y : S104} (h0 : x.f0 = y.f0) (h1 : x.f1 = y.f1) : x = y := by cases x; cases y; simp_all
theorem ba_ext {a b : ByteArray} (h : a.data.toList = b.data.toList) : a = b := toList_inj (by rw [ByteArray.toList_eq, ByteArray.toList_eq, h])
theorem ordS_zero {x y : S104} : ordS x y = 0 ↔ x = y := by
 constructor
 ·intro h
  unfold ordS at h
  by_cases h0 : compareBytes x.f0.data.toList y.f0.data.toList = 0
  ·rw [if_pos h0] at h
   refine S104.ext (ba_ext (cmp_zero _ _ h0)) ?_
   split at h
   ·cases h
   ·split at h
    ·cases h
    ·omega
  ·rw [if_neg h0] at h; exact absurd h h0
 ·rintro rfl
  unfold ordS
  rw [if_pos (cmp_self _), if_neg (by omega), if_neg (by omega)]
theorem ordS_neg (x y : S104) : ordS y x = - ordS x y := by
 unfold ordS
 rw [cmp_neg x.f0.data.toList y.f0.data.toList]
 by_cases h0 : compareBytes x.f0.data.toList y.f0.data.toList = 0
 ·rw [if_pos (by omega), if_pos h0]
  by_cases h1 : x.f1 < y.f1
  ·rw [if_neg (by omega), if_pos h1, if_pos h1]; rfl
  ·by_cases h2 : y.f1 < x.f1
   ·rw [if_pos h2, if_neg h1, if_pos h2]; try rfl
   ·rw [if_neg h2, if_neg h1, if_neg h1, if_neg h2]; rfl
 ·rw [if_neg (by omega), if_neg h0]
theorem ordS_trans {x y z : S104} (h : ordS x y < 0) (k : ordS y z < 0) : ordS x z < 0 := by
 unfold ordS at h k ⊢
 by_cases h0 : compareBytes x.f0.data.toList y.f0.data.toList = 0
 ·have e := cmp_zero _ _ h0
  rw [if_pos h0] at h
  rw [e]
  by_cases k0 : compareBytes y.f0.data.toList z.f0.data.toList = 0
  ·rw [if_pos k0] at k ⊢
   split at h
   ·split at k
    ·rw [if_pos (by omega)]; omega
    ·split at k <;> omega
   ·split at h <;> omega
  ·rw [if_neg k0] at k ⊢; exact k
 ·rw [if_neg h0] at h
  by_cases k0 : compareBytes y.f0.data.toList z.f0.data.toList = 0
  ·rw [← cmp_zero _ _ k0, if_neg h0]; exact h
  ·rw [if_neg k0] at k
   have := cmp_trans _ _ _ h k
   rw [if_neg (by omega)]; exact this
def SortS (l : List S104) : Prop := l.Pairwise fun x y => ordS x y < 0
theorem bothL_cons (x : S104) (xs : List S104) (y : S104) (ys : List S104) : bothL (x :: xs) (y :: ys) = if ordS x y = 0 then x :: bothL xs ys else if ordS x y < 0 then bothL xs (y :: ys) else bothL (x :: xs) ys := by rw [bothL]
theorem bothL_nil1 (ys : List S104) : bothL [] ys = [] := by rw [bothL]; rintro _ _ _ _ h; cases h
theorem bothL_nil2 (xs : List S104) : bothL xs [] = [] := by rw [bothL]; rintro _ _ _ _ _ h; cases h
theorem bothL_symm (n : Nat) : ∀ xs ys : List S104, xs.length + ys.length ≤ n → bothL xs ys = bothL ys xs := by
 induction n with
 | zero =>
  intro xs ys h
  have h1 : xs = [] := List.eq_nil_of_length_eq_zero (by omega)
  have h2 : ys = [] := List.eq_nil_of_length_eq_zero (by omega)
  subst h1; subst h2; rfl
 | succ n ih =>
  intro xs ys h
  cases xs with
  | nil => rw [bothL_nil1, bothL_nil2]
  | cons x xs =>
   cases ys with
   | nil => rw [bothL_nil1, bothL_nil2]
   | cons y ys =>
    simp only [List.length_cons] at h
    rw [bothL_cons, bothL_cons, ordS_neg x y]
    by_cases h0 : ordS x y = 0
    ·rw [if_pos h0, if_pos (show - ordS x y = 0 by omega), ordS_zero.1 h0, ih xs ys (by omega)]
    ·rw [if_neg h0, if_neg (show ¬ - ordS x y = 0 by omega)]
     by_cases h1 : ordS x y < 0
     ·rw [if_pos h1, if_neg (show ¬ - ordS x y < 0 by omega), ih xs (y :: ys) (by simp; omega)]
     ·rw [if_neg h1, if_pos (show - ordS x y < 0 by omega), ih (x :: xs) ys (by simp; omega)]
def hasS (ys : List S104) (x : S104) : Bool := ys.any fun y => decide (ordS x y = 0)
theorem hasS_false {ys : List S104} {x : S104} (h : ∀ y ∈ ys, ordS x y ≠ 0) : hasS ys x = false := by
 unfold hasS
 rw [List.any_eq_false]
 intro y hy
 simpa using h y hy
theorem hasS_cons (y : S104) (ys : List S104) (x : S104) : hasS (y :: ys) x = (decide (ordS x y = 0) || hasS ys x) := rfl
theorem bothL_filter (n : Nat) : ∀ xs ys : List S104, xs.length + ys.length ≤ n → SortS xs → SortS ys → bothL xs ys = xs.filter (hasS ys) := by
 induction n with
 | zero =>
  intro xs ys h _ _
  have h1 : xs = [] := List.eq_nil_of_length_eq_zero (by omega)
  subst h1
  rw [bothL_nil1]; rfl
 | succ n ih =>
  intro xs ys h hx hy
  cases xs with
  | nil => rw [bothL_nil1]; rfl
  | cons x xs =>
   cases ys with
   | nil =>
    rw [bothL_nil2]
    symm
    rw [List.filter_eq_nil_iff]
    intro z _
    simp [hasS]
   | cons y ys =>
    simp only [List.length_cons] at h
    obtain ⟨hx1, hx2⟩ := List.pairwise_cons.1 hx
    obtain ⟨hy1, hy2⟩ := List.pairwise_cons.1 hy
    rw [bothL_cons]
    by_cases h0 : ordS x y = 0
    ·have e := ordS_zero.1 h0
     subst e
     rw [if_pos h0, ih xs ys (by omega) hx2 hy2, List.filter_cons_of_pos (by simp [hasS_cons, h0])]
     congr 1
     refine List.filter_congr fun z hz => ?_
     rw [hasS_cons]
     have : ordS z x ≠ 0 := by have := hx1 z hz; rw [ordS_neg x z]; omega
     simp [this]
    ·rw [if_neg h0]
     by_cases h1 : ordS x y < 0
     ·rw [if_pos h1, ih xs (y :: ys) (by simp; omega) hx2 hy, List.filter_cons_of_neg]
      rw [hasS_false]
      ·simp
      ·intro z hz
       rcases List.mem_cons.1 hz with rfl | hz
       ·exact h0
       ·have := ordS_trans h1 (hy1 z hz); omega
     ·rw [if_neg h1, ih (x :: xs) ys (by simp; omega) hx hy2]
      refine List.filter_congr fun z hz => ?_
      rw [hasS_cons]
      have hyx : ordS y x < 0 := by rw [ordS_neg x y]; omega
      have : ordS z y ≠ 0 := by
       rw [ordS_neg y z]
       rcases List.mem_cons.1 hz with rfl | hz
       ·omega
       ·have := ordS_trans hyx (hx1 z hz); omega
      simp [this]
def lastsL : List S104 → List S104
 | [] => []
 | x :: r => if r.any (fun y => y.f0.toList == x.f0.toList) then lastsL r else x :: lastsL r
theorem addCap_snoc (acc : List S104) (p z : S104) : addCap (acc ++ [p]) z = if p.f0.toList = z.f0.toList then acc ++ [z] else acc ++ [p] ++ [z] := by
 unfold addCap
 have h1 : ((acc ++ [p]).length : Int) - 1 = acc.length := by simp
 have h2 : rd_T104 (acc ++ [p]) (acc.length : Int) = p := by simp [rd_T104]
 have h3 : (acc ++ [p]).length - 1 = acc.length := by simp
 rw [h1, h2, h3]
 by_cases h : p.f0.toList = z.f0.toList
 ·rw [if_pos ⟨by omega, h⟩, if_pos h]
  rw [List.set_append_right _ _ (Nat.le_refl _)]
  simp
 ·rw [if_neg (fun hh => h hh.2), if_neg h]
theorem foldl_addCap : ∀ (zs : List S104) (acc : List S104) (p : S104), SortS (p :: zs) → zs.foldl addCap (acc ++ [p]) = acc ++ lastsL (p :: zs)
 | [], acc, p, _ => by simp [lastsL]
 | z :: r, acc, p, hs => by
  obtain ⟨h1, h2⟩ := List.pairwise_cons.1 hs
  obtain ⟨h3, h4⟩ := List.pairwise_cons.1 h2
  rw [List.foldl_cons, addCap_snoc]
  by_cases h : p.f0.toList = z.f0.toList
  ·rw [if_pos h, foldl_addCap r acc z h2]
   congr 1
   conv => rhs; rw [lastsL]
   rw [if_pos (by simp [h])]
  ·rw [if_neg h, foldl_addCap r (acc ++ [p]) z h2, List.append_assoc]
   congr 1
   conv => rhs; rw [lastsL]
   rw [if_neg, List.singleton_append]
   rw [Bool.not_eq_true, List.any_eq_false]
   have hpz : compareBytes p.f0.data.toList z.f0.data.toList < 0 := by
    have hne : compareBytes p.f0.data.toList z.f0.data.toList ≠ 0 := fun e => h (by rw [ByteArray.toList_eq, ByteArray.toList_eq, cmp_zero _ _ e])
    have := h1 z List.mem_cons_self
    unfold ordS at this
    rwa [if_neg hne] at this
   intro y hy he
   rw [beq_iff_eq, ByteArray.toList_eq, ByteArray.toList_eq] at he
   rcases List.mem_cons.1 hy with rfl | hy
   ·rw [he, cmp_self] at hpz; omega
   ·have hzy := h3 y hy
    unfold ordS at hzy
    rw [he, cmp_neg p.f0.data.toList z.f0.data.toList] at hzy
    rw [if_neg (by omega)] at hzy
    omega
theorem dealL_lasts (zs : List S104) (h : SortS zs) : dealL zs = lastsL zs := by
 cases zs with
 | nil => rfl
 | cons z r =>
  have e : addCap [] z = [z] := by simp [addCap]
  unfold dealL
  rw [List.foldl_cons, e]
  have := foldl_addCap r [] z h
  simpa using this
def sharedL (ys : List S104) : List S104 → List S104
 | [] => []
 | x :: r => if hasS ys x && !(r.any fun y => y.f0.toList == x.f0.toList && hasS ys y) then x :: sharedL ys r else sharedL ys r
theorem lasts_filter (ys : List S104) : ∀ xs : List S104, lastsL (xs.filter (hasS ys)) = sharedL ys xs
 | [] => rfl
 | x :: r => by
  rw [sharedL]
  cases hx : hasS ys x
  ·rw [List.filter_cons_of_neg (by simp [hx])]
   simp only [Bool.false_and, Bool.false_eq_true, if_false]
   exact lasts_filter ys r
  ·rw [List.filter_cons_of_pos hx, lastsL, lasts_filter ys r]
   have e : (r.filter (hasS ys)).any (fun y => y.f0.toList == x.f0.toList) = r.any fun y => y.f0.toList == x.f0.toList && hasS ys y := by
    rw [List.any_filter]
    congr 1
    funext y
    exact Bool.and_comm _ _
   rw [e]
   cases r.any fun y => y.f0.toList == x.f0.toList && hasS ys y <;> rfl
theorem deal_shared (xs ys : List S104) (hx : SortS xs) (hy : SortS ys) : dealL (bothL xs ys) = sharedL ys xs := by
 rw [bothL_filter _ xs ys (Nat.le_refl _) hx hy, dealL_lasts _ (List.Pairwise.filter _ hx), lasts_filter]
end Go.Proofs.Yteoibgpkimlahaa.P
end
section
namespace Go.Proofs.Yteoibgpkimlahaa.P
open Go.RowKit Go.Proofs.YteoibgpkimlahaaW.PrintWords Go.Proofs.YteoibgpkimlahaaW.PrintLast Go.Proofs.YteoibgpkimlahaaW.PrintMore
open Lib (compareBytes)
theorem wr1 (i : Nat) (h : i < 4611686018427387904) : wrap64 ((i : Int) + 1) = ((i + 1 : Nat) : Int) := by unfold wrap64; omega
theorem wr0 (i : Nat) (h : i < 4611686018427387904) (h0 : 0 < i) : wrap64 ((i : Int) - 1) = ((i - 1 : Nat) : Int) := by unfold wrap64; omega
def conv (c : S58) : S104 := ⟨c.f0, c.f1⟩
def deconv (c : S104) : S58 := ⟨c.f0, c.f1⟩
theorem deconv_conv (c : S58) : deconv (conv c) = c := by cases c; rfl
theorem rd58_get (l : List S58) (i : Nat) (h : i < l.length) : rd_T58 l (i : Int) = l[i] := by simp [rd_T58, List.getD, h]
theorem rd104_get (l : List S104) (i : Nat) (h : i < l.length) : rd_T104 l (i : Int) = l[i] := by simp [rd_T104, List.getD, h]
theorem rd_conv (l : List S58) (i : Nat) (h : i < l.length) : rd_T104 (l.map conv) (i : Int) = conv (rd_T58 l (i : Int)) := by
 rw [rd58_get l i h, rd104_get _ i (by simpa using h)]
 simp
theorem great_is (a0 a1 : Int) (l : List S58) : ∃ b, Ev (fun k => hatchwaylaw32_great.f k a0 a1 l) b ∧ (b = false → l.length ≤ 40 ∧ ∀ c ∈ l, c.f0.size ≤ 100) := by
 by_cases hl : l.length ≤ 40
 ·have loop : ∀ m i : Nat, i + m = l.length → ∃ b, Ev (fun k => hatchwaylaw32_great.l0 k (i : Int) a0 a1 l) b ∧ (b = false → ∀ c ∈ l.drop i, c.f0.size ≤ 100) := by
   intro m
   induction m with
   | zero =>
    intro i hi
    refine ⟨false, Ev.step (f := fun _ => some false) (fun k => by rw [hatchwaylaw32_great.l0, if_neg (by omega)]) (Ev.now _), fun _ c hc => ?_⟩
    rw [List.drop_eq_nil_of_le (by omega)] at hc
    cases hc
   | succ m ih =>
    intro i hi
    by_cases hs : ((rd_T58 l (i : Int)).f0.size : Int) > 100
    ·exact ⟨true, Ev.step (f := fun _ => some true) (fun k => by rw [hatchwaylaw32_great.l0, if_pos (by omega), if_pos (by omega), if_pos hs]) (Ev.now _), fun h => by cases h⟩
    ·obtain ⟨b, h1, h2⟩ := ih (i + 1) (by omega)
     refine ⟨b, Ev.step (fun k => by rw [hatchwaylaw32_great.l0, if_pos (by omega), if_pos (by omega), if_neg hs, wr1 i (by omega)]) h1, fun hb c hc => ?_⟩
     rw [List.drop_eq_getElem_cons (by omega)] at hc
     rcases List.mem_cons.1 hc with rfl | hc
     ·rw [rd58_get l i (by omega)] at hs; omega
     ·exact h2 hb c hc
  obtain ⟨b, h1, h2⟩ := loop l.length 0 (by omega)
  refine ⟨b, Ev.congr (fun k => by rw [hatchwaylaw32_great.f, if_neg (by omega)]; rfl) h1, fun hb => ⟨hl, fun c hc => h2 hb c (by simpa using hc)⟩⟩
 ·exact ⟨true, Ev.congr (f := fun _ => some true) (fun k => by rw [hatchwaylaw32_great.f, if_pos (by omega)]) (Ev.now _), fun h => by cases h⟩
theorem caps_is (l : List S58) (hl : l.length ≤ 40) : Ev (fun k => hatchwaylaw32_caps.f k l) (l.map conv) := by
 have loop : ∀ m i : Nat, i + m = l.length → Ev (fun k => hatchwaylaw32_caps.l0 k l ((l.take i).map conv) (i : Int)) (l.map conv) := by
  intro m
  induction m with
  | zero =>
   intro i hi
   have e : l.take i = l := List.take_of_length_le (by omega)
   rw [e]
   exact Ev.step (f := fun _ => some (l.map conv)) (fun k => by rw [hatchwaylaw32_caps.l0, if_neg (by omega)]) (Ev.now _)
  | succ m ih =>
   intro i hi
   refine Ev.step (fun k => ?_) (ih (i + 1) (by omega))
   rw [hatchwaylaw32_caps.l0, if_pos (by omega), if_pos (by omega), if_pos (by simp; omega), wr1 i (by omega)]
   congr 1
   have e : l.take (i + 1) = l.take i ++ [l[i]] := by rw [List.take_add_one, List.getElem?_eq_getElem (by omega)]; rfl
   rw [rd58_get l i (by omega), e, List.map_append]
   rfl
 exact loop l.length 0 (by omega)
theorem plain_is (l : List S104) (hl : l.length ≤ 40) : Ev (fun k => hatchwaylaw32_plain.f k l) (l.map deconv) := by
 have loop : ∀ m i : Nat, i + m = l.length → Ev (fun k => hatchwaylaw32_plain.l0 k l ((l.take i).map deconv) (i : Int)) (l.map deconv) := by
  intro m
  induction m with
  | zero =>
   intro i hi
   have e : l.take i = l := List.take_of_length_le (by omega)
   rw [e]
   exact Ev.step (f := fun _ => some (l.map deconv)) (fun k => by rw [hatchwaylaw32_plain.l0, if_neg (by omega)]) (Ev.now _)
  | succ m ih =>
   intro i hi
   refine Ev.step (fun k => ?_) (ih (i + 1) (by omega))
   rw [hatchwaylaw32_plain.l0, if_pos (by omega), if_pos (by omega), if_pos (by simp; omega), wr1 i (by omega)]
   congr 1
   have e : l.take (i + 1) = l.take i ++ [l[i]] := by rw [List.take_add_one, List.getElem?_eq_getElem (by omega)]; rfl
   rw [rd104_get l i (by omega), e, List.map_append]
   rfl
 exact loop l.length 0 (by omega)
theorem same_refl (l : List S58) (hl : l.length ≤ 1000) : Ev (fun k => hatchwayref32_Same.f k l l) true := by
 have loop : ∀ m i : Nat, i + m = l.length → Ev (fun k => hatchwayref32_Same.l0 k l l (i : Int)) true := by
  intro m
  induction m with
  | zero =>
   intro i hi
   exact Ev.step (f := fun _ => some true) (fun k => by rw [hatchwayref32_Same.l0, if_neg (by omega)]) (Ev.now _)
  | succ m ih =>
   intro i hi
   refine Ev.step (fun k => ?_) (ih (i + 1) (by omega))
   rw [hatchwayref32_Same.l0, if_pos (by omega), if_pos (by omega), if_pos (by omega), if_neg (by simp), wr1 i (by omega)]
 exact Ev.congr (fun k => by rw [hatchwayref32_Same.f, if_pos rfl]; rfl) (loop l.length 0 (by omega))
theorem ref13_is (s : ByteArray) (hs : s.size ≤ 1000) : Ev (fun k => hatchwayref13_May.f k s) (nameOK s) := by
 have body : ∀ (i : Nat) (k : Nat), i < s.size → hatchwayref13_May.l0 (k + 1) s (i : Int) = if okB (bt s (i : Nat)) = true then hatchwayref13_May.l0 k s ((i + 1 : Nat) : Int) else some false := by
  intro i k hi
  rw [hatchwayref13_May.l0, if_pos (by omega), if_pos (by omega), wr1 i (by omega)]
  generalize bt s (i : Nat) = b
  unfold okB
  by_cases h1 : b ≥ 97 <;> by_cases h2 : b ≤ 122 <;> by_cases h3 : b ≥ 48 <;> by_cases h4 : b ≤ 57 <;> by_cases h5 : b = 95 <;> simp [h1, h2, h3, h4, h5] <;> first | omega | (intro h; omega) | skip
  all_goals (rw [if_neg]; omega)
 have loop : ∀ m i : Nat, i + m = s.size → ∀ b : Bool, (b = true ↔ (1 ≤ s.size ∧ s.size ≤ 12) ∧ ∀ j, i ≤ j → j < s.size → okB (bt s (j : Nat)) = true) → Ev (fun k => hatchwayref13_May.l0 k s (i : Int)) b := by
  intro m
  induction m with
  | zero =>
   intro i hi b hb
   refine Ev.step (f := fun _ => some b) (fun k => ?_) (Ev.now _)
   rw [hatchwayref13_May.l0, if_neg (by omega)]
   by_cases h1 : (s.size : Int) ≥ 1
   ·rw [if_pos h1]
    congr 1
    rw [Bool.eq_iff_iff, hb, decide_eq_true_eq]
    exact ⟨fun h => ⟨⟨by omega, by omega⟩, fun j h2 h3 => by omega⟩, fun h => by omega⟩
   ·rw [if_neg h1]
    cases b
    ·rfl
    ·have := hb.1 rfl; omega
  | succ m ih =>
   intro i hi b hb
   cases hok : okB (bt s (i : Nat))
   ·obtain rfl : b = false := by
     cases b
     ·rfl
     ·have := (hb.1 rfl).2 i (Nat.le_refl _) (by omega); rw [hok] at this; cases this
    exact Ev.step (f := fun _ => some false) (fun k => by rw [body i k (by omega), hok]; rfl) (Ev.now _)
   ·refine Ev.step (fun k => by rw [body i k (by omega), hok]; rfl) (ih (i + 1) (by omega) b ?_)
    rw [hb]
    refine and_congr_right fun _ => ⟨fun h j h1 h2 => h j (by omega) h2, fun h j h1 h2 => ?_⟩
    rcases Nat.eq_or_lt_of_le h1 with rfl | h3
    ·exact hok
    ·exact h j h3 h2
 refine loop s.size 0 (by omega) _ ?_
 unfold nameOK
 rw [Bool.and_eq_true, decide_eq_true_eq, decide_eq_true_eq]
 exact and_congr_right fun _ => ⟨fun h j _ hj => h j hj, fun h j hj => h j (by omega) hj⟩
def capAt (l : List S58) (j : Nat) : Prop := nameOK (rd_T58 l (j : Nat)).f0 = true ∧ 1 ≤ (rd_T58 l (j : Nat)).f1 ∧ (rd_T58 l (j : Nat)).f1 ≤ 255 ∧ (0 < j → ordS (conv (rd_T58 l ((j - 1 : Nat) : Int))) (conv (rd_T58 l (j : Nat))) < 0)
def mayP (a0 a1 : Int) (l : List S58) : Prop := (1 ≤ a0 ∧ a0 ≤ a1 ∧ a1 ≤ 65535 ∧ l.length ≤ 16) ∧ ∀ j, j < l.length → capAt l j
theorem ord_less (x y : S58) : ordS (conv x) (conv y) < 0 ↔ (Op.bytesLess x.f0.toList y.f0.toList = true ∨ (x.f0.toList = y.f0.toList ∧ x.f1 < y.f1)) := by
 rw [ByteArray.toList_eq, ByteArray.toList_eq, less_cmp, decide_eq_true_eq]
 unfold ordS conv
 simp only
 by_cases h : compareBytes x.f0.data.toList y.f0.data.toList = 0
 ·rw [if_pos h, h]
  have e := cmp_zero _ _ h
  by_cases h1 : x.f1 < y.f1
  ·rw [if_pos h1]; exact ⟨fun _ => .inr ⟨e, h1⟩, fun _ => by omega⟩
  ·rw [if_neg h1]
   by_cases h2 : y.f1 < x.f1
   ·rw [if_pos h2]; exact ⟨fun h => by omega, fun h => by rcases h with h | h <;> omega⟩
   ·rw [if_neg h2]; exact ⟨fun h => by omega, fun h => by rcases h with h | h <;> omega⟩
 ·rw [if_neg h]
  refine ⟨fun h => .inl h, fun h' => ?_⟩
  rcases h' with h' | ⟨h', _⟩
  ·exact h'
  ·rw [h', cmp_self] at h; exact absurd rfl h
theorem all_step {p : Nat → Prop} {i n : Nat} (_hi : i < n) (hp : p i) : (∀ j, i ≤ j → j < n → p j) ↔ (∀ j, i + 1 ≤ j → j < n → p j) := by
 refine ⟨fun h j h1 h2 => h j (by omega) h2, fun h j h1 h2 => ?_⟩
 rcases Nat.eq_or_lt_of_le h1 with rfl | h3
 ·exact hp
 ·exact h j h3 h2
theorem refMay_is (a0 a1 : Int) (l : List S58) (hl : l.length ≤ 40) (hn : ∀ c ∈ l, c.f0.size ≤ 100) (b : Bool) (hb : b = true ↔ mayP a0 a1 l) : Ev (fun k => hatchwayref32_May.f k a0 a1 l) b := by
 have j2 : ∀ (i : Nat) (x : Bool) (b : Bool), i < l.length → (x = true → b = false) → (x = false → (0 < i → ordS (conv (rd_T58 l ((i - 1 : Nat) : Int))) (conv (rd_T58 l (i : Nat))) < 0) → Ev (fun k => hatchwayref32_May.l0 k ((i + 1 : Nat) : Int) a0 a1 l) b) →
   (x = false → ¬ (0 < i → ordS (conv (rd_T58 l ((i - 1 : Nat) : Int))) (conv (rd_T58 l (i : Nat))) < 0) → b = false) →
   Ev (fun k => hatchwayref32_May.j2 k (i : Int) x a0 a1 l (rd_T58 l (i : Nat)).f0 (rd_T58 l (i : Nat)).f1) b := by
  intro i x b hi h1 h2 h3
  cases x
  ·by_cases h0 : 0 < i
   ·by_cases ho : ordS (conv (rd_T58 l ((i - 1 : Nat) : Int))) (conv (rd_T58 l (i : Nat))) < 0
    ·refine Ev.step (fun k => ?_) (h2 rfl (fun _ => ho))
     rw [hatchwayref32_May.j2, if_neg (by simp), if_pos (by omega), wr0 i (by omega) h0, if_pos (by omega), if_pos (by omega), wr1 i (by omega)]
     rcases (ord_less _ _).1 ho with hh | ⟨hh, hv⟩
     ·rw [if_pos hh]
     ·by_cases hc : Op.bytesLess (rd_T58 l ((i - 1 : Nat) : Int)).f0.toList (rd_T58 l (i : Nat)).f0.toList = true
      ·rw [if_pos hc]
      ·rw [if_neg hc, if_pos hh, if_pos hv]
    ·obtain rfl := h3 rfl (fun hh => ho (hh h0))
     refine Ev.step (f := fun _ => some false) (fun k => ?_) (Ev.now _)
     rw [hatchwayref32_May.j2, if_neg (by simp), if_pos (by omega), wr0 i (by omega) h0, if_pos (by omega), if_pos (by omega)]
     have := fun hh => ho ((ord_less _ _).2 hh)
     rw [if_neg (fun hc => this (.inl hc))]
     by_cases he : (rd_T58 l ((i - 1 : Nat) : Int)).f0.toList = (rd_T58 l (i : Nat)).f0.toList
     ·rw [if_pos he, if_neg (fun hv => this (.inr ⟨he, hv⟩))]
     ·rw [if_neg he]
   ·refine Ev.step (fun k => ?_) (h2 rfl (fun h => absurd h h0))
    rw [hatchwayref32_May.j2, if_neg (by simp), if_neg (by omega), wr1 i (by omega)]
  ·obtain rfl := h1 rfl
   exact Ev.step (f := fun _ => some false) (fun k => by rw [hatchwayref32_May.j2, if_pos rfl]) (Ev.now _)
 have loop : ∀ m i : Nat, i + m = l.length → ∀ b : Bool, (b = true ↔ ∀ j, i ≤ j → j < l.length → capAt l j) → Ev (fun k => hatchwayref32_May.l0 k (i : Int) a0 a1 l) b := by
  intro m
  induction m with
  | zero =>
   intro i hi b hb
   obtain rfl : b = true := hb.2 (fun j h1 h2 => by omega)
   exact Ev.step (f := fun _ => some true) (fun k => by rw [hatchwayref32_May.l0, if_neg (by omega)]) (Ev.now _)
  | succ m ih =>
   intro i hi b hb
   have hsz : (rd_T58 l (i : Int)).f0.size ≤ 1000 := by
    rw [rd58_get l i (by omega)]
    have := hn _ (List.getElem_mem (by omega : i < l.length))
    omega
   have go : ∀ x : Bool, (x = false ↔ nameOK (rd_T58 l (i : Int)).f0 = true ∧ 1 ≤ (rd_T58 l (i : Int)).f1 ∧ (rd_T58 l (i : Int)).f1 ≤ 255) → Ev (fun k => hatchwayref32_May.j2 k (i : Int) x a0 a1 l (rd_T58 l (i : Nat)).f0 (rd_T58 l (i : Nat)).f1) b := by
    intro x hx
    refine j2 i x b (by omega) (fun h => ?_) (fun h ho => ?_) (fun h ho => ?_)
    ·cases b
     ·rfl
     ·have := (hb.1 rfl) i (Nat.le_refl _) (by omega)
      have := hx.2 ⟨this.1, this.2.1, this.2.2.1⟩
      rw [this] at h; cases h
    ·have h1 := hx.1 h
     exact ih (i + 1) (by omega) b (hb.trans (all_step (by omega) ⟨h1.1, h1.2.1, h1.2.2, ho⟩))
    ·cases b
     ·rfl
     ·exact absurd ((hb.1 rfl) i (Nat.le_refl _) (by omega)).2.2.2 ho
   cases hok : nameOK (rd_T58 l (i : Int)).f0
   ·have h1 := ref13_is _ hsz
    rw [hok] at h1
    refine Ev.step (fun k => by rw [hatchwayref32_May.l0, if_pos (by omega), if_pos (by omega)]) (Ev.bind h1 ?_)
    exact go true ⟨fun h => (by cases h), fun h => (by rw [hok] at h; cases h.1)⟩
   ·have h1 := ref13_is _ hsz
    rw [hok] at h1
    refine Ev.step (fun k => by rw [hatchwayref32_May.l0, if_pos (by omega), if_pos (by omega)]) (Ev.bind h1 ?_)
    simp only [if_true]
    by_cases hv : (rd_T58 l (i : Int)).f1 < 1
    ·simp only [if_pos hv]
     exact go true ⟨fun h => (by cases h), fun h => (by omega)⟩
    ·simp only [if_neg hv]
     refine go _ ?_
     rw [decide_eq_false_iff_not]
     exact ⟨fun h => ⟨hok, by omega, by omega⟩, fun h => by omega⟩
 have j0 : ∀ x : Bool, (x = false ↔ 1 ≤ a0 ∧ a0 ≤ a1 ∧ a1 ≤ 65535 ∧ l.length ≤ 16) → Ev (fun k => hatchwayref32_May.j0 k x a0 a1 l) b := by
  intro x hx
  cases x
  ·refine Ev.step (fun k => by rw [hatchwayref32_May.j0, if_neg (by simp)]; rfl) (loop l.length 0 (by omega) b ?_)
   rw [hb]
   exact ⟨fun h j _ hj => h.2 j hj, fun h => ⟨hx.1 rfl, fun j hj => h j (by omega) hj⟩⟩
  ·obtain rfl : b = false := by
    cases b
    ·rfl
    ·have := hx.2 (hb.1 rfl).1; cases this
   exact Ev.step (f := fun _ => some false) (fun k => by rw [hatchwayref32_May.j0, if_pos rfl]) (Ev.now _)
 by_cases h1 : a0 < 1
 ·exact Ev.congr (fun k => by rw [hatchwayref32_May.f, if_pos h1]) (j0 true ⟨fun h => (by cases h), fun h => by omega⟩)
 ·by_cases h2 : a0 > a1
  ·exact Ev.congr (fun k => by rw [hatchwayref32_May.f, if_neg h1, if_pos h2]) (j0 true ⟨fun h => (by cases h), fun h => by omega⟩)
  ·by_cases h3 : a1 > 65535
   ·exact Ev.congr (fun k => by rw [hatchwayref32_May.f, if_neg h1, if_neg h2, if_pos h3]) (j0 true ⟨fun h => (by cases h), fun h => by omega⟩)
   ·exact Ev.congr (fun k => by rw [hatchwayref32_May.f, if_neg h1, if_neg h2, if_neg h3]) (j0 _ (by rw [decide_eq_false_iff_not]; omega))
theorem order_ev (x y : S104) : Ev (fun k => hello_order.f k x.f0 x.f1 y.f0 y.f1) (ordS x y) := Ev.of (fun k => hello_order.mono _ _ _ _ k) (order_ordS x y)
theorem helloMay_is (a0 a1 : Int) (l : List S58) (hl : l.length ≤ 40) (b : Bool) (hb : b = true ↔ mayP a0 a1 l) : Ev (fun k => hello_May.f k a0 a1 (l.map conv)) b := by
 have hlm : (l.map conv).length = l.length := by simp
 have fin : ∀ b : Bool, (b = true ↔ 1 ≤ a0 ∧ a0 ≤ a1 ∧ a1 ≤ 65535 ∧ l.length ≤ 16) → ∀ k : Nat, (if a0 ≥ 1 then (if a0 ≤ a1 then (if a1 ≤ 65535 then (some (decide ((((l.map conv).length : Nat) : Int) ≤ 16))) else (some false)) else (some false)) else (some false)) = some b := by
  intro b hb _
  rw [hlm]
  by_cases h1 : a0 ≥ 1
  ·by_cases h2 : a0 ≤ a1
   ·by_cases h3 : a1 ≤ 65535
    ·rw [if_pos h1, if_pos h2, if_pos h3]
     congr 1
     rw [Bool.eq_iff_iff, hb, decide_eq_true_eq]
     omega
    ·rw [if_pos h1, if_pos h2, if_neg h3]
     cases b
     ·rfl
     ·have := hb.1 rfl; omega
   ·rw [if_pos h1, if_neg h2]
    cases b
    ·rfl
    ·have := hb.1 rfl; omega
  ·rw [if_neg h1]
   cases b
   ·rfl
   ·have := hb.1 rfl; omega
 have loop : ∀ m i : Nat, i + m = l.length → ∀ b : Bool, (b = true ↔ (1 ≤ a0 ∧ a0 ≤ a1 ∧ a1 ≤ 65535 ∧ l.length ≤ 16) ∧ ∀ j, i ≤ j → j < l.length → capAt l j) → Ev (fun k => hello_May.l0 k (l.map conv) (((l.map conv).length : Nat) : Int) (i : Int) a0 a1 (l.map conv)) b := by
  intro m
  induction m with
  | zero =>
   intro i hi b hb
   refine Ev.step (f := fun _ => some b) (fun k => ?_) (Ev.now _)
   rw [hello_May.l0, if_neg (by rw [hlm]; omega)]
   exact fin b (by rw [hb]; exact ⟨fun h => h.1, fun h => ⟨h, fun j h1 h2 => by omega⟩⟩) 0
  | succ m ih =>
   intro i hi b hb
   have hr := rd_conv l i (by omega)
   have hne : ¬ capAt l i → b = false := fun h => by
    cases b
    ·rfl
    ·exact absurd ((hb.1 rfl).2 i (Nat.le_refl _) (by omega)) h
   have base : ∀ k, hello_May.l0 (k + 1) (l.map conv) (((l.map conv).length : Nat) : Int) (i : Int) a0 a1 (l.map conv) = _ := fun k => by rw [hello_May.l0, if_pos (by rw [hlm]; omega), if_pos (by omega), if_pos (by rw [hlm]; omega), hr]
   cases hok : nameOK (rd_T58 l (i : Int)).f0
   ·obtain rfl := hne (fun h => by rw [h.1] at hok; cases hok)
    refine Ev.step (f := fun _ => some false) (fun k => ?_) (Ev.now _)
    rw [base]
    simp [command_May.f, conv, hok]
   ·by_cases h1 : (rd_T58 l (i : Int)).f1 < 1
    ·obtain rfl := hne (fun h => by have := h.2.1; omega)
     refine Ev.step (f := fun _ => some false) (fun k => ?_) (Ev.now _)
     rw [base]
     simp [command_May.f, conv, hok, h1]
    ·by_cases h2 : (rd_T58 l (i : Int)).f1 > 255
     ·obtain rfl := hne (fun h => by have := h.2.2.1; omega)
      refine Ev.step (f := fun _ => some false) (fun k => ?_) (Ev.now _)
      rw [base]
      simp [command_May.f, conv, hok, h1, h2]
     ·by_cases h0 : 0 < i
      ·have hr0 := rd_conv l (i - 1) (by omega)
       by_cases ho : ordS (conv (rd_T58 l ((i - 1 : Nat) : Int))) (conv (rd_T58 l (i : Nat))) < 0
       ·have hcap : capAt l i := ⟨hok, by omega, by omega, fun _ => ho⟩
        refine Ev.step (f := fun k => (hello_order.f k (conv (rd_T58 l ((i - 1 : Nat) : Int))).f0 (conv (rd_T58 l ((i - 1 : Nat) : Int))).f1 (conv (rd_T58 l (i : Nat))).f0 (conv (rd_T58 l (i : Nat))).f1).bind fun t106 => if t106 ≥ 0 then some false else hello_May.l0 k (l.map conv) (((l.map conv).length : Nat) : Int) ((i + 1 : Nat) : Int) a0 a1 (l.map conv)) (fun k => ?_) ?_
        ·rw [base]
         simp only [command_May.f, Option.bind_some]
         rw [show nameOK (conv (rd_T58 l (i : Int))).f0 = true from hok, if_pos rfl, if_neg (show ¬ (conv (rd_T58 l (i : Int))).f1 < 1 from h1), if_neg (show ¬ (conv (rd_T58 l (i : Int))).f1 > 255 from h2), if_pos (by omega), wr0 i (by omega) h0, if_pos (by omega), if_pos (by rw [hlm]; omega), hr0, wr1 i (by omega)]
        ·refine Ev.bind (order_ev _ _) ?_
         simp only [if_neg (show ¬ ordS (conv (rd_T58 l ((i - 1 : Nat) : Int))) (conv (rd_T58 l (i : Nat))) ≥ 0 by omega)]
         exact ih (i + 1) (by omega) b (by rw [hb]; exact and_congr_right fun _ => all_step (by omega) hcap)
       ·obtain rfl := hne (fun h => ho (h.2.2.2 h0))
        refine Ev.step (f := fun k => (hello_order.f k (conv (rd_T58 l ((i - 1 : Nat) : Int))).f0 (conv (rd_T58 l ((i - 1 : Nat) : Int))).f1 (conv (rd_T58 l (i : Nat))).f0 (conv (rd_T58 l (i : Nat))).f1).bind fun t106 => if t106 ≥ 0 then some false else hello_May.l0 k (l.map conv) (((l.map conv).length : Nat) : Int) ((i + 1 : Nat) : Int) a0 a1 (l.map conv)) (fun k => ?_) ?_
        ·rw [base]
         simp only [command_May.f, Option.bind_some]
         rw [show nameOK (conv (rd_T58 l (i : Int))).f0 = true from hok, if_pos rfl, if_neg (show ¬ (conv (rd_T58 l (i : Int))).f1 < 1 from h1), if_neg (show ¬ (conv (rd_T58 l (i : Int))).f1 > 255 from h2), if_pos (by omega), wr0 i (by omega) h0, if_pos (by omega), if_pos (by rw [hlm]; omega), hr0, wr1 i (by omega)]
        ·refine Ev.bind (order_ev _ _) ?_
         simp only [if_pos (show ordS (conv (rd_T58 l ((i - 1 : Nat) : Int))) (conv (rd_T58 l (i : Nat))) ≥ 0 by omega)]
         exact Ev.now _
      ·have hcap : capAt l i := ⟨hok, by omega, by omega, fun h => absurd h h0⟩
       refine Ev.step (fun k => ?_) (ih (i + 1) (by omega) b (by rw [hb]; exact and_congr_right fun _ => all_step (by omega) hcap))
       rw [base]
       simp only [command_May.f, Option.bind_some]
       rw [show nameOK (conv (rd_T58 l (i : Int))).f0 = true from hok, if_pos rfl, if_neg (show ¬ (conv (rd_T58 l (i : Int))).f1 < 1 from h1), if_neg (show ¬ (conv (rd_T58 l (i : Int))).f1 > 255 from h2), if_neg (by omega), wr1 i (by omega)]
 refine Ev.congr (fun k => by rw [hello_May.f]; rfl) (loop l.length 0 (by omega) b ?_)
 rw [hb]
 exact ⟨fun h => ⟨h.1, fun j _ hj => h.2 j hj⟩, fun h => ⟨h.1, fun j hj => h.2 j (by omega) hj⟩⟩
theorem bothL_len (n : Nat) : ∀ xs ys : List S104, xs.length + ys.length ≤ n → (bothL xs ys).length ≤ xs.length := by
 induction n with
 | zero =>
  intro xs ys h
  have h1 : xs = [] := List.eq_nil_of_length_eq_zero (by omega)
  subst h1
  rw [bothL_nil1]; simp
 | succ n ih =>
  intro xs ys h
  cases xs with
  | nil => rw [bothL_nil1]; simp
  | cons x xs =>
   cases ys with
   | nil => rw [bothL_nil2]; simp
   | cons y ys =>
    simp only [List.length_cons] at h ⊢
    rw [bothL_cons]
    split
    ·have := ih xs ys (by omega); simp only [List.length_cons]; omega
    ·split
     ·have := ih xs (y :: ys) (by simp; omega); omega
     ·have := ih (x :: xs) ys (by simp; omega); simpa using this
def agreeR (m1 m2 : Bool) (a0 a1 : Int) (la : List S58) (b0 b1 : Int) (lb : List S58) : Int × List S104 × Int :=
 if m1 = true then (if m2 = true then (if mn a1 b1 < mx a0 b0 then (0, [], 7) else (mn a1 b1, dealL (bothL (la.map conv) (lb.map conv)), 0)) else (0, [], 1)) else (0, [], 1)
theorem agree_is (a0 a1 : Int) (la : List S58) (b0 b1 : Int) (lb : List S58) (ha : la.length ≤ 40) (hb : lb.length ≤ 40) (m1 m2 : Bool) (h1 : m1 = true ↔ mayP a0 a1 la) (h2 : m2 = true ↔ mayP b0 b1 lb) :
  Ev (fun k => hello_Agree.f k a0 a1 (la.map conv) b0 b1 (lb.map conv)) (agreeR m1 m2 a0 a1 la b0 b1 lb) := by
 have hlen : (bothL (la.map conv) (lb.map conv)).length * 24 ≤ 140737488355328 := by
  have := bothL_len _ (la.map conv) (lb.map conv) (Nat.le_refl _)
  simp only [List.length_map] at this
  omega
 unfold hello_Agree.f agreeR
 refine Ev.bind (helloMay_is a0 a1 la ha m1 h1) ?_
 cases m1
 ·simp only [Bool.false_eq_true, if_false]; exact Ev.now _
 ·simp only [if_true]
  refine Ev.bind (helloMay_is b0 b1 lb hb m2 h2) ?_
  cases m2
  ·simp only [Bool.false_eq_true, if_false]; exact Ev.now _
  ·simp only [if_true, if_pos hlen]
   by_cases hv : mn a1 b1 < mx a0 b0
   ·simp only [if_pos hv]; exact Ev.now _
   ·simp only [if_neg hv]; exact Ev.now _
def eqC (x y : S58) : Bool := y.f0.toList == x.f0.toList && (y.f1 == x.f1)
def sharedR (lb : List S58) : List S58 → List S58
 | [] => []
 | x :: r => if lb.any (eqC x) && !(r.any fun y => y.f0.toList == x.f0.toList && lb.any (eqC y)) then x :: sharedR lb r else sharedR lb r
theorem eqC_conv (x y : S58) : eqC x y = decide (ordS (conv x) (conv y) = 0) := by
 rw [Bool.eq_iff_iff, decide_eq_true_eq, ordS_zero]
 unfold eqC
 rw [Bool.and_eq_true, beq_iff_eq, beq_iff_eq]
 constructor
 ·rintro ⟨h1, h2⟩
  exact S104.ext (toList_inj h1.symm) h2.symm
 ·intro h
  have h1 : x.f0 = y.f0 := congrArg S104.f0 h
  have h2 : x.f1 = y.f1 := congrArg S104.f1 h
  exact ⟨by rw [h1], h2.symm⟩
theorem hasS_conv (lb : List S58) (x : S58) : hasS (lb.map conv) (conv x) = lb.any (eqC x) := by
 unfold hasS
 rw [List.any_map]
 congr 1
 funext y
 exact (eqC_conv x y).symm
theorem shared_conv (lb : List S58) : ∀ la : List S58, (sharedR lb la).map conv = sharedL (lb.map conv) (la.map conv)
 | [] => rfl
 | x :: r => by
  rw [sharedR, List.map_cons, sharedL, hasS_conv, List.any_map]
  have e : (r.any ((fun y => y.f0.toList == (conv x).f0.toList && hasS (lb.map conv) y) ∘ conv)) = r.any fun y => y.f0.toList == x.f0.toList && lb.any (eqC y) := by
   congr 1
   funext y
   show ((conv y).f0.toList == (conv x).f0.toList && hasS (lb.map conv) (conv y)) = _
   rw [hasS_conv]
   rfl
  rw [e, ← shared_conv lb r]
  split <;> rfl
theorem drop_any {α : Type} (l : List α) (p : α → Bool) (j : Nat) (h : j < l.length) : (l.drop j).any p = (p l[j] || (l.drop (j + 1)).any p) := by
 rw [List.drop_eq_getElem_cons h, List.any_cons]
section
variable {a0 a1 : Int} {la : List S58} {b0 b1 : Int} {lb : List S58} {v : Int} {acc : List S58} {r : Int × List S58 × Bool} {i : Nat}
theorem l2_is (hb : lb.length ≤ 40) (hi : i ≤ 40) (c : S58) : ∀ m j : Nat, j + m = lb.length → ∀ x11 x12 : Bool,
  Ev (fun k => hatchwayref32_Agree.l3 k (i : Int) (x11 || (lb.drop j).any (eqC c)) x12 ((i + 1 : Nat) : Int) a0 a1 la b0 b1 lb v acc c.f0 c.f1) r →
  Ev (fun k => hatchwayref32_Agree.l2 k (i : Int) x11 x12 (j : Int) a0 a1 la b0 b1 lb v acc c.f0 c.f1) r := by
 intro m
 induction m with
 | zero =>
  intro j hj x11 x12 h
  rw [List.drop_eq_nil_of_le (by omega)] at h
  simp only [List.any_nil, Bool.or_false] at h
  exact Ev.step (fun k => by rw [hatchwayref32_Agree.l2, if_neg (by omega), wr1 i (by omega)]) h
 | succ m ih =>
  intro j hj x11 x12 h
  rw [drop_any lb (eqC c) j (by omega)] at h
  cases x11
  ·rw [Bool.false_or] at h
   refine Ev.step (fun k => ?_) (ih (j + 1) (by omega) (eqC c lb[j]) x12 h)
   rw [hatchwayref32_Agree.l2, if_pos (by omega), if_neg (by simp), if_pos (by omega), wr1 j (by omega), rd58_get lb j (by omega)]
   rfl
  ·rw [Bool.true_or] at h
   refine Ev.step (fun k => ?_) (ih (j + 1) (by omega) true x12 (by rw [Bool.true_or]; exact h))
   rw [hatchwayref32_Agree.l2, if_pos (by omega), if_pos rfl, wr1 j (by omega)]
theorem l4_is (ha : la.length ≤ 40) (hb : lb.length ≤ 40) (c : S58) (x11 : Bool) (kk : Nat) (hk : kk < la.length) : ∀ m j : Nat, j + m = lb.length → ∀ x12 : Bool,
  Ev (fun k => hatchwayref32_Agree.l3 k (i : Int) x11 (x12 || (la[kk].f0.toList == c.f0.toList && (lb.drop j).any (eqC la[kk]))) ((kk + 1 : Nat) : Int) a0 a1 la b0 b1 lb v acc c.f0 c.f1) r →
  Ev (fun k => hatchwayref32_Agree.l4 k (i : Int) x11 x12 (kk : Int) (j : Int) a0 a1 la b0 b1 lb v acc c.f0 c.f1) r := by
 intro m
 induction m with
 | zero =>
  intro j hj x12 h
  rw [List.drop_eq_nil_of_le (by omega)] at h
  simp only [List.any_nil, Bool.and_false, Bool.or_false] at h
  exact Ev.step (fun k => by rw [hatchwayref32_Agree.l4, if_neg (by omega), wr1 kk (by omega)]) h
 | succ m ih =>
  intro j hj x12 h
  rw [drop_any lb (eqC la[kk]) j (by omega)] at h
  cases x12
  ·rw [Bool.false_or] at h
   by_cases hn : la[kk].f0.toList = c.f0.toList
   ·rw [show (la[kk].f0.toList == c.f0.toList) = true by simp [hn], Bool.true_and] at h
    refine Ev.step (fun k => ?_) (ih (j + 1) (by omega) (eqC la[kk] lb[j]) (by rw [show (la[kk].f0.toList == c.f0.toList) = true by simp [hn], Bool.true_and]; exact h))
    rw [hatchwayref32_Agree.l4, if_pos (by omega), if_neg (by simp), if_pos (by omega), if_pos (by omega), rd58_get la kk hk, if_pos hn, if_pos (by omega), wr1 j (by omega), rd58_get lb j (by omega)]
    rfl
   ·rw [show (la[kk].f0.toList == c.f0.toList) = false by simp [hn], Bool.false_and] at h
    refine Ev.step (fun k => ?_) (ih (j + 1) (by omega) false (by rw [show (la[kk].f0.toList == c.f0.toList) = false by simp [hn], Bool.false_and, Bool.false_or]; exact h))
    rw [hatchwayref32_Agree.l4, if_pos (by omega), if_neg (by simp), if_pos (by omega), if_pos (by omega), rd58_get la kk hk, if_neg hn, wr1 j (by omega)]
  ·rw [Bool.true_or] at h
   refine Ev.step (fun k => ?_) (ih (j + 1) (by omega) true (by rw [Bool.true_or]; exact h))
   rw [hatchwayref32_Agree.l4, if_pos (by omega), if_pos rfl, wr1 j (by omega)]
theorem l3_is (ha : la.length ≤ 40) (hb : lb.length ≤ 40) (hi : i ≤ 40) (hac : acc.length ≤ 40) (c : S58) (x11 : Bool) : ∀ m kk : Nat, kk + m = la.length → ∀ x12 : Bool,
  Ev (fun k => hatchwayref32_Agree.l1 k ((i + 1 : Nat) : Int) a0 a1 la b0 b1 lb v (if x11 && !(x12 || (la.drop kk).any fun y => y.f0.toList == c.f0.toList && lb.any (eqC y)) then acc ++ [c] else acc)) r →
  Ev (fun k => hatchwayref32_Agree.l3 k (i : Int) x11 x12 (kk : Int) a0 a1 la b0 b1 lb v acc c.f0 c.f1) r := by
 intro m
 induction m with
 | zero =>
  intro kk hk x12 h
  rw [List.drop_eq_nil_of_le (by omega)] at h
  simp only [List.any_nil, Bool.or_false] at h
  refine Ev.step (fun k => ?_) h
  rw [hatchwayref32_Agree.l3, if_neg (by omega), wr1 i (by omega)]
  cases x11
  ·rfl
  ·cases x12
   ·rw [if_pos rfl, if_neg (by simp), if_pos (by omega)]; rfl
   ·rfl
 | succ m ih =>
  intro kk hk x12 h
  rw [drop_any la _ kk (by omega), ← Bool.or_assoc] at h
  refine Ev.step (fun k => by rw [hatchwayref32_Agree.l3, if_pos (by omega)]; rfl) (l4_is ha hb c x11 kk (by omega) lb.length 0 (by omega) x12 ?_)
  exact ih (kk + 1) (by omega) _ h
theorem l1_is (ha : la.length ≤ 40) (hb : lb.length ≤ 40) : ∀ m i : Nat, i + m = la.length → ∀ acc : List S58, acc.length ≤ i →
  Ev (fun k => hatchwayref32_Agree.l1 k (i : Int) a0 a1 la b0 b1 lb v acc) (v, acc ++ sharedR lb (la.drop i), true) := by
 intro m
 induction m with
 | zero =>
  intro i hi acc hac
  rw [List.drop_eq_nil_of_le (by omega), sharedR, List.append_nil]
  exact Ev.step (f := fun _ => some (v, acc, true)) (fun k => by rw [hatchwayref32_Agree.l1, if_neg (by omega)]) (Ev.now _)
 | succ m ih =>
  intro i hi acc hac
  refine Ev.step (fun k => by rw [hatchwayref32_Agree.l1, if_pos (by omega), if_pos (by omega), rd58_get la i (by omega)]; rfl) (l2_is hb (by omega) la[i] lb.length 0 (by omega) false false ?_)
  rw [Bool.false_or, List.drop_zero]
  refine l3_is ha hb (by omega) (by omega) la[i] _ (la.length - (i + 1)) (i + 1) (by omega) false ?_
  rw [Bool.false_or, List.drop_eq_getElem_cons (show i < la.length by omega), sharedR]
  split
  ·rename_i hc
   have := ih (i + 1) (by omega) (acc ++ [la[i]]) (by simp; omega)
   rw [List.append_assoc] at this
   exact this
  ·rename_i hc
   exact ih (i + 1) (by omega) acc (by omega)
end
theorem refAgree_is (a0 a1 : Int) (la : List S58) (b0 b1 : Int) (lb : List S58) (ha : la.length ≤ 40) (hb : lb.length ≤ 40) (h0 : 1 ≤ a0) (h1 : a0 ≤ a1) (h2 : a1 ≤ 65535) (h3 : 1 ≤ b0) (h4 : b0 ≤ b1) :
  Ev (fun k => hatchwayref32_Agree.f k a0 a1 la b0 b1 lb) (if mn a1 b1 < mx a0 b0 then (0, [], false) else (mn a1 b1, sharedR lb la, true)) := by
 have loop : ∀ (m : Nat) (w x : Int), a0 ≤ w → w + m = a1 + 1 → x = (if mn (w - 1) b1 < mx a0 b0 then 0 else mn (w - 1) b1) →
   Ev (fun k => hatchwayref32_Agree.l0 k x w a0 a1 la b0 b1 lb) (if mn a1 b1 < mx a0 b0 then (0, [], false) else (mn a1 b1, sharedR lb la, true)) := by
  intro m
  induction m with
  | zero =>
   intro w x hw hm hx
   have e : w - 1 = a1 := by omega
   rw [e] at hx
   by_cases hlt : mn a1 b1 < mx a0 b0
   ·rw [if_pos hlt] at hx ⊢
    exact Ev.step (f := fun _ => some (0, [], false)) (fun k => by rw [hatchwayref32_Agree.l0, if_neg (by omega), if_pos hx]) (Ev.now _)
   ·rw [if_neg hlt] at hx ⊢
    have hne : x ≠ 0 := by rw [hx]; unfold mx at hlt; split at hlt <;> omega
    refine Ev.step (fun k => by rw [hatchwayref32_Agree.l0, if_neg (by omega), if_neg hne]; try rfl) ?_
    rw [hx]
    exact l1_is ha hb la.length 0 (by omega) [] (Nat.le_refl _)
  | succ m ih =>
   intro w x hw hm hx
   have hwr : wrap64 (w + 1) = w + 1 := by unfold wrap64; omega
   by_cases c1 : w ≥ b0
   ·by_cases c2 : w ≤ b1
    ·refine Ev.step (fun k => by rw [hatchwayref32_Agree.l0, if_pos (by omega), if_pos c1, if_pos c2, hwr]) (ih (w + 1) w (by omega) (by omega) ?_)
     unfold mn mx
     split <;> split <;> split <;> omega
    ·refine Ev.step (fun k => by rw [hatchwayref32_Agree.l0, if_pos (by omega), if_pos c1, if_neg c2, hwr]) (ih (w + 1) x (by omega) (by omega) ?_)
     rw [hx]
     unfold mn mx
     repeat' split
     all_goals omega
   ·refine Ev.step (fun k => by rw [hatchwayref32_Agree.l0, if_pos (by omega), if_neg c1, hwr]) (ih (w + 1) x (by omega) (by omega) ?_)
    rw [hx]
    unfold mn mx
    repeat' split
    all_goals omega
 refine Ev.congr (fun k => by rw [hatchwayref32_Agree.f]) (loop (a1 + 1 - a0).toNat a0 0 (by omega) (by omega) ?_)
 unfold mn mx
 repeat' split
 all_goals omega
theorem mayP_sort {a0 a1 : Int} {l : List S58} (h : mayP a0 a1 l) : SortS (l.map conv) := by
 have key : ∀ (m i : Nat), i + m = l.length → (∀ j, i < j → j < l.length → ordS (conv (rd_T58 l ((j - 1 : Nat) : Int))) (conv (rd_T58 l (j : Nat))) < 0) → SortS ((l.drop i).map conv) := by
  intro m
  induction m with
  | zero =>
   intro i hi _
   rw [List.drop_eq_nil_of_le (by omega)]
   exact List.Pairwise.nil
  | succ m ih =>
   intro i hi hs
   have h1 := ih (i + 1) (by omega) (fun j h1 h2 => hs j (by omega) h2)
   rw [List.drop_eq_getElem_cons (by omega), List.map_cons]
   refine List.pairwise_cons.2 ⟨?_, h1⟩
   intro z hz
   cases hd : l.drop (i + 1) with
   | nil => rw [hd] at hz; cases hz
   | cons y ys =>
    have hlt : i + 1 < l.length := by
     rcases Nat.lt_or_ge (i + 1) l.length with h | h
     ·exact h
     ·rw [List.drop_eq_nil_of_le h] at hd; cases hd
    have h2 := hs (i + 1) (by omega) hlt
    rw [Nat.add_sub_cancel, rd58_get l i (by omega), rd58_get l (i + 1) hlt] at h2
    rw [List.drop_eq_getElem_cons hlt] at hz h1
    rw [List.map_cons] at hz h1
    rcases List.mem_cons.1 hz with rfl | hz
    ·exact h2
    ·exact ordS_trans h2 ((List.pairwise_cons.1 h1).1 z hz)
 have := key l.length 0 (by omega) (fun j h1 h2 => (h.2 j h2).2.2.2 h1)
 simpa using this
theorem shared_len (lb : List S58) : ∀ la : List S58, (sharedR lb la).length ≤ la.length
 | [] => Nat.le_refl _
 | x :: r => by
  have := shared_len lb r
  rw [sharedR]
  split
  ·simp only [List.length_cons]; omega
  ·simp only [List.length_cons]; omega
theorem offset_is (l : List S58) (hl : l.length ≤ 40) (name : ByteArray) (v : Int) : ∃ r : Int × Bool, Ev (fun k => hello_Offset.f k v (l.map conv) name) r ∧
  Ev (fun k => hatchwaylaw32_HelloAgrees.l0 k name r.1 r.2 0 v l) true := by
 have hlm : (l.map conv).length = l.length := by simp
 have loop : ∀ m i : Nat, i + m = l.length → ∃ r : Int × Bool, Ev (fun k => hello_Offset.l0 k name (l.map conv) (((l.map conv).length : Nat) : Int) (i : Int)) r ∧ Ev (fun k => hatchwaylaw32_HelloAgrees.l0 k name r.1 r.2 (i : Int) v l) true := by
  intro m
  induction m with
  | zero =>
   intro i hi
   refine ⟨(0, false), Ev.step (f := fun _ => some (0, false)) (fun k => by rw [hello_Offset.l0, if_neg (by rw [hlm]; omega)]) (Ev.now _), Ev.step (f := fun _ => some true) (fun k => ?_) (Ev.now _)⟩
   rw [hatchwaylaw32_HelloAgrees.l0, if_neg (by omega)]
   rfl
  | succ m ih =>
   intro i hi
   have hr := rd_conv l i (by omega)
   by_cases hn : (rd_T58 l (i : Int)).f0.toList = name.toList
   ·refine ⟨(wrap64 (16 * (wrap64 ((i : Int) + 1))), true), Ev.step (f := fun _ => some (wrap64 (16 * (wrap64 ((i : Int) + 1))), true)) (fun k => ?_) (Ev.now _), Ev.step (f := fun _ => some true) (fun k => ?_) (Ev.now _)⟩
    ·rw [hello_Offset.l0, if_pos (by rw [hlm]; omega), if_pos (by omega), if_pos (by rw [hlm]; omega), hr, if_pos (show (conv (rd_T58 l (i : Int))).f0.toList = name.toList from hn)]
    ·rw [hatchwaylaw32_HelloAgrees.l0, if_pos (by omega), if_pos (by omega), if_pos hn, if_pos rfl]
     simp
   ·obtain ⟨r, h1, h2⟩ := ih (i + 1) (by omega)
    refine ⟨r, Ev.step (fun k => ?_) h1, Ev.step (fun k => ?_) h2⟩
    ·rw [hello_Offset.l0, if_pos (by rw [hlm]; omega), if_pos (by omega), if_pos (by rw [hlm]; omega), hr, if_neg (show ¬ (conv (rd_T58 l (i : Int))).f0.toList = name.toList from hn), wr1 i (by omega)]
    ·rw [hatchwaylaw32_HelloAgrees.l0, if_pos (by omega), if_pos (by omega), if_neg hn, wr1 i (by omega)]
 obtain ⟨r, h1, h2⟩ := loop l.length 0 (by omega)
 exact ⟨r, Ev.congr (fun k => by rw [hello_Offset.f]; rfl) h1, h2⟩
end Go.Proofs.Yteoibgpkimlahaa.P
end
section
namespace Go.Proofs.Yteoibgpkimlahaa.P
open Go.RowKit Go.Proofs.YteoibgpkimlahaaW.PrintWords Go.Proofs.YteoibgpkimlahaaW.PrintLast Go.Proofs.YteoibgpkimlahaaW.PrintMore
theorem mn_comm (a b : Int) : mn a b = mn b a := by unfold mn; split <;> split <;> omega
theorem mx_comm (a b : Int) : mx a b = mx b a := by unfold mx; split <;> split <;> omega
theorem agreeR_symm (m1 m2 : Bool) (a0 a1 : Int) (la : List S58) (b0 b1 : Int) (lb : List S58) : agreeR m1 m2 a0 a1 la b0 b1 lb = agreeR m2 m1 b0 b1 lb a0 a1 la := by
 unfold agreeR
 rw [mn_comm a1 b1, mx_comm a0 b0, bothL_symm _ (la.map conv) (lb.map conv) (Nat.le_refl _)]
 cases m1 <;> cases m2 <;> rfl
def eth5 : S58 := ⟨⟨#[101, 116, 104]⟩, 5⟩
def eth6 : S58 := ⟨⟨#[101, 116, 104]⟩, 6⟩
def eth7 : S58 := ⟨⟨#[101, 116, 104]⟩, 7⟩
theorem capAt_two (x y : S58) (h1 : nameOK x.f0 = true ∧ 1 ≤ x.f1 ∧ x.f1 ≤ 255) (h2 : nameOK y.f0 = true ∧ 1 ≤ y.f1 ∧ y.f1 ≤ 255) (h3 : ordS (conv x) (conv y) < 0) : ∀ j, j < [x, y].length → capAt [x, y] j
 | 0, _ => ⟨h1.1, h1.2.1, h1.2.2, fun h => absurd h (Nat.lt_irrefl 0)⟩
 | 1, _ => ⟨h2.1, h2.2.1, h2.2.2, fun _ => h3⟩
 | j + 2, h => by simp at h; omega
theorem alive32 : Ev (fun k => hatchwaylaw32_alive.f k) true := by
 have e5 : nameOK eth5.f0 = true := by decide +kernel
 have m1 : mayP 1 3 [eth5, eth6] := ⟨by decide, capAt_two _ _ ⟨e5, by decide, by decide⟩ ⟨e5, by decide, by decide⟩ (by decide +kernel)⟩
 have m2 : mayP 2 9 [eth5, eth7] := ⟨by decide, capAt_two _ _ ⟨e5, by decide, by decide⟩ ⟨e5, by decide, by decide⟩ (by decide +kernel)⟩
 have h := agree_is 1 3 [eth5, eth6] 2 9 [eth5, eth7] (by decide) (by decide) true true ⟨fun _ => m1, fun _ => rfl⟩ ⟨fun _ => m2, fun _ => rfl⟩
 have hb : bothL ([eth5, eth6].map conv) ([eth5, eth7].map conv) = [conv eth5] := by
  simp only [List.map_cons, List.map_nil]
  rw [bothL_cons, if_pos (show ordS (conv eth5) (conv eth5) = 0 by decide +kernel), bothL_cons, if_neg (show ¬ ordS (conv eth6) (conv eth7) = 0 by decide +kernel), if_pos (show ordS (conv eth6) (conv eth7) < 0 by decide +kernel), bothL_nil1]
 have hr : agreeR true true 1 3 [eth5, eth6] 2 9 [eth5, eth7] = (3, [conv eth5], 0) := by
  unfold agreeR
  rw [hb]
  rfl
 rw [hr] at h
 unfold hatchwaylaw32_alive.f
 refine Ev.bind h ?_
 have ho : hello_Offset.f 5 3 [conv eth5] (⟨#[101, 116, 104]⟩ : ByteArray) = some (16, true) := by decide +kernel
 refine Ev.bind (Ev.of (fun k => hello_Offset.mono _ _ _ k) ho) ?_
 exact Ev.congr (fun k => by rfl) (Ev.now true)
theorem helloAgrees_pure (a0 a1 : Int) (la : List S58) (b0 b1 : Int) (lb : List S58) (name : ByteArray) : Ev (fun k => hatchwaylaw32_HelloAgrees.f k a0 a1 la b0 b1 lb name) true := by
 unfold hatchwaylaw32_HelloAgrees.f
 refine Ev.bind alive32 ?_
 simp only [if_true]
 have j0t : Ev (fun k => hatchwaylaw32_HelloAgrees.j0 k name true a0 a1 la b0 b1 lb) true := Ev.step (f := fun _ => some true) (fun k => by rw [hatchwaylaw32_HelloAgrees.j0, if_pos rfl]) (Ev.now _)
 obtain ⟨g1, hg1, hs1⟩ := great_is a0 a1 la
 refine Ev.bind hg1 ?_
 cases g1
 case true => simp only [if_true]; exact j0t
 simp only [Bool.false_eq_true, if_false]
 obtain ⟨g2, hg2, hs2⟩ := great_is b0 b1 lb
 refine Ev.bind hg2 ?_
 cases g2
 case true => simp only [if_true]; exact j0t
 simp only [Bool.false_eq_true, if_false]
 cases decide ((name.size : Int) > 100)
 case true => exact j0t
 obtain ⟨la40, hna⟩ := hs1 rfl
 obtain ⟨lb40, hnb⟩ := hs2 rfl
 obtain ⟨m1, h1⟩ : ∃ m : Bool, m = true ↔ mayP a0 a1 la := by classical exact ⟨decide (mayP a0 a1 la), by simp⟩
 obtain ⟨m2, h2⟩ : ∃ m : Bool, m = true ↔ mayP b0 b1 lb := by classical exact ⟨decide (mayP b0 b1 lb), by simp⟩
 have oa : Ev (fun k => hatchwaylaw32_Of.f k a0 a1 la) (a0, a1, la.map conv) := by unfold hatchwaylaw32_Of.f; exact Ev.bind (caps_is la la40) (Ev.now _)
 have ob : Ev (fun k => hatchwaylaw32_Of.f k b0 b1 lb) (b0, b1, lb.map conv) := by unfold hatchwaylaw32_Of.f; exact Ev.bind (caps_is lb lb40) (Ev.now _)
 have r1 := agree_is a0 a1 la b0 b1 lb la40 lb40 m1 m2 h1 h2
 have r2 := agree_is b0 b1 lb a0 a1 la lb40 la40 m2 m1 h2 h1
 rw [← agreeR_symm] at r2
 have hrl : (agreeR m1 m2 a0 a1 la b0 b1 lb).2.1.length ≤ 40 := by
  unfold agreeR
  have hd : (dealL (bothL (la.map conv) (lb.map conv))).length ≤ 40 := by
   have h1 := bothL_len _ (la.map conv) (lb.map conv) (Nat.le_refl _)
   have h2 : ∀ (xs acc : List S104), (xs.foldl addCap acc).length ≤ acc.length + xs.length := by
    intro xs
    induction xs with
    | nil => intro acc; simp
    | cons x xs ih =>
     intro acc
     rw [List.foldl_cons]
     have := ih (addCap acc x)
     have := addCap_len acc x
     simp only [List.length_cons]
     omega
   have h3 := h2 (bothL (la.map conv) (lb.map conv)) []
   rw [List.length_map] at h1
   simp only [List.length_nil] at h3
   unfold dealL
   omega
  cases m1
  ·simp
  ·cases m2
   ·simp
   ·simp only [if_true]
    split
    ·simp
    ·exact hd
 refine Ev.step (fun k => by rw [hatchwaylaw32_HelloAgrees.j0, if_neg (by simp)]) ?_
 refine Ev.bind oa (Ev.bind ob (Ev.bind r1 (Ev.bind ob (Ev.bind oa (Ev.bind r2 ?_)))))
 simp only [if_true]
 have pl := plain_is _ hrl
 refine Ev.bind pl (Ev.bind pl (Ev.bind (same_refl _ (by rw [List.length_map]; omega)) ?_))
 have j2t : m1 = false ∨ m2 = false → Ev (fun k => hatchwaylaw32_HelloAgrees.j2 k name (agreeR m1 m2 a0 a1 la b0 b1 lb).2.2 true a0 a1 la b0 b1 lb (agreeR m1 m2 a0 a1 la b0 b1 lb).1 (agreeR m1 m2 a0 a1 la b0 b1 lb).2.1) true := by
  intro hm
  have e : agreeR m1 m2 a0 a1 la b0 b1 lb = (0, [], 1) := by
   unfold agreeR
   rcases hm with rfl | rfl
   ·rfl
   ·cases m1 <;> rfl
  rw [e]
  exact Ev.step (f := fun _ => some true) (fun k => by rw [hatchwaylaw32_HelloAgrees.j2]; rfl) (Ev.now _)
 refine Ev.step (fun k => by rw [hatchwaylaw32_HelloAgrees.j1, if_neg (by simp)]) ?_
 refine Ev.bind (refMay_is a0 a1 la la40 hna m1 h1) ?_
 cases m1
 case false => simp only [Bool.false_eq_true, if_false]; exact j2t (.inl rfl)
 simp only [if_true]
 refine Ev.bind (refMay_is b0 b1 lb lb40 hnb m2 h2) ?_
 cases m2
 case false => exact j2t (.inr rfl)
 have p1 := h1.1 rfl
 have p2 := h2.1 rfl
 have hra := refAgree_is a0 a1 la b0 b1 lb la40 lb40 p1.1.1 p1.1.2.1 p1.1.2.2.1 p2.1.1 p2.1.2.1
 refine Ev.step (fun k => by rw [hatchwaylaw32_HelloAgrees.j2, if_neg (by simp)]) ?_
 refine Ev.bind hra ?_
 by_cases hv : mn a1 b1 < mx a0 b0
 ·have e : agreeR true true a0 a1 la b0 b1 lb = (0, [], 7) := by unfold agreeR; simp [hv]
  rw [e]
  simp only [if_pos hv]
  exact Ev.congr (fun k => by rfl) (Ev.now true)
 ·have e : agreeR true true a0 a1 la b0 b1 lb = (mn a1 b1, (sharedR lb la).map conv, 0) := by
   unfold agreeR
   simp only [if_true, if_neg hv]
   rw [deal_shared _ _ (mayP_sort p1) (mayP_sort p2), shared_conv]
  rw [e]
  simp only [if_neg hv, if_true]
  have hsl := shared_len lb la
  have pl2 := plain_is ((sharedR lb la).map conv) (by rw [List.length_map]; omega)
  rw [List.map_map, show (deconv ∘ conv) = id by funext c; exact deconv_conv c, List.map_id] at pl2
  refine Ev.bind pl2 (Ev.bind (same_refl _ (by omega)) ?_)
  obtain ⟨r, ho, hl⟩ := offset_is (sharedR lb la) (by omega) name (mn a1 b1)
  refine Ev.step (fun k => by rw [hatchwaylaw32_HelloAgrees.j3, if_neg (by simp)]) ?_
  exact Ev.bind ho hl
end Go.Proofs.Yteoibgpkimlahaa.P
end
