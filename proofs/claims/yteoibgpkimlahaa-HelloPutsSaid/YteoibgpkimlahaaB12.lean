/- Whether any hello may be, and its bytes, or the error, are the document's; it is got again. (part 12 of 27) -/
import Derived.Shelf.GgClosure.StringsRunes
import Derived.Lib.SpaceUEq
import Derived.Test.YteoibgpkimlahaaB6
section
namespace Go.Proofs.Yteoibgpkimlahaa.P
open Go.RowKit Go.Proofs.YteoibgpkimlahaaW.PrintWords Go.Proofs.YteoibgpkimlahaaW.PrintLast Go.Proofs.YteoibgpkimlahaaW.PrintMore
def okB (x : Int) : Bool := decide (97 ≤ x ∧ x ≤ 122 ∨ 48 ≤ x ∧ x ≤ 57 ∨ x = 95)
def nameOK (s : ByteArray) : Bool := decide (1 ≤ s.size ∧ s.size ≤ 12) && decide (∀ i, i < s.size → okB (bt s (i : Nat)) = true)
theorem bt_get! (s : ByteArray) (i : Nat) (h : i < s.size) : bt s (i : Int) = ((s.get! i).toNat : Int) := by
 have e : s.get! i = s[i]'h := by
  show s.data[i]! = s.data[i]
  exact getElem!_pos s.data i h
 rw [e]
 have := bt_at s (i : Int) (by simpa using h)
 simpa using this.symm
theorem decodeN_high (n b0 b1 b2 b3 : Nat) (h : 128 ≤ b0) : 128 ≤ (Lib.decodeN n b0 b1 b2 b3).1 := by
 rcases Lib.decodeN_cases n b0 b1 b2 b3 with h1 | h1 | h1 | h1 | h1
 ·omega
 ·rw [h1.2.2.2.2]; exact h1.2.2.2.1
 ·rw [h1.2.2.2.2.2]; have := h1.2.2.2.2.1; show 128 ≤ _; omega
 ·omega
 ·rw [h1]; show 128 ≤ 65533; omega
def otherR (x : Nat) : Bool := !okB (x : Int)
theorem idx_names (s : ByteArray) : ∀ (f pos : Nat), s.size ≤ pos + f → (0 ≤ Lib.idxFuncFrom otherR true s f pos ↔ ∃ j, pos ≤ j ∧ j < s.size ∧ okB (bt s (j : Nat)) = false)
 | 0, pos, h => by
  simp only [Lib.idxFuncFrom]
  constructor
  ·intro h; omega
  ·rintro ⟨j, h1, h2, -⟩; omega
 | f + 1, pos, h => by
  unfold Lib.idxFuncFrom
  by_cases hp : pos < s.size
  ·rw [if_pos hp]
   have hbt := bt_get! s pos hp
   by_cases h128 : (s.get! pos).toNat < 128
   ·have hd : Utf8.decode s pos = ((s.get! pos).toNat, 1) := by
     rw [Lib.decode_at]
     simp [Lib.decodeN, h128]
    rw [hd]
    simp only
    have hoth : otherR (s.get! pos).toNat = !okB (bt s (pos : Nat)) := by rw [otherR, hbt]
    rw [hoth]
    cases hok : okB (bt s (pos : Nat))
    ·simp only [Bool.not_false, if_true]
     exact ⟨fun _ => ⟨pos, Nat.le_refl _, hp, hok⟩, fun _ => by omega⟩
    ·simp only [Bool.not_true, Bool.false_eq_true, if_false]
     rw [idx_names s f (pos + 1) (by omega)]
     constructor
     ·rintro ⟨j, h1, h2, h3⟩; exact ⟨j, by omega, h2, h3⟩
     ·rintro ⟨j, h1, h2, h3⟩
      refine ⟨j, ?_, h2, h3⟩
      rcases Nat.lt_or_ge pos j with h4 | h4
      ·omega
      ·obtain rfl : j = pos := by omega
       rw [hok] at h3; cases h3
   ·have hr : 128 ≤ (Utf8.decode s pos).1 := by rw [Lib.decode_at]; exact decodeN_high _ _ _ _ _ (by omega)
    have ho : otherR (Utf8.decode s pos).1 = true := by simp only [otherR, okB, Bool.not_eq_true', decide_eq_false_iff_not]; omega
    rw [ho, if_pos rfl]
    refine ⟨fun _ => ⟨pos, Nat.le_refl _, hp, ?_⟩, fun _ => by omega⟩
    rw [hbt]
    simp only [okB, decide_eq_false_iff_not]
    omega
  ·rw [if_neg hp]
   constructor
   ·intro h; omega
   ·rintro ⟨j, h1, h2, -⟩; omega
theorem nameOK_idx (s : ByteArray) : nameOK s = (decide (1 ≤ s.size ∧ s.size ≤ 12) && !decide (0 ≤ Lib.idxFunc otherR true s)) := by
 unfold nameOK
 congr 1
 have := idx_names s s.size 0 (by omega)
 unfold Lib.idxFunc
 by_cases h : 0 ≤ Lib.idxFuncFrom otherR true s s.size 0
 ·obtain ⟨j, -, h2, h3⟩ := this.1 h
  rw [decide_eq_true h]
  simp only [Bool.not_true, decide_eq_false_iff_not]
  intro hall
  rw [hall j h2] at h3; cases h3
 ·rw [decide_eq_false h]
  simp only [Bool.not_false, decide_eq_true_eq]
  intro i hi
  cases hok : okB (bt s (i : Nat))
  ·exact absurd (this.2 ⟨i, Nat.zero_le _, hi, hok⟩) h
  ·rfl
end Go.Proofs.Yteoibgpkimlahaa.P
end
