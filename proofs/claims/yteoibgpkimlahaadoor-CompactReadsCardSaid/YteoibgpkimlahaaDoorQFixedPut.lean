/- What fixed.put and fixed.get answer, by cases. -/
import Derived.Test.YteoibgpkimlahaaDoorQFixed2
import Derived.Test.YteoibgpkimlahaaDoorFFixedPut
import Derived.Test.YteoibgpkimlahaaDoorFFixedGet
namespace Go.Proofs.YteoibgpkimlahaaDoor.P
open Go.RowKit Go.Proofs.YteoibgpkimlahaaDoorW.PrintWords Go.Proofs.YteoibgpkimlahaaDoorW.PrintLast Go.Proofs.YteoibgpkimlahaaDoorW.PrintMore
theorem put_ok (rev : Bool) (n : Int) (m : Nat) (h0 : 0 ≤ n) (h1 : 1 ≤ m) (h8 : m ≤ 8) (h : m = 8 ∨ sz n ≤ m) : fixed_put.f rev n m = some (strOfNums (if rev = true then (leL n m).reverse else leL n m), 0) := by
  unfold fixed_put.f
  rw [if_pos h0, if_neg (by omega), Int.toNat_natCast, if_pos]
  rw [sz_le m n h0] at h
  exact h
theorem put_bad (rev : Bool) (n m : Int) (h0 : 0 ≤ n) (h : m < 1 ∨ 8 < m) : fixed_put.f rev n m = some ((⟨#[]⟩ : ByteArray), 1) := by
  unfold fixed_put.f
  rw [if_pos h0, if_pos h]
theorem put_over (rev : Bool) (n : Int) (m : Nat) (h0 : 0 ≤ n) (h1 : 1 ≤ m) (h8 : m < 8) (h : m < sz n) : fixed_put.f rev n m = some ((⟨#[]⟩ : ByteArray), 5) := by
  unfold fixed_put.f
  rw [if_pos h0, if_neg (by omega), Int.toNat_natCast, if_neg]
  rw [← sz_le m n h0]
  omega
theorem size_nil : (⟨#[]⟩ : ByteArray).toList = [] := by rw [ByteArray.toList_eq]
theorem ne_nil {s : ByteArray} (h : 0 < s.size) : s.toList ≠ [] := fun e => by rw [size_zero] at e; omega
theorem get_ok (rev : Bool) (s : ByteArray) (h0 : 0 < s.size) (h8 : s.size ≤ 8) : fixed_get.f rev s = some (numL (if rev = true then (bytesOf s).reverse else bytesOf s), 0) := by
  unfold fixed_get.f
  rw [if_neg (ne_nil h0), if_neg (by omega)]
end Go.Proofs.YteoibgpkimlahaaDoor.P
