/- Whether any hello may be, and its bytes, or the error, are the document's; it is got again. (part 2 of 27) -/
import Derived.Shelf.Small.Strs
import Derived.Shelf.GgClosure.StringsIndexFuncTop
import Derived.Shelf.GgClosure.StringsRunes
import Derived.Test.YteoibgpkimlahaaProg
section
namespace Go.Proofs.Yteoibgpkimlahaa.P
open Go.Proofs Go.Shelf
def Try.lays106_ren : Go.Shelf.Ren := ⟨fun | 106 => 113 | 213 => 124 | 265 => 129 | n => n, fun | 9 => 9 | 3 => 3 | n => n, fun | n => n⟩
theorem Try.lays106 : Go.Proofs.Lays.n106 Try.prog Try.lays106_ren := {
 mixed := by kernel_rfl
 f106 := Try.func113.trans (congrArg some (by kernel_rfl))
 f213 := Try.func124.trans (congrArg some (by kernel_rfl))
 f265 := Try.func129.trans (congrArg some (by kernel_rfl))
 t3 := Try.underlying3
 a3 := Try.isAgg3
 z3 := Try.sizeOf3
 v3 := Try.zeroValue3
 t9 := Try.underlying9
 a9 := Try.isAgg9
 z9 := Try.sizeOf9
 v9 := Try.zeroValue9 }
open Go.RowKit in
theorem Try.strings_Compare (a b : ByteArray) (w : World) :
  Calls Try.prog 113 #[.string a, .string b] w fun e w' => e = .returned (.int .i64 (Lib.compareBytes a.data.toList b.data.toList)) ∧ w' = w := Any.strings_Compare Try.lays106 a b w
def Try.laysGw17_ren : Go.Shelf.Ren := ⟨fun | 17 => 111 | 15 => 123 | 20 => 128 | n => n, fun | 9 => 9 | 23 => 161 | 4 => 4 | 3 => 3 | 0 => 0 | 21 => 21 | n => n, fun | n => n⟩
theorem Try.laysGw17 : Go.Proofs.LaysGw.n17 Try.prog Try.laysGw17_ren := {
 mixed := by kernel_rfl
 f15 := Try.func123.trans (congrArg some (by kernel_rfl))
 f17 := Try.func111.trans (congrArg some (by kernel_rfl))
 f20 := Try.func128.trans (congrArg some (by kernel_rfl))
 t0 := Try.underlying0
 a0 := Try.isAgg0
 z0 := Try.sizeOf0
 v0 := Try.zeroValue0
 i0 := by kernel_rfl
 t3 := Try.underlying3
 a3 := Try.isAgg3
 z3 := Try.sizeOf3
 v3 := Try.zeroValue3
 i3 := by kernel_rfl
 t4 := Try.underlying4
 a4 := Try.isAgg4
 z4 := Try.sizeOf4
 v4 := Try.zeroValue4
 i4 := by kernel_rfl
 t9 := Try.underlying9
 a9 := Try.isAgg9
 z9 := Try.sizeOf9
 v9 := Try.zeroValue9
 i9 := by kernel_rfl
 t21 := Try.underlying21
 a21 := Try.isAgg21
 z21 := Try.sizeOf21
 v21 := Try.zeroValue21
 i21 := by kernel_rfl
 t23 := Try.underlying161
 a23 := Try.isAgg161
 z23 := Try.sizeOf161
 v23 := Try.zeroValue161
 i23 := by kernel_rfl }
open Go.RowKit Go.Lib in
theorem Try.strings_ContainsFunc_runes (g : Nat) (lb : Array Value) (eg : ∀ args w, (callFunc g args).run Try.prog w = .ok (.enter g args) w) (p : Nat → Bool) (s : ByteArray) (w : World) (hp : PredAtRunes Try.prog g lb p w) :
  Calls Try.prog 111 #[.string s, .func (.func g) #[] lb] w fun e w' => e = .returned (.bool (decide (0 ≤ Lib.idxFunc p true s))) ∧ Below w.heap.size w w' := Any.strings_ContainsFunc_runes Try.laysGw17 g lb eg p s w hp
end Go.Proofs.Yteoibgpkimlahaa.P
end
