/- Whether any hello may be, and its bytes, or the error, are the document's; it is got again. (part 17 of 27) -/
import Derived.Shelf.Strings.Builder1
import Derived.Lib.Builder
import Derived.Lib.UnsafeStr
import Derived.Laws.Externs
import Derived.Test.YteoibgpkimlahaaB6
section
namespace Go.Proofs.Yteoibgpkimlahaa.P
open Go.RowKit Go.Shelf Go.Proofs.YteoibgpkimlahaaW.PrintWords Go.Proofs.YteoibgpkimlahaaW.PrintLast Go.Proofs.YteoibgpkimlahaaW.PrintMore
def bRen : Go.Shelf.Ren := ⟨fun | 169 => 108 | 170 => 107 | n => n, fun | 9 => 9 | 3 => 3 | 0 => 0 | 5 => 5 | 37 => 100 | 70 => 152 | 72 => 154 | 127 => 172 | n => n, fun | n => n⟩
theorem bLen : Go.Proofs.Lays.n170 Try.prog bRen := {
 mixed := by kernel_rfl
 f170 := Try.func107.trans (congrArg some (by kernel_rfl))
 t0 := Try.underlying0, a0 := Try.isAgg0, z0 := Try.sizeOf0, v0 := Try.zeroValue0
 t3 := Try.underlying3, a3 := Try.isAgg3, z3 := Try.sizeOf3, v3 := Try.zeroValue3
 t37 := Try.underlying100, a37 := Try.isAgg100, z37 := Try.sizeOf100, v37 := Try.zeroValue100
 t70 := Try.underlying152, a70 := Try.isAgg152, z70 := Try.sizeOf152, v70 := Try.zeroValue152
 t72 := Try.underlying154, a72 := Try.isAgg154, z72 := Try.sizeOf154, v72 := Try.zeroValue154 }
theorem bString : Go.Proofs.Lays.n169 Try.prog bRen := {
 mixed := by kernel_rfl
 f169 := Try.func108.trans (congrArg some (by kernel_rfl))
 t0 := Try.underlying0, a0 := Try.isAgg0, z0 := Try.sizeOf0, v0 := Try.zeroValue0
 t3 := Try.underlying3, a3 := Try.isAgg3, z3 := Try.sizeOf3, v3 := Try.zeroValue3
 t9 := Try.underlying9, a9 := Try.isAgg9, z9 := Try.sizeOf9, v9 := Try.zeroValue9
 t37 := Try.underlying100, a37 := Try.isAgg100, z37 := Try.sizeOf100, v37 := Try.zeroValue100
 t70 := Try.underlying152, a70 := Try.isAgg152, z70 := Try.sizeOf152, v70 := Try.zeroValue152
 t72 := Try.underlying154, a72 := Try.isAgg154, z72 := Try.sizeOf154, v72 := Try.zeroValue154
 t127 := Try.underlying172, a127 := Try.isAgg172, z127 := Try.sizeOf172, v127 := Try.zeroValue172 }
theorem bX72 : Go.Proofs.Builder.X72 Try.prog bRen := ⟨by kernel_rfl, by kernel_rfl⟩
theorem bExtra : Go.Proofs.Builder.Extra Try.prog bRen := { bX72 with
 t5 := Try.underlying5, a5 := Try.isAgg5, z5 := Try.sizeOf5, v5 := Try.zeroValue5
 infoByte := by kernel_rfl, cellsByte := by kernel_rfl, sizeByte := by kernel_rfl, neB5 := by decide }
abbrev IsBld (B b : Nat) (bs : List Value) (w : World) : Prop := Lib.IsBuilder 154 5 B b bs w
theorem builder_Len (B b : Nat) (bs : List Value) (w : World) (h : IsBld B b bs w) : Calls Try.prog 107 #[.pointer (some ⟨b, 0, none⟩)] w fun e w' => e = .returned (.int .i64 bs.length) ∧ w' = w := Any.Builder_Len bLen B b bs w h
theorem builder_String (B b : Nat) (l : List UInt8) (w : World) (h : IsBld B b (Lib.byteCells l) w) (hB : B ≤ w.heap.size) : Calls Try.prog 108 #[.pointer (some ⟨b, 0, none⟩)] w fun e w' => e = .returned (.string ⟨l.toArray⟩) ∧ Below B w w' := Any.Builder_String_any bString bExtra B b l w h hB
set_option maxHeartbeats 1000000 in
set_option maxRecDepth 100000 in
theorem builder_check (B b : Nat) (bs : List Value) (w : World) (h : IsBld B b bs w) :
  Calls Try.prog 122 #[.pointer (some ⟨b, 0, none⟩)] w fun e w' => e = .returned (.tuple #[]) ∧ (Lib.BuilderAt 154 5 B b (.pointer (some ⟨b, 0, none⟩)) bs w' ∧ Below B w w') := by
 obtain ⟨j, hj, hjs⟩ := Option.map_eq_some_iff.1 bX72.sizeBuilder
 rcases h with h | h
 ·have h0 := h.cell0
  have hf := h.frozen0
  have hs := h.shape
  have H := Aside0.mk h
  clear h
  go_enter Try.func122, Try.ntmps122
  go_wp2
  rw [Lib.run_to_unsafe w ⟨b, 0, none⟩ Try.underlying152 Try.underlying177 hj (by rw [hjs]; decide) hs (Nat.zero_lt_succ 1)]
  simp only [Result.andThen]
  rw [Oper.upon_value]
  go_wp2
  rw [run_callFunc_extern Try.func127 (by kernel_rfl) (by kernel_rfl) (by kernel_rfl) (e := Extern.AbiNoEscape.same) (by kernel_rfl), Lib.run_noEscape]
  simp only [Result.andThen]
  rw [Oper.upon_value]
  go_wp2
  rw [Lib.run_from_unsafe w ⟨b, 0, none⟩ Try.underlying177 Try.underlying152 hj hs bX72.liesBuilder]
  simp only [Result.andThen]
  rw [Oper.upon_value]
  go_wp2
  go_end0
  exact ⟨rfl, H.out.used _, (Below.refl B w).setCell (p := ⟨b, 0, none⟩) H.out.1 _⟩
 ·have h0 := h.cell0
  have H := Aside0.mk h
  clear h
  go_enter Try.func122, Try.ntmps122
  go_wp2
  rw [Lib.run_neq_ptr_same w _ Try.underlying152 hj]
  go_wp2
  go_end0
  exact ⟨rfl, H.out, Below.refl B _⟩
set_option maxHeartbeats 2000000 in
set_option maxRecDepth 100000 in
theorem builder_WriteString (B b : Nat) (bs : List Value) (s : ByteArray) (w : World) (h : IsBld B b bs w) (hlen : bs.length + s.size ≤ 140737488355328) (hBw : B ≤ w.heap.size) :
  Calls Try.prog 106 #[.pointer (some ⟨b, 0, none⟩), .string s] w fun e w' => e = .returned (.tuple #[.int .i64 s.size, .nilIface]) ∧ (IsBld B b (bs ++ Lib.strCells s) w' ∧ Below B w w') := by
 obtain ⟨i0, hi, hz0, hz1, hz2⟩ := info_parts info5
 go_enter Try.func106, Try.ntmps106
 go_wp2_with fail
 refine (builder_check B b bs _ h).mono ?_
 rintro e w1 ⟨rfl, ⟨hB, v, hbk, hown, hne⟩, hb1⟩
 have c1 : w1.cell? ⟨b, 1, none⟩ = some v := by rw [Lib.cell_of_heap hbk]; rfl
 go_wp2_with (at_builtin; refine Lib.wpList_append_own_string _ rfl _ _ 100 9 rfl B 5 i0 Try.underlying100 Try.underlying9 hi hz0 hz1 hz2 _ _ _ rfl hown s rfl ?c3 ?c4 ?c5 ?_)
 case c3 => unfold maxLen; omega
 case c4 => omega
 case c5 => have := hb1.size; omega
 intro v' w2 hown' hgrow _
 have hlt : b < w1.heap.size := blk_lt hbk
 have hb2 : w2.heap[b]? = some (.cells #[.pointer (some ⟨b, 0, none⟩), v] 154 (0, 0)) := by
  rw [hgrow.block b hlt (fun e => hne e.symm)]
  exact hbk
 have d1 : w2.cell? ⟨b, 1, none⟩ = some v := by rw [Lib.cell_of_heap hb2]; rfl
 have f1 : w2.frozen? ⟨b, 1, none⟩ = false := Lib.frozen_of_heap hb2 1
 obtain ⟨ao, n', cap, rfl⟩ : ∃ ao n' cap, v' = .slice ao n' cap := by
  rcases hown'.2 with ⟨hv, _⟩ | ⟨g, cap, cur, hv, _⟩
  ·exact ⟨_, _, _, hv⟩
  ·exact ⟨_, _, _, hv⟩
 go_wp2
 go_ret2
 refine ⟨rfl, Or.inr ?_, ?_⟩
 ·exact Lib.BuilderAt.put hB hb2 (bs' := bs ++ Lib.strCells s) (by simpa [Lib.strCells_length] using hown') (by decide)
 ·exact (hb1.grown hgrow (by have := hb1.size; omega) (fun k hk => (hown.lt k hk).1)).setCell (p := ⟨b, 1, none⟩) hB _
theorem bldAt_below {B b : Nat} {p : Value} {bs : List Value} {w w1 : World} (h : Lib.BuilderAt 154 5 B b p bs w) (hb : Below w.heap.size w w1) : Lib.BuilderAt 154 5 B b p bs w1 := by
 obtain ⟨hB, v, hbk, hown, hne⟩ := h
 exact ⟨hB, v, blk_below hbk hb, own_move hown (fun k hk => hb.block k (own_lt hown k hk)), hne⟩
theorem IsBld.below {B b : Nat} {bs : List Value} {w w1 : World} (h : IsBld B b bs w) (hb : Below w.heap.size w w1) : IsBld B b bs w1 := h.elim (fun h => .inl (bldAt_below h hb)) (fun h => .inr (bldAt_below h hb))
theorem IsBld.alloc {B b : Nat} {bs : List Value} {w : World} (h : IsBld B b bs w) (o : Obj) : IsBld B b bs (w.alloc o) := h.below (below_alloc (Below.refl _ _) o)
theorem IsBld.lt {B b : Nat} {bs : List Value} {w : World} (h : IsBld B b bs w) : b < w.heap.size := h.elim (·.lt) (·.lt)
theorem bld_new (B : Nat) (w : World) (hB : B ≤ w.heap.size) : IsBld B w.heap.size [] (w.alloc (.cells #[.pointer none, .slice none 0 0] 154 (0, 0))) :=
 .inl ⟨hB, .slice none 0 0, blk_new _ _, World.ownsRow_nil _ _ _ _, by simp [Value.ownBlock]⟩
end Go.Proofs.Yteoibgpkimlahaa.P
end
