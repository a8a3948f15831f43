/- An item's bytes cut are short; with others behind them Next tells the same, and Get that they aren't of the form. (part 14 of 16) -/
import Derived.Deep.Slices
import Derived.Deep.Strs
import Derived.Deep.SlicePairs
import Derived.ChangeArms
import Derived.WalkKit
import Derived.ProofKit
import Derived.OpenShut
import Derived.Test.YteoibgpkimlahaaB5
section
namespace Go.Proofs.Yteoibgpkimlahaa.P
open Go.RowKit Go.Proofs.YteoibgpkimlahaaW.PrintWords Go.Proofs.YteoibgpkimlahaaW.PrintLast Go.Proofs.YteoibgpkimlahaaW.PrintMore
section
variable {H : Type} {enc : TypeId × Value → H} {P : Program} {w : World} {spare : Nat → Bool} {held : Bool}
theorem open_row {α : Type} (d : Kd α) {t e : TypeId} {fuel base : Nat} {cs : List Value} {x : DataW H × List MemPlace} (ht : P.underlying t = some (.slice e)) (hc : P.cellsOf e = d.sz)
  (each : ∀ n, n < fuel → ∀ cs' y, DataW.trod enc P w base spare held n e cs' = some y → ∃ z : α, d.K w z cs') (h : DataW.trod enc P w base spare held fuel t cs = some x) :
  ∃ (A : Option Addr) (xs : List α) (c : Nat), cs = [.slice A xs.length c] ∧ xs.length ≤ c ∧ xs.length ≤ maxLen ∧ d.C w A xs.length xs := by
 rcases DataW.trod_slice ht h with ⟨rfl, -⟩ | ⟨a, len, cap, elems, rest, n, hn, rfl, -, hb, hl, hm, hlen, hel, -, -⟩
 ·exact ⟨none, [], 0, rfl, Nat.le_refl _, Nat.zero_le _, Kd.C_nil d w⟩
 ·have hz : ∀ i, i < len → ∃ z : α, ∃ cs', w.cells? base (a.add (i * P.cellsOf e)) (P.cellsOf e) = some cs' ∧ d.K w z cs' := by
   intro i hi
   have h1 := hel i hi
   rw [List.getElem?_eq_getElem (by omega)] at h1
   obtain ⟨cs', h2, h3⟩ := Option.bind_eq_some_iff.1 h1
   obtain ⟨z, hz⟩ := each n (by omega) cs' _ h3
   exact ⟨z, cs', h2, hz⟩
  obtain ⟨xs, hxl, hx⟩ : ∃ xs : List α, xs.length = len ∧ ∀ i z, xs[i]? = some z → ∃ cs', w.cells? base (a.add (i * P.cellsOf e)) (P.cellsOf e) = some cs' ∧ d.K w z cs' := by
   clear hlen hel hl hm h each
   induction len with
   | zero => exact ⟨[], rfl, fun i z h => by simp at h⟩
   | succ k ih =>
    obtain ⟨xs, h1, h2⟩ := ih (fun i hi => hz i (by omega))
    obtain ⟨z, hzz⟩ := hz k (by omega)
    refine ⟨xs ++ [z], by simp [h1], fun i y hy => ?_⟩
    rcases Nat.lt_or_ge i xs.length with hi | hi
    ·rw [List.getElem?_append_left hi] at hy
     exact h2 i y hy
    ·rw [List.getElem?_append_right hi] at hy
     obtain ⟨rfl⟩ : i = xs.length := by
      rcases Nat.eq_or_lt_of_le hi with h | h
      ·exact h.symm
      ·rw [List.getElem?_eq_none (by simp; omega)] at hy; cases hy
     rw [Nat.sub_self] at hy
     obtain rfl := Option.some.inj hy
     rw [h1]
     exact hzz
  have hmx : maxLen ≤ 9223372036854775807 := by decide
  refine ⟨some a, xs, cap, by rw [hxl], by omega, by omega, rfl, by omega, fun _ => ⟨a, rfl, fun j p hp => ?_⟩⟩
  obtain ⟨cs', h1, h2⟩ := hx j p hp
  rw [hc] at h1
  obtain ⟨-, h3, h4⟩ := World.cells?_some h1
  refine ⟨cs', h3, h2, fun i u hu => ?_⟩
  have hi : i < d.sz := by
   rcases Nat.lt_or_ge i d.sz with h | h
   ·exact h
   ·rw [List.getElem?_eq_none (by omega)] at hu; cases hu
  rw [← Deep.add_add, h4 i hi, hu]
end
section
variable {H : Type} {enc : TypeId × Value → H} {w : World} {spare : Nat → Bool}
end
end Go.Proofs.Yteoibgpkimlahaa.P
end
section
namespace Go.Proofs.Yteoibgpkimlahaa.P
open Go.RowKit Go.Proofs.YteoibgpkimlahaaW.PrintWords Go.Proofs.YteoibgpkimlahaaW.PrintLast Go.Proofs.YteoibgpkimlahaaW.PrintMore
section
variable {H : Type} {enc : TypeId × Value → H} {w : World} {spare : Nat → Bool}
set_option maxRecDepth 100000 in
theorem open_itemK {base : Nat} (n : Nat) : ∀ (cs : List Value) (y : DataW H × List MemPlace), DataW.trod enc Try.prog w base spare true n 62 cs = some y → ∃ z : S62, k62.K w z cs := by
 induction n using Nat.strongRecOn with
 | _ n ih =>
  intro cs y h
  obtain ⟨ys, m, hm, -, hl, hlen, hf⟩ := DataW.trod_struct Try.underlying62 h
  obtain ⟨y0, y1, y2, rfl⟩ : ∃ y0 y1 y2, ys = [y0, y1, y2] := by
   match ys, hlen with
   | [y0, y1, y2], _ => exact ⟨y0, y1, y2, rfl⟩
  have h0 : DataW.trod enc Try.prog w base spare true m 9 ((cs.drop 0).take (Try.prog.cellsOf 9)) = some y0 := hf 0 _ rfl
  have h1 : DataW.trod enc Try.prog w base spare true m 4 ((cs.drop 1).take (Try.prog.cellsOf 4)) = some y1 := hf 1 _ rfl
  have h2 : DataW.trod enc Try.prog w base spare true m 60 ((cs.drop 2).take (Try.prog.cellsOf 60)) = some y2 := hf 2 _ rfl
  rw [show Try.prog.cellsOf 62 = 3 by kernel_rfl] at hl
  rw [show Try.prog.cellsOf 9 = 1 by kernel_rfl] at h0
  rw [show Try.prog.cellsOf 4 = 1 by kernel_rfl] at h1
  rw [show Try.prog.cellsOf 60 = 1 by kernel_rfl] at h2
  match cs, hl with
  | [v0, v1, v2], _ =>
   obtain ⟨s, e0, -, -⟩ := DataW.trod_string Try.underlying9 h0
   obtain ⟨b, e1, -⟩ := DataW.trod_bool Try.underlying4 h1
   obtain ⟨A, xs, c, e2, hc, -, hC⟩ := open_row k62 Try.underlying60 (by kernel_rfl) (fun n' hn' cs' y' hy => ih n' (by omega) cs' y' hy) h2
   simp at e0 e1 e2
   subst e0
   subst e1
   subst e2
   exact ⟨⟨s, b, xs⟩, k62_mk w ⟨s, b, xs⟩ hc hC⟩
set_option maxRecDepth 100000 in
theorem open_item {base : Nat} {r : Reach} {v : Value} {d : DataW H} {p : List MemPlace} (hv : Value.okWide Try.prog w r base 62 v) (h : DataW.Trod enc Try.prog w 0 spare true 62 v d p) :
  ∃ (a0 : ByteArray) (a1 : Bool) (A : Option Addr) (c : Nat) (l : List S62), v = .agg #[.string a0, .bool a1, .slice A l.length c] ∧ l.length ≤ c ∧ Kd.C k62 w A l.length l := by
 obtain ⟨cs, rfl, hsz⟩ := WideShapes.okWide_struct Try.underlying62 hv
 obtain ⟨n, h⟩ := h
 have hcs : (Value.agg cs).cells = cs := rfl
 obtain ⟨z, hz⟩ := open_itemK n _ _ h
 obtain ⟨A2, c2, he, hl, hC⟩ := k62_open hz
 refine ⟨z.f0, z.f1, A2, c2, z.f2, ?_, hl, hC⟩
 rw [hcs] at he
 match cs, he with
 | ⟨l⟩, he =>
  simp at he
  rw [he]
end
end Go.Proofs.Yteoibgpkimlahaa.P
end
