/- Whether any hello may be, and its bytes, or the error, are the document's; it is got again. (part 20 of 27) -/
import Derived.Deep.Slices
import Derived.Deep.Strs
import Derived.Deep.SlicePairs
import Derived.ChangeArms
import Derived.WalkKit
import Derived.ProofKit
import Derived.OpenShut
import Derived.Test.YteoibgpkimlahaaB6
section
namespace Go.Proofs.Yteoibgpkimlahaa.P
open Go.RowKit Go.Proofs.YteoibgpkimlahaaW.PrintWords Go.Proofs.YteoibgpkimlahaaW.PrintLast Go.Proofs.YteoibgpkimlahaaW.PrintMore
section
variable {H : Type} {enc : TypeId × Value → H} {P : Program} {w : World} {spare : Nat → Bool} {held : Bool}
theorem open_row {α : Type} (d : Kd α) {t e : TypeId} {fuel base : Nat} {cs : List Value} {x : DataW H × List MemPlace} (ht : P.underlying t = some (.slice e)) (hc : P.cellsOf e = d.sz)
  (each : ∀ n, n < fuel → ∀ cs' y, DataW.trod enc P w base spare held n e cs' = some y → ∃ z : α, d.K w z cs') (h : DataW.trod enc P w base spare held fuel t cs = some x) :
  ∃ (A : Option Addr) (xs : List α) (c : Nat), cs = [.slice A xs.length c] ∧ xs.length ≤ c ∧ xs.length ≤ maxLen ∧ d.C w A xs.length xs := by
 rcases DataW.trod_slice ht h with ⟨rfl, -⟩ | ⟨a, len, cap, elems, rest, n, hn, rfl, -, hb, hl, hm, hlen, hel, -, -⟩
 ·exact ⟨none, [], 0, rfl, Nat.le_refl _, Nat.zero_le _, Kd.C_nil d w⟩
 ·have hz : ∀ i, i < len → ∃ z : α, ∃ cs', w.cells? base (a.add (i * P.cellsOf e)) (P.cellsOf e) = some cs' ∧ d.K w z cs' := by
   intro i hi
   have h1 := hel i hi
   rw [List.getElem?_eq_getElem (by omega)] at h1
   obtain ⟨cs', h2, h3⟩ := Option.bind_eq_some_iff.1 h1
   obtain ⟨z, hz⟩ := each n (by omega) cs' _ h3
   exact ⟨z, cs', h2, hz⟩
  obtain ⟨xs, hxl, hx⟩ : ∃ xs : List α, xs.length = len ∧ ∀ i z, xs[i]? = some z → ∃ cs', w.cells? base (a.add (i * P.cellsOf e)) (P.cellsOf e) = some cs' ∧ d.K w z cs' := by
   clear hlen hel hl hm h each
   induction len with
   | zero => exact ⟨[], rfl, fun i z h => by simp at h⟩
   | succ k ih =>
    obtain ⟨xs, h1, h2⟩ := ih (fun i hi => hz i (by omega))
    obtain ⟨z, hzz⟩ := hz k (by omega)
    refine ⟨xs ++ [z], by simp [h1], fun i y hy => ?_⟩
    rcases Nat.lt_or_ge i xs.length with hi | hi
    ·rw [List.getElem?_append_left hi] at hy
     exact h2 i y hy
    ·rw [List.getElem?_append_right hi] at hy
     obtain ⟨rfl⟩ : i = xs.length := by
      rcases Nat.eq_or_lt_of_le hi with h | h
      ·exact h.symm
      ·rw [List.getElem?_eq_none (by simp; omega)] at hy; cases hy
     rw [Nat.sub_self] at hy
     obtain rfl := Option.some.inj hy
     rw [h1]
     exact hzz
  have hmx : maxLen ≤ 9223372036854775807 := by decide
  refine ⟨some a, xs, cap, by rw [hxl], by omega, by omega, rfl, by omega, fun _ => ⟨a, rfl, fun j p hp => ?_⟩⟩
  obtain ⟨cs', h1, h2⟩ := hx j p hp
  rw [hc] at h1
  obtain ⟨-, h3, h4⟩ := World.cells?_some h1
  refine ⟨cs', h3, h2, fun i u hu => ?_⟩
  have hi : i < d.sz := by
   rcases Nat.lt_or_ge i d.sz with h | h
   ·exact h
   ·rw [List.getElem?_eq_none (by omega)] at hu; cases hu
  rw [← Deep.add_add, h4 i hi, hu]
end
section
variable {H : Type} {enc : TypeId × Value → H} {w : World} {spare : Nat → Bool}
set_option maxRecDepth 100000 in
theorem open_refCap {n base : Nat} {cs : List Value} {y : DataW H × List MemPlace} (h : DataW.trod enc Try.prog w base spare true n 58 cs = some y) : ∃ z : S58, k58.K w z cs := by
 obtain ⟨y0, y1, m, -, hl, h0, h1⟩ := ChangeShapes.trod_struct2 Try.underlying58 h
 rw [show Try.prog.cellsOf 58 = 2 by kernel_rfl] at hl
 rw [show Try.prog.cellsOf 9 = 1 by kernel_rfl] at h0
 rw [show Try.prog.cellsOf 3 = 1 by kernel_rfl] at h1
 match cs, hl with
 | [v0, v1], _ =>
  obtain ⟨s, e0, -, -⟩ := DataW.trod_string Try.underlying9 h0
  obtain ⟨i, e1, -, -⟩ := DataW.trod_int Try.underlying3 h1
  simp at e0 e1
  subst e0
  subst e1
  exact ⟨⟨s, i⟩, k58_mk w ⟨s, i⟩⟩
set_option maxRecDepth 100000 in
theorem open_refHello {base : Nat} {r : Reach} {v : Value} {d : DataW H} {p : List MemPlace} (hv : Value.okWide Try.prog w r base 39 v) (h : DataW.Trod enc Try.prog w 0 spare true 39 v d p) :
  ∃ (a0 a1 : Int) (A : Option Addr) (c : Nat) (l : List S58), v = .agg #[.int .i64 a0, .int .i64 a1, .slice A l.length c] ∧ l.length ≤ c ∧ Kd.C k58 w A l.length l ∧ (Lit.int .i64 a0).wf = true ∧ (Lit.int .i64 a1).wf = true := by
 obtain ⟨cs, rfl, hsz⟩ := WideShapes.okWide_struct Try.underlying39 hv
 obtain ⟨n, h⟩ := h
 obtain ⟨y0, y1, y2, m, -, hl, h0, h1, h2⟩ := Deep.trod_struct3 Try.underlying39 h
 rw [show Try.prog.cellsOf 39 = 3 by kernel_rfl] at hl hsz
 rw [show Try.prog.cellsOf 3 = 1 by kernel_rfl] at h0 h1
 rw [show Try.prog.cellsOf 37 = 1 by kernel_rfl] at h2
 obtain ⟨i0, e0, -, w0⟩ := DataW.trod_int Try.underlying3 h0
 obtain ⟨i1, e1, -, w1⟩ := DataW.trod_int Try.underlying3 h1
 obtain ⟨A, xs, c, e2, hc, -, hC⟩ := open_row k58 Try.underlying37 (by kernel_rfl) (fun n _ cs' y hy => open_refCap hy) h2
 refine ⟨i0, i1, A, c, xs, ?_, hc, hC, w0, w1⟩
 have hcs : (Value.agg cs).cells = cs := rfl
 rw [hcs] at e0 e1 e2
 match cs, hsz with
 | ⟨[v0, v1, v2]⟩, _ =>
  simp at e0 e1 e2
  rw [e0, e1, e2]
end
end Go.Proofs.Yteoibgpkimlahaa.P
end
