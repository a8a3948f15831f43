/- The table of sizes: what the row's condition gives, and a world that meets it. -/
import Derived.Test.YteoibgpkimlahaaDoorRows
import Derived.Test.YteoibgpkimlahaaDoorFCompactPut
import Derived.ProofKit
import Derived.ChangeSame
import Derived.ChangeVars
import Derived.JoinedOf
import Derived.RowKit
namespace Go.Proofs.YteoibgpkimlahaaDoor.P
open Go.ChangeShapes Go.WideShapes Go.RowKit

theorem gsizes : Tryd.prog.globalNamed "hatchway/compact.sizes" = some 0 := by kernel_rfl
theorem gsizesType : (Tryd.prog.globals[0]?).map (·.type) = some 67 := by kernel_rfl
theorem sizes_cells : Tryd.prog.cellsOf 67 = 3 := by kernel_rfl
theorem int_cells : Tryd.prog.cellsOf 3 = 1 := by kernel_rfl
theorem int_of_trod {H : Type} {enc : TypeId × Value → H} {P : Program} {w : World} {base : Nat} {sp : Nat → Bool} {held : Bool} {fuel : Nat} {t : TypeId} {k : IntKind} {c : Value} {y : DataW H × List MemPlace}
    (ht : P.underlying t = some (.int k)) (h : DataW.trod enc P w base sp held fuel t [c] = some y) : ∃ n, c = .int k n ∧ y = (.lit (.int k n), []) := by
  cases fuel with
  | zero => simp [DataW.trod] at h
  | succ fuel =>
    cases c <;> simp [DataW.trod, ht] at h
    rename_i k' n
    obtain ⟨⟨rfl, _⟩, rfl⟩ := h
    exact ⟨n, rfl, rfl⟩
def sizesCells : Array Value := #[.int .i64 2, .int .i64 4, .int .i64 8]
theorem sizes_of_laid {W : World} (h : laidMet Tryd.prog [("hatchway/compact.sizes", Rows.laid_hatchway_compact_sizes)] W) : W.var? Tryd.prog "hatchway/compact.sizes" = some sizesCells := by
  obtain ⟨ps, ⟨g, t, cs, fuel, p, q, hg, ht, hvar, hd, _, _⟩, _⟩ := h
  obtain rfl := Option.some.inj (gsizes.symm.trans hg)
  obtain rfl := Option.some.inj (gsizesType.symm.trans ht)
  rw [hvar]
  congr 1
  obtain ⟨l⟩ := cs
  cases fuel with
  | zero => simp [DataW.trod] at hd
  | succ fuel =>
    simp only [DataW.trod, Tryd.underlying67, sizes_cells, int_cells] at hd
    split at hd
    · rename_i hl
      obtain ⟨c0, c1, c2, rfl⟩ : ∃ c0 c1 c2, l = [c0, c1, c2] := by
        match l, hl with
        | [a, b, c], _ => exact ⟨a, b, c, rfl⟩
      have e : List.range 3 = [0, 1, 2] := rfl
      rw [e] at hd
      simp only [Option.map_eq_some_iff, List.mapM_cons, List.mapM_nil, Option.bind_eq_bind, Option.bind_eq_some_iff, Option.pure_def, Option.some.injEq] at hd
      obtain ⟨xs, ⟨y0, h0, _, ⟨y1, h1, _, ⟨y2, h2, _, rfl, rfl⟩, rfl⟩, rfl⟩, hx⟩ := hd
      obtain ⟨n0, rfl, rfl⟩ := int_of_trod Tryd.underlying3 h0
      obtain ⟨n1, rfl, rfl⟩ := int_of_trod Tryd.underlying3 h1
      obtain ⟨n2, rfl, rfl⟩ := int_of_trod Tryd.underlying3 h2
      simp [Rows.laid_hatchway_compact_sizes] at hx
      obtain ⟨⟨rfl, rfl, rfl⟩, _⟩ := hx
      rfl
    · cases hd
theorem G_of_sizes {W : World} (h : laidMet Tryd.prog [("hatchway/compact.sizes", Rows.laid_hatchway_compact_sizes)] W) : G_sizes W :=
  have hv := sizes_of_laid h
  ⟨World.var?_cell gsizes hv 0, World.var?_cell gsizes hv 1, World.var?_cell gsizes hv 2⟩
theorem compactPuts_laid {W : World} (h : laidMetH Tryd.prog Rows.compactPutsRow.laid W) : G_sizes W := G_of_sizes h
theorem compactReads_laid {W : World} (h : laidMetH Tryd.prog Rows.compactReadsRow.laid W) : G_sizes W := G_of_sizes h

/-- A world that meets the condition: the settled one, the table's cells laid. -/
noncomputable def laidWorld (os : Os) : World :=
  { World.holding Tryd.prog os ⟨#[], #[], []⟩ with heap := (World.holding Tryd.prog os ⟨#[], #[], []⟩).heap.modify 0 fun
      | .cells _ t frozen => .cells sizesCells t frozen
      | o => o }
theorem laidWorld_row (os : Os) (args : Array Value) : ((laidWorld os).forCall (fun _ _ => 0) ⟨#[], args, []⟩).memory.heap[0]? = some (.cells sizesCells 67 (0, 0)) := by kernel_rfl
set_option maxRecDepth 100000 in
theorem laidWorld_met (os : Os) (args : Array Value) : laidMet Tryd.prog [("hatchway/compact.sizes", Rows.laid_hatchway_compact_sizes)] ((laidWorld os).forCall (fun _ _ => 0) ⟨#[], args, []⟩).memory :=
  ⟨_, ⟨0, 67, sizesCells, 8, [], [], by kernel_rfl, by kernel_rfl, by kernel_rfl, by kernel_rfl, rfl, rfl⟩, by decide, fun b off h => by
    have h' : MemPlace.cell b off ∈ [MemPlace.cell 0 0, .cell 0 1, .cell 0 2] := h
    have hb : b = 0 := by
      simp at h'
      omega
    subst hb
    refine ⟨⟨_, _, laidWorld_row os args⟩, fun u v hc => ?_⟩
    simp only [World.cell?, laidWorld_row os args] at hc
    simp at h'
    rcases h' with rfl | rfl | rfl <;> simp [sizesCells] at hc⟩
end Go.Proofs.YteoibgpkimlahaaDoor.P
