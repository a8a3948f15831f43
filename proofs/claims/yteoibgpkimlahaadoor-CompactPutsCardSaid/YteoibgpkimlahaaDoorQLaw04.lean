/- The pure statements of layer 4's laws. -/
import Derived.Test.YteoibgpkimlahaaDoorQCompact
import Derived.Test.YteoibgpkimlahaaDoorFHatchwaylaw04CompactPuts
import Derived.Test.YteoibgpkimlahaaDoorFHatchwaylaw04CompactReads
namespace Go.Proofs.YteoibgpkimlahaaDoor.P
open Go.RowKit Go.Proofs.YteoibgpkimlahaaDoorW.PrintWords Go.Proofs.YteoibgpkimlahaaDoorW.PrintLast Go.Proofs.YteoibgpkimlahaaDoorW.PrintMore

theorem wf_u64 {a : Int} (h : (Lit.int .u64 a).wf = true) : 0 ≤ a ∧ a < 18446744073709551616 := by
  have hmin : IntKind.u64.min = 0 := rfl
  have hmax : IntKind.u64.max = 18446744073709551615 := rfl
  simp only [Lit.wf, Bool.and_eq_true, decide_eq_true_eq] at h
  omega
theorem wf_u8 {a : Int} (h : (Lit.int .u8 a).wf = true) : 0 ≤ a ∧ a < 256 := by
  have hmin : IntKind.u8.min = 0 := rfl
  have hmax : IntKind.u8.max = 255 := rfl
  simp only [Lit.wf, Bool.and_eq_true, decide_eq_true_eq] at h
  omega
theorem alive04 : hatchwaylaw04_alive.f = some true := by
  unfold hatchwaylaw04_alive.f
  rw [cNext_is, cPut_is 253 (by omega) (by omega)]
  have e1 : compL 253 = [253, 253, 0] := by decide +kernel
  have e2 : nextL (bytesOf (⟨#[253, 1, 0]⟩ : ByteArray)) = (0, 0, 3) := by decide +kernel
  have e3 : (strOfNums [253, 253, 0]).toList = [253, 253, 0] := by rw [toList_str]; decide
  simp only [Option.bind_some, e1, e2]
  rw [if_pos e3]
  rfl
theorem CompactPuts : hatchwaylaw04_CompactPuts.Pure := by
  intro n more wn hm
  obtain ⟨h0, h1⟩ := wf_u64 wn
  refine Ev.rounds ?_
  unfold hatchwaylaw04_CompactPuts.f
  rw [alive04]
  simp only [Option.bind_some, if_true]
  by_cases h100 : (more.size : Int) > 100
  · simp only [if_pos h100]; exact Ev.now _
  simp only [if_neg h100]
  rw [cPut_is n h0 h1]
  have hl := compL_length n
  have hz : (strOfNums (compL n)).size = (compL n).length := strOfNums_size _
  have hc : (strOfNums (compL n)).size + more.size ≤ 9223372036854775807 := by omega
  simp only [Option.bind_some, if_pos hc]
  have e : nextL (bytesOf (strOfNums (compL n) ++ more)) = (n, ((compL n).length : Int), 0) := by
    rw [bytesOf_append, bytesOf_str _ (compL_byte h0)]
    exact nextL_put n h0 h1 _
  rw [cNext_is, e]
  simp only [Option.bind_some]
  refine Ev.bind (rPut_is n h0 h1) ?_
  simp only [if_true, hz, beq_self_eq_true]
  exact Ev.now _
theorem CompactReads : hatchwaylaw04_CompactReads.Pure := by
  intro s cut hs wc
  obtain ⟨h0, h1⟩ := wf_u8 wc
  refine Ev.rounds ?_
  unfold hatchwaylaw04_CompactReads.f
  rw [alive04]
  simp only [Option.bind_some, if_true]
  by_cases h200 : (s.size : Int) > 200
  · simp only [if_pos h200]; exact Ev.now _
  simp only [if_neg h200]
  have hl := bytesOf_length s
  have hby := bytesOf_byte s
  rw [cNext_is]
  simp only [Option.bind_some]
  refine Ev.bind (rNext_is s hs) ?_
  rw [i64_small h0 (by omega)]
  obtain ⟨c, hc0, hc1⟩ : ∃ c : Nat, mn cut (s.size : Int) = (c : Int) ∧ (c : Int) ≤ s.size := ⟨(mn cut (s.size : Int)).toNat, by unfold mn; split <;> omega, by unfold mn; split <;> omega⟩
  have hc2 : (0 : Int) ≤ (c : Int) := by omega
  have e : nextL (bytesOf (s.extract 0 c)) = nextL ((bytesOf s).take c) := by
    rw [extract_str, List.drop_zero, bytesOf_str _ (isByte_take hby c)]
  simp only [hc0, if_pos hc2, if_pos hc1, Int.toNat_natCast, cNext_is, e, Option.bind_some, if_true]
  have tail : (if (nextL ((bytesOf s).take c)).2.2 = 2 then some true else if (nextL ((bytesOf s).take c)).1 = (nextL (bytesOf s)).1 then if (nextL ((bytesOf s).take c)).2.1 = (nextL (bytesOf s)).2.1 then some ((nextL ((bytesOf s).take c)).2.2 == (nextL (bytesOf s)).2.2) else some false else some false) = some true := by
    rcases nextL_take (bytesOf s) c with h | h
    · rw [if_pos h]
    · rw [h]
      simp
  by_cases hok : (nextL (bytesOf s)).2.2 = 0
  · obtain ⟨a1, a2, a3, a4, a5⟩ := nextL_ok hby hok
    have a6 : (nextL (bytesOf s)).2.1 ≤ (s.size : Int) := by omega
    have a7 : (strOfNums (compL (nextL (bytesOf s)).1)).toList = (s.extract 0 (nextL (bytesOf s)).2.1.toNat).toList := by
      rw [extract_str, List.drop_zero, a5]
    simp only [if_pos hok, cPut_is _ a1 a2, Option.bind_some, if_pos a3, if_pos a6, if_pos a7]
    rw [tail]
    exact Ev.now _
  · simp only [if_neg hok]
    rw [tail]
    exact Ev.now _
end Go.Proofs.YteoibgpkimlahaaDoor.P
