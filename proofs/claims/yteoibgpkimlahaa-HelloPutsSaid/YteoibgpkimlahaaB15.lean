/- Whether any hello may be, and its bytes, or the error, are the document's; it is got again. (part 15 of 27) -/
import Derived.Deep.RegionLaw
import Derived.Test.YteoibgpkimlahaaB9
import Derived.Test.YteoibgpkimlahaaB10
import Derived.Test.YteoibgpkimlahaaB8
import Derived.Test.YteoibgpkimlahaaB6
section
namespace Go.Proofs.Yteoibgpkimlahaa.P
open Go.RowKit Go.Proofs.YteoibgpkimlahaaW.PrintWords Go.Proofs.YteoibgpkimlahaaW.PrintLast Go.Proofs.YteoibgpkimlahaaW.PrintMore
structure DecS (X : Nat → Prop) (w0 w : World) (g : Nat) (s : ByteArray) (a d t : Int) (v : Value) (st : List S151) (f : Int) : Prop where
 hb : w.heap[g]? = some (.cells #[.string s, .int .i64 a, .int .i64 d, .int .i64 t, v, .int .i64 f] 126 (0, 0))
 hS : Stk (fun k => k ≠ g ∧ X k) w0.heap.size w v st
 hg : w0.heap.size ≤ g
 hB : Below w0.heap.size w0 w
section
variable {X Y : Nat → Prop} {w w0 w1 : World} {g : Nat} {s : ByteArray} {a d t : Int} {v : Value} {A : Option Addr} {c : Nat} {st : List S151} {f : Int}
theorem DecS.dec (h : DecS X w0 w g s a d t v st f) : ∃ A c, v = .slice A st.length c ∧ IsDec w g s a d t A c st f := by
 obtain ⟨A, c, rfl, hc⟩ := h.hS.slice
 exact ⟨A, c, rfl, h.hb, fun W' hk => (h.hS.keep h.hb (by decide) (fun _ hk => hk.1) hk).reads⟩
theorem DecS.of_dec {a' t' f' : Int} (h : DecS X w0 w g s a d t (.slice A st.length c) st f) (h1 : IsDec w1 g s a' d t' A c st f') (hB : Below w0.heap.size w0 w1) (hk : KeepBut w w1 g none) : DecS X w0 w1 g s a' d t' (.slice A st.length c) st f' :=
 ⟨h1.hb, h.hS.keep h.hb (by decide) (fun _ hk => hk.1) hk, h.hg, hB⟩
theorem DecS.below (h : DecS X w0 w g s a d t v st f) (hb : Below w.heap.size w w1) : DecS X w0 w1 g s a d t v st f :=
 ⟨blk_below h.hb hb, h.hS.below hb, h.hg, h.hB.trans (hb.mono h.hB.size)⟩
theorem DecS.drewN (h : DecS X w0 w g s a d t v st f) (n : Nat) : DecS X w0 (w.drewN n) g s a d t v st f := h.below (pw_below_drewN (Below.refl _ _) n)
theorem DecS.alloc (h : DecS X w0 w g s a d t v st f) (o : Obj) : DecS X w0 (w.alloc o) g s a d t v st f := h.below (below_alloc (Below.refl _ _) o)
theorem DecS.lt (h : DecS X w0 w g s a d t v st f) : g < w.heap.size := blk_lt h.hb
theorem DecS.set {b j tb : Nat} {cells : Array Value} {u : Value} (h : DecS X w0 w g s a d t v st f) (hb : w.heap[b]? = some (.cells cells tb (0, 0))) (htb : tb ≠ 151) (hne : b ≠ g) (hge : w0.heap.size ≤ b) (hX : ∀ k, X k → k ≠ b) : DecS X w0 (w.setCell ⟨b, j, none⟩ u) g s a d t v st f :=
 ⟨blk_far h.hb (p := ⟨b, j, none⟩) (fun e => hne e.symm) u, h.hS.far hb htb (fun k hk => hX k hk.2) j u, h.hg, below_set h.hB hge⟩
theorem DecS.mono (h : DecS X w0 w g s a d t v st f) (hX : ∀ k, X k → Y k) : DecS Y w0 w g s a d t v st f := ⟨h.hb, h.hS.mono (fun k hk => ⟨hk.1, hX k hk.2⟩), h.hg, h.hB⟩
theorem DecS.later (h : DecS X w0 w g s a d t v st f) (b : Nat) (hb : w.heap.size ≤ b) : DecS (fun k => X k ∧ k ≠ b) w0 w g s a d t v st f := ⟨h.hb, (h.hS.later b hb).mono (fun _ hk => ⟨hk.1.1, hk.1.2, hk.2⟩), h.hg, h.hB⟩
theorem DecS.set3 {b : Nat} {x y z x' y' z' : Value} (h : DecS X w0 w g s a d t v st f) (hb : w.heap[b]? = some (.cells #[x, y, z] 62 (0, 0))) (hne : b ≠ g) (hge : w0.heap.size ≤ b) (hX : ∀ k, X k → k ≠ b) :
  DecS X w0 (((w.setCell ⟨b, 0, none⟩ x').setCell ⟨b, 1, none⟩ y').setCell ⟨b, 2, none⟩ z') g s a d t v st f ∧ (((w.setCell ⟨b, 0, none⟩ x').setCell ⟨b, 1, none⟩ y').setCell ⟨b, 2, none⟩ z').heap[b]? = some (.cells #[x', y', z'] 62 (0, 0)) := by
 have k1 := blk_put hb 0 x' rfl
 have k2 := blk_put k1 1 y' rfl
 have k3 := blk_put k2 2 z' rfl
 exact ⟨((h.set hb (by decide) hne hge hX).set k1 (by decide) hne hge hX).set k2 (by decide) hne hge hX, k3⟩
end
theorem cells3 {w : World} {g t : Nat} {x y z : Value} (h : w.heap[g]? = some (.cells #[x, y, z] t (0, 0))) : w.cell? ⟨g, 0, none⟩ = some x ∧ w.cell? ⟨g, 1, none⟩ = some y ∧ w.cell? ⟨g, 2, none⟩ = some z ∧ w.frozen? ⟨g, 0, none⟩ = false ∧ w.frozen? ⟨g, 1, none⟩ = false ∧ w.frozen? ⟨g, 2, none⟩ = false :=
 ⟨(blk_cell h 0).trans rfl, (blk_cell h 1).trans rfl, (blk_cell h 2).trans rfl, blk_frozen h 0, blk_frozen h 1, blk_frozen h 2⟩
def oneD (s : ByteArray) (a d t : Int) (st : List S151) : ByteArray × Bool × Int × List S151 × Int :=
 if startF s a d t st ≠ 0 then (strOfNums [0], true, a, st, startF s a d t st)
 else if bt s a < 128 then (strOfNums [bt s a], true, a + 1, st, 0)
 else if bt s a < 192 then
  if (lenD s (a + 1) st (bt s a - 128)).2.2 = 0 then
   (s.extract (lenD s (a + 1) st (bt s a - 128)).2.1.toNat ((lenD s (a + 1) st (bt s a - 128)).2.1 + (lenD s (a + 1) st (bt s a - 128)).1).toNat, true, (lenD s (a + 1) st (bt s a - 128)).2.1 + (lenD s (a + 1) st (bt s a - 128)).1, st,
    if (lenD s (a + 1) st (bt s a - 128)).1 = 1 ∧ bt s (lenD s (a + 1) st (bt s a - 128)).2.1 < 128 then 3 else 0)
  else (⟨#[]⟩, true, (lenD s (a + 1) st (bt s a - 128)).2.1, st, (lenD s (a + 1) st (bt s a - 128)).2.2)
 else (⟨#[]⟩, false, (lenD s (a + 1) st (bt s a - 192)).2.1, st ++ [⟨[], (lenD s (a + 1) st (bt s a - 192)).2.1 + (lenD s (a + 1) st (bt s a - 192)).1⟩], (lenD s (a + 1) st (bt s a - 192)).2.2)
def GetLeastOk : Prop := ∀ x : ByteArray, x.size ≤ 8 → ∃ m e, fixed_GetLeast.f x = some (m, e) ∧ 0 ≤ m ∧ m < 18446744073709551616 ∧ (x.size = 0 → m = 0 ∧ e = 0)
theorem lenD_ok (hG : GetLeastOk) {s : ByteArray} {a n : Int} {st : List S151} (hK : DecOk s a st) (h0 : 0 ≤ n) (h1 : n ≤ 63) :
  DecOk s (lenD s a st n).2.1 st ∧ 0 ≤ (lenD s a st n).1 ∧ (lenD s a st n).1 ≤ 1099511627776 ∧ ((lenD s a st n).2.2 = 0 → (lenD s a st n).1 ≤ endD s st - (lenD s a st n).2.1) ∧ a ≤ (lenD s a st n).2.1 := by
 have hk0 := hK.h0
 have hk1 := hK.h1
 have hk2 := hK.h2
 have hk3 := hK.h3
 unfold lenD
 by_cases c0 : n ≤ 55
 ·rw [if_pos c0]
  refine ⟨hK, h0, by show n ≤ _; omega, fun h => ?_, Int.le_refl _⟩
  show n ≤ endD s st - a
  by_cases c1 : endD s st - a < n
  ·rw [if_pos c1] at h
   have := failD_lack st 0
   unfold failD at this
   exact absurd h this
  ·omega
 ·rw [if_neg c0]
  by_cases c1 : endD s st - a < n - 55
  ·rw [if_pos c1]
   exact ⟨hK, Int.le_refl _, by omega, fun h => by show (0 : Int) ≤ endD s st - a; omega, Int.le_refl _⟩
  ·rw [if_neg c1]
   obtain ⟨m, e, hm, m0, m1, -⟩ := hG (s.extract a.toNat (a + (n - 55)).toNat) (by rw [ByteArray.size_extract]; omega)
   rw [hm]
   have hK2 : DecOk s (a + (n - 55)) st := ⟨by omega, by omega, hk2, hk3⟩
   simp only
   by_cases c2 : endD s st - (a + (n - 55)) < m
   ·rw [if_pos c2]
    exact ⟨hK2, Int.le_refl _, by omega, fun h => by show (0 : Int) ≤ endD s st - (a + (n - 55)); omega, by show a ≤ a + (n - 55); omega⟩
   ·rw [if_neg c2]
    exact ⟨hK2, m0, by show m ≤ _; omega, fun _ => by show m ≤ endD s st - (a + (n - 55)); omega, by show a ≤ a + (n - 55); omega⟩
theorem bt_bd (s : ByteArray) (i : Int) : 0 ≤ bt s i ∧ bt s i < 256 := by
 unfold bt
 split
 ·rename_i h
  have := (s[i.toNat]'h).toNat_lt
  omega
 ·omega
theorem startF_room {s : ByteArray} {a d t : Int} {st : List S151} (hK : DecOk s a st) (c0 : startF s a d t st = 0) : 1 ≤ endD s st - a := by
 have h1 := hK.h1
 by_cases h : endD s st - a = 0
 ·exfalso
  unfold startF startF2 startF1 at c0
  rw [if_pos h] at c0
  have hl := failD_lack st 0
  have e : failD 0 (lackE st) = lackE st := if_pos rfl
  rw [e] at hl
  have e2 : ∀ x, failD (lackE st) x = lackE st := fun x => if_neg hl
  rw [e2, e2] at c0
  exact hl c0
 ·omega
theorem oneD_text {s : ByteArray} {a d t : Int} {st : List S151} (h : startB s a d t st < 128) : oneD s a d t st = (strOfNums [startB s a d t st % 256], true, startA s a d t st, st, startF s a d t st) := by
 have hb := bt_bd s a
 unfold oneD
 unfold startB startA at *
 by_cases c : startF s a d t st = 0
 ·rw [if_pos c] at h
  rw [if_neg (by simpa using c), if_pos h, if_pos c, if_pos c, Int.emod_eq_of_lt hb.1 hb.2, c]
 ·rw [if_pos c, if_neg c, if_neg c]
  rfl
def OnePost (X : Nat → Prop) (w0 : World) (g : Nat) (s : ByteArray) (d t : Int) (x : ByteArray) (ok : Bool) (a : Int) (st : List S151) (f : Int) (e : Ending) (w' : World) : Prop :=
 e = .returned (.tuple #[.agg #[.string x, .bool false, .slice none 0 0], .bool ok]) ∧ ∃ v, DecS X w0 w' g s a d t v st f
section
variable {X Y : Nat → Prop} {w w0 w1 : World} {g : Nat} {s : ByteArray} {a d t : Int} {v : Value} {st : List S151} {f : Int}
set_option maxHeartbeats 8000000 in
set_option maxRecDepth 100000 in
theorem dec_one (hG : GetLeastOk) (hD : DecS X w0 w g s a d t v st 0) (hK : DecOk s a st) (ht : 0 ≤ t) (ht2 : t ≤ 1024) (hst : st.length ≤ 1000000) (hX : ∀ k, w.heap.size ≤ k → X k) :
  Calls Try.prog 83 #[.pointer (some ⟨g, 0, none⟩)] w (OnePost X w0 g s d (t - 1) (oneD s a d t st).1 (oneD s a d t st).2.1 (oneD s a d t st).2.2.1 (oneD s a d t st).2.2.2.1 (oneD s a d t st).2.2.2.2) := by
 obtain ⟨A, c, rfl, -⟩ := hD.dec
 have HD1 := Aside0.mk ((hD.later w.heap.size (Nat.le_refl _)).alloc (.cells #[.string ⟨#[]⟩, .bool false, .slice none 0 0] 62 (0, 0)))
 obtain ⟨A', c', e', hI⟩ := HD1.out.dec
 injection e' with e1 e2 e3
 subst e1
 subst e3
 have hg := hD.hg
 have hlt := hD.lt
 have kR := blk_new w (.cells #[.string ⟨#[]⟩, .bool false, .slice none 0 0] 62 (0, 0))
 have hS := dec_start hI HD1.out.hB hg hK ht (by omega)
 have HG := Aside0.mk hG
 have HK := Aside0.mk hK
 have HS := Aside0.mk hS
 have hne : w.heap.size ≠ g := by omega
 have hge : w0.heap.size ≤ w.heap.size := hD.hB.size
 go_enter Try.func83, Try.ntmps83
 go_wp2_with fail
 generalize w.alloc (.cells #[.string ⟨#[]⟩, .bool false, .slice none 0 0] 62 (0, 0)) = wa at HD1 hI kR HS hS ⊢
 refine HS.out.mono ?_
 rintro e w2 ⟨rfl, hi, hb, hk⟩
 have HD2 := Aside0.mk (HD1.out.of_dec hi hb hk)
 have KR2 := Aside0.mk (hk.blk kR hne (by simp))
 have HI2 := Aside0.mk hi
 clear hI hS HS kR hi hb hk hG hD hK
 have KB := Aside0.mk hge
 by_cases c1 : startB s a d t st < 128
 ·have e0 : oneD s a d t st = (strOfNums [startB s a d t st % 256], true, startA s a d t st, st, startF s a d t st) := oneD_text c1
  have E0 := Aside0.mk e0
  have d1 : decide (startB s a d t st < 128) = true := decide_eq_true c1
  generalize startB s a d t st = b at d1 E0 ⊢
  clear e0 c1
  go_wp2_with (first | ((with_reducible refine gate_dst (N := 13) rfl ?_); refine Kd.R_lit (Kd.int .u8) _ 5 ?hg (N := 13) ?hd (xs := ([b % 256] : List Int)) (inner := [.int .u8 (b % 256)]) (ok := fun _ => True) (okp := fun _ => True) ?hr ?hp (fun _ hk => hk) trivial (Below.refl _ _) (Nat.le_refl _) (by simp) ?_; (case hd => rfl); (case hg => rfl); (case hr => first | (go_simp; done) | (go_simp; rfl)); (case hp => exact (Reps.one (show Kd.M (Kd.int .u8) _ _ _ (b % 256) [.int .u8 (b % 256)] from rfl) (Reps.none _ _))); intro v102 w4 ho5 hb hg_ hnew_; clear hg_ hnew_; have HO := Aside0.mk ho5; have D3 := Aside0.mk (HD2.out.below hb); have KR3 := Aside0.mk (blk_below KR2.out hb); obtain ⟨q0, q1, q2, f0, f1, f2⟩ := cells3 KR3.out; clear hb ho5; have hcv6 := own_string (P := Try.prog) Try.underlying100 Try.underlying5 Try.underlying9 (Kd.own_of_R HO.out)))
  have KR4 := blk_put (blk_put (blk_put KR3.out 0 (.string (strOfNums [b % 256])) rfl) 1 (.bool false) rfl) 2 (.slice none 0 0) rfl
  refine bodyPost_ret (results_ct rfl _ _ w.heap.size 62 #[.string (strOfNums [b % 256]), .bool false, .slice none 0 0] (0, 0) _ rfl KR4 Try.underlying62 rfl (by kernel_rfl)) rfl ?_
  rw [E0.out]
  exact ⟨rfl, _, (D3.out.set3 KR3.out hne KB.out (fun _ hk => hk.2)).1.mono (fun _ hk => hk.1)⟩
 ·have hsf : startF s a d t st = 0 := by
   rcases Int.decEq (startF s a d t st) 0 with h | h
   ·exact absurd (show startB s a d t st < 128 by unfold startB; rw [if_neg h]; omega) c1
   ·exact h
  have hsb : startB s a d t st = bt s a := if_pos hsf
  have hsa : startA s a d t st = a + 1 := if_pos hsf
  have hend : 1 ≤ endD s st - a := startF_room HK.out hsf
  rw [hsf, hsa] at HD2 HI2
  rw [hsb] at c1 ⊢
  have hbb := bt_bd s a
  have HK1 := Aside0.mk (show DecOk s (a + 1) st from ⟨by have := HK.out.h0; omega, by omega, HK.out.h2, HK.out.h3⟩)
  obtain ⟨b, hb⟩ : ∃ b, bt s a = b := ⟨_, rfl⟩
  rw [hb] at c1 hbb ⊢
  have d1 : decide (b < 128) = false := decide_eq_false c1
  by_cases c2 : b < 192
  ·have d2 : decide (b < 192) = true := decide_eq_true c2
   obtain ⟨n, hn⟩ : ∃ n, b - 128 = n := ⟨_, rfl⟩
   have hw : wrap64 (b - 128) = n := by rw [← hn]; unfold wrap64; omega
   obtain ⟨⟨rn, ra, rf⟩, hr⟩ : ∃ r, lenD s (a + 1) st n = r := ⟨_, rfl⟩
   have hle := lenD_ok HG.out HK1.out (show 0 ≤ n by omega) (show n ≤ 63 by omega)
   have hlen := dec_length n HI2.out HD2.out.hB HD2.out.hg HK1.out (by omega) (by omega) HG.out
   rw [hr] at hle hlen
   dsimp only at hle hlen
   obtain ⟨hk2, hn0, hn1, hn2, -⟩ := hle
   have HK2 := Aside0.mk hk2
   have HLN := Aside0.mk hlen
   have HN := Aside0.mk (And.intro hn0 (And.intro hn1 hn2))
   by_cases c3 : rf = 0
   ·subst c3
    have HN2 := Aside0.mk (hn2 rfl)
    obtain ⟨y, hy⟩ : ∃ y, (if rn = 1 ∧ bt s ra < 128 then (3 : Int) else 0) = y := ⟨_, rfl⟩
    have E0 := Aside0.mk (show oneD s a d t st = (s.extract ra.toNat (ra + rn).toNat, true, ra + rn, st, y) by
     unfold oneD; rw [if_neg (by simpa using hsf), hb, if_neg c1, if_pos c2, hn, hr, ← hy]; exact if_pos rfl)
    have HY := Aside0.mk hy
    obtain ⟨x, hx⟩ : ∃ x, s.extract ra.toNat (ra + rn).toNat = x := ⟨_, rfl⟩
    have hxs : ((x.size : Int) == 1) = decide (rn = 1) := by
     rw [← hx, ByteArray.size_extract, Bool.eq_iff_iff]
     have := HN.out.1; have := HN2.out; have := HK2.out.h0; have := HK2.out.h2
     simp only [beq_iff_eq, decide_eq_true_eq]
     omega
    have hx0 : ∀ h : 0 < x.size, ((x[0]'h).toNat : Int) = bt s ra := by
     intro h
     have := HN.out.1; have := HN2.out; have := HK2.out.h0; have := HK2.out.h2
     have h2 : 0 < (s.extract ra.toNat (ra + rn).toNat).size := by rw [hx]; exact h
     have hh := h2
     rw [ByteArray.size_extract] at hh
     have e : (x[0]'h) = s[ra.toNat]'(by omega) := by
      subst hx
      rw [ByteArray.getElem_extract]
      simp
     rw [e]
     unfold bt
     rw [dif_pos (by omega)]
    rw [hx] at E0
    have HXX := Aside0.mk hx
    have HX0 := Aside0.mk hx0
    clear hx hx0 hy hr hlen hk2 hn0 hn1 hn2 hb hbb hsf hsb hsa hend c1 c2 hn
    cases hc : decide (rn = 1)
    ·rw [hc] at hxs
     have EY := Aside0.mk (show y = 0 by rw [← HY.out, if_neg (fun h => of_decide_eq_false hc h.1)])
     clear hc
     go_wp2_with fail
     refine HLN.out.mono ?_
     rintro e3 w3 ⟨rfl, hi, hb, hk⟩
     have D3 := Aside0.mk (HD2.out.of_dec hi hb hk)
     have I3 := Aside0.mk hi
     have KR3 := Aside0.mk (hk.blk KR2.out hne (by simp))
     clear hi hb hk
     go_wp2_with fail
     refine (dec_take_ok rn I3.out D3.out.hB D3.out.hg HK2.out HN.out.1 (HN2.out)).mono ?_
     rintro e4 w4 ⟨rfl, hi, hb, hk⟩
     rw [HXX.out]
     have D4 := Aside0.mk (D3.out.of_dec hi hb hk)
     have KR4 := Aside0.mk (hk.blk KR3.out hne (by simp))
     clear hi hb hk
     obtain ⟨q0, q1, q2, f0, f1, f2⟩ := cells3 KR4.out
     go_wp2
     have KRz := blk_put (blk_put (blk_put KR4.out 0 (.string x) rfl) 1 (.bool false) rfl) 2 (.slice none 0 0) rfl
     refine bodyPost_ret (results_ct rfl _ _ w.heap.size 62 #[.string x, .bool false, .slice none 0 0] (0, 0) _ rfl KRz Try.underlying62 rfl (by kernel_rfl)) rfl ?_
     rw [E0.out, EY.out]
     exact ⟨rfl, _, (D4.out.set3 KR4.out hne KB.out (fun _ hk => hk.2)).1.mono (fun _ hk => hk.1)⟩
    ·rw [hc] at hxs
     have hr1 : rn = 1 := of_decide_eq_true hc
     have q9 : 0 < x.size := by have := of_decide_eq_true (p := (x.size : Int) = 1) (by simpa using hxs); omega
     have q8 := HX0.out q9
     cases hc2 : decide (bt s ra < 128)
     ·have EY := Aside0.mk (show y = 0 by rw [← HY.out, if_neg (fun h => of_decide_eq_false hc2 h.2)])
      have d9 : decide (((x[0]'q9).toNat : Int) < 128) = false := by rw [q8]; exact hc2
      clear hc hc2 q8 hr1
      go_wp2_with fail
      refine HLN.out.mono ?_
      rintro e3 w3 ⟨rfl, hi, hb, hk⟩
      have D3 := Aside0.mk (HD2.out.of_dec hi hb hk)
      have I3 := Aside0.mk hi
      have KR3 := Aside0.mk (hk.blk KR2.out hne (by simp))
      clear hi hb hk
      go_wp2_with fail
      refine (dec_take_ok rn I3.out D3.out.hB D3.out.hg HK2.out HN.out.1 (HN2.out)).mono ?_
      rintro e4 w4 ⟨rfl, hi, hb, hk⟩
      rw [HXX.out]
      have D4 := Aside0.mk (D3.out.of_dec hi hb hk)
      have KR4 := Aside0.mk (hk.blk KR3.out hne (by simp))
      clear hi hb hk
      obtain ⟨q0, q1, q2, f0, f1, f2⟩ := cells3 KR4.out
      go_wp2
      have KRz := blk_put (blk_put (blk_put KR4.out 0 (.string x) rfl) 1 (.bool false) rfl) 2 (.slice none 0 0) rfl
      refine bodyPost_ret (results_ct rfl _ _ w.heap.size 62 #[.string x, .bool false, .slice none 0 0] (0, 0) _ rfl KRz Try.underlying62 rfl (by kernel_rfl)) rfl ?_
      rw [E0.out, EY.out]
      exact ⟨rfl, _, (D4.out.set3 KR4.out hne KB.out (fun _ hk => hk.2)).1.mono (fun _ hk => hk.1)⟩
     ·have EY := Aside0.mk (show y = 3 by rw [← HY.out, if_pos ⟨hr1, of_decide_eq_true hc2⟩])
      have d9 : decide (((x[0]'q9).toNat : Int) < 128) = true := by rw [q8]; exact hc2
      clear hc hc2 q8 hr1
      go_wp2_with fail
      refine HLN.out.mono ?_
      rintro e3 w3 ⟨rfl, hi, hb, hk⟩
      have D3 := Aside0.mk (HD2.out.of_dec hi hb hk)
      have I3 := Aside0.mk hi
      have KR3 := Aside0.mk (hk.blk KR2.out hne (by simp))
      clear hi hb hk
      go_wp2_with fail
      refine (dec_take_ok rn I3.out D3.out.hB D3.out.hg HK2.out HN.out.1 (HN2.out)).mono ?_
      rintro e4 w4 ⟨rfl, hi, hb, hk⟩
      rw [HXX.out]
      have D4 := Aside0.mk (D3.out.of_dec hi hb hk)
      have I4 := Aside0.mk hi
      have KR4 := Aside0.mk (hk.blk KR3.out hne (by simp))
      clear hi hb hk
      go_wp2_with fail
      refine (dec_fail 3 I4.out D4.out.hB D4.out.hg).mono ?_
      rintro e5 w5 ⟨rfl, hi, hb, hk⟩
      have D5 := Aside0.mk (show DecS _ w0 w5 g s _ d _ _ st 3 from D4.out.of_dec hi hb hk)
      have KR5 := Aside0.mk (hk.blk KR4.out hne (by simp))
      clear hi hb hk
      obtain ⟨q0, q1, q2, f0, f1, f2⟩ := cells3 KR5.out
      go_wp2
      have KRz := blk_put (blk_put (blk_put KR5.out 0 (.string x) rfl) 1 (.bool false) rfl) 2 (.slice none 0 0) rfl
      refine bodyPost_ret (results_ct rfl _ _ w.heap.size 62 #[.string x, .bool false, .slice none 0 0] (0, 0) _ rfl KRz Try.underlying62 rfl (by kernel_rfl)) rfl ?_
      rw [E0.out, EY.out]
      exact ⟨rfl, _, (D5.out.set3 KR5.out hne KB.out (fun _ hk => hk.2)).1.mono (fun _ hk => hk.1)⟩
   ·have E0 := Aside0.mk (show oneD s a d t st = (⟨#[]⟩, true, ra, st, rf) by
     unfold oneD; rw [if_neg (by simpa using hsf), hb, if_neg c1, if_pos c2, hn, hr]; exact if_neg c3)
    have EF := Aside0.mk (show failD rf (lackE st) = rf from if_neg c3)
    have C3 := Aside0.mk c3
    clear hr hlen hk2 hn0 hn1 hn2 hb hbb hsf hsb hsa hend c1 c2 hn c3
    go_wp2_with fail
    refine HLN.out.mono ?_
    rintro e3 w3 ⟨rfl, hi, hb, hk⟩
    have D3 := Aside0.mk (HD2.out.of_dec hi hb hk)
    have I3 := Aside0.mk hi
    have KR3 := Aside0.mk (hk.blk KR2.out hne (by simp))
    clear hi hb hk
    go_wp2_with fail
    refine (dec_take_no rn I3.out D3.out.hB D3.out.hg HK2.out (.inl C3.out)).mono ?_
    rintro e4 w4 ⟨rfl, hi, hb, hk⟩
    rw [EF.out] at hi
    have D4 := Aside0.mk (D3.out.of_dec hi hb hk)
    have KR4 := Aside0.mk (hk.blk KR3.out hne (by simp))
    clear hi hb hk
    obtain ⟨q0, q1, q2, f0, f1, f2⟩ := cells3 KR4.out
    go_wp2
    have KRz := blk_put (blk_put (blk_put KR4.out 0 (.string ⟨#[]⟩) rfl) 1 (.bool false) rfl) 2 (.slice none 0 0) rfl
    refine bodyPost_ret (results_ct rfl _ _ w.heap.size 62 #[.string ⟨#[]⟩, .bool false, .slice none 0 0] (0, 0) _ rfl KRz Try.underlying62 rfl (by kernel_rfl)) rfl ?_
    rw [E0.out]
    exact ⟨rfl, _, (D4.out.set3 KR4.out hne KB.out (fun _ hk => hk.2)).1.mono (fun _ hk => hk.1)⟩
  ·have d2 : decide (b < 192) = false := decide_eq_false c2
   obtain ⟨n, hn⟩ : ∃ n, b - 192 = n := ⟨_, rfl⟩
   have hw : wrap64 (b - 192) = n := by rw [← hn]; unfold wrap64; omega
   obtain ⟨⟨rn, ra, rf⟩, hr⟩ : ∃ r, lenD s (a + 1) st n = r := ⟨_, rfl⟩
   have hle := lenD_ok HG.out HK1.out (show 0 ≤ n by omega) (show n ≤ 63 by omega)
   have hlen := dec_length n HI2.out HD2.out.hB HD2.out.hg HK1.out (by omega) (by omega) HG.out
   rw [hr] at hle hlen
   dsimp only at hle hlen
   obtain ⟨hk2, hn0, hn1, -, -⟩ := hle
   have HLN := Aside0.mk hlen
   have E0 := Aside0.mk (show oneD s a d t st = (⟨#[]⟩, false, ra, st ++ [⟨[], ra + rn⟩], rf) by
    unfold oneD; rw [if_neg (by simpa using hsf), hb, if_neg c1, if_neg c2, hn, hr])
   obtain ⟨en, hen⟩ : ∃ en, ra + rn = en := ⟨_, rfl⟩
   have hwe : IntKind.i64.wrap (ra + rn) = en := by rw [← hen, i64_w]; have := hk2.h0; have := hk2.h1; have := hk2.h2; have := hk2.h3; unfold wrap64; omega
   rw [hen] at E0
   have HST := Aside0.mk hst
   have HX := Aside0.mk hX
   have HLT := Aside0.mk hlt
   clear hr hlen hk2 hn0 hn1 hb hbb hsf hsb hsa hend c1 c2 hn hen hst hX
   go_wp2_with fail
   refine HLN.out.mono ?_
   rintro e3 w3 ⟨rfl, hi, hb, hk⟩
   have D3 := Aside0.mk (HD2.out.of_dec hi hb hk)
   have KR3 := Aside0.mk (hk.blk KR2.out hne (by simp))
   have KK3 := Aside0.mk (show w.heap.size < w3.heap.size from blk_lt KR3.out)
   obtain ⟨r0, r1, r2, r3, r4, r5⟩ := hi.reads
   clear hi hb hk
   have z4 : ∀ o, (w3.alloc o).cell? ⟨g, 4, none⟩ = some (.slice A st.length c) := fun o => (blk_cell (blk_alloc D3.out.hb o) 4).trans rfl
   have z1 : ∀ o, (w3.alloc o).cell? ⟨g, 1, none⟩ = some (.int .i64 ra) := fun o => (blk_cell (blk_alloc D3.out.hb o) 1).trans rfl
   go_wp2
   go_region_law
    (first | (refine stk_push_step (W := w3.drew) (w0 := w0) w0.heap.size rfl (.tmp 44) (.tmp 52) rfl (.slice A st.length c) st en rfl rfl (D3.out.drewN 1).hS (below_drew D3.out.hB) D3.out.hB.size HST.out ?_; intro v1 w1 hS1 hB1 hG1 hv1; have hgne := D3.out.hS.row_ne' D3.out.hb (by decide); obtain ⟨gg, cap, rfl⟩ := hv1; have hg1 := blk_grown (blk_drew D3.out.hb) hG1 hgne; have q4 := (blk_cell hg1 4).trans rfl; have q1 := (blk_cell hg1 1).trans rfl; have fz4 := blk_frozen hg1 4))
   all_goals
    have KR4 := Aside0.mk (blk_far (p := ⟨g, 4, none⟩) (blk_grown (blk_drew KR3.out) hG1 (D3.out.hS.row_ne' KR3.out (by decide))) hne (.slice (some ⟨gg, 0, none⟩) (st.length + 1) cap))
    have D4 := Aside0.mk (show DecS (fun k => X k ∧ k ≠ w.heap.size) w0 (w1.setCell ⟨g, 4, none⟩ (.slice (some ⟨gg, 0, none⟩) (st.length + 1) cap)) g s ra d (t - 1) (.slice (some ⟨gg, 0, none⟩) (st.length + 1) cap) (st ++ [⟨[], en⟩]) rf from
     ⟨blk_put hg1 4 (.slice (some ⟨gg, 0, none⟩) (st.length + 1) cap) rfl, hS1.far hg1 (by decide) (fun k hk => hk.1) 4 _, D3.out.hg, below_set hB1 D3.out.hg⟩)
    generalize w1.setCell ⟨g, 4, none⟩ (.slice (some ⟨gg, 0, none⟩) (st.length + 1) cap) = w5 at KR4 D4 ⊢
    clear hS1 hB1 hG1 hgne hg1 q4 q1 fz4 z4 z1 r0 r1 r2 r3 r4 r5
    obtain ⟨q0, q1, q2, f0, f1, f2⟩ := cells3 KR4.out
    go_wp2
    have KRz := blk_put (blk_put (blk_put KR4.out 0 (.string ⟨#[]⟩) rfl) 1 (.bool false) rfl) 2 (.slice none 0 0) rfl
    refine bodyPost_ret (results_ct rfl _ _ w.heap.size 62 #[.string ⟨#[]⟩, .bool false, .slice none 0 0] (0, 0) _ rfl KRz Try.underlying62 rfl (by kernel_rfl)) rfl ?_
    rw [E0.out]
    exact ⟨rfl, _, (D4.out.set3 KR4.out hne KB.out (fun _ hk => hk.2)).1.mono (fun _ hk => hk.1)⟩
end
end Go.Proofs.Yteoibgpkimlahaa.P
end
section
namespace Go.Proofs.Yteoibgpkimlahaa.P
open Go.RowKit Go.Proofs.YteoibgpkimlahaaW.PrintWords Go.Proofs.YteoibgpkimlahaaW.PrintLast Go.Proofs.YteoibgpkimlahaaW.PrintMore
set_option linter.unusedSimpArgs false
def shutD (a : Int) : Nat → Bool → S62 → List S151 → Bool × S62 × List S151
 | 0, _, x, _ => (true, x, [])
 | n + 1, ok, x, st =>
  if a < (rd_T151 st n).f1 then (false, z62, if ok = true then st.set n ⟨(rd_T151 st n).f0 ++ [x], (rd_T151 st n).f1⟩ else st)
  else shutD a n true ⟨⟨#[]⟩, true, if ok = true then (rd_T151 st n).f0 ++ [x] else (rd_T151 st n).f0⟩ (st.take n)
def shutT (ok : Bool) (x : S62) (o : S151) (st : List S151) (n : Nat) : List S151 := if ok = true then st.set n ⟨o.f0 ++ [x], o.f1⟩ else st
def ShutPost (X : Nat → Prop) (w0 : World) (g : Nat) (s : ByteArray) (a d t : Int) (r : Bool × S62 × List S151) (e : Ending) (w' : World) : Prop :=
 ∃ vx v, e = .returned (.tuple #[.agg #[.string r.2.1.f0, .bool r.2.1.f1, vx], .bool r.1]) ∧ (∃ okx : Nat → Prop, (∀ k, okx k → X k ∧ k ≠ g) ∧ k62.R 62 w' w0.heap.size okx vx r.2.1.f2 ∧ DecS (fun k => X k ∧ ¬ okx k) w0 w' g s a d t v r.2.2 0)
def ShutS (X : Nat → Prop) (w0 w : World) (g b4 b6 : Nat) (s : ByteArray) (a d t : Int) (x : S62) (st : List S151) : Prop :=
 ∃ (vx v : Value) (okx : Nat → Prop), (∀ k, okx k → X k ∧ k ≠ g ∧ k ≠ b4 ∧ k ≠ b6) ∧ k62.R 62 w w0.heap.size okx vx x.f2 ∧ DecS (fun k => X k ∧ k ≠ b4 ∧ k ≠ b6 ∧ ¬ okx k) w0 w g s a d t v st 0 ∧
  w.heap[b4]? = some (.cells #[.string x.f0, .bool x.f1, vx] 62 (0, 0)) ∧ w.heap[b6]? = some (.cells #[.string ⟨#[]⟩, .bool false, .slice none 0 0] 62 (0, 0))
structure Rnd (X : Nat → Prop) (w0 w : World) (g b4 b6 : Nat) (s : ByteArray) (a d t : Int) (x : S62) (st : List S151) (n : Nat) (o : S151) (gs cap cl cx : Nat) (Al Ax : Option Addr) (oki okx : Nat → Prop) (cur : Array Value) : Prop where
 hg : w0.heap.size ≤ g
 hB : Below w0.heap.size w0 w
 kg : w.heap[g]? = some (.cells #[.string s, .int .i64 a, .int .i64 d, .int .i64 t, .slice (some ⟨gs, 0, none⟩) (n + 1) cap, .int .i64 0] 126 (0, 0))
 ks : w.heap[gs]? = some (.cells cur 151 (0, 0))
 c0 : cur[n * 2]? = some (.slice Al o.f0.length cl)
 c1 : cur[n * 2 + 1]? = some (.int .i64 o.f1)
 hgs : w0.heap.size ≤ gs
 hcap : n + 1 ≤ cap
 k4 : w.heap[b4]? = some (.cells #[.string x.f0, .bool x.f1, .slice Ax x.f2.length cx] 62 (0, 0))
 k6 : w.heap[b6]? = some (.cells #[.string ⟨#[]⟩, .bool false, .slice none 0 0] 62 (0, 0))
 rx : k62.R 62 w w0.heap.size okx (.slice Ax x.f2.length cx) x.f2
 rl : k62.R 62 w w0.heap.size oki (.slice Al o.f0.length cl) o.f0
 ox : ∀ k, okx k → X k ∧ k ≠ g ∧ k ≠ b4 ∧ k ≠ b6
 oi : ∀ k, oki k → k ≠ g ∧ X k ∧ k ≠ b4 ∧ k ≠ b6 ∧ ¬ okx k
 hput : ∀ (w2 : World) (okn okY : Nat → Prop) (v' : Value) (l' : List S62), w2.heap[gs]? = some (.cells (cur.setIfInBounds (2 * n) v') 151 (0, 0)) → (∀ k, (k ≠ g ∧ X k ∧ k ≠ b4 ∧ k ≠ b6 ∧ ¬ okx k) → ¬ oki k → k ≠ gs → k < w.heap.size → w2.heap[k]? = w.heap[k]?) → k62.R 62 w2 w0.heap.size okn v' l' → (∀ k, okn k → okY k) → (∀ k, (k ≠ g ∧ X k ∧ k ≠ b4 ∧ k ≠ b6 ∧ ¬ okx k) → okY k) → (∀ k, (k ≠ g ∧ X k ∧ k ≠ b4 ∧ k ≠ b6 ∧ ¬ okx k) → k < w.heap.size → ¬ oki k → ¬ okn k) →
  Stk okY w0.heap.size w2 (.slice (some ⟨gs, 0, none⟩) (n + 1) cap) (st.set n ⟨l', o.f1⟩)
theorem row_set3 {w : World} {base b : Nat} {okx : Nat → Prop} {vx : Value} {xs : List S62} (h : k62.R 62 w base okx vx xs) (hok : ∀ k, okx k → k ≠ b) (x y z : Value) : k62.R 62 (((w.setCell ⟨b, 0, none⟩ x).setCell ⟨b, 1, none⟩ y).setCell ⟨b, 2, none⟩ z) base okx vx xs :=
 Kd.R_far (p := ⟨b, 2, none⟩) (Kd.R_far (p := ⟨b, 1, none⟩) (Kd.R_far (p := ⟨b, 0, none⟩) h hok x) hok y) hok z
theorem stk_set3 {w : World} {ok : Nat → Prop} {base b : Nat} {v x y z : Value} {st : List S151} (h : Stk ok base w v st) (hb : w.heap[b]? = some (.cells #[x, y, z] 62 (0, 0))) (hok : ∀ k, ok k → k ≠ b) (x' y' z' : Value) : Stk ok base (((w.setCell ⟨b, 0, none⟩ x').setCell ⟨b, 1, none⟩ y').setCell ⟨b, 2, none⟩ z') v st := by
 have k1 := blk_put hb 0 x' rfl
 have k2 := blk_put k1 1 y' rfl
 exact ((h.far hb (by decide) hok 0 x').far k1 (by decide) hok 1 y').far k2 (by decide) hok 2 z'
theorem shutT_take (ok : Bool) (x : S62) (o : S151) (st : List S151) (n : Nat) : (shutT ok x o st n).take n = st.take n := by
 unfold shutT
 split
 ·rw [List.take_set_of_le (Nat.le_refl n)]
 ·rfl
theorem shutT_len (ok : Bool) (x : S62) (o : S151) (st : List S151) (n : Nat) : (shutT ok x o st n).length = st.length := by unfold shutT; split <;> simp
theorem shutT_top (ok : Bool) (x : S62) (o : S151) (st : List S151) (n : Nat) (hn : st.length = n + 1) (ho : rd_T151 st n = o) : rd_T151 (shutT ok x o st n) n = ⟨if ok = true then o.f0 ++ [x] else o.f0, o.f1⟩ := by
 unfold shutT
 cases ok
 ·rw [if_neg (by simp), if_neg (by simp), ho]
 ·rw [if_pos rfl, if_pos rfl]
  simp [rd_T151, List.getD, hn]
theorem far3 (w : World) (b i : Nat) (x y z : Value) (k : Nat) (hk : k ≠ b) : (((w.setCell ⟨b, i, none⟩ x).setCell ⟨b, i + 1, none⟩ y).setCell ⟨b, i + 2, none⟩ z).heap[k]? = w.heap[k]? :=
 (Below.heap_setCell _ ⟨b, i + 2, none⟩ z k hk).trans ((Below.heap_setCell _ ⟨b, i + 1, none⟩ y k hk).trans (Below.heap_setCell w ⟨b, i, none⟩ x k hk))
theorem row_last {W : World} {base gl cap m : Nat} {okn okx : Nat → Prop} {xs : List S62} {x' : S62} {vx : Value} (h : k62.R 62 W base okn (.slice (some ⟨gl, 0, none⟩) (m + 1) cap) (xs ++ [z62])) (hm : xs.length = m) (hx : k62.R 62 W base okx vx x'.f2) (hok : ∀ k, okx k → okn k ∧ k ≠ gl) :
  (∃ c0 c1 c2, W.cell? ⟨gl, m * 3, none⟩ = some c0 ∧ W.cell? ⟨gl, m * 3 + 1, none⟩ = some c1 ∧ W.cell? ⟨gl, m * 3 + 2, none⟩ = some c2) ∧ (∀ j, W.frozen? ⟨gl, j, none⟩ = false) ∧
  k62.R 62 (((W.setCell ⟨gl, m * 3, none⟩ (.string x'.f0)).setCell ⟨gl, m * 3 + 1, none⟩ (.bool x'.f1)).setCell ⟨gl, m * 3 + 2, none⟩ vx) base okn (.slice (some ⟨gl, 0, none⟩) (m + 1) cap) (xs ++ [x']) := by
 obtain ⟨c, hcl, hM, hcc, hf⟩ := Kd.R_elem h z62 (m : Int) (by omega) (by omega)
 obtain ⟨v2, rfl, -⟩ := k62_openM hM
 obtain ⟨b, cap', he, -, -, cells, hc⟩ := Kd.R_form h (by simp)
 injection he with he _ _
 injection he with he
 injection he with he
 subst he
 have hs := (Kd.R_seg h (m : Int) (by omega) (by omega) (c := _) (seg := [.string x'.f0, .bool x'.f1, vx]) (j := 0) (x' := x') (okp := okx) hcl hcc (Nat.le_refl 3) (k62_mkM _ _ _ x' hx) hok).1
 refine ⟨⟨_, _, _, hcc 0 _ rfl, hcc 1 _ rfl, hcc 2 _ rfl⟩, fun j => blk_frozen hc j, ?_⟩
 have e : (xs ++ [z62]).set (m : Int).toNat x' = xs ++ [x'] := by
  rw [Int.toNat_natCast, ← hm, List.set_append_right _ _ (Nat.le_refl _), Nat.sub_self]
  rfl
 rw [e] at hs
 exact hs
section
variable {X : Nat → Prop} {w w0 w1 : World} {g b4 b6 : Nat} {s : ByteArray} {a d t : Int} {x : S62} {v : Value} {st : List S151} {f : Int}
theorem ShutS.below (h : ShutS X w0 w g b4 b6 s a d t x st) (hb : Below w.heap.size w w1) : ShutS X w0 w1 g b4 b6 s a d t x st := by
 obtain ⟨vx, v, okx, h1, h2, h3, h4, h5⟩ := h
 exact ⟨vx, v, okx, h1, Kd.R_below h2 hb, h3.below hb, blk_below h4 hb, blk_below h5 hb⟩
theorem ShutS.rnd (h : ShutS X w0 w g b4 b6 s a d t x st) (n : Nat) (hn : st.length = n + 1) : ∃ gs cap cl cx Al Ax oki okx cur, Rnd X w0 w g b4 b6 s a d t x st n (rd_T151 st n) gs cap cl cx Al Ax oki okx cur := by
 obtain ⟨vx, v, okx, h1, h2, h3, h4, h5⟩ := h
 obtain ⟨gs, cap, vl, oki, cur, rfl, hcap, hgs, hgc, hcl, hfl, hce, hRl, hoki, hput, hpop⟩ := h3.hS.top n hn
 obtain ⟨Ax, cx, rfl⟩ := Kd.R_slice h2
 obtain ⟨Al, cl, rfl⟩ := Kd.R_slice hRl
 refine ⟨gs, cap, cl, cx, Al, Ax, oki, okx, cur, h3.hg, h3.hB, h3.hb, hgc, ?_, ?_, hgs, hcap, h4, h5, h2, hRl, h1, hoki, hput⟩
 ·rw [Nat.mul_comm, ← hcl]; exact (blk_cell hgc (2 * n)).symm
 ·rw [Nat.mul_comm, ← hce]; exact (blk_cell hgc (2 * n + 1)).symm
theorem Rnd.put {n : Nat} {o : S151} {gs cap cl cx : Nat} {Al Ax : Option Addr} {oki okx : Nat → Prop} {cur : Array Value} (h : Rnd X w0 w g b4 b6 s a d t x st n o gs cap cl cx Al Ax oki okx cur) (w2 : World) (v' : Value) (l' : List S62) (okn : Nat → Prop)
  (kg : w2.heap[g]? = some (.cells #[.string s, .int .i64 a, .int .i64 d, .int .i64 t, .slice (some ⟨gs, 0, none⟩) (n + 1) cap, .int .i64 0] 126 (0, 0))) (hB : Below w0.heap.size w0 w2) (ks : w2.heap[gs]? = some (.cells (cur.setIfInBounds (2 * n) v') 151 (0, 0)))
  (hk : ∀ k, ¬ oki k → k ≠ gs → k < w.heap.size → w2.heap[k]? = w.heap[k]?) (hR : k62.R 62 w2 w0.heap.size okn v' l') (hokn : ∀ k, okn k → oki k ∨ okx k ∨ (w.heap.size ≤ k ∧ X k)) (hlt : g < w.heap.size ∧ b4 < w.heap.size ∧ b6 < w.heap.size) :
  DecS (fun k => X k ∧ k ≠ b4 ∧ k ≠ b6) w0 w2 g s a d t (.slice (some ⟨gs, 0, none⟩) (n + 1) cap) (st.set n ⟨l', o.f1⟩) 0 := by
 refine ⟨kg, h.hput w2 okn _ v' l' ks (fun k _ h2 h3 h4 => hk k h2 h3 h4) hR (fun k hk2 => ?_) (fun k hk2 => ⟨hk2.1, hk2.2.1, hk2.2.2.1, hk2.2.2.2.1⟩) (fun k hk2 hl hni hno => ?_), h.hg, hB⟩
 ·rcases hokn k hk2 with h2 | h2 | h2
  ·have := h.oi k h2
   exact ⟨this.1, this.2.1, this.2.2.1, this.2.2.2.1⟩
  ·have := h.ox k h2
   exact ⟨this.2.1, this.1, this.2.2.1, this.2.2.2⟩
  ·exact ⟨by omega, h2.2, by omega, by omega⟩
 ·rcases hokn k hno with h2 | h2 | h2
  ·exact hni h2
  ·exact hk2.2.2.2.2 h2
  ·omega
set_option maxHeartbeats 16000000 in
set_option maxRecDepth 100000 in
theorem dec_shut (x : S62) (ok : Bool) (vx : Value) (okx : Nat → Prop) (hox : ∀ k, okx k → X k ∧ k ≠ g) (hR : k62.R 62 w w0.heap.size okx vx x.f2) (hD : DecS (fun k => X k ∧ ¬ okx k) w0 w g s a d t v st 0) (hok : ok = false → st.length ≠ 0)
  (hX : ∀ k, w.heap.size ≤ k → X k) (hsz : ∀ o ∈ st, o.f0.length ≤ 1000000) (hst : st.length ≤ 1000000) :
  Calls Try.prog 84 #[.pointer (some ⟨g, 0, none⟩), .agg #[.string x.f0, .bool x.f1, vx], .bool ok] w (ShutPost X w0 g s a d t (shutD a st.length ok x st)) := by
 obtain ⟨Ax, cx, rfl⟩ := Kd.R_slice hR
 have hu62 := Try.underlying62
 have hg := hD.hg
 have hlt := hD.lt
 have hge := hD.hB.size
 have hS0 : ShutS X w0 ((w.alloc (.cells #[.string x.f0, .bool x.f1, .slice Ax x.f2.length cx] 62 (0, 0))).alloc (.cells #[.string ⟨#[]⟩, .bool false, .slice none 0 0] 62 (0, 0))) g w.heap.size (w.heap.size + 1) s a d t x (st.take st.length) := by
  have s1 : (w.alloc (.cells #[.string x.f0, .bool x.f1, .slice Ax x.f2.length cx] 62 (0, 0))).heap.size = w.heap.size + 1 := by simp
  have hb2 : Below w.heap.size w ((w.alloc (.cells #[.string x.f0, .bool x.f1, .slice Ax x.f2.length cx] 62 (0, 0))).alloc (.cells #[.string ⟨#[]⟩, .bool false, .slice none 0 0] 62 (0, 0))) := below_alloc (below_alloc (Below.refl _ _) _) _
  refine ⟨_, v, fun k => okx k ∧ k ≠ w.heap.size ∧ k ≠ w.heap.size + 1, fun k hk => ⟨(hox k hk.1).1, (hox k hk.1).2, hk.2⟩, ?_, ?_, blk_alloc (blk_new _ _) _, ?_⟩
  ·exact Kd.R_mono (Kd.R_below (Kd.R_bound hR) hb2) (fun k hk => ⟨hk.1, by have := hk.2.2.1; omega, by have := hk.2.2.1; omega⟩)
  ·rw [List.take_length]
   exact (((hD.later w.heap.size (Nat.le_refl _)).later (w.heap.size + 1) (by omega)).below hb2).mono (fun k hk => ⟨hk.1.1.1, hk.1.2, hk.2, fun h => hk.1.1.2 h.1⟩)
  ·have := blk_new (w.alloc (.cells #[.string x.f0, .bool x.f1, .slice Ax x.f2.length cx] 62 (0, 0))) (.cells #[.string ⟨#[]⟩, .bool false, .slice none 0 0] 62 (0, 0))
   rw [s1] at this
   exact this
 have HS0 := Aside0.mk hS0
 have HOK := Aside0.mk hok
 have HX := Aside0.mk hX
 have HZ := Aside0.mk hsz
 have HST := Aside0.mk hst
 have HLT := Aside0.mk (And.intro hg (And.intro hlt hge))
 obtain ⟨R0, hR0⟩ : ∃ R0, shutD a st.length ok x st = R0 := ⟨_, rfl⟩
 rw [hR0]
 have HR0 := Aside0.mk hR0
 clear hS0 hok hX hsz hst hg hlt hge hR0 hD hR hox
 go_enter Try.func84, Try.ntmps84
 go_wp2
 generalize ((w.alloc (.cells #[.string x.f0, .bool x.f1, .slice Ax x.f2.length cx] 62 (0, 0))).alloc (.cells #[.string ⟨#[]⟩, .bool false, .slice none 0 0] 62 (0, 0))) = wa at HS0 ⊢
 go_loopg [2] st.length (fun kq v2 w' => ∃ (ok' : Bool) (x' : S62), v2 = .bool ok' ∧ Aside0 (kq ≤ st.length ∧ (ok' = false → kq ≠ 0)) ∧ Aside0 (shutD a kq ok' x' (st.take kq) = R0) ∧ Aside0 (ShutS X w0 w' g w.heap.size (w.heap.size + 1) s a d t x' (st.take kq)))
 case atStart => exact ⟨ok, x, rfl, ⟨⟨Nat.le_refl _, HOK.out⟩⟩, ⟨by rw [List.take_length]; exact HR0.out⟩, HS0⟩
 case round =>
  obtain ⟨ok', x', rfl, H1, H2, H3⟩ := hrel
  cases gk with
  | zero =>
   obtain rfl : ok' = true := by
    cases ok'
    ·exact absurd rfl (H1.out.2 rfl)
    ·rfl
   obtain ⟨vx, v, okx, h1, h2, h3, h4, h5⟩ := H3.out
   obtain ⟨A, c, rfl, hI⟩ := h3.dec
   obtain ⟨r0, r1, r2, r3, r4, r5⟩ := hI.reads
   obtain ⟨Ax, cx, rfl⟩ := Kd.R_slice h2
   obtain ⟨q0, q1, q2, f0, f1, f2⟩ := cells3 h4
   obtain ⟨p0, p1, p2, e0, e1, e2⟩ := cells3 h5
   have HE := Aside0.mk (show shutD a 0 true x' [] = R0 from H2.out)
   have hl0 : (List.take 0 st).length = 0 := by simp
   have HD := Aside0.mk (And.intro h1 (And.intro h2 (And.intro h3 h5)))
   clear h1 h2 h3 h4 h5 hI
   go_wp2
   obtain ⟨h1, h2, h3, h5⟩ := HD.out
   have hne : w.heap.size + 1 ≠ g := by have := HLT.out; omega
   have hge : w0.heap.size ≤ w.heap.size + 1 := by have := HLT.out; omega
   obtain ⟨d1, d2⟩ := h3.set3 (x' := .string x'.f0) (y' := .bool x'.f1) (z' := .slice Ax x'.f2.length cx) h5 hne hge (fun k hk => hk.2.2.1)
   refine bodyPost_ret (results_ct rfl _ _ (w.heap.size + 1) 62 #[.string x'.f0, .bool x'.f1, .slice Ax x'.f2.length cx] (0, 0) _ rfl d2 Try.underlying62 rfl (by kernel_rfl)) rfl ?_
   rw [← HE.out]
   exact ⟨_, _, rfl, okx, fun k hk => ⟨(h1 k hk).1, (h1 k hk).2.1⟩, row_set3 h2 (fun k hk => (h1 k hk).2.2.2) _ _ _, d1.mono (fun k hk => ⟨hk.1, hk.2.2.2⟩)⟩
  | succ n =>
   have hn : n < st.length := by have := H1.out; omega
   have htl : (st.take (n + 1)).length = n + 1 := by rw [List.length_take]; omega
   obtain ⟨o, ho⟩ : ∃ o, rd_T151 (st.take (n + 1)) n = o := ⟨_, rfl⟩
   have hos : o.f0.length ≤ 1000000 := by
    rw [← ho]
    refine HZ.out _ ?_
    have e : rd_T151 (st.take (n + 1)) n = st[n] := by simp [rd_T151, List.getD, hn]
    rw [e]
    exact List.getElem_mem hn
   have hrnd := H3.out.rnd n htl
   rw [ho] at hrnd
   obtain ⟨gs, cap, cl, cx, Al, Ax, oki, okx, cur, hr⟩ := hrnd
   have r4 : wr.cell? ⟨g, 4, none⟩ = some (.slice (some ⟨gs, 0, none⟩) (n + 1) cap) := (blk_cell hr.kg 4).trans rfl
   obtain ⟨m, hm⟩ : ∃ m, n + 1 = m := ⟨_, rfl⟩
   obtain ⟨j, hj⟩ : ∃ j : Int, (n : Int) = j := ⟨_, rfl⟩
   have hnj : n = j.toNat := by omega
   have e7 : wrap64 ((m : Int) - 1) = j := by have := HST.out; unfold wrap64; omega
   have c1 : decide (j < 0) = false := decide_eq_false (by omega)
   have b0 := eq_true (show 0 ≤ j by omega)
   have b1 := eq_true (show j < (m : Int) by omega)
   rw [hm] at r4
   have HQ := Aside0.mk (And.intro htl (And.intro ho (And.intro hos (And.intro hm (And.intro hj (And.intro hnj hn))))))
   have HRN := Aside0.mk hr
   clear hr hn htl ho hos hm hj hnj
   cases ok' with
   | false =>
    go_upto_if 21 with (fail)
    (try simp only [Act.put, List.setIfInBounds_toArray, List.set_cons_zero, List.set_cons_succ, e7])
    go_cut [] (fun wc => Aside0 (∃ v, DecS (fun k => X k ∧ k ≠ w.heap.size ∧ k ≠ w.heap.size + 1) w0 wc g s a d t v (shutT false x' o (st.take (n + 1)) n) 0) ∧ Aside0 (∃ y0 y1 y2, wc.heap[w.heap.size]? = some (.cells #[y0, y1, y2] 62 (0, 0))) ∧ Aside0 (wc.heap[w.heap.size + 1]? = some (.cells #[.string ⟨#[]⟩, .bool false, .slice none 0 0] 62 (0, 0))))
    case first =>
     go_wp2
     go_meet
     case rel =>
      obtain ⟨vx, v, okx, h1, h2, h3, h4, h5⟩ := H3.out
      exact ⟨⟨_, h3.mono (fun k hk => ⟨hk.1, hk.2.1, hk.2.2.1⟩)⟩, ⟨⟨_, _, _, h4⟩⟩, ⟨h5⟩⟩
    case rest =>
     obtain ⟨⟨v9, D9⟩, ⟨y0, y1, y2, k49⟩, k69⟩ := (show (∃ v, DecS (fun k => X k ∧ k ≠ w.heap.size ∧ k ≠ w.heap.size + 1) w0 wc g s a d t v (shutT false x' o (st.take (n + 1)) n) 0) ∧ (∃ y0 y1 y2, wc.heap[w.heap.size]? = some (.cells #[y0, y1, y2] 62 (0, 0))) ∧ (wc.heap[w.heap.size + 1]? = some (.cells #[.string ⟨#[]⟩, .bool false, .slice none 0 0] 62 (0, 0))) from ⟨hcut.1.out, hcut.2.1.out, hcut.2.2.out⟩)
     have htl2 : (shutT false x' o (st.take (n + 1)) n).length = n + 1 := by rw [shutT_len]; exact HQ.out.1
     have ho2 := shutT_top false x' o (st.take (n + 1)) n HQ.out.1 HQ.out.2.1
     obtain ⟨gs2, cap2, vl2, oki2, cur2, rfl, hcap2, hgs2, hgc2, hcl2, hfl2, hce2, hRl2, hoki2, -, hpop2⟩ := D9.hS.top n htl2
     rw [ho2] at hce2 hRl2
     obtain ⟨Al2, cl2, rfl⟩ := Kd.R_slice hRl2
     have H9 := Aside0.mk (And.intro D9 (And.intro k49 (And.intro k69 (And.intro hRl2 (And.intro hoki2 (And.intro hpop2 (And.intro htl2 hgs2)))))))
     have z4 : wc.cell? ⟨g, 4, none⟩ = some (.slice (some ⟨gs2, 0, none⟩) m cap2) := (blk_cell D9.hb 4).trans (by rw [← HQ.out.2.2.2.1]; rfl)
     have z1 : wc.cell? ⟨g, 1, none⟩ = some (.int .i64 a) := (blk_cell D9.hb 1).trans rfl
     have zl : wc.cell? ⟨gs2, j.toNat * 2, none⟩ = some (.slice Al2 (if false = true then o.f0 ++ [x'] else o.f0).length cl2) := by rw [← HQ.out.2.2.2.2.2.1, Nat.mul_comm]; exact hcl2
     have ze : wc.cell? ⟨gs2, j.toNat * 2 + 1, none⟩ = some (.int .i64 o.f1) := by rw [← HQ.out.2.2.2.2.2.1, Nat.mul_comm]; exact hce2
     have fg := blk_frozen D9.hb 4
     obtain ⟨q0, q1, q2, f0, f1, f2⟩ := cells3 k49
     obtain ⟨p0, p1, p2, e0, e1, e2⟩ := cells3 k69
     generalize hls : (if false = true then o.f0 ++ [x'] else o.f0) = l2 at zl
     have HLS := Aside0.mk hls
     have HC2 := Aside0.mk hcap2
     clear hcut r4 HRN H3 D9 k49 k69 htl2 ho2 hcap2 hgs2 hgc2 hcl2 hfl2 hce2 hRl2 hoki2 hpop2 hls
     by_cases ca : a < o.f1
     ·have d1 : decide (a < o.f1) = true := decide_eq_true ca
      have HE := Aside0.mk (show (false, z62, shutT false x' o (st.take (n + 1)) n) = R0 by rw [← H2.out, shutD, HQ.out.2.1, if_pos ca]; rfl)
      clear ca
      go_wp2
      go_quiet (fail)
      go_wp2
      obtain ⟨D9, k49, k69, hRl2, hoki2, hpop2, htl2, hgs2⟩ := H9.out
      have hne : w.heap.size + 1 ≠ g := by have := HLT.out; omega
      have hge : w0.heap.size ≤ w.heap.size + 1 := by have := HLT.out; omega
      obtain ⟨d1, d2⟩ := (D9.drewN _).set3 (x' := .string ⟨#[]⟩) (y' := .bool false) (z' := .slice none 0 0) k69 hne hge (fun k hk => hk.2.2)
      refine bodyPost_ret (results_ct rfl _ _ (w.heap.size + 1) 62 #[.string ⟨#[]⟩, .bool false, .slice none 0 0] (0, 0) _ rfl d2 Try.underlying62 rfl (by kernel_rfl)) rfl ?_
      rw [← HE.out]
      exact ⟨_, _, rfl, fun _ => False, fun k hk => hk.elim, Kd.R_nil _ _ _ _ _, d1.mono (fun k hk => ⟨hk.1, fun h => h⟩)⟩
     ·have d1 : decide (a < o.f1) = false := decide_eq_false ca
      have HE := Aside0.mk (show shutD a n true ⟨⟨#[]⟩, true, l2⟩ ((st.take (n + 1)).take n) = R0 by rw [← H2.out, shutD, HQ.out.2.1, if_neg ca, HLS.out])
      have b2 := eq_false (show ¬ ((cap2 : Int) < j) by have := HC2.out; have := HQ.out.2.2.2.2.1; omega)
      have b3 := eq_true (show j ≤ (cap2 : Int) by have := HC2.out; have := HQ.out.2.2.2.2.1; omega)
      clear ca
      go_wp2
      go_quiet (fail)
      go_wp2
      obtain ⟨D9, k49, k69, hRl2, hoki2, hpop2, htl2, hgs2⟩ := H9.out
      go_roundg n
      case measure => omega
      case rel =>
       have hgb4 : w.heap.size ≠ g := by have := HLT.out; omega
       have hge : w0.heap.size ≤ w.heap.size := by have := HLT.out; omega
       have hdr : Below wc.heap.size wc (wc.drewN nq) := pw_below_drewN (Below.refl _ _) nq
       have k4d := blk_below k49 hdr
       have k6d := blk_below k69 hdr
       obtain ⟨d1, d2⟩ := (D9.drewN nq).set3 (x' := .string ⟨#[]⟩) (y' := .bool true) (z' := .slice Al2 l2.length cl2) k4d hgb4 hge (fun k hk => hk.2.1)
       rw [HLS.out] at hRl2
       have d3 := row_set3 (Kd.R_below hRl2 hdr) (fun k hk => (hoki2 k hk).2.2.1) (.string ⟨#[]⟩) (.bool true) (.slice Al2 l2.length cl2)
       have d4 := stk_set3 (hpop2.below hdr) k4d (fun k hk => hk.1.2.2.1) (.string ⟨#[]⟩) (.bool true) (.slice Al2 l2.length cl2)
       have d5 := blk_far (p := ⟨w.heap.size, 2, none⟩) (blk_far (p := ⟨w.heap.size, 1, none⟩) (blk_far (p := ⟨w.heap.size, 0, none⟩) k6d (Nat.succ_ne_self _) (.string ⟨#[]⟩)) (Nat.succ_ne_self _) (.bool true)) (Nat.succ_ne_self _) (.slice Al2 l2.length cl2)
       rw [shutT_take false x' o (st.take (n + 1)) n, List.take_take, Nat.min_eq_left (Nat.le_succ n)] at d4
       have HT := HE.out
       rw [List.take_take, Nat.min_eq_left (Nat.le_succ n)] at HT
       have hjn := HQ.out.2.2.2.2.2.1
       have hle := HQ.out.2.2.2.2.2.2
       have hg9 := D9.hg
       clear D9 k49 k69 hRl2 hpop2 k4d k6d hdr
       generalize (((wc.drewN nq).setCell ⟨w.heap.size, 0, none⟩ (.string ⟨#[]⟩)).setCell ⟨w.heap.size, 1, none⟩ (.bool true)).setCell ⟨w.heap.size, 2, none⟩ (.slice Al2 l2.length cl2) = wd at d1 d2 d3 d4 d5 ⊢
       rw [← hjn]
       refine ⟨true, ⟨⟨#[]⟩, true, l2⟩, rfl, ⟨⟨by omega, fun h => nomatch h⟩⟩, ⟨HT⟩, ⟨⟨_, _, oki2, fun k hk => ⟨(hoki2 k hk).2.1, (hoki2 k hk).1, (hoki2 k hk).2.2.1, (hoki2 k hk).2.2.2⟩, Kd.R_far (p := ⟨g, 4, none⟩) d3 (fun k hk => (hoki2 k hk).1) _,
        ⟨blk_put d1.hb 4 _ rfl, (d4.far d1.hb (by decide) (fun k hk => hk.1.1) 4 _).mono (fun k hk => ⟨hk.1.1, hk.1.2.1, hk.1.2.2.1, hk.1.2.2.2, hk.2⟩), hg9, below_set d1.hB hg9⟩, blk_far (p := ⟨g, 4, none⟩) d2 hgb4 _, blk_far (p := ⟨g, 4, none⟩) d5 (show w.heap.size + 1 ≠ g by have := HLT.out; omega) _⟩⟩⟩
   | true =>
    go_upto_if 21 with (fail)
    (try simp only [Act.put, List.setIfInBounds_toArray, List.set_cons_zero, List.set_cons_succ, e7])
    go_cut [] (fun wc => Aside0 (∃ v, DecS (fun k => X k ∧ k ≠ w.heap.size ∧ k ≠ w.heap.size + 1) w0 wc g s a d t v (shutT true x' o (st.take (n + 1)) n) 0) ∧ Aside0 (∃ y0 y1 y2, wc.heap[w.heap.size]? = some (.cells #[y0, y1, y2] 62 (0, 0))) ∧ Aside0 (wc.heap[w.heap.size + 1]? = some (.cells #[.string ⟨#[]⟩, .bool false, .slice none 0 0] 62 (0, 0))))
    case first =>
     go_wp2
     go_region
     ·generalize hwb : (wr.alloc (.cells #[.bool false] 4 (0, 0))).drew = wb
      have HS1 := Aside0.mk (show ShutS X w0 wb g w.heap.size (w.heap.size + 1) s a d t x' (st.take (n + 1)) by rw [← hwb]; exact H3.out.below (below_drew (below_alloc (Below.refl _ _) _)))
      clear hwb r4 HRN
      obtain ⟨htl, ho, hos, hm, hj, hnj, hn⟩ := HQ.out
      have hrnd := HS1.out.rnd n htl
      rw [ho] at hrnd
      obtain ⟨gs, cap, cl, cx, Al, Ax, oki, okx, cur, hr⟩ := hrnd
      have HR := Aside0.mk hr
      have z4 : wb.cell? ⟨g, 4, none⟩ = some (.slice (some ⟨gs, 0, none⟩) m cap) := (blk_cell hr.kg 4).trans (by rw [← hm]; rfl)
      have y4 : ∀ o, (wb.alloc o).cell? ⟨g, 4, none⟩ = some (.slice (some ⟨gs, 0, none⟩) m cap) := fun o => (blk_cell (blk_alloc hr.kg o) 4).trans (by rw [← hm]; rfl)
      have zl : wb.cell? ⟨gs, j.toNat * 2, none⟩ = some (.slice Al o.f0.length cl) := (blk_cell hr.ks _).trans (by rw [← hnj]; exact hr.c0)
      have yl : ∀ o', (wb.alloc o').cell? ⟨gs, j.toNat * 2, none⟩ = some (.slice Al o.f0.length cl) := fun o' => (blk_cell (blk_alloc hr.ks o') _).trans (by rw [← hnj]; exact hr.c0)
      have fl := blk_frozen hr.ks (j.toNat * 2)
      obtain ⟨q0, q1, q2, -, -, -⟩ := cells3 hr.k4
      have x0 : ∀ o, (wb.alloc o).cell? ⟨w.heap.size, 0, none⟩ = some (.string x'.f0) := fun o => (blk_cell (blk_alloc hr.k4 o) 0).trans rfl
      have x1 : ∀ o, (wb.alloc o).cell? ⟨w.heap.size, 1, none⟩ = some (.bool x'.f1) := fun o => (blk_cell (blk_alloc hr.k4 o) 1).trans rfl
      have x2 : ∀ o, (wb.alloc o).cell? ⟨w.heap.size, 2, none⟩ = some (.slice Ax x'.f2.length cx) := fun o => (blk_cell (blk_alloc hr.k4 o) 2).trans rfl
      clear hr htl ho hos hm hj hnj hn
      go_wp2
      go_region_law
       (first | (refine Kd.R_append_step k62 (W := wb.drew) (w0 := w0) w0.heap.size (by simp [Region.wanted]) (.tmp 51) (.tmp 53) 60 62 (.agg #[(.string ⟨#[]⟩), (.bool false), (.slice none 0 0)]) 48 rfl Try.underlying60 info62 rfl (by decide) (by decide) (.slice Al o.f0.length cl) o.f0 x' [.string x'.f0, .bool x'.f1, .slice Ax x'.f2.length cx] (fun k => oki k ∨ okx k ∨ wb.heap.size ≤ k) okx rfl rfl (k62_mkM _ _ _ _ (Kd.R_drew HR.out.rx)) (fun k hk => ⟨.inr (.inl hk), fun he => (HR.out.oi k (HR.out.rl.1 k he.symm)).2.2.2.2 hk⟩) (fun k hk => .inr (.inr hk)) (Kd.R_mono (Kd.R_drew HR.out.rl) (fun k hk => .inl hk)) (below_drew HR.out.hB) HR.out.hB.size (by have := HQ.out.2.2.1; omega) ?_; intro v1 w1 hR1 hB1 hG1 hat1; obtain ⟨gl, capl, rfl, hgl0, hgl1, hglc⟩ := Kd.R_form hR1 (by simp); rw [show (o.f0 ++ [x']).length = o.f0.length + 1 by simp] at hR1 hat1; have kg1 := blk_grown (blk_drew HR.out.kg) hG1 (Kd.R_ne HR.out.rl HR.out.kg (by decide)); have ks1 := blk_grown (blk_drew HR.out.ks) hG1 (Kd.R_ne HR.out.rl HR.out.ks (by decide)); have k41 := blk_grown (blk_drew HR.out.k4) hG1 (Kd.R_away HR.out.rl (fun k hk => (HR.out.oi k hk).2.2.1)); have k61 := blk_grown (blk_drew HR.out.k6) hG1 (Kd.R_away HR.out.rl (fun k hk => (HR.out.oi k hk).2.2.2.1)); have w4 := (blk_cell kg1 4).trans (show _ = some (Value.slice (some ⟨gs, 0, none⟩) m cap) by rw [← HQ.out.2.2.2.1]; rfl); have wl := (blk_cell ks1 (j.toNat * 2)).trans (show _ = some (Value.slice Al o.f0.length cl) by rw [← HQ.out.2.2.2.2.2.1]; exact HR.out.c0); have fw := blk_frozen ks1 (j.toNat * 2); obtain ⟨w40, w41, w42, -, -, -⟩ := cells3 k41; have u4 : ∀ v, (w1.setCell ⟨gs, j.toNat * 2, none⟩ v).cell? ⟨g, 4, none⟩ = some (.slice (some ⟨gs, 0, none⟩) m cap) := fun v => (blk_cell (blk_far (p := ⟨gs, j.toNat * 2, none⟩) kg1 (fun e => blk_ne HR.out.ks HR.out.kg (by decide) e.symm) v) 4).trans (show _ = some (Value.slice (some ⟨gs, 0, none⟩) m cap) by rw [← HQ.out.2.2.2.1]; rfl); have u40 : ∀ v, (w1.setCell ⟨gs, j.toNat * 2, none⟩ v).cell? ⟨w.heap.size, 0, none⟩ = some (.string x'.f0) := fun v => (blk_cell (blk_far (p := ⟨gs, j.toNat * 2, none⟩) k41 (fun e => blk_ne HR.out.k4 HR.out.ks (by decide) e) v) 0).trans rfl; have u41 : ∀ v, (w1.setCell ⟨gs, j.toNat * 2, none⟩ v).cell? ⟨w.heap.size, 1, none⟩ = some (.bool x'.f1) := fun v => (blk_cell (blk_far (p := ⟨gs, j.toNat * 2, none⟩) k41 (fun e => blk_ne HR.out.k4 HR.out.ks (by decide) e) v) 1).trans rfl; have u42 : ∀ v, (w1.setCell ⟨gs, j.toNat * 2, none⟩ v).cell? ⟨w.heap.size, 2, none⟩ = some (.slice Ax x'.f2.length cx) := fun v => (blk_cell (blk_far (p := ⟨gs, j.toNat * 2, none⟩) k41 (fun e => blk_ne HR.out.k4 HR.out.ks (by decide) e) v) 2).trans rfl))
      all_goals
       have ks2 := blk_set ks1 (j.toNat * 2) (.slice (some ⟨gl, 0, none⟩) (o.f0.length + 1) capl)
       have hgg : gs ≠ g := blk_ne HR.out.ks HR.out.kg (by decide)
       have D9 := Aside0.mk (HR.out.put (w1.setCell ⟨gs, j.toNat * 2, none⟩ (.slice (some ⟨gl, 0, none⟩) (o.f0.length + 1) capl)) (.slice (some ⟨gl, 0, none⟩) (o.f0.length + 1) capl) (o.f0 ++ [x']) (fun k => oki k ∨ okx k ∨ wb.heap.size ≤ k)
        (blk_far (p := ⟨gs, j.toNat * 2, none⟩) kg1 (fun e => hgg e.symm) _) (below_set hB1 HR.out.hgs) (by rw [HQ.out.2.2.2.2.2.1, Nat.mul_comm 2]; exact ks2)
        (fun k h1 h2 h3 => (Below.heap_setCell w1 ⟨gs, j.toNat * 2, none⟩ _ k h2).trans (hG1.block k h3 (fun he => h1 (HR.out.rl.1 k he.symm))))
        (Kd.R_mono (Kd.R_far (p := ⟨gs, j.toNat * 2, none⟩) (row_ne hR1 ks1) (fun k hk => hk.2) _) (fun k hk => hk.1))
        (fun k hk => hk.elim .inl (fun h => h.elim (fun h => .inr (.inl h)) (fun h => .inr (.inr ⟨h, HX.out k (by have := blk_lt HR.out.k4; omega)⟩)))) ⟨blk_lt HR.out.kg, blk_lt HR.out.k4, blk_lt HR.out.k6⟩)
       have k49 := Aside0.mk (blk_far (p := ⟨gs, j.toNat * 2, none⟩) k41 (fun e => blk_ne HR.out.k4 HR.out.ks (by decide) e) (.slice (some ⟨gl, 0, none⟩) (o.f0.length + 1) capl))
       have k69 := Aside0.mk (blk_far (p := ⟨gs, j.toNat * 2, none⟩) k61 (fun e => blk_ne HR.out.k6 HR.out.ks (by decide) e) (.slice (some ⟨gl, 0, none⟩) (o.f0.length + 1) capl))
       clear ks2 hgg hR1 hB1 hG1 hat1 kg1 ks1 k41 k61 w4 wl fw w40 w41 w42 u4 u40 u41 u42 hgl0 hgl1 hglc z4 y4 zl yl fl q0 q1 q2 x0 x1 x2
       go_wp2
       go_meet
       case rel => exact ⟨⟨_, D9.out⟩, ⟨⟨_, _, _, k49.out⟩⟩, k69⟩
     ·generalize hwb : (wr.alloc (.cells #[.bool true] 4 (0, 0))).drew = wb
      have HS1 := Aside0.mk (show ShutS X w0 wb g w.heap.size (w.heap.size + 1) s a d t x' (st.take (n + 1)) by rw [← hwb]; exact H3.out.below (below_drew (below_alloc (Below.refl _ _) _)))
      clear hwb r4 HRN
      obtain ⟨htl, ho, hos, hm, hj, hnj, hn⟩ := HQ.out
      have hrnd := HS1.out.rnd n htl
      rw [ho] at hrnd
      obtain ⟨gs, cap, cl, cx, Al, Ax, oki, okx, cur, hr⟩ := hrnd
      have HR := Aside0.mk hr
      have z4 : wb.cell? ⟨g, 4, none⟩ = some (.slice (some ⟨gs, 0, none⟩) m cap) := (blk_cell hr.kg 4).trans (by rw [← hm]; rfl)
      have y4 : ∀ o, (wb.alloc o).cell? ⟨g, 4, none⟩ = some (.slice (some ⟨gs, 0, none⟩) m cap) := fun o => (blk_cell (blk_alloc hr.kg o) 4).trans (by rw [← hm]; rfl)
      have zl : wb.cell? ⟨gs, j.toNat * 2, none⟩ = some (.slice Al o.f0.length cl) := (blk_cell hr.ks _).trans (by rw [← hnj]; exact hr.c0)
      have yl : ∀ o', (wb.alloc o').cell? ⟨gs, j.toNat * 2, none⟩ = some (.slice Al o.f0.length cl) := fun o' => (blk_cell (blk_alloc hr.ks o') _).trans (by rw [← hnj]; exact hr.c0)
      have fl := blk_frozen hr.ks (j.toNat * 2)
      obtain ⟨q0, q1, q2, -, -, -⟩ := cells3 hr.k4
      have x0 : ∀ o, (wb.alloc o).cell? ⟨w.heap.size, 0, none⟩ = some (.string x'.f0) := fun o => (blk_cell (blk_alloc hr.k4 o) 0).trans rfl
      have x1 : ∀ o, (wb.alloc o).cell? ⟨w.heap.size, 1, none⟩ = some (.bool x'.f1) := fun o => (blk_cell (blk_alloc hr.k4 o) 1).trans rfl
      have x2 : ∀ o, (wb.alloc o).cell? ⟨w.heap.size, 2, none⟩ = some (.slice Ax x'.f2.length cx) := fun o => (blk_cell (blk_alloc hr.k4 o) 2).trans rfl
      clear hr htl ho hos hm hj hnj hn
      go_wp2
      go_region_law
       (first | (refine Kd.R_append_step k62 (W := wb.drew) (w0 := w0) w0.heap.size (by simp [Region.wanted]) (.tmp 31) (.tmp 34) 60 62 (.agg #[(.string ⟨#[]⟩), (.bool false), (.slice none 0 0)]) 48 rfl Try.underlying60 info62 rfl (by decide) (by decide) (.slice Al o.f0.length cl) o.f0 z62 [.string ⟨#[]⟩, .bool false, .slice none 0 0] (fun k => oki k ∨ okx k ∨ wb.heap.size ≤ k) (fun _ => False) rfl rfl (k62_mkM _ _ _ z62 (Kd.R_nil _ _ _ _ _)) (fun k hk => hk.elim) (fun k hk => .inr (.inr hk)) (Kd.R_mono (Kd.R_drew HR.out.rl) (fun k hk => .inl hk)) (below_drew HR.out.hB) HR.out.hB.size (by have := HQ.out.2.2.1; omega) ?_; intro v1 w1 hR1 hB1 hG1 hat1; obtain ⟨gl, capl, rfl, hgl0, hgl1, hglc⟩ := Kd.R_form hR1 (by simp); rw [show (o.f0 ++ [z62]).length = o.f0.length + 1 by simp] at hR1 hat1; have kg1 := blk_grown (blk_drew HR.out.kg) hG1 (Kd.R_ne HR.out.rl HR.out.kg (by decide)); have ks1 := blk_grown (blk_drew HR.out.ks) hG1 (Kd.R_ne HR.out.rl HR.out.ks (by decide)); have k41 := blk_grown (blk_drew HR.out.k4) hG1 (Kd.R_away HR.out.rl (fun k hk => (HR.out.oi k hk).2.2.1)); have k61 := blk_grown (blk_drew HR.out.k6) hG1 (Kd.R_away HR.out.rl (fun k hk => (HR.out.oi k hk).2.2.2.1)); have w4 := (blk_cell kg1 4).trans (show _ = some (Value.slice (some ⟨gs, 0, none⟩) m cap) by rw [← HQ.out.2.2.2.1]; rfl); have wl := (blk_cell ks1 (j.toNat * 2)).trans (show _ = some (Value.slice Al o.f0.length cl) by rw [← HQ.out.2.2.2.2.2.1]; exact HR.out.c0); have fw := blk_frozen ks1 (j.toNat * 2); obtain ⟨w40, w41, w42, -, -, -⟩ := cells3 k41; have u4 : ∀ v, (w1.setCell ⟨gs, j.toNat * 2, none⟩ v).cell? ⟨g, 4, none⟩ = some (.slice (some ⟨gs, 0, none⟩) m cap) := fun v => (blk_cell (blk_far (p := ⟨gs, j.toNat * 2, none⟩) kg1 (fun e => blk_ne HR.out.ks HR.out.kg (by decide) e.symm) v) 4).trans (show _ = some (Value.slice (some ⟨gs, 0, none⟩) m cap) by rw [← HQ.out.2.2.2.1]; rfl); have u40 : ∀ v, (w1.setCell ⟨gs, j.toNat * 2, none⟩ v).cell? ⟨w.heap.size, 0, none⟩ = some (.string x'.f0) := fun v => (blk_cell (blk_far (p := ⟨gs, j.toNat * 2, none⟩) k41 (fun e => blk_ne HR.out.k4 HR.out.ks (by decide) e) v) 0).trans rfl; have u41 : ∀ v, (w1.setCell ⟨gs, j.toNat * 2, none⟩ v).cell? ⟨w.heap.size, 1, none⟩ = some (.bool x'.f1) := fun v => (blk_cell (blk_far (p := ⟨gs, j.toNat * 2, none⟩) k41 (fun e => blk_ne HR.out.k4 HR.out.ks (by decide) e) v) 1).trans rfl; have u42 : ∀ v, (w1.setCell ⟨gs, j.toNat * 2, none⟩ v).cell? ⟨w.heap.size, 2, none⟩ = some (.slice Ax x'.f2.length cx) := fun v => (blk_cell (blk_far (p := ⟨gs, j.toNat * 2, none⟩) k41 (fun e => blk_ne HR.out.k4 HR.out.ks (by decide) e) v) 2).trans rfl))
      all_goals
       have ks2 := blk_set ks1 (j.toNat * 2) (.slice (some ⟨gl, 0, none⟩) (o.f0.length + 1) capl)
       have hgg : gs ≠ g := blk_ne HR.out.ks HR.out.kg (by decide)
       have hgl : oki gl ∨ wb.heap.size ≤ gl := hat1.elim (fun h => .inl (HR.out.rl.1 gl h.symm)) (fun ⟨b, hb, hl⟩ => .inr (by have h2 : some gl = some b := hb; injection h2 with h2; have h3 : wb.heap.size ≤ b := hl; omega))
       have hglx : ∀ k, okx k → k < wb.heap.size → k ≠ gl := fun k hk hl he => hgl.elim (fun h => (HR.out.oi gl h).2.2.2.2 (he ▸ hk)) (fun h => by omega)
       have hls : gl ≠ gs := fun he => (row_ne hR1 ks1).1 gl rfl |>.2 he
       have hlg : gl ≠ g := fun he => hgl.elim (fun h => (HR.out.oi gl h).1 he) (fun h => by have := blk_lt HR.out.kg; omega)
       have hl4 : gl ≠ w.heap.size := fun he => hgl.elim (fun h => (HR.out.oi gl h).2.2.1 he) (fun h => by have := blk_lt HR.out.k4; omega)
       have hl6 : gl ≠ w.heap.size + 1 := fun he => hgl.elim (fun h => (HR.out.oi gl h).2.2.2.1 he) (fun h => by have := blk_lt HR.out.k6; omega)
       have hrx := Kd.R_far (p := ⟨gs, j.toNat * 2, none⟩) (row_ne (Kd.R_grown (Kd.R_drew (Kd.R_bound HR.out.rx)) hG1 (fun k hk he => (HR.out.oi k (HR.out.rl.1 k he.symm)).2.2.2.2 hk.1)) ks1) (fun k hk => hk.2) (.slice (some ⟨gl, 0, none⟩) (o.f0.length + 1) capl)
       have hrl := Kd.R_far (p := ⟨gs, j.toNat * 2, none⟩) (row_ne hR1 ks1) (fun k hk => hk.2) (.slice (some ⟨gl, 0, none⟩) (o.f0.length + 1) capl)
       obtain ⟨⟨c0, c1, c2, g0, g1, g2⟩, gf, hrn⟩ := row_last hrl rfl hrx (fun k hk => ⟨⟨.inr (.inl hk.1.1), hk.2⟩, hglx k hk.1.1 hk.1.2.2.1⟩)
       have b7 := eq_true (show (0 : Int) ≤ (o.f0.length : Int) by omega)
       have b8 := eq_true (show (o.f0.length : Int) < ((o.f0.length + 1 : Nat) : Int) by omega)
       have hb2 := below_set hB1 HR.out.hgs (j := j.toNat * 2) (v := .slice (some ⟨gl, 0, none⟩) (o.f0.length + 1) capl)
       have kg2 := blk_far (p := ⟨gs, j.toNat * 2, none⟩) kg1 (fun e => hgg e.symm) (.slice (some ⟨gl, 0, none⟩) (o.f0.length + 1) capl)
       have k42 := blk_far (p := ⟨gs, j.toNat * 2, none⟩) k41 (fun e => blk_ne HR.out.k4 HR.out.ks (by decide) e) (.slice (some ⟨gl, 0, none⟩) (o.f0.length + 1) capl)
       have k62' := blk_far (p := ⟨gs, j.toNat * 2, none⟩) k61 (fun e => blk_ne HR.out.k6 HR.out.ks (by decide) e) (.slice (some ⟨gl, 0, none⟩) (o.f0.length + 1) capl)
       have hk2 : ∀ k, ¬ oki k → k ≠ gs → k < wb.heap.size → (w1.setCell ⟨gs, j.toNat * 2, none⟩ (.slice (some ⟨gl, 0, none⟩) (o.f0.length + 1) capl)).heap[k]? = wb.heap[k]? := fun k h1 h2 h3 => (Below.heap_setCell w1 ⟨gs, j.toNat * 2, none⟩ _ k h2).trans (hG1.block k h3 (fun he => h1 (HR.out.rl.1 k he.symm)))
       clear hR1 hB1 hG1 hat1 kg1 ks1 k41 k61 w4 wl fw w40 w41 w42 z4 y4 zl yl fl q0 q1 q2 x0 x1 x2 u4 u40 u41 u42 hrx hrl
       generalize w1.setCell ⟨gs, j.toNat * 2, none⟩ (.slice (some ⟨gl, 0, none⟩) (o.f0.length + 1) capl) = w2 at *
       go_wp2
       go_meet
       case rel =>
        have kgn := (far3 w2 gl (o.f0.length * 3) (.string x'.f0) (.bool x'.f1) (.slice Ax x'.f2.length cx) g (fun e => hlg e.symm)).trans kg2
        have k4n := (far3 w2 gl (o.f0.length * 3) (.string x'.f0) (.bool x'.f1) (.slice Ax x'.f2.length cx) w.heap.size (fun e => hl4 e.symm)).trans k42
        have k6n := (far3 w2 gl (o.f0.length * 3) (.string x'.f0) (.bool x'.f1) (.slice Ax x'.f2.length cx) (w.heap.size + 1) (fun e => hl6 e.symm)).trans k62'
        have ksn := (far3 w2 gl (o.f0.length * 3) (.string x'.f0) (.bool x'.f1) (.slice Ax x'.f2.length cx) gs (fun e => hls e.symm)).trans ks2
        have hbn := below_set (below_set (below_set hb2 hgl0 (j := o.f0.length * 3) (v := .string x'.f0)) hgl0 (j := o.f0.length * 3 + 1) (v := .bool x'.f1)) hgl0 (j := o.f0.length * 3 + 2) (v := .slice Ax x'.f2.length cx)
        refine ⟨⟨⟨_, HR.out.put _ (.slice (some ⟨gl, 0, none⟩) (o.f0.length + 1) capl) (o.f0 ++ [x']) (fun k => oki k ∨ okx k ∨ wb.heap.size ≤ k) kgn hbn (by rw [HQ.out.2.2.2.2.2.1, Nat.mul_comm 2]; exact ksn)
         (fun k h1 h2 h3 => (far3 w2 gl (o.f0.length * 3) (.string x'.f0) (.bool x'.f1) (.slice Ax x'.f2.length cx) k (fun e => hgl.elim (fun h => h1 (e ▸ h)) (fun h => by omega))).trans (hk2 k h1 h2 h3)) (Kd.R_mono hrn (fun k hk => hk.1))
         (fun k hk => hk.elim .inl (fun h => h.elim (fun h => .inr (.inl h)) (fun h => .inr (.inr ⟨h, HX.out k (by have := blk_lt HR.out.k4; omega)⟩)))) ⟨blk_lt HR.out.kg, blk_lt HR.out.k4, blk_lt HR.out.k6⟩⟩⟩, ⟨⟨_, _, _, k4n⟩⟩, ⟨k6n⟩⟩
    case rest =>
     obtain ⟨⟨v9, D9⟩, ⟨y0, y1, y2, k49⟩, k69⟩ := (show (∃ v, DecS (fun k => X k ∧ k ≠ w.heap.size ∧ k ≠ w.heap.size + 1) w0 wc g s a d t v (shutT true x' o (st.take (n + 1)) n) 0) ∧ (∃ y0 y1 y2, wc.heap[w.heap.size]? = some (.cells #[y0, y1, y2] 62 (0, 0))) ∧ (wc.heap[w.heap.size + 1]? = some (.cells #[.string ⟨#[]⟩, .bool false, .slice none 0 0] 62 (0, 0))) from ⟨hcut.1.out, hcut.2.1.out, hcut.2.2.out⟩)
     have htl2 : (shutT true x' o (st.take (n + 1)) n).length = n + 1 := by rw [shutT_len]; exact HQ.out.1
     have ho2 := shutT_top true x' o (st.take (n + 1)) n HQ.out.1 HQ.out.2.1
     obtain ⟨gs2, cap2, vl2, oki2, cur2, rfl, hcap2, hgs2, hgc2, hcl2, hfl2, hce2, hRl2, hoki2, -, hpop2⟩ := D9.hS.top n htl2
     rw [ho2] at hce2 hRl2
     obtain ⟨Al2, cl2, rfl⟩ := Kd.R_slice hRl2
     have H9 := Aside0.mk (And.intro D9 (And.intro k49 (And.intro k69 (And.intro hRl2 (And.intro hoki2 (And.intro hpop2 (And.intro htl2 hgs2)))))))
     have z4 : wc.cell? ⟨g, 4, none⟩ = some (.slice (some ⟨gs2, 0, none⟩) m cap2) := (blk_cell D9.hb 4).trans (by rw [← HQ.out.2.2.2.1]; rfl)
     have z1 : wc.cell? ⟨g, 1, none⟩ = some (.int .i64 a) := (blk_cell D9.hb 1).trans rfl
     have zl : wc.cell? ⟨gs2, j.toNat * 2, none⟩ = some (.slice Al2 (if true = true then o.f0 ++ [x'] else o.f0).length cl2) := by rw [← HQ.out.2.2.2.2.2.1, Nat.mul_comm]; exact hcl2
     have ze : wc.cell? ⟨gs2, j.toNat * 2 + 1, none⟩ = some (.int .i64 o.f1) := by rw [← HQ.out.2.2.2.2.2.1, Nat.mul_comm]; exact hce2
     have fg := blk_frozen D9.hb 4
     obtain ⟨q0, q1, q2, f0, f1, f2⟩ := cells3 k49
     obtain ⟨p0, p1, p2, e0, e1, e2⟩ := cells3 k69
     generalize hls : (if true = true then o.f0 ++ [x'] else o.f0) = l2 at zl
     have HLS := Aside0.mk hls
     have HC2 := Aside0.mk hcap2
     clear hcut r4 HRN H3 D9 k49 k69 htl2 ho2 hcap2 hgs2 hgc2 hcl2 hfl2 hce2 hRl2 hoki2 hpop2 hls
     by_cases ca : a < o.f1
     ·have d1 : decide (a < o.f1) = true := decide_eq_true ca
      have HE := Aside0.mk (show (false, z62, shutT true x' o (st.take (n + 1)) n) = R0 by rw [← H2.out, shutD, HQ.out.2.1, if_pos ca]; rfl)
      clear ca
      go_wp2
      go_quiet (fail)
      go_wp2
      obtain ⟨D9, k49, k69, hRl2, hoki2, hpop2, htl2, hgs2⟩ := H9.out
      have hne : w.heap.size + 1 ≠ g := by have := HLT.out; omega
      have hge : w0.heap.size ≤ w.heap.size + 1 := by have := HLT.out; omega
      obtain ⟨d1, d2⟩ := (D9.drewN _).set3 (x' := .string ⟨#[]⟩) (y' := .bool false) (z' := .slice none 0 0) k69 hne hge (fun k hk => hk.2.2)
      refine bodyPost_ret (results_ct rfl _ _ (w.heap.size + 1) 62 #[.string ⟨#[]⟩, .bool false, .slice none 0 0] (0, 0) _ rfl d2 Try.underlying62 rfl (by kernel_rfl)) rfl ?_
      rw [← HE.out]
      exact ⟨_, _, rfl, fun _ => False, fun k hk => hk.elim, Kd.R_nil _ _ _ _ _, d1.mono (fun k hk => ⟨hk.1, fun h => h⟩)⟩
     ·have d1 : decide (a < o.f1) = false := decide_eq_false ca
      have HE := Aside0.mk (show shutD a n true ⟨⟨#[]⟩, true, l2⟩ ((st.take (n + 1)).take n) = R0 by rw [← H2.out, shutD, HQ.out.2.1, if_neg ca, HLS.out])
      have b2 := eq_false (show ¬ ((cap2 : Int) < j) by have := HC2.out; have := HQ.out.2.2.2.2.1; omega)
      have b3 := eq_true (show j ≤ (cap2 : Int) by have := HC2.out; have := HQ.out.2.2.2.2.1; omega)
      clear ca
      go_wp2
      go_quiet (fail)
      go_wp2
      obtain ⟨D9, k49, k69, hRl2, hoki2, hpop2, htl2, hgs2⟩ := H9.out
      go_roundg n
      case measure => omega
      case rel =>
       have hgb4 : w.heap.size ≠ g := by have := HLT.out; omega
       have hge : w0.heap.size ≤ w.heap.size := by have := HLT.out; omega
       have hdr : Below wc.heap.size wc (wc.drewN nq) := pw_below_drewN (Below.refl _ _) nq
       have k4d := blk_below k49 hdr
       have k6d := blk_below k69 hdr
       obtain ⟨d1, d2⟩ := (D9.drewN nq).set3 (x' := .string ⟨#[]⟩) (y' := .bool true) (z' := .slice Al2 l2.length cl2) k4d hgb4 hge (fun k hk => hk.2.1)
       rw [HLS.out] at hRl2
       have d3 := row_set3 (Kd.R_below hRl2 hdr) (fun k hk => (hoki2 k hk).2.2.1) (.string ⟨#[]⟩) (.bool true) (.slice Al2 l2.length cl2)
       have d4 := stk_set3 (hpop2.below hdr) k4d (fun k hk => hk.1.2.2.1) (.string ⟨#[]⟩) (.bool true) (.slice Al2 l2.length cl2)
       have d5 := blk_far (p := ⟨w.heap.size, 2, none⟩) (blk_far (p := ⟨w.heap.size, 1, none⟩) (blk_far (p := ⟨w.heap.size, 0, none⟩) k6d (Nat.succ_ne_self _) (.string ⟨#[]⟩)) (Nat.succ_ne_self _) (.bool true)) (Nat.succ_ne_self _) (.slice Al2 l2.length cl2)
       rw [shutT_take true x' o (st.take (n + 1)) n, List.take_take, Nat.min_eq_left (Nat.le_succ n)] at d4
       have HT := HE.out
       rw [List.take_take, Nat.min_eq_left (Nat.le_succ n)] at HT
       have hjn := HQ.out.2.2.2.2.2.1
       have hle := HQ.out.2.2.2.2.2.2
       have hg9 := D9.hg
       clear D9 k49 k69 hRl2 hpop2 k4d k6d hdr
       generalize (((wc.drewN nq).setCell ⟨w.heap.size, 0, none⟩ (.string ⟨#[]⟩)).setCell ⟨w.heap.size, 1, none⟩ (.bool true)).setCell ⟨w.heap.size, 2, none⟩ (.slice Al2 l2.length cl2) = wd at d1 d2 d3 d4 d5 ⊢
       rw [← hjn]
       refine ⟨true, ⟨⟨#[]⟩, true, l2⟩, rfl, ⟨⟨by omega, fun h => nomatch h⟩⟩, ⟨HT⟩, ⟨⟨_, _, oki2, fun k hk => ⟨(hoki2 k hk).2.1, (hoki2 k hk).1, (hoki2 k hk).2.2.1, (hoki2 k hk).2.2.2⟩, Kd.R_far (p := ⟨g, 4, none⟩) d3 (fun k hk => (hoki2 k hk).1) _,
        ⟨blk_put d1.hb 4 _ rfl, (d4.far d1.hb (by decide) (fun k hk => hk.1.1) 4 _).mono (fun k hk => ⟨hk.1.1, hk.1.2.1, hk.1.2.2.1, hk.1.2.2.2, hk.2⟩), hg9, below_set d1.hB hg9⟩, blk_far (p := ⟨g, 4, none⟩) d2 hgb4 _, blk_far (p := ⟨g, 4, none⟩) d5 (show w.heap.size + 1 ≠ g by have := HLT.out; omega) _⟩⟩⟩
end
end Go.Proofs.Yteoibgpkimlahaa.P
end
section
namespace Go.Proofs.Yteoibgpkimlahaa.P
open Go.RowKit Go.Proofs.YteoibgpkimlahaaW.PrintWords Go.Proofs.YteoibgpkimlahaaW.PrintLast Go.Proofs.YteoibgpkimlahaaW.PrintMore
structure StkOk (s : ByteArray) (a : Int) (st : List S151) (N : Nat) : Prop where
 h0 : 0 ≤ a
 hs : s.size ≤ 1099511627776
 ha : a ≤ s.size
 he : ∀ o ∈ st, a ≤ o.f1 ∧ o.f1 ≤ s.size
 hp : st.Pairwise (fun x y => y.f1 ≤ x.f1)
 hl : ∀ o ∈ st, o.f0.length ≤ N
 hn : st.length ≤ N
theorem stk_last {st : List S151} (h : st.length ≠ 0) : rd_T151 st (st.length - 1) = st[st.length - 1]'(by omega) := by
 unfold rd_T151
 have e : ((st.length : Int) - 1).toNat = st.length - 1 := by omega
 rw [e, List.getD, List.getElem?_eq_getElem (by omega)]
 rfl
theorem StkOk.end_le {s : ByteArray} {a : Int} {st : List S151} {N : Nat} (h : StkOk s a st N) : a ≤ endD s st ∧ endD s st ≤ s.size ∧ ∀ o ∈ st, endD s st ≤ o.f1 := by
 unfold endD
 split
 ·rename_i h0
  refine ⟨h.ha, Int.le_refl _, fun o ho => ?_⟩
  rw [List.length_eq_zero_iff.1 h0] at ho
  cases ho
 ·rename_i h0
  rw [stk_last h0]
  have hm := h.he _ (List.getElem_mem (show st.length - 1 < st.length by omega))
  refine ⟨hm.1, hm.2, fun o ho => ?_⟩
  obtain ⟨i, hi, rfl⟩ := List.mem_iff_getElem.1 ho
  rcases Nat.lt_or_ge i (st.length - 1) with hlt | hge
  ·exact List.pairwise_iff_getElem.1 h.hp i (st.length - 1) hi (by omega) hlt
  ·have : i = st.length - 1 := by omega
   subst this
   exact Int.le_refl _
theorem StkOk.dec {s : ByteArray} {a : Int} {st : List S151} {N : Nat} (h : StkOk s a st N) : DecOk s a st := ⟨h.h0, h.end_le.1, h.end_le.2.1, h.hs⟩
theorem StkOk.on {s : ByteArray} {a b : Int} {st : List S151} {N M : Nat} (h : StkOk s a st N) (h1 : a ≤ b) (h2 : b ≤ endD s st) (hM : N ≤ M) : StkOk s b st M := by
 have he := h.end_le
 have h0 := h.h0
 exact ⟨by omega, h.hs, by omega, fun o ho => ⟨by have := he.2.2 o ho; omega, (h.he o ho).2⟩, h.hp, fun o ho => Nat.le_trans (h.hl o ho) hM, Nat.le_trans h.hn hM⟩
theorem StkOk.push {s : ByteArray} {a e : Int} {st : List S151} {N : Nat} (h : StkOk s a st N) (h1 : a ≤ e) (h2 : e ≤ endD s st) : StkOk s a (st ++ [⟨[], e⟩]) (N + 1) := by
 have he := h.end_le
 refine ⟨h.h0, h.hs, h.ha, fun o ho => ?_, ?_, fun o ho => ?_, by rw [List.length_append]; exact Nat.succ_le_succ h.hn⟩
 ·rcases List.mem_append.1 ho with ho | ho
  ·exact h.he o ho
  ·rw [List.mem_singleton.1 ho]
   exact ⟨h1, by show e ≤ _; omega⟩
 ·refine List.pairwise_append.2 ⟨h.hp, List.pairwise_singleton _ _, fun x hx y hy => ?_⟩
  rw [List.mem_singleton.1 hy]
  have := he.2.2 x hx
  show e ≤ x.f1
  omega
 ·rcases List.mem_append.1 ho with ho | ho
  ·exact Nat.le_succ_of_le (h.hl o ho)
  ·rw [List.mem_singleton.1 ho]
   exact Nat.zero_le _
theorem one_keep (hG : GetLeastOk) {s : ByteArray} {a d t : Int} {st : List S151} {N : Nat} (h : StkOk s a st N) (hf : (oneD s a d t st).2.2.2.2 = 0) :
  StkOk s (oneD s a d t st).2.2.1 (oneD s a d t st).2.2.2.1 (N + 1) ∧ ((oneD s a d t st).2.1 = false → (oneD s a d t st).2.2.2.1.length ≠ 0) := by
 have hK := h.dec
 unfold oneD at hf ⊢
 by_cases c : startF s a d t st ≠ 0
 ·rw [if_pos c] at hf ⊢
  exact absurd hf c
 ·rw [if_neg c] at hf ⊢
  have hr := startF_room hK (by simpa using c)
  have hb := bt_bd s a
  have hk0 := hK.h0
  have hk2 := hK.h2
  have hK1 : DecOk s (a + 1) st := ⟨by omega, by omega, hk2, hK.h3⟩
  by_cases c1 : bt s a < 128
  ·rw [if_pos c1] at hf ⊢
   exact ⟨h.on (b := a + 1) (by omega) (by omega) (Nat.le_succ N), fun he => by simp at he⟩
  ·rw [if_neg c1] at hf ⊢
   by_cases c2 : bt s a < 192
   ·rw [if_pos c2] at hf ⊢
    obtain ⟨l1, l2, l3, l4, l5⟩ := lenD_ok hG hK1 (show 0 ≤ bt s a - 128 by omega) (show bt s a - 128 ≤ 63 by omega)
    by_cases c3 : (lenD s (a + 1) st (bt s a - 128)).2.2 = 0
    ·rw [if_pos c3]
     have l6 := l4 c3
     exact ⟨h.on (by show a ≤ _ + _; omega) (by show _ + _ ≤ _; omega) (Nat.le_succ N), fun he => by simp at he⟩
    ·rw [if_neg c3] at hf
     exact absurd hf c3
   ·rw [if_neg c2] at hf ⊢
    obtain ⟨l1, l2, l3, l4, l5⟩ := lenD_ok hG hK1 (show 0 ≤ bt s a - 192 by omega) (show bt s a - 192 ≤ 63 by omega)
    have l6 := l4 hf
    have l7 := l1.h1
    exact ⟨(h.on (N := N) (M := N) (by omega) l7 (Nat.le_refl N)).push (by omega) (by omega), fun _ => by simp⟩
theorem shut_keep {s : ByteArray} {a : Int} : ∀ (n : Nat) (st : List S151) (ok : Bool) (x : S62) (N : Nat), st.length = n → StkOk s a st N → StkOk s a (shutD a n ok x st).2.2 (N + 1) := by
 intro n
 induction n with
 | zero =>
  intro st ok x N hn h
  exact ⟨h.h0, h.hs, h.ha, fun o ho => (nomatch ho), List.Pairwise.nil, fun o ho => (nomatch ho), Nat.zero_le _⟩
 | succ n ih =>
  intro st ok x N hn h
  unfold shutD
  have hrd : rd_T151 st n = st[n]'(by omega) := by
   unfold rd_T151
   rw [Int.toNat_natCast, List.getD, List.getElem?_eq_getElem (by omega)]
   rfl
  by_cases c : a < (rd_T151 st n).f1
  ·rw [if_pos c]
   cases ok
   ·exact ⟨h.h0, h.hs, h.ha, h.he, h.hp, fun o ho => Nat.le_succ_of_le (h.hl o ho), Nat.le_succ_of_le h.hn⟩
   ·show StkOk s a (if true = true then st.set n ⟨(rd_T151 st n).f0 ++ [x], (rd_T151 st n).f1⟩ else st) (N + 1)
    rw [if_pos rfl, hrd]
    have hmem := List.getElem_mem (show n < st.length by omega)
    refine ⟨h.h0, h.hs, h.ha, fun o ho => ?_, ?_, fun o ho => ?_, by rw [List.length_set]; exact Nat.le_succ_of_le h.hn⟩
    ·rcases List.mem_or_eq_of_mem_set ho with ho | rfl
     ·exact h.he o ho
     ·exact ⟨(h.he _ hmem).1, (h.he _ hmem).2⟩
    ·refine List.pairwise_iff_getElem.2 fun i j hi hj hij => ?_
     have hp := List.pairwise_iff_getElem.1 h.hp i j (by simpa using hi) (by simpa using hj) hij
     rw [List.getElem_set, List.getElem_set]
     split
     ·rename_i e
      subst e
      split
      ·rename_i e2
       subst e2
       exact hp
      ·exact hp
     ·split
      ·rename_i e2
       subst e2
       exact hp
      ·exact hp
    ·rcases List.mem_or_eq_of_mem_set ho with ho | rfl
     ·exact Nat.le_succ_of_le (h.hl o ho)
     ·have := h.hl _ hmem
      simp only [List.length_append, List.length_singleton]
      omega
  ·rw [if_neg c]
   refine ih (st.take n) true _ N (by rw [List.length_take]; omega) ?_
   exact ⟨h.h0, h.hs, h.ha, fun o ho => h.he o (List.mem_of_mem_take ho), h.hp.sublist (List.take_sublist n st), fun o ho => h.hl o (List.mem_of_mem_take ho), by rw [List.length_take]; have := h.hn; omega⟩
def nextL (s : ByteArray) (d : Int) : Nat → Int → Int → List S151 → S62 × Int × Int
 | 0, _, _, _ => (z62, 0, 4)
 | k + 1, a, t, st =>
  if (oneD s a d t st).2.2.2.2 = 0 then
   if (shutD (oneD s a d t st).2.2.1 (oneD s a d t st).2.2.2.1.length (oneD s a d t st).2.1 ⟨(oneD s a d t st).1, false, []⟩ (oneD s a d t st).2.2.2.1).1 = true then
    ((shutD (oneD s a d t st).2.2.1 (oneD s a d t st).2.2.2.1.length (oneD s a d t st).2.1 ⟨(oneD s a d t st).1, false, []⟩ (oneD s a d t st).2.2.2.1).2.1, (oneD s a d t st).2.2.1, 0)
   else nextL s d k (oneD s a d t st).2.2.1 (t - 1) (shutD (oneD s a d t st).2.2.1 (oneD s a d t st).2.2.2.1.length (oneD s a d t st).2.1 ⟨(oneD s a d t st).1, false, []⟩ (oneD s a d t st).2.2.2.1).2.2
  else (z62, 0, (oneD s a d t st).2.2.2.2)
theorem one_many {s : ByteArray} {a d t : Int} {st : List S151} (ht : t < 1) : (oneD s a d t st).2.2.2.2 ≠ 0 := by
 have c : startF s a d t st ≠ 0 := by
  unfold startF
  rw [if_pos (by omega)]
  unfold failD
  split
  ·decide
  ·assumption
 unfold oneD
 rw [if_pos c]
 exact c
theorem getLeast_ok : GetLeastOk := by
 intro x hx
 have hb := numL_bd _ (bytesOf_byte x)
 have hl : (bytesOf x).length = x.size := by unfold bytesOf; simp
 have hlt : numL (bytesOf x) < 18446744073709551616 := by
  have h2 := hb.2
  have h3 : ∀ n : Nat, n < 9 → (256 : Int) ^ n ≤ 18446744073709551616 := by decide
  have h4 := h3 (bytesOf x).length (by omega)
  omega
 unfold fixed_GetLeast.f
 rw [if_neg (by omega)]
 split
 ·rename_i h
  exact ⟨0, 3, rfl, by decide, by decide, fun h0 => absurd (by rw [ByteArray.toList_eq]; exact List.length_eq_zero_iff.1 (by rw [Array.length_toList]; exact h0)) h.1⟩
 ·refine ⟨_, _, rfl, hb.1, hlt, fun h0 => ⟨?_, rfl⟩⟩
  rw [List.length_eq_zero_iff.1 (by omega : (bytesOf x).length = 0)]
  rfl
end Go.Proofs.Yteoibgpkimlahaa.P
end
section
namespace Go.Proofs.Yteoibgpkimlahaa.P
open Go.RowKit Go.Proofs.YteoibgpkimlahaaW.PrintWords Go.Proofs.YteoibgpkimlahaaW.PrintLast Go.Proofs.YteoibgpkimlahaaW.PrintMore
attribute [local go_sem] max2_int min2_int max_two min_two
set_option linter.unusedSimpArgs false
def capD (d : Int) : Int := if 16 < d then 16 else d
def capI (i : Int) : Int := if 0 < (if 1024 < i then 1024 else i) then (if 1024 < i then 1024 else i) else 0
theorem capI_bd (i : Int) : 0 ≤ capI i ∧ capI i ≤ 1024 := by unfold capI; split <;> split <;> omega
def nextF (s : ByteArray) (depth items : Int) : S62 × Int × Int := nextL s (capD depth) ((capI items).toNat + 1) 0 (capI items) []
def NextS (w0 w : World) (g : Nat) (s : ByteArray) (d : Int) (R0 : S62 × Int × Int) (k : Nat) : Prop :=
 ∃ (a t : Int) (st : List S151) (N : Nat) (v : Value), StkOk s a st N ∧ 0 ≤ t ∧ (N : Int) + 2 * t ≤ 2048 ∧ t < k ∧ nextL s d k a t st = R0 ∧ DecS (fun _ => True) w0 w g s a d t v st 0
def NextPost (w0 : World) (r : S62 × Int × Int) (e : Ending) (w' : World) : Prop :=
 ∃ v, e = .returned (.tuple #[.agg #[.string r.1.f0, .bool r.1.f1, v], .int .i64 r.2.1, .int .i64 r.2.2]) ∧ k62.R 62 w' w0.heap.size (fun _ => True) v r.1.f2 ∧ Below w0.heap.size w0 w'
set_option maxHeartbeats 16000000 in
set_option maxRecDepth 100000 in
theorem next_calls (s : ByteArray) (depth items : Int) (w : World) (hs : s.size ≤ 1099511627776) :
  Calls Try.prog 53 #[.string s, .int .i64 depth, .int .i64 items] w (NextPost w (nextF s depth items)) := by
 have hu62 := Try.underlying62
 have hu126 := Try.underlying126
 obtain ⟨T, hT⟩ : ∃ T, capI items = T := ⟨_, rfl⟩
 obtain ⟨d, hd⟩ : ∃ d, capD depth = d := ⟨_, rfl⟩
 have hTb : 0 ≤ T ∧ T ≤ 1024 := hT ▸ capI_bd items
 obtain ⟨R0, hR0⟩ : ∃ R0, nextF s depth items = R0 := ⟨_, rfl⟩
 rw [hR0]
 obtain ⟨wz, hwz⟩ : ∃ wz, w.alloc (.cells #[.string ⟨#[]⟩, .bool false, .slice none 0 0] 62 (0, 0)) = wz := ⟨_, rfl⟩
 have s1 : wz.heap.size = w.heap.size + 1 := by rw [← hwz]; simp
 have hbz : Below w.heap.size w wz := by rw [← hwz]; exact below_alloc (Below.refl _ _) _
 have k6 : wz.heap[w.heap.size]? = some (.cells #[.string ⟨#[]⟩, .bool false, .slice none 0 0] 62 (0, 0)) := by rw [← hwz]; exact blk_new _ _
 have hN : NextS wz (wz.alloc (.cells #[.string s, .int .i64 0, .int .i64 d, .int .i64 T, .slice none 0 0, .int .i64 0] 126 (0, 0))) wz.heap.size s d R0 (T.toNat + 1) := by
  refine ⟨0, T, [], 0, _, ⟨by decide, hs, by omega, fun o ho => (nomatch ho), List.Pairwise.nil, fun o ho => (nomatch ho), Nat.le_refl _⟩, hTb.1, by omega, by omega, by rw [← hR0, ← hd, ← hT]; rfl, ⟨?_, Stk.nil _ _ _, Nat.le_refl _, below_alloc (Below.refl _ _) _⟩⟩
  have := blk_new wz (.cells #[.string s, .int .i64 0, .int .i64 d, .int .i64 T, .slice none 0 0, .int .i64 0] 126 (0, 0))
  exact this
 have K6 := Aside0.mk k6
 have HBZ := Aside0.mk hbz
 have SZ := Aside0.mk s1
 have HN := Aside0.mk hN
 have E1 : (if 16 < depth then (16 : Int) else depth) = d := hd
 obtain ⟨m, E0⟩ : ∃ m, (if 1024 < items then (1024 : Int) else items) = m := ⟨_, rfl⟩
 have E2 : (if 0 < m then m else 0) = T := by rw [← E0]; exact hT
 clear hN hs hT hd hTb hR0 k6 hbz s1
 go_enter Try.func53, Try.ntmps53
 go_wp2_with (first | rw [E0] | rw [E1] | rw [E2])
 clear hwz
 generalize wz.alloc (.cells #[.string s, .int .i64 0, .int .i64 d, .int .i64 T, .slice none 0 0, .int .i64 0] 126 (0, 0)) = wa at HN ⊢
 go_loopg [10] (T.toNat + 1) (fun kq v10 w' => Aside0 (NextS wz w' wz.heap.size s d R0 kq))
 case atStart => exact HN
 case round =>
  cases gk with
  | zero =>
   obtain ⟨a, t, st, N, v, hk, ht, hNt, htk, hrec, hD⟩ := hrel.out
   omega
  | succ n =>
   obtain ⟨a, t, st, N, v, hk, ht, hNt, htk, hrec, hD⟩ := hrel.out
   have hone := dec_one getLeast_ok hD hk.dec ht (by omega) (by have := hk.hn; omega) (fun k _ => trivial)
   have hkp := one_keep (d := d) (t := t) getLeast_ok hk
   have hmn := one_many (s := s) (a := a) (d := d) (t := t) (st := st)
   unfold nextL at hrec
   obtain ⟨⟨x, ok, a', st', f⟩, hr⟩ : ∃ r, oneD s a d t st = r := ⟨_, rfl⟩
   rw [hr] at hone hkp hmn hrec
   dsimp only at hone hkp hmn hrec
   have HONE := Aside0.mk hone
   have HKP := Aside0.mk hkp
   have HMN := Aside0.mk hmn
   have HREC := Aside0.mk hrec
   have HT := Aside0.mk (And.intro ht (And.intro hNt htk))
   clear hone hkp hmn hrec hr hD hk ht hNt htk hrel HN
   go_wp2_with fail
   refine HONE.out.mono ?_
   rintro e w2 ⟨rfl, v2, hD2⟩
   have hg2 := hD2.lt
   have hz2 := hD2.hB.size
   obtain ⟨q0, q1, q2, f0, f1, f2⟩ := cells3 (blk_new w2 (.cells #[.string ⟨#[]⟩, .bool false, .slice none 0 0] 62 (0, 0)))
   have r5 := (blk_cell hD2.hb 5).trans (show _ = some (Value.int .i64 f) from rfl)
   have HD2 := Aside0.mk (And.intro hD2 (And.intro hg2 hz2))
   clear hD2
   by_cases cf : f = 0
   ·have e5 : (f != 0) = false := by rw [cf]; rfl
    obtain ⟨hk', hok'⟩ := HKP.out cf
    have ht1 : 1 ≤ t := by
     rcases Int.lt_or_le t 1 with h | h
     ·exact absurd cf (HMN.out h)
     ·exact h
    have hN1 := HT.out.2.1
    have hsh := dec_shut (X := fun _ => True) ⟨x, false, []⟩ ok (.slice none 0 0) (fun _ => False) (fun k hk => hk.elim) (Kd.R_nil _ _ _ _ _) ((cf ▸ HD2.out.1).alloc (.cells #[.string x, .bool false, .slice none 0 0] 62 (0, 0)) |>.mono (fun k _ => ⟨trivial, fun h => h⟩))
     hok' (fun k _ => trivial) (fun o ho => by have := hk'.hl o ho; omega) (by have := hk'.hn; omega)
    have hkq := fun y => shut_keep st'.length st' ok y (N + 1) rfl hk'
    have hrec := HREC.out
    rw [if_pos cf] at hrec
    obtain ⟨⟨done, y, sq⟩, hr⟩ : ∃ r, shutD a' st'.length ok ⟨x, false, []⟩ st' = r := ⟨_, rfl⟩
    have hkq := hkq ⟨x, false, []⟩
    rw [hr] at hsh hrec hkq
    dsimp only at hrec hkq
    have HSH := Aside0.mk hsh
    have HRQ := Aside0.mk hrec
    have HT1 := Aside0.mk ht1
    have HKQ := Aside0.mk hkq
    clear hsh hrec hkq hr cf hk' hok' ht1 hN1
    go_wp2_with fail
    refine HSH.out.mono ?_
    rintro e w5 ⟨vy, v5, rfl, oky, hoky, hRy, hD5⟩
    obtain ⟨Ay, cy, rfl⟩ := Kd.R_slice hRy
    have r1 := (blk_cell hD5.hb 1).trans (show _ = some (Value.int .i64 a') from rfl)
    have hg5 := hD5.lt
    have hz5 := hD5.hB.size
    have HD5 := Aside0.mk (And.intro hoky (And.intro hRy hD5))
    have h6 := blk_below K6.out (hD5.hB.mono (Nat.le_refl _))
    clear hoky hRy hD5
    cases done with
    | true =>
     go_wp2
     obtain ⟨z0, z1, z2, g0, g1, g2⟩ := cells3 (blk_alloc h6 (.cells #[.string y.f0, .bool y.f1, .slice Ay y.f2.length cy] 62 (0, 0)))
     obtain ⟨p0, p1, p2, -, -, -⟩ := cells3 (blk_new w5 (.cells #[.string y.f0, .bool y.f1, .slice Ay y.f2.length cy] 62 (0, 0)))
     have r1' := (blk_cell (blk_alloc HD5.out.2.2.hb (.cells #[.string y.f0, .bool y.f1, .slice Ay y.f2.length cy] 62 (0, 0))) 1).trans (show _ = some (Value.int .i64 a') from rfl)
     have hne : wz.heap.size ≠ w.heap.size := by have := SZ.out; omega
     have hne2 : w.heap.size ≠ wz.heap.size := fun e => hne e.symm
     go_region
     all_goals
      go_wp2
      have k1 := blk_put (blk_put (blk_put (blk_alloc h6 (.cells #[.string y.f0, .bool y.f1, .slice Ay y.f2.length cy] 62 (0, 0))) 0 (.string y.f0) rfl) 1 (.bool y.f1) rfl) 2 (.slice Ay y.f2.length cy) rfl
      refine bodyPost_ret (results_ctt rfl _ _ w.heap.size 62 #[.string y.f0, .bool y.f1, .slice Ay y.f2.length cy] (0, 0) _ rfl (blk_drew k1) Try.underlying62 rfl (by kernel_rfl)) rfl ?_
      have hrr : (y, a', (0 : Int)) = R0 := by simpa using HRQ.out
      rw [← hrr]
      obtain ⟨-, hRy, hD5⟩ := HD5.out
      refine ⟨_, rfl, Kd.R_mono (Kd.R_lower (Kd.R_drew (row_set3 (Kd.R_below (Kd.R_bound hRy) (below_alloc (Below.refl _ _) _)) (fun k hk => by have := hk.2.1; have := SZ.out; omega) _ _ _)) (by have := SZ.out; omega)) (fun _ _ => trivial), below_drew (below_set (below_set (below_set (below_alloc (HBZ.out.trans (hD5.hB.mono (by have := SZ.out; omega))) _) (Nat.le_refl _)) (Nat.le_refl _)) (Nat.le_refl _))⟩
    | false =>
     go_wp2
     go_roundg n
     case measure => omega
     case rel =>
      refine ⟨⟨a', t - 1, sq, N + 1 + 1, v5, HKQ.out, ?_, ?_, ?_, ?_, ?_⟩⟩
      ·have := HT1.out; omega
      ·have := HT.out; omega
      ·have := HT.out; omega
      ·exact HRQ.out
      ·exact (HD5.out.2.2.alloc _).mono (fun k _ => trivial)
   ·have e5 : (f != 0) = true := by simpa using cf
    have h6 := blk_below K6.out (HD2.out.1.hB.mono (Nat.le_refl _))
    have hrec := HREC.out
    rw [if_neg cf] at hrec
    have HRQ := Aside0.mk hrec
    clear hrec cf
    go_wp2
    obtain ⟨z0, z1, z2, g0, g1, g2⟩ := cells3 (blk_alloc h6 (.cells #[.string x, .bool false, .slice none 0 0] 62 (0, 0)))
    have r5' := (blk_cell (blk_alloc HD2.out.1.hb (.cells #[.string x, .bool false, .slice none 0 0] 62 (0, 0))) 5).trans (show _ = some (Value.int .i64 f) from rfl)
    have hne : wz.heap.size ≠ w.heap.size := by have := SZ.out; omega
    have hne2 : w.heap.size ≠ wz.heap.size := fun e => hne e.symm
    go_region
    all_goals
     go_wp2
     have k1 := blk_put (blk_put (blk_put (blk_alloc h6 (.cells #[.string x, .bool false, .slice none 0 0] 62 (0, 0))) 0 (.string ⟨#[]⟩) rfl) 1 (.bool false) rfl) 2 (.slice none 0 0) rfl
     refine bodyPost_ret (results_ctt rfl _ _ w.heap.size 62 #[.string ⟨#[]⟩, .bool false, .slice none 0 0] (0, 0) _ rfl (blk_drew k1) Try.underlying62 rfl (by kernel_rfl)) rfl ?_
     rw [← HRQ.out]
     exact ⟨_, rfl, Kd.R_nil _ _ _ _ _, below_drew (below_set (below_set (below_set (below_alloc (HBZ.out.trans (HD2.out.1.hB.mono (by have := SZ.out; omega))) _) (Nat.le_refl _)) (Nat.le_refl _)) (Nat.le_refl _))⟩
end Go.Proofs.Yteoibgpkimlahaa.P
end
section
namespace Go.Proofs.Yteoibgpkimlahaa.P
open Go.RowKit Go.Proofs.YteoibgpkimlahaaW.PrintWords Go.Proofs.YteoibgpkimlahaaW.PrintLast Go.Proofs.YteoibgpkimlahaaW.PrintMore
attribute [local go_sem] max2_int min2_int max_two min_two max_three min_three max_four min_four   
set_option linter.unusedVariables false
set_option linter.unusedSimpArgs false
def rlp_Next.f (s : ByteArray) (depth items : Int) : Option (ByteArray × Bool × (List (S62)) × Int × Int) := if s.size ≤ 1099511627776 then some ((nextF s depth items).1.f0, (nextF s depth items).1.f1, (nextF s depth items).1.f2, (nextF s depth items).2.1, (nextF s depth items).2.2) else none
theorem rlp_Next.calls (a0 : ByteArray) (a1 a2 : Int) (r1 : ByteArray) (r2 : Bool) (r3 : List (S62)) (r4 r5 : Int) (w : World) (h : rlp_Next.f a0 a1 a2 = some (r1, r2, r3, r4, r5)) :
  Calls Try.prog 53 #[.string a0, .int .i64 a1, .int .i64 a2] w fun e w' => ∃ v2_ : Value, e = .returned (.tuple #[.agg #[.string r1, .bool r2, v2_], .int .i64 r4, .int .i64 r5]) ∧ Kd.R k62 62 w' w.heap.size (fun _ => True) v2_ r3 ∧ Below w.heap.size w w' := by
 unfold rlp_Next.f at h
 by_cases c : a0.size ≤ 1099511627776
 ·rw [if_pos c] at h
  obtain ⟨rfl, rfl, rfl, rfl, rfl⟩ : (nextF a0 a1 a2).1.f0 = r1 ∧ (nextF a0 a1 a2).1.f1 = r2 ∧ (nextF a0 a1 a2).1.f2 = r3 ∧ (nextF a0 a1 a2).2.1 = r4 ∧ (nextF a0 a1 a2).2.2 = r5 := by simpa using h
  exact next_calls a0 a1 a2 w c
 ·rw [if_neg c] at h; cases h
end Go.Proofs.Yteoibgpkimlahaa.P
end
section
namespace Go.Proofs.Yteoibgpkimlahaa.P
open Go.RowKit Go.Proofs.YteoibgpkimlahaaW.PrintWords Go.Proofs.YteoibgpkimlahaaW.PrintLast Go.Proofs.YteoibgpkimlahaaW.PrintMore
attribute [local go_sem] max2_int min2_int max_two min_two max_three min_three max_four min_four   
set_option linter.unusedVariables false
set_option linter.unusedSimpArgs false
def rlp_Get.f (a0 : ByteArray) (a1 : Int) (a2 : Int) : Option (ByteArray × Bool × (List (S62)) × Int) := (rlp_Next.f a0 a1 a2).bind fun bt102 => (if bt102.2.2.2.2 = 0 then (if bt102.2.2.2.1 < (a0.size : Int) then (some ((⟨#[]⟩ : ByteArray), false, ([] : List (S62)), 3)) else (some (bt102.1, bt102.2.1, bt102.2.2.1, 0))) else (some ((⟨#[]⟩ : ByteArray), false, ([] : List (S62)), bt102.2.2.2.2)))
set_option maxHeartbeats 8000000 in
set_option maxRecDepth 100000 in
theorem rlp_Get.calls (a0 : ByteArray) (a1 : Int) (a2 : Int) (r1 : ByteArray) (r2 : Bool) (r3 : List (S62)) (r4 : Int) (w : World) (h : rlp_Get.f a0 a1 a2 = some (r1, r2, r3, r4)) :
  Calls Try.prog 52 #[.string a0, .int .i64 a1, .int .i64 a2] w fun e w' => ∃ v2_ : Value, e = .returned (.tuple #[.agg #[.string r1, .bool r2, v2_], .int .i64 r4]) ∧ Kd.R k62 62 w' w.heap.size (fun _ => True) v2_ r3 ∧ Below w.heap.size w w' := by
 have hu62 := Try.underlying62
 have HB := Aside0.mk (Below.refl w.heap.size w)
 have H : ((rlp_Next.f a0 a1 a2).bind fun bt102 => (if bt102.2.2.2.2 = 0 then (if bt102.2.2.2.1 < (a0.size : Int) then (some ((⟨#[]⟩ : ByteArray), false, ([] : List (S62)), 3)) else (some (bt102.1, bt102.2.1, bt102.2.2.1, 0))) else (some ((⟨#[]⟩ : ByteArray), false, ([] : List (S62)), bt102.2.2.2.2)))) = some (r1, r2, r3, r4) := h
 clear h
 replace H := Option.bind_eq_some_iff.mp H
 obtain ⟨⟨t102, t103, t104, t107, t108⟩, A40, H⟩ := H
 replace H : (if t108 = 0 then (if t107 < (a0.size : Int) then (some ((⟨#[]⟩ : ByteArray), false, ([] : List (S62)), 3)) else (some (t102, t103, t104, 0))) else (some ((⟨#[]⟩ : ByteArray), false, ([] : List (S62)), t108))) = some (r1, r2, r3, r4) := H
 have A4 := Aside0.mk A40
 clear A40
 by_cases c5 : t108 = 0
 ·rw [if_pos c5] at H
  have c5b0 : (t108 == 0) = true := beq_iff_eq.mpr c5
  have c5b1 : (t108 != 0) = false := bne_eq_false_iff_eq.mpr c5
  clear c5
  by_cases c6 : t107 < (a0.size : Int)
  ·rw [if_pos c6] at H
   have c6b0 : decide (t107 < (a0.size : Int)) = true := decide_eq_true c6
   clear c6
   simp only [Option.some.injEq, Prod.mk.injEq] at H
   obtain ⟨rfl, rfl, rfl, rfl⟩ := H
   go_enter Try.func52, Try.ntmps52
   go_wp2_with (first | ((with_reducible refine gate_dst (N := 6) rfl ?_); refine box_event ?hg (N := 6) ?hd (cs := #[.string (⟨#[]⟩ : ByteArray), .bool false, .slice none 0 0]) (t := 62) ?hr ?_; (case hd => rfl); (case hg => rfl); (case hr => first | (go_simp; done) | (go_simp; rfl)); intro gb101 hg w7 hbox hb; have n0_ := Aside0.mk (below_step (by repeat (first | (with_reducible first | exact HB.out | apply below_alloc | apply pw_below_drewN | apply below_drew1) | exact HB.out)) hb); have n1_ := Aside0.mk (hbox); have n2_ := Aside0.mk ((by rw [hg]; exact (below_size (by repeat (first | (with_reducible first | exact HB.out | apply below_alloc | apply pw_below_drewN | apply below_drew1) | exact HB.out))) : w.heap.size ≤ gb101)); have n3_ := Aside0.mk ((by rw [hg]; exact (below_size (by repeat (first | (with_reducible first | exact HB.out | apply below_alloc | apply pw_below_drewN | apply below_drew1) | exact HB.out))) : w.heap.size ≤ gb101)); clear HB; have HB := n0_; have BK101 := n1_; have GW101 := n2_; have GE101 := n3_; clear n0_ n1_ n2_ n3_; clear hb hbox hg) | ((with_reducible refine gate_callee (f := 53) rfl ?_); refine goesL_ (some 15) rfl rfl Try.func53 (by kernel_rfl) rfl #[.string a0, .int .i64 a1, .int .i64 a2] rfl (by (try simp only [List.map_toArray, List.map_cons, List.map_nil]); first | done | rfl | (simp only [List.length_drop, List.length_take]; rfl)) ?_; (with_reducible refine (rlp_Next.calls a0 a1 a2 t102 t103 t104 t107 t108 _ A4.out).mono ?_); rintro e w8 ⟨v105, rfl, ho0, hb⟩; refine ⟨_, rfl, ?_⟩; have n0_ := Aside0.mk (Kd.R_lower (Kd.R_newB ho0 (g := gb101) (o := .cells #[.string (⟨#[]⟩ : ByteArray), .bool false, .slice none 0 0] 62 (0, 0)) (by (with_reducible repeat (first | refine blk_drewN ?_ _ | refine blk_drew ?_ | refine blk_alloc ?_ _)); exact BK101.out)) (below_size (by repeat (first | (with_reducible first | exact HB.out | apply below_alloc | apply pw_below_drewN | apply below_drew1 | refine below_set ?_ GE101.out) | exact HB.out)))); have n1_ := Aside0.mk (blk_below (g := gb101) (o := .cells #[.string (⟨#[]⟩ : ByteArray), .bool false, .slice none 0 0] 62 (0, 0)) (by (with_reducible repeat (first | refine blk_drewN ?_ _ | refine blk_drew ?_ | refine blk_alloc ?_ _)); exact BK101.out) hb); have n2_ := Aside0.mk (below_step (by repeat (first | (with_reducible first | exact HB.out | apply below_alloc | apply pw_below_drewN | apply below_drew1 | refine below_set ?_ GE101.out) | exact HB.out)) hb); clear BK101; clear HB; have HO106 := n0_; have BK101 := n1_; have HB := n2_; clear n0_ n1_ n2_; (try clear hb); (try clear hb2); (try clear hk); (try clear hi); (try clear ho0)) | ((with_reducible refine gate_dst (N := 8) rfl ?_); refine box_event ?hg (N := 8) ?hd (cs := #[.string (⟨#[]⟩ : ByteArray), .bool false, .slice none 0 0]) (t := 62) ?hr ?_; (case hd => rfl); (case hg => rfl); (case hr => first | (go_simp; done) | (go_simp; rfl)); intro gb109 hg w9 hbox hb; have n0_ := Aside0.mk (Kd.R_below (Kd.R_elderB (by (with_reducible repeat (first | apply Kd.R_alloc | apply Kd.R_drewN | apply Kd.R_drew)); exact HO106.out) gb109 (Nat.le_of_eq hg.symm)) hb); have n1_ := Aside0.mk (blk_below (g := gb101) (o := .cells #[.string (⟨#[]⟩ : ByteArray), .bool false, .slice none 0 0] 62 (0, 0)) (by (with_reducible repeat (first | refine blk_drewN ?_ _ | refine blk_drew ?_ | refine blk_alloc ?_ _)); exact BK101.out) hb); have n2_ := Aside0.mk (below_step (by repeat (first | (with_reducible first | exact HB.out | apply below_alloc | apply pw_below_drewN | apply below_drew1 | refine below_set ?_ GE101.out) | exact HB.out)) hb); have n3_ := Aside0.mk (hbox); have n4_ := Aside0.mk ((by rw [hg]; exact (below_size (by repeat (first | (with_reducible first | exact HB.out | apply below_alloc | apply pw_below_drewN | apply below_drew1 | refine below_set ?_ GE101.out) | exact HB.out))) : w.heap.size ≤ gb109)); have n5_ := Aside0.mk ((by rw [hg]; exact (below_size (by repeat (first | (with_reducible first | exact HB.out | apply below_alloc | apply pw_below_drewN | apply below_drew1 | refine below_set ?_ GE101.out) | exact HB.out))) : w.heap.size ≤ gb109)); have n6_ := Aside0.mk ((by rw [hg]; exact Nat.ne_of_lt (blk_lt (g := gb101) (o := .cells #[.string (⟨#[]⟩ : ByteArray), .bool false, .slice none 0 0] 62 (0, 0)) (by (with_reducible repeat (first | refine blk_drewN ?_ _ | refine blk_drew ?_ | refine blk_alloc ?_ _)); exact BK101.out)) : gb101 ≠ gb109)); have n7_ := Aside0.mk ((by rw [hg]; exact Nat.ne_of_gt (blk_lt (g := gb101) (o := .cells #[.string (⟨#[]⟩ : ByteArray), .bool false, .slice none 0 0] 62 (0, 0)) (by (with_reducible repeat (first | refine blk_drewN ?_ _ | refine blk_drew ?_ | refine blk_alloc ?_ _)); exact BK101.out)) : gb109 ≠ gb101)); clear HO106; clear BK101; clear HB; have HO106 := n0_; have BK101 := n1_; have HB := n2_; have BK109 := n3_; have GW109 := n4_; have GE109 := n5_; have NB101_109 := n6_; have NB109_101 := n7_; clear n0_ n1_ n2_ n3_ n4_ n5_ n6_ n7_; clear hb hbox hg; have hnb10 := NB109_101.out; have hnc10 := NB101_109.out; have hcz11_0 : w9.cell? ⟨gb109, 0, none⟩ = some (.string (⟨#[]⟩ : ByteArray)) := (blk_cell BK109.out 0).trans rfl; have hcz11_1 : w9.cell? ⟨gb109, 1, none⟩ = some (.bool false) := (blk_cell BK109.out 1).trans rfl; have hcz11_2 : w9.cell? ⟨gb109, 2, none⟩ = some (.slice none 0 0) := (blk_cell BK109.out 2).trans rfl; have hfz11_0 := blk_frozen BK109.out 0; have hfz11_1 := blk_frozen BK109.out 1; have hfz11_2 := blk_frozen BK109.out 2; obtain ⟨Ao12, co12, eo12⟩ := Kd.R_slice HO106.out; subst eo12; have hcz13_0 : w9.cell? ⟨gb101, 0, none⟩ = some (.string (⟨#[]⟩ : ByteArray)) := (blk_cell BK101.out 0).trans rfl; have hcz13_1 : w9.cell? ⟨gb101, 1, none⟩ = some (.bool false) := (blk_cell BK101.out 1).trans rfl; have hcz13_2 : w9.cell? ⟨gb101, 2, none⟩ = some (.slice none 0 0) := (blk_cell BK101.out 2).trans rfl; have hfz13_0 := blk_frozen BK101.out 0; have hfz13_1 := blk_frozen BK101.out 1; have hfz13_2 := blk_frozen BK101.out 2))
   refine bodyPost_ret (results_ct rfl _ _ gb101 62 #[.string (⟨#[]⟩ : ByteArray), .bool false, .slice none 0 0] (0, 0) _ rfl (by (with_reducible repeat (first | refine blk_drewN ?_ _ | refine blk_drew ?_ | refine blk_alloc ?_ _)); refine blk_put (cs := #[.string (⟨#[]⟩ : ByteArray), .bool false, .slice none 0 0]) ?_ 2 _ rfl; (with_reducible repeat (first | refine blk_drewN ?_ _ | refine blk_drew ?_ | refine blk_alloc ?_ _)); refine blk_put (cs := #[.string (⟨#[]⟩ : ByteArray), .bool false, .slice none 0 0]) ?_ 1 _ rfl; (with_reducible repeat (first | refine blk_drewN ?_ _ | refine blk_drew ?_ | refine blk_alloc ?_ _)); refine blk_put (cs := #[.string (⟨#[]⟩ : ByteArray), .bool false, .slice none 0 0]) ?_ 0 _ rfl; (with_reducible repeat (first | refine blk_drewN ?_ _ | refine blk_drew ?_ | refine blk_alloc ?_ _)); refine blk_far ?_ NB101_109.out _; (with_reducible repeat (first | refine blk_drewN ?_ _ | refine blk_drew ?_ | refine blk_alloc ?_ _)); refine blk_far ?_ NB101_109.out _; (with_reducible repeat (first | refine blk_drewN ?_ _ | refine blk_drew ?_ | refine blk_alloc ?_ _)); refine blk_far ?_ NB101_109.out _; (with_reducible repeat (first | refine blk_drewN ?_ _ | refine blk_drew ?_ | refine blk_alloc ?_ _)); exact BK101.out) Try.underlying62 rfl (by kernel_rfl)) rfl ?_
   exact ⟨_, by first | rfl | (simp [errW_none, errW_some] <;> rfl) | (simp [*, errW_none, errW_some] <;> rfl), by first | exact Kd.R_nil _ _ _ _ _ | exact Kd.N_nil _ _ _ _ _ | exact Kd.V_nil _ _ _ _ _ | exact Kd.Q_nil _ _ _ _ _ | exact Kd.S_nil _ _ _ _ _, by repeat (first | (with_reducible first | exact HB.out | apply below_alloc | apply pw_below_drewN | apply below_drew1 | refine below_set ?_ GE101.out | refine below_set ?_ GE109.out) | exact HB.out)⟩
  ·rw [if_neg c6] at H
   have c6b0 : decide (t107 < (a0.size : Int)) = false := decide_eq_false c6
   clear c6
   simp only [Option.some.injEq, Prod.mk.injEq] at H
   obtain ⟨rfl, rfl, rfl, rfl⟩ := H
   go_enter Try.func52, Try.ntmps52
   go_wp2_with (first | ((with_reducible refine gate_dst (N := 6) rfl ?_); refine box_event ?hg (N := 6) ?hd (cs := #[.string (⟨#[]⟩ : ByteArray), .bool false, .slice none 0 0]) (t := 62) ?hr ?_; (case hd => rfl); (case hg => rfl); (case hr => first | (go_simp; done) | (go_simp; rfl)); intro gb101 hg w14 hbox hb; have n0_ := Aside0.mk (below_step (by repeat (first | (with_reducible first | exact HB.out | apply below_alloc | apply pw_below_drewN | apply below_drew1) | exact HB.out)) hb); have n1_ := Aside0.mk (hbox); have n2_ := Aside0.mk ((by rw [hg]; exact (below_size (by repeat (first | (with_reducible first | exact HB.out | apply below_alloc | apply pw_below_drewN | apply below_drew1) | exact HB.out))) : w.heap.size ≤ gb101)); have n3_ := Aside0.mk ((by rw [hg]; exact (below_size (by repeat (first | (with_reducible first | exact HB.out | apply below_alloc | apply pw_below_drewN | apply below_drew1) | exact HB.out))) : w.heap.size ≤ gb101)); clear HB; have HB := n0_; have BK101 := n1_; have GW101 := n2_; have GE101 := n3_; clear n0_ n1_ n2_ n3_; clear hb hbox hg) | ((with_reducible refine gate_callee (f := 53) rfl ?_); refine goesL_ (some 15) rfl rfl Try.func53 (by kernel_rfl) rfl #[.string a0, .int .i64 a1, .int .i64 a2] rfl (by (try simp only [List.map_toArray, List.map_cons, List.map_nil]); first | done | rfl | (simp only [List.length_drop, List.length_take]; rfl)) ?_; (with_reducible refine (rlp_Next.calls a0 a1 a2 t102 t103 t104 t107 t108 _ A4.out).mono ?_); rintro e w15 ⟨v105, rfl, ho0, hb⟩; refine ⟨_, rfl, ?_⟩; have n0_ := Aside0.mk (Kd.R_lower (Kd.R_newB ho0 (g := gb101) (o := .cells #[.string (⟨#[]⟩ : ByteArray), .bool false, .slice none 0 0] 62 (0, 0)) (by (with_reducible repeat (first | refine blk_drewN ?_ _ | refine blk_drew ?_ | refine blk_alloc ?_ _)); exact BK101.out)) (below_size (by repeat (first | (with_reducible first | exact HB.out | apply below_alloc | apply pw_below_drewN | apply below_drew1 | refine below_set ?_ GE101.out) | exact HB.out)))); have n1_ := Aside0.mk (blk_below (g := gb101) (o := .cells #[.string (⟨#[]⟩ : ByteArray), .bool false, .slice none 0 0] 62 (0, 0)) (by (with_reducible repeat (first | refine blk_drewN ?_ _ | refine blk_drew ?_ | refine blk_alloc ?_ _)); exact BK101.out) hb); have n2_ := Aside0.mk (below_step (by repeat (first | (with_reducible first | exact HB.out | apply below_alloc | apply pw_below_drewN | apply below_drew1 | refine below_set ?_ GE101.out) | exact HB.out)) hb); clear BK101; clear HB; have HO106 := n0_; have BK101 := n1_; have HB := n2_; clear n0_ n1_ n2_; (try clear hb); (try clear hb2); (try clear hk); (try clear hi); (try clear ho0)) | ((with_reducible refine gate_dst (N := 8) rfl ?_); refine box_event ?hg (N := 8) ?hd (cs := #[.string (⟨#[]⟩ : ByteArray), .bool false, .slice none 0 0]) (t := 62) ?hr ?_; (case hd => rfl); (case hg => rfl); (case hr => first | (go_simp; done) | (go_simp; rfl)); intro gb109 hg w16 hbox hb; have n0_ := Aside0.mk (Kd.R_below (Kd.R_elderB (by (with_reducible repeat (first | apply Kd.R_alloc | apply Kd.R_drewN | apply Kd.R_drew)); exact HO106.out) gb109 (Nat.le_of_eq hg.symm)) hb); have n1_ := Aside0.mk (blk_below (g := gb101) (o := .cells #[.string (⟨#[]⟩ : ByteArray), .bool false, .slice none 0 0] 62 (0, 0)) (by (with_reducible repeat (first | refine blk_drewN ?_ _ | refine blk_drew ?_ | refine blk_alloc ?_ _)); exact BK101.out) hb); have n2_ := Aside0.mk (below_step (by repeat (first | (with_reducible first | exact HB.out | apply below_alloc | apply pw_below_drewN | apply below_drew1 | refine below_set ?_ GE101.out) | exact HB.out)) hb); have n3_ := Aside0.mk (hbox); have n4_ := Aside0.mk ((by rw [hg]; exact (below_size (by repeat (first | (with_reducible first | exact HB.out | apply below_alloc | apply pw_below_drewN | apply below_drew1 | refine below_set ?_ GE101.out) | exact HB.out))) : w.heap.size ≤ gb109)); have n5_ := Aside0.mk ((by rw [hg]; exact (below_size (by repeat (first | (with_reducible first | exact HB.out | apply below_alloc | apply pw_below_drewN | apply below_drew1 | refine below_set ?_ GE101.out) | exact HB.out))) : w.heap.size ≤ gb109)); have n6_ := Aside0.mk ((by rw [hg]; exact Nat.ne_of_lt (blk_lt (g := gb101) (o := .cells #[.string (⟨#[]⟩ : ByteArray), .bool false, .slice none 0 0] 62 (0, 0)) (by (with_reducible repeat (first | refine blk_drewN ?_ _ | refine blk_drew ?_ | refine blk_alloc ?_ _)); exact BK101.out)) : gb101 ≠ gb109)); have n7_ := Aside0.mk ((by rw [hg]; exact Nat.ne_of_gt (blk_lt (g := gb101) (o := .cells #[.string (⟨#[]⟩ : ByteArray), .bool false, .slice none 0 0] 62 (0, 0)) (by (with_reducible repeat (first | refine blk_drewN ?_ _ | refine blk_drew ?_ | refine blk_alloc ?_ _)); exact BK101.out)) : gb109 ≠ gb101)); clear HO106; clear BK101; clear HB; have HO106 := n0_; have BK101 := n1_; have HB := n2_; have BK109 := n3_; have GW109 := n4_; have GE109 := n5_; have NB101_109 := n6_; have NB109_101 := n7_; clear n0_ n1_ n2_ n3_ n4_ n5_ n6_ n7_; clear hb hbox hg; have hnb17 := NB109_101.out; have hnc17 := NB101_109.out; have hcz18_0 : w16.cell? ⟨gb109, 0, none⟩ = some (.string (⟨#[]⟩ : ByteArray)) := (blk_cell BK109.out 0).trans rfl; have hcz18_1 : w16.cell? ⟨gb109, 1, none⟩ = some (.bool false) := (blk_cell BK109.out 1).trans rfl; have hcz18_2 : w16.cell? ⟨gb109, 2, none⟩ = some (.slice none 0 0) := (blk_cell BK109.out 2).trans rfl; have hfz18_0 := blk_frozen BK109.out 0; have hfz18_1 := blk_frozen BK109.out 1; have hfz18_2 := blk_frozen BK109.out 2; obtain ⟨Ao19, co19, eo19⟩ := Kd.R_slice HO106.out; subst eo19; have hcz20_0 : w16.cell? ⟨gb101, 0, none⟩ = some (.string (⟨#[]⟩ : ByteArray)) := (blk_cell BK101.out 0).trans rfl; have hcz20_1 : w16.cell? ⟨gb101, 1, none⟩ = some (.bool false) := (blk_cell BK101.out 1).trans rfl; have hcz20_2 : w16.cell? ⟨gb101, 2, none⟩ = some (.slice none 0 0) := (blk_cell BK101.out 2).trans rfl; have hfz20_0 := blk_frozen BK101.out 0; have hfz20_1 := blk_frozen BK101.out 1; have hfz20_2 := blk_frozen BK101.out 2))
   refine bodyPost_ret (results_ct rfl _ _ gb101 62 #[.string t102, .bool t103, .slice Ao19 t104.length co19] (0, 0) _ rfl (by (with_reducible repeat (first | refine blk_drewN ?_ _ | refine blk_drew ?_ | refine blk_alloc ?_ _)); refine blk_put (cs := #[.string t102, .bool t103, .slice none 0 0]) ?_ 2 _ rfl; (with_reducible repeat (first | refine blk_drewN ?_ _ | refine blk_drew ?_ | refine blk_alloc ?_ _)); refine blk_put (cs := #[.string t102, .bool false, .slice none 0 0]) ?_ 1 _ rfl; (with_reducible repeat (first | refine blk_drewN ?_ _ | refine blk_drew ?_ | refine blk_alloc ?_ _)); refine blk_put (cs := #[.string (⟨#[]⟩ : ByteArray), .bool false, .slice none 0 0]) ?_ 0 _ rfl; (with_reducible repeat (first | refine blk_drewN ?_ _ | refine blk_drew ?_ | refine blk_alloc ?_ _)); refine blk_far ?_ NB101_109.out _; (with_reducible repeat (first | refine blk_drewN ?_ _ | refine blk_drew ?_ | refine blk_alloc ?_ _)); refine blk_far ?_ NB101_109.out _; (with_reducible repeat (first | refine blk_drewN ?_ _ | refine blk_drew ?_ | refine blk_alloc ?_ _)); refine blk_far ?_ NB101_109.out _; (with_reducible repeat (first | refine blk_drewN ?_ _ | refine blk_drew ?_ | refine blk_alloc ?_ _)); exact BK101.out) Try.underlying62 rfl (by kernel_rfl)) rfl ?_
   exact ⟨_, by first | rfl | (simp [errW_none, errW_some] <;> rfl) | (simp [*, errW_none, errW_some] <;> rfl), by (with_reducible repeat (first | apply Kd.R_alloc | apply Kd.R_drewN | apply Kd.R_drew)); exact Kd.R_mono (Kd.R_far (p := ⟨gb101, 2, none⟩) (Kd.R_far (p := ⟨gb101, 1, none⟩) (Kd.R_far (p := ⟨gb101, 0, none⟩) (Kd.R_far (p := ⟨gb109, 2, none⟩) (Kd.R_far (p := ⟨gb109, 1, none⟩) (Kd.R_far (p := ⟨gb109, 0, none⟩) (Kd.R_mono (Kd.R_mono HO106.out (fun k_ hk => (⟨hk, hk.2⟩ : _ ∧ k_ ≠ gb109))) (fun k_ hk => (⟨hk, hk.1.1.2⟩ : _ ∧ k_ ≠ gb101))) (fun _ hk => hk.1.2) (.string t102)) (fun _ hk => hk.1.2) (.bool t103)) (fun _ hk => hk.1.2) (.slice Ao19 t104.length co19)) (fun _ hk => hk.2) (.string t102)) (fun _ hk => hk.2) (.bool t103)) (fun _ hk => hk.2) (.slice Ao19 t104.length co19)) (fun _ hk => trivial), by repeat (first | (with_reducible first | exact HB.out | apply below_alloc | apply pw_below_drewN | apply below_drew1 | refine below_set ?_ GE101.out | refine below_set ?_ GE109.out) | exact HB.out)⟩
 ·rw [if_neg c5] at H
  have c5b0 : (t108 == 0) = false := beq_eq_false_iff_ne.mpr c5
  have c5b1 : (t108 != 0) = true := bne_iff_ne.mpr c5
  simp only [Option.some.injEq, Prod.mk.injEq] at H
  obtain ⟨rfl, rfl, rfl, rfl⟩ := H
  go_enter Try.func52, Try.ntmps52
  go_wp2_with (first | ((with_reducible refine gate_dst (N := 6) rfl ?_); refine box_event ?hg (N := 6) ?hd (cs := #[.string (⟨#[]⟩ : ByteArray), .bool false, .slice none 0 0]) (t := 62) ?hr ?_; (case hd => rfl); (case hg => rfl); (case hr => first | (go_simp; done) | (go_simp; rfl)); intro gb101 hg w21 hbox hb; have n0_ := Aside0.mk (below_step (by repeat (first | (with_reducible first | exact HB.out | apply below_alloc | apply pw_below_drewN | apply below_drew1) | exact HB.out)) hb); have n1_ := Aside0.mk (hbox); have n2_ := Aside0.mk ((by rw [hg]; exact (below_size (by repeat (first | (with_reducible first | exact HB.out | apply below_alloc | apply pw_below_drewN | apply below_drew1) | exact HB.out))) : w.heap.size ≤ gb101)); have n3_ := Aside0.mk ((by rw [hg]; exact (below_size (by repeat (first | (with_reducible first | exact HB.out | apply below_alloc | apply pw_below_drewN | apply below_drew1) | exact HB.out))) : w.heap.size ≤ gb101)); clear HB; have HB := n0_; have BK101 := n1_; have GW101 := n2_; have GE101 := n3_; clear n0_ n1_ n2_ n3_; clear hb hbox hg) | ((with_reducible refine gate_callee (f := 53) rfl ?_); refine goesL_ (some 15) rfl rfl Try.func53 (by kernel_rfl) rfl #[.string a0, .int .i64 a1, .int .i64 a2] rfl (by (try simp only [List.map_toArray, List.map_cons, List.map_nil]); first | done | rfl | (simp only [List.length_drop, List.length_take]; rfl)) ?_; (with_reducible refine (rlp_Next.calls a0 a1 a2 t102 t103 t104 t107 t108 _ A4.out).mono ?_); rintro e w22 ⟨v105, rfl, ho0, hb⟩; refine ⟨_, rfl, ?_⟩; have n0_ := Aside0.mk (Kd.R_lower (Kd.R_newB ho0 (g := gb101) (o := .cells #[.string (⟨#[]⟩ : ByteArray), .bool false, .slice none 0 0] 62 (0, 0)) (by (with_reducible repeat (first | refine blk_drewN ?_ _ | refine blk_drew ?_ | refine blk_alloc ?_ _)); exact BK101.out)) (below_size (by repeat (first | (with_reducible first | exact HB.out | apply below_alloc | apply pw_below_drewN | apply below_drew1 | refine below_set ?_ GE101.out) | exact HB.out)))); have n1_ := Aside0.mk (blk_below (g := gb101) (o := .cells #[.string (⟨#[]⟩ : ByteArray), .bool false, .slice none 0 0] 62 (0, 0)) (by (with_reducible repeat (first | refine blk_drewN ?_ _ | refine blk_drew ?_ | refine blk_alloc ?_ _)); exact BK101.out) hb); have n2_ := Aside0.mk (below_step (by repeat (first | (with_reducible first | exact HB.out | apply below_alloc | apply pw_below_drewN | apply below_drew1 | refine below_set ?_ GE101.out) | exact HB.out)) hb); clear BK101; clear HB; have HO106 := n0_; have BK101 := n1_; have HB := n2_; clear n0_ n1_ n2_; (try clear hb); (try clear hb2); (try clear hk); (try clear hi); (try clear ho0)) | ((with_reducible refine gate_dst (N := 8) rfl ?_); refine box_event ?hg (N := 8) ?hd (cs := #[.string (⟨#[]⟩ : ByteArray), .bool false, .slice none 0 0]) (t := 62) ?hr ?_; (case hd => rfl); (case hg => rfl); (case hr => first | (go_simp; done) | (go_simp; rfl)); intro gb109 hg w23 hbox hb; have n0_ := Aside0.mk (Kd.R_below (Kd.R_elderB (by (with_reducible repeat (first | apply Kd.R_alloc | apply Kd.R_drewN | apply Kd.R_drew)); exact HO106.out) gb109 (Nat.le_of_eq hg.symm)) hb); have n1_ := Aside0.mk (blk_below (g := gb101) (o := .cells #[.string (⟨#[]⟩ : ByteArray), .bool false, .slice none 0 0] 62 (0, 0)) (by (with_reducible repeat (first | refine blk_drewN ?_ _ | refine blk_drew ?_ | refine blk_alloc ?_ _)); exact BK101.out) hb); have n2_ := Aside0.mk (below_step (by repeat (first | (with_reducible first | exact HB.out | apply below_alloc | apply pw_below_drewN | apply below_drew1 | refine below_set ?_ GE101.out) | exact HB.out)) hb); have n3_ := Aside0.mk (hbox); have n4_ := Aside0.mk ((by rw [hg]; exact (below_size (by repeat (first | (with_reducible first | exact HB.out | apply below_alloc | apply pw_below_drewN | apply below_drew1 | refine below_set ?_ GE101.out) | exact HB.out))) : w.heap.size ≤ gb109)); have n5_ := Aside0.mk ((by rw [hg]; exact (below_size (by repeat (first | (with_reducible first | exact HB.out | apply below_alloc | apply pw_below_drewN | apply below_drew1 | refine below_set ?_ GE101.out) | exact HB.out))) : w.heap.size ≤ gb109)); have n6_ := Aside0.mk ((by rw [hg]; exact Nat.ne_of_lt (blk_lt (g := gb101) (o := .cells #[.string (⟨#[]⟩ : ByteArray), .bool false, .slice none 0 0] 62 (0, 0)) (by (with_reducible repeat (first | refine blk_drewN ?_ _ | refine blk_drew ?_ | refine blk_alloc ?_ _)); exact BK101.out)) : gb101 ≠ gb109)); have n7_ := Aside0.mk ((by rw [hg]; exact Nat.ne_of_gt (blk_lt (g := gb101) (o := .cells #[.string (⟨#[]⟩ : ByteArray), .bool false, .slice none 0 0] 62 (0, 0)) (by (with_reducible repeat (first | refine blk_drewN ?_ _ | refine blk_drew ?_ | refine blk_alloc ?_ _)); exact BK101.out)) : gb109 ≠ gb101)); clear HO106; clear BK101; clear HB; have HO106 := n0_; have BK101 := n1_; have HB := n2_; have BK109 := n3_; have GW109 := n4_; have GE109 := n5_; have NB101_109 := n6_; have NB109_101 := n7_; clear n0_ n1_ n2_ n3_ n4_ n5_ n6_ n7_; clear hb hbox hg; have hnb24 := NB109_101.out; have hnc24 := NB101_109.out; have hcz25_0 : w23.cell? ⟨gb109, 0, none⟩ = some (.string (⟨#[]⟩ : ByteArray)) := (blk_cell BK109.out 0).trans rfl; have hcz25_1 : w23.cell? ⟨gb109, 1, none⟩ = some (.bool false) := (blk_cell BK109.out 1).trans rfl; have hcz25_2 : w23.cell? ⟨gb109, 2, none⟩ = some (.slice none 0 0) := (blk_cell BK109.out 2).trans rfl; have hfz25_0 := blk_frozen BK109.out 0; have hfz25_1 := blk_frozen BK109.out 1; have hfz25_2 := blk_frozen BK109.out 2; obtain ⟨Ao26, co26, eo26⟩ := Kd.R_slice HO106.out; subst eo26; have hcz27_0 : w23.cell? ⟨gb101, 0, none⟩ = some (.string (⟨#[]⟩ : ByteArray)) := (blk_cell BK101.out 0).trans rfl; have hcz27_1 : w23.cell? ⟨gb101, 1, none⟩ = some (.bool false) := (blk_cell BK101.out 1).trans rfl; have hcz27_2 : w23.cell? ⟨gb101, 2, none⟩ = some (.slice none 0 0) := (blk_cell BK101.out 2).trans rfl; have hfz27_0 := blk_frozen BK101.out 0; have hfz27_1 := blk_frozen BK101.out 1; have hfz27_2 := blk_frozen BK101.out 2))
  refine bodyPost_ret (results_ct rfl _ _ gb101 62 #[.string (⟨#[]⟩ : ByteArray), .bool false, .slice none 0 0] (0, 0) _ rfl (by (with_reducible repeat (first | refine blk_drewN ?_ _ | refine blk_drew ?_ | refine blk_alloc ?_ _)); refine blk_put (cs := #[.string (⟨#[]⟩ : ByteArray), .bool false, .slice none 0 0]) ?_ 2 _ rfl; (with_reducible repeat (first | refine blk_drewN ?_ _ | refine blk_drew ?_ | refine blk_alloc ?_ _)); refine blk_put (cs := #[.string (⟨#[]⟩ : ByteArray), .bool false, .slice none 0 0]) ?_ 1 _ rfl; (with_reducible repeat (first | refine blk_drewN ?_ _ | refine blk_drew ?_ | refine blk_alloc ?_ _)); refine blk_put (cs := #[.string (⟨#[]⟩ : ByteArray), .bool false, .slice none 0 0]) ?_ 0 _ rfl; (with_reducible repeat (first | refine blk_drewN ?_ _ | refine blk_drew ?_ | refine blk_alloc ?_ _)); refine blk_far ?_ NB101_109.out _; (with_reducible repeat (first | refine blk_drewN ?_ _ | refine blk_drew ?_ | refine blk_alloc ?_ _)); refine blk_far ?_ NB101_109.out _; (with_reducible repeat (first | refine blk_drewN ?_ _ | refine blk_drew ?_ | refine blk_alloc ?_ _)); refine blk_far ?_ NB101_109.out _; (with_reducible repeat (first | refine blk_drewN ?_ _ | refine blk_drew ?_ | refine blk_alloc ?_ _)); exact BK101.out) Try.underlying62 rfl (by kernel_rfl)) rfl ?_
  exact ⟨_, by first | rfl | (simp [errW_none, errW_some] <;> rfl) | (simp [*, errW_none, errW_some] <;> rfl), by first | exact Kd.R_nil _ _ _ _ _ | exact Kd.N_nil _ _ _ _ _ | exact Kd.V_nil _ _ _ _ _ | exact Kd.Q_nil _ _ _ _ _ | exact Kd.S_nil _ _ _ _ _, by repeat (first | (with_reducible first | exact HB.out | apply below_alloc | apply pw_below_drewN | apply below_drew1 | refine below_set ?_ GE101.out | refine below_set ?_ GE109.out) | exact HB.out)⟩
end Go.Proofs.Yteoibgpkimlahaa.P
end
