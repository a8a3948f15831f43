/- Whether any hello may be, and its bytes, or the error, are the document's; it is got again. (part 21 of 27) -/
import Derived.Test.YteoibgpkimlahaaB15
import Derived.Test.YteoibgpkimlahaaB8
import Derived.Test.YteoibgpkimlahaaB9
import Derived.Test.YteoibgpkimlahaaB16
import Derived.Test.YteoibgpkimlahaaB6
section
namespace Go.Proofs.Yteoibgpkimlahaa.P
open Go.RowKit Go.Proofs.YteoibgpkimlahaaW.PrintWords Go.Proofs.YteoibgpkimlahaaW.PrintLast Go.Proofs.YteoibgpkimlahaaW.PrintMore
set_option linter.unusedSimpArgs false
def hGetLoop : List S62 → Bool → List S104 → Option (List S104 × Bool)
 | [], b, acc => some (acc, b)
 | y :: ys, b, acc => if acc.length < 1000000 then (hello_reader_list.f b y.f0 y.f1 y.f2 2).bind fun c => (hello_reader_text.f c.2 (rd_T62 c.1 0).f0 (rd_T62 c.1 0).f1 (rd_T62 c.1 0).f2).bind fun t => (hello_reader_number.f t.2 (rd_T62 c.1 1).f0 (rd_T62 c.1 1).f1 (rd_T62 c.1 1).f2).bind fun n => hGetLoop ys n.2 (acc ++ [⟨t.1, n.1⟩]) else none
def hello_Get.f (k : Nat) (s : ByteArray) : Option (Int × Int × List S104 × Int) :=
 (rlp_Get.f s 16 1024).bind fun x => (hello_reader_list.f (x.2.2.2 != 0) x.1 x.2.1 x.2.2.1 3).bind fun l =>
 (hello_reader_number.f l.2 (rd_T62 l.1 0).f0 (rd_T62 l.1 0).f1 (rd_T62 l.1 0).f2).bind fun n =>
 (hello_reader_number.f n.2 (rd_T62 l.1 1).f0 (rd_T62 l.1 1).f1 (rd_T62 l.1 1).f2).bind fun m =>
 (hello_reader_list.f m.2 (rd_T62 l.1 2).f0 (rd_T62 l.1 2).f1 (rd_T62 l.1 2).f2 (-1)).bind fun q =>
 (hGetLoop q.1 q.2 []).bind fun c =>
 if c.2 = true then some (0, 0, [], 3) else (hello_May.f k n.1 m.1 c.1).bind fun ok => if ok = true then some (n.1, m.1, c.1, 0) else some (0, 0, [], 3)
theorem reader_len {b : Bool} {t : ByteArray} {l : Bool} {sub : List S62} {n : Int} {r : List S62} {b' : Bool} (h : hello_reader_list.f b t l sub n = some (r, b')) (h0 : 0 ≤ n) : (r.length : Int) = n := by
 have hm : mx n 0 = n := by unfold mx; rw [if_neg (by omega)]
 unfold hello_reader_list.f at h
 rw [hm] at h
 by_cases c1 : l = true
 ·rw [if_pos c1, if_pos h0] at h
  by_cases c2 : (sub.length : Int) = n
  ·rw [if_pos c2] at h
   obtain ⟨rfl, -⟩ : sub = r ∧ b = b' := by simpa using h
   exact c2
  ·rw [if_neg c2, if_pos h0] at h
   split at h
   ·obtain ⟨rfl, -⟩ : List.replicate n.toNat z62 = r ∧ true = b' := by simpa using h
    rw [List.length_replicate]; omega
   ·cases h
 ·rw [if_neg c1, if_pos h0] at h
  split at h
  ·obtain ⟨rfl, -⟩ : List.replicate n.toNat z62 = r ∧ true = b' := by simpa using h
   rw [List.length_replicate]; omega
  ·cases h
theorem cell_blk {W W' : World} {p : Addr} (h : W'.heap[p.block]? = W.heap[p.block]?) : W'.cell? p = W.cell? p := by
 unfold World.cell?
 rw [h]
theorem item_at {W : World} {ok : Nat → Prop} {A : Option Addr} {xs : List S62} (h : Kd.F k62 W ok A xs.length xs) (i : Int) (h0 : 0 ≤ i) (h1 : i < xs.length) : ∃ ad A2 c2, A = some ad ∧ ok ad.block ∧ (rd_T62 xs i).f2.length ≤ c2 ∧ Kd.F k62 W ok A2 (rd_T62 xs i).f2.length (rd_T62 xs i).f2 ∧
  ∀ W' : World, W'.heap[ad.block]? = W.heap[ad.block]? → W'.cell? (ad.add (i.toNat * 3)) = some (.string (rd_T62 xs i).f0) ∧ W'.cell? ⟨(ad.add (i.toNat * 3)).block, (ad.add (i.toNat * 3)).off + 1, none⟩ = some (.bool (rd_T62 xs i).f1) ∧ W'.cell? ⟨(ad.add (i.toNat * 3)).block, (ad.add (i.toNat * 3)).off + 2, none⟩ = some (.slice A2 (rd_T62 xs i).f2.length c2) := by
 obtain ⟨ad, c, rfl, hcl, hK, hcc, hok⟩ := Kd.F_get h z62 i h0 h1
 obtain ⟨A2, c2, rfl, hl2, hF2⟩ := k62_openF hK
 refine ⟨ad, A2, c2, rfl, hok (by decide), hl2, hF2, fun W' hW => ?_⟩
 have e0 : W.cell? (ad.add (i.toNat * 3 + 0)) = _ := hcc 0 _ rfl
 have e1 : W.cell? (ad.add (i.toNat * 3 + 1)) = _ := hcc 1 _ rfl
 have e2 : W.cell? (ad.add (i.toNat * 3 + 2)) = _ := hcc 2 _ rfl
 rw [Nat.add_zero] at e0
 refine ⟨(cell_blk (p := ad.add (i.toNat * 3)) (by rw [add_block]; exact hW)).trans e0, ?_, ?_⟩
 ·rw [← add_field _ _ 1 (by decide)]
  exact (cell_blk (p := ad.add (i.toNat * 3 + 1)) (by rw [add_block]; exact hW)).trans e1
 ·rw [← add_field _ _ 2 (by decide)]
  exact (cell_blk (p := ad.add (i.toNat * 3 + 2)) (by rw [add_block]; exact hW)).trans e2
def CapS (wz w6 w' : World) (g gb : Nat) (n m : Int) (b : Bool) (acc : List S104) : Prop :=
 ∃ (vc : Value) (okc : Nat → Prop), w'.heap[gb]? = some (.cells #[.int .i64 n, .int .i64 m, vc] 47 (0, 0)) ∧ Kd.R k104 104 w' wz.heap.size okc vc acc ∧ (∀ k, okc k → k ≠ g ∧ k ≠ gb ∧ w6.heap.size ≤ k) ∧ IsS134 wz w' g b ∧ Below wz.heap.size wz w' ∧ (∀ k, k < w6.heap.size → k ≠ g → k ≠ gb → w'.heap[k]? = w6.heap[k]?) ∧ w6.heap.size ≤ w'.heap.size
def GetS (wz w3 wc : World) (g gb : Nat) (n m : Int) (b : Bool) : Prop := wc.heap[gb]? = some (.cells #[.int .i64 n, .int .i64 m, .slice none 0 0] 47 (0, 0)) ∧ IsS134 wz wc g b ∧ Below wz.heap.size wz wc ∧ KeepBut w3 wc g none ∧ w3.heap.size ≤ gb
theorem getS_set {wz w3 w5 : World} {g gb : Nat} {n m : Int} {b : Bool} {x y z : Value} (hI : IsS134 wz w5 g b) (hB : Below wz.heap.size wz w5) (hK : KeepBut w3 w5 g none) (hG : w5.heap[gb]? = some (.cells #[x, y, z] 47 (0, 0))) (hge : w3.heap.size ≤ gb) (hne : gb ≠ g) (hz : wz.heap.size ≤ gb) :
  GetS wz w3 (((w5.setCell ⟨gb, 0, none⟩ (.int .i64 n)).setCell ⟨gb, 1, none⟩ (.int .i64 m)).setCell ⟨gb, 2, none⟩ (.slice none 0 0)) g gb n m b := by
 refine ⟨blk_put (blk_put (blk_put hG 0 (.int .i64 n) rfl) 1 (.int .i64 m) rfl) 2 (.slice none 0 0) rfl, ⟨?_, hI.2⟩, below_set (below_set (below_set hB hz) hz) hz, ⟨by simpa [World.setCell] using hK.1, fun i hi h1 h2 => ?_⟩, hge⟩
 ·exact blk_far (p := ⟨gb, 2, none⟩) (blk_far (p := ⟨gb, 1, none⟩) (blk_far (p := ⟨gb, 0, none⟩) hI.1 (fun e => hne e.symm) _) (fun e => hne e.symm) _) (fun e => hne e.symm) _
 ·have hi2 : i ≠ gb := by omega
  exact (Below.heap_setCell _ ⟨gb, 2, none⟩ _ i hi2).trans ((Below.heap_setCell _ ⟨gb, 1, none⟩ _ i hi2).trans ((Below.heap_setCell _ ⟨gb, 0, none⟩ _ i hi2).trans (hK.2 i hi h1 h2)))
theorem getS_alloc {wz w3 w5 : World} {g : Nat} {n m : Int} {b : Bool} (hI : IsS134 wz w5 g b) (hB : Below wz.heap.size wz w5) (hK : KeepBut w3 w5 g none) :
  GetS wz w3 (w5.alloc (.cells #[.int .i64 n, .int .i64 m, .slice none 0 0] 47 (0, 0))) g w5.heap.size n m b :=
 ⟨blk_new _ _, ⟨blk_alloc hI.1 _, hI.2⟩, below_alloc hB _, hK.trans (KeepBut.of_below (below_alloc (Below.refl _ _) _) _ _) (.inl rfl), hK.1⟩
def hg9_T : Bool × List (List Nat × List Nat) := (true, [([], []), ([0], [0]), ([], []), ([], []), ([3], [3]), ([4], [4]), ([2, 5], [2, 5]), ([], []), ([], []), ([8], [8]), ([9], [9]), ([7, 10, 6], [7, 10]), ([6, 11], [6, 11]), ([12], [12]), ([1, 13, 11], [1, 13]), ([0, 1, 2, 3, 4, 5, 6, 7, 8, 9, 10, 11, 12, 13, 14], []), ([15, 14, 14, 0, 1, 2, 3, 4, 5, 6, 7, 8, 9, 10, 11, 12, 13, 14], [14, 15])])
def hg9_B : List Nat := [0, 1, 0, 0, 8, 24, 60, 0, 0, 256, 768, 2044, 4092, 8188, 16383, 32767, 65535]
theorem hg9_tab : rtab .any (opsOf Try.f58 9) = hg9_T := by kernel_rfl
theorem hg9_bits : waitsOk hg9_T.2 hg9_B = true := by kernel_rfl
set_option maxHeartbeats 16000000 in
set_option maxRecDepth 100000 in
theorem hello_get (k : Nat) (s : ByteArray) (r0 r1 : Int) (r2 : List S104) (r3 : Int) (w : World) (h : hello_Get.f k s = some (r0, r1, r2, r3)) :
  Calls Try.prog 58 #[.string s] w fun e w' => ∃ v, e = .returned (.tuple #[.agg #[.int .i64 r0, .int .i64 r1, v], .int .i64 r3]) ∧ Kd.R k104 104 w' w.heap.size (fun _ => True) v r2 ∧ Below w.heap.size w w' := by
 have hu62 := Try.underlying62
 have hu47 := Try.underlying47
 unfold hello_Get.f at h
 obtain ⟨⟨t, b, sub, e0⟩, hget, h⟩ := Option.bind_eq_some_iff.1 h
 obtain ⟨⟨l, b1⟩, hl, h⟩ := Option.bind_eq_some_iff.1 h
 obtain ⟨⟨n, b2⟩, hn, h⟩ := Option.bind_eq_some_iff.1 h
 obtain ⟨⟨m, b3⟩, hm, h⟩ := Option.bind_eq_some_iff.1 h
 obtain ⟨⟨q, b4⟩, hq, h⟩ := Option.bind_eq_some_iff.1 h
 obtain ⟨⟨c, b5⟩, hc, h⟩ := Option.bind_eq_some_iff.1 h
 dsimp only at hl hn hm hq hc h
 have hlen := reader_len hl (by decide)
 have HGET := Aside0.mk hget
 have HL := Aside0.mk hl
 have HN := Aside0.mk hn
 have HM := Aside0.mk hm
 have HQ := Aside0.mk hq
 have HC := Aside0.mk hc
 have H := Aside0.mk h
 have HLEN := Aside0.mk hlen
 obtain ⟨wz, hwz⟩ : ∃ wz, w.alloc (.cells #[.int .i64 0, .int .i64 0, .slice none 0 0] 47 (0, 0)) = wz := ⟨_, rfl⟩
 have K2 := Aside0.mk (show wz.heap[w.heap.size]? = some (.cells #[.int .i64 0, .int .i64 0, .slice none 0 0] 47 (0, 0)) by rw [← hwz]; exact blk_new _ _)
 have SZ := Aside0.mk (show wz.heap.size = w.heap.size + 1 by rw [← hwz]; simp)
 have HBZ := Aside0.mk (show Below w.heap.size w wz by rw [← hwz]; exact below_alloc (Below.refl _ _) _)
 clear hget hl hn hm hq hc h hlen
 go_enter Try.func58, Try.ntmps58
 go_wp2_with fail
 refine (rlp_Get.calls s 16 1024 t b sub e0 _ HGET.out).mono ?_
 rintro e w1 ⟨v1, rfl, hR1, hB1⟩
 obtain ⟨A1, c1, rfl⟩ := Kd.R_slice hR1
 have hF1 := Kd.N_F (Kd.R_N (Kd.R_mono (Kd.R_bound hR1) (fun k hk => (show wz.heap.size ≤ k ∧ k < w1.heap.size from ⟨hk.2.1, hk.2.2.1⟩))))
 have HR1 := Aside0.mk (And.intro hF1 (And.intro (Kd.R_reads' hR1).2.1 hB1))
 clear hR1 hF1 hwz
 go_wp2_with fail
 have kg := blk_new (w1.alloc (.cells #[.string t, .bool b, .slice A1 sub.length c1] 62 (0, 0))) (.cells #[.bool (e0 != 0)] 134 (0, 0))
 rw [show (w1.alloc (.cells #[.string t, .bool b, .slice A1 sub.length c1] 62 (0, 0))).heap.size = w1.heap.size + 1 by simp] at kg
 have hb2 : Below w1.heap.size w1 ((w1.alloc (.cells #[.string t, .bool b, .slice A1 sub.length c1] 62 (0, 0))).alloc (.cells #[.bool (e0 != 0)] 134 (0, 0))) := below_alloc (below_alloc (Below.refl _ _) _) _
 have s2 : ((w1.alloc (.cells #[.string t, .bool b, .slice A1 sub.length c1] 62 (0, 0))).alloc (.cells #[.bool (e0 != 0)] 134 (0, 0))).heap.size = w1.heap.size + 2 := by simp
 generalize ((w1.alloc (.cells #[.string t, .bool b, .slice A1 sub.length c1] 62 (0, 0))).alloc (.cells #[.bool (e0 != 0)] 134 (0, 0))) = W2 at kg hb2 s2 ⊢
 obtain ⟨hF1, hc1, hB1⟩ := HR1.out
 have hge := hB1.size
 refine (hello_reader_list.calls (w1.heap.size + 1) (e0 != 0) t b (fun k => k < w1.heap.size) A1 c1 sub 3 l b1 wz W2 ⟨kg, by omega⟩ (hB1.trans (hb2.mono hge)) (Kd.V_mk hc1 (Kd.F_mono (Kd.F_below hF1 hb2) (fun k hk => ⟨hk.2, by have := hk.2; omega⟩))) HL.out).mono ?_
 rintro e w3 ⟨v3, rfl, hV3, hI3, hB3, hK3⟩
 obtain ⟨A3, c3, rfl⟩ := Kd.V_slice hV3
 have hlen := HLEN.out
 have hF3 := Kd.V_F hV3
 obtain ⟨ad, A4, c4, hA, hokA, hc4, hF4, hx0⟩ := item_at hF3 0 (by decide) (by omega)
 obtain ⟨ad', A5, c5, hA', -, hc5, hF5, hx1⟩ := item_at hF3 1 (by decide) (by omega)
 subst hA
 injection hA' with hA'
 subst hA'
 obtain ⟨p0, p1, p2⟩ := hx0 w3 rfl
 obtain ⟨q0, q1, q2⟩ := hx1 w3 rfl
 rw [show ((0 : Int)).toNat * 3 = 0 from rfl, Addr.add_zero'] at p0 p1 p2
 have ea : ad.add (((1 : Int)).toNat * 3) = ⟨ad.block, ad.off + 3, none⟩ := rfl
 rw [ea] at q0 q1 q2
 have l0 := eq_true (show (0 : Int) < (l.length : Int) by omega)
 have l1 := eq_true (show (1 : Int) < (l.length : Int) by omega)
 have hge3 := hB3.size
 have hne : ∀ k, (k < w1.heap.size ∨ W2.heap.size ≤ k) → k ≠ w1.heap.size + 1 := fun k h => h.elim (fun h => by omega) (fun h => by omega)
 have W0 := Aside0.mk (And.intro hx0 (And.intro hx1 (And.intro hF4 (And.intro hF5 (And.intro hokA (And.intro hne (And.intro hI3 hB3)))))))
 have C45 := Aside0.mk (And.intro hc4 hc5)
 have had : ad.block < w3.heap.size := by
  have := p0
  unfold World.cell? at this
  rcases Nat.lt_or_ge ad.block w3.heap.size with h | h
  ·exact h
  ·rw [Array.getElem?_eq_none h] at this; cases this
 have HAD := Aside0.mk had
 have HF3 := Aside0.mk hF3
 clear hF3 hx0 hx1 hF4 hF5 had hne
 have hca := fun (W : World) (hI : IsS134 wz W (w1.heap.size + 1) b1) (hB : Below wz.heap.size wz W) (hK : KeepBut w3 W (w1.heap.size + 1) none) => (hello_reader_number.calls (w1.heap.size + 1) b1 (rd_T62 l 0).f0 (rd_T62 l 0).f1 A4 c4 (rd_T62 l 0).f2 n b2 wz W hI hB (fun W_ hk => W0.out.2.2.1 W_ (fun k hok hlt => (hk.2 k (Nat.lt_of_lt_of_le hlt hK.1) (W0.out.2.2.2.2.2.1 k hok) (by simp)).trans (hK.2 k hlt (W0.out.2.2.2.2.2.1 k hok) (by simp)))) C45.out.1 HN.out).mono (R' := fun e w' => e = .returned (.int .i64 n) ∧ IsS134 wz w' (w1.heap.size + 1) b2 ∧ Below wz.heap.size wz w' ∧ KeepBut w3 w' (w1.heap.size + 1) none ∧ KeepBut W w' (w1.heap.size + 1) none) (fun e w' h => ⟨h.1, h.2.1, h.2.2.1, hK.trans h.2.2.2 (.inl rfl), h.2.2.2⟩)
 have hcb := fun (W : World) (hI : IsS134 wz W (w1.heap.size + 1) b2) (hB : Below wz.heap.size wz W) (hK : KeepBut w3 W (w1.heap.size + 1) none) => (hello_reader_number.calls (w1.heap.size + 1) b2 (rd_T62 l 1).f0 (rd_T62 l 1).f1 A5 c5 (rd_T62 l 1).f2 m b3 wz W hI hB (fun W_ hk => W0.out.2.2.2.1 W_ (fun k hok hlt => (hk.2 k (Nat.lt_of_lt_of_le hlt hK.1) (W0.out.2.2.2.2.2.1 k hok) (by simp)).trans (hK.2 k hlt (W0.out.2.2.2.2.2.1 k hok) (by simp)))) C45.out.2 HM.out).mono (R' := fun e w' => e = .returned (.int .i64 m) ∧ IsS134 wz w' (w1.heap.size + 1) b3 ∧ Below wz.heap.size wz w' ∧ KeepBut w3 w' (w1.heap.size + 1) none ∧ KeepBut W w' (w1.heap.size + 1) none) (fun e w' h => ⟨h.1, h.2.1, h.2.2.1, hK.trans h.2.2.2 (.inl rfl), h.2.2.2⟩)
 have hce : ∀ W : World, KeepBut w3 W (w1.heap.size + 1) none → (W.cell? ad = some (.string (rd_T62 l 0).f0) ∧ W.cell? ⟨ad.block, ad.off + 1, none⟩ = some (.bool (rd_T62 l 0).f1) ∧ W.cell? ⟨ad.block, ad.off + 2, none⟩ = some (.slice A4 (rd_T62 l 0).f2.length c4)) ∧ W.cell? ⟨ad.block, ad.off + 3, none⟩ = some (.string (rd_T62 l 1).f0) ∧ W.cell? ⟨ad.block, ad.off + 3 + 1, none⟩ = some (.bool (rd_T62 l 1).f1) ∧ W.cell? ⟨ad.block, ad.off + 3 + 2, none⟩ = some (.slice A5 (rd_T62 l 1).f2.length c5) := by
  intro W hK
  have hk : W.heap[ad.block]? = w3.heap[ad.block]? := hK.2 ad.block HAD.out (W0.out.2.2.2.2.2.1 _ W0.out.2.2.2.2.1) (by simp)
  have y := W0.out.1 W hk
  rw [show ((0 : Int)).toNat * 3 = 0 from rfl, Addr.add_zero'] at y
  have z := W0.out.2.1 W hk
  rw [ea] at z
  exact ⟨y, z⟩
 have hk0 : KeepBut w3 w3.drew (w1.heap.size + 1) none := KeepBut.of_below (below_drew (Below.refl _ _)) _ _
 have hk1 : KeepBut w3 (w3.alloc (.cells #[.int .i64 0, .int .i64 0, .slice none 0 0] 47 (0, 0))).drew (w1.heap.size + 1) none := KeepBut.of_below (below_drew (below_alloc (Below.refl _ _) _)) _ _
 have HA1 := Aside0.mk (hca w3.drew (IsS134.drew W0.out.2.2.2.2.2.2.1) (below_drew W0.out.2.2.2.2.2.2.2) hk0)
 have HA2 := Aside0.mk (hca (w3.alloc (.cells #[.int .i64 0, .int .i64 0, .slice none 0 0] 47 (0, 0))).drew ⟨blk_drew (blk_alloc W0.out.2.2.2.2.2.2.1.1 _), W0.out.2.2.2.2.2.2.1.2⟩ (below_drew (below_alloc W0.out.2.2.2.2.2.2.2 _)) hk1)
 have HCB := Aside0.mk hcb
 have HCE := Aside0.mk hce
 have HGE := Aside0.mk (show w1.heap.size + 1 < w3.heap.size from blk_lt hI3.1)
 clear hca hcb hce hk0 hk1
 go_upto_region 4 with (fail)
 go_cut [8] (fun v8 wc => ∃ gb, v8 = .pointer (some ⟨gb, 0, none⟩) ∧ Aside0 (GetS wz w3 wc (w1.heap.size + 1) gb n m b3))
 case first =>
  go_wp2
  go_region_held3 (fun w' => w'.cell? ad = some (.string (rd_T62 l 0).f0) ∧ w'.cell? ⟨ad.block, ad.off + 1, none⟩ = some (.bool (rd_T62 l 0).f1) ∧ w'.cell? ⟨ad.block, ad.off + 2, none⟩ = some (.slice A4 (rd_T62 l 0).f2.length c4) ∧ w'.cell? ⟨ad.block, ad.off + 3, none⟩ = some (.string (rd_T62 l 1).f0) ∧ w'.cell? ⟨ad.block, ad.off + 3 + 1, none⟩ = some (.bool (rd_T62 l 1).f1) ∧ w'.cell? ⟨ad.block, ad.off + 3 + 2, none⟩ = some (.slice A5 (rd_T62 l 1).f2.length c5)) (go_keep)
   (first | ((with_reducible refine HA1.out.mono ?_); rintro e w4 ⟨rfl, hI4, hB4, hK4, hQ4⟩; obtain ⟨⟨y0, y1, y2⟩, y3, y4, y5⟩ := HCE.out w4 hK4; have HB1 := Aside0.mk (HCB.out w4 hI4 hB4 hK4); have HB2 := Aside0.mk (HCB.out (w4.alloc (.cells #[.int .i64 0, .int .i64 0, .slice none 0 0] 47 (0, 0))) ⟨blk_alloc hI4.1 _, hI4.2⟩ (below_alloc hB4 _) (hK4.trans (KeepBut.of_below (below_alloc (Below.refl _ _) _) _ _) (.inl rfl))); have HLT := Aside0.mk hK4.1; clear hI4 hB4 hK4 hQ4) | ((with_reducible refine HA2.out.mono ?_); rintro e w4 ⟨rfl, hI4, hB4, hK4, hQ4⟩; obtain ⟨⟨y0, y1, y2⟩, y3, y4, y5⟩ := HCE.out w4 hK4; have HB1 := Aside0.mk (HCB.out w4 hI4 hB4 hK4); have KG4 := Aside0.mk (show w4.heap[w3.heap.size]? = some (.cells #[.int .i64 0, .int .i64 0, .slice none 0 0] 47 (0, 0)) from hQ4.blk (blk_drew (blk_new w3 (.cells #[.int .i64 0, .int .i64 0, .slice none 0 0] 47 (0, 0)))) (show w3.heap.size ≠ w1.heap.size + 1 by have := HGE.out; omega) (by simp)); clear hI4 hB4 hK4 hQ4) | ((with_reducible refine HB1.out.mono ?_); rintro e w5 ⟨rfl, hI5, hB5, hK5, hQ5⟩; obtain ⟨⟨x0, x1, x2⟩, x3, x4, x5⟩ := HCE.out w5 hK5; have KG5 := Aside0.mk (show w5.heap[w3.heap.size]? = some (.cells #[.int .i64 0, .int .i64 0, .slice none 0 0] 47 (0, 0)) from hQ5.blk KG4.out (show w3.heap.size ≠ w1.heap.size + 1 by have := HGE.out; omega) (by simp)); have g0 := (blk_cell KG5.out 0).trans rfl; have g1 := (blk_cell KG5.out 1).trans rfl; have g2 := (blk_cell KG5.out 2).trans rfl; have f0 := blk_frozen KG5.out 0; have f1 := blk_frozen KG5.out 1; have f2 := blk_frozen KG5.out 2; have nb : w3.heap.size ≠ ad.block := (by have := HAD.out; omega); have nc : ad.block ≠ w3.heap.size := (fun e => nb e.symm); have W5 := Aside0.mk (And.intro hI5 (And.intro hB5 hK5)); clear hI5 hB5 hK5 hQ5) | ((with_reducible refine HB1.out.mono ?_); rintro e w5 ⟨rfl, hI5, hB5, hK5, hQ5⟩; obtain ⟨⟨x0, x1, x2⟩, x3, x4, x5⟩ := HCE.out w5 hK5; have nb : w5.heap.size ≠ ad.block := (by have := HAD.out; have := hK5.1; omega); have nc : ad.block ≠ w5.heap.size := (fun e => nb e.symm); have W5 := Aside0.mk (And.intro hI5 (And.intro hB5 hK5)); clear hI5 hB5 hK5 hQ5) | ((with_reducible refine HB2.out.mono ?_); rintro e w5 ⟨rfl, hI5, hB5, hK5, hQ5⟩; obtain ⟨⟨x0, x1, x2⟩, x3, x4, x5⟩ := HCE.out w5 hK5; have KG5 := Aside0.mk (show w5.heap[w4.heap.size]? = some (.cells #[.int .i64 0, .int .i64 0, .slice none 0 0] 47 (0, 0)) from hQ5.blk (blk_new w4 (.cells #[.int .i64 0, .int .i64 0, .slice none 0 0] 47 (0, 0))) (show w4.heap.size ≠ w1.heap.size + 1 by have := HGE.out; have := HLT.out; omega) (by simp)); have g0 := (blk_cell KG5.out 0).trans rfl; have g1 := (blk_cell KG5.out 1).trans rfl; have g2 := (blk_cell KG5.out 2).trans rfl; have f0 := blk_frozen KG5.out 0; have f1 := blk_frozen KG5.out 1; have f2 := blk_frozen KG5.out 2; have nb : w4.heap.size ≠ ad.block := (by have := HAD.out; have := HLT.out; omega); have nc : ad.block ≠ w4.heap.size := (fun e => nb e.symm); have W5 := Aside0.mk (And.intro hI5 (And.intro hB5 hK5)); clear hI5 hB5 hK5 hQ5))
  ·go_wp2
   go_meet
   case rel => exact ⟨_, rfl, ⟨getS_alloc W5.out.1 W5.out.2.1 W5.out.2.2⟩⟩
  ·go_wp2
   go_meet
   case rel => exact ⟨_, rfl, ⟨getS_set W5.out.1 W5.out.2.1 W5.out.2.2 KG5.out HLT.out (by have := HGE.out; have := HLT.out; omega) (by have := HLT.out; have := W0.out.2.2.2.2.2.2.2.size; omega)⟩⟩
  ·go_wp2
   go_meet
   case rel => exact ⟨_, rfl, ⟨getS_set W5.out.1 W5.out.2.1 W5.out.2.2 KG5.out (Nat.le_refl _) (by have := HGE.out; omega) W0.out.2.2.2.2.2.2.2.size⟩⟩
 case rest =>
  obtain ⟨gb, rfl, HG⟩ := hcut
  have hG := HG.out
  have hge3 := HGE.out
  have hFc : Kd.F k62 wc (fun k => (k < w1.heap.size ∨ W2.heap.size ≤ k) ∧ k < w3.heap.size) (some ad) l.length l := fun W' h => HF3.out W' (fun k hk hlt => (h k ⟨hk, hlt⟩ (Nat.lt_of_lt_of_le hlt hG.2.2.2.1.1)).trans (hG.2.2.2.1.2 k hlt (W0.out.2.2.2.2.2.1 k hk) (by simp)))
  obtain ⟨ad', A6, c6, hA, -, hc6, hF6, hx2⟩ := item_at hFc 2 (by decide) (by have := HLEN.out; omega)
  injection hA with hA
  subst hA
  obtain ⟨p0, p1, p2⟩ := hx2 wc rfl
  have ea6 : ad.add (((2 : Int)).toNat * 3) = ⟨ad.block, ad.off + 6, none⟩ := rfl
  rw [ea6] at p0 p1 p2
  have l2 := eq_true (show (2 : Int) < (l.length : Int) by have := HLEN.out; omega)
  have HLQ := Aside0.mk (hello_reader_list.calls (w1.heap.size + 1) b3 (rd_T62 l 2).f0 (rd_T62 l 2).f1 (fun k => k < w3.heap.size ∧ k ≠ w1.heap.size + 1) A6 c6 (rd_T62 l 2).f2 (-1) q b4 wz wc hG.2.1 hG.2.2.1 (Kd.V_mk hc6 (Kd.F_mono hF6 (fun k hk => ⟨⟨hk.2, W0.out.2.2.2.2.2.1 k hk.1⟩, W0.out.2.2.2.2.2.1 k hk.1⟩))) HQ.out)
  clear hFc hF6 hx2
  go_wp2_with fail
  refine HLQ.out.mono ?_
  rintro e w6 ⟨v6, rfl, hV6, hI6, hB6, hK6⟩
  obtain ⟨A7, c7, rfl⟩ := Kd.V_slice hV6
  have hgb : gb ≠ w1.heap.size + 1 := by have := hG.2.2.2.2; omega
  have KG6 := Aside0.mk (hK6.blk hG.1 hgb (by simp))
  have HV6 := Aside0.mk hV6
  have HS6 := Aside0.mk (And.intro hI6 (And.intro hB6 hK6))
  have HGB := Aside0.mk hgb
  clear hG hV6 hI6 hB6 hK6 hgb
  go_wp2
  have HCS := Aside0.mk (show CapS wz w6 w6 (w1.heap.size + 1) gb n m b4 [] from ⟨_, fun _ => False, KG6.out, Kd.R_nil _ _ _ _ _, fun k hk => hk.elim, HS6.out.1, HS6.out.2.1, fun _ _ _ _ => rfl, Nat.le_refl _⟩)
  go_loopg [41] (q.length + 1) (fun kq v41 w' => ∃ (i : Int) (acc : List S104) (bb : Bool), v41 = .int .i64 i ∧ Aside0 (0 ≤ i ∧ i ≤ q.length ∧ (q.length : Int) + 1 ≤ kq + i ∧ (acc.length : Int) = i) ∧ Aside0 (hGetLoop (q.drop i.toNat) bb acc = some (c, b5)) ∧ Aside0 (CapS wz w6 w' (w1.heap.size + 1) gb n m bb acc))
  case atStart => exact ⟨0, [], b4, rfl, ⟨⟨Int.le_refl _, by omega, by omega, rfl⟩⟩, ⟨by simpa using HC.out⟩, HCS⟩
  case round =>
   obtain ⟨i, acc, bb, rfl, H1, H2, H3⟩ := hrel
   by_cases hi : i < (q.length : Int)
   ·have d1 : decide (i < (q.length : Int)) = true := decide_eq_true hi
    have HI := Aside0.mk hi
    have i0 := eq_true (show 0 ≤ i by have := H1.out; omega)
    have i1 := eq_true (show i < (q.length : Int) from hi)
    clear hi
    obtain ⟨vc, okc, kG, kR, kok, hI, hB, hfr, hsz⟩ := H3.out
    obtain ⟨Ac, cc, rfl⟩ := Kd.R_slice kR
    have hgl := HGE.out
    have hwl := HG.out.2.2.2.1.1
    have hgbl := blk_lt HG.out.1
    have hgb3 := HG.out.2.2.2.2
    have hwc6 := HS6.out.2.2.1
    have hok : ∀ k, ((k < w3.heap.size ∧ k ≠ w1.heap.size + 1) ∨ wc.heap.size ≤ k) → k ≠ w1.heap.size + 1 ∧ k ≠ gb := fun k hk => hk.elim (fun h => ⟨h.2, by omega⟩) (fun h => ⟨by omega, by omega⟩)
    have hFq : Kd.F k62 wr (fun k => ((k < w3.heap.size ∧ k ≠ w1.heap.size + 1) ∨ wc.heap.size ≤ k) ∧ k < w6.heap.size) A7 q.length q := Kd.F_step (Kd.F_bound (Kd.V_F HV6.out)) (fun k hk hlt => hfr k hlt (hok k hk.1).1 (hok k hk.1).2)
    obtain ⟨adq, A9, c9, hA7, -, hc9, hF9, hx9⟩ := item_at hFq i (by have := H1.out; omega) HI.out
    obtain ⟨p0, p1, p2⟩ := hx9 wr rfl
    have HA7 := Aside0.mk hA7
    subst hA7
    have hdr : q.drop i.toNat = rd_T62 q i :: q.drop (i.toNat + 1) := by
     have hlt : i.toNat < q.length := by have := H1.out; have := HI.out; omega
     rw [List.drop_eq_getElem_cons hlt]
     unfold rd_T62
     rw [List.getD, List.getElem?_eq_getElem hlt]
     rfl
    have h2 := H2.out
    rw [hdr, hGetLoop] at h2
    have hal : acc.length < 1000000 := by
     rcases Nat.lt_or_ge acc.length 1000000 with h | h
     ·exact h
     ·rw [if_neg (by omega)] at h2; cases h2
    rw [if_pos hal] at h2
    have HAL := Aside0.mk hal
    obtain ⟨⟨cl, bc⟩, hcl, h2⟩ := Option.bind_eq_some_iff.1 h2
    obtain ⟨⟨tx, bt⟩, htx, h2⟩ := Option.bind_eq_some_iff.1 h2
    obtain ⟨⟨nv, bn⟩, hnv, h2⟩ := Option.bind_eq_some_iff.1 h2
    dsimp only at hcl htx hnv h2
    have HLC := Aside0.mk (reader_len hcl (by decide))
    have HTX := Aside0.mk htx
    have HNV := Aside0.mk hnv
    have HLP := Aside0.mk h2
    have ha := fun o => below_alloc (Below.refl wr.heap.size wr) o
    have HCL := Aside0.mk (fun (o : Obj) => hello_reader_list.calls (w1.heap.size + 1) bb (rd_T62 q i).f0 (rd_T62 q i).f1 (fun k => (((k < w3.heap.size ∧ k ≠ w1.heap.size + 1) ∨ wc.heap.size ≤ k) ∧ k < w6.heap.size) ∧ k < wr.heap.size) A9 c9 (rd_T62 q i).f2 2 cl bc wz (wr.alloc o) ⟨blk_alloc hI.1 o, hI.2⟩ (below_alloc hB o) (Kd.V_mk hc9 (Kd.F_mono (Kd.F_alloc (Kd.F_bound hF9) o) (fun k hk => ⟨hk, (hok k hk.1.1).1⟩))) hcl)
    have HST := Aside0.mk (And.intro kG (And.intro kR (And.intro kok (And.intro hfr (And.intro hsz hok)))))
    have HGL := Aside0.mk (And.intro hgl (And.intro hwl (And.intro hgbl (And.intro hgb3 hwc6))))
    clear kG kR kok hI hB hfr hsz hok hFq hF9 hx9 hdr h2 hcl htx hnv ha hgl hwl hgbl hgb3 hwc6
    go_wp2_with fail
    refine (HCL.out _).mono ?_
    rintro e w10 ⟨v10, rfl, hV10, hI10, hB10, hK10⟩
    obtain ⟨A10, c10, rfl⟩ := Kd.V_slice hV10
    have hst := HST.out
    have hgl := HGL.out
    have hfw : ∀ k, k < wr.heap.size → k ≠ w1.heap.size + 1 → w10.heap[k]? = wr.heap[k]? := fun k hk hne => (hK10.2 k (by rw [World.size_alloc]; omega) hne (by simp)).trans ((below_alloc (Below.refl wr.heap.size wr) _).block k hk)
    have hsz10 : wr.heap.size ≤ w10.heap.size := Nat.le_trans (by rw [World.size_alloc]; omega) hK10.1
    have kG10 : w10.heap[gb]? = _ := (hfw gb (blk_lt hst.1) HGB.out).trans hst.1
    have hF10 := Kd.V_F hV10
    have hok10 : ∀ k, ((((k < w3.heap.size ∧ k ≠ w1.heap.size + 1) ∨ wc.heap.size ≤ k) ∧ k < w6.heap.size) ∧ k < wr.heap.size) ∨ (wr.alloc (.cells #[.string (rd_T62 q i).f0, .bool (rd_T62 q i).f1, .slice A9 (rd_T62 q i).f2.length c9] 62 (0, 0))).heap.size ≤ k → k ≠ w1.heap.size + 1 ∧ k ≠ gb := fun k hk => by
     rcases hk with hk | hk
     ·exact hst.2.2.2.2.2 k hk.1.1
     ·rw [World.size_alloc] at hk
      have := hst.2.2.2.2.1
      exact ⟨by omega, by omega⟩
    obtain ⟨adc, B0, e0', hA10, hoka, hce0, hFB0, hy0⟩ := item_at hF10 0 (by decide) (by have := HLC.out; omega)
    obtain ⟨adc', B1, e1', hA10', -, hce1, hFB1, hy1⟩ := item_at hF10 1 (by decide) (by have := HLC.out; omega)
    have HA10 := Aside0.mk hA10
    subst hA10
    injection hA10' with hA10'
    subst hA10'
    have ec : adc.add (((1 : Int)).toNat * 3) = ⟨adc.block, adc.off + 3, none⟩ := rfl
    have l0 := eq_true (show (0 : Int) < (cl.length : Int) by have := HLC.out; omega)
    have l1 := eq_true (show (1 : Int) < (cl.length : Int) by have := HLC.out; omega)
    have l0n := eq_true (show 0 < cl.length by have := HLC.out; omega)
    have l1n := eq_true (show 1 < cl.length by have := HLC.out; omega)
    have hadc : adc.block < w6.heap.size ∨ wr.heap.size ≤ adc.block := by
     rcases hoka with h | h
     ·exact .inl h.1.2
     ·rw [World.size_alloc] at h; exact .inr (by omega)
    have kR10 : Kd.R k104 104 w10 wz.heap.size (fun k => k ≠ w1.heap.size + 1 ∧ k ≠ gb ∧ w6.heap.size ≤ k ∧ k ≠ adc.block) (.slice Ac acc.length cc) acc := Kd.R_mono (Kd.R_step (Kd.R_bound hst.2.1) (fun k hk hlt => hfw k hlt (hst.2.2.1 k hk.1).1)) (fun k hk => ⟨(hst.2.2.1 k hk.1).1, (hst.2.2.1 k hk.1).2.1, (hst.2.2.1 k hk.1).2.2, by have := (hst.2.2.1 k hk.1).2.2; have := hk.2.2.1; omega⟩)
    have hlta : adc.block < w10.heap.size := by
     have := (hy0 w10 rfl).1
     rw [show ((0 : Int)).toNat * 3 = 0 from rfl, Addr.add_zero'] at this
     unfold World.cell? at this
     rcases Nat.lt_or_ge adc.block w10.heap.size with h | h
     ·exact h
     ·rw [Array.getElem?_eq_none h] at this; cases this
    have HLTA := Aside0.mk hlta
    have HY := Aside0.mk (And.intro hy0 (And.intro hy1 (And.intro hce0 (And.intro hce1 (And.intro hFB0 (And.intro hFB1 (And.intro hoka hok10)))))))
    have HW10 := Aside0.mk (And.intro kG10 (And.intro kR10 (And.intro hI10 (And.intro hB10 (And.intro hfw hsz10)))))
    clear hst hgl hfw hsz10 kG10 kR10 hF10 hok10 hoka hce0 hce1 hFB0 hFB1 hy0 hy1 hV10 hI10 hB10 hK10
    have hce : ∀ W : World, KeepBut w10 W (w1.heap.size + 1) none → (W.cell? adc = some (.string (rd_T62 cl 0).f0) ∧ W.cell? ⟨adc.block, adc.off + 1, none⟩ = some (.bool (rd_T62 cl 0).f1) ∧ W.cell? ⟨adc.block, adc.off + 2, none⟩ = some (.slice B0 (rd_T62 cl 0).f2.length e0')) ∧ (W.cell? ⟨adc.block, adc.off + 3, none⟩ = some (.string (rd_T62 cl 1).f0) ∧ W.cell? ⟨adc.block, adc.off + 3 + 1, none⟩ = some (.bool (rd_T62 cl 1).f1) ∧ W.cell? ⟨adc.block, adc.off + 3 + 2, none⟩ = some (.slice B1 (rd_T62 cl 1).f2.length e1')) ∧ W.heap[gb]? = some (.cells #[.int .i64 n, .int .i64 m, .slice Ac acc.length cc] 47 (0, 0)) := by
     intro W hK
     have hlt : adc.block < w10.heap.size := by
      have := (HY.out.1 w10 rfl).1
      rw [show ((0 : Int)).toNat * 3 = 0 from rfl, Addr.add_zero'] at this
      unfold World.cell? at this
      rcases Nat.lt_or_ge adc.block w10.heap.size with h | h
      ·exact h
      ·rw [Array.getElem?_eq_none h] at this; cases this
     have hk : W.heap[adc.block]? = w10.heap[adc.block]? := hK.2 adc.block hlt (HY.out.2.2.2.2.2.2.2 _ HY.out.2.2.2.2.2.2.1).1 (by simp)
     have y := HY.out.1 W hk
     rw [show ((0 : Int)).toNat * 3 = 0 from rfl, Addr.add_zero'] at y
     have z := HY.out.2.1 W hk
     rw [ec] at z
     exact ⟨y, z, (hK.2 gb (blk_lt HW10.out.1) HGB.out (by simp)).trans HW10.out.1⟩
    have htxt := fun (W : World) (hI : IsS134 wz W (w1.heap.size + 1) bc) (hB : Below wz.heap.size wz W) (hK : KeepBut w10 W (w1.heap.size + 1) none) => (hello_reader_text.calls (w1.heap.size + 1) bc (rd_T62 cl 0).f0 (rd_T62 cl 0).f1 B0 e0' (rd_T62 cl 0).f2 tx bt wz W hI hB (fun W_ hk => HY.out.2.2.2.2.1 W_ (fun k hok hlt => (hk.2 k (Nat.lt_of_lt_of_le hlt hK.1) (HY.out.2.2.2.2.2.2.2 k hok).1 (by simp)).trans (hK.2 k hlt (HY.out.2.2.2.2.2.2.2 k hok).1 (by simp)))) HY.out.2.2.1 HTX.out).mono (R' := fun e w' => e = .returned (.string tx) ∧ IsS134 wz w' (w1.heap.size + 1) bt ∧ Below wz.heap.size wz w' ∧ KeepBut w10 w' (w1.heap.size + 1) none) (fun e w' h => ⟨h.1, h.2.1, h.2.2.1, hK.trans h.2.2.2 (.inl rfl)⟩)
    have hnum := fun (W : World) (hI : IsS134 wz W (w1.heap.size + 1) bt) (hB : Below wz.heap.size wz W) (hK : KeepBut w10 W (w1.heap.size + 1) none) => (hello_reader_number.calls (w1.heap.size + 1) bt (rd_T62 cl 1).f0 (rd_T62 cl 1).f1 B1 e1' (rd_T62 cl 1).f2 nv bn wz W hI hB (fun W_ hk => HY.out.2.2.2.2.2.1 W_ (fun k hok hlt => (hk.2 k (Nat.lt_of_lt_of_le hlt hK.1) (HY.out.2.2.2.2.2.2.2 k hok).1 (by simp)).trans (hK.2 k hlt (HY.out.2.2.2.2.2.2.2 k hok).1 (by simp)))) HY.out.2.2.2.1 HNV.out).mono (R' := fun e w' => e = .returned (.int .i64 nv) ∧ IsS134 wz w' (w1.heap.size + 1) bn ∧ Below wz.heap.size wz w' ∧ KeepBut w10 w' (w1.heap.size + 1) none) (fun e w' h => ⟨h.1, h.2.1, h.2.2.1, hK.trans h.2.2.2 (.inl rfl)⟩)
    have HT1 := Aside0.mk (htxt w10.drew (IsS134.drew HW10.out.2.2.1) (below_drew HW10.out.2.2.2.1) (KeepBut.of_below (below_drew (Below.refl _ _)) _ _))
    have HNUM := Aside0.mk hnum
    have HCE2 := Aside0.mk hce
    obtain ⟨⟨a0, a1, a2⟩, ⟨a3, a4, a5⟩, a6⟩ := hce w10 (KeepBut.refl _ _ _)
    have a7 := (blk_cell a6 2).trans (show _ = some (Value.slice Ac acc.length cc) from rfl)
    clear htxt hnum hce a6
    go_wp2
    refine start_ (n := 17) (S := fun w' => w'.cell? adc = some (.string (rd_T62 cl 0).f0) ∧ w'.cell? ⟨adc.block, adc.off + 1, none⟩ = some (.bool (rd_T62 cl 0).f1) ∧ w'.cell? ⟨adc.block, adc.off + 2, none⟩ = some (.slice B0 (rd_T62 cl 0).f2.length e0') ∧ w'.cell? ⟨adc.block, adc.off + 3, none⟩ = some (.string (rd_T62 cl 1).f0) ∧ w'.cell? ⟨adc.block, adc.off + 3 + 1, none⟩ = some (.bool (rd_T62 cl 1).f1) ∧ w'.cell? ⟨adc.block, adc.off + 3 + 2, none⟩ = some (.slice B1 (rd_T62 cl 1).f2.length e1') ∧ w'.cell? ⟨gb, 2, none⟩ = some (.slice Ac acc.length cc)) (ds := [16]) #[false, false, false, false, false, false, false, false, false, false, false, false, false, false, false, false, false] (by kernel_rfl) rfl rfl ⟨a0, a1, a2, a3, a4, a5, a7⟩ (fun hHeld => ?_)
    refine with_tabW hg9_tab hg9_bits (fun HT_ HW_ => ?_)
    refine pure_ (i := 0) (N := some 48) (v := ?_) (a' := ?_) #[true, false, false, false, false, false, false, false, false, false, false, false, false, false, false, false, false] rfl rfl (any_of HT_.out (by kernel_rfl)) (fun _ _ _ h => h) (Or.inl ⟨by rfl, ?_⟩) ?_ ?_
    rotate_left
    ·intro w'
     go_simp
     with_reducible rfl
    rotate_left
    ·simp only [Act.put, List.setIfInBounds_toArray, List.set_cons_zero, List.set_cons_succ, i64_w, i32_w]
     rfl
    refine take_ (i := 1) (N := some 49) (v := ?_) (a' := ?_) #[true, true, false, false, false, false, false, false, false, false, false, false, false, false, false, false, false] rfl rfl (take_ofW HT_.out HW_.out (by kernel_rfl)) (fun _ _ _ h => h) (Or.inl ⟨by rfl, ?_⟩) hHeld ?_ ?_
    rotate_left
    ·rintro w' ⟨s0, s1, s2, s3, s4, s5, s6⟩
     go_simp
     with_reducible rfl
    rotate_left
    ·simp only [Act.put, List.setIfInBounds_toArray, List.set_cons_zero, List.set_cons_succ, i64_w, i32_w]
     rfl
    refine pure_ (i := 2) (N := some 50) (v := ?_) (a' := ?_) #[true, true, true, false, false, false, false, false, false, false, false, false, false, false, false, false, false] rfl rfl (any_of HT_.out (by kernel_rfl)) (fun _ _ _ h => h) (Or.inl ⟨by rfl, ?_⟩) ?_ ?_
    rotate_left
    ·intro w'
     go_simp
     with_reducible rfl
    rotate_left
    ·simp only [Act.put, List.setIfInBounds_toArray, List.set_cons_zero, List.set_cons_succ, i64_w, i32_w]
     rfl
    refine pure_ (i := 3) (N := some 51) (v := ?_) (a' := ?_) #[true, true, true, true, false, false, false, false, false, false, false, false, false, false, false, false, false] rfl rfl (any_of HT_.out (by kernel_rfl)) (fun _ _ _ h => h) (Or.inl ⟨by rfl, ?_⟩) ?_ ?_
    rotate_left
    ·intro w'
     go_simp
     with_reducible rfl
    rotate_left
    ·simp only [Act.put, List.setIfInBounds_toArray, List.set_cons_zero, List.set_cons_succ, i64_w, i32_w]
     rfl
    refine pure_ (i := 4) (N := some 52) (v := ?_) (a' := ?_) #[true, true, true, true, true, false, false, false, false, false, false, false, false, false, false, false, false] rfl rfl (any_of HT_.out (by kernel_rfl)) (fun _ _ _ h => h) (Or.inl ⟨by rfl, ?_⟩) ?_ ?_
    rotate_left
    ·intro w'
     go_simp
     with_reducible rfl
    rotate_left
    ·simp only [Act.put, List.setIfInBounds_toArray, List.set_cons_zero, List.set_cons_succ, i64_w, i32_w]
     rfl
    refine take_ (i := 5) (N := some 53) (v := ?_) (a' := ?_) #[true, true, true, true, true, true, false, false, false, false, false, false, false, false, false, false, false] rfl rfl (take_ofW HT_.out HW_.out (by kernel_rfl)) (fun _ _ _ h => h) (Or.inl ⟨by rfl, ?_⟩) hHeld ?_ ?_
    rotate_left
    ·rintro w' ⟨s0, s1, s2, s3, s4, s5, s6⟩
     go_simp
     with_reducible rfl
    rotate_left
    ·simp only [Act.put, List.setIfInBounds_toArray, List.set_cons_zero, List.set_cons_succ, i64_w, i32_w]
     rfl
    refine pure_ (i := 7) (N := some 55) (v := ?_) (a' := ?_) #[true, true, true, true, true, true, false, true, false, false, false, false, false, false, false, false, false] rfl rfl (any_of HT_.out (by kernel_rfl)) (fun _ _ _ h => h) (Or.inl ⟨by rfl, ?_⟩) ?_ ?_
    rotate_left
    ·intro w'
     go_simp
     with_reducible rfl
    rotate_left
    ·simp only [Act.put, List.setIfInBounds_toArray, List.set_cons_zero, List.set_cons_succ, i64_w, i32_w]
     rfl
    refine pure_ (i := 8) (N := some 56) (v := ?_) (a' := ?_) #[true, true, true, true, true, true, false, true, true, false, false, false, false, false, false, false, false] rfl rfl (any_of HT_.out (by kernel_rfl)) (fun _ _ _ h => h) (Or.inl ⟨by rfl, ?_⟩) ?_ ?_
    rotate_left
    ·intro w'
     go_simp
     with_reducible rfl
    rotate_left
    ·simp only [Act.put, List.setIfInBounds_toArray, List.set_cons_zero, List.set_cons_succ, i64_w, i32_w]
     rfl
    refine pure_ (i := 9) (N := some 57) (v := ?_) (a' := ?_) #[true, true, true, true, true, true, false, true, true, true, false, false, false, false, false, false, false] rfl rfl (any_of HT_.out (by kernel_rfl)) (fun _ _ _ h => h) (Or.inl ⟨by rfl, ?_⟩) ?_ ?_
    rotate_left
    ·intro w'
     go_simp
     with_reducible rfl
    rotate_left
    ·simp only [Act.put, List.setIfInBounds_toArray, List.set_cons_zero, List.set_cons_succ, i64_w, i32_w]
     rfl
    refine take_ (i := 10) (N := some 58) (v := ?_) (a' := ?_) #[true, true, true, true, true, true, false, true, true, true, true, false, false, false, false, false, false] rfl rfl (take_ofW HT_.out HW_.out (by kernel_rfl)) (fun _ _ _ h => h) (Or.inl ⟨by rfl, ?_⟩) hHeld ?_ ?_
    rotate_left
    ·rintro w' ⟨s0, s1, s2, s3, s4, s5, s6⟩
     go_simp
     with_reducible rfl
    rotate_left
    ·simp only [Act.put, List.setIfInBounds_toArray, List.set_cons_zero, List.set_cons_succ, i64_w, i32_w]
     rfl
    clear a0 a1 a2 a3 a4 a5 a7
    refine one_ (i := 6) (N := some 54) #[true, true, true, true, true, true, true, true, true, true, true, false, false, false, false, false, false] rfl rfl (one_of HT_.out (by kernel_rfl)) (by decide) (fun K hK => ?_)
    refine goes_ Try.func92 (by kernel_rfl) rfl #[.pointer (some ⟨w1.heap.size + 1, 0, none⟩), .agg #[.string (rd_T62 cl 0).f0, .bool (rd_T62 cl 0).f1, .slice B0 (rd_T62 cl 0).f2.length e0']] (by rfl) rfl rfl (by (try simp only [List.map_toArray, List.map_cons, List.map_nil]); first | done | rfl | simp [Act.eval]) ?_
    with_reducible refine HT1.out.mono ?_
    rintro e w11 ⟨rfl, hI, hB, hK11⟩
    refine ⟨_, rfl, ?_⟩
    have hf11 := HCE2.out w11 hK11
    have HN1 := Aside0.mk (HNUM.out w11 hI hB hK11)
    refine hK.out _ _ ⟨hf11.1.1, hf11.1.2.1, hf11.1.2.2, hf11.2.1.1, hf11.2.1.2.1, hf11.2.1.2.2, (blk_cell hf11.2.2 2).trans rfl⟩ (fun hHeld => ?_)
    clear hK K hI hB hK11 hf11
    refine norm_ (a' := ?_) ?_ ?_
    rotate_left
    ·show Act.put _ (some 54) _ = _
     simp only [Act.put, List.setIfInBounds_toArray, List.set_cons_zero, List.set_cons_succ, i64_w, i32_w]
     rfl
    refine one_ (i := 11) (N := some 59) #[true, true, true, true, true, true, true, true, true, true, true, true, false, false, false, false, false] rfl rfl (one_of HT_.out (by kernel_rfl)) (by decide) (fun K hK => ?_)
    refine goes_ Try.func91 (by kernel_rfl) rfl #[.pointer (some ⟨w1.heap.size + 1, 0, none⟩), .agg #[.string (rd_T62 cl 1).f0, .bool (rd_T62 cl 1).f1, .slice B1 (rd_T62 cl 1).f2.length e1']] (by rfl) rfl rfl (by (try simp only [List.map_toArray, List.map_cons, List.map_nil]); first | done | rfl | simp [Act.eval]) ?_
    with_reducible refine HN1.out.mono ?_
    rintro e w12 ⟨rfl, hI, hB, hK12⟩
    refine ⟨_, rfl, ?_⟩
    have hf12 := HCE2.out w12 hK12
    have W12 := Aside0.mk (And.intro hI (And.intro hB (And.intro hK12 hf12.2.2)))
    have R12 := Aside0.mk (Kd.R_step HW10.out.2.1 (fun k hk hlt => hK12.2 k hlt hk.1 (by simp)))
    have F12 := Aside0.mk (And.intro hf12.1.1 (And.intro hf12.1.2.1 (And.intro hf12.1.2.2 (And.intro hf12.2.1.1 (And.intro hf12.2.1.2.1 (And.intro hf12.2.1.2.2 ((blk_cell hf12.2.2 2).trans (show _ = some (Value.slice Ac acc.length cc) from rfl))))))))
    refine hK.out _ _ F12.out (fun hHeld => ?_)
    clear hK K hI hB hK12 hf12
    refine norm_ (a' := ?_) ?_ ?_
    rotate_left
    ·show Act.put _ (some 59) _ = _
     simp only [Act.put, List.setIfInBounds_toArray, List.set_cons_zero, List.set_cons_succ, i64_w, i32_w]
     rfl
    refine pure_ (i := 12) (N := some 60) (v := ?_) (a' := ?_) #[true, true, true, true, true, true, true, true, true, true, true, true, true, false, false, false, false] rfl rfl (any_of HT_.out (by kernel_rfl)) (fun _ _ _ h => h) (Or.inl ⟨by rfl, ?_⟩) ?_ ?_
    rotate_left
    ·intro w'
     go_simp
     with_reducible rfl
    rotate_left
    ·simp only [Act.put, List.setIfInBounds_toArray, List.set_cons_zero, List.set_cons_succ, i64_w, i32_w]
     rfl
    refine one_ (i := 13) (N := some 61) #[true, true, true, true, true, true, true, true, true, true, true, true, true, true, false, false, false] rfl rfl (one_of HT_.out (by kernel_rfl)) (by decide) (fun K hK => ?_)
    refine value_ (w1 := ?_) (v := ?_) (by rfl) rfl ?_ ?_
    rotate_left 2
    ·go_simp
     constructor
     ·rfl
     ·rfl
    have al := fun (p : Addr) (x : Value) (o : Obj) (h : w12.cell? p = some x) => (World.cell?_alloc_lt w12 o p (World.block_lt_of_cell? w12 _ h)).trans h
    refine hK.out _ _ ⟨al _ _ _ F12.out.1, al _ _ _ F12.out.2.1, al _ _ _ F12.out.2.2.1, al _ _ _ F12.out.2.2.2.1, al _ _ _ F12.out.2.2.2.2.1, al _ _ _ F12.out.2.2.2.2.2.1, al _ _ _ F12.out.2.2.2.2.2.2⟩ (fun hHeld => ?_)
    clear hK K al
    refine norm_ (a' := ?_) ?_ ?_
    rotate_left
    ·show Act.put _ (some 61) _ = _
     simp only [Act.put, List.setIfInBounds_toArray, List.set_cons_zero, List.set_cons_succ, i64_w, i32_w]
     rfl
    refine one_ (i := 14) (N := some 62) #[true, true, true, true, true, true, true, true, true, true, true, true, true, true, true, false, false] rfl rfl (one_of HT_.out (by kernel_rfl)) (by decide) (fun K hK => ?_)
    refine Kd.R_append_step k104 (W := w12) (w0 := wz) wz.heap.size (by rfl) (.tmp 49) (.tmp 61) 41 104 (.agg #[(.string ⟨#[]⟩), (.int .i64 0)]) 24 rfl Try.underlying41 info104 rfl (by decide) (by decide) (.slice Ac acc.length cc) acc ⟨tx, nv⟩ [.string tx, .int .i64 nv] (fun k => k ≠ w1.heap.size + 1 ∧ k ≠ gb ∧ w6.heap.size ≤ k ∧ k ≠ adc.block) (fun _ => False) rfl rfl (k104_mkM _ _ _ ⟨tx, nv⟩) (fun k hk => hk.elim) ?aF R12.out W12.out.2.1 W12.out.2.1.size ?aL ?_
    (case aF => exact (fun k hk => (by have h1 := W12.out.2.2.1.1; have h2 := HW10.out.2.2.2.2.2; have h3 := HST.out.2.2.2.2.1; have h4 := HGL.out; have h5 := HLTA.out; exact ⟨by omega, by omega, by omega, by omega⟩)))
    (case aL => have := HAL.out; omega)
    intro v1 w13 hR13 hB13 hG13 hat13
    obtain ⟨gl, capl, rfl, hgl0, hgl1, hglc⟩ := Kd.R_form hR13 (by simp)
    have kb13 := blk_grown W12.out.2.2.2 hG13 (Kd.R_away R12.out (fun k hk => hk.2.1))
    have q2 := (blk_cell kb13 2).trans (show _ = some (Value.slice Ac acc.length cc) from rfl)
    have fq := blk_frozen kb13 2
    have hne13 : w13.heap[adc.block]? = w10.heap[adc.block]? := ((hG13.block adc.block (Nat.lt_of_lt_of_le HLTA.out W12.out.2.2.1.1) (Kd.R_away R12.out (fun k hk => hk.2.2.2))).trans (W12.out.2.2.1.2 adc.block HLTA.out (HY.out.2.2.2.2.2.2.2 _ HY.out.2.2.2.2.2.2.1).1 (by simp)))
    obtain ⟨d0, d1', d2⟩ := HY.out.1 w13 hne13
    rw [show ((0 : Int)).toNat * 3 = 0 from rfl, Addr.add_zero'] at d0 d1' d2
    obtain ⟨d3, d4, d5⟩ := HY.out.2.1 w13 hne13
    rw [ec] at d3 d4 d5
    have HR13 := Aside0.mk (And.intro hR13 (And.intro hB13 (And.intro hG13 kb13)))
    refine hK.out _ _ ⟨d0, d1', d2, d3, d4, d5, q2⟩ (fun hHeld => ?_)
    clear hK K hR13 hB13 hG13 hat13 hglc kb13 d0 d1' d2 d3 d4 d5
    refine norm_ (a' := ?_) ?_ ?_
    rotate_left
    ·show Act.put _ (some 62) _ = _
     simp only [Act.put, List.setIfInBounds_toArray, List.set_cons_zero, List.set_cons_succ, i64_w, i32_w]
     rfl
    refine pure_ (i := 15) (N := some 63) (v := ?_) (a' := ?_) #[true, true, true, true, true, true, true, true, true, true, true, true, true, true, true, true, false] rfl rfl (any_of HT_.out (by kernel_rfl)) (fun _ _ _ h => h) (Or.inl ⟨by rfl, ?_⟩) ?_ ?_
    rotate_left
    ·intro w'
     go_simp
     with_reducible rfl
    rotate_left
    ·simp only [Act.put, List.setIfInBounds_toArray, List.set_cons_zero, List.set_cons_succ, i64_w, i32_w]
     rfl
    refine last_ (i := 16) (N := none) #[true, true, true, true, true, true, true, true, true, true, true, true, true, true, true, true, true] rfl rfl (one_of HT_.out (by kernel_rfl)) (by decide) (fun K hK => ?_)
    refine skip_ (w1 := ?_) (by rfl) rfl ?_ ?_
    rotate_left
    ·go_simp
     rfl
    refine hK.out _ _ ?_
    clear hK K q2 fq hHeld
    refine done_ (done_of HT_.out (by kernel_rfl)) ?_
    go_wp2
    have HCS2 : Aside0 (CapS wz w6 (w13.setCell ⟨gb, 2, none⟩ (.slice (some ⟨gl, 0, none⟩) (acc ++ [(⟨tx, nv⟩ : S104)]).length capl)) (w1.heap.size + 1) gb n m bn (acc ++ [⟨tx, nv⟩])) := by
     obtain ⟨hR13, hB13, hG13, kb13⟩ := HR13.out
     obtain ⟨-, -, kok, hfr, hsz, -⟩ := HST.out
     obtain ⟨kG10, -, -, -, hfw, hsz10⟩ := HW10.out
     obtain ⟨hI12, hB12, hK12, -⟩ := W12.out
     have hgb := HGB.out
     have hgl := HGL.out
     have hzg : wz.heap.size ≤ gb := by have := W0.out.2.2.2.2.2.2.2.size; omega
     refine ⟨⟨.slice (some ⟨gl, 0, none⟩) (acc ++ [(⟨tx, nv⟩ : S104)]).length capl, fun k => k ≠ w1.heap.size + 1 ∧ k ≠ gb ∧ w6.heap.size ≤ k ∧ k ≠ adc.block, blk_put kb13 2 _ rfl, Kd.R_far (p := ⟨gb, 2, none⟩) hR13 (fun k hk => hk.2.1) _, fun k hk => ⟨hk.1, hk.2.1, hk.2.2.1⟩, ⟨?_, hI12.2⟩, below_set hB13 hzg, fun k hk h1 h2 => ?_, ?_⟩⟩
     ·exact blk_far (p := ⟨gb, 2, none⟩) ((hG13.block _ (blk_lt hI12.1) (Kd.R_away R12.out (fun k hk => hk.1))).trans hI12.1) (fun e => hgb e.symm) _
     ·have hlt10 : k < w10.heap.size := by omega
      exact (Below.heap_setCell w13 ⟨gb, 2, none⟩ _ k h2).trans ((hG13.block k (Nat.lt_of_lt_of_le hlt10 hK12.1) (Kd.R_away R12.out (fun j hj => by have := hj.2.2.1; omega))).trans ((hK12.2 k hlt10 h1 (by simp)).trans ((hfw k (by omega) h1).trans (hfr k hk h1 h2))))
     ·have h1 := hG13.size
      have h2 := hK12.1
      show w6.heap.size ≤ (w13.setCell _ _).heap.size
      rw [World.size_setCell]
      omega
    go_roundg (gk - 1)
    case measure => have := H1.out; have := HI.out; omega
    case rel =>
     have hw : wrap64 (i + 1) = i + 1 := by have := H1.out; have := HI.out; have := HAL.out; unfold wrap64; omega
     refine ⟨i + 1, acc ++ [⟨tx, nv⟩], bn, by first | rfl | rw [hw] | (simp only [i64_w]; rw [hw]), ⟨?_⟩, ⟨?_⟩, by rw [List.length_append, List.length_singleton] at HCS2; exact HCS2⟩
     ·have := H1.out; have := HI.out; exact ⟨by omega, by omega, by omega, by rw [List.length_append, List.length_singleton]; omega⟩
     ·rw [show (i + 1).toNat = i.toNat + 1 by have := H1.out; omega]
      exact HLP.out
   ·have d1 : decide (i < (q.length : Int)) = false := decide_eq_false hi
    have hie : i = q.length := by have := H1.out; omega
    have HE := Aside0.mk (show acc = c ∧ bb = b5 by
     have h := H2.out
     rw [hie, Int.toNat_natCast, List.drop_length, hGetLoop] at h
     simpa using h)
    clear hi hie
    obtain ⟨vc, okc, kG, kR, kok, hI, hB, hfr, hsz⟩ := H3.out
    obtain ⟨ha, hb⟩ := HE.out
    subst ha
    subst hb
    obtain ⟨Ac, cc, rfl⟩ := Kd.R_slice kR
    have rb : wr.cell? ⟨w1.heap.size + 1, 0, none⟩ = some (.bool bb) := (blk_cell hI.1 0).trans rfl
    have g0 := (blk_cell kG 0).trans (show _ = some (Value.int .i64 n) from rfl)
    have g1 := (blk_cell kG 1).trans (show _ = some (Value.int .i64 m) from rfl)
    have g2 := (blk_cell kG 2).trans (show _ = some (Value.slice Ac acc.length cc) from rfl)
    have k2 := blk_below K2.out (hB.mono (Nat.le_refl _))
    have z0 := (blk_cell k2 0).trans (show _ = some (Value.int .i64 0) from rfl)
    have z1 := (blk_cell k2 1).trans (show _ = some (Value.int .i64 0) from rfl)
    have z2 := (blk_cell k2 2).trans (show _ = some (Value.slice none 0 0) from rfl)
    have f0 := blk_frozen k2 0
    have f1 := blk_frozen k2 1
    have f2 := blk_frozen k2 2
    have hh := H.out
    have K2r := Aside0.mk k2
    have HKR := Aside0.mk (And.intro kG (And.intro kR hB))
    clear kG kR kok hI hB hfr hsz k2
    cases bb with
    | true =>
     rw [if_pos rfl] at hh
     have HR := Aside0.mk hh
     clear hh
     go_wp2
     obtain ⟨rfl, rfl, rfl, rfl⟩ : 0 = r0 ∧ 0 = r1 ∧ [] = r2 ∧ 3 = r3 := by simpa using HR.out
     have k3 := blk_put (blk_put (blk_put K2r.out 0 (.int .i64 0) rfl) 1 (.int .i64 0) rfl) 2 (.slice none 0 0) rfl
     refine bodyPost_ret (results_ct rfl _ _ w.heap.size 47 #[.int .i64 0, .int .i64 0, .slice none 0 0] (0, 0) _ rfl k3 Try.underlying47 rfl (by kernel_rfl)) rfl ?_
     exact ⟨_, rfl, Kd.R_nil _ _ _ _ _, below_set (below_set (below_set (HBZ.out.trans (HKR.out.2.2.mono (by have := SZ.out; omega))) (Nat.le_refl _)) (Nat.le_refl _)) (Nat.le_refl _)⟩
    | false =>
     rw [if_neg (by simp)] at hh
     obtain ⟨ok, hmay, hh⟩ := Option.bind_eq_some_iff.1 hh
     have HMAY := Aside0.mk hmay
     have HR := Aside0.mk hh
     clear hh hmay
     go_wp2_with fail
     refine (hello_May.calls k n m Ac cc acc ok _ (Kd.R_reads' HKR.out.2.1).2.2 (Kd.R_reads' HKR.out.2.1).2.1 HMAY.out).mono ?_
     rintro e w8 ⟨rfl, hb8⟩
     have K8 := Aside0.mk (blk_below K2r.out hb8)
     have G8 := Aside0.mk (blk_below HKR.out.1 hb8)
     have R8 := Aside0.mk (Kd.R_below (Kd.R_mono (Kd.R_bound HKR.out.2.1) (fun k hk => (show wz.heap.size ≤ k from hk.2.1))) hb8)
     have B8 := Aside0.mk (HBZ.out.trans ((HKR.out.2.2.trans (hb8.mono HKR.out.2.2.size)).mono (by have := SZ.out; omega)))
     have y0 := (blk_cell K8.out 0).trans (show _ = some (Value.int .i64 0) from rfl)
     have y1 := (blk_cell K8.out 1).trans (show _ = some (Value.int .i64 0) from rfl)
     have y2 := (blk_cell K8.out 2).trans (show _ = some (Value.slice none 0 0) from rfl)
     have e0 := blk_frozen K8.out 0
     have e1 := blk_frozen K8.out 1
     have e2 := blk_frozen K8.out 2
     have x0 := (blk_cell G8.out 0).trans (show _ = some (Value.int .i64 n) from rfl)
     have x1 := (blk_cell G8.out 1).trans (show _ = some (Value.int .i64 m) from rfl)
     have x2 := (blk_cell G8.out 2).trans (show _ = some (Value.slice Ac acc.length cc) from rfl)
     clear hb8
     cases ok with
     | false =>
      go_wp2
      obtain ⟨rfl, rfl, rfl, rfl⟩ : 0 = r0 ∧ 0 = r1 ∧ [] = r2 ∧ 3 = r3 := by simpa using HR.out
      have k3 := blk_put (blk_put (blk_put K8.out 0 (.int .i64 0) rfl) 1 (.int .i64 0) rfl) 2 (.slice none 0 0) rfl
      refine bodyPost_ret (results_ct rfl _ _ w.heap.size 47 #[.int .i64 0, .int .i64 0, .slice none 0 0] (0, 0) _ rfl k3 Try.underlying47 rfl (by kernel_rfl)) rfl ?_
      exact ⟨_, rfl, Kd.R_nil _ _ _ _ _, below_set (below_set (below_set B8.out (Nat.le_refl _)) (Nat.le_refl _)) (Nat.le_refl _)⟩
     | true =>
      go_wp2
      obtain ⟨rfl, rfl, rfl, rfl⟩ : n = r0 ∧ m = r1 ∧ acc = r2 ∧ 0 = r3 := by simpa using HR.out
      have k3 := blk_put (blk_put (blk_put K8.out 0 (.int .i64 n) rfl) 1 (.int .i64 m) rfl) 2 (.slice Ac acc.length cc) rfl
      refine bodyPost_ret (results_ct rfl _ _ w.heap.size 47 #[.int .i64 n, .int .i64 m, .slice Ac acc.length cc] (0, 0) _ rfl k3 Try.underlying47 rfl (by kernel_rfl)) rfl ?_
      have hne : ∀ k, wz.heap.size ≤ k → k ≠ w.heap.size := fun k hk => by have := SZ.out; omega
      exact ⟨_, rfl, Kd.R_mono (Kd.R_lower (Kd.R_far (p := ⟨w.heap.size, 2, none⟩) (Kd.R_far (p := ⟨w.heap.size, 1, none⟩) (Kd.R_far (p := ⟨w.heap.size, 0, none⟩) R8.out hne _) hne _) hne _) (by have := SZ.out; omega)) (fun _ _ => trivial), below_set (below_set (below_set B8.out (Nat.le_refl _)) (Nat.le_refl _)) (Nat.le_refl _)⟩
end Go.Proofs.Yteoibgpkimlahaa.P
end
section
namespace Go.Proofs.Yteoibgpkimlahaa.P
open Go.RowKit Go.Proofs.YteoibgpkimlahaaW.PrintWords Go.Proofs.YteoibgpkimlahaaW.PrintLast Go.Proofs.YteoibgpkimlahaaW.PrintMore
attribute [local go_sem] max2_int min2_int max_two min_two max_three min_three max_four min_four   
set_option linter.unusedVariables false
set_option linter.unusedSimpArgs false
theorem hello_Get.mono : ∀ a0 k, LeO (hello_Get.f k a0) (hello_Get.f (k + 1) a0) := by
 intro a0 k
 unfold hello_Get.f
 refine LeO.bind (LeO.refl _) (fun _ => LeO.bind (LeO.refl _) (fun _ => LeO.bind (LeO.refl _) (fun _ => LeO.bind (LeO.refl _) (fun _ => LeO.bind (LeO.refl _) (fun _ => LeO.bind (LeO.refl _) (fun _ => ?_))))))
 refine LeO.ite (LeO.refl _) (LeO.bind (hello_May.mono _ _ _ k) (fun _ => LeO.refl _))
theorem hello_Get.calls (k : Nat) (a0 : ByteArray) (r1 r2 : Int) (r3 : List (S104)) (r4 : Int) (w : World) (h : hello_Get.f k a0 = some (r1, r2, r3, r4)) :
  Calls Try.prog 58 #[.string a0] w fun e w' => ∃ v3_ : Value, e = .returned (.tuple #[.agg #[.int .i64 r1, .int .i64 r2, v3_], .int .i64 r4]) ∧ Kd.R k104 104 w' w.heap.size (fun _ => True) v3_ r3 ∧ Below w.heap.size w w' :=
 hello_get k a0 r1 r2 r3 r4 w h
end Go.Proofs.Yteoibgpkimlahaa.P
end
