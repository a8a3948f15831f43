/- Whether any hello may be, and its bytes, or the error, are the document's; it is got again. (part 10 of 27) -/
import Derived.Deep.RegionLawGrows
import Derived.Test.YteoibgpkimlahaaB6
section
namespace Go.Proofs.Yteoibgpkimlahaa.P
open Go.RowKit Go.Proofs.YteoibgpkimlahaaW.PrintWords Go.Proofs.YteoibgpkimlahaaW.PrintLast Go.Proofs.YteoibgpkimlahaaW.PrintMore
def OwnC (w : World) (base : Nat) (e : TypeId) (size : Nat) (v : Value) (n : Nat) (xs : List Value) : Prop :=
 w.ownsRow base e size v n xs ∨ (xs.length = n * size ∧ ∃ g cur, v = .slice (some ⟨g, 0, none⟩) n n ∧ base ≤ g ∧ w.heap[g]? = some (.cells cur e (0, 0)) ∧ n ≤ maxLen ∧ n * size ≤ cur.size ∧ cur.toList.take (n * size) = xs)
section
variable {w w1 : World} {base : Nat} {e : TypeId} {size n : Nat} {v : Value} {xs : List Value}
theorem OwnC.len (h : OwnC w base e size v n xs) : xs.length = n * size := h.elim (·.1) (·.1)
theorem OwnC.move (h : OwnC w base e size v n xs) (hm : ∀ k, v.ownBlock = some k → w1.heap[k]? = w.heap[k]?) : OwnC w1 base e size v n xs := by
 rcases h with h | ⟨h1, g, cur, rfl, hg, hh, r⟩
 ·exact .inl (own_move h hm)
 ·exact .inr ⟨h1, g, cur, rfl, hg, (hm g (by simp [Value.ownBlock])).trans hh, r⟩
theorem OwnC.typed (h : OwnC w base e size v n xs) (k : Nat) (hk : v.ownBlock = some k) : base ≤ k ∧ ∃ cells, w.heap[k]? = some (.cells cells e (0, 0)) := by
 rcases h with h | ⟨h1, g, cur, rfl, hg, hh, r⟩
 ·exact ⟨own_base h k hk, own_typed h k hk⟩
 ·have : g = k := by simpa [Value.ownBlock] using hk
  subst this
  exact ⟨hg, cur, hh⟩
theorem OwnC.form (h : OwnC w base e size v n xs) (hn : 0 < n) : ∃ g cap cur, v = .slice (some ⟨g, 0, none⟩) n cap ∧ base ≤ g ∧ w.heap[g]? = some (.cells cur e (0, 0)) ∧ n ≤ cap ∧ n ≤ maxLen ∧ n * size ≤ cur.size ∧ cur.toList.take (n * size) = xs := by
 rcases h with h | ⟨h1, g, cur, rfl, hg, hh, hm, hs, ht⟩
 ·rcases h.2 with ⟨_, h0⟩ | ⟨g, cap, cur, rfl, hg, hh, hnc, hcm, hcs, ht⟩
  ·omega
  ·exact ⟨g, cap, cur, rfl, hg, hh, hnc, by omega, by rw [hcs]; exact Nat.mul_le_mul_right _ hnc, ht⟩
 ·exact ⟨g, n, cur, rfl, hg, hh, Nat.le_refl _, hm, hs, ht⟩
theorem OwnC.slice (h : OwnC w base e size v n xs) : ∃ A c, v = .slice A n c ∧ n ≤ c ∧ n ≤ maxLen := by
 rcases h with h | ⟨h1, g, cur, rfl, hg, hh, hm, hs, ht⟩
 ·rcases h.2 with ⟨rfl, h0⟩ | ⟨g, cap, cur, rfl, hg, hh, hnc, hcm, hcs, ht⟩
  ·exact ⟨none, 0, by rw [h0], by omega, by omega⟩
  ·exact ⟨_, cap, rfl, hnc, by omega⟩
 ·exact ⟨_, n, rfl, Nat.le_refl _, hm⟩
theorem OwnC.cell {g cap : Nat} (h : OwnC w base e size (.slice (some ⟨g, 0, none⟩) n cap) n xs) (j : Nat) (u : Value) (hu : xs[j]? = some u) : w.cell? ⟨g, j, none⟩ = some u ∧ w.frozen? ⟨g, j, none⟩ = false := by
 have hj := (List.getElem?_eq_some_iff.1 hu).1
 have hl := h.len
 have hn : 0 < n := by
  rcases Nat.eq_zero_or_pos n with h0 | h0
  ·rw [h0, Nat.zero_mul] at hl; omega
  ·exact h0
 obtain ⟨g', cap', cur, he, -, hh, -, -, hs, ht⟩ := h.form hn
 injection he with he
 injection he with he
 injection he with he
 subst he
 refine ⟨(blk_cell hh j).trans ?_, blk_frozen hh j⟩
 rw [← ht, List.getElem?_take_of_lt (by omega)] at hu
 rw [← hu, Array.getElem?_toList]
theorem OwnC.set {g cap : Nat} (h : OwnC w base e size (.slice (some ⟨g, 0, none⟩) n cap) n xs) (j : Nat) (u : Value) : OwnC (w.setCell ⟨g, j, none⟩ u) base e size (.slice (some ⟨g, 0, none⟩) n cap) n (xs.set j u) := by
 rcases h with h | ⟨h1, g', cur, he, hg, hh, hm, hs, ht⟩
 ·obtain ⟨h1, h2⟩ := h
  rcases h2 with ⟨he, _⟩ | ⟨g', cap', cur, he, hg, hh, hnc, hcm, hcs, ht⟩
  ·cases he
  ·injection he with he _ he2
   injection he with he
   injection he with he
   subst he; subst he2
   exact .inl ⟨by rw [List.length_set]; exact h1, .inr ⟨g, cap, _, rfl, hg, blk_set hh j u, hnc, hcm, by rw [Array.size_setIfInBounds]; exact hcs, by rw [Array.toList_setIfInBounds, List.take_set, ht]⟩⟩
 ·injection he with he _ he2
  injection he with he
  injection he with he
  subst he; subst he2
  exact .inr ⟨by rw [List.length_set]; exact h1, g, _, rfl, hg, blk_set hh j u, hm, by rw [Array.size_setIfInBounds]; exact hs, by rw [Array.toList_setIfInBounds, List.take_set, ht]⟩
theorem OwnC.cut {g cap m : Nat} (h : OwnC w base e size (.slice (some ⟨g, 0, none⟩) n cap) n xs) (hm : m ≤ n) (hn : 0 < n) : OwnC w base e size (.slice (some ⟨g, 0, none⟩) m m) m (xs.take (m * size)) := by
 have hl := h.len
 obtain ⟨g', cap', cur, he, hg, hh, -, hx, hs, ht⟩ := h.form hn
 injection he with he
 injection he with he
 injection he with he
 subst he
 have hms : m * size ≤ n * size := Nat.mul_le_mul_right _ hm
 exact .inr ⟨by rw [List.length_take]; omega, g, cur, rfl, hg, hh, by omega, by omega, by rw [← ht, List.take_take]; congr 1; omega⟩
end
section
variable {P : Program} {ops : Array Oper} {o : Oper} {a : Act} {Q : Exit → Act → World → Prop} {K : Act → World → Prop}
theorem ownC_append_step {w0 W : World} (base : Nat) (hgd : o.guard = none) (s x : Operand) (t e : TypeId) (z : Value) (size bytes : Nat)
  (ho : o.op = .call { callee := .builtin .append, args := #[s, x], argTypes := #[t, t] })
  (ht : P.underlying t = some (.slice e)) (hinfo : (P.info? e).map (fun i => (i.zero, i.size, i.bytes)) = some (some z, size, bytes)) (hz : z.cells.size = size) (hs0 : 0 < size) (hb0 : 0 < bytes)
  (v : Value) (n : Nat) (xs ys : List Value) (hs : a.eval s = v) (hx : a.eval x = .slice (some ⟨W.heap.size, 0, none⟩) 1 1) (hys : ys.length = size) (h1 : ∀ u ∈ ys, u.oneCell' = true)
  (HO : OwnC W base e size v n xs) (HB : Below base w0 W) (hbase : base ≤ W.heap.size) (hl : (n + 1) * bytes ≤ 140737488355328)
  (h : ∀ v1 w1, w1.ownsRow base e size v1 (n + 1) (xs ++ ys) → Below base w0 w1 → W.grownBy w1 v.ownBlock → K (a.put o.dst v1) w1) :
  if Region.wanted o (yielded ops a.tmps) = true then Oper.wp P o a (W.alloc (.cells ys.toArray e)) K Q else K (a.put o.dst undef) (W.alloc (.cells ys.toArray e)) := by
 have hw : Region.wanted o (yielded ops a.tmps) = true := by simp [Region.wanted, hgd]
 rcases HO with HO | ⟨hxl, g, cur, rfl, hbg, hh, hm, hsz, htk⟩
 ·exact step_append_cells base hw s x t e z size bytes ho ht hinfo hz hs0 hb0 v n xs ys hs hx hys h1 HO HB hbase hl (fun v1 w1 r1 r2 r3 _ => h v1 w1 r1 r2 r3)
 ·obtain ⟨i0, hi, hzz⟩ := Option.map_eq_some_iff.1 hinfo
  simp only [Prod.mk.injEq] at hzz
  obtain ⟨hz0, hz1, hz2⟩ := hzz
  have hlen : n + 1 ≤ 140737488355328 := Nat.le_trans (Nat.le_mul_of_pos_right _ hb0) hl
  have hh2 := blk_alloc hh (.cells ys.toArray e)
  refine step_append_grows (E := K (a.put o.dst undef) (W.alloc (.cells ys.toArray e))) hgd s x t ho e i0 z size bytes ht hi hz0 hz1 hz2 hz hs0 (some ⟨g, 0, none⟩) n n xs hs (fun h => by cases h) hxl ?_ ⟨W.heap.size, 0, none⟩ 1 1 ys hx (by rw [hys, Nat.one_mul]) ?_ h1 (by omega) (by unfold maxLen; omega) hl ?_
  ·rintro b hb j u hu
   injection hb with hb
   subst hb
   have hj := (List.getElem?_eq_some_iff.1 hu).1
   rw [← htk, List.getElem?_take_of_lt (by omega)] at hu
   rw [show (⟨g, 0, none⟩ : Addr).add j = ⟨g, j, none⟩ by simp [Addr.add]; exact Eq.symm]
   exact (blk_cell hh2 j).trans (by rw [← hu, Array.getElem?_toList])
  ·intro j u hu
   rw [show (⟨W.heap.size, 0, none⟩ : Addr).add j = ⟨W.heap.size, j, none⟩ by simp [Addr.add]; exact Eq.symm]
   exact (blk_cell (blk_new W (.cells ys.toArray e)) j).trans (by simpa using hu)
  ·intro v' w' hown hg
   have hsz2 : (W.alloc (.cells ys.toArray e)).heap.size = W.heap.size + 1 := by simp
   refine h v' w' (own_weaken hown (by rw [hsz2]; omega)) ?_ ?_
   ·exact (HB.alloc hbase _).grown hg (by rw [hsz2]; omega) (fun k hk => by cases hk)
   ·exact ⟨hg.os, hg.tape, hg.output, by have := hg.size; omega, fun k hk _ => (hg.block k (by omega) (by simp)).trans (Below.heap_alloc W _ k hk)⟩
end
def Stk (ok : Nat → Prop) (base : Nat) (w : World) (v : Value) (st : List S151) : Prop :=
 ∃ (f : Nat → Nat) (inner : List Value), OwnC w base 151 2 v st.length inner ∧ ∀ i o, st[i]? = some o → ∃ vi, inner[2 * i]? = some vi ∧ inner[2 * i + 1]? = some (.int .i64 o.f1) ∧ k62.R 62 w base (fun k => ok k ∧ f k = i) vi o.f0
section
variable {ok ok' : Nat → Prop} {base : Nat} {w w1 : World} {v : Value} {st : List S151}
theorem Stk.mono (h : Stk ok base w v st) (hok : ∀ k, ok k → ok' k) : Stk ok' base w v st := by
 obtain ⟨f, inner, h1, h2⟩ := h
 refine ⟨f, inner, h1, fun i o ho => ?_⟩
 obtain ⟨vi, a, b, c⟩ := h2 i o ho
 exact ⟨vi, a, b, Kd.R_mono c (fun k hk => ⟨hok k hk.1, hk.2⟩)⟩
theorem Stk.bound (h : Stk ok base w v st) : Stk (fun k => ok k ∧ k < w.heap.size) base w v st := by
 obtain ⟨f, inner, h1, h2⟩ := h
 refine ⟨f, inner, h1, fun i o ho => ?_⟩
 obtain ⟨vi, a, b, c⟩ := h2 i o ho
 exact ⟨vi, a, b, Kd.R_mono (Kd.R_bound c) (fun k hk => ⟨⟨hk.1.1, hk.2.2.1⟩, hk.1.2⟩)⟩
theorem Stk.step (h : Stk ok base w v st) (hm : ∀ k, ok k → k < w.heap.size → w1.heap[k]? = w.heap[k]?) (ht : ∀ (k : Nat) (cells : Array Value), w.heap[k]? = some (Obj.cells cells 151 (0, 0)) → w1.heap[k]? = w.heap[k]?) : Stk ok base w1 v st := by
 obtain ⟨f, inner, h1, h2⟩ := h
 refine ⟨f, inner, h1.move (fun k hk => ?_), fun i o ho => ?_⟩
 ·obtain ⟨_, cells, hc⟩ := h1.typed k hk
  exact ht k cells hc
 ·obtain ⟨vi, a, b, c⟩ := h2 i o ho
  exact ⟨vi, a, b, Kd.R_step c (fun k hk hlt => hm k hk.1 hlt)⟩
theorem Stk.below (h : Stk ok base w v st) (hb : Below w.heap.size w w1) : Stk ok base w1 v st := h.step (fun k _ hk => hb.block k hk) (fun k _ hk => hb.block k (blk_lt hk))
theorem Stk.later (h : Stk ok base w v st) (b : Nat) (hb : w.heap.size ≤ b) : Stk (fun k => ok k ∧ k ≠ b) base w v st := h.bound.mono (fun k hk => ⟨hk.1, by have := hk.2; omega⟩)
theorem Stk.far {g t : Nat} {cells : Array Value} (h : Stk ok base w v st) (hb : w.heap[g]? = some (.cells cells t (0, 0))) (h1 : t ≠ 151) (h2 : ∀ k, ok k → k ≠ g) (j : Nat) (u : Value) : Stk ok base (w.setCell ⟨g, j, none⟩ u) v st :=
 h.step (fun k hk _ => Below.heap_setCell w ⟨g, j, none⟩ u k (h2 k hk)) (fun k c hk => Below.heap_setCell w ⟨g, j, none⟩ u k (fun e => by
  have e : k = g := e
  subst e
  rw [hk] at hb
  injection hb with hb
  injection hb with _ hb
  exact h1 hb.symm))
theorem Stk.keep {g t : Nat} {cells : Array Value} (h : Stk ok base w v st) (hb : w.heap[g]? = some (.cells cells t (0, 0))) (h1 : t ≠ 151) (h2 : ∀ k, ok k → k ≠ g) (hk : KeepBut w w1 g none) : Stk ok base w1 v st :=
 h.step (fun k ho hlt => hk.2 k hlt (h2 k ho) (by simp)) (fun k c hc => hk.2 k (blk_lt hc) (fun e => by
  subst e
  rw [hc] at hb
  injection hb with hb
  injection hb with _ hb
  exact h1 hb.symm) (by simp))
theorem Stk.grown {row : Option Nat} (h : Stk ok base w v st) (hg : w.grownBy w1 row) (hok : ∀ k, ok k → some k ≠ row) (ht : ∀ k, row = some k → ∃ cells : Array Value, w.heap[k]? = some (Obj.cells cells 62 (0, 0))) : Stk ok base w1 v st :=
 h.step (fun k ho hlt => hg.block k hlt (hok k ho)) (fun k c hc => hg.block k (blk_lt hc) (fun e => by
  obtain ⟨cells, h2⟩ := ht k e.symm
  rw [hc] at h2
  injection h2 with h2
  injection h2 with _ h2
  exact absurd h2 (by decide)))
theorem Stk.nil (ok : Nat → Prop) (base : Nat) (w : World) : Stk ok base w (.slice none 0 0) [] := ⟨fun _ => 0, [], .inl (World.ownsRow_nil _ _ _ _), fun i o h => by simp at h⟩
theorem Stk.slice (h : Stk ok base w v st) : ∃ A c, v = .slice A st.length c ∧ st.length ≤ c := by
 obtain ⟨f, inner, h1, h2⟩ := h
 obtain ⟨A, c, he, hc, _⟩ := h1.slice
 exact ⟨A, c, he, hc⟩
theorem Stk.row_ne' {g t : Nat} {cells : Array Value} (h : Stk ok base w v st) (hb : w.heap[g]? = some (.cells cells t (0, 0))) (h1 : t ≠ 151) : some g ≠ v.ownBlock := by
 obtain ⟨f, inner, h2, _⟩ := h
 intro e
 obtain ⟨_, c2, hc⟩ := h2.typed g e.symm
 rw [hc] at hb
 injection hb with hb
 injection hb with _ hb
 exact h1 hb.symm
theorem Stk.reads {A : Option Addr} {c : Nat} (h : Stk ok base w (.slice A st.length c) st) : Kd.C k151 w A st.length st := by
 obtain ⟨f, inner, h1, h2⟩ := h
 obtain ⟨A', c', he, hc, hm⟩ := h1.slice
 refine ⟨rfl, hm, fun hp => ?_⟩
 obtain ⟨g, cap, cur, he, hg, hh, -, -, hs, ht⟩ := h1.form hp
 injection he with he _ he2
 subst he; subst he2
 refine ⟨⟨g, 0, none⟩, rfl, fun j p hj => ?_⟩
 obtain ⟨vi, a, b, r⟩ := h2 j p hj
 obtain ⟨A0, c0, rfl, hl0, hC0⟩ := Kd.R_reads r
 refine ⟨[.slice A0 p.f0.length c0, .int .i64 p.f1], rfl, k151_mk w p hl0 hC0, fun i u hu => ?_⟩
 have e : ∀ m, (⟨g, 0, none⟩ : Addr).add m = ⟨g, m, none⟩ := fun m => by simp [Addr.add]; exact Eq.symm
 show w.cell? ((⟨g, 0, none⟩ : Addr).add (j * 2 + i)) = some u
 rw [e]
 match i, hu with
 | 0, hu =>
  obtain rfl := Option.some.inj hu
  exact (h1.cell (j * 2) _ (by rw [Nat.mul_comm]; exact a)).1
 | 1, hu =>
  obtain rfl := Option.some.inj hu
  exact (h1.cell (j * 2 + 1) _ (by rw [Nat.mul_comm]; exact b)).1
theorem row_ne {okr : Nat → Prop} {u : Value} {xs : List S62} (h : k62.R 62 w base okr u xs) {g : Nat} {cells : Array Value} (hc : w.heap[g]? = some (.cells cells 151 (0, 0))) : k62.R 62 w base (fun k => okr k ∧ k ≠ g) u xs :=
 Kd.R_types h hc (fun q hq => by
  have : q = 62 := by simpa [k62, Kd.fix] using hq
  omega)
theorem Stk.top (h : Stk ok base w v st) (n : Nat) (hn : st.length = n + 1) :
  ∃ (gs cap : Nat) (vl : Value) (oki : Nat → Prop) (cur : Array Value), v = .slice (some ⟨gs, 0, none⟩) (n + 1) cap ∧ n + 1 ≤ cap ∧ base ≤ gs ∧ w.heap[gs]? = some (.cells cur 151 (0, 0)) ∧ w.cell? ⟨gs, 2 * n, none⟩ = some vl ∧ w.frozen? ⟨gs, 2 * n, none⟩ = false ∧
   w.cell? ⟨gs, 2 * n + 1, none⟩ = some (.int .i64 (rd_T151 st n).f1) ∧ k62.R 62 w base oki vl (rd_T151 st n).f0 ∧ (∀ k, oki k → ok k) ∧
   (∀ (w2 : World) (okn okY : Nat → Prop) (v' : Value) (l' : List S62), w2.heap[gs]? = some (.cells (cur.setIfInBounds (2 * n) v') 151 (0, 0)) → (∀ k, ok k → ¬ oki k → k ≠ gs → k < w.heap.size → w2.heap[k]? = w.heap[k]?) → k62.R 62 w2 base okn v' l' → (∀ k, okn k → okY k) → (∀ k, ok k → okY k) → (∀ k, ok k → k < w.heap.size → ¬ oki k → ¬ okn k) → 
    Stk okY base w2 v (st.set n ⟨l', (rd_T151 st n).f1⟩)) ∧
   Stk (fun k => ok k ∧ ¬ oki k) base w (.slice (some ⟨gs, 0, none⟩) n n) (st.take n) := by
 classical
 obtain ⟨f, inner, h1, h2⟩ := h
 have h1' := h1
 obtain ⟨gs, cap, cur, he, hg, hh, hc, -, hs, ht⟩ := h1.form (by omega)
 subst he
 rw [hn] at hc hs ht
 have hin : inner.length = (n + 1) * 2 := by rw [h1.len, hn]
 have hst : st[n]? = some (rd_T151 st n) := by simp [rd_T151, List.getD, List.getElem?_eq_getElem (show n < st.length by omega)]
 obtain ⟨vl, a, b, r⟩ := h2 n _ hst
 obtain ⟨c1, c2⟩ := h1.cell _ _ a
 refine ⟨gs, cap, vl, fun k => ok k ∧ f k = n, cur, by rw [hn], hc, hg, hh, c1, c2, (h1.cell _ _ b).1, r, fun k hk => hk.1, ?_, ?_⟩
 ·intro w2 okn okY v' l' hgs hk hR hY hY2 hap
  have hm1 : OwnC w2 base 151 2 (.slice (some ⟨gs, 0, none⟩) st.length cap) st.length (inner.set (2 * n) v') := (h1.set (2 * n) v').move (fun k hk => by
   have : gs = k := by simpa [Value.ownBlock] using hk
   subst this
   exact hgs.trans (blk_set hh (2 * n) v').symm)
  refine ⟨fun k => if okn k then n else f k, inner.set (2 * n) v', by rw [List.length_set]; exact hm1, fun i o ho => ?_⟩
  by_cases hi : i = n
  ·subst hi
   rw [List.getElem?_set_self (by omega)] at ho
   obtain rfl := Option.some.inj ho
   exact ⟨v', by rw [List.getElem?_set_self (by omega)], by rw [List.getElem?_set_ne (by omega)]; exact b, Kd.R_mono hR (fun k hk => ⟨hY k hk, if_pos hk⟩)⟩
  ·rw [List.getElem?_set_ne (fun e => hi e.symm)] at ho
   obtain ⟨vi, a2, b2, r2⟩ := h2 i o ho
   refine ⟨vi, by rw [List.getElem?_set_ne (by omega)]; exact a2, by rw [List.getElem?_set_ne (by omega)]; exact b2, ?_⟩
   have r3 := Kd.R_step (w1 := w2) (Kd.R_bound (row_ne r2 hh)) (fun k hk2 hlt => hk k hk2.1.1.1 (fun h => hi (hk2.1.1.2.symm.trans h.2)) hk2.1.2 hlt)
   exact Kd.R_mono r3 (fun k hk2 => (show okY k ∧ (if okn k then n else f k) = i from ⟨hY2 k hk2.1.1.1, by
    rw [if_neg (hap k hk2.1.1.1 hk2.2.2.1 (fun h => hi (hk2.1.1.2.symm.trans h.2)))]; exact hk2.1.1.2⟩))
 ·refine ⟨f, inner.take (n * 2), ?_, fun i o ho => ?_⟩
  ·rw [List.length_take, show min n st.length = n by omega]
   rw [hn] at h1
   exact h1.cut (by omega) (by omega)
  ·have hi : i < n := by
    have := (List.getElem?_eq_some_iff.1 ho).1
    rw [List.length_take] at this
    omega
   rw [List.getElem?_take_of_lt hi] at ho
   obtain ⟨vi, a2, b2, r2⟩ := h2 i o ho
   exact ⟨vi, by rw [List.getElem?_take_of_lt (by omega)]; exact a2, by rw [List.getElem?_take_of_lt (by omega)]; exact b2, Kd.R_mono r2 (fun k hk => ⟨⟨hk.1, fun h => by have := h.2; omega⟩, hk.2⟩)⟩
end
section
variable {P : Program} {ops : Array Oper} {o : Oper} {a : Act} {Q : Exit → Act → World → Prop} {K : Act → World → Prop}
theorem stk_push_step {w0 W : World} {ok : Nat → Prop} (base : Nat) (hgd : o.guard = none) (s x : Operand) (ho : o.op = .call { callee := .builtin .append, args := #[s, x], argTypes := #[124, 124] })
  (v : Value) (st : List S151) (en : Int) (hs : a.eval s = v) (hx : a.eval x = .slice (some ⟨W.heap.size, 0, none⟩) 1 1) (hS : Stk ok base W v st) (HB : Below base w0 W) (hbase : base ≤ W.heap.size) (hl : st.length ≤ 1000000)
  (h : ∀ v1 w1, Stk ok base w1 v1 (st ++ [⟨[], en⟩]) → Below base w0 w1 → W.grownBy w1 v.ownBlock → (∃ gs cap, v1 = .slice (some ⟨gs, 0, none⟩) (st.length + 1) cap) → K (a.put o.dst v1) w1) :
  if Region.wanted o (yielded ops a.tmps) = true then Oper.wp Try.prog o a (W.alloc (.cells #[.slice none 0 0, .int .i64 en] 151 (0, 0))) K Q else K (a.put o.dst undef) (W.alloc (.cells #[.slice none 0 0, .int .i64 en] 151 (0, 0))) := by
 obtain ⟨f, inner, h1, h2⟩ := hS
 refine ownC_append_step (P := Try.prog) base hgd s x 124 151 (.agg #[.slice none 0 0, .int .i64 0]) 2 32 ho Try.underlying124 (by kernel_rfl) rfl (by decide) (by decide) v st.length inner [.slice none 0 0, .int .i64 en] hs hx rfl (by simp [Value.oneCell']) h1 HB hbase (by omega) ?_
 intro v1 w1 hown hB hg
 have hlen : inner.length = st.length * 2 := h1.len
 have hty : ∀ k, v.ownBlock = some k → ∃ cells : Array Value, W.heap[k]? = some (Obj.cells cells 151 (0, 0)) := fun k hk => (h1.typed k hk).2
 refine h v1 w1 ⟨f, inner ++ [.slice none 0 0, .int .i64 en], .inl (by simpa using hown), fun i o ho => ?_⟩ hB hg ?_
 ·rcases Nat.lt_or_ge i st.length with hi | hi
  ·rw [List.getElem?_append_left hi] at ho
   obtain ⟨vi, a2, b2, r2⟩ := h2 i o ho
   refine ⟨vi, by rw [List.getElem?_append_left (by omega)]; exact a2, by rw [List.getElem?_append_left (by omega)]; exact b2, ?_⟩
   cases hv : v.ownBlock with
   | none => rw [hv] at hg; exact Kd.R_grown r2 hg (fun _ _ => by simp)
   | some k =>
    obtain ⟨cells, hc⟩ := hty k hv
    rw [hv] at hg
    exact Kd.R_mono (Kd.R_grown (row_ne r2 hc) hg (fun j hj he => hj.2 (by injection he))) (fun _ hk => hk.1)
  ·rw [List.getElem?_append_right hi] at ho
   have h0 : i - st.length = 0 := by
    rcases Nat.eq_zero_or_pos (i - st.length) with h | h
    ·exact h
    ·rw [List.getElem?_eq_none (by simp; omega)] at ho; cases ho
   have hi2 : i = st.length := by omega
   subst hi2
   rw [Nat.sub_self] at ho
   obtain rfl := Option.some.inj ho
   refine ⟨.slice none 0 0, by rw [List.getElem?_append_right (by omega), show 2 * st.length - inner.length = 0 by omega]; rfl, by rw [List.getElem?_append_right (by omega), show 2 * st.length + 1 - inner.length = 1 by omega]; rfl, Kd.R_nil _ _ _ _ _⟩
 ·rcases hown.2 with ⟨_, h0⟩ | ⟨g, cap, cur, he, _⟩
  ·omega
  ·exact ⟨g, cap, he⟩
end
end Go.Proofs.Yteoibgpkimlahaa.P
end
