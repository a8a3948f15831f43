/- Whether any hello may be, and its bytes, or the error, are the document's; it is got again. (part 14 of 27) -/
import Derived.RangeFuncNested
import Derived.RangeFuncLeaves
import Derived.RangeFuncCalls
import Derived.Test.YteoibgpkimlahaaB6
section
namespace Go.Proofs.Yteoibgpkimlahaa.P
open Go.RowKit Go.Proofs.YteoibgpkimlahaaW.PrintWords Go.Proofs.YteoibgpkimlahaaW.PrintLast Go.Proofs.YteoibgpkimlahaaW.PrintMore
variable {P : Program} {ops : Array Oper} {Q : Exit → Act → World → Prop} {ro : Option Nat} {n : Nat}
@[reducible] def rdF (ro : Option Nat) : Fence := { Fence.wide with round := ro }
theorem rdF_fn (ro : Option Nat) (f : FuncId) : (rdF ro).fn f := trivial
theorem callsIn_rd {f : FuncId} {args : Array Value} {w : World} {R : Ending → World → Prop} (h : Calls P f args w R) : CallsIn (rdF ro) n P f args w R :=
 show CallsIn Fence.wide n P f args w R from callsIn_wide.2 h
theorem rowsIn_rd {row : String} {args : Array Value} {w : World} {R : Value → World → Prop} (h : Rows P row args w R) : RowsIn (rdF ro) n P row args w R :=
 fun c cs _ => let ⟨v, w', r, s⟩ := h c cs; ⟨v, w', r, (show StepsIn (Machine.fenced P Fence.wide) P _ _ from stepsIn_wide.2 s)⟩
def noDefer (ops : Array Oper) : Bool := ops.toList.all fun o => match o.op with | .defer _ => false | _ => true
theorem noDefer_at {i : Nat} {o : Oper} (h : noDefer ops = true) (hi : ops[i]? = some o) {c} : o.op ≠ .defer c := by
 intro he
 have h1 := List.all_eq_true.1 h o (by
  obtain ⟨hlt, e⟩ := Array.getElem?_eq_some_iff.1 hi
  rw [← e]
  simp)
 rw [he] at h1
 cases h1
theorem wpIn_of_wp {o : Oper} {a : Act} {w : World} {K K' : Act → World → Prop} (hd : ∀ c, o.op ≠ .defer c) (hK : ∀ a w, K a w → K' a w) (h : o.wp P a w K Q) : o.wpIn (rdF ro) n P a w K' Q := by
 refine ⟨fun f _ => rdF_fn ro f, ?_⟩
 rw [Oper.semAt_eq _ _ _ hd]
 revert h
 unfold Oper.wp
 generalize (execOp a.eval o).run P w = r
 intro h
 cases r with
 | ok nx w' =>
  cases nx with
  | value v => exact hK _ _ h
  | skip => exact hK _ _ h
  | defer d => exact hK _ _ h
  | enter f args =>
   refine ⟨fun hdep => (by cases hdep), callsIn_rd (Calls.mono h ?_)⟩
   intro e w2 h2
   cases e with
   | returned v => exact hK _ _ h2
   | panicked c => exact h2
   | outgrown => exact h2
  | row row args => exact ⟨fun hdep => (by cases hdep), rowsIn_rd (Rows.mono h fun _ _ h2 => hK _ _ h2)⟩
  | _ => exact h.elim
 | halt hh w' =>
  cases hh <;> first | exact h | exact h.elim
theorem wpOpsIn_of (hL : ¬ LetsOut Q) (hd : noDefer ops = true) : ∀ (l : List Nat) (a : Act) (w : World), wpOps P ops Q l a w → wpOpsIn (rdF ro) n P ops Q l a w
 | [], _, _, h => h
 | i :: rest, a, w, h => by
  simp only [wpOps] at h
  simp only [wpOpsIn]
  revert h
  cases hi : ops[i]? with
  | none => exact fun h => wpOpsIn_of hL hd rest a w h
  | some o =>
   intro h
   simp only at h ⊢
   split
   ·rename_i hw
    rw [if_pos hw] at h
    rcases h with h | ⟨_, h⟩
    ·exact wpIn_of_wp (fun c => noDefer_at hd hi) (fun a' w' h' => wpOpsIn_of hL hd rest a' w' h') h
    ·exact absurd h hL
   ·rename_i hw
    rw [if_neg hw] at h
    exact ⟨fun f _ => rdF_fn ro f, wpOpsIn_of hL hd rest _ w h⟩
theorem wpListIn_of (hL : ¬ LetsOut Q) : ∀ (l : List Oper) (a : Act) (w : World), noDefer l.toArray = true → wpList P ops Q l a w → wpListIn (rdF ro) n P ops Q l a w
 | [], _, _, _, h => h
 | o :: rest, a, w, hd, h => by
  have h1 : ∀ c, o.op ≠ .defer c := fun c => noDefer_at (i := 0) hd (by simp)
  have h2 : noDefer rest.toArray = true := by
   simp only [noDefer, List.all_cons, Bool.and_eq_true] at hd ⊢
   exact hd.2
  simp only [wpList] at h
  simp only [wpListIn]
  split
  ·rename_i hw
   rw [if_pos hw] at h
   rcases h with h | ⟨_, h⟩
   ·exact wpIn_of_wp h1 (fun a' w' h' => wpListIn_of hL rest a' w' h2 h') h
   ·exact absurd h hL
  ·rename_i hw
   rw [if_neg hw] at h
   exact ⟨fun f _ => rdF_fn ro f, wpListIn_of hL rest _ w h2 h⟩
theorem region_draw_rd {id m : Nat} {S : World → Prop} {ds : List Nat} {a : Act} {w : World} (hL : ¬ LetsOut Q) (hd : noDefer ops = true) (l : Array Bool) (hm : P.follows .mixedOrders = true) (hn : ops.size = m) (hl : Array.replicate m false = l) (hS : S w.drew)
  (h : S w.drew → wpAnyLast P .any ops Q S ds m l a w.drew) : (Code.region id ops true).wpIn (rdF ro) n P Q a w := by
 subst hn
 subst hl
 refine wpIn_region_draw fun t => wpOpsIn_of hL hd _ _ _ ?_
 simp only [Region.schedule, hm, Bool.true_or, if_true]
 exact wpAny_sound ops.size t _ a _ (wpAny_of_last _ _ _ _ (h hS))
theorem below_putObj {n0 : Nat} (W : World) (l : Nat) (o : Obj) (hl : n0 ≤ l) : Below n0 W (W.putObj l o) :=
 ⟨rfl, rfl, rfl, by simp, fun k hk => World.putObj_heap_other (by omega)⟩
theorem kept_putObj (W : World) (l : Nat) (o : Obj) (S : Nat → Prop) (hl : S l) : Kept W (W.putObj l o) S :=
 ⟨by simp, fun k _ hk => World.putObj_heap_other (fun e => hk (e ▸ hl))⟩
def goesOn {α : Type} (n0 : Nat) (S : Nat → Prop) (D : Nat) (I : List α → World → Prop) (xs : List α) (W : World) : Exit → Act → World → Prop
 | .normal, _, W' => Below n0 W W' ∧ (∀ k, S k ∨ k = D ∨ k = D + 1 → W'.heap[k]? = W.heap[k]?) ∧ I xs W'
 | _, _, _ => False
theorem range_law {α : Type} {g : Operand} {ps : Array Tmp} {assign body : Code} {a : Act} {w : World} {gf : Nat} {lb : Array Value} (hg : a.eval g = .func (.func gf) #[] lb) (eg : ∀ args w, (callFunc gf args).run P w = .ok (.enter gf args) w)
  {encs : α → Array Value} (hps : ∀ x, (encs x).size = ps.size) (n0 : Nat) (hn0 : n0 ≤ w.heap.size) (S : Nat → Prop) (hS : ∀ k, S k → k < w.heap.size) (xs : List α)
  (hiter : ∀ W1, Below w.heap.size w W1 → ∀ (l : Nat) (J : List α → World → Prop), (∀ pre A B, J pre A → Below n0 A B → Kept A B S → J pre B) →
   (∀ pre x W, (∃ r, pre ++ x :: r = xs) → J pre W → YieldAt Fence.wide n P l (encs x) W fun e W2 => e = .returned (.bool true) ∧ J (pre ++ [x]) W2 ∧ Below n0 W W2 ∧ ∀ k, S k → W2.heap[k]? = W.heap[k]?) → J [] W1 →
   CallsIn Fence.wide (n + 1) P gf (#[.func (.yield l) #[] #[]] ++ lb) W1 fun e W' => (∃ v, e = .returned v) ∧ J xs W')
  (I : List α → World → Prop) (hI : ∀ pre A B, I pre A → Below n0 A B → Kept A B (fun k => S k ∨ k = w.heap.size + 1) → I pre B) (h0 : I [] w)
  (hround : ∀ pre x W, (∃ r, pre ++ x :: r = xs) → I pre W → w.heap.size + 1 < W.heap.size →
   assign.wpIn (rdF (some (w.heap.size + 1))) n P (Exit.then (fun a₁ W₁ => Below n0 W W₁ ∧ (∀ k, S k ∨ k = w.heap.size ∨ k = w.heap.size + 1 → W₁.heap[k]? = W.heap[k]?) ∧
    ∀ o, body.wpIn (rdF (some (w.heap.size + 1))) n P (goesOn n0 S w.heap.size I (pre ++ [x]) (W₁.putObj (w.heap.size + 1) o)) a₁ (W₁.putObj (w.heap.size + 1) o)) (fun _ _ _ => False))
   { tmps := (ps.zip (encs x)).foldl (fun t (p, v) => t.setIfInBounds p v) a.tmps, defers := [] } W)
  (hdone : ∀ (D : Nat) (W : World), D = w.heap.size → I xs W → W.heap[D]? = some (.deferred (some [])) → Q .normal { a with defers := { target := .collected D, args := #[] } :: a.defers } W) :
  (Code.rangeFunc g ps assign body).wpIn Fence.wide (n + 2) P Q a w := by
 refine wpIn_rangeFunc ?_
 intro fn hfn
 obtain ⟨rec, hrec⟩ : ∃ rec : LoopState → Option Code → Loop, rec = fun st pe => { state := st, pending := pe, fn, tmps := a.tmps, params := ps, assign, body, defers := w.heap.size } := ⟨_, rfl⟩
 obtain ⟨W1, hW1⟩ : ∃ W1, (w.alloc (.deferred (some []))).alloc (.loop (rec .ready none)) = W1 := ⟨_, rfl⟩
 have hL1 : W1.heap[w.heap.size + 1]? = some (.loop (rec .ready none)) := by
  rw [← hW1]; have := World.alloc_heap_new (w.alloc (.deferred (some []))) (.loop (rec .ready none)); rwa [World.size_alloc] at this
 have hK1 : W1.heap[w.heap.size]? = some (.deferred (some [])) := by
  rw [← hW1]; exact (Below.heap_alloc _ _ _ (by simp)).trans (World.alloc_heap_new w _)
 have hb1 : Below w.heap.size w W1 := by
  rw [← hW1]; exact ((Below.refl _ w).alloc (Nat.le_refl _) _).alloc (by simp) _
 have hI1 : I [] W1 := hI _ _ _ h0 (hb1.mono hn0) (Kept.of_below hb1 _)
 refine ⟨w.heap.size + 1, [{ target := .collected w.heap.size, args := #[] }], W1, { target := .fn (.func gf) lb, args := #[.func (.yield (w.heap.size + 1)) #[] #[]] }, W1, gf,
  #[.func (.yield (w.heap.size + 1)) #[] #[]] ++ lb, W1, ?_, ?_, ?_, ?_, fun h => (by cases h), ?_⟩
 ·rw [← hW1, hrec]; exact run_enterLoop_outer _ _ _ _ _
 ·simp only [resolve, hg]
  simp [go_sem]
 ·intro f' hf'; trivial
 ·simp [invoke, go_sem, eg]
 ·refine (hiter W1 hb1 (w.heap.size + 1)
   (fun pre W => I pre W ∧ W.heap[w.heap.size + 1]? = some (.loop (rec .ready none)) ∧ W.heap[w.heap.size]? = some (.deferred (some [])))
   (fun pre A B hJ hb hk => ⟨hI _ _ _ hJ.1 hb (hk.mono fun _ h => .inl h), (hk.2 _ (blk_lt hJ.2.1) (fun h => by have := hS _ h; omega)).trans hJ.2.1, (hk.2 _ (blk_lt hJ.2.2) (fun h => by have := hS _ h; omega)).trans hJ.2.2⟩)
   ?_ ⟨hI1, hL1, hK1⟩).mono ?_
  ·rintro pre x W hpx ⟨hi, hl, hk⟩
   have hlt : w.heap.size + 1 < W.heap.size := blk_lt hl
   have hy := run_yield (P := P) (args := encs x) hl (by rw [hrec]; exact hps x)
   rw [hrec] at hy
   refine ⟨fn, _, assign, body, hy, roundIn_of_wpIn trivial ?_⟩
   refine wpIn_mono (hround pre x W hpx hi hlt) ?_
   rintro e a1 W2 hq
   cases e with
   | normal =>
    obtain ⟨hb2, hk2, hbody⟩ := hq
    have hl2 := (hk2 _ (.inr (.inr rfl))).trans hl
    have hd2 := (hk2 _ (.inr (.inl rfl))).trans hk
    refine ⟨_, run_beginRound hl2 (by rw [hrec]), ?_⟩
    refine wpIn_mono (hbody _) ?_
    rintro e3 a3 W3 hp
    cases e3 with
    | normal =>
     obtain ⟨hb3, hk3, hi3⟩ := hp
     have hl3 := hk3 _ (.inr (.inr rfl))
     have hd3 := hk3 _ (.inr (.inl rfl))
     rw [World.putObj_heap_same (blk_lt hl2)] at hl3
     rw [World.putObj_heap_other (by omega), hd2] at hd3
     have hend := run_endRound (P := P) none hl3
     rw [hrec] at hend
     refine ⟨_, _, hend, rfl, ⟨?_, ?_, ?_⟩, ?_, ?_⟩
     ·exact hI _ _ _ hi3 (below_putObj W3 _ _ (by omega)) (kept_putObj W3 _ _ _ (.inr rfl))
     ·rw [hrec]; exact World.putObj_heap_same (blk_lt hl3)
     ·exact (World.putObj_heap_other (by omega)).trans hd3
     ·exact ((hb2.trans (below_putObj W2 _ _ (by omega))).trans hb3).trans (below_putObj W3 _ _ (by omega))
     ·intro k hk'
      have hne : k ≠ w.heap.size + 1 := fun e => by have := hS k hk'; omega
      rw [World.putObj_heap_other hne, hk3 k (.inl hk'), World.putObj_heap_other hne, hk2 k (.inl hk')]
    | _ => exact hp.elim
   | _ => exact hq.elim
  ·rintro e W2 ⟨⟨v, rfl⟩, hi, hl, hk⟩
   refine ⟨none, _, by have := run_endLoop (P := P) hl (by rw [hrec]; simp); rw [hrec] at this; exact this, ?_⟩
   exact hdone _ _ rfl (hI _ _ _ hi (below_putObj W2 _ _ (by omega)) (kept_putObj W2 _ _ _ (.inr rfl))) ((World.putObj_heap_other (by omega)).trans hk)
end Go.Proofs.Yteoibgpkimlahaa.P
end
