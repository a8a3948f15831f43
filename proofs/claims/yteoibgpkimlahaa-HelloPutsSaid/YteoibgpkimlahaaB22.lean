/- Whether any hello may be, and its bytes, or the error, are the document's; it is got again. (part 22 of 27) -/
import Derived.Test.YteoibgpkimlahaaB15
import Derived.Test.YteoibgpkimlahaaB19
section
namespace Go.Proofs.Yteoibgpkimlahaa.P
open Go.RowKit Go.Proofs.YteoibgpkimlahaaW.PrintWords Go.Proofs.YteoibgpkimlahaaW.PrintLast Go.Proofs.YteoibgpkimlahaaW.PrintMore
theorem getLeast_dg (n : Int) (h0 : 0 ≤ n) (h1 : n < 18446744073709551616) : fixed_GetLeast.f (strOfNums (digs n)) = some (n, 0) := by
 unfold fixed_GetLeast.f
 have hb := bytesOf_str (digs n) (digs_byte n)
 rw [if_neg (by rw [strOfNums_size, digs_length]; have := sz_u64 h0 h1; omega), if_neg ?_, hb, numL_digs n h0]
 rintro ⟨h2, h3⟩
 have hn : 0 < n := by
  rcases Int.lt_or_le 0 n with h | h
  ·exact h
  ·exfalso
   have : n = 0 := by omega
   subst this
   rw [digs_zero] at h2
   exact h2 (by rw [toList_str]; rfl)
 have h4 := digs_head n hn
 have h5 := bt_getD (strOfNums (digs n)) 0
 rw [hb] at h5
 rw [show ((0 : Nat) : Int) = 0 from rfl, h3] at h5
 cases hd : digs n with
 | nil =>
  have := digs_length n
  rw [hd, sz_pos hn] at this
  simp at this
 | cons a l =>
  rw [hd] at h5 h4
  simp at h5 h4
  omega
section
variable {s : ByteArray}
theorem bt_drop {a : Nat} {b : Int} {r : List Int} (h : (bytesOf s).drop a = b :: r) : bt s a = b := by
 rw [bt_getD]
 have h2 : (bytesOf s)[a]? = some b := by
  have := congrArg (fun l => l[0]?) h
  simpa using this
 simp [List.getD, h2]
theorem drop_more {a : Nat} {p r : List Int} (h : (bytesOf s).drop a = p ++ r) : (bytesOf s).drop (a + p.length) = r := by
 rw [← List.drop_drop, h, List.drop_left]
theorem bytesOf_ext (s : ByteArray) (a b : Nat) : bytesOf (s.extract a b) = ((bytesOf s).drop a).take (b - a) := by
 unfold bytesOf
 rw [← List.map_drop, ← List.map_take]
 congr 1
 rw [ByteArray.data_extract, Array.toList_extract]
theorem ext_text {a : Nat} {t : ByteArray} {r : List Int} (h : (bytesOf s).drop a = bytesOf t ++ r) : s.extract a (a + t.size) = t := by
 refine bytesOf_inj ?_
 rw [bytesOf_ext, h, Nat.add_sub_cancel_left, ← bytesOf_length t, List.take_left]
theorem ext_digs {a : Nat} {n : Int} {r : List Int} (h : (bytesOf s).drop a = digs n ++ r) : s.extract a (a + sz n) = strOfNums (digs n) := by
 refine bytesOf_inj ?_
 rw [bytesOf_ext, h, bytesOf_str _ (digs_byte n), Nat.add_sub_cancel_left, ← digs_length n, List.take_left]
theorem start_ok {a d t : Int} {st : List S151} (h1 : a < endD s st) (h2 : (st.length : Int) < d) (h3 : 1 ≤ t) : startF s a d t st = 0 := by
 unfold startF startF2 startF1
 rw [if_neg (by omega), if_neg (by omega), if_neg (by omega)]
 rfl
theorem lenD_head {by_ : Int} {n a : Nat} {st : List S151} {r : List Int} (hn : n ≤ 1099511627776) (h : (bytesOf s).drop a = headL by_ n ++ r) (he : (a + (headL by_ n).length + n : Nat) ≤ endD s st) :
  by_ ≤ bt s a ∧ bt s a < by_ + 64 ∧ lenD s ((a : Int) + 1) st (bt s a - by_) = ((n : Int), ((a + (headL by_ n).length : Nat) : Int), 0) := by
 unfold headL at h he ⊢
 by_cases c : (n : Int) ≤ 55
 ·rw [if_pos c] at h he ⊢
  have hbt := bt_drop (b := by_ + n) h
  rw [hbt, show by_ + (n : Int) - by_ = n by omega]
  refine ⟨by omega, by omega, ?_⟩
  unfold lenD
  simp only [List.length_cons, List.length_nil] at he ⊢
  rw [if_pos c, if_neg (by omega)]
  refine Prod.ext rfl (Prod.ext ?_ rfl)
  show (a : Int) + 1 = ((a + (0 + 1) : Nat) : Int)
  omega
 ·rw [if_neg c] at h he ⊢
  have hs8 := sz_u64 (n := (n : Int)) (by omega) (by omega)
  have hs1 : 1 ≤ sz (n : Int) := by rw [sz_pos (by omega)]; omega
  have hbt := bt_drop (b := by_ + 55 + sz (n : Int)) h
  have hd : (bytesOf s).drop (a + 1) = digs n ++ r := drop_more (p := [by_ + 55 + (sz (n : Int) : Int)]) h
  have hx := ext_digs hd
  rw [hbt, show by_ + 55 + (sz (n : Int) : Int) - by_ = 55 + sz (n : Int) by omega]
  refine ⟨by omega, by omega, ?_⟩
  simp only [List.length_cons, digs_length] at he ⊢
  unfold lenD
  rw [if_neg (by omega), if_neg (by omega), show ((a : Int) + 1).toNat = a + 1 by omega, show ((a : Int) + 1 + (55 + (sz (n : Int) : Int) - 55)).toNat = a + 1 + sz (n : Int) by omega, hx, getLeast_dg n (by omega) (by omega)]
  simp only
  rw [if_neg (by omega), if_pos ⟨trivial, by omega⟩]
  refine Prod.ext rfl (Prod.ext ?_ rfl)
  show (a : Int) + 1 + (55 + (sz (n : Int) : Int) - 55) = ((a + (sz (n : Int) + 1) : Nat) : Int)
  omega
theorem one_text {t : ByteArray} {a : Nat} {d tt : Int} {st : List S151} {r : List Int} (ht : t.size ≤ 1099511627776) (h : (bytesOf s).drop a = putL ⟨t, false, []⟩ ++ r) (he : (a + (putL ⟨t, false, []⟩).length : Nat) ≤ endD s st) (hd : (st.length : Int) < d) (h1 : 1 ≤ tt) :
  oneD s a d tt st = (t, true, ((a + (putL ⟨t, false, []⟩).length : Nat) : Int), st, 0) := by
 have hp := putL_pos ⟨t, false, []⟩
 have h0 := start_ok (s := s) (a := a) (d := d) (t := tt) (st := st) (by omega) hd h1
 rw [show putL ⟨t, false, []⟩ = if t.size = 1 ∧ bt t 0 < 128 then bytesOf t else headL 128 t.size ++ bytesOf t by rw [putL_eq, if_neg (by simp)]] at h he ⊢
 unfold oneD
 rw [if_neg (by rw [h0]; simp)]
 by_cases c : t.size = 1 ∧ bt t 0 < 128
 ·rw [if_pos c] at h he ⊢
  have e1 : bytesOf t = [bt t 0] := by
   have hl := bytesOf_length t
   rw [c.1] at hl
   obtain ⟨b, hb⟩ := List.length_eq_one_iff.1 hl
   rw [hb, show bt t 0 = bt t ((0 : Nat) : Int) from rfl, bt_getD, hb]
   rfl
  have hbt := bt_drop (b := bt t 0) (r := r) (by rw [h, e1]; rfl)
  rw [hbt, if_pos c.2, ← e1, str_bytesOf, bytesOf_length, c.1]
  exact Prod.ext rfl (Prod.ext rfl (Prod.ext (show (a : Int) + 1 = ((a + 1 : Nat) : Int) by omega) rfl))
 ·rw [if_neg c] at h he ⊢
  rw [List.append_assoc] at h
  rw [List.length_append, bytesOf_length] at he ⊢
  obtain ⟨b1, b2, b3⟩ := lenD_head (by_ := 128) (st := st) ht h (by omega)
  have hh := headL_len 128 t.size (by omega) (by omega)
  rw [if_neg (by omega), if_pos (by omega), b3]
  simp only
  have hx := ext_text (drop_more h)
  rw [if_pos trivial, show ((a + (headL 128 (t.size : Int)).length : Nat) : Int).toNat = a + (headL 128 (t.size : Int)).length by omega, show (((a + (headL 128 (t.size : Int)).length : Nat) : Int) + (t.size : Int)).toNat = a + (headL 128 (t.size : Int)).length + t.size by omega, hx]
  have hc : ¬ ((t.size : Int) = 1 ∧ bt s ((a + (headL 128 (t.size : Int)).length : Nat) : Int) < 128) := by
   rintro ⟨q1, q2⟩
   refine c ⟨by omega, ?_⟩
   have e1 : bytesOf t = [bt t 0] := by
    have hl := bytesOf_length t
    obtain ⟨b, hb⟩ := List.length_eq_one_iff.1 (show (bytesOf t).length = 1 by omega)
    rw [hb, show bt t 0 = bt t ((0 : Nat) : Int) from rfl, bt_getD, hb]
    rfl
   have hbt := bt_drop (b := bt t 0) (r := r) (by rw [drop_more h, e1]; rfl)
   rw [hbt] at q2
   exact q2
  rw [if_neg hc]
  exact Prod.ext rfl (Prod.ext rfl (Prod.ext (show ((a + (headL 128 (t.size : Int)).length : Nat) : Int) + (t.size : Int) = ((a + ((headL 128 (t.size : Int)).length + t.size) : Nat) : Int) by omega) rfl))
theorem one_list {n a : Nat} {d tt : Int} {st : List S151} {r : List Int} (hn : n ≤ 1099511627776) (h : (bytesOf s).drop a = headL 192 n ++ r) (he : (a + (headL 192 n).length + n : Nat) ≤ endD s st) (hd : (st.length : Int) < d) (h1 : 1 ≤ tt) :
  oneD s a d tt st = (⟨#[]⟩, false, ((a + (headL 192 n).length : Nat) : Int), st ++ [⟨[], ((a + (headL 192 n).length + n : Nat) : Int)⟩], 0) := by
 have hp := headL_pos 192 n
 have h0 := start_ok (s := s) (a := a) (d := d) (t := tt) (st := st) (by omega) hd h1
 obtain ⟨b1, b2, b3⟩ := lenD_head (by_ := 192) (st := st) hn h he
 unfold oneD
 rw [if_neg (by rw [h0]; simp), if_neg (by omega), if_neg (by omega), b3]
 rw [show ((a + (headL 192 (n : Int)).length : Nat) : Int) + (n : Int) = ((a + (headL 192 (n : Int)).length + n : Nat) : Int) by omega]
theorem rd_top (st : List S151) (o : S151) : rd_T151 (st ++ [o]) (st.length : Int) = o := by
 unfold rd_T151
 rw [Int.toNat_natCast, List.getD, List.getElem?_append_right (Nat.le_refl _), Nat.sub_self]
 rfl
theorem endD_top (st : List S151) (o : S151) : endD s (st ++ [o]) = o.f1 := by
 unfold endD
 rw [if_neg (by simp), show ((st ++ [o]).length : Int) - 1 = (st.length : Int) by simp, rd_top]
def shutThen (s : ByteArray) (d : Int) (k : Nat) (a t : Int) (st : List S151) (x : S62) : S62 × Int × Int :=
 if (shutD a st.length true x st).1 = true then ((shutD a st.length true x st).2.1, a, 0) else nextL s d k a t (shutD a st.length true x st).2.2
theorem shutThen_nil (d : Int) (k : Nat) (a t : Int) (x : S62) : shutThen s d k a t [] x = (x, a, 0) := rfl
theorem shut_top (a : Int) (ok : Bool) (x : S62) (st : List S151) (o : S151) : shutD a (st ++ [o]).length ok x (st ++ [o]) =
  if a < o.f1 then (false, z62, if ok = true then st ++ [⟨o.f0 ++ [x], o.f1⟩] else st ++ [o]) else shutD a st.length true ⟨⟨#[]⟩, true, if ok = true then o.f0 ++ [x] else o.f0⟩ st := by
 rw [List.length_append, List.length_singleton, shutD, rd_top, List.set_append_right _ _ (Nat.le_refl _), Nat.sub_self, List.take_left]
 rfl
theorem shutThen_in {d : Int} {k : Nat} {a t : Int} {st : List S151} {x : S62} {l : List S62} {e : Int} (h : a < e) : shutThen s d k a t (st ++ [⟨l, e⟩]) x = nextL s d k a t (st ++ [⟨l ++ [x], e⟩]) := by
 unfold shutThen
 rw [shut_top, if_pos h]
 rfl
theorem shutThen_end {d : Int} {k : Nat} {a t : Int} {st : List S151} {x : S62} {l : List S62} {e : Int} (h : ¬ a < e) : shutThen s d k a t (st ++ [⟨l, e⟩]) x = shutThen s d k a t st ⟨⟨#[]⟩, true, l ++ [x]⟩ := by
 unfold shutThen
 rw [shut_top, if_neg h]
 rfl
theorem next_text {d : Int} {k : Nat} {a t a' : Int} {st : List S151} {x : ByteArray} (h : oneD s a d t st = (x, true, a', st, 0)) : nextL s d (k + 1) a t st = shutThen s d k a' (t - 1) st ⟨x, false, []⟩ := by
 rw [nextL, h]
 rfl
theorem next_list {d : Int} {k : Nat} {a t a' e : Int} {st : List S151} (h : oneD s a d t st = (⟨#[]⟩, false, a', st ++ [⟨[], e⟩], 0)) : nextL s d (k + 1) a t st = if a' < e then nextL s d k a' (t - 1) (st ++ [⟨[], e⟩]) else shutThen s d k a' (t - 1) st ⟨⟨#[]⟩, true, []⟩ := by
 rw [nextL, h]
 simp only
 rw [shut_top]
 by_cases c : a' < e
 ·rw [if_pos c, if_pos c]
  rfl
 ·rw [if_neg c, if_neg c]
  rfl
theorem rgt_text {t : ByteArray} {sub : List S62} (h : rgt ⟨t, false, sub⟩ = true) : sub = [] := by
 rw [rgt_eq, Bool.and_eq_true] at h
 exact List.isEmpty_iff.1 h.1
theorem rgt_list {t : ByteArray} {sub : List S62} (h : rgt ⟨t, true, sub⟩ = true) : t = ⟨#[]⟩ ∧ rgts sub = true := by
 rw [rgt_eq, Bool.and_eq_true] at h
 exact ⟨toList_inj ((List.isEmpty_iff.1 h.1 : t.toList = []).trans (by rw [ByteArray.toList_eq])), h.2⟩
theorem rgts_mem : ∀ (ys : List S62) (y : S62), y ∈ ys → rgts ys = true → rgt y = true
 | z :: zs, y, h, hr => by
  rw [rgts_cons, Bool.and_eq_true] at hr
  rcases List.mem_cons.1 h with rfl | h
  ·exact hr.1
  ·exact rgts_mem zs y h hr.2
def Reads (s : ByteArray) (d : Int) (x : S62) : Prop := ∀ (a : Nat) (t : Int) (st : List S151) (k : Nat) (r : List Int), (bytesOf s).drop a = putL x ++ r → ((a + (putL x).length : Nat) : Int) ≤ endD s st → (st.length : Int) + dep x ≤ d → (cnt x : Int) ≤ t → cnt x ≤ k →
 nextL s d k a t st = shutThen s d (k - cnt x) ((a + (putL x).length : Nat) : Int) (t - cnt x) st x
theorem run_items {d : Int} : ∀ (ys : List S62), (∀ y ∈ ys, Reads s d y) → ys ≠ [] → ∀ (a : Nat) (t : Int) (st : List S151) (l : List S62) (k : Nat) (r : List Int), (bytesOf s).drop a = putsL ys ++ r → (st.length : Int) + 1 + deps ys ≤ d → (cnts ys : Int) ≤ t → cnts ys ≤ k →
  nextL s d k a t (st ++ [⟨l, ((a + (putsL ys).length : Nat) : Int)⟩]) = shutThen s d (k - cnts ys) ((a + (putsL ys).length : Nat) : Int) (t - cnts ys) st ⟨⟨#[]⟩, true, l ++ ys⟩ := by
 intro ys
 induction ys with
 | nil => intro _ h; exact absurd rfl h
 | cons y ys ih =>
  intro hy _ a t st l k r h hd ht hk
  rw [deps_cons] at hd
  rw [cnts_cons] at ht hk ⊢
  rw [putsL_cons, List.append_assoc] at h
  rw [putsL_cons, List.length_append]
  have h1 := hy y (by simp) a t (st ++ [⟨l, ((a + ((putL y).length + (putsL ys).length) : Nat) : Int)⟩]) k _ h (by rw [endD_top]; show _ ≤ ((a + ((putL y).length + (putsL ys).length) : Nat) : Int); omega) (by rw [List.length_append, List.length_singleton]; omega) (by omega) (by omega)
  rw [h1]
  cases hys : ys with
  | nil =>
   subst hys
   simp only [putsL, cnts, List.length_nil, Nat.add_zero]
   rw [shutThen_end (by omega)]
  | cons z zs =>
   rw [← hys]
   have hp : 1 ≤ (putsL ys).length := by rw [hys, putsL_cons, List.length_append]; have := putL_pos z; omega
   rw [shutThen_in (by omega)]
   have h2 := ih (fun q hq => hy q (List.mem_cons_of_mem _ hq)) (by rw [hys]; simp) (a + (putL y).length) (t - cnt y) st (l ++ [y]) (k - cnt y) r (drop_more h) (by omega) (by omega) (by omega)
   rw [show a + (putL y).length + (putsL ys).length = a + ((putL y).length + (putsL ys).length) by omega] at h2
   rw [h2, List.append_assoc, show k - cnt y - cnts ys = k - (cnt y + cnts ys) by omega, show t - (cnt y : Int) - (cnts ys : Int) = t - ((cnt y + cnts ys : Nat) : Int) by omega]
   rfl
theorem run_item (hs : s.size ≤ 1099511627776) {d : Int} : ∀ x : S62, rgt x = true → Reads s d x
 | ⟨t, false, sub⟩, hr => by
  obtain rfl := rgt_text hr
  intro a tt st k r h he hd ht hk
  rw [dep_eq] at hd
  have hc : cnt ⟨t, false, []⟩ = 1 := by rw [cnt_eq, cnts]
  rw [hc] at ht hk ⊢
  have hsz : t.size ≤ 1099511627776 := by
   have h1 := congrArg List.length h
   rw [List.length_drop, bytesOf_length, List.length_append, putL_eq, if_neg (by simp)] at h1
   split at h1
   ·rename_i q; omega
   ·rw [List.length_append, bytesOf_length] at h1; omega
  obtain ⟨k, rfl⟩ : ∃ q, k = q + 1 := ⟨k - 1, by omega⟩
  rw [next_text (one_text hsz h he (by omega) (by omega))]
  rfl
 | ⟨t, true, sub⟩, hr => by
  obtain ⟨rfl, hrs⟩ := rgt_list hr
  intro a tt st k r h he hd ht hk
  rw [dep_eq] at hd
  rw [cnt_eq] at ht hk ⊢
  rw [putL_eq, if_pos rfl, List.append_assoc] at h
  rw [putL_eq, if_pos rfl, List.length_append] at he ⊢
  have hsz : (putsL sub).length ≤ 1099511627776 := by
   have h1 := congrArg List.length h
   rw [List.length_drop, bytesOf_length, List.length_append, List.length_append] at h1
   omega
  obtain ⟨k, rfl⟩ : ∃ q, k = q + 1 := ⟨k - 1, by omega⟩
  rw [next_list (one_list hsz h (by omega) (by omega) (by omega))]
  cases hsub : sub with
  | nil =>
   subst hsub
   have hz : (putsL ([] : List S62)).length = 0 := by simp [putsL]
   rw [if_neg (by omega)]
   simp only [putsL, cnts, List.length_nil, Nat.add_zero]
   rfl
  | cons z zs =>
   rw [← hsub]
   have hp : 1 ≤ (putsL sub).length := by rw [hsub, putsL_cons, List.length_append]; have := putL_pos z; omega
   rw [if_pos (by omega)]
   have h2 := run_items (d := d) sub (fun y hy => run_item hs y (rgts_mem sub y hy hrs)) (by rw [hsub]; simp) (a + (headL 192 (putsL sub).length).length) (tt - 1) st [] k r (drop_more h) (by omega) (by omega) (by omega)
   rw [h2, List.nil_append, show k + 1 - (1 + cnts sub) = k - cnts sub by omega, show tt - ((1 + cnts sub : Nat) : Int) = tt - 1 - (cnts sub : Int) by omega, Nat.add_assoc]
 termination_by x => SizeOf.sizeOf x
 decreasing_by
 have := List.sizeOf_lt_of_mem hy
 simp
 omega
end
end Go.Proofs.Yteoibgpkimlahaa.P
end
section
namespace Go.Proofs.Yteoibgpkimlahaa.P
open Go.RowKit Go.Proofs.YteoibgpkimlahaaW.PrintWords Go.Proofs.YteoibgpkimlahaaW.PrintLast Go.Proofs.YteoibgpkimlahaaW.PrintMore
section
variable {s : ByteArray}
theorem endD_nil : endD s [] = (s.size : Int) := rfl
theorem next_whole {x : S62} {r : List Int} {depth items : Int} (hr : rgt x = true) (h : bytesOf s = putL x ++ r) (hs : s.size ≤ 1099511627776) (hd : (dep x : Int) ≤ depth) (hd2 : dep x ≤ 16) (hc : (cnt x : Int) ≤ items) (hc2 : cnt x ≤ 1024) :
  nextF s depth items = (x, ((putL x).length : Int), 0) := by
 have hlen : (putL x).length ≤ s.size := by
  have := congrArg List.length h
  rw [bytesOf_length, List.length_append] at this
  omega
 have hI : (cnt x : Int) ≤ capI items := by unfold capI; split <;> split <;> omega
 have hD : (dep x : Int) ≤ capD depth := by unfold capD; split <;> omega
 have h1 := run_item hs (d := capD depth) x hr 0 (capI items) [] ((capI items).toNat + 1) r (by rw [List.drop_zero]; exact h) (by rw [endD_nil]; omega) (by rw [List.length_nil]; omega) hI (by omega)
 unfold nextF
 rw [shutThen_nil, Nat.zero_add] at h1
 exact h1
end
end Go.Proofs.Yteoibgpkimlahaa.P
end
section
namespace Go.Proofs.Yteoibgpkimlahaa.P
open Go.RowKit Go.Proofs.YteoibgpkimlahaaW.PrintWords Go.Proofs.YteoibgpkimlahaaW.PrintLast Go.Proofs.YteoibgpkimlahaaW.PrintMore
theorem next_is {s : ByteArray} {depth items : Int} {x : S62} {n e : Int} (hs : s.size ≤ 1099511627776) (h : nextF s depth items = (x, n, e)) : rlp_Next.f s depth items = some (x.f0, x.f1, x.f2, n, e) := by
 unfold rlp_Next.f
 rw [if_pos hs, h]
theorem get_is {s : ByteArray} {depth items : Int} {x : S62} {n e : Int} (hs : s.size ≤ 1099511627776) (h : nextF s depth items = (x, n, e)) :
  rlp_Get.f s depth items = some (if e = 0 then if n < (s.size : Int) then (⟨#[]⟩, false, [], 3) else (x.f0, x.f1, x.f2, 0) else (⟨#[]⟩, false, [], e)) := by
 unfold rlp_Get.f
 rw [next_is hs h, Option.bind_some]
 simp only
 split <;> (try split) <;> rfl
theorem isByte_headL (by_ n : Int) (hb : by_ = 128 ∨ by_ = 192) (h0 : 0 ≤ n) (h1 : n ≤ 1099511627776) : IsByte (headL by_ n) := by
 unfold headL
 have hs := sz_u64 h0 (show n < 18446744073709551616 by omega)
 split
 ·intro b hb2
  rw [List.mem_singleton] at hb2
  omega
 ·intro b hb2
  rcases List.mem_cons.1 hb2 with rfl | hb2
  ·omega
  ·exact digs_byte n b hb2
theorem isByte_puts : ∀ (ys : List S62), (∀ y ∈ ys, IsByte (putL y)) → IsByte (putsL ys)
 | [], _ => by rw [putsL]; intro b hb; cases hb
 | y :: ys, h => by
  rw [putsL_cons]
  intro b hb
  rcases List.mem_append.1 hb with hb | hb
  ·exact h y (by simp) b hb
  ·exact isByte_puts ys (fun z hz => h z (List.mem_cons_of_mem _ hz)) b hb
theorem isByte_put : ∀ (x : S62), cnt x ≤ 1200 → tot x ≤ 6000 → IsByte (putL x)
 | ⟨t, l, sub⟩, hc, ht => by
  rw [cnt_eq] at hc
  rw [tot_eq] at ht
  have hr := putsL_room sub (fun y hy => putL_room y (by have := cnts_mem sub y hy; omega) (by have := tots_mem sub y hy; omega))
  have h := isByte_puts sub (fun y hy => isByte_put y (by have := cnts_mem sub y hy; omega) (by have := tots_mem sub y hy; omega))
  rw [putL_eq]
  split
  ·intro b hb
   rcases List.mem_append.1 hb with hb | hb
   ·exact isByte_headL 192 _ (.inr rfl) (by omega) (by omega) b hb
   ·exact h b hb
  ·split
   ·exact bytesOf_byte t
   ·intro b hb
    rcases List.mem_append.1 hb with hb | hb
    ·exact isByte_headL 128 _ (.inl rfl) (by omega) (by omega) b hb
    ·exact bytesOf_byte t b hb
theorem bytesOf_put (x : S62) (h1 : cnt x ≤ 1200) (h2 : tot x ≤ 6000) : bytesOf (strOfNums (putL x)) = putL x := bytesOf_str _ (isByte_put x h1 h2)
end Go.Proofs.Yteoibgpkimlahaa.P
end
