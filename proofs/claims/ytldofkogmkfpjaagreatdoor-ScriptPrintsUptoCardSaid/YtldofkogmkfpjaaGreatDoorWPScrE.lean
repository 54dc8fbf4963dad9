/-
  Layer 29 (script), plainly: the program's reading and the document's are one.
-/
import Derived.Test.YtldofkogmkfpjaaGreatDoorWPScrD
import Derived.Test.YtldofkogmkfpjaaGreatDoorWPDecLaw
namespace Go.Sy
open Go.Ev
set_option linter.unusedVariables false
set_option linter.unusedSimpArgs false
set_option maxRecDepth 20000

/-! ### Atoi of what Itoa gives -/
theorem parse10_fold : ∀ (l : List UInt8) (acc : Nat), l.all isDig = true → l.foldl (fun s c => s * 10 + dig c) (acc : Int) ≤ 18446744073709551615 → Lib.parseUint10 acc l = .ok (l.foldl (fun s c => s * 10 + dig c) (acc : Int)).toNat
  | [], acc, _, _ => by
    show _ = Lib.NumEnd.ok (Int.toNat ((acc : Nat) : Int))
    rw [Int.toNat_natCast]; rfl
  | c :: r, acc, h, hb => by
    rw [List.all_cons, Bool.and_eq_true] at h
    have hc := h.1
    have hd := dig_in hc
    rw [List.foldl_cons] at hb
    have hm := fold_mono r ((acc : Int) * 10 + dig c) h.2 (by omega)
    unfold isDig at hc
    simp only [Bool.and_eq_true, decide_eq_true_eq] at hc
    have ed : dig c = ((c.toNat - 48 : Nat) : Int) := by unfold dig; omega
    have e : (acc : Int) * 10 + dig c = ((acc * 10 + (c.toNat - 48) : Nat) : Int) := by rw [ed]; omega
    have hm2 : ((acc * 10 + (c.toNat - 48) : Nat) : Int) ≤ 18446744073709551615 := by rw [← e]; exact Int.le_trans hm hb
    rw [Lib.parseUint10, if_pos hc, if_neg (by omega), if_neg (by omega), List.foldl_cons, e]
    rw [e] at hb
    exact parse10_fold r _ h.2 hb
theorem mag_dec (n : Nat) (h : n < 18446744073709551616) : Lib.parseMag (Lib.decDigits n) = .ok n := by
  obtain ⟨h1, h2, h3, _⟩ := dec_all n
  unfold Lib.parseMag
  rw [if_neg h3]
  have h2' : (Lib.decDigits n).foldl (fun s c => s * 10 + dig c) ((0 : Nat) : Int) = n := h2
  have := parse10_fold (Lib.decDigits n) 0 h1 (by rw [h2']; omega)
  rw [this, h2', Int.toNat_natCast]
theorem dec_head (n : Nat) : ∃ c r, Lib.decDigits n = c :: r ∧ isDig c = true := by
  obtain ⟨h1, _, h3, _⟩ := dec_all n
  cases e : Lib.decDigits n with
  | nil => exact absurd e h3
  | cons c r =>
    rw [e, List.all_cons, Bool.and_eq_true] at h1
    exact ⟨c, r, rfl, h1.1⟩
theorem atoi_itoa {v : Int} (h : isH v) : atoiB (Lib.itoa v) = true ∧ atoiV (Lib.itoa v) = v := by
  have key : Lib.atoiAll (Lib.itoa v) = .ok v := by
    unfold isH at h
    rcases Int.lt_or_le v 0 with g | g
    · rw [itoa_neg g, Lib.atoiAll_minus, mag_dec _ (by omega)]
      show (if 9223372036854775808 < (-v).toNat then Lib.NumEnd.range else .ok (-((-v).toNat : Int))) = _
      rw [if_neg (by omega)]
      congr 1
      omega
    · rw [itoa_pos g]
      obtain ⟨c, r, e, hc⟩ := dec_head v.toNat
      have hm := mag_dec v.toNat (by omega)
      rw [e] at hm ⊢
      unfold isDig at hc
      simp only [Bool.and_eq_true, decide_eq_true_eq] at hc
      rw [Lib.atoiAll_plain c r (by omega) (by omega), hm]
      show (if 9223372036854775808 ≤ v.toNat then Lib.NumEnd.range else .ok (v.toNat : Int)) = _
      rw [if_neg (by omega)]
      congr 1
      omega
  unfold atoiB atoiV
  rw [key]
  exact ⟨rfl, rfl⟩

/-! ### the words of a request -/
theorem gd_app1 {α : Type} {l l' : List α} {i : Nat} {d : α} (h : i < l.length) : (l ++ l').getD i d = l.getD i d := by
  rw [List.getD_eq_getElem?_getD, List.getElem?_append_left h, ← List.getD_eq_getElem?_getD]
theorem gd_app2 {α : Type} {l l' : List α} {i : Nat} {d : α} (h : l.length ≤ i) : (l ++ l').getD i d = l'.getD (i - l.length) d := by
  rw [List.getD_eq_getElem?_getD, List.getElem?_append_right h, ← List.getD_eq_getElem?_getD]
theorem getD_map_lt {α β : Type} (f : α → β) (l : List α) (i : Nat) (a : α) (b : β) (h : i < l.length) : (l.map f).getD i b = f (l.getD i a) := by
  rw [List.getD_eq_getElem?_getD, List.getElem?_map, List.getD_eq_getElem?_getD, List.getElem?_eq_getElem h]; rfl
theorem words_at {q : Rq} (h : RqOk q) : (wordsR q).length = 18 ∧ (∀ i, i < 14 → (wordsR q).getD i [] = Lib.itoa (q.n.getD i 0)) ∧ (∀ i, i < 3 → (wordsR q).getD (14 + i) [] = Lib.itoa (q.v.getD i 0)) ∧ (wordsR q).getD 17 [] = 120 :: hexB q.d := by
  obtain ⟨hn, hv, _, _, _⟩ := h
  have ln : (q.n.map Lib.itoa).length = 14 := by rw [List.length_map, hn]
  have lv : (q.v.map Lib.itoa).length = 3 := by rw [List.length_map, hv]
  unfold wordsR
  refine ⟨by rw [List.length_append, List.length_append, ln, lv]; rfl, fun i hi => ?_, fun i hi => ?_, ?_⟩
  · rw [gd_app1 (by omega), getD_map_lt Lib.itoa q.n i 0 [] (by omega)]
  · rw [gd_app2 (by omega), ln, show 14 + i - 14 = i by omega, gd_app1 (by omega), getD_map_lt Lib.itoa q.v i 0 [] (by omega)]
  · rw [gd_app2 (by omega), ln, gd_app2 (by omega), lv]; rfl
theorem getD_in {p : Int → Prop} {l : List Int} (h : ∀ x ∈ l, p x) {i : Nat} (hi : i < l.length) : p (l.getD i 0) := by
  rw [List.getD_eq_getElem?_getD, List.getElem?_eq_getElem hi]
  exact h _ (List.getElem_mem hi)
theorem riGo_all (W : List (List UInt8)) (n : List Int) (hn : n.length = 14) (hW : ∀ i, i < 14 → atoiB (W.getD i []) = true ∧ atoiV (W.getD i []) = n.getD i 0) :
    ∀ (k : Nat), k ≤ 14 → ∀ out : List Int, out.length = 14 → (∀ i, i < 14 - k → out.getD i 0 = n.getD i 0) → riGo W k out = (n, true)
  | 0, _, out, ho, h => by
    have e : out = n := List.ext_getElem (by omega) fun i h1 h2 => by
      have := h i (by omega)
      rwa [List.getD_eq_getElem?_getD, List.getElem?_eq_getElem h1, List.getD_eq_getElem?_getD, List.getElem?_eq_getElem h2] at this
    rw [riGo, e]
  | k + 1, hk, out, ho, h => by
    obtain ⟨h1, h2⟩ := hW (13 - k) (by omega)
    rw [riGo, h1, h2, cond_true]
    refine riGo_all W n hn hW k (by omega) _ (by rw [List.length_set]; exact ho) fun i hi => ?_
    rw [List.getD_eq_getElem?_getD, List.getElem?_set]
    by_cases e : 13 - k = i
    · subst e
      rw [if_pos rfl, if_pos (by omega)]; rfl
    · rw [if_neg e, ← List.getD_eq_getElem?_getD]
      exact h i (by omega)
theorem wv_I {v : Int} (h : isI v) : wVal (wHi v) (wLo v) = v := by
  unfold wVal wHi wLo; unfold isI at h; omega
theorem list3 {l : List Int} (h : l.length = 3) : l = [l.getD 0 0, l.getD 1 0, l.getD 2 0] := by
  match l, h with
  | [a, b, c], _ => rfl
theorem list14 {l : List Int} (h : l.length = 14) : l = [l.getD 0 0, l.getD 1 0, l.getD 2 0, l.getD 3 0, l.getD 4 0, l.getD 5 0, l.getD 6 0, l.getD 7 0, l.getD 8 0, l.getD 9 0, l.getD 10 0, l.getD 11 0, l.getD 12 0, l.getD 13 0] := by
  match l, h with
  | [a0, a1, a2, a3, a4, a5, a6, a7, a8, a9, a10, a11, a12, a13], _ => rfl
theorem lxN_self {n : List Int} (h : n.length = 14) (h4 : n.getD 4 0 = 0 ∨ n.getD 4 0 = 1) : lxN n (decide (n.getD 4 0 = 1)) = n := by
  have e : flagI (decide (n.getD 4 0 = 1)) = n.getD 4 0 := by
    rcases h4 with h4 | h4 <;> rw [h4] <;> rfl
  unfold lxN
  rw [e]
  exact (list14 h).symm
/-- A request's element. -/
def rowQ (q : Rq) : List D := [.i (q.n.getD 0 0), .i (q.n.getD 1 0), .i (q.n.getD 2 0), .i (wHi (q.v.getD 0 0)), .i (wLo (q.v.getD 0 0)), .i (q.n.getD 8 0), .i (q.n.getD 9 0), .i (q.n.getD 10 0), .i (q.n.getD 3 0), .b (decide (q.n.getD 4 0 = 1)), .i (q.n.getD 5 0), .i (q.n.getD 6 0), .i (q.n.getD 7 0), .l (byI q.d), .i (wHi (q.v.getD 1 0)), .i (wLo (q.v.getD 1 0)), .i (wHi (q.v.getD 2 0)), .i (wLo (q.v.getD 2 0)), .i (q.n.getD 11 0), .i (q.n.getD 12 0), .i (q.n.getD 13 0)]
theorem wVs {q : Rq} (h : RqOk q) : wV3 [wHi (q.v.getD 0 0), wLo (q.v.getD 0 0), wHi (q.v.getD 1 0), wLo (q.v.getD 1 0), wHi (q.v.getD 2 0), wLo (q.v.getD 2 0)] = q.v := by
  have hI : ∀ i, i < 3 → isI (q.v.getD i 0) := fun i hi => getD_in h.vI (by rw [h.v]; exact hi)
  show [wVal (wHi _) (wLo _), wVal (wHi _) (wLo _), wVal (wHi _) (wLo _)] = _
  rw [wv_I (hI 0 (by decide)), wv_I (hI 1 (by decide)), wv_I (hI 2 (by decide))]
  exact (list3 h.v).symm
theorem lnR_rowQ {q : Rq} (h : RqOk q) : lnR (rowQ q) = lineR q ++ [10] := by
  have e1 : rN (rowQ q) = lxN q.n (decide (q.n.getD 4 0 = 1)) := rfl
  have e2 : rW (rowQ q) = [wHi (q.v.getD 0 0), wLo (q.v.getD 0 0), wHi (q.v.getD 1 0), wLo (q.v.getD 1 0), wHi (q.v.getD 2 0), wLo (q.v.getD 2 0)] := rfl
  have e3 : rD (rowQ q) = byI q.d := rfl
  unfold lnR lnQ
  rw [e1, e2, e3, lxN_self h.n h.lax, wVs h, toB_byI]
theorem rd_line {q : Rq} (h : RqOk q) : rdB (lineR q) = true ∧ rdR (lineR q) = rowQ q := by
  obtain ⟨wl, wn, wv, wd⟩ := words_at h
  have hri : riP (splitW (lineR q)) = (q.n, true) := by
    rw [words_split]
    unfold riP
    refine riGo_all _ q.n h.n (fun i hi => ?_) 14 (Nat.le_refl _) _ rfl fun i hi => by omega
    rw [wn i hi]
    exact atoi_itoa (getD_in h.nH (by rw [h.n]; exact hi))
  have hw : ∀ i, i < 3 → pE ((wordsR q).getD (14 + i) []) = 0 ∧ pV ((wordsR q).getD (14 + i) []) = q.v.getD i 0 := fun i hi => by
    have hf := itoa_form (q.v.getD i 0)
    have hI : isI (q.v.getD i 0) := getD_in h.vI (by rw [h.v]; exact hi)
    have := parse_in hf.1 (by rw [hf.2]; exact hI)
    rw [wv i hi]
    rw [hf.2] at this
    exact this
  have w0 := hw 0 (by decide)
  have w1 := hw 1 (by decide)
  have w2 := hw 2 (by decide)
  simp only [Nat.add_zero, show (14 : Nat) + 1 = 15 from rfl, show (14 : Nat) + 2 = 16 from rfl] at w0 w1 w2
  have hrw : rwP (splitW (lineR q)) = ([wHi (q.v.getD 0 0), wLo (q.v.getD 0 0), wHi (q.v.getD 1 0), wLo (q.v.getD 1 0), wHi (q.v.getD 2 0), wLo (q.v.getD 2 0)], true) := by
    rw [words_split, rwP_eq, w0.1, w0.2, w1.1, w1.2, w2.1, w2.2]; rfl
  have htp : Lib.trimPrefix ((splitW (lineR q)).getD 17 []) [120] = hexB q.d := by rw [words_split, wd]; rfl
  have hhp : Lib.hasPrefix ((splitW (lineR q)).getD 17 []) [120] = true := by rw [words_split, wd]; rfl
  have hun : unB (hexB q.d) = true ∧ unD (hexB q.d) = q.d := by
    unfold unB unD
    rw [unh_hex]
    exact ⟨rfl, rfl⟩
  have hP : rdP (lineR q) = true := by
    unfold rdP
    rw [hri, hrw, htp, hhp, hun.1, words_split, wl]; rfl
  have hN : rdN (lineR q) = q.n := by unfold rdN; rw [hP, hri]; rfl
  have hW : rdW (lineR q) = [wHi (q.v.getD 0 0), wLo (q.v.getD 0 0), wHi (q.v.getD 1 0), wLo (q.v.getD 1 0), wHi (q.v.getD 2 0), wLo (q.v.getD 2 0)] := by unfold rdW; rw [hP, hrw]; rfl
  have hD : rdD (lineR q) = q.d := by unfold rdD; rw [hP, htp]; exact hun.2
  have hX : rdX (lineR q) = decide (q.n.getD 4 0 = 1) := by unfold rdX; rw [hP, hN]; rfl
  constructor
  · unfold rdB
    rw [hP, hN, hW, hD, hX, lxN_self h.n h.lax]
    unfold lnQ
    rw [wVs h, toB_byI, decide_eq_true rfl]; rfl
  · unfold rdR
    rw [hN, hW, hD, hX]; rfl
/-! ### what is read is a request's line -/
/-! ### texts -/
/-- The request of an element, and the element that is read of its line. -/
def qR (r : List D) : Rq := ⟨rN r, wV3 (rW r), toB (rD r)⟩
def nrR (r : List D) : List D := rowQ (qR r)
theorem qR_ok {r : List D} (h : okR r) : RqOk (qR r) := ⟨rfl, rfl, qOk_n h, qOk_v h, by
  show flagI (r.getD 9 (.i 0)).toB = 0 ∨ flagI (r.getD 9 (.i 0)).toB = 1
  unfold flagI
  split
  · exact .inr rfl
  · exact .inl rfl⟩
theorem lnR_q (r : List D) : lnR r = lineR (qR r) ++ [10] := rfl
theorem lnR_nr {r : List D} (h : okR r) : lnR (nrR r) = lnR r := lnR_rowQ (qR_ok h)
theorem tw_line {l t : List UInt8} (h : ∀ c ∈ l, c ≠ 10) : (l ++ 10 :: t).takeWhile (· ≠ 10) = l ∧ ((l ++ 10 :: t).dropWhile (· ≠ 10)).drop 1 = t := by
  induction l with
  | nil => simp
  | cons c l ih =>
    have hc := h c (List.mem_cons_self ..)
    obtain ⟨h1, h2⟩ := ih fun x hx => h x (List.mem_cons_of_mem _ hx)
    constructor
    · rw [List.cons_append, List.takeWhile_cons, h1]; simp [hc]
    · rw [List.cons_append, List.dropWhile_cons]; simp only [hc, ne_eq, not_false_eq_true, decide_true, if_true]
      exact h2
theorem psGo_line {q : Rq} (hq : RqOk q) (k : Nat) (t : List UInt8) (n : Nat) (out : List (List D)) : psGo (k + 1) (lineR q ++ 10 :: t) n out = psGo k t (n + 1) (out ++ [rowQ q]) := by
  obtain ⟨h1, h2⟩ := tw_line (t := t) (line_no10 q)
  rw [psGo, if_neg (by simp), h1, h2, (rd_line hq).1, (rd_line hq).2, decide_eq_true (by simp)]; rfl
theorem psGo_prn : ∀ (L : List (List D)), allR L → ∀ (t : List UInt8) (k n : Nat) (out : List (List D)), (prnQ L ++ t).length < k →
    ∃ k', t.length < k' ∧ psGo k (prnQ L ++ t) n out = psGo k' t (n + L.length) (out ++ L.map nrR)
  | [], _, t, k, n, out, hk => ⟨k, hk, by rw [List.map_nil, List.append_nil]; rfl⟩
  | r :: L, h, t, k, n, out, hk => by
    have ho := h r (List.mem_cons_self ..)
    have e : prnQ (r :: L) ++ t = lineR (qR r) ++ 10 :: (prnQ L ++ t) := by
      show (lnR r ++ prnQ L) ++ t = _
      rw [lnR_q]; simp
    rw [e] at hk ⊢
    cases k with
    | zero => omega
    | succ k =>
      rw [List.length_append, List.length_cons] at hk
      obtain ⟨k', h1, h2⟩ := psGo_prn L (fun x hx => h x (List.mem_cons_of_mem _ hx)) t k (n + 1) (out ++ [nrR r]) (by omega)
      refine ⟨k', h1, ?_⟩
      rw [psGo_line (qR_ok ho)]
      refine h2.trans ?_
      rw [List.length_cons, List.map_cons, List.append_assoc, Nat.add_assoc, Nat.add_comm 1]; rfl
theorem psP_prn {L : List (List D)} (h : allR L) : psP (prnQ L) = (L.map nrR, 0) := by
  obtain ⟨k', h1, h2⟩ := psGo_prn L h [] ((prnQ L).length + 1) 1 [] (by rw [List.append_nil]; omega)
  unfold psP
  rw [List.append_nil] at h2
  rw [h2]
  cases k' with
  | zero => exact absurd h1 (by simp)
  | succ k' => rw [psGo, if_pos rfl, List.nil_append]
/-! ### what is read can be told -/
theorem rowQ_ok {q : Rq} (h : RqOk q) (hd : q.d.length ≤ 100000000) : okR (rowQ q) := by
  have e1 : rN (rowQ q) = q.n := by
    have : rN (rowQ q) = lxN q.n (decide (q.n.getD 4 0 = 1)) := rfl
    rw [this, lxN_self h.n h.lax]
  have e2 : rW (rowQ q) = [wHi (q.v.getD 0 0), wLo (q.v.getD 0 0), wHi (q.v.getD 1 0), wLo (q.v.getD 1 0), wHi (q.v.getD 2 0), wLo (q.v.getD 2 0)] := rfl
  have e3 : rD (rowQ q) = byI q.d := rfl
  have hI : ∀ i, i < 3 → isI (q.v.getD i 0) := fun i hi => getD_in h.vI (by rw [h.v]; exact hi)
  unfold okR
  rw [e1, e2, e3]
  refine ⟨?_, words_I (hI 0 (by decide)), words_I (hI 1 (by decide)), words_I (hI 2 (by decide)), bytesOk_byI _, by rw [byI_len]; exact hd⟩
  rw [List.all_eq_true]
  exact fun x hx => decide_eq_true (h.nH x hx)
theorem nrR_ok {r : List D} (h : okR r) : okR (nrR r) := rowQ_ok (qR_ok h) (by show (toB (rD r)).length ≤ _; rw [toB_len]; exact h.2.2.2.2.2)
end Go.Sy
