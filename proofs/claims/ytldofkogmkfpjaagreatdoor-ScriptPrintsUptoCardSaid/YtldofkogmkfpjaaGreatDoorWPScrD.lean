/-
  Layer 29 (script), plainly: what the walks need.
-/
import Derived.Test.YtldofkogmkfpjaaGreatDoorWPScrC
import Derived.Test.YtldofkogmkfpjaaGreatDoorWSyJoin
namespace Go.Sy
open Go.Ev
set_option linter.unusedVariables false
set_option linter.unusedSimpArgs false
set_option maxRecDepth 20000

theorem retV {v w : SV} (h : v = w) : (ret v : Option Out) = some ⟨w, []⟩ := by rw [h]
/-! ### bytes, texts -/
theorem bytesI_snoc2 (a : List UInt8) (c d : UInt8) : bytesI (tx a) ++ [(c.toNat : Int), (d.toNat : Int)] = bytesI (tx (a ++ [c, d])) := by simp [bytesI, tx]
theorem bytesI_appL (a b : List UInt8) : bytesI (tx a) ++ bytesI (tx b) = bytesI (tx (a ++ b)) := by simp [bytesI, tx]
theorem bytesI_lenL (a : List UInt8) : (bytesI (tx a)).length = a.length := by simp [bytesI, tx]
theorem textOf_bytesL (r : List UInt8) : textOf (bytesI (tx r)) = tx r := by
  unfold textOf bytesI
  rw [List.map_map, tx_toList]
  show ByteArray.mk (r.map fun x : UInt8 => UInt8.ofNat (Int.toNat (x.toNat : Int))).toArray = _
  have : (r.map fun x : UInt8 => UInt8.ofNat (Int.toNat (x.toNat : Int))) = r := by
    conv => rhs; rw [← List.map_id r]
    apply List.map_congr_left
    intro x _
    rw [Int.toNat_natCast]
    exact UInt8.ofNat_toNat
  rw [this]; rfl
theorem dig16 : ∀ d < 16, (bytesI (tx [48, 49, 50, 51, 52, 53, 54, 55, 56, 57, 97, 98, 99, 100, 101, 102])).getD d 0 = ((hexc d).toNat : Int) := by decide
theorem digX16 : ∀ d < 16, (tx [48, 49, 50, 51, 52, 53, 54, 55, 56, 57, 97, 98, 99, 100, 101, 102]).extract d (d + 1) = tx [hexc d] := by
  intro d hd
  rw [tx_extract]
  refine congrArg tx ?_
  revert d
  decide
theorem idx16 : ∀ n < 256, Lib.indexByte [48, 49, 50, 51, 52, 53, 54, 55, 56, 57, 97, 98, 99, 100, 101, 102] (UInt8.ofNat n) = if isHex (UInt8.ofNat n) then hexd (UInt8.ofNat n) else -1 := by decide
theorem idxH (c : UInt8) : Lib.indexByte [48, 49, 50, 51, 52, 53, 54, 55, 56, 57, 97, 98, 99, 100, 101, 102] c = if isHex c then hexd c else -1 := by
  have := idx16 c.toNat c.toNat_lt
  rw [UInt8.ofNat_toNat] at this
  exact this
theorem hexd_pos {c : UInt8} (h : isHex c = true) : 0 ≤ hexd c := by
  have hc := c.toNat_lt
  unfold isHex isDig at h
  unfold hexd
  rw [Bool.or_eq_true, Bool.and_eq_true, Bool.and_eq_true] at h
  simp only [decide_eq_true_eq] at h
  split <;> omega
theorem two16 : ∀ a < 16, ∀ b < 16, IntKind.u8.wrap (orI .i64 (shlI .i64 ((a : Nat) : Int) 4) ((b : Nat) : Int)) = ((a * 16 + b : Nat) : Int) := by decide +kernel
theorem hexB_snoc (a : List UInt8) (c : UInt8) : hexB (a ++ [c]) = hexB a ++ [hexc (c.toNat / 16), hexc (c.toNat % 16)] := by
  unfold hexB
  rw [List.flatMap_append]; rfl
theorem hexB_take {m : List Nat} {i : Nat} (h : i < m.length) (hm : ∀ x ∈ m, x < 256) : hexB (toB (castL (m.take (i + 1)))) = hexB (toB (castL (m.take i))) ++ [hexc (nthN m i / 16), hexc (nthN m i % 16)] := by
  have hx : m[i] < 256 := hm _ (List.getElem_mem h)
  rw [List.take_succ_eq_append_getElem h, nthN_lt h, ← castL_append]
  unfold toB
  rw [List.map_append]
  show hexB (_ ++ [UInt8.ofNat (Int.toNat ((m[i] : Nat) : Int))]) = _
  rw [hexB_snoc, Int.toNat_natCast, show (UInt8.ofNat m[i]).toNat = m[i] by rw [UInt8.toNat_ofNat']; omega]
theorem push_rowsN {α : Type} {b nl : Bool} {l : List (List D)} {x : List D} {z : Nat} {K : Option α} (hr : roomB (l.length + 1) z = true) :
    (bif b == b && true && decide (l.length ≤ l.length) && roomB (l.length + 1) z then bif nl == nl && decide (l.length + 1 = (List.take l.length l ++ [x]).length) then K else none else none) = K := by
  rw [hr, List.take_length]
  cases b <;> cases nl <;> simp
theorem push_intsN {α : Type} {b nl : Bool} {l m : List Int} {z n : Nat} {K : Option α} (hr : roomB (l.length + n) z = true) (hm : m.length = n) :
    (bif b == b && true && decide (l.length ≤ l.length) && roomB (l.length + n) z then bif nl == nl && decide (l.length + n = (List.take l.length l ++ m).length) then K else none else none) = K := by
  subst hm
  rw [hr, List.take_length]
  cases b <;> cases nl <;> simp
theorem room_of {n z : Nat} (h : (n + n / 4 + 192) * z ≤ 281474976710656) (h2 : n ≤ 9223372036854775807) : roomB n z = true := by
  unfold roomB
  rw [Bool.and_eq_true, decide_eq_true_eq, decide_eq_true_eq]
  exact ⟨h, h2⟩
/-! ### digits as bytes -/
theorem unh_app : ∀ (a l d : List UInt8), unhP a = some d → unhP (a ++ l) = (unhP l).map (d ++ ·)
  | [], l, d, h => by cases h; simp
  | [_], l, d, h => by cases h
  | x :: y :: a, l, d, h => by
    rw [unhP] at h
    split at h
    · rename_i hc
      obtain ⟨e, he, rfl⟩ := Option.map_eq_some_iff.1 h
      rw [List.cons_append, List.cons_append, unhP, if_pos hc, unh_app a l e he, Option.map_map]
      rfl
    · cases h
/-! ### words, lines -/
theorem joinD_rowW (ws : List (List UInt8)) : joinD (rowW ws) (tx [32]) = joinW ws := by
  have e : ((rowW ws).map fun r => (rowS r).data.toList) = ws := by
    unfold rowW
    rw [List.map_map]
    conv => rhs; rw [← List.map_id ws]
    apply List.map_congr_left
    intro w _
    exact tx_toList w
  unfold joinD Lib.join
  rw [e]; rfl
theorem joinW_len : ∀ ws : List (List UInt8), (joinW ws).length ≤ (ws.map fun w => w.length + 1).sum
  | [] => by simp [joinW, List.intercalate]
  | x :: ws => by
    unfold joinW
    rw [inter_cons, List.length_append, List.length_flatMap, List.map_cons, List.sum_cons]
    simp only [List.length_cons]
    omega
theorem sum_le {α : Type} (f : α → Nat) (b : Nat) : ∀ l : List α, (∀ x ∈ l, f x ≤ b) → (l.map f).sum ≤ l.length * b
  | [], _ => by simp
  | x :: l, h => by
    have h1 := h x (List.mem_cons_self ..)
    have h2 := sum_le f b l fun y hy => h y (List.mem_cons_of_mem _ hy)
    rw [List.map_cons, List.sum_cons, List.length_cons, Nat.succ_mul]
    omega
theorem line_len {n v : List Int} {d : List UInt8} (hn : n.length = 14) (hv : v.length = 3) (h1 : ∀ x ∈ n, isI x) (h2 : ∀ x ∈ v, isI x) : (lineR ⟨n, v, d⟩).length ≤ 2 * d.length + 800 := by
  have h := joinW_len (wordsR ⟨n, v, d⟩)
  have e : ((wordsR ⟨n, v, d⟩).map fun w => w.length + 1).sum = ((n.map Lib.itoa).map fun w => w.length + 1).sum + (((v.map Lib.itoa).map fun w => w.length + 1).sum + (2 * d.length + 2)) := by
    unfold wordsR
    rw [List.map_append, List.sum_append, List.map_append, List.sum_append]
    simp [hexB_len]
  have b1 := sum_le (fun w : List UInt8 => w.length + 1) 42 (n.map Lib.itoa) (fun w hw => by
    obtain ⟨x, hx, rfl⟩ := List.mem_map.1 hw
    have := itoa_len (h1 x hx); omega)
  have b2 := sum_le (fun w : List UInt8 => w.length + 1) 42 (v.map Lib.itoa) (fun w hw => by
    obtain ⟨x, hx, rfl⟩ := List.mem_map.1 hw
    have := itoa_len (h2 x hx); omega)
  rw [List.length_map] at b1 b2
  unfold lineR
  omega
theorem rowW_len (ws : List (List UInt8)) : (rowW ws).length = ws.length := List.length_map _
theorem rowW_snoc (ws : List (List UInt8)) (w : List UInt8) : rowW ws ++ [[D.s (tx w)]] = rowW (ws ++ [w]) := by unfold rowW; rw [List.map_append]; rfl
theorem rowS_rowW (ws : List (List UInt8)) : ((rowW ws).map fun r => (rowS r).data.toList) = ws := by
  unfold rowW
  rw [List.map_map]
  conv => rhs; rw [← List.map_id ws]
  apply List.map_congr_left
  intro w _
  exact tx_toList w
theorem rowW_at {ws : List (List UInt8)} {i : Nat} (h : i < ws.length) : (((rowW ws).getD i []).getD 0 (D.i 0)).toS = tx (ws.getD i []) := by
  have e1 : (rowW ws).getD i [] = [D.s (tx (ws.getD i []))] := by
    unfold rowW
    rw [List.getD_eq_getElem?_getD (l := ws.map _), List.getElem?_map, List.getElem?_eq_getElem h, List.getD_eq_getElem?_getD (l := ws), List.getElem?_eq_getElem h]; rfl
  rw [e1]; rfl
theorem rows_at {L : List (List D)} {i : Nat} (h : i < L.length) : (L.map fun r => (rowS r).data.toList).getD i [] = (((L.getD i []).getD 0 (D.i 0)).toS).data.toList := by
  have e1 : L.getD i [] = L[i] := by rw [List.getD_eq_getElem?_getD, List.getElem?_eq_getElem h]; rfl
  rw [e1, List.getD_eq_getElem?_getD, List.getElem?_map, List.getElem?_eq_getElem h]; rfl
theorem prnQ_take {L : List (List D)} {i : Nat} (h : i < L.length) : prnQ (L.take (i + 1)) = prnQ (L.take i) ++ lnR (L.getD i []) := by
  unfold prnQ
  rw [List.take_succ_eq_append_getElem h, List.flatMap_append, List.getD_eq_getElem?_getD, List.getElem?_eq_getElem h]
  simp
theorem prnQ_le (L : List (List D)) (i : Nat) : (prnQ (L.take i)).length ≤ (prnQ L).length := by
  unfold prnQ
  conv => rhs; rw [← List.take_append_drop i L, List.flatMap_append, List.length_append]
  omega
theorem allR_at {L : List (List D)} {i : Nat} (h : allR L) (hi : i < L.length) : okR (L.getD i []) := by
  rw [List.getD_eq_getElem?_getD, List.getElem?_eq_getElem hi]
  exact h _ (List.getElem_mem hi)
/-! ### numbers of a line -/
theorem riGo_H (W : List (List UInt8)) : ∀ (k : Nat) (out : List Int), (∀ x ∈ out, isH x) → ∀ x ∈ (riGo W k out).1, isH x
  | 0, out, h => h
  | k + 1, out, h => by
    unfold riGo
    cases hb : atoiB (W.getD (13 - k) []) with
    | true =>
      refine riGo_H W k _ fun x hx => ?_
      rcases List.mem_or_eq_of_mem_set hx with hx | rfl
      · exact h x hx
      · exact atoiV_in hb
    | false => exact h
theorem getD_all {p : Int → Prop} {l : List Int} (h : ∀ x ∈ l, p x) (h0 : p 0) (i : Nat) : p (l.getD i 0) := by
  rw [List.getD_eq_getElem?_getD]
  cases e : l[i]? with
  | none => exact h0
  | some x => exact h x (List.mem_of_getElem? e)
theorem isH0 : isH 0 := by unfold isH; omega
theorem isW0 : isW 0 := by unfold isW; omega
theorem riP_H (W : List (List UInt8)) (i : Nat) : isH ((riP W).1.getD i 0) := getD_all (riGo_H W 14 _ fun x hx => by rw [List.eq_of_mem_replicate hx]; exact isH0) isH0 i
theorem pV_in (l : List UInt8) : isH (wHi (pV l)) ∧ isW (wLo (pV l)) := by
  have h : isI (pV l) := by
    unfold pV clip
    split
    · split
      · assumption
      · unfold isI; omega
    · unfold isI; omega
  unfold isI at h
  unfold isH isW wHi wLo
  omega
theorem rwP_eq (W : List (List UInt8)) : rwP W =
    bif decide (pE (W.getD 14 []) = 0) then
      bif decide (pE (W.getD 15 []) = 0) then
        bif decide (pE (W.getD 16 []) = 0) then ([wHi (pV (W.getD 14 [])), wLo (pV (W.getD 14 [])), wHi (pV (W.getD 15 [])), wLo (pV (W.getD 15 [])), wHi (pV (W.getD 16 [])), wLo (pV (W.getD 16 []))], true)
        else ([wHi (pV (W.getD 14 [])), wLo (pV (W.getD 14 [])), wHi (pV (W.getD 15 [])), wLo (pV (W.getD 15 [])), 0, 0], false)
      else ([wHi (pV (W.getD 14 [])), wLo (pV (W.getD 14 [])), 0, 0, 0, 0], false)
    else ([0, 0, 0, 0, 0, 0], false) := rfl
theorem rwP_in (W : List (List UInt8)) : (isH ((rwP W).1.getD 0 0) ∧ isW ((rwP W).1.getD 1 0)) ∧ (isH ((rwP W).1.getD 2 0) ∧ isW ((rwP W).1.getD 3 0)) ∧ (isH ((rwP W).1.getD 4 0) ∧ isW ((rwP W).1.getD 5 0)) := by
  rw [rwP_eq]
  have z : isH 0 ∧ isW 0 := ⟨isH0, isW0⟩
  cases decide (pE (W.getD 14 []) = 0) with
  | false => exact ⟨z, z, z⟩
  | true =>
    cases decide (pE (W.getD 15 []) = 0) with
    | false => exact ⟨pV_in _, z, z⟩
    | true =>
      cases decide (pE (W.getD 16 []) = 0) with
      | false => exact ⟨pV_in _, pV_in _, z⟩
      | true => exact ⟨pV_in _, pV_in _, pV_in _⟩
theorem unh_len : ∀ l : List UInt8, 2 * (unD l).length ≤ l.length
  | [] => by simp [unD, unhP]
  | [_] => by simp [unD, unhP]
  | x :: y :: l => by
    have ih := unh_len l
    unfold unD at ih ⊢
    rw [unhP]
    split
    · cases h : unhP l with
      | none => simp
      | some d => rw [h] at ih; simp at ih ⊢; omega
    · simp
/-! ### lines of a text -/
theorem cut_in {t : List UInt8} (h : (10 : UInt8) ∈ t) : Lib.indexByte t 10 = (t.takeWhile (· ≠ 10)).length ∧ t.take (t.takeWhile (· ≠ 10)).length = t.takeWhile (· ≠ 10) ∧ t.drop ((t.takeWhile (· ≠ 10)).length + 1) = (t.dropWhile (· ≠ 10)).drop 1 := by
  induction t with
  | nil => cases h
  | cons c t ih =>
    by_cases hc : c = 10
    · subst hc
      simp [Lib.indexByte]
    · have hm : (10 : UInt8) ∈ t := by
        rcases List.mem_cons.1 h with e | e
        · exact absurd e.symm hc
        · exact e
      obtain ⟨h1, h2, h3⟩ := ih hm
      have hd : decide (c ≠ 10) = true := decide_eq_true hc
      have t1 : (c :: t).takeWhile (fun x => decide (x ≠ 10)) = c :: t.takeWhile (fun x => decide (x ≠ 10)) := by rw [List.takeWhile_cons]; simp [hc]
      have t2 : (c :: t).dropWhile (fun x => decide (x ≠ 10)) = t.dropWhile (fun x => decide (x ≠ 10)) := by rw [List.dropWhile_cons]; simp [hc]
      rw [t1, t2, List.length_cons]
      refine ⟨?_, ?_, ?_⟩
      · rw [Lib.indexByte, if_neg (by simpa using hc), h1, if_neg (by simp)]; omega
      · rw [List.take_succ_cons, h2]
      · rw [List.drop_succ_cons, h3]
theorem cut_out {t : List UInt8} (h : (10 : UInt8) ∉ t) : Lib.indexByte t 10 = -1 ∧ t.takeWhile (· ≠ 10) = t := by
  rcases index_cut t 10 with ⟨h1, h2⟩ | ⟨i, h1, h2, _⟩
  · refine ⟨h1, ?_⟩
    clear h h1
    induction t with
    | nil => rfl
    | cons c t ih =>
      have hc : c ≠ 10 := h2 c (List.mem_cons_self ..)
      rw [List.takeWhile_cons, ih fun x hx => h2 x (List.mem_cons_of_mem _ hx)]
      simp [hc]
  · refine absurd ?_ h
    rw [h2]; simp
theorem isI_H {x : Int} (h : isH x) : isI x := by unfold isH at h; unfold isI; omega
theorem isI_V {a b : Int} (ha : isH a) (hb : isW b) : isI (wVal a b) := by unfold isH at ha; unfold isW at hb; unfold isI wVal; omega
theorem qOk_n {n w d : List Int} (h : qOk n w d) : ∀ x ∈ n, isH x := fun x hx => of_decide_eq_true (List.all_eq_true.1 h.1 x hx)
theorem qOk_v {n w d : List Int} (h : qOk n w d) : ∀ x ∈ wV3 w, isI x := by
  obtain ⟨_, ⟨a, b⟩, ⟨c, e⟩, ⟨f, g⟩, _⟩ := h
  intro x hx
  unfold wV3 at hx
  simp only [List.mem_cons, List.not_mem_nil, or_false] at hx
  rcases hx with rfl | rfl | rfl
  · exact isI_V a b
  · exact isI_V c e
  · exact isI_V f g
theorem lnQ_len {n w d : List Int} (hn : n.length = 14) (h : qOk n w d) : (lnQ n w d).length ≤ 2 * d.length + 801 ∧ 0 < (lnQ n w d).length := by
  have := line_len (d := toB d) hn rfl (fun x hx => isI_H (qOk_n h x hx)) (qOk_v h)
  unfold lnQ
  rw [List.length_append]
  rw [toB_len] at this
  simp only [List.length_cons, List.length_nil]
  omega
theorem lnR_len {r : List D} (h : okR r) : (lnR r).length ≤ 2 * (rD r).length + 801 ∧ 0 < (lnR r).length := lnQ_len rfl h
end Go.Sy
