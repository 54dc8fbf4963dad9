/-
  Layer 11 (list), plainly: what is printed is read again.
-/
import Derived.Test.YtldofkogmkfpjaaGreatDoorWPListD
namespace Go.Sy
open Go.Ev Go.Sy.Sh
set_option linter.unusedVariables false
set_option linter.unusedSimpArgs false

theorem hexc_all : ∀ d < 16, isHex (hexc d) = true ∧ isBl (hexc d) = false ∧ hexd (hexc d) = (d : Int) ∧ hexc d ≠ 10 := by decide
theorem hex8_len (w : Nat) : (hex8 w).length = 8 := by simp [hex8]
theorem hex8_mem {w : Nat} {c : UInt8} (h : c ∈ hex8 w) : isHex c = true ∧ isBl c = false ∧ c ≠ 10 := by
  obtain ⟨k, _, rfl⟩ := List.mem_map.1 h
  have := hexc_all (w / 16 ^ (7 - k) % 16) (Nat.mod_lt _ (by decide))
  exact ⟨this.1, this.2.1, this.2.2.2⟩
theorem hex8_all (w : Nat) : (hex8 w).all isHex = true := List.all_eq_true.2 fun c h => (hex8_mem h).1
theorem hex8_eq (w : Nat) : hex8 w = [hexc (w / 268435456 % 16), hexc (w / 16777216 % 16), hexc (w / 1048576 % 16), hexc (w / 65536 % 16), hexc (w / 4096 % 16), hexc (w / 256 % 16), hexc (w / 16 % 16), hexc (w / 1 % 16)] := rfl
theorem hval_hex8 {w : Nat} (h : w < 4294967296) : hval (hex8 w) = w := by
  have e := fun d => (hexc_all (d % 16) (Nat.mod_lt _ (by decide))).2.2.1
  rw [hex8_eq, hval]
  simp only [List.foldl_cons, List.foldl_nil, e]
  omega
theorem hex8_first (w : Nat) : isBl ((hex8 w).getD 0 0) = false := (hex8_mem (show (hex8 w).getD 0 0 ∈ hex8 w by rw [hex8_eq]; simp)).2.1
theorem hex8_ne (w : Nat) : hex8 w ≠ [] := by rw [hex8_eq]; simp
theorem flat_first (ws : List Nat) : (ws.flatMap fun x => 9 :: hex8 x) = [] ∨ isHex ((ws.flatMap fun x => 9 :: hex8 x).getD 0 0) = false := by
  cases ws with
  | nil => exact .inl rfl
  | cons w ws => exact .inr rfl
theorem wordsP_hex : ∀ ws : List Nat, (∀ w ∈ ws, w < 4294967296) → wordsP ws.length (ws.flatMap fun x => 9 :: hex8 x) = some (castL ws, [])
  | [], _ => rfl
  | w :: ws, h => by
    have ih := wordsP_hex ws fun x hx => h x (List.mem_cons_of_mem _ hx)
    have hw := h w (List.mem_cons_self ..)
    rw [List.flatMap_cons, List.length_cons, wordsP]
    have e1 : (9 :: hex8 w ++ ws.flatMap fun x => 9 :: hex8 x).dropWhile isBl = hex8 w ++ ws.flatMap fun x => 9 :: hex8 x := by
      show ([9] ++ (hex8 w ++ _)).dropWhile isBl = _
      rw [dw_app (by decide)]
      exact (tw_stop (.inr (by rw [getD_app (hex8_ne w)]; exact hex8_first w))).2
    obtain ⟨s1, s2⟩ := tw_stop (flat_first ws)
    have e2 : (hex8 w ++ ws.flatMap fun x => 9 :: hex8 x).takeWhile isHex = hex8 w := by rw [tw_app (hex8_all w), s1, List.append_nil]
    have e3 : (hex8 w ++ ws.flatMap fun x => 9 :: hex8 x).dropWhile isHex = ws.flatMap fun x => 9 :: hex8 x := by rw [dw_app (hex8_all w), s2]
    rw [e1, e2, e3, ih, hval_hex8 hw]
    have hok : okH (hex8 w) = true := by unfold okH; rw [decide_eq_false (hex8_ne w), hex8_len]; rfl
    rw [hok, if_pos (by simp)]
    rfl
theorem hash_scan {w : List Nat} (h5 : w.length = 5) (h : ∀ x ∈ w, x < 4294967296) : scanP (lnH w) = some ⟨4, 0, 0, castL w⟩ := by
  have e := wordsP_hex w h
  rw [h5] at e
  show hashP (w.flatMap fun x => 9 :: hex8 x) = _
  unfold hashP
  rw [e]
  rfl
theorem one_scan {n : Nat} (h : n < 1000000000000000000) (k : Int) : oneP k (9 :: Lib.decDigits n) = some ⟨k, n, 0, [0, 0, 0, 0, 0]⟩ := by
  obtain ⟨a1, a2, a3, a4⟩ := dec_all n
  have e1 : (9 :: Lib.decDigits n).dropWhile isBl = Lib.decDigits n := by
    show ([9] ++ Lib.decDigits n).dropWhile isBl = _
    rw [dw_app (by decide)]
    exact (tw_stop (.inr dig_first.2.1)).2
  have e2 : (Lib.decDigits n).takeWhile isDig = Lib.decDigits n := by
    have := tw_app (y := []) a1
    simpa using this
  have e3 : (Lib.decDigits n).dropWhile isDig = [] := by
    have := dw_app (y := []) a1
    simpa using this
  unfold oneP
  dsimp only
  rw [e1, e2, e3, okN_dec h, a2]
  rw [if_pos (by simp)]
theorem lnU_scan {u : Int} (h : 0 ≤ u ∧ u ≤ 999999999999999999) : scanP (lnU u) = some ⟨2, u, 0, [0, 0, 0, 0, 0]⟩ := by
  obtain ⟨n, rfl⟩ := Int.eq_ofNat_of_zero_le h.1
  unfold lnU
  rw [itoa_pos h.1]
  exact one_scan (by rw [Int.toNat_natCast]; omega) 2
theorem lnX_scan {u : Int} (h : 0 ≤ u ∧ u ≤ 999999999999999999) : scanP (lnX u) = some ⟨3, u, 0, [0, 0, 0, 0, 0]⟩ := by
  obtain ⟨n, rfl⟩ := Int.eq_ofNat_of_zero_le h.1
  unfold lnX
  rw [itoa_pos h.1]
  exact one_scan (by rw [Int.toNat_natCast]; omega) 3
theorem lnE_scan {e : List D} (h : (0 ≤ atR e ∧ atR e ≤ 1125899906842624) ∧ (0 ≤ ofR e ∧ ofR e ≤ 1000)) : scanP (lnE e) = some ⟨5, atR e, ofR e, [0, 0, 0, 0, 0]⟩ := by
  unfold lnE
  obtain ⟨⟨h1, h2⟩, h3, h4⟩ := h
  generalize atR e = a at h1 h2 ⊢
  generalize ofR e = o at h3 h4 ⊢
  obtain ⟨n, rfl⟩ := Int.eq_ofNat_of_zero_le h1
  obtain ⟨m, rfl⟩ := Int.eq_ofNat_of_zero_le h3
  rw [itoa_pos h1, itoa_pos h3, Int.toNat_natCast, Int.toNat_natCast]
  have := data_scan (a := n) (b := m) (by omega) (by omega) (u := [9]) (v := []) (w := []) (by decide) (by simp) rfl (.inl rfl)
  simpa using this

/-! ### lines in order -/

theorem mapGet_set (l : List (Int × Int)) (n v k : Int) : mapGet (mapSet l n v) k = if k = n then v else mapGet l k := by
  have gc : ∀ (a b : Int) (l : List (Int × Int)), mapGet ((a, b) :: l) k = if k = a then b else mapGet l k := fun a b l => by
    show (bif decide (k = a) then b else mapGet l k) = _
    by_cases h : k = a
    · rw [decide_eq_true h, if_pos h]; rfl
    · rw [decide_eq_false h, if_neg h]; rfl
  induction l with
  | nil =>
    show mapGet [(n, v)] k = _
    rw [gc]
  | cons p l ih =>
    obtain ⟨a, b⟩ := p
    rw [gc]
    show mapGet (bif decide (n = a) then (n, v) :: l else (a, b) :: mapSet l n v) k = _
    by_cases h : n = a
    · subst h
      rw [decide_eq_true rfl, cond_true, gc]
      by_cases h2 : k = n
      · rw [if_pos h2, if_pos h2]
      · rw [if_neg h2, if_neg h2, if_neg h2]
    · rw [decide_eq_false h, cond_false, gc, ih]
      by_cases h2 : k = a
      · rw [if_pos h2, if_neg (fun e => h (e.symm.trans h2)), if_pos h2]
      · rw [if_neg h2, if_neg h2]
def normR (e : List D) : List D := [D.i (atR e), D.i (ofR e)]
theorem adE_data {v : LnV} {m : List (Int × Int)} {L : List (List D)} (h5 : v.k = 5) (hb : behP L v.a v.b = true) : adE (some v) m L = 0 := by
  show (if _ then _ else if _ then _ else _) = (0 : Int)
  rw [if_neg (fun g => g.2.1 h5), if_neg (fun g => by rw [hb] at g; cases g.2)]
theorem adE_once {v : LnV} {m : List (Int × Int)} {L : List (List D)} (h5 : v.k ≠ 5) (hb : mapGet m v.k = 0) : adE (some v) m L = 0 := by
  show (if _ then _ else if _ then _ else _) = (0 : Int)
  rw [if_neg (fun g => by rw [hb] at g; exact absurd g.2.2 (by omega)), if_neg (fun g => h5 g.1)]
theorem rsGo_cons {l : List UInt8} {ls : List (List UInt8)} {t : Int} {r : RS} {v : LnV} (hs : scanP l = some v) (h : adE (some v) r.m r.L = 0) : rsGo (l :: ls) t r = rsGo ls (t + 1) (rsUpd r v t) := by
  rw [rsGo, hs, if_pos h]; rfl
theorem rsGo_entries : ∀ (E : List (List D)) (t : Int) (r : RS) (rest : List (List UInt8)), (∀ e ∈ E, normR e = e) → (∀ j, j < E.length → behP (r.L ++ E.take j) (atR (E.getD j [])) (ofR (E.getD j [])) = true) → 0 < t →
    ∃ m, (∀ k, k ≠ 5 → mapGet m k = mapGet r.m k) ∧ (E ≠ [] → 0 < mapGet m 5) ∧ (E = [] → m = r.m) ∧ rsGo (E.map lnE ++ rest) t r = rsGo rest (t + E.length) ⟨r.u, r.x, r.w, m, r.L ++ E⟩
  | [], t, r, rest, _, _, _ => ⟨r.m, fun _ _ => rfl, fun h => absurd rfl h, fun _ => rfl, by simp⟩
  | e :: E, t, r, rest, hn, hb, ht => by
    have h0 : behP r.L (atR e) (ofR e) = true := by simpa using hb 0 (by simp)
    have hl := behP_len h0
    have hs := lnE_scan ⟨hl.2.1, hl.2.2⟩
    have hu : rsUpd r ⟨5, atR e, ofR e, [0, 0, 0, 0, 0]⟩ t = ⟨r.u, r.x, r.w, mapSet r.m 5 t, r.L ++ [e]⟩ := by
      have := hn e (List.mem_cons_self ..)
      unfold rsUpd
      rw [if_pos rfl]
      show RS.mk _ _ _ _ (r.L ++ [normR e]) = _
      rw [this]
    obtain ⟨m, m1, m2, m3, m4⟩ := rsGo_entries E (t + 1) ⟨r.u, r.x, r.w, mapSet r.m 5 t, r.L ++ [e]⟩ rest (fun x hx => hn x (List.mem_cons_of_mem _ hx)) (fun j hj => by
      have := hb (j + 1) (by simpa using hj)
      simpa using this) (by omega)
    refine ⟨m, fun k hk => ?_, fun _ => ?_, (fun h => by cases h), ?_⟩
    · rw [m1 k hk, mapGet_set, if_neg hk]
    · by_cases hE : E = []
      · rw [m3 hE]
        show 0 < mapGet (mapSet r.m 5 t) 5
        rw [mapGet_set, if_pos rfl]; exact ht
      · exact m2 hE
    · rw [List.map_cons, List.cons_append, rsGo_cons hs (adE_data rfl h0), hu, m4]
      rw [List.append_assoc, List.length_cons]
      congr 1
      omega
/-- All lines of a file, with any words. -/
theorem rsGo_file {u x : Int} {L : List (List D)} {w : List Nat} (h : (chkP u x L).2 = 0) (hn : ∀ e ∈ L, normR e = e) (h5 : w.length = 5) (hw : ∀ x ∈ w, x < 4294967296) (rest : List (List UInt8)) :
    ∃ m, mapGet m 2 = 1 ∧ mapGet m 3 = 2 ∧ mapGet m 4 = (L.length : Int) + 3 ∧ 0 < mapGet m 5 ∧ rsGo (fileL u x L w ++ rest) 1 rs0 = rsGo rest ((L.length : Int) + 4) ⟨u, x, castL w, m, L⟩ := by
  obtain ⟨hL, hu, hx, hg⟩ := chkP_ok h
  have e1 : rsGo (fileL u x L w ++ rest) 1 rs0 = rsGo (L.map lnE ++ (lnH w :: rest)) 3 ⟨u, x, [0, 0, 0, 0, 0], mapSet (mapSet [] 2 1) 3 2, []⟩ := by
    unfold fileL
    rw [show [lnU u, lnX x] ++ (L.map lnE ++ [lnH w]) ++ rest = lnU u :: lnX x :: (L.map lnE ++ (lnH w :: rest)) by simp]
    rw [rsGo_cons (lnU_scan hu) (adE_once (show (2 : Int) ≠ 5 by decide) rfl), rsGo_cons (lnX_scan hx) (adE_once (show (3 : Int) ≠ 5 by decide) rfl)]
    rfl
  obtain ⟨m, m1, m2, m3, m4⟩ := rsGo_entries L 3 ⟨u, x, [0, 0, 0, 0, 0], mapSet (mapSet [] 2 1) 3 2, []⟩ (lnH w :: rest) hn (fun j hj => by
    have := hg j hj
    rw [List.nil_append]; exact this) (by omega)
  have k4 : mapGet m 4 = 0 := by rw [m1 4 (by decide)]; rfl
  refine ⟨mapSet m 4 ((L.length : Int) + 3), ?_, ?_, ?_, ?_, ?_⟩
  · rw [mapGet_set, if_neg (by decide), m1 2 (by decide)]; rfl
  · rw [mapGet_set, if_neg (by decide), m1 3 (by decide)]; rfl
  · rw [mapGet_set, if_pos rfl]
  · rw [mapGet_set, if_neg (by decide)]; exact m2 hL
  · rw [e1, m4, rsGo_cons (hash_scan h5 hw) (adE_once (show (4 : Int) ≠ 5 by decide) k4)]
    rw [show (3 : Int) + (L.length : Int) = (L.length : Int) + 3 by omega, show (L.length : Int) + 3 + 1 = (L.length : Int) + 4 by omega]
    rfl
theorem nrm_castL {w : List Nat} (h5 : w.length = 5) : nrm 5 (castL w) = castL w := by
  match w, h5 with
  | [a, b, c, d, e], _ => rfl
theorem itoa_no10 (v : Int) : ∀ c ∈ Lib.itoa v, c ≠ 10 := by
  have key : ∀ n : Nat, ∀ c ∈ Lib.decDigits n, c ≠ 10 := fun n c hc e => by
    subst e
    have := List.all_eq_true.1 (dec_all n).1 _ hc
    exact absurd this (by decide)
  intro c hc
  rcases Int.lt_or_le v 0 with g | g
  · rw [itoa_neg g] at hc
    rcases List.mem_cons.1 hc with rfl | hc
    · decide
    · exact key _ c hc
  · rw [itoa_pos g] at hc
    exact key _ c hc
theorem file_no10 (u x : Int) (L : List (List D)) (w : List Nat) : ∀ l ∈ fileL u x L w, ∀ c ∈ l, c ≠ 10 := by
  intro l hl c hc
  unfold fileL at hl
  simp only [List.mem_append, List.mem_cons, List.not_mem_nil, or_false, List.mem_map] at hl
  rcases hl with (rfl | rfl) | ⟨e, _, rfl⟩ | rfl
  · simp only [lnU, List.mem_append, List.mem_cons, List.not_mem_nil, or_false] at hc
    rcases hc with (rfl | rfl | rfl) | hc
    · decide
    · decide
    · decide
    · exact itoa_no10 _ c hc
  · simp only [lnX, List.mem_append, List.mem_cons, List.not_mem_nil, or_false] at hc
    rcases hc with (rfl | rfl | rfl) | hc
    · decide
    · decide
    · decide
    · exact itoa_no10 _ c hc
  · simp only [lnE, List.mem_append, List.mem_cons] at hc
    rcases hc with hc | rfl | hc
    · exact itoa_no10 _ c hc
    · decide
    · exact itoa_no10 _ c hc
  · simp only [lnH, List.mem_append, List.mem_cons, List.not_mem_nil, or_false, List.mem_flatMap] at hc
    rcases hc with (rfl | rfl) | ⟨y, _, rfl | hc⟩
    · decide
    · decide
    · decide
    · exact (hex8_mem hc).2.2
theorem file_len (u x : Int) (L : List (List D)) (w : List Nat) : (fileL u x L w).length = L.length + 3 := by unfold fileL; simp
theorem lnH_len (w : List Nat) : (lnH w).length = 2 + 9 * w.length := by
  unfold lnH
  rw [List.length_append]
  congr 1
  induction w with
  | nil => rfl
  | cons a w ih => rw [List.flatMap_cons, List.length_append, ih, List.length_cons, hex8_len, List.length_cons]; omega
theorem joinL_each {c : Nat} : ∀ M : List (List UInt8), (∀ l ∈ M, l.length ≤ c) → (joinL M).length ≤ (c + 1) * M.length
  | [], _ => by simp [joinL]
  | a :: M, h => by
    have h1 := h a (List.mem_cons_self ..)
    have h2 := joinL_each M fun l hl => h l (List.mem_cons_of_mem _ hl)
    unfold joinL at h2 ⊢
    rw [List.map_cons, List.flatten_cons, List.length_append, List.length_append, List.length_cons]
    simp only [List.length_cons, List.length_nil]
    rw [Nat.mul_add, Nat.mul_one]
    omega
theorem file_size {u x : Int} {L : List (List D)} {w : List Nat} (h : (chkP u x L).2 = 0) (h5 : w.length = 5) : (joinL (fileL u x L w)).length ≤ 6000 := by
  obtain ⟨hL, hu, hx, hg⟩ := chkP_ok h
  have h64 := goodTo_len hg (Nat.le_refl _)
  have := joinL_each (c := 84) (fileL u x L w) (fun l hl => by
    unfold fileL at hl
    simp only [List.mem_append, List.mem_cons, List.not_mem_nil, or_false, List.mem_map] at hl
    rcases hl with (rfl | rfl) | ⟨e, he, rfl⟩ | rfl
    · have := itoa_len64 (v := u) (by unfold isH; omega)
      simp only [lnU, List.length_append, List.length_cons, List.length_nil]; omega
    · have := itoa_len64 (v := x) (by unfold isH; omega)
      simp only [lnX, List.length_append, List.length_cons, List.length_nil]; omega
    · obtain ⟨j, hj, rfl⟩ := List.getElem_of_mem he
      have h1 := good_rows hg j hj
      rw [List.getD_eq_getElem?_getD, List.getElem?_eq_getElem hj] at h1
      have h2 := itoa_len64 h1.1
      have h3 := itoa_len64 h1.2
      simp only [Option.getD_some] at h2 h3
      simp only [lnE, List.length_append, List.length_cons]; omega
    · rw [lnH_len]; omega)
  rw [file_len] at this
  omega
/-- A file with any words is read as its table, or told so. -/
theorem parT_file {u x : Int} {L : List (List D)} {w : List Nat} (h : (chkP u x L).2 = 0) (hn : ∀ e ∈ L, normR e = e) (h5 : w.length = 5) (hw : ∀ x ∈ w, x < 4294967296) :
    parT (joinL (fileL u x L w)) = if wordsN (bytN (dgL u x L)) = w then ((u, x, L), (0, 0)) else ((0, 0, []), ((L.length : Int) + 3, 11)) := by
  have hs := file_size (w := w) h h5
  obtain ⟨m, m2, m3, m4, m5, hm⟩ := rsGo_file h hn h5 hw []
  rw [List.append_nil] at hm
  unfold parT
  rw [if_neg (by omega), lines_join (file_no10 u x L w), hm]
  show rsFin _ _ = _
  unfold rsFin
  dsimp only
  rw [if_neg (by rintro (g | g | g | g) <;> omega), m4]
  have e : sumW u x L = castL (wordsN (bytN (dgL u x L))) := by unfold sumW dgP; rw [if_pos h]
  rw [e, nrm_castL (wordsN_len _), nrm_castL h5]
  by_cases g : wordsN (bytN (dgL u x L)) = w
  · rw [if_pos g, if_pos (by rw [g])]
  · rw [if_neg g, if_neg (fun e => g (by
      have : ∀ a b : List Nat, castL a = castL b → a = b := fun a b e => by
        unfold castL at e
        exact (List.map_inj_right (fun x y e => Int.ofNat.inj e)).1 e
      exact this _ _ e))]
theorem parT_prn {u x : Int} {L : List (List D)} (h : (chkP u x L).2 = 0) (hn : ∀ e ∈ L, normR e = e) : parT (prnL u x L) = ((u, x, L), (0, 0)) := by
  unfold prnL
  rw [parT_file h hn (wordsN_len _) (wordsN_lt _), if_pos rfl]
end Go.Sy
