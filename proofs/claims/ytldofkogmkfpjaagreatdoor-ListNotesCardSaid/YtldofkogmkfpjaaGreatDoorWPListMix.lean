/-
  Layer 11 (list), plainly: lines of a file in other orders, with notes; one digit turned; a line told twice.
-/
import Derived.Test.YtldofkogmkfpjaaGreatDoorWPHex
namespace Go.Sy
open Go.Ev Go.Sy.Sh
set_option linter.unusedVariables false
set_option linter.unusedSimpArgs false

/-- Lines of a file: which of the three lines there are, and which entries, in their order; notes anywhere. -/
inductive Mix (u x : Int) (w : List Nat) : Bool → Bool → Bool → List (List D) → List (List UInt8) → Prop
  | nil : Mix u x w false false false [] []
  | note {a b c E F} (l : List UInt8) (h : scanP l = some ⟨1, 0, 0, [0, 0, 0, 0, 0]⟩) (t : Mix u x w a b c E F) : Mix u x w a b c E (l :: F)
  | u {b c E F} (t : Mix u x w false b c E F) : Mix u x w true b c E (lnU u :: F)
  | x {a c E F} (t : Mix u x w a false c E F) : Mix u x w a true c E (lnX x :: F)
  | h {a b E F} (t : Mix u x w a b false E F) : Mix u x w a b true E (lnH w :: F)
  | e {a b c E F} (e : List D) (t : Mix u x w a b c E F) : Mix u x w a b c (e :: E) (lnE e :: F)
theorem adE_note (m : List (Int × Int)) (L : List (List D)) : adE (some ⟨1, 0, 0, [0, 0, 0, 0, 0]⟩) m L = 0 := by
  unfold adE
  dsimp only
  rw [if_neg (fun g => g.1 rfl), if_neg (fun g => absurd g.1 (by decide))]
theorem mix_go {u x : Int} {w : List Nat} (hu : 0 ≤ u ∧ u ≤ 999999999999999999) (hx : 0 ≤ x ∧ x ≤ 999999999999999999) (h5 : w.length = 5) (hw : ∀ x ∈ w, x < 4294967296) {a b c : Bool} {E : List (List D)} {F : List (List UInt8)} (H : Mix u x w a b c E F) :
    ∀ (t : Int) (r : RS), (∀ e ∈ E, normR e = e) → (∀ j, j < E.length → behP (r.L ++ E.take j) (atR (E.getD j [])) (ofR (E.getD j [])) = true) → 0 < t → (a = true → mapGet r.m 2 = 0) → (b = true → mapGet r.m 3 = 0) → (c = true → mapGet r.m 4 = 0) →
    ∃ r' : RS, rsGo F t r = .inl r' ∧ r'.u = (if a then u else r.u) ∧ r'.x = (if b then x else r.x) ∧ r'.w = (if c then castL w else r.w) ∧ r'.L = r.L ++ E ∧
      (if a then mapGet r'.m 2 ≠ 0 else mapGet r'.m 2 = mapGet r.m 2) ∧ (if b then mapGet r'.m 3 ≠ 0 else mapGet r'.m 3 = mapGet r.m 3) ∧ (if c then mapGet r'.m 4 ≠ 0 else mapGet r'.m 4 = mapGet r.m 4) ∧
      (if E = [] then mapGet r'.m 5 = mapGet r.m 5 else mapGet r'.m 5 ≠ 0) := by
  induction H with
  | nil => exact fun t r _ _ _ _ _ _ => ⟨r, rfl, by simp⟩
  | note l h _ ih =>
    intro t r hn hb ht h2 h3 h4
    have e0 := rsGo_cons (ls := ‹List (List UInt8)›) (t := t) (r := r) h (adE_note _ _)
    have eu : rsUpd r ⟨1, 0, 0, [0, 0, 0, 0, 0]⟩ t = ⟨r.u, r.x, r.w, mapSet r.m 1 t, r.L⟩ := rfl
    have m1 : ∀ k, k ≠ 1 → mapGet (mapSet r.m 1 t) k = mapGet r.m k := fun k hk => by rw [mapGet_set, if_neg hk]
    obtain ⟨r', q0, q1, q2, q3, q4, q5, q6, q7, q8⟩ := ih (t + 1) ⟨r.u, r.x, r.w, mapSet r.m 1 t, r.L⟩ hn hb (by omega) (fun h => by rw [m1 2 (by decide)]; exact h2 h) (fun h => by rw [m1 3 (by decide)]; exact h3 h) (fun h => by rw [m1 4 (by decide)]; exact h4 h)
    simp only [m1 2 (by decide), m1 3 (by decide), m1 4 (by decide), m1 5 (by decide)] at q5 q6 q7 q8
    exact ⟨r', by rw [e0, eu]; exact q0, q1, q2, q3, q4, q5, q6, q7, q8⟩
  | u _ ih =>
    intro t r hn hb ht h2 h3 h4
    have e0 := rsGo_cons (ls := ‹List (List UInt8)›) (t := t) (r := r) (lnU_scan hu) (adE_once (show (2 : Int) ≠ 5 by decide) (h2 rfl))
    have m1 : ∀ k, k ≠ 2 → mapGet (mapSet r.m 2 t) k = mapGet r.m k := fun k hk => by rw [mapGet_set, if_neg hk]
    have m2 : mapGet (mapSet r.m 2 t) 2 = t := by rw [mapGet_set, if_pos rfl]
    obtain ⟨r', q0, q1, q2, q3, q4, q5, q6, q7, q8⟩ := ih (t + 1) ⟨u, r.x, r.w, mapSet r.m 2 t, r.L⟩ hn hb (by omega) (fun h => by cases h) (fun h => by rw [m1 3 (by decide)]; exact h3 h) (fun h => by rw [m1 4 (by decide)]; exact h4 h)
    simp only [m1 3 (by decide), m1 4 (by decide), m1 5 (by decide), m2] at q5 q6 q7 q8
    exact ⟨r', e0.trans q0, q1, q2, q3, q4, by rw [if_pos rfl]; rw [if_neg (by decide)] at q5; omega, q6, q7, q8⟩
  | x _ ih =>
    intro t r hn hb ht h2 h3 h4
    have e0 := rsGo_cons (ls := ‹List (List UInt8)›) (t := t) (r := r) (lnX_scan hx) (adE_once (show (3 : Int) ≠ 5 by decide) (h3 rfl))
    have m1 : ∀ k, k ≠ 3 → mapGet (mapSet r.m 3 t) k = mapGet r.m k := fun k hk => by rw [mapGet_set, if_neg hk]
    have m2 : mapGet (mapSet r.m 3 t) 3 = t := by rw [mapGet_set, if_pos rfl]
    obtain ⟨r', q0, q1, q2, q3, q4, q5, q6, q7, q8⟩ := ih (t + 1) ⟨r.u, x, r.w, mapSet r.m 3 t, r.L⟩ hn hb (by omega) (fun h => by rw [m1 2 (by decide)]; exact h2 h) (fun h => by cases h) (fun h => by rw [m1 4 (by decide)]; exact h4 h)
    simp only [m1 2 (by decide), m1 4 (by decide), m1 5 (by decide), m2] at q5 q6 q7 q8
    exact ⟨r', e0.trans q0, q1, q2, q3, q4, q5, by rw [if_pos rfl]; rw [if_neg (by decide)] at q6; omega, q7, q8⟩
  | h _ ih =>
    intro t r hn hb ht h2 h3 h4
    have e0 := rsGo_cons (ls := ‹List (List UInt8)›) (t := t) (r := r) (hash_scan h5 hw) (adE_once (show (4 : Int) ≠ 5 by decide) (h4 rfl))
    have m1 : ∀ k, k ≠ 4 → mapGet (mapSet r.m 4 t) k = mapGet r.m k := fun k hk => by rw [mapGet_set, if_neg hk]
    have m2 : mapGet (mapSet r.m 4 t) 4 = t := by rw [mapGet_set, if_pos rfl]
    obtain ⟨r', q0, q1, q2, q3, q4, q5, q6, q7, q8⟩ := ih (t + 1) ⟨r.u, r.x, castL w, mapSet r.m 4 t, r.L⟩ hn hb (by omega) (fun h => by rw [m1 2 (by decide)]; exact h2 h) (fun h => by rw [m1 3 (by decide)]; exact h3 h) (fun h => by cases h)
    simp only [m1 2 (by decide), m1 3 (by decide), m1 5 (by decide), m2] at q5 q6 q7 q8
    exact ⟨r', e0.trans q0, q1, q2, q3, q4, q5, q6, by rw [if_pos rfl]; rw [if_neg (by decide)] at q7; omega, q8⟩
  | e e _ ih =>
    intro t r hn hb ht h2 h3 h4
    rename_i E F _
    have h0 : behP r.L (atR e) (ofR e) = true := by simpa using hb 0 (by simp)
    have hl := behP_len h0
    have e0 := rsGo_cons (ls := F) (t := t) (r := r) (lnE_scan ⟨hl.2.1, hl.2.2⟩) (adE_data rfl h0)
    have hu : rsUpd r ⟨5, atR e, ofR e, [0, 0, 0, 0, 0]⟩ t = ⟨r.u, r.x, r.w, mapSet r.m 5 t, r.L ++ [e]⟩ := by
      have := hn e (List.mem_cons_self ..)
      unfold rsUpd
      rw [if_pos rfl]
      show RS.mk _ _ _ _ (r.L ++ [normR e]) = _
      rw [this]
    have m1 : ∀ k, k ≠ 5 → mapGet (mapSet r.m 5 t) k = mapGet r.m k := fun k hk => by rw [mapGet_set, if_neg hk]
    have m2 : mapGet (mapSet r.m 5 t) 5 = t := by rw [mapGet_set, if_pos rfl]
    obtain ⟨r', q0, q1, q2, q3, q4, q5, q6, q7, q8⟩ := ih (t + 1) ⟨r.u, r.x, r.w, mapSet r.m 5 t, r.L ++ [e]⟩ (fun x hx => hn x (List.mem_cons_of_mem _ hx)) (fun j hj => by
      have := hb (j + 1) (by simpa using hj)
      simpa using this) (by omega) (fun h => by rw [m1 2 (by decide)]; exact h2 h) (fun h => by rw [m1 3 (by decide)]; exact h3 h) (fun h => by rw [m1 4 (by decide)]; exact h4 h)
    simp only [m1 2 (by decide), m1 3 (by decide), m1 4 (by decide), m2] at q5 q6 q7 q8
    refine ⟨r', (e0.trans (by rw [hu])).trans q0, q1, q2, q3, by rw [q4]; simp, q5, q6, q7, ?_⟩
    rw [if_neg (by simp)]
    split at q8
    · omega
    · exact q8
theorem mix_parse {u x : Int} {L : List (List D)} {F : List (List UInt8)} (h : (chkP u x L).2 = 0) (hn : ∀ e ∈ L, normR e = e) (H : Mix u x (wordsN (bytN (dgL u x L))) true true true L F) (h10 : ∀ l ∈ F, ∀ c ∈ l, c ≠ 10) (hs : (joinL F).length ≤ 65536) :
    parT (joinL F) = ((u, x, L), (0, 0)) := by
  obtain ⟨hL, hu, hx, hg⟩ := chkP_ok h
  obtain ⟨r', q0, q1, q2, q3, q4, q5, q6, q7, q8⟩ := mix_go hu hx (wordsN_len _) (wordsN_lt _) H 1 rs0 hn (fun j hj => by
    have := hg j hj
    show behP ([] ++ _) _ _ = true
    rw [List.nil_append]; exact this) (by decide) (fun _ => rfl) (fun _ => rfl) (fun _ => rfl)
  simp only [if_true] at q1 q2 q3 q5 q6 q7
  rw [if_neg hL] at q8
  have q4 : r'.L = L := by rw [q4]; rfl
  unfold parT
  rw [if_neg (by omega), lines_join h10, q0]
  show rsFin _ _ = _
  unfold rsFin
  rw [if_neg (by rintro (g | g | g | g) <;> contradiction), q1, q2, q3, q4]
  have e : sumW u x L = castL (wordsN (bytN (dgL u x L))) := by unfold sumW dgP; rw [if_pos h]
  rw [e, if_pos rfl]
theorem mix_entries (u x : Int) (w : List Nat) {F : List (List UInt8)} {a b c : Bool} (t : Mix u x w a b c [] F) : ∀ L : List (List D), Mix u x w a b c L (L.map lnE ++ F)
  | [] => t
  | e :: L => .e e (mix_entries u x w t L)
theorem mix_insert {u x : Int} {w : List Nat} {n : List UInt8} (hn : scanP n = some ⟨1, 0, 0, [0, 0, 0, 0, 0]⟩) {a b c : Bool} {E : List (List D)} {F : List (List UInt8)} (H : Mix u x w a b c E F) : ∀ i, Mix u x w a b c E (F.take i ++ n :: F.drop i) := by
  induction H with
  | nil => intro i; simp; exact .note n hn .nil
  | note l h t ih =>
    intro i
    cases i with
    | zero => exact .note n hn (.note l h t)
    | succ i => exact .note l h (ih i)
  | u t ih =>
    intro i
    cases i with
    | zero => exact .note n hn (.u t)
    | succ i => exact .u (ih i)
  | x t ih =>
    intro i
    cases i with
    | zero => exact .note n hn (.x t)
    | succ i => exact .x (ih i)
  | h t ih =>
    intro i
    cases i with
    | zero => exact .note n hn (.h t)
    | succ i => exact .h (ih i)
  | e e t ih =>
    intro i
    cases i with
    | zero => exact .note n hn (.e e t)
    | succ i => exact .e e (ih i)
/-- The lines of a file, the k-th first; or as they are. -/
def turnF (F : List (List UInt8)) (k : Nat) : List (List UInt8) := if 2 < k ∧ k < F.length - 1 then F else F.getD k [] :: (F.take k ++ F.drop (k + 1))
theorem turn_mix {u x : Int} {L : List (List D)} {w : List Nat} (hL : L ≠ []) {k : Nat} (hk : k < L.length + 3) : Mix u x w true true true L (turnF (fileL u x L w) k) := by
  have hl := file_len u x L w
  have hE : ∀ F, Mix u x w false false true [] F → Mix u x w true true true L (lnU u :: lnX x :: (L.map lnE ++ F)) := fun F t => .u (.x (mix_entries u x w t L))
  have hf : fileL u x L w = lnU u :: lnX x :: (L.map lnE ++ [lnH w]) := by unfold fileL; simp
  unfold turnF
  by_cases h : 2 < k ∧ k < (fileL u x L w).length - 1
  · rw [if_pos h, hf]; exact hE _ (.h .nil)
  · rw [if_neg h]
    rw [hl] at h
    match k, hk with
    | 0, _ =>
      rw [hf]
      exact hE _ (.h .nil)
    | 1, _ =>
      rw [hf]
      show Mix u x w true true true L (lnX x :: lnU u :: (L.map lnE ++ [lnH w]))
      exact .x (.u (mix_entries u x w (.h .nil) L))
    | 2, _ =>
      rw [hf]
      cases L with
      | nil => exact absurd rfl hL
      | cons e L =>
        show Mix u x w true true true (e :: L) (lnE e :: lnU u :: lnX x :: (L.map lnE ++ [lnH w]))
        exact .e e (.u (.x (mix_entries u x w (.h .nil) L)))
    | k + 3, hk =>
      have hk1 : L.length = k + 1 := by omega
      have e1 : (fileL u x L w).getD (k + 3) [] = lnH w := by
        rw [hf]
        show (L.map lnE ++ [lnH w]).getD (k + 1) [] = _
        simp only [List.getD_eq_getElem?_getD]
        rw [List.getElem?_append_right (by simp; omega), List.length_map, hk1, Nat.sub_self]; rfl
      have e2 : (fileL u x L w).take (k + 3) = lnU u :: lnX x :: (L.map lnE) := by
        rw [hf]
        show lnU u :: lnX x :: (L.map lnE ++ [lnH w]).take (k + 1) = _
        rw [List.take_append_of_le_length (by simp; omega), List.take_of_length_le (by simp; omega)]
      have e3 : (fileL u x L w).drop (k + 3 + 1) = [] := List.drop_eq_nil_of_le (by rw [hl]; omega)
      rw [e1, e2, e3, List.append_nil]
      have := mix_entries u x w (a := false) (b := false) (c := false) .nil L
      rw [List.append_nil] at this
      exact .h (.u (.x this))
theorem note_scan (n : List UInt8) : scanP (35 :: 32 :: n) = some ⟨1, 0, 0, [0, 0, 0, 0, 0]⟩ := rfl
theorem turn_mem {F : List (List UInt8)} {k : Nat} (hk : k < F.length) : ∀ l ∈ turnF F k, l ∈ F := by
  intro l hl
  unfold turnF at hl
  split at hl
  · exact hl
  · rcases List.mem_cons.1 hl with rfl | hl
    · rw [List.getD_eq_getElem?_getD, List.getElem?_eq_getElem hk]; exact List.getElem_mem hk
    · rcases List.mem_append.1 hl with hl | hl
      · exact List.mem_of_mem_take hl
      · exact List.mem_of_mem_drop hl
theorem turn_len {F : List (List UInt8)} {k : Nat} (hk : k < F.length) : (turnF F k).length = F.length := by
  unfold turnF
  split
  · rfl
  · simp; omega
theorem file_each {u x : Int} {L : List (List D)} {w : List Nat} (h : (chkP u x L).2 = 0) (h5 : w.length = 5) : ∀ l ∈ fileL u x L w, l.length ≤ 84 := by
  obtain ⟨hL, hu, hx, hg⟩ := chkP_ok h
  intro l hl
  unfold fileL at hl
  simp only [List.mem_append, List.mem_cons, List.not_mem_nil, or_false, List.mem_map] at hl
  rcases hl with (rfl | rfl) | ⟨e, he, rfl⟩ | rfl
  · have := itoa_len64 (v := u) (by unfold isH; omega)
    simp only [lnU, List.length_append, List.length_cons, List.length_nil]; omega
  · have := itoa_len64 (v := x) (by unfold isH; omega)
    simp only [lnX, List.length_append, List.length_cons, List.length_nil]; omega
  · obtain ⟨j, hj, rfl⟩ := List.getElem_of_mem he
    have h1 := good_rows hg j hj
    rw [List.getD_eq_getElem?_getD, List.getElem?_eq_getElem hj] at h1
    have h2 := itoa_len64 h1.1
    have h3 := itoa_len64 h1.2
    simp only [Option.getD_some] at h2 h3
    simp only [lnE, List.length_append, List.length_cons]; omega
  · rw [lnH_len]; omega
/-- A note anywhere, the k-th line first. -/
theorem notes_parse {u x : Int} {L : List (List D)} (h : (chkP u x L).2 = 0) (hn : ∀ e ∈ L, normR e = e) {k i : Nat} (hk : k < L.length + 3) {n : List UInt8} (hn10 : ∀ c ∈ n, c ≠ 10) (hl : n.length ≤ 100) :
    let F := turnF (fileL u x L (wordsN (bytN (dgL u x L)))) k
    parT (joinL (F.take i ++ (35 :: 32 :: n) :: F.drop i)) = ((u, x, L), (0, 0)) := by
  intro F
  have hfl := file_len u x L (wordsN (bytN (dgL u x L)))
  have h64 := goodTo_len (chkP_ok h).2.2.2 (Nat.le_refl _)
  have hmem : ∀ l ∈ F, l ∈ fileL u x L (wordsN (bytN (dgL u x L))) := turn_mem (by omega)
  have hFl : F.length = L.length + 3 := (turn_len (by omega)).trans hfl
  have hmem2 : ∀ l ∈ F.take i ++ (35 :: 32 :: n) :: F.drop i, l = 35 :: 32 :: n ∨ l ∈ F := fun l hl => by
    rcases List.mem_append.1 hl with hl | hl
    · exact .inr (List.mem_of_mem_take hl)
    · rcases List.mem_cons.1 hl with rfl | hl
      · exact .inl rfl
      · exact .inr (List.mem_of_mem_drop hl)
  refine mix_parse h hn (mix_insert (note_scan n) (turn_mix (chkP_ok h).1 hk) i) (fun l hl c hc => ?_) ?_
  · rcases hmem2 l hl with rfl | hl
    · simp only [List.mem_cons] at hc
      rcases hc with rfl | rfl | hc
      · decide
      · decide
      · exact hn10 c hc
    · exact file_no10 u x L _ l (hmem l hl) c hc
  · have := joinL_each (c := 102) (F.take i ++ (35 :: 32 :: n) :: F.drop i) (fun l hl => by
      rcases hmem2 l hl with rfl | hl
      · simp only [List.length_cons]; omega
      · have := file_each h (wordsN_len _) l (hmem l hl); omega)
    have e : (F.take i ++ (35 :: 32 :: n) :: F.drop i).length = L.length + 4 := by
      rw [List.length_append, List.length_cons, List.length_take, List.length_drop]; omega
    rw [e] at this
    omega
/-- One of the three lines once more. -/
theorem twice_parse {u x : Int} {L : List (List D)} (h : (chkP u x L).2 = 0) (hn : ∀ e ∈ L, normR e = e) {l : List UInt8} (hl : l = lnU u ∨ l = lnX x ∨ l = lnH (wordsN (bytN (dgL u x L)))) :
    parT (prnL u x L ++ l ++ [10]) = ((0, 0, []), ((L.length : Int) + 4, 4)) := by
  obtain ⟨hL, hu, hx, hg⟩ := chkP_ok h
  have h64 := goodTo_len hg (Nat.le_refl _)
  obtain ⟨m, m2, m3, m4, m5, hm⟩ := rsGo_file h hn (wordsN_len (bytN (dgL u x L))) (wordsN_lt _) [l]
  have hlm : l ∈ fileL u x L (wordsN (bytN (dgL u x L))) := by
    unfold fileL
    rcases hl with rfl | rfl | rfl <;> simp
  have hsz := file_size (w := wordsN (bytN (dgL u x L))) h (wordsN_len _)
  have h84 := file_each h (wordsN_len _) l hlm
  have ej : prnL u x L ++ l ++ [10] = joinL (fileL u x L (wordsN (bytN (dgL u x L))) ++ [l]) := (joinL_snoc _ _).symm
  have hlen : (prnL u x L ++ l ++ [10]).length ≤ 65536 := by
    unfold prnL
    simp only [List.length_append, List.length_cons, List.length_nil]; omega
  unfold parT
  rw [if_neg (by omega), ej, lines_join (fun y hy c hc => by
    rcases List.mem_append.1 hy with hy | hy
    · exact file_no10 u x L _ y hy c hc
    · simp only [List.mem_cons, List.not_mem_nil, or_false] at hy
      subst hy
      exact file_no10 u x L _ _ hlm c hc), hm]
  have key : ∀ v : LnV, scanP l = some v → v.k ≠ 1 → v.k ≠ 5 → 0 < mapGet m v.k → rsGo [l] ((L.length : Int) + 4) ⟨u, x, castL (wordsN (bytN (dgL u x L))), m, L⟩ = .inr ((L.length : Int) + 4, 4) := fun v hv h1 h5 hp => by
    have hE : adE (some v) m L = 4 := if_pos ⟨h1, h5, hp⟩
    rw [rsGo, hv]
    dsimp only
    rw [hE, if_neg (by decide)]
  have : rsGo [l] ((L.length : Int) + 4) ⟨u, x, castL (wordsN (bytN (dgL u x L))), m, L⟩ = .inr ((L.length : Int) + 4, 4) := by
    rcases hl with rfl | rfl | rfl
    · exact key _ (lnU_scan hu) (by show (2 : Int) ≠ 1; decide) (by show (2 : Int) ≠ 5; decide) (by show 0 < mapGet m 2; omega)
    · exact key _ (lnX_scan hx) (by show (3 : Int) ≠ 1; decide) (by show (3 : Int) ≠ 5; decide) (by show 0 < mapGet m 3; omega)
    · exact key _ (hash_scan (wordsN_len _) (wordsN_lt _)) (by show (4 : Int) ≠ 1; decide) (by show (4 : Int) ≠ 5; decide) (by show 0 < mapGet m 4; omega)
  rw [this]; rfl
end Go.Sy
