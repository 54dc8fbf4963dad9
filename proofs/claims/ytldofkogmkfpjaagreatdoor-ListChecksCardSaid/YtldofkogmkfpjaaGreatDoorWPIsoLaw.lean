/-
  Labels as text, in plain words: the document's reading, and what the laws say.
-/
import Derived.Test.YtldofkogmkfpjaaGreatDoorWPIso
import Derived.Test.YtldofkogmkfpjaaGreatDoorWPLexLaw
namespace Go.Sy
set_option linter.unusedVariables false
set_option linter.unusedSimpArgs false

def shpB : List UInt8 → List UInt8 → Bool
  | [], _ => true
  | _ :: _, [] => false
  | p :: ps, c :: s => (if p = 48 then isDig c else decide (c = p)) && shpB ps s
def pat15 : List UInt8 := [45, 48, 48, 45, 48, 48, 84, 48, 48, 58, 48, 48, 58, 48, 48]
def fok (f : List UInt8) : Bool := decide (f.getD 0 0 = 46) && (decide (2 ≤ f.length) && (decide (f.length ≤ 19) && (decide (((f.drop 1).takeWhile isDig).length = f.length - 1) && !decide (f.getD (f.length - 1) 0 = 48))))
def sgnN (l : List UInt8) : Nat := if l.getD 0 0 = 43 ∨ l.getD 0 0 = 45 then 1 else 0
def digN (l : List UInt8) : Nat := ((l.drop (sgnN l)).takeWhile isDig).length
def refY (l : List UInt8) : Int := if l.getD 0 0 = 45 then - dval ((l.drop (sgnN l)).takeWhile isDig) else dval ((l.drop (sgnN l)).takeWhile isDig)
def refA (f : List UInt8) : Int := if f = [] then 0 else dval (f.drop 1) * 10 ^ (19 - f.length)
def refR (l : List UInt8) : List UInt8 := l.drop (sgnN l + digN l)
def refF (l : List UInt8) : List UInt8 := ((refR l).drop 15).dropLast
def refC1 (l : List UInt8) : Bool := decide (4 ≤ digN l) && decide (digN l ≤ 18)
def refC2 (l : List UInt8) : Bool := decide (yearL (refY l) = l.take (sgnN l + digN l))
def refC3 (l : List UInt8) : Bool := shpB pat15 (refR l)
def refC4 (l : List UInt8) : Bool := !decide ((refR l).drop 15 = []) && decide (((refR l).drop 15).getD (((refR l).drop 15).length - 1) 0 = 90)
def refC5 (l : List UInt8) : Bool := decide (refF l = []) || fok (refF l)
def refV (l : List UInt8) : IsoV := ⟨refY l, at2 (refR l) 1, at2 (refR l) 4, at2 (refR l) 7, at2 (refR l) 10, at2 (refR l) 13, refA (refF l)⟩
def refP (l : List UInt8) : Option IsoV := if (refC1 l && (refC2 l && (refC3 l && (refC4 l && refC5 l)))) = true then some (refV l) else none

theorem tw_full {p : UInt8 → Bool} {l : List UInt8} (h : (l.takeWhile p).length = l.length) : l.all p = true := by
  have h1 := tw_all p l
  have h2 := tw_dw p l
  have h3 : l.dropWhile p = [] := List.length_eq_zero_iff.1 (by omega)
  exact dw_nil.1 h3
theorem last_dec {f : List UInt8} (hne : f ≠ []) : f = f.dropLast ++ [f.getD (f.length - 1) 0] := by
  have h := List.dropLast_concat_getLast hne
  have e : f.getD (f.length - 1) 0 = f.getLast hne := by
    rw [List.getLast_eq_getElem, List.getD_eq_getElem?_getD, List.getElem?_eq_getElem (by have : f.length ≠ 0 := fun e => hne (List.length_eq_zero_iff.1 e); omega)]; rfl
  rw [e]; exact h.symm
theorem fok_of {a : Int} (h : 0 ≤ a ∧ a < 1000000000000000000) : (decide (fracL a = []) || fok (fracL a)) = true ∧ refA (fracL a) = a := by
  by_cases h0 : a = 0
  · subst h0; exact ⟨rfl, rfl⟩
  · obtain ⟨b, e, h1, h2, h3, h4, h5⟩ := body_of_frac (a := a) (by omega)
    have hb : b.length ≠ 0 := fun e => h2 (List.length_eq_zero_iff.1 e)
    constructor
    · rw [e]
      unfold fok
      have htw : (b.takeWhile isDig).length = b.length := by
        have := tw_dw isDig b; rw [dw_nil.2 h1] at this; simpa using this
      have hlast : ¬ (46 :: b).getD ((46 :: b).length - 1) 0 = 48 := by
        intro e2
        have e3 := last_dec h2
        rw [List.length_cons, Nat.add_sub_cancel, show b.length = (b.length - 1) + 1 by omega, List.getD_cons_succ] at e2
        rw [e2] at e3
        exact h4 _ e3
      rw [decide_eq_false hlast, List.drop_succ_cons, List.drop_zero, htw, List.length_cons, decide_eq_true (show 2 ≤ b.length + 1 by omega), decide_eq_true (show b.length + 1 ≤ 19 by omega)]
      simp
    · unfold refA
      rw [e, if_neg (by simp), List.drop_succ_cons, List.drop_zero, List.length_cons, ← h5, dval_app, dval_zeros, List.length_replicate, show 19 - (b.length + 1) = 18 - b.length by omega, Int.add_zero]
theorem fok_back {f : List UInt8} (h : (decide (f = []) || fok f) = true) : f = fracL (refA f) ∧ 0 ≤ refA f ∧ refA f < 1000000000000000000 := by
  by_cases h0 : f = []
  · subst h0; exact ⟨rfl, by decide, by decide⟩
  · rw [decide_eq_false h0, Bool.false_or] at h
    unfold fok at h
    simp only [Bool.and_eq_true, decide_eq_true_eq, Bool.not_eq_true', decide_eq_false_iff_not] at h
    obtain ⟨g1, g2, g3, g4, g5⟩ := h
    match f, h0, g1, g2, g3, g4, g5 with
    | c :: b, _, g1, g2, g3, g4, g5 =>
      have hc : c = 46 := g1
      subst hc
      rw [List.drop_succ_cons, List.drop_zero, List.length_cons, Nat.add_sub_cancel] at g4
      rw [List.length_cons] at g2 g3
      have hall := tw_full g4
      have hne : b ≠ [] := by intro e; rw [e] at g2; simp at g2
      have hb : b.length ≠ 0 := fun e => hne (List.length_eq_zero_iff.1 e)
      have hx : ∀ x, b ≠ x ++ [48] := by
        intro x e
        apply g5
        rw [e]
        simp
      obtain ⟨q1, q2, q3⟩ := frac_of_body hall hne (by omega) hx
      have ea : refA (46 :: b) = dval (b ++ List.replicate (18 - b.length) 48) := by
        unfold refA
        rw [if_neg (by simp), List.drop_succ_cons, List.drop_zero, List.length_cons, dval_app, dval_zeros, List.length_replicate, show 19 - (b.length + 1) = 18 - b.length by omega, Int.add_zero]
      rw [ea]
      exact ⟨q3.symm, by omega, q2⟩
theorem sgn_parts {sg ds r : List UInt8} (hs : sg = [45] ∨ sg = [43] ∨ sg = []) (hd : ds.all isDig = true) (hne : ds ≠ []) (hr : isDig (r.getD 0 0) = false) :
    sgnN (sg ++ (ds ++ r)) = sg.length ∧ ((sg ++ (ds ++ r)).drop sg.length).takeWhile isDig = ds := by
  constructor
  · rcases hs with rfl | rfl | rfl
    · rfl
    · rfl
    · cases ds with
      | nil => exact absurd rfl hne
      | cons c t =>
        rw [List.all_cons, Bool.and_eq_true] at hd
        have := dig_not hd.1
        unfold sgnN
        rw [if_neg]
        · rfl
        · simp [this.1, this.2.1]
  · rw [List.drop_left', tw_app hd, (tw_stop (.inr hr)).1, List.append_nil]
    rfl
theorem ref_iso {v : IsoV} (ok : IsoOk v) : refP (isoL v) = some v := by
  obtain ⟨m1, m0, em, hm1, hm0, vm⟩ := pad2 ok.mo
  obtain ⟨d1, d0, ed, hd1, hd0, vd⟩ := pad2 ok.d
  obtain ⟨h1, h0, eh, hh1, hh0, vh⟩ := pad2 ok.h
  obtain ⟨i1, i0, ei, hi1, hi0, vi⟩ := pad2 ok.mi
  obtain ⟨s1, s0, es, hs1, hs0, vs⟩ := pad2 ok.s
  obtain ⟨sg, ds, eY, y1, y2, y3, y4⟩ := year_parts ok.y
  have hne : ds ≠ [] := by intro e; rw [e] at y2; simp at y2
  have hsg : sg = [45] ∨ sg = [43] ∨ sg = [] := by rcases y4 with ⟨h, _⟩ | ⟨h, _⟩ | ⟨h, _⟩ <;> simp [h]
  have e0 : isoL v = sg ++ (ds ++ ([45, m1, m0, 45, d1, d0, 84, h1, h0, 58, i1, i0, 58, s1, s0] ++ (fracL v.a ++ [90]))) := by
    unfold isoL midL; rw [em, ed, eh, ei, es, eY]; simp
  obtain ⟨p1, p2⟩ := sgn_parts (r := [45, m1, m0, 45, d1, d0, 84, h1, h0, 58, i1, i0, 58, s1, s0] ++ (fracL v.a ++ [90])) hsg y1 hne rfl
  obtain ⟨f1, f2⟩ := fok_of ok.a
  rw [e0]
  generalize hR : [45, m1, m0, 45, d1, d0, 84, h1, h0, 58, i1, i0, 58, s1, s0] ++ (fracL v.a ++ [90]) = R at *
  have q1 : digN (sg ++ (ds ++ R)) = ds.length := by unfold digN; rw [p1, p2]
  have q2 : refR (sg ++ (ds ++ R)) = R := by
    unfold refR
    rw [p1, q1, ← List.append_assoc, List.drop_left']
    rw [List.length_append]
  have q3 : refY (sg ++ (ds ++ R)) = v.y := by
    unfold refY
    rw [p1, p2]
    rcases y4 with ⟨rfl, h, _⟩ | ⟨rfl, h, _⟩ | ⟨rfl, h, _⟩
    · have hg : (([45] : List UInt8) ++ (ds ++ R)).getD 0 0 = 45 := rfl
      rw [if_pos hg]; omega
    · have hg : ¬ (([43] : List UInt8) ++ (ds ++ R)).getD 0 0 = 45 := (by decide : ¬ (43 : UInt8) = 45)
      rw [if_neg hg]; omega
    · cases ds with
      | nil => exact absurd rfl hne
      | cons c t =>
        rw [List.all_cons, Bool.and_eq_true] at y1
        rw [if_neg (by simp [(dig_not y1.1).2.1])]; omega
  have q4 : (refR (sg ++ (ds ++ R))).drop 15 = fracL v.a ++ [90] := by rw [q2, ← hR]; rfl
  have q5 : refF (sg ++ (ds ++ R)) = fracL v.a := by unfold refF; rw [q4]; simp
  have c1 : refC1 (sg ++ (ds ++ R)) = true := by unfold refC1; rw [q1, decide_eq_true y2, decide_eq_true y3]; rfl
  have c2 : refC2 (sg ++ (ds ++ R)) = true := by
    unfold refC2
    rw [q3, p1, q1, eY, decide_eq_true_eq, ← List.append_assoc, List.take_left']
    rw [List.length_append]
  have c3 : refC3 (sg ++ (ds ++ R)) = true := by
    unfold refC3
    rw [q2, ← hR]
    simp [pat15, shpB, hm1, hm0, hd1, hd0, hh1, hh0, hi1, hi0, hs1, hs0]
  have c4 : refC4 (sg ++ (ds ++ R)) = true := by
    unfold refC4
    rw [q4, List.length_append, List.length_singleton, Nat.add_sub_cancel, getD_add]
    simp
  have c5 : refC5 (sg ++ (ds ++ R)) = true := by unfold refC5; rw [q5]; exact f1
  unfold refP
  rw [c1, c2, c3, c4, c5]
  simp only [Bool.and_self, if_true]
  unfold refV
  rw [q2, q3, q5, f2, ← hR]
  show some (IsoV.mk v.y (n2 m1 m0) (n2 d1 d0) (n2 h1 h0) (n2 i1 i0) (n2 s1 s0) v.a) = _
  rw [vm, vd, vh, vi, vs]
theorem shp_cons (p : UInt8) (ps r : List UInt8) : shpB (p :: ps) r = true ↔ ∃ c s, r = c :: s ∧ (if p = 48 then isDig c else decide (c = p)) = true ∧ shpB ps s = true := by
  cases r with
  | nil => exact ⟨fun h => (by cases h), fun ⟨_, _, h, _⟩ => (by cases h)⟩
  | cons c s =>
    rw [shpB, Bool.and_eq_true]
    exact ⟨fun h => ⟨c, s, rfl, h.1, h.2⟩, fun ⟨_, _, h, h1, h2⟩ => by cases h; exact ⟨h1, h2⟩⟩
theorem shp15 {r : List UInt8} (h : shpB pat15 r = true) : ∃ m1 m0 d1 d0 h1 h0 i1 i0 s1 s0 t, r = [45, m1, m0, 45, d1, d0, 84, h1, h0, 58, i1, i0, 58, s1, s0] ++ t ∧
    isDig m1 = true ∧ isDig m0 = true ∧ isDig d1 = true ∧ isDig d0 = true ∧ isDig h1 = true ∧ isDig h0 = true ∧ isDig i1 = true ∧ isDig i0 = true ∧ isDig s1 = true ∧ isDig s0 = true := by
  simp only [pat15, shp_cons] at h
  obtain ⟨c0, _, rfl, k0, m1, _, rfl, a1, m0, _, rfl, a2, c3, _, rfl, k3, d1, _, rfl, a4, d0, _, rfl, a5, c6, _, rfl, k6, h1, _, rfl, a7, h0, _, rfl, a8, c9, _, rfl, k9, i1, _, rfl, a10, i0, _, rfl, a11, c12, _, rfl, k12, s1, _, rfl, a13, s0, t, rfl, a14, _⟩ := h
  rw [if_neg (by decide), decide_eq_true_eq] at k0 k3 k6 k9 k12
  rw [if_pos True.intro] at a1 a2 a4 a5 a7 a8 a10 a11 a13 a14
  subst k0 k3 k6 k9 k12
  exact ⟨m1, m0, d1, d0, h1, h0, i1, i0, s1, s0, t, rfl, a1, a2, a4, a5, a7, a8, a10, a11, a13, a14⟩
theorem ref_back {l : List UInt8} {v : IsoV} (h : refP l = some v) : IsoOk v ∧ l = isoL v := by
  unfold refP at h
  split at h
  case isFalse => cases h
  rename_i hc
  simp only [Bool.and_eq_true] at hc
  obtain ⟨c1, c2, c3, c4, c5⟩ := hc
  cases h
  unfold refC1 at c1
  rw [Bool.and_eq_true, decide_eq_true_eq, decide_eq_true_eq] at c1
  unfold refC2 at c2
  rw [decide_eq_true_eq] at c2
  obtain ⟨m1, m0, d1, d0, h1, h0, i1, i0, s1, s0, t, eR, a1, a2, a3, a4, a5, a6, a7, a8, a9, a10⟩ := shp15 c3
  have et : (refR l).drop 15 = t := by rw [eR]; rfl
  unfold refC4 at c4
  rw [et, Bool.and_eq_true, Bool.not_eq_true', decide_eq_false_iff_not, decide_eq_true_eq] at c4
  have eT := last_dec c4.1
  rw [c4.2] at eT
  have eF : refF l = t.dropLast := by unfold refF; rw [et]
  obtain ⟨f1, f2, f3⟩ := fok_back c5
  have hl : l = yearL (refY l) ++ ([45, m1, m0, 45, d1, d0, 84, h1, h0, 58, i1, i0, 58, s1, s0] ++ (refF l ++ [90])) := by
    rw [c2, eF, ← eT, ← eR]
    exact (List.take_append_drop _ _).symm
  have hY : -1000000000000000000 < refY l ∧ refY l < 1000000000000000000 := by
    have h1 := dval_bound (tw_all isDig (l.drop (sgnN l)))
    have h5 : (10 : Int) ^ ((l.drop (sgnN l)).takeWhile isDig).length ≤ 10 ^ 18 := pow10_le c1.2
    have h18 : (10 : Int) ^ 18 = 1000000000000000000 := by decide
    unfold refY
    split <;> omega
  obtain ⟨x1, x2, x3⟩ := n2_ok a1 a2
  obtain ⟨y1, y2, y3⟩ := n2_ok a3 a4
  obtain ⟨z1, z2, z3⟩ := n2_ok a5 a6
  obtain ⟨u1, u2, u3⟩ := n2_ok a7 a8
  obtain ⟨w1, w2, w3⟩ := n2_ok a9 a10
  have eV : refV l = ⟨refY l, n2 m1 m0, n2 d1 d0, n2 h1 h0, n2 i1 i0, n2 s1 s0, refA (refF l)⟩ := by unfold refV; rw [eR]; rfl
  rw [eV]
  refine ⟨⟨hY, ⟨x1, x2⟩, ⟨y1, y2⟩, ⟨z1, z2⟩, ⟨u1, u2⟩, ⟨w1, w2⟩, ⟨f2, f3⟩⟩, ?_⟩
  conv => lhs; rw [hl]
  unfold isoL midL
  dsimp only
  rw [x3, y3, z3, u3, w3, ← f1]
  simp
theorem ref_shape (l : List UInt8) : refP l = shapeP l := by
  cases h : refP l with
  | none =>
    cases g : shapeP l with
    | none => rfl
    | some v =>
      obtain ⟨h1, h2⟩ := shape_back g
      rw [h2, ref_iso h1] at h; cases h
  | some v =>
    obtain ⟨h1, h2⟩ := ref_back h
    rw [h2, shape_iso h1]

/-! ### times of day -/
def timeOk (h mi s a : Int) : Bool := decide (0 ≤ h ∧ h < 24 ∧ 0 ≤ mi ∧ mi < 60 ∧ 0 ≤ a ∧ a < 1000000000000000000 ∧ (0 ≤ s ∧ s < 60 ∨ s = 60 ∧ h = 23 ∧ mi = 59))
def secOk (sec a : Int) : Bool := decide (0 ≤ sec ∧ sec ≤ 86400 ∧ 0 ≤ a ∧ a < 1000000000000000000)
def secM (sec : Int) : Int := if sec < 86399 then sec else 86399
def hrH (sec : Int) : Int := secM sec / 3600
def hrM (sec : Int) : Int := secM sec % 3600 / 60
def hrS (sec : Int) : Int := secM sec % 60 + sec - secM sec
theorem time_fwd {sec a : Int} (h : secOk sec a = true) : timeOk (hrH sec) (hrM sec) (hrS sec) a = true ∧ hrH sec * 3600 + hrM sec * 60 + hrS sec = sec := by
  unfold secOk at h
  rw [decide_eq_true_eq] at h
  unfold timeOk hrH hrM hrS secM
  rw [decide_eq_true_eq]
  split <;> omega
theorem time_back {h mi s a : Int} (ok : timeOk h mi s a = true) : secOk (h * 3600 + mi * 60 + s) a = true ∧ hrH (h * 3600 + mi * 60 + s) = h ∧ hrM (h * 3600 + mi * 60 + s) = mi ∧ hrS (h * 3600 + mi * 60 + s) = s := by
  unfold timeOk at ok
  rw [decide_eq_true_eq] at ok
  unfold secOk hrH hrM hrS secM
  rw [decide_eq_true_eq]
  split <;> omega
/-- The label of a day and a second of it, as its text has it. -/
def labV (n sec a : Int) : IsoV := ⟨gY n, gM n, gD n, hrH sec, hrM sec, hrS sec, a⟩
theorem labV_ok {n sec a : Int} (hn : inR n = true) (h : secOk sec a = true) : IsoOk (labV n sec a) := by
  have h1 := gY_in hn
  obtain ⟨h2, h3, h4, h5, _⟩ := date_in n
  have h6 := lenM_in (gY n) (gM n)
  have h7 := (time_fwd h).1
  unfold timeOk at h7
  rw [decide_eq_true_eq] at h7
  unfold labV
  exact ⟨by dsimp only; omega, by dsimp only; omega, by dsimp only; omega, by dsimp only; omega, by dsimp only; omega, by dsimp only; omega, by dsimp only; omega⟩
theorem iso_len {n sec a : Int} (hn : inR n = true) (h : secOk sec a = true) : (isoL (labV n sec a)).length ≤ 1000 := by
  have ok := labV_ok hn h
  have ky := gY_in hn
  have k1 : 0 ≤ gM n ∧ gM n < 100 := ok.mo
  have k2 : 0 ≤ gD n ∧ gD n < 100 := ok.d
  have k3 : 0 ≤ hrH sec ∧ hrH sec < 100 := ok.h
  have k4 : 0 ≤ hrM sec ∧ hrM sec < 100 := ok.mi
  have k5 : 0 ≤ hrS sec ∧ hrS sec < 100 := ok.s
  have k6 : 0 ≤ a ∧ a < 1000000000000000000 := ok.a
  have hy := year_len_le (y := gY n) (by omega)
  have hf := frac_len a (by omega)
  have p1 := padL_len (w := 2) (n := (gM n).toNat) (k := 1) (by omega) (by omega)
  have p2 := padL_len (w := 2) (n := (gD n).toNat) (k := 1) (by omega) (by omega)
  have p3 := padL_len (w := 2) (n := (hrH sec).toNat) (k := 1) (by omega) (by omega)
  have p4 := padL_len (w := 2) (n := (hrM sec).toNat) (k := 1) (by omega) (by omega)
  have p5 := padL_len (w := 2) (n := (hrS sec).toNat) (k := 1) (by omega) (by omega)
  unfold isoL midL labV
  simp only [List.length_append, List.length_cons, List.length_nil]
  omega
/-- What a text is read as. -/
def parE (l : List UInt8) : Int := match shapeP l with
  | none => 4
  | some v => if (dateOk v.y v.mo v.d && timeOk v.h v.mi v.s v.a) = true then dayE v.y v.mo v.d else 5
def parN (l : List UInt8) : Int := if parE l = 0 then (match shapeP l with
  | none => 0
  | some v => dayN v.y v.mo v.d) else 0
def parS (l : List UInt8) : Int := if parE l = 0 then (match shapeP l with
  | none => 0
  | some v => v.h * 3600 + v.mi * 60 + v.s) else 0
def parA (l : List UInt8) : Int := if parE l = 0 then (match shapeP l with
  | none => 0
  | some v => v.a) else 0
/-- What a text of the right shape is read as. -/
def resE (v : IsoV) : Int := if (dateOk v.y v.mo v.d && timeOk v.h v.mi v.s v.a) = true then dayE v.y v.mo v.d else 5
theorem par_none {l : List UInt8} (h : shapeP l = none) : parE l = 4 ∧ parN l = 0 ∧ parS l = 0 ∧ parA l = 0 := by
  have e : parE l = 4 := by unfold parE; rw [h]
  refine ⟨e, ?_, ?_, ?_⟩
  · unfold parN; rw [e]; rfl
  · unfold parS; rw [e]; rfl
  · unfold parA; rw [e]; rfl
theorem par_some {l : List UInt8} {v : IsoV} (h : shapeP l = some v) : parE l = resE v ∧ parN l = (if resE v = 0 then dayN v.y v.mo v.d else 0) ∧ parS l = (if resE v = 0 then v.h * 3600 + v.mi * 60 + v.s else 0) ∧ parA l = (if resE v = 0 then v.a else 0) := by
  have e : parE l = resE v := by unfold parE; rw [h]; rfl
  refine ⟨e, ?_, ?_, ?_⟩
  · unfold parN; rw [e, h]
  · unfold parS; rw [e, h]
  · unfold parA; rw [e, h]
theorem two5 {l : List UInt8} (h : l.length = 5) : twoOk l 45 = ok5 45 l ∧ (ok5 45 l = true → twoL l 45 = [at2 l 0, at2 l 3]) := by
  have e : twoOk l 45 = ok5 45 l := by
    unfold twoOk ok5
    rw [decide_eq_true h, Bool.true_or, Bool.and_true]
    have : decide (((l.getD 2 0).toNat : Int) = 45) = decide (l.getD 2 0 = 45) := by
      rw [decide_eq_decide, ← UInt8.toNat_inj]
      show _ ↔ (l.getD 2 0).toNat = 45
      omega
    rw [this]
  refine ⟨e, fun h2 => ?_⟩
  unfold twoL
  rw [e, if_pos h2, if_pos h]
theorem two8 {l : List UInt8} (h : l.length = 8) : twoOk l 58 = ok8 58 l ∧ (ok8 58 l = true → twoL l 58 = [at2 l 0, at2 l 3, at2 l 6]) := by
  have e : twoOk l 58 = ok8 58 l := by
    unfold twoOk ok8
    rw [decide_eq_false (show ¬ l.length = 5 by omega), Bool.false_or]
    have : ∀ i, decide (((l.getD i 0).toNat : Int) = 58) = decide (l.getD i 0 = 58) := fun i => by
      rw [decide_eq_decide, ← UInt8.toNat_inj]
      show _ ↔ (l.getD i 0).toNat = 58
      omega
    rw [this 2, this 5]
  refine ⟨e, fun h2 => ?_⟩
  unfold twoL
  rw [e, if_pos h2, if_neg (by omega)]
theorem par_print {n sec a : Int} (hn : inR n = true) (h : secOk sec a = true) : parE (isoL (labV n sec a)) = 0 ∧ parN (isoL (labV n sec a)) = n ∧ parS (isoL (labV n sec a)) = sec ∧ parA (isoL (labV n sec a)) = a := by
  have h1 := shape_iso (labV_ok hn h)
  obtain ⟨h2, h3⟩ := time_fwd h
  have e : parE (isoL (labV n sec a)) = 0 := by
    unfold parE
    rw [h1]
    dsimp only [labV]
    rw [date_ok, h2, if_pos (show (true && true) = true from rfl), dayE_date hn]
  refine ⟨e, ?_, ?_, ?_⟩
  · unfold parN; rw [if_pos e, h1]; exact dayN_date hn
  · unfold parS; rw [if_pos e, h1]; exact h3
  · unfold parA; rw [if_pos e, h1]; rfl
theorem par_same {l : List UInt8} (h : parE l = 0) : inR (parN l) = true ∧ secOk (parS l) (parA l) = true ∧ isoL (labV (parN l) (parS l) (parA l)) = l := by
  unfold parN parS parA
  rw [if_pos h, if_pos h, if_pos h]
  unfold parE at h
  cases g : shapeP l with
  | none => rw [g] at h; cases h
  | some v =>
    rw [g] at h
    dsimp only at h ⊢
    obtain ⟨ok, e⟩ := shape_back g
    by_cases hc : (dateOk v.y v.mo v.d && timeOk v.h v.mi v.s v.a) = true
    · rw [if_pos hc] at h
      rw [Bool.and_eq_true] at hc
      obtain ⟨_, _, r, hd⟩ := dayE_0 h
      obtain ⟨t1, t2, t3, t4⟩ := time_back hc.2
      obtain ⟨u1, u2, u3⟩ := uniq hc.1 (n := dayN v.y v.mo v.d) (by rw [hd, day_same hc.1])
      refine ⟨by rw [hd]; unfold inR; rw [decide_eq_true_eq]; exact r, t1, ?_⟩
      unfold labV
      rw [← u1, ← u2, ← u3, t2, t3, t4]
      exact e.symm
    · rw [if_neg hc] at h; cases h

/-! ### the order of texts -/
theorem lt_pre : ∀ (p a b : List UInt8), Op.bytesLess (p ++ a) (p ++ b) = Op.bytesLess a b
  | [], _, _ => rfl
  | c :: p, a, b => by
    rw [List.cons_append, List.cons_append, Op.bytesLess, lt_pre p a b]
    simp
theorem dig_lt {a b : UInt8} (ha : isDig a = true) (hb : isDig b = true) : (decide (a < b) = decide (dig a < dig b)) ∧ ((a == b) = decide (dig a = dig b)) := by
  unfold dig
  constructor
  · rw [decide_eq_decide, UInt8.lt_iff_toNat_lt]; omega
  · rw [Bool.eq_iff_iff, beq_iff_eq, decide_eq_true_eq, ← UInt8.toNat_inj]; omega
theorem lt_pad {m n : Int} (hm : 0 ≤ m ∧ m < 100) (hn : 0 ≤ n ∧ n < 100) (a b : List UInt8) : Op.bytesLess (padL 2 m.toNat ++ a) (padL 2 n.toNat ++ b) = (decide (m < n) || (decide (m = n) && Op.bytesLess a b)) := by
  obtain ⟨m1, m0, em, hm1, hm0, vm⟩ := pad2 hm
  obtain ⟨n1, n0, en, hn1, hn0, vn⟩ := pad2 hn
  obtain ⟨a1, a2⟩ := dig_lt hm1 hn1
  obtain ⟨b1, b2⟩ := dig_lt hm0 hn0
  rw [em, en]
  show (decide (m1 < n1) || (m1 == n1 && (decide (m0 < n0) || (m0 == n0 && Op.bytesLess a b)))) = _
  rw [a1, a2, b1, b2, ← vm, ← vn]
  have := dig_in hm1; have := dig_in hm0; have := dig_in hn1; have := dig_in hn0
  unfold n2
  cases Op.bytesLess a b <;> rw [Bool.eq_iff_iff] <;> simp <;> omega
theorem lt_iso {n n' sec sec' : Int} (hn : inR n = true) (hn' : inR n' = true) (h : secOk sec 0 = true) (h' : secOk sec' 0 = true) (hy : gY n = gY n') :
    Op.bytesLess (isoL (labV n sec 0)) (isoL (labV n' sec' 0)) = (decide (n < n') || (decide (n = n') && decide (sec < sec'))) := by
  have o := labV_ok hn h
  have o' := labV_ok hn' h'
  unfold isoL midL labV
  dsimp only
  rw [hy]
  simp only [List.cons_append, List.append_assoc]
  rw [lt_pre]
  have cc : ∀ (c : UInt8) (a b : List UInt8), Op.bytesLess (c :: a) (c :: b) = Op.bytesLess a b := fun c a b => lt_pre [c] a b
  have nn : Op.bytesLess (fracL 0 ++ [90]) (fracL 0 ++ [90]) = false := rfl
  have q1 : 0 ≤ gM n ∧ gM n < 100 := o.mo
  have q2 : 0 ≤ gD n ∧ gD n < 100 := o.d
  have q3 : 0 ≤ hrH sec ∧ hrH sec < 100 := o.h
  have q4 : 0 ≤ hrM sec ∧ hrM sec < 100 := o.mi
  have q5 : 0 ≤ hrS sec ∧ hrS sec < 100 := o.s
  have q1' : 0 ≤ gM n' ∧ gM n' < 100 := o'.mo
  have q2' : 0 ≤ gD n' ∧ gD n' < 100 := o'.d
  have q3' : 0 ≤ hrH sec' ∧ hrH sec' < 100 := o'.h
  have q4' : 0 ≤ hrM sec' ∧ hrM sec' < 100 := o'.mi
  have q5' : 0 ≤ hrS sec' ∧ hrS sec' < 100 := o'.s
  rw [cc, lt_pad q1 q1', cc, lt_pad q2 q2', cc, lt_pad q3 q3', cc, lt_pad q4 q4', cc, lt_pad q5 q5', nn]
  clear q1 q2 q3 q4 q5 q1' q2' q3' q4' q5' o o'
  obtain ⟨a1, a2, a3, a4, a5, _, _⟩ := date_in n
  obtain ⟨b1, b2, b3, b4, b5, _, _⟩ := date_in n'
  rw [← hy] at b4 b5
  have hD : (n < n' ↔ gM n < gM n' ∨ gM n = gM n' ∧ gD n < gD n') ∧ (n = n' ↔ gM n = gM n' ∧ gD n = gD n') := by
    have step : ∀ {p q d e : Int}, 1 ≤ p → q ≤ 12 → p < q → d ≤ lenM (gY n) p → 1 ≤ e → sumL (gY n) p + d < sumL (gY n) q + e := by
      intro p q d e hp hq hpq hd he
      have h1 := sumL_next (gY n) p (by omega)
      have h2 := sumL_mono (gY n) (q - (p + 1)).toNat (p + 1) (by omega) (by omega)
      rw [show p + 1 + ((q - (p + 1)).toNat : Int) = q by omega] at h2
      omega
    have cases3 : gM n < gM n' ∨ gM n = gM n' ∨ gM n' < gM n := by omega
    rcases cases3 with c | c | c
    · have := step a1 b2 c a4 b3
      omega
    · rw [c] at a5 ⊢
      omega
    · have := step b1 a2 c b4 a3
      omega
  have hS : (sec < sec' ↔ hrH sec < hrH sec' ∨ hrH sec = hrH sec' ∧ (hrM sec < hrM sec' ∨ hrM sec = hrM sec' ∧ hrS sec < hrS sec')) := by
    unfold secOk at h h'
    rw [decide_eq_true_eq] at h h'
    unfold hrH hrM hrS secM
    split <;> split <;> omega
  rw [Bool.eq_iff_iff]
  simp only [Bool.or_eq_true, Bool.and_eq_true, decide_eq_true_eq, Bool.and_false, Bool.or_false]
  rw [hD.1, hD.2, hS]
  omega
end Go.Sy
