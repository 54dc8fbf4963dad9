/-
  A slice of structs (of numbers, flags, texts, slices of numbers, and structs of these) as a claim opens it.
-/
import Derived.Test.YtldofkogmkfpjaaGreatDoorWSyB
import Derived.OpenShut
import Derived.SliceStrings
import Derived.ChangeSame
import Derived.ChangeSlices
namespace Go.Sy
open Go Go.Ev Go.ChangeShapes Go.WideShapes
set_option linter.unusedVariables false
set_option linter.unusedSimpArgs false

def fieldsK (P : Program) (g : TypeId → Option (List Kd)) : List Field → Nat → Option (List Kd)
  | [], _ => some []
  | f :: fs, off => match g f.type with
    | some ks => if f.offset = off ∧ P.cellsOf f.type = ks.length then (fieldsK P g fs (off + ks.length)).map (ks ++ ·) else none
    | none => none
/-- The kinds of the cells of a type. -/
def kdsOf (P : Program) : Nat → TypeId → Option (List Kd)
  | 0, _ => none
  | n + 1, t => match P.underlying t with
    | some (.int k) => some [.int k]
    | some .bool => some [.bool]
    | some .string => some [.str]
    | some (.slice e) => match P.underlying e with
      | some (.int k) => if P.cellsOf e = 1 then some [.ints k] else none
      | _ => none
    | some (.struct fs) => match fieldsK P (kdsOf P n) fs.toList 0 with
      | some ks => if P.cellsOf t = ks.length then some ks else none
      | none => none
    | _ => none
def Kd.wfK : Kd → D → Prop
  | .int k, x => (Lit.int k x.toI).wf = true
  | .bool, _ => True
  | .str, x => x.toS.size ≤ maxLen
  | .ints k, x => x.toL.length ≤ maxLen ∧ ∀ n ∈ x.toL, (Lit.int k n).wf = true
def Kd.wt : Kd → D → Nat
  | .int _, _ => 1
  | .bool, _ => 1
  | .str, x => x.toS.size + 1
  | .ints _, x => x.toL.length + 1
def wtL : List Kd → List D → Nat
  | k :: ks, x :: r => k.wt x + wtL ks r
  | _, _ => 0
inductive OpenL (C : Cfg) (W : World) : List Kd → List Value → List D → Prop
  | nil : OpenL C W [] [] []
  | cons {k : Kd} {ks : List Kd} {v : Value} {cs : List Value} {x : D} {r : List D} (h : RepI C (memOf W) (k.den x) v) (hw : k.wfK x) (t : OpenL C W ks cs r) : OpenL C W (k :: ks) (v :: cs) (x :: r)
theorem OpenL.app {C : Cfg} {W : World} {ks ks' : List Kd} {cs cs' : List Value} {r r' : List D} (h : OpenL C W ks cs r) (h' : OpenL C W ks' cs' r') : OpenL C W (ks ++ ks') (cs ++ cs') (r ++ r') := by
  induction h with
  | nil => exact h'
  | cons h hw t ih => exact .cons h hw ih
theorem OpenL.len {C : Cfg} {W : World} {ks : List Kd} {cs : List Value} {r : List D} (h : OpenL C W ks cs r) : cs.length = ks.length ∧ r.length = ks.length := by
  induction h with
  | nil => exact ⟨rfl, rfl⟩
  | cons h hw t ih => simp only [List.length_cons]; omega
theorem OpenL.wtA {C : Cfg} {W : World} {ks ks' : List Kd} {cs cs' : List Value} {r r' : List D} (h : OpenL C W ks cs r) (h' : OpenL C W ks' cs' r') : wtL (ks ++ ks') (r ++ r') = wtL ks r + wtL ks' r' := by
  induction h with
  | nil => simp [wtL]
  | cons h hw t ih => simp only [List.cons_append, wtL]; rw [ih]; omega
theorem OpenL.at {C : Cfg} {W : World} {ks : List Kd} {cs : List Value} {r : List D} (h : OpenL C W ks cs r) : ∀ (i : Nat) (hi : i < ks.length) (hc : i < cs.length), RepI C (memOf W) (ks[i].den (r.getD i (.i 0))) cs[i] ∧ ks[i].wfK (r.getD i (.i 0)) := by
  induction h with
  | nil => exact fun i hi => absurd hi (Nat.not_lt_zero _)
  | cons h hw t ih =>
    intro i hi hc
    cases i with
    | zero => exact ⟨h, hw⟩
    | succ i => exact ih i (by simpa using hi) (by simpa using hc)
structure BulkOk {H : Type} (B : DataW H → Nat) (BA : List (DataW H) → Nat) : Prop where
  lit : ∀ l, 1 ≤ B (.lit l)
  str : ∀ b : List UInt8, b.length + 1 ≤ B (.lit (.string b))
  nil : 1 ≤ B .nil
  slice : ∀ e s, BA e + 1 ≤ B (.slice e s)
  agg : ∀ p, BA p ≤ B (.agg p)
  bcons : ∀ d r, BA (d :: r) = B d + BA r
section
variable {H : Type} {enc : TypeId × Value → H} {P : Program} {W : World} {spare : Nat → Bool} {held : Bool} {C : Cfg}
theorem blk_lt {b o : Nat} {v : Value} (h : W.cell? ⟨b, o, none⟩ = some v) : b < W.heap.size := by
  rcases Nat.lt_or_ge b W.heap.size with g | g
  · exact g
  · simp [World.cell?, Array.getElem?_eq_none g] at h
theorem rep_ints {k : IntKind} {a : Addr} {len cap : Nat} {zs : List Int} (hle : len ≤ cap) (hlz : len ≤ zs.length)
    (hcell : ∀ i, i < zs.length → W.cell? (a.add i) = some (.int k (zs.getD i 0))) : RepI C (memOf W) (.list (zs.take len).length (IL k (zs.take len))) (.slice (some a) len cap) := by
  have hl : (zs.take len).length = len := by rw [List.length_take]; omega
  rw [hl]
  by_cases h0 : len = 0
  · subst h0
    exact .list (some a) 0 cap [] 0 0 (fun _ => undef) (Nat.zero_le _) (fun h => absurd rfl h) (fun i hi => absurd hi (Nat.not_lt_zero _)) (fun i hi => absurd hi (Nat.not_lt_zero _))
  obtain ⟨b, off, spot⟩ := a
  have hspot : spot = none := by simpa [Addr.add] using World.cell?_spot (hcell 0 (by omega))
  subst hspot
  have hc : ∀ j, j < zs.length → W.cell? ⟨b, off + j, none⟩ = some (.int k (zs.getD j 0)) := fun j hj => by rw [← Go.WideShapes.add_plain]; exact hcell j hj
  have hlen : (IL k (zs.take len)).length = len := by rw [IL_length, hl]
  refine .list _ len cap _ b off (fun i => .int k (zs.getD i 0)) hle (fun _ => rfl) (fun i hi => ⟨blk_lt (hc i (by omega)), hc i (by omega)⟩) (fun i hi => ?_)
  have hg := IL_get k (zs.take len) (i := i) (by omega)
  rw [List.getElem?_eq_getElem hi] at hg
  rw [Option.some.inj hg]
  have e : (zs.take len).getD i 0 = zs.getD i 0 := by
    rw [List.getD_eq_getElem?_getD, List.getElem?_take_of_lt (by omega), ← List.getD_eq_getElem?_getD]
  rw [e]
  exact .lit _
theorem BA_len {B : DataW H → Nat} {BA : List (DataW H) → Nat} (hB : BulkOk B BA) : ∀ l : List (DataW H), (∀ d ∈ l, 1 ≤ B d) → l.length ≤ BA l
  | [], _ => Nat.zero_le _
  | d :: l, h => by
    have := BA_len hB l fun x hx => h x (List.mem_cons_of_mem _ hx)
    have := h d (List.mem_cons_self ..)
    rw [hB.bcons, List.length_cons]; omega
theorem lits_len (k : IntKind) (zs : List Int) : (lits (H := H) k zs).length = zs.length := by simp [lits]
theorem open_slice {B : DataW H → Nat} {BA : List (DataW H) → Nat} (hB : BulkOk B BA) {t e : TypeId} {k : IntKind} {fuel : Nat} {cs : List Value} {x : DataW H × List MemPlace} (ht : P.underlying t = some (.slice e)) (he : P.underlying e = some (.int k)) (hc : P.cellsOf e = 1)
    (h : DataW.trod enc P W 0 spare held fuel t cs = some x) : ∃ (v : Value) (l : List Int), cs = [v] ∧ RepI C (memOf W) (.list l.length (IL k l)) v ∧ l.length ≤ maxLen ∧ (∀ n ∈ l, (Lit.int k n).wf = true) ∧ l.length + 1 ≤ B x.1 := by
  rcases open_ints ht he hc h with ⟨rfl, rfl⟩ | ⟨a, len, cap, zs, rfl, _, hl, hm, hlen, rfl, hcell, hwf⟩
  · refine ⟨_, [], rfl, ?_, Nat.zero_le _, (fun n hn => by cases hn), hB.nil⟩
    exact .list none 0 0 [] 0 0 (fun _ => undef) (Nat.le_refl _) (fun h => absurd rfl h) (fun i hi => absurd hi (Nat.not_lt_zero _)) (fun i hi => absurd hi (Nat.not_lt_zero _))
  · have hlz : len ≤ zs.length := by rw [hlen]; split <;> omega
    have hl2 : (zs.take len).length = len := by rw [List.length_take]; omega
    refine ⟨_, zs.take len, rfl, rep_ints hl hlz hcell, by omega, fun n hn => hwf n (List.mem_of_mem_take hn), ?_⟩
    refine Nat.le_trans ?_ (hB.slice _ _)
    have := BA_len hB (lits k (zs.take len)) (fun d hd => by
      unfold lits at hd
      obtain ⟨z, _, rfl⟩ := List.mem_map.1 hd
      exact hB.lit _)
    rw [lits_len] at this
    omega
theorem fields_open {B : DataW H → Nat} {BA : List (DataW H) → Nat} (hB : BulkOk B BA) {g : TypeId → Option (List Kd)} {fuel : Nat} {cs : List Value}
    (hg : ∀ t ks, g t = some ks → ∀ fuel cs x, DataW.trod enc P W 0 spare held fuel t cs = some x → ∃ r, OpenL C W ks cs r ∧ wtL ks r ≤ B x.1) :
    ∀ (fl : List Field) (off : Nat) (ks : List Kd) (xs : List (DataW H × List MemPlace)), fieldsK P g fl off = some ks → xs.length = fl.length →
      (∀ (i : Nat) (f : Field), fl[i]? = some f → DataW.trod enc P W 0 spare held fuel f.type ((cs.drop f.offset).take (P.cellsOf f.type)) = xs[i]?) → ∃ r, OpenL C W ks ((cs.drop off).take ks.length) r ∧ wtL ks r ≤ BA (xs.map (·.1))
  | [], off, ks, xs, hk, hl, h => by
    cases hk
    exact ⟨[], by simpa using OpenL.nil, by simp [wtL]⟩
  | f :: fl, off, ks, [], hk, hl, h => by simp at hl
  | f :: fl, off, ks, x :: xs, hk, hl, h => by
    rw [fieldsK] at hk
    split at hk
    · rename_i k1 hk1
      split at hk
      · rename_i hoff
        obtain ⟨k2, hk2, rfl⟩ := Option.map_eq_some_iff.1 hk
        have h0 := h 0 f rfl
        rw [hoff.1, hoff.2] at h0
        obtain ⟨r1, o1, w1⟩ := hg f.type k1 hk1 _ _ x h0
        obtain ⟨r2, o2, w2⟩ := fields_open hB hg fl (off + k1.length) k2 xs hk2 (by simpa using hl) fun i f' hf => by
          have := h (i + 1) f' (by simpa using hf)
          simpa using this
        refine ⟨r1 ++ r2, ?_, ?_⟩
        · rw [List.length_append, List.take_add, List.drop_drop]
          exact o1.app o2
        · rw [o1.wtA o2, List.map_cons, hB.bcons]
          omega
      · cases hk
    · cases hk
theorem open_kds {B : DataW H → Nat} {BA : List (DataW H) → Nat} (hB : BulkOk B BA) : ∀ (n : Nat) (t : TypeId) (ks : List Kd), kdsOf P n t = some ks → ∀ (fuel : Nat) (cs : List Value) (x : DataW H × List MemPlace), DataW.trod enc P W 0 spare held fuel t cs = some x →
    ∃ r, OpenL C W ks cs r ∧ wtL ks r ≤ B x.1
  | 0, t, ks, hk, _, _, _, _ => by cases hk
  | n + 1, t, ks, hk, fuel, cs, x, h => by
    rw [kdsOf] at hk
    split at hk
    · rename_i k hu
      cases hk
      obtain ⟨z, rfl, rfl, hw⟩ := DataW.trod_int hu h
      exact ⟨[.i z], .cons (.lit _) hw .nil, by simpa [wtL, Kd.wt] using hB.lit _⟩
    · rename_i hu
      cases hk
      cases fuel with
      | zero => simp [DataW.trod] at h
      | succ fuel =>
        unfold DataW.trod at h
        rw [hu] at h
        split at h <;> simp_all
        rename_i b
        subst h
        exact ⟨[.b b], .cons (.lit _) trivial .nil, by simpa [wtL, Kd.wt] using hB.lit _⟩
    · rename_i hu
      cases hk
      cases fuel with
      | zero => simp [DataW.trod] at h
      | succ fuel =>
        unfold DataW.trod at h
        rw [hu] at h
        split at h <;> simp_all
        rename_i s
        obtain ⟨h1, h2⟩ := h
        subst h2
        refine ⟨[.s s], .cons (.lit _) h1 .nil, ?_⟩
        have := hB.str s.data.toList
        have e : s.data.toList.length = s.size := Array.length_toList
        simp only [wtL, Kd.wt, D.toS]
        omega
    · rename_i e hu
      split at hk
      · rename_i k hue
        split at hk
        · rename_i hc
          cases hk
          obtain ⟨v, l, rfl, hr, hm, hw, hb⟩ := open_slice (C := C) hB hu hue hc h
          exact ⟨[.l l], .cons hr ⟨hm, hw⟩ .nil, by simpa [wtL, Kd.wt, D.toL] using hb⟩
        · cases hk
      · cases hk
    · rename_i fs hu
      split at hk
      · rename_i ks' hks
        split at hk
        · rename_i hC
          cases hk
          obtain ⟨xs, m, rfl, rfl, hl, hxs, hf⟩ := DataW.trod_struct hu h
          obtain ⟨r, o, w⟩ := fields_open (fuel := m) (cs := cs) hB (fun t ks hk fuel cs x h => open_kds hB n t ks hk fuel cs x h) fs.toList 0 ks xs hks (by simpa using hxs) fun i f hi => hf i f (by simpa using hi)
          rw [List.drop_zero, List.take_of_length_le (by omega)] at o
          exact ⟨r, o, Nat.le_trans w (hB.agg _)⟩
        · cases hk
      · cases hk
    · cases hk
theorem gd_app1' {α : Type} {l l' : List α} {i : Nat} {d : α} (h : i < l.length) : (l ++ l').getD i d = l.getD i d := by
  rw [List.getD_eq_getElem?_getD, List.getElem?_append_left h, ← List.getD_eq_getElem?_getD]
theorem gd_app2' {α : Type} {l l' : List α} {i : Nat} {d : α} (h : l.length ≤ i) : (l ++ l').getD i d = l'.getD (i - l.length) d := by
  rw [List.getD_eq_getElem?_getD, List.getElem?_append_right h, ← List.getD_eq_getElem?_getD]
theorem choose_list {α : Type} {p : Nat → α → Prop} (d : α) : ∀ n : Nat, (∀ i, i < n → ∃ a, p i a) → ∃ L : List α, L.length = n ∧ ∀ i, i < n → p i (L.getD i d)
  | 0, _ => ⟨[], rfl, fun i hi => absurd hi (Nat.not_lt_zero _)⟩
  | n + 1, h => by
    obtain ⟨L, hl, hL⟩ := choose_list d n fun i hi => h i (by omega)
    obtain ⟨a, ha⟩ := h n (by omega)
    refine ⟨L ++ [a], by simp [hl], fun i hi => ?_⟩
    by_cases e : i = n
    · subst e
      rw [gd_app2' (by omega), hl, Nat.sub_self]
      exact ha
    · rw [gd_app1' (by omega)]
      exact hL i (by omega)
theorem sum_BA {B : DataW H → Nat} {BA : List (DataW H) → Nat} (hB : BulkOk B BA) (ks : List Kd) : ∀ (ds : List (DataW H)) (L : List (List D)), L.length = ds.length → (∀ i d, ds[i]? = some d → wtL ks (L.getD i []) ≤ B d) → (L.map (wtL ks)).sum ≤ BA ds
  | [], [], _, _ => Nat.zero_le _
  | [], _ :: _, h, _ => by simp at h
  | _ :: _, [], h, _ => by simp at h
  | d :: ds, r :: L, hl, h => by
    have h0 := h 0 d rfl
    have := sum_BA hB ks ds L (by simpa using hl) fun i d' hd => by simpa using h (i + 1) d' (by simpa using hd)
    rw [List.map_cons, List.sum_cons, hB.bcons]
    have h0 : wtL ks r ≤ B d := h0
    omega
theorem cellsK_at (row : List D) : ∀ (ks : List Kd) (j i : Nat) (h : i < ks.length) (h' : i < (cellsK row ks j).length), (cellsK row ks j)[i] = ks[i].den (row.getD (j + i) (.i 0))
  | [], j, i, h, _ => absurd h (Nat.not_lt_zero _)
  | k :: ks, j, 0, h, _ => rfl
  | k :: ks, j, i + 1, h, h' => by
    have := cellsK_at row ks (j + 1) i (by simpa using h) (by simpa [cellsK] using h')
    simp only [cellsK, List.getElem_cons_succ]
    rw [this, show j + 1 + i = j + (i + 1) by omega]
theorem rows_flat_at (ks : List Kd) (hz : 0 < ks.length) : ∀ (L : List (List D)) (i : Nat) (h : i < (rowsL ks L).length), ∃ (h1 : i % ks.length < ks.length), i / ks.length < L.length ∧ (rowsL ks L)[i] = (ks[i % ks.length]).den ((L.getD (i / ks.length) []).getD (i % ks.length) (.i 0))
  | [], i, h => absurd h (Nat.not_lt_zero _)
  | r :: L, i, h => by
    have hm := Nat.mod_lt i hz
    refine ⟨hm, ?_⟩
    have hl := rowsL_length ks (r :: L)
    by_cases hi : i < ks.length
    · have e1 : i / ks.length = 0 := Nat.div_eq_of_lt hi
      have e2 : i % ks.length = i := Nat.mod_eq_of_lt hi
      refine ⟨by rw [e1]; simp, ?_⟩
      simp only [rowsL_cons]
      rw [List.getElem_append_left (by rw [cellsK_length]; exact hi), cellsK_at r ks 0 i hi]
      simp only [e1, e2, Nat.zero_add]; rfl
    · have e1 : i / ks.length = (i - ks.length) / ks.length + 1 := by rw [Nat.div_eq i ks.length, if_pos ⟨hz, by omega⟩]
      have e2 : i % ks.length = (i - ks.length) % ks.length := Nat.mod_eq_sub_mod (by omega)
      have hlt : i - ks.length < (rowsL ks L).length := by
        rw [rowsL_cons, List.length_append, cellsK_length] at h; omega
      obtain ⟨g1, g2, g3⟩ := rows_flat_at ks hz L (i - ks.length) hlt
      refine ⟨by rw [e1, List.length_cons]; omega, ?_⟩
      simp only [rowsL_cons]
      rw [List.getElem_append_right (by rw [cellsK_length]; omega)]
      simp only [cellsK_length]
      rw [g3]
      simp only [e1, e2]; rfl
/-- The slice's cell stands for rows. -/
theorem open_rows {B : DataW H → Nat} {BA : List (DataW H) → Nat} (hB : BulkOk B BA) {t e : TypeId} {n : Nat} {ks : List Kd} {fuel : Nat} {c : Value} {x : DataW H × List MemPlace} (ht : P.underlying t = some (.slice e)) (hk : kdsOf P n e = some ks) (hC : P.cellsOf e = ks.length) (hz : 0 < ks.length)
    (h : DataW.trod enc P W 0 spare held fuel t [c] = some x) :
    ∃ L : List (List D), L.length ≤ maxLen ∧ (∀ r ∈ L, r.length = ks.length ∧ ∀ (i : Nat) (hi : i < ks.length), ks[i].wfK (r.getD i (.i 0))) ∧ (L.map (wtL ks)).sum + 1 ≤ B x.1 ∧ RepC C id (memOf W) (Cl.rows ks L).den c := by
  rcases DataW.trod_slice ht h with ⟨h0, rfl⟩ | ⟨a, len, cap, elems, rest, n', _, hc, rfl, hb, hl, hm, hlen, hel, hsp, hns⟩
  · cases h0
    refine ⟨[], Nat.zero_le _, (fun r hr => by cases hr), hB.nil, ?_⟩
    exact RepC.of_I (μ := id) (.list none 0 0 [] 0 0 (fun _ => undef) (Nat.le_refl _) (fun h => absurd rfl h) (fun i hi => absurd hi (Nat.not_lt_zero _)) (fun i hi => absurd hi (Nat.not_lt_zero _)))
  cases hc
  have each : ∀ i, i < len → ∃ r : List D, r.length = ks.length ∧ (∀ (j : Nat) (hj : j < ks.length), (∃ v, W.cell? ((a.add (i * ks.length)).add j) = some v ∧ RepI C (memOf W) (ks[j].den (r.getD j (.i 0))) v) ∧ ks[j].wfK (r.getD j (.i 0))) ∧ ∀ d, (elems.map (·.1))[i]? = some d → wtL ks r ≤ B d := by
    intro i hi
    have hi' : i < elems.length := by omega
    have := hel i hi
    rw [List.getElem?_eq_getElem hi', hC, Option.bind_eq_some_iff] at this
    obtain ⟨cs, hcs, hy⟩ := this
    obtain ⟨r, o, w⟩ := open_kds (C := C) hB n e ks hk _ _ _ hy
    obtain ⟨l1, l2⟩ := o.len
    refine ⟨r, l2, fun j hj => ?_, fun d hd => ?_⟩
    · obtain ⟨q1, q2⟩ := o.at j hj (by omega)
      unfold World.cells? at hcs
      split at hcs
      · have g0 := mapM_some_get hcs j j (by simp [hj])
        rw [List.getElem?_eq_getElem (by omega)] at g0
        exact ⟨⟨_, g0, q1⟩, q2⟩
      · cases hcs
    · rw [List.getElem?_map, List.getElem?_eq_getElem hi'] at hd
      cases hd
      exact w
  obtain ⟨L, hL, hLs⟩ := choose_list ([] : List D) len each
  have hbulk : (L.map (wtL ks)).sum + 1 ≤ B (.slice (elems.map (·.1)) (rest.map (·.1))) := by
    have := sum_BA hB ks (elems.map (·.1)) L (by rw [List.length_map]; omega) fun i d hd => by
      have hi : i < len := by
        rcases Nat.lt_or_ge i len with g | g
        · exact g
        · rw [List.getElem?_eq_none (by rw [List.length_map]; omega)] at hd; cases hd
      exact (hLs i hi).2.2 d hd
    have := hB.slice (elems.map (·.1)) (rest.map (·.1))
    omega
  refine ⟨L, by omega, fun r hr => ?_, hbulk, ?_⟩
  · obtain ⟨i, hi, rfl⟩ := List.getElem_of_mem hr
    have := hLs i (by omega)
    rw [List.getD_eq_getElem?_getD, List.getElem?_eq_getElem hi] at this
    exact ⟨this.1, fun j hj => (this.2.1 j hj).2⟩
  show RepC C id (memOf W) (.list L.length (rowsL ks L)) _
  by_cases h0 : len = 0
  · subst h0
    have : L = [] := List.length_eq_zero_iff.1 hL
    subst this
    exact RepC.of_I (μ := id) (.list (some a) 0 cap [] 0 0 (fun _ => undef) (Nat.zero_le _) (fun h => absurd rfl h) (fun i hi => absurd hi (Nat.not_lt_zero _)) (fun i hi => absurd hi (Nat.not_lt_zero _)))
  obtain ⟨b, off, spot⟩ := a
  have hspot : spot = none := by
    obtain ⟨v, e0, _⟩ := ((hLs 0 (by omega)).2.1 0 hz).1
    simpa [Addr.add] using World.cell?_spot e0
  subst hspot
  have hcell : ∀ i (hi : i < (rowsL ks L).length), ∃ v, W.cell? ⟨b, off + i, none⟩ = some v ∧ RepI C (memOf W) ((rowsL ks L)[i]) v := by
    intro i hi
    obtain ⟨g1, g2, g3⟩ := rows_flat_at ks hz L i hi
    obtain ⟨v, e0, hr⟩ := ((hLs (i / ks.length) (by omega)).2.1 (i % ks.length) g1).1
    refine ⟨v, ?_, by rw [g3]; exact hr⟩
    have hd : i / ks.length * ks.length + i % ks.length = i := Nat.div_add_mod' i ks.length
    have e : (((⟨b, off, none⟩ : Addr).add (i / ks.length * ks.length)).add (i % ks.length)) = ⟨b, off + i, none⟩ := by
      rw [Go.WideShapes.add_plain, Go.WideShapes.add_plain, Nat.add_assoc, hd]
    rw [e] at e0
    exact e0
  rw [hL]
  refine RepC.of_I (μ := id) (.list (some ⟨b, off, none⟩) len cap _ b off (fun i => (W.cell? ⟨b, off + i, none⟩).getD undef) hl (fun _ => rfl) (fun i hi => ?_) (fun i hi => ?_))
  · obtain ⟨v, e, _⟩ := hcell i hi
    rw [e]
    exact ⟨blk_lt e, e⟩
  · obtain ⟨v, e, hr⟩ := hcell i hi
    rw [e]
    exact hr
end
end Go.Sy
