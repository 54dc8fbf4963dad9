/-
  A slice of structs (of numbers, flags, texts, slices of numbers, and structs of these) as a claim opens it.
-/
import Derived.Test.YtldofkogmkfpjaaGreatDoorWSyB
import Derived.OpenShut
import Derived.SliceStrings
import Derived.ChangeSame
import Derived.ChangeSlices
namespace Go.Sy
open Go Go.Ev Go.ChangeShapes Go.WideShapes
set_option linter.unusedVariables false
set_option linter.unusedSimpArgs false

def Kd.wfK : Kd → D → Prop
  | .int k, x => (Lit.int k x.toI).wf = true
  | .bool, _ => True
  | .str, x => x.toS.size ≤ maxLen
  | .ints k, x => x.toL.length ≤ maxLen ∧ ∀ n ∈ x.toL, (Lit.int k n).wf = true
inductive OpenL (C : Cfg) (W : World) : List Kd → List Value → List D → Prop
  | nil : OpenL C W [] [] []
  | cons {k : Kd} {ks : List Kd} {v : Value} {cs : List Value} {x : D} {r : List D} (h : RepI C (memOf W) (k.den x) v) (hw : k.wfK x) (t : OpenL C W ks cs r) : OpenL C W (k :: ks) (v :: cs) (x :: r)
theorem OpenL.app {C : Cfg} {W : World} {ks ks' : List Kd} {cs cs' : List Value} {r r' : List D} (h : OpenL C W ks cs r) (h' : OpenL C W ks' cs' r') : OpenL C W (ks ++ ks') (cs ++ cs') (r ++ r') := by
  induction h with
  | nil => exact h'
  | cons h hw t ih => exact .cons h hw ih
theorem OpenL.len {C : Cfg} {W : World} {ks : List Kd} {cs : List Value} {r : List D} (h : OpenL C W ks cs r) : cs.length = ks.length ∧ r.length = ks.length := by
  induction h with
  | nil => exact ⟨rfl, rfl⟩
  | cons h hw t ih => simp only [List.length_cons]; omega
theorem OpenL.at {C : Cfg} {W : World} {ks : List Kd} {cs : List Value} {r : List D} (h : OpenL C W ks cs r) : ∀ (i : Nat) (hi : i < ks.length) (hc : i < cs.length), RepI C (memOf W) (ks[i].den (r.getD i (.i 0))) cs[i] ∧ ks[i].wfK (r.getD i (.i 0)) := by
  induction h with
  | nil => exact fun i hi => absurd hi (Nat.not_lt_zero _)
  | cons h hw t ih =>
    intro i hi hc
    cases i with
    | zero => exact ⟨h, hw⟩
    | succ i => exact ih i (by simpa using hi) (by simpa using hc)
structure BulkOk {H : Type} (B : DataW H → Nat) (BA : List (DataW H) → Nat) : Prop where
  lit : ∀ l, 1 ≤ B (.lit l)
  str : ∀ b : List UInt8, b.length + 1 ≤ B (.lit (.string b))
  nil : 1 ≤ B .nil
  slice : ∀ e s, BA e + 1 ≤ B (.slice e s)
  agg : ∀ p, BA p ≤ B (.agg p)
  bcons : ∀ d r, BA (d :: r) = B d + BA r
section
variable {H : Type} {enc : TypeId × Value → H} {P : Program} {W : World} {spare : Nat → Bool} {held : Bool} {C : Cfg}
theorem blk_lt {b o : Nat} {v : Value} (h : W.cell? ⟨b, o, none⟩ = some v) : b < W.heap.size := by
  rcases Nat.lt_or_ge b W.heap.size with g | g
  · exact g
  · simp [World.cell?, Array.getElem?_eq_none g] at h
theorem rep_ints {k : IntKind} {a : Addr} {len cap : Nat} {zs : List Int} (hle : len ≤ cap) (hlz : len ≤ zs.length)
    (hcell : ∀ i, i < zs.length → W.cell? (a.add i) = some (.int k (zs.getD i 0))) : RepI C (memOf W) (.list (zs.take len).length (IL k (zs.take len))) (.slice (some a) len cap) := by
  have hl : (zs.take len).length = len := by rw [List.length_take]; omega
  rw [hl]
  by_cases h0 : len = 0
  · subst h0
    exact .list (some a) 0 cap [] 0 0 (fun _ => undef) (Nat.zero_le _) (fun h => absurd rfl h) (fun i hi => absurd hi (Nat.not_lt_zero _)) (fun i hi => absurd hi (Nat.not_lt_zero _))
  obtain ⟨b, off, spot⟩ := a
  have hspot : spot = none := by simpa [Addr.add] using World.cell?_spot (hcell 0 (by omega))
  subst hspot
  have hc : ∀ j, j < zs.length → W.cell? ⟨b, off + j, none⟩ = some (.int k (zs.getD j 0)) := fun j hj => by rw [← Go.WideShapes.add_plain]; exact hcell j hj
  have hlen : (IL k (zs.take len)).length = len := by rw [IL_length, hl]
  refine .list _ len cap _ b off (fun i => .int k (zs.getD i 0)) hle (fun _ => rfl) (fun i hi => ⟨blk_lt (hc i (by omega)), hc i (by omega)⟩) (fun i hi => ?_)
  have hg := IL_get k (zs.take len) (i := i) (by omega)
  rw [List.getElem?_eq_getElem hi] at hg
  rw [Option.some.inj hg]
  have e : (zs.take len).getD i 0 = zs.getD i 0 := by
    rw [List.getD_eq_getElem?_getD, List.getElem?_take_of_lt (by omega), ← List.getD_eq_getElem?_getD]
  rw [e]
  exact .lit _
theorem BA_len {B : DataW H → Nat} {BA : List (DataW H) → Nat} (hB : BulkOk B BA) : ∀ l : List (DataW H), (∀ d ∈ l, 1 ≤ B d) → l.length ≤ BA l
  | [], _ => Nat.zero_le _
  | d :: l, h => by
    have := BA_len hB l fun x hx => h x (List.mem_cons_of_mem _ hx)
    have := h d (List.mem_cons_self ..)
    rw [hB.bcons, List.length_cons]; omega
theorem lits_len (k : IntKind) (zs : List Int) : (lits (H := H) k zs).length = zs.length := by simp [lits]
theorem open_slice {B : DataW H → Nat} {BA : List (DataW H) → Nat} (hB : BulkOk B BA) {t e : TypeId} {k : IntKind} {fuel : Nat} {cs : List Value} {x : DataW H × List MemPlace} (ht : P.underlying t = some (.slice e)) (he : P.underlying e = some (.int k)) (hc : P.cellsOf e = 1)
    (h : DataW.trod enc P W 0 spare held fuel t cs = some x) : ∃ (v : Value) (l : List Int), cs = [v] ∧ RepI C (memOf W) (.list l.length (IL k l)) v ∧ l.length ≤ maxLen ∧ (∀ n ∈ l, (Lit.int k n).wf = true) ∧ l.length + 1 ≤ B x.1 := by
  rcases open_ints ht he hc h with ⟨rfl, rfl⟩ | ⟨a, len, cap, zs, rfl, _, hl, hm, hlen, rfl, hcell, hwf⟩
  · refine ⟨_, [], rfl, ?_, Nat.zero_le _, (fun n hn => by cases hn), hB.nil⟩
    exact .list none 0 0 [] 0 0 (fun _ => undef) (Nat.le_refl _) (fun h => absurd rfl h) (fun i hi => absurd hi (Nat.not_lt_zero _)) (fun i hi => absurd hi (Nat.not_lt_zero _))
  · have hlz : len ≤ zs.length := by rw [hlen]; split <;> omega
    have hl2 : (zs.take len).length = len := by rw [List.length_take]; omega
    refine ⟨_, zs.take len, rfl, rep_ints hl hlz hcell, by omega, fun n hn => hwf n (List.mem_of_mem_take hn), ?_⟩
    refine Nat.le_trans ?_ (hB.slice _ _)
    have := BA_len hB (lits k (zs.take len)) (fun d hd => by
      unfold lits at hd
      obtain ⟨z, _, rfl⟩ := List.mem_map.1 hd
      exact hB.lit _)
    rw [lits_len] at this
    omega
end
end Go.Sy
