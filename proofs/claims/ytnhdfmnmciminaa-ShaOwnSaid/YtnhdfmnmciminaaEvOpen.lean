/-
  A symbolic executor over abstract states, part 11: slices as a claim opens them.
-/
import Derived.Test.YtnhdfmnmciminaaEvTop
import Derived.OpenShut
import Derived.SizedLaws
namespace Go.Ev

/-- A slice of numbers, as a claim opens it. -/
theorem rep_ints {C : Cfg} {W : World} {a : Addr} {len cap : Nat} {k : IntKind} {zs : List Int} (hle : len ≤ cap) (hlz : len ≤ zs.length)
    (hcell : ∀ i, i < zs.length → W.cell? (a.add i) = some (.int k (zs.getD i 0))) : RepI C (memOf W) (.list len (IL k (zs.take len))) (.slice (some a) len cap) := by
  by_cases h0 : len = 0
  · subst h0
    exact .list (some a) 0 cap [] 0 0 (fun _ => undef) (Nat.zero_le _) (fun h => absurd rfl h) (fun i hi => absurd hi (Nat.not_lt_zero _)) (fun i hi => absurd hi (Nat.not_lt_zero _))
  · obtain ⟨b, off, rfl, hc⟩ := Go.ints_at hcell (by omega)
    have hlen : (IL k (zs.take len)).length = len := by rw [IL_length, List.length_take]; omega
    refine .list _ len cap _ b off (fun i => .int k (zs.getD i 0)) hle (fun _ => rfl) (fun i hi => ⟨?_, hc i (by omega)⟩) (fun i hi => ?_)
    · have := hc i (by omega)
      show b < W.heap.size
      rcases Nat.lt_or_ge b W.heap.size with h | h
      · exact h
      · simp [World.cell?, Array.getElem?_eq_none h] at this
    · have hi2 : i < len := by omega
      simp only [IL, List.getElem_map, List.getElem_take]
      rw [List.getD_eq_getElem?_getD, List.getElem?_eq_getElem (by omega)]
      exact .lit _
theorem castL_toNat {zs : List Int} (h : ∀ z ∈ zs, 0 ≤ z) : castL (zs.map Int.toNat) = zs := by
  induction zs with
  | nil => rfl
  | cons z zs ih =>
    rw [List.map_cons, castL_cons, ih fun x hx => h x (by simp [hx])]
    have := h z (by simp)
    rw [Int.toNat_of_nonneg this]
theorem u8_wf {n : Int} (h : (Lit.int .u8 n).wf = true) : 0 ≤ n ∧ n < 256 := by
  simp [Lit.wf, IntKind.min, IntKind.max, IntKind.signed, IntKind.bits] at h
  omega
theorem u8_nat {n : Int} (h : (Lit.int .u8 n).wf = true) : ∃ m : Nat, n = (m : Int) ∧ m < 256 := by
  have := u8_wf h
  exact ⟨n.toNat, by omega, by omega⟩
/-- A slice of bytes. -/
theorem rep_bytes {C : Cfg} {W : World} {a : Addr} {len cap : Nat} {zs : List Int} (hle : len ≤ cap) (hlz : len ≤ zs.length)
    (hcell : ∀ i, i < zs.length → W.cell? (a.add i) = some (.int .u8 (zs.getD i 0))) (hw : ∀ n ∈ zs, (Lit.int .u8 n).wf = true) :
    ∃ l : List Nat, l.length = len ∧ (∀ x ∈ l, x < 256) ∧ Rep1 C id (memOf W) (.c (.list l.length (IL .u8 (castL l)))) (.slice (some a) len cap) := by
  refine ⟨(zs.take len).map Int.toNat, by simp; omega, fun x hx => ?_, ?_⟩
  · obtain ⟨z, hz, rfl⟩ := List.mem_map.1 hx
    have := u8_wf (hw z (List.mem_of_mem_take hz))
    omega
  · rw [castL_toNat fun z hz => (u8_wf (hw z (List.mem_of_mem_take hz))).1]
    have e : ((zs.take len).map Int.toNat).length = len := by simp; omega
    rw [e]
    exact RepC.of_I (μ := id) (rep_ints hle hlz hcell)
theorem rep_nobytes {C : Cfg} {W : World} : Rep1 C id (memOf W) (.c (.list ([] : List Nat).length (IL .u8 (castL [])))) (.slice none 0 0) := RepC.of_I (μ := id) (litP_rep (.slice none 0 0))
end Go.Ev
