/-
  What the statements of layer 11 share.
-/
import Derived.Test.YtldofkogmkfpjaaGreatDoorWLzSyList7
import Derived.Test.YtldofkogmkfpjaaGreatDoorWPHex
namespace Go.Proofs.YtldofkogmkfpjaaGreatDoor
open Go Go.Ev Go.Sy
set_option linter.unusedSimpArgs false
set_option linter.unusedVariables false
set_option maxRecDepth 10000
set_option maxHeartbeats 4000000
open Go.Sy.Sh

theorem eqB_self (s : ByteArray) : eqB s s = true := by unfold eqB; exact beq_self_eq_true _
theorem sameP_self (u x : Int) (L : List (List D)) : sameP u x L u x L = true := by
  unfold sameP
  rw [decide_eq_true rfl, decide_eq_true rfl, decide_eq_true rfl, Bool.true_and, Bool.true_and, Bool.true_and, List.all_eq_true]
  intro i _
  rw [decide_eq_true rfl, decide_eq_true rfl]; rfl
theorem norm_pairs (P : List (Int × Int)) : ∀ e ∈ P.map rowP, normR e = e := fun e he => by
  obtain ⟨p, _, rfl⟩ := List.mem_map.1 he
  rfl
theorem rsGo_len : ∀ (ls : List (List UInt8)) (t : Int) (r r' : RS), rsGo ls t r = .inl r' → r'.L.length ≤ r.L.length + ls.length
  | [], t, r, r', h => by cases h; simp
  | l :: ls, t, r, r', h => by
    rw [rsGo] at h
    split at h
    · have := rsGo_len ls _ _ r' h
      have h2 : (rsUpd r ((scanP l).getD ln0) t).L.length ≤ r.L.length + 1 := by
        unfold rsUpd
        split
        · simp
        · simp
      rw [List.length_cons]; omega
    · cases h
theorem parT_len (s : List UInt8) : (parT s).1.2.2.length ≤ 65536 := by
  unfold parT
  split
  · simp
  · rename_i h
    have hb := (linesP_bound s).1
    cases hr : rsGo (linesP s) 1 rs0 with
    | inr e => show ([] : List (List D)).length ≤ _; simp
    | inl r =>
      have := rsGo_len _ _ _ _ hr
      have h0 : (rs0.L).length = 0 := rfl
      show (rsFin _ r).1.2.2.length ≤ _
      unfold rsFin
      split
      · simp
      · split
        · show r.L.length ≤ _; omega
        · simp
theorem bytesI_get (l : List UInt8) (i : Nat) : (bytesI (tx l)).getD i 0 = ((l.getD i 0).toNat : Int) := by
  unfold bytesI
  rw [tx_toList, List.getD_eq_getElem?_getD, List.getD_eq_getElem?_getD, List.getElem?_map]
  cases l[i]? <;> rfl
theorem bytesI_set (l : List UInt8) (i : Nat) (c : UInt8) : (bytesI (tx l)).set i (c.toNat : Int) = bytesI (tx (l.set i c)) := by
  unfold bytesI
  rw [tx_toList, tx_toList, List.map_set]
theorem u8_nat {c d : UInt8} : (c.toNat : Int) = (d.toNat : Int) ↔ c = d := by
  constructor
  · intro h; exact UInt8.toNat.inj (by omega)
  · intro h; rw [h]
theorem prn_lines {u x : Int} {L : List (List D)} : linesP (prnL u x L) = fileL u x L (wordsN (bytN (dgL u x L))) := lines_join (file_no10 u x L _)
end Go.Proofs.YtldofkogmkfpjaaGreatDoor
