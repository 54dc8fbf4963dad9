/-
  The contracts of the document's functions for layer 29 (epactref28).
-/
import Derived.Test.YtldofkogmkfpjaaGreatDoorWZzSyScript2
import Derived.Test.YtldofkogmkfpjaaGreatDoorWPScrE
namespace Go.Proofs.YtldofkogmkfpjaaGreatDoor
open Go Go.Ev Go.Sy
set_option linter.unusedSimpArgs false
set_option linter.unusedVariables false
set_option maxRecDepth 10000
set_option maxHeartbeats 4000000
/-! ### epactref28.Hex -/
noncomputable def rhex_e : Ev' := ⟨Tryz.prog, glob, Γof []⟩
theorem rhex_g : Gd cfg rhex_e := gd (env_nil _)
noncomputable def rhex_f : FnD := ⟨42, Tryz.f42, shOf [(0, ⟨39, [], [], [(0, .c (.ints .u8)), (3, .c (.str)), (4, .c (.int .i64))]⟩)], Tryz.f42.resultTypes.toList, 0⟩
theorem rhex_ent (h : Hd) (l : List Int) : rhex_f.ent rhex_e [] h [c1 (.ints .u8 l)] [] = h (0 : Nat) [Lf.l l, Lf.s (tx []), Lf.i (0 : Int)] := by kernel_rfl
theorem rhex_l0 (h : Hd) (l0 : List Int) (s1 : ByteArray) (i2 : Int) : rhex_f.seg rhex_e [] h 0 [.l l0, .s s1, .i i2] = let v1 : Int := IntKind.u8.wrap (shrI IntKind.u8 (l0.getD i2.toNat (0 : Int)) (4 : Int) + (1 : Int)); let v2 : ByteArray := (tx [48, 49, 50, 51, 52, 53, 54, 55, 56, 57, 97, 98, 99, 100, 101, 102]).extract (shrI IntKind.u8 (l0.getD i2.toNat (0 : Int)) (4 : Int)).toNat v1.toNat; let v3 : Nat := s1.size + v2.size; let v4 : Int := IntKind.u8.wrap (andI IntKind.u8 (l0.getD i2.toNat (0 : Int)) (15 : Int) + (1 : Int)); let v5 : ByteArray := s1 ++ v2; let v6 : ByteArray := (tx [48, 49, 50, 51, 52, 53, 54, 55, 56, 57, 97, 98, 99, 100, 101, 102]).extract (andI IntKind.u8 (l0.getD i2.toNat (0 : Int)) (15 : Int)).toNat v4.toNat; let v7 : Nat := v5.size + v6.size; bif decide (i2 < (↑l0.length : Int)) then bif inB i2 l0.length then bif inB i2 l0.length then bif slB (shrI IntKind.u8 (l0.getD i2.toNat (0 : Int)) (4 : Int)) v1 (16 : Nat) then bif decide (v3 ≤ (9223372036854775807 : Nat)) then bif inB i2 l0.length then bif inB i2 l0.length then bif slB (andI IntKind.u8 (l0.getD i2.toNat (0 : Int)) (15 : Int)) v4 (16 : Nat) then bif decide (v7 ≤ (9223372036854775807 : Nat)) then h (0 : Nat) [Lf.l l0, Lf.s (v5 ++ v6), Lf.i (IntKind.i64.wrap (i2 + (1 : Int)))] else none else none else none else none else none else none else none else none else ret (vS s1) := by kernel_rfl

theorem slB_of {l h : Int} {n : Nat} (h0 : 0 ≤ l) (h1 : l ≤ h) (h2 : h ≤ n) : slB l h n = true := by
  unfold slB
  rw [decide_eq_true h0, decide_eq_true h1, decide_eq_true h2]; rfl
theorem rhex_loop (m : List Nat) (hm : ∀ x ∈ m, x < 256) (hl : m.length ≤ 1000000000) : ∀ (k i : Nat), i ≤ m.length → m.length - i < k →
    rhex_f.H rhex_e [] k 0 [.l (castL m), .s (tx (hexB (toB (castL (m.take i))))), .i (i : Nat)] = some ⟨vS (tx (hexB (toB (castL m)))), []⟩ := by
  intro k
  induction k with
  | zero => intro i _ h; omega
  | succ k ih =>
    intro i hi hk
    rw [FnD.H_succ, rhex_l0]
    dsimp only
    have hlen : (hexB (toB (castL (m.take i)))).length = 2 * i := by
      rw [hexB_len, toB_len, castL_length, List.length_take, Nat.min_eq_left hi]
    by_cases h : i < m.length
    · have hx : nthN m i < 256 := nthN_all hm (by decide) i
      have e1 : shrI .u8 ((nthN m i : Nat) : Int) 4 = ((nthN m i / 16 : Nat) : Int) := shrI_u .u8 _ 4 (by decide)
      have e2 : andI .u8 ((nthN m i : Nat) : Int) 15 = ((nthN m i % 16 : Nat) : Int) := by
        have := andI_u (k := .u8) rfl (a := nthN m i) (b := 15) (by show _ < 2 ^ 8; omega) (by decide)
        rw [show (15 : Int) = ((15 : Nat) : Int) from rfl, this, show (15 : Nat) = 2 ^ 4 - 1 from rfl, Nat.and_two_pow_sub_one_eq_mod]
      rw [Int.toNat_natCast, nth_castL, e1, e2]
      have w1 : IntKind.u8.wrap (((nthN m i / 16 : Nat) : Int) + 1) = ((nthN m i / 16 + 1 : Nat) : Int) := by
        rw [show ((nthN m i / 16 : Nat) : Int) + 1 = ((nthN m i / 16 + 1 : Nat) : Int) by omega, wrap_u8, Nat.mod_eq_of_lt (by omega)]
      have w2 : IntKind.u8.wrap (((nthN m i % 16 : Nat) : Int) + 1) = ((nthN m i % 16 + 1 : Nat) : Int) := by
        rw [show ((nthN m i % 16 : Nat) : Int) + 1 = ((nthN m i % 16 + 1 : Nat) : Int) by omega, wrap_u8, Nat.mod_eq_of_lt (by omega)]
      rw [w1, w2, Int.toNat_natCast, Int.toNat_natCast, Int.toNat_natCast, Int.toNat_natCast, digX16 _ (by omega), digX16 _ (by omega)]
      rw [show IntKind.i64.wrap ((i : Int) + 1) = ((i + 1 : Nat) : Int) by rw [IntWalk.i64_in _ (by omega)]; omega]
      have hin : inB (i : Int) (castL m).length = true := (inB_iff _ _).2 (by rw [castL_length]; omega)
      refine condT (by rw [castL_length]; omega) (condB hin (condB hin (condB (slB_of (by omega) (by omega) (by omega)) (condT ?_ (condB hin (condB hin (condB (slB_of (by omega) (by omega) (by omega)) (condT ?_ ?_))))))))
      · rw [tx_size, tx_size, hlen]; simp <;> omega
      · rw [tx_append, tx_size, tx_size, List.length_append, hlen]; simp only [List.length_cons, List.length_nil] <;> omega
      · rw [tx_append, tx_append, List.append_assoc]
        have := ih (i + 1) (by omega) (by omega)
        rw [hexB_take h hm] at this
        exact this
    · obtain rfl : i = m.length := by omega
      refine condF (by rw [castL_length]; omega) ?_
      rw [List.take_length]
theorem rhex_run (l : List Int) (hp : bytesOk l ∧ l.length ≤ 1000000000) : ∃ fu, rhex_f.run rhex_e [] fu [c1 (.ints .u8 l)] [] = some ⟨vS (tx (hexB (toB l))), []⟩ := by
  obtain ⟨m, rfl, -, hm⟩ := bytes_nat hp.1
  have hl := hp.2
  rw [castL_length] at hl
  refine ⟨m.length + 1, ?_⟩
  rw [FnD.run, rhex_ent]
  exact rhex_loop m hm hl (m.length + 1) 0 (by omega) (by omega)
theorem rhex_ok (l : List Int) (hp : bytesOk l ∧ l.length ≤ 1000000000) : FnOk cfg 42 ([c1 (.ints .u8 l)].map SV.den) (vS (tx (hexB (toB l))) : SV).den := by
  obtain ⟨nn, h⟩ := rhex_run l hp
  exact FnD.ok rhex_g rhex_f mixed Tryz.func42 rfl rfl rfl rfl rfl rfl h
noncomputable def c_rhex : SpecF := fun args _ K => match args with
  | [.one (.c (.ints .u8 l))] => bif decide (bytesOk l ∧ l.length ≤ 1000000000) then K (vS (tx (hexB (toB l)))) [] else none
  | _ => none
theorem c_rhex_ok : SpecOk cfg 42 c_rhex := by
  intro args bx K out h
  unfold c_rhex at h
  split at h
  · obtain ⟨hp, h⟩ := bif_some h
    exact ⟨_, _, h, .inl (rhex_ok _ (of_decide_eq_true hp) _), by simp [isTupS]⟩
  · cases h
/-! ### epactref28.flag -/
/-! ### epactref28.Number -/
/-! ### epactref28.Line -/
/-! ### epactref28.Print -/
/-! ### epactref28.words -/
/-! ### epactref01.Same -/
/-! ### epactref05.Small -/
/-! ### epactref28.small -/
/-! ### epactref28.data -/
/-! ### epactref28.ReadLine -/
/-! ### epactref28.Read -/
end Go.Proofs.YtldofkogmkfpjaaGreatDoor
