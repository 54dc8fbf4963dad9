/-
  The contracts of layer 9 (sha): padded, Words.
-/
import Derived.Test.YtldofkogmkfpjaaGreatDoorWLzSySha
import Derived.Test.YtldofkogmkfpjaaGreatDoorWPShaNum
namespace Go.Proofs.YtldofkogmkfpjaaGreatDoor
open Go Go.Ev Go.Sy
set_option linter.unusedSimpArgs false
set_option linter.unusedVariables false
set_option maxRecDepth 10000
set_option maxHeartbeats 4000000
open Go.Sy.Sh
/-! ### sha.padded -/
noncomputable def shpad_e : Ev' := ⟨Tryz.prog, glob, Γof []⟩
theorem shpad_g : Gd cfg shpad_e := gd (env_nil _)
noncomputable def shpad_f : FnD := ⟨155, Tryz.f155, shOf [(0, ⟨35, [(3, ⟨.ints .u8, false, false⟩)], [], [(0, .c (.ints .u8)), (3, .c (.sl 3 1))]⟩), (1, ⟨35, [(3, ⟨.ints .u8, false, false⟩)], [], [(3, .c (.sl 3 1)), (4, .c (.int .u64)), (5, .c (.int .i64))]⟩)], Tryz.f155.resultTypes.toList, 0⟩
theorem shpad_ent (h : Hd) (l : List Int) : shpad_f.ent shpad_e [] h [c1 (.ints .u8 l)] [] = let v1 : Nat := (0 : Nat) + l.length + (1 : Nat); let v2 : List Int := List.take ((0 : Nat) + l.length) l ++ [(128 : Int)]; let v3 : Nat := v2.length; bif roomB ((0 : Nat) + l.length) (1 : Nat) then bif decide ((0 : Nat) + l.length ≤ l.length) && roomB v1 (1 : Nat) then bif decide (v1 = v3) then h (0 : Nat) [Lf.l v2, Lf.l l] else none else none else none := by kernel_rfl
theorem shpad_l0 (h : Hd) (o : List Int) (l : List Int) : shpad_f.seg shpad_e [] h 0 [.l o, .l l] = let v1 : List Int := List.take o.length o ++ [(0 : Int)]; let v2 : Nat := v1.length; bif !decide ((↑o.length : Int).tmod (64 : Int) = (56 : Int)) then bif decide (o.length ≤ o.length) && roomB (o.length + (1 : Nat)) (1 : Nat) then bif decide (o.length + (1 : Nat) = v2) then h (0 : Nat) [Lf.l v1, Lf.l l] else none else none else bif decide (o.length = o.length) then h (1 : Nat) [Lf.l o, Lf.i (IntKind.u64.wrap (IntKind.u64.wrap (↑l.length : Int) * (8 : Int))), Lf.i (56 : Int)] else none := by kernel_rfl
theorem shpad_l1 (h : Hd) (o : List Int) (n : Int) (k : Int) : shpad_f.seg shpad_e [] h 1 [.l o, .i n, .i k] = let v1 : List Int := List.take o.length o ++ [IntKind.u8.wrap (shrI IntKind.u64 n k)]; let v2 : Nat := v1.length; bif decide ((0 : Int) ≤ k) then bif decide ((0 : Int) ≤ k) then bif decide (o.length ≤ o.length) && roomB (o.length + (1 : Nat)) (1 : Nat) then bif decide (o.length + (1 : Nat) = v2) then h (1 : Nat) [Lf.l v1, Lf.i n, Lf.i (IntKind.i64.wrap (k - (8 : Int)))] else none else none else none else bif decide (o.length ≤ o.length) && true then ret (c1 (Cl.ints IntKind.u8 (List.take o.length o))) else none := by kernel_rfl

theorem room1 {n : Nat} (h : n ≤ 2000000) : roomB n 1 = true := by unfold roomB; rw [Bool.and_eq_true, decide_eq_true_eq, decide_eq_true_eq]; constructor <;> omega
theorem leB {n m : Nat} (h : m ≤ 2000000) : (decide (n ≤ n) && roomB m 1) = true := by rw [room1 h, decide_eq_true (Nat.le_refl n)]; rfl
theorem snoc_take (o : List Nat) (x : Nat) : (castL o).take (castL o).length ++ [(x : Int)] = castL (o ++ [x]) := by rw [List.take_length, castL_snoc]
def padA (m : List Nat) (j : Nat) : List Nat := m ++ [128] ++ List.replicate j 0
theorem padA_len (m : List Nat) (j : Nat) : (padA m j).length = m.length + 1 + j := by simp [padA]; omega
theorem padA_succ (m : List Nat) (j : Nat) : padA m j ++ [0] = padA m (j + 1) := by unfold padA; rw [List.append_assoc, List.replicate_succ' (n := j)]
def padB (m : List Nat) (i : Nat) : List Nat := padA m (zpad m.length) ++ (List.range i).map (lenB m.length)
theorem padB_len (m : List Nat) (i : Nat) : (padB m i).length = m.length + 1 + zpad m.length + i := by simp [padB, padA_len]
theorem padB_succ (m : List Nat) (i : Nat) : padB m i ++ [lenB m.length i] = padB m (i + 1) := by
  unfold padB; rw [List.append_assoc, List.range_succ, List.map_append]; rfl
theorem shpad_l1s (m : List Nat) (hm : m.length ≤ 1000000) : ∀ k i, i ≤ 8 → 8 - i < k →
    shpad_f.H shpad_e [] k 1 [.l (castL (padB m i)), .i ((m.length * 8 : Nat) : Int), .i (56 - 8 * (i : Int))] = some ⟨c1 (.ints .u8 (castL (padL m))), []⟩ := by
  intro k
  induction k with
  | zero => intro i _ h; omega
  | succ k ih =>
    intro i hi hk
    rw [FnD.H_succ, shpad_l1]
    have hz : zpad m.length < 64 := Nat.mod_lt _ (by decide)
    have hl := padB_len m i
    dsimp only
    by_cases h : i < 8
    · have e1 : (56 : Int) - 8 * (i : Int) = ((56 - 8 * i : Nat) : Int) := by omega
      have e2 : IntKind.u8.wrap (shrI .u64 ((m.length * 8 : Nat) : Int) ((56 - 8 * i : Nat) : Int)) = ((lenB m.length i : Nat) : Int) := by
        rw [shrI_u .u64 _ _ (by show 56 - 8 * i ≤ 64; omega), wrap_u8]; rfl
      have e3 : IntKind.i64.wrap (((56 - 8 * i : Nat) : Int) - 8) = 56 - 8 * ((i + 1 : Nat) : Int) := by rw [IntWalk.i64_in _ (by omega)]; omega
      rw [e1, e2, e3, snoc_take, padB_succ, castL_length, castL_length]
      have nx := ih (i + 1) (by omega) (by omega)
      refine condT (by omega) (condT (by omega) (condB (leB (by omega)) (condT (by rw [padB_len, padB_len]; omega) nx)))
    · have e : i = 8 := by omega
      subst e
      refine condF (by omega) (condB (by simp) ?_)
      rw [List.take_length]; rfl
theorem shpad_l0s (m : List Nat) (hm : m.length ≤ 1000000) : ∀ k j, j ≤ zpad m.length → zpad m.length - j < k →
    shpad_f.H shpad_e [] (k + 9) 0 [.l (castL (padA m j)), .l (castL m)] = some ⟨c1 (.ints .u8 (castL (padL m))), []⟩ := by
  intro k
  induction k with
  | zero => intro i _ h; omega
  | succ k ih =>
    intro j hj hk
    rw [show k + 1 + 9 = (k + 9) + 1 by omega, FnD.H_succ, shpad_l0]
    have hz : zpad m.length < 64 := Nat.mod_lt _ (by decide)
    have hzd : zpad m.length = (119 - m.length % 64) % 64 := rfl
    have hl := padA_len m j
    dsimp only
    have e0 : (castL (padA m j)).take (castL (padA m j)).length ++ [0] = castL (padA m (j + 1)) := by
      have := snoc_take (padA m j) 0
      rw [padA_succ] at this; exact this
    rw [e0, castL_length, castL_length, castL_length, hl, padA_len, show (((m.length + 1 + j : Nat) : Int)).tmod 64 = (((m.length + 1 + j) % 64 : Nat) : Int) from rfl]
    by_cases h : j < zpad m.length
    · have hne : ¬ (((m.length + 1 + j) % 64 : Nat) : Int) = 56 := by omega
      rw [decide_eq_false hne]
      have nx := ih (j + 1) (by omega) (by omega)
      exact condB rfl (condB (leB (by omega)) (condT (by omega) nx))
    · have e : j = zpad m.length := by omega
      have heq : (((m.length + 1 + j) % 64 : Nat) : Int) = 56 := by omega
      rw [decide_eq_true heq]
      refine condT rfl ?_
      subst e
      have nx := shpad_l1s m hm (k + 9) 0 (by omega) (by omega)
      have ew : IntKind.u64.wrap (IntKind.u64.wrap ((m.length : Nat) : Int) * 8) = ((m.length * 8 : Nat) : Int) := by
        rw [wrap_u64, Nat.mod_eq_of_lt (by omega), show ((m.length : Nat) : Int) * 8 = ((m.length * 8 : Nat) : Int) by omega, wrap_u64, Nat.mod_eq_of_lt (by omega)]
      rw [ew]
      have ep : padB m 0 = padA m (zpad m.length) := by simp [padB]
      rw [ep] at nx
      exact nx
theorem shpad_run (l : List Int) (hp : bytesOk l ∧ l.length ≤ 1000000) : ∃ fu, shpad_f.run shpad_e [] fu [c1 (.ints .u8 l)] [] = some ⟨c1 (.ints .u8 (castL (padL (natL l)))), []⟩ := by
  obtain ⟨hb, hl⟩ := hp
  obtain ⟨m, rfl, e, hb⟩ := bytes_nat hb
  rw [castL_length] at hl
  rw [e]
  refine ⟨zpad m.length + 1 + 9, ?_⟩
  rw [FnD.run, shpad_ent]
  dsimp only
  rw [Nat.zero_add, List.take_length, show castL m ++ [128] = castL (padA m 0) by unfold padA; rw [List.replicate_zero, List.append_nil]; exact castL_snoc m 128, castL_length, castL_length]
  exact condB (room1 (by omega)) (condB (leB (by omega)) (condT (by rw [padA_len]) (shpad_l0s m hl _ 0 (by omega) (by omega))))
theorem shpad_ok (l : List Int) (hp : bytesOk l ∧ l.length ≤ 1000000) : FnOk cfg 155 ([c1 (.ints .u8 l)].map SV.den) (c1 (.ints .u8 (castL (padL (natL l)))) : SV).den := by
  obtain ⟨nn, h⟩ := shpad_run l hp
  exact FnD.ok shpad_g shpad_f mixed Tryz.func155 rfl rfl rfl rfl rfl rfl h
noncomputable def c_shpad : SpecF := fun args _ K => match args with
  | [.one (.c (.ints .u8 l))] => bif decide (bytesOk l ∧ l.length ≤ 1000000) then K (c1 (.ints .u8 (castL (padL (natL l))))) [] else none
  | _ => none
theorem c_shpad_ok : SpecOk cfg 155 c_shpad := by
  intro args bx K out h
  unfold c_shpad at h
  split at h
  · obtain ⟨hp, h⟩ := bif_some h
    exact ⟨_, _, h, .inl (shpad_ok _ (of_decide_eq_true hp) _), by simp [isTupS]⟩
  · cases h
/-! ### sha.Words -/
noncomputable def shwd_e : Ev' := ⟨Tryz.prog, glob, Γof [(154, c_shbeg), (155, c_shpad), (156, c_shadd)]⟩
theorem shwd_g : Gd cfg shwd_e := gd (env_cons c_shbeg_ok (env_cons c_shpad_ok (env_cons c_shadd_ok (env_nil _))))
noncomputable def shwd_f : FnD := ⟨110, Tryz.f110, shOf [(0, ⟨17, [], [(2, [.arr .u32 5]), (3, [.arr .u32 5])], [(2, .c (.ptr 2 0)), (3, .c (.ptr 3 0)), (4, .c (.ints .u8))]⟩)], Tryz.f110.resultTypes.toList, 0⟩
theorem shwd_ent (h : Hd) (l : List Int) : shwd_f.ent shwd_e [] h [c1 (.ints .u8 l)] [] = bif decide (bytesOk l ∧ l.length ≤ (1000000 : Nat)) then h (0 : Nat) [Lf.l [(0 : Int), (0 : Int), (0 : Int), (0 : Int), (0 : Int)], Lf.l [(1732584193 : Int), (4023233417 : Int), (2562383102 : Int), (271733878 : Int), (3285377520 : Int)], Lf.l (castL (Sh.padL (natL l)))] else none := by kernel_rfl
theorem shwd_l0 (h : Hd) (z : List Int) (s : List Int) (l : List Int) : shwd_f.seg shwd_e [] h 0 [.l z, .l s, .l l] = bif decide ((0 : Int) < (↑l.length : Int)) then bif slB (0 : Int) (64 : Int) l.length then bif decide (wordsOk s ∧ bytesOk (piece l (0 : Int) (64 : Int)) ∧ (piece l (0 : Int) (64 : Int)).length = (64 : Nat)) then bif slB (64 : Int) (↑l.length : Int) l.length then h (0 : Nat) [Lf.l z, Lf.l (castL (compN (natL s) (natL (piece l (0 : Int) (64 : Int))))), Lf.l (piece l (64 : Int) (↑l.length : Int))] else none else none else none else ret (agg [Sg.arr IntKind.u32 (5 : Nat) s]) := by kernel_rfl

theorem castB {m : List Nat} (h : ∀ x ∈ m, x < 256) : bytesOk (castL m) := by
  unfold bytesOk castL
  rw [List.all_eq_true]
  intro x hx
  obtain ⟨n, hn, rfl⟩ := List.mem_map.1 hx
  have := h n hn
  rw [Bool.and_eq_true, decide_eq_true_eq, decide_eq_true_eq]; omega
theorem castW {m : List Nat} (h0 : m.length = 5) (h : ∀ x ∈ m, x < 4294967296) : wordsOk (castL m) := by
  refine ⟨by rw [castL_length]; exact h0, ?_⟩
  rw [List.all_eq_true]
  intro x hx
  unfold castL at hx
  obtain ⟨n, hn, rfl⟩ := List.mem_map.1 hx
  have := h n hn
  rw [Bool.and_eq_true, decide_eq_true_eq, decide_eq_true_eq]; omega
theorem piece_castL (m : List Nat) (a b : Nat) : piece (castL m) (a : Int) (b : Int) = castL ((m.drop a).take (b - a)) := by
  unfold piece
  rw [Int.toNat_natCast, Int.toNat_natCast, castL_drop, castL_take]
theorem shwd_loop (p : List Nat) (n : Nat) (hl : p.length = 64 * n) (hn : n ≤ 20000) (hp : ∀ x ∈ p, x < 256) (z : List Int) : ∀ k i, i ≤ n → n - i < k →
    shwd_f.H shwd_e [] k 0 [.l z, .l (castL (stN p i)), .l (castL (p.drop (64 * i)))] = some ⟨agg [.arr .u32 5 (castL (stN p n))], []⟩ := by
  intro k
  induction k with
  | zero => intro i _ h; omega
  | succ k ih =>
    intro i hi hk
    rw [FnD.H_succ, shwd_l0]
    have hd : (castL (p.drop (64 * i))).length = 64 * n - 64 * i := by rw [castL_length, List.length_drop, hl]
    rw [hd]
    by_cases h : i < n
    · have e1 : piece (castL (p.drop (64 * i))) 0 64 = castL ((p.drop (64 * i)).take 64) := by
        have := piece_castL (p.drop (64 * i)) 0 64
        rw [List.drop_zero] at this; exact this
      have e2 : piece (castL (p.drop (64 * i))) 64 ((64 * n - 64 * i : Nat) : Int) = castL (p.drop (64 * (i + 1))) := by
        have := piece_castL (p.drop (64 * i)) 64 (64 * n - 64 * i)
        rw [List.drop_drop, List.take_of_length_le (by rw [List.length_drop, hl]; omega)] at this
        rw [show 64 * (i + 1) = 64 * i + 64 by omega]; exact this
      have e3 : ((p.drop (64 * i)).take 64).length = 64 := by rw [List.length_take, List.length_drop, hl]; omega
      have hb : ∀ x ∈ (p.drop (64 * i)).take 64, x < 256 := fun x hx => hp x (List.mem_of_mem_drop (List.mem_of_mem_take hx))
      rw [e1, e2, natL_castL, natL_castL]
      have nx := ih (i + 1) (by omega) (by omega)
      rw [stN] at nx
      exact condT (by omega) (condB (by unfold slB; simp; omega) (condT ⟨castW (stN_len _ _) (stN_lt _ _), castB hb, by rw [castL_length, e3]⟩ (condB (by unfold slB; simp; omega) nx)))
    · have e : i = n := by omega
      subst e
      exact condF (by omega) rfl
theorem shwd_run (l : List Int) (hp : bytesOk l ∧ l.length ≤ 1000000) : ∃ fu, shwd_f.run shwd_e [] fu [c1 (.ints .u8 l)] [] = some ⟨agg [.arr .u32 5 (castL (wordsN (natL l)))], []⟩ := by
  obtain ⟨hb, hl⟩ := hp
  have hb0 := hb
  obtain ⟨m, rfl, e, hm⟩ := bytes_nat hb
  rw [e]
  rw [castL_length] at hl
  have h64 := padL_64 m
  have hz : zpad m.length < 64 := Nat.mod_lt _ (by decide)
  have hpl := padL_len m
  refine ⟨(padL m).length / 64 + 1, ?_⟩
  rw [FnD.run, shwd_ent]
  refine condT ⟨hb0, by rw [castL_length]; exact hl⟩ ?_
  rw [e]
  have := shwd_loop (padL m) _ h64 (by omega) (padL_lt hm) [0, 0, 0, 0, 0] ((padL m).length / 64 + 1) 0 (by omega) (by omega)
  exact this
theorem shwd_ok (l : List Int) (hp : bytesOk l ∧ l.length ≤ 1000000) : FnOk cfg 110 ([c1 (.ints .u8 l)].map SV.den) (agg [.arr .u32 5 (castL (wordsN (natL l)))] : SV).den := by
  obtain ⟨nn, h⟩ := shwd_run l hp
  exact FnD.ok shwd_g shwd_f mixed Tryz.func110 rfl rfl rfl rfl rfl rfl h
noncomputable def c_shwd : SpecF := fun args _ K => match args with
  | [.one (.c (.ints .u8 l))] => bif decide (bytesOk l ∧ l.length ≤ 1000000) then K (agg [.arr .u32 5 (castL (wordsN (natL l)))]) [] else none
  | _ => none
theorem c_shwd_ok : SpecOk cfg 110 c_shwd := by
  intro args bx K out h
  unfold c_shwd at h
  split at h
  · obtain ⟨hp, h⟩ := bif_some h
    exact ⟨_, _, h, .inl (shwd_ok _ (of_decide_eq_true hp) _), by simp [isTupS]⟩
  · cases h
end Go.Proofs.YtldofkogmkfpjaaGreatDoor
