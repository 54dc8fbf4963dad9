/-
  The contract of math/bits.Div64.
-/
import Derived.Test.YtldofkogmkfpjaaGreatDoorWZzSyLimb
import Derived.Test.YtldofkogmkfpjaaGreatDoorWPDiv
namespace Go.Proofs.YtldofkogmkfpjaaGreatDoor
open Go Go.Ev Go.Sy
set_option linter.unusedSimpArgs false
set_option linter.unusedVariables false
set_option maxRecDepth 10000
set_option maxHeartbeats 4000000
theorem retT {a b c d : Int} (h : a = b) (h' : c = d) : (ret (.tup [tU a, tU c])) = some ⟨.tup [tU b, tU d], []⟩ := by rw [h, h']
theorem wS {x : Int} (h : 0 ≤ x ∧ x < 18446744073709551616) : IntKind.u64.wrap x = x := IntWalk.u64_in _ (by omega)
theorem q_end {q t : Int} (hq : 0 ≤ q ∧ q < 4294967296) (ht : 0 ≤ t ∧ t < 4294967296) : IntKind.u64.wrap (IntKind.u64.wrap (q * 4294967296) + t) = q * 4294967296 + t := by rw [u64w, u64w]; omega
theorem rest_w {v u w q : Int} (k : KQ v u w q) (hv : v ≤ 18446744073709551616) : IntKind.u64.wrap (IntKind.u64.wrap (IntKind.u64.wrap (u * 4294967296) + w) - IntKind.u64.wrap (q * v)) = u * 4294967296 + w - q * v := by
  simp only [u64w]; exact k.rest hv
theorem kr_w {v a b u w q r : Int} (i : KI v a b u w q r) : IntKind.u64.wrap (IntKind.u64.wrap (4294967296 * r) + w) = 4294967296 * r + w := by
  have := i.r0; have := i.r1; have := i.w0; have := i.w1
  rw [u64w, u64w]; omega
theorem ra_w {v a b u w q r : Int} (d : KD v a b) (i : KI v a b u w q r) : IntKind.u64.wrap (r + a) = r + a := by
  have := i.r0; have := i.r1; have := d.a0; have := d.a1
  rw [u64w]; omega
theorem quo_w {x a : Int} (hx : 0 ≤ x ∧ x < 18446744073709551616) (ha : 0 < a) : IntKind.u64.wrap (x.tdiv a) = x / a ∧ IntKind.u64.wrap (x - IntKind.u64.wrap (x / a * a)) = x % a := by
  refine ⟨IntWalk.u64_quo x a ⟨hx.1, by omega, by omega⟩, ?_⟩
  have e := Int.mul_ediv_add_emod x a
  have r0 := Int.emod_nonneg x (b := a) (by omega)
  have r1 := Int.emod_lt_of_pos x ha
  have q0 : 0 ≤ x / a := Int.ediv_nonneg hx.1 (by omega)
  have p0 : 0 ≤ x / a * a := Int.mul_nonneg q0 (by omega)
  rw [Int.mul_comm a] at e
  generalize x / a * a = p at *
  generalize x % a = r at *
  rw [u64w, u64w]; omega
/-! ### math/bits.Div64 -/
noncomputable def div64_e : Ev' := ⟨Tryz.prog, glob, Γof [(267, c_lz64)]⟩
theorem div64_g : Gd cfg div64_e := gd (env_cons c_lz64_ok (env_nil _))
noncomputable def div64_f : FnD := ⟨266, Tryz.f266, shOf [(0, ⟨135, [], [], [(2, .c (.int .u64)), (8, .c (.int .u64)), (9, .c (.int .u64)), (10, .c (.int .u64)), (11, .c (.int .u64)), (13, .c (.int .u64)), (14, .c (.int .u64)), (15, .c (.int .u64)), (16, .c (.int .u64))]⟩), (1, ⟨135, [], [], [(2, .c (.int .u64)), (8, .c (.int .u64)), (9, .c (.int .u64)), (10, .c (.int .u64)), (14, .c (.int .u64)), (15, .c (.int .u64)), (16, .c (.int .u64)), (17, .c (.int .u64)), (18, .c (.int .u64))]⟩)], Tryz.f266.resultTypes.toList, 0⟩
theorem div64_ent (h : Hd) (u : Int) (l : Int) (y : Int) : div64_f.ent div64_e [] h [c1 (.int .u64 u), c1 (.int .u64 l), c1 (.int .u64 y)] [] = let v1 : Int := IntKind.u64.wrap ((64 : Int) - IntKind.u64.wrap ((64 : Int) - (↑(Lib.bitLen y.toNat) : Int))); let v2 : Int := shrI IntKind.u64 (shlI IntKind.u64 y (IntKind.u64.wrap ((64 : Int) - (↑(Lib.bitLen y.toNat) : Int)))) (32 : Int); let v3 : Int := orI IntKind.u64 (shlI IntKind.u64 u (IntKind.u64.wrap ((64 : Int) - (↑(Lib.bitLen y.toNat) : Int)))) (shrI IntKind.u64 l v1); let v4 : Int := IntKind.u64.wrap (v3.tdiv v2); bif decide (y = (0 : Int)) then none else bif decide (y ≤ u) then none else bif decide (u = (0 : Int)) then bif !decide (y = (0 : Int)) then bif !decide (y = (0 : Int)) then ret (SV.tup [tU (IntKind.u64.wrap (l.tdiv y)), tU (l.tmod y)]) else none else none else bif decide (isW y) then bif decide ((0 : Int) ≤ IntKind.u64.wrap ((64 : Int) - (↑(Lib.bitLen y.toNat) : Int))) then bif decide ((0 : Int) ≤ IntKind.u64.wrap ((64 : Int) - (↑(Lib.bitLen y.toNat) : Int))) then bif decide ((0 : Int) ≤ v1) then bif decide ((0 : Int) ≤ IntKind.u64.wrap ((64 : Int) - (↑(Lib.bitLen y.toNat) : Int))) then bif !decide (v2 = (0 : Int)) then h (0 : Nat) [Lf.i (shlI IntKind.u64 y (IntKind.u64.wrap ((64 : Int) - (↑(Lib.bitLen y.toNat) : Int)))), Lf.i (IntKind.u64.wrap ((64 : Int) - (↑(Lib.bitLen y.toNat) : Int))), Lf.i v2, Lf.i (andI IntKind.u64 (shlI IntKind.u64 y (IntKind.u64.wrap ((64 : Int) - (↑(Lib.bitLen y.toNat) : Int)))) (4294967295 : Int)), Lf.i v3, Lf.i (shrI IntKind.u64 (shlI IntKind.u64 l (IntKind.u64.wrap ((64 : Int) - (↑(Lib.bitLen y.toNat) : Int)))) (32 : Int)), Lf.i (andI IntKind.u64 (shlI IntKind.u64 l (IntKind.u64.wrap ((64 : Int) - (↑(Lib.bitLen y.toNat) : Int)))) (4294967295 : Int)), Lf.i v4, Lf.i (IntKind.u64.wrap (v3 - IntKind.u64.wrap (v4 * v2)))] else none else none else none else none else none else none := by kernel_rfl
theorem div64_l0 (h : Hd) (i0 : Int) (i1 : Int) (i2 : Int) (i3 : Int) (i4 : Int) (i5 : Int) (i6 : Int) (i7 : Int) (i8 : Int) : div64_f.seg div64_e [] h 0 [.i i0, .i i1, .i i2, .i i3, .i i4, .i i5, .i i6, .i i7, .i i8] = let v1 : Int := IntKind.u64.wrap (IntKind.u64.wrap (IntKind.u64.wrap (i4 * (4294967296 : Int)) + i5) - IntKind.u64.wrap (IntKind.u64.wrap (i7 - (1 : Int)) * i0)); let v2 : Int := IntKind.u64.wrap (v1.tdiv i2); let v3 : Int := IntKind.u64.wrap (v1 - IntKind.u64.wrap (v2 * i2)); let v4 : Int := IntKind.u64.wrap (IntKind.u64.wrap ((4294967296 : Int) * i8) + i5); let v5 : Int := IntKind.u64.wrap (IntKind.u64.wrap (IntKind.u64.wrap (i4 * (4294967296 : Int)) + i5) - IntKind.u64.wrap (i7 * i0)); let v6 : Int := IntKind.u64.wrap (v5.tdiv i2); bif decide ((4294967296 : Int) ≤ i7) then bif decide ((4294967296 : Int) ≤ IntKind.u64.wrap (i8 + i2)) then bif !decide (i2 = (0 : Int)) then h (1 : Nat) [Lf.i i0, Lf.i i1, Lf.i i2, Lf.i i3, Lf.i i6, Lf.i (IntKind.u64.wrap (i7 - (1 : Int))), Lf.i v3, Lf.i v1, Lf.i v2] else none else h (0 : Nat) [Lf.i i0, Lf.i i1, Lf.i i2, Lf.i i3, Lf.i i4, Lf.i i5, Lf.i i6, Lf.i (IntKind.u64.wrap (i7 - (1 : Int))), Lf.i (IntKind.u64.wrap (i8 + i2))] else bif decide (v4 < IntKind.u64.wrap (i7 * i3)) then bif decide ((4294967296 : Int) ≤ IntKind.u64.wrap (i8 + i2)) then bif !decide (i2 = (0 : Int)) then h (1 : Nat) [Lf.i i0, Lf.i i1, Lf.i i2, Lf.i i3, Lf.i i6, Lf.i (IntKind.u64.wrap (i7 - (1 : Int))), Lf.i v3, Lf.i v1, Lf.i v2] else none else h (0 : Nat) [Lf.i i0, Lf.i i1, Lf.i i2, Lf.i i3, Lf.i i4, Lf.i i5, Lf.i i6, Lf.i (IntKind.u64.wrap (i7 - (1 : Int))), Lf.i (IntKind.u64.wrap (i8 + i2))] else bif !decide (i2 = (0 : Int)) then h (1 : Nat) [Lf.i i0, Lf.i i1, Lf.i i2, Lf.i i3, Lf.i i6, Lf.i i7, Lf.i (IntKind.u64.wrap (v5 - IntKind.u64.wrap (v6 * i2))), Lf.i v5, Lf.i v6] else none := by kernel_rfl
theorem div64_l1 (h : Hd) (i0 : Int) (i1 : Int) (i2 : Int) (i3 : Int) (i4 : Int) (i5 : Int) (i6 : Int) (i7 : Int) (i8 : Int) : div64_f.seg div64_e [] h 1 [.i i0, .i i1, .i i2, .i i3, .i i4, .i i5, .i i6, .i i7, .i i8] = let v1 : Int := IntKind.u64.wrap (IntKind.u64.wrap ((4294967296 : Int) * i6) + i4); bif decide ((4294967296 : Int) ≤ i8) then bif decide ((4294967296 : Int) ≤ IntKind.u64.wrap (i6 + i2)) then bif decide ((0 : Int) ≤ i1) then ret (SV.tup [tU (IntKind.u64.wrap (IntKind.u64.wrap (i5 * (4294967296 : Int)) + IntKind.u64.wrap (i8 - (1 : Int)))), tU (shrI IntKind.u64 (IntKind.u64.wrap (IntKind.u64.wrap (IntKind.u64.wrap (i7 * (4294967296 : Int)) + i4) - IntKind.u64.wrap (IntKind.u64.wrap (i8 - (1 : Int)) * i0))) i1)]) else none else h (1 : Nat) [Lf.i i0, Lf.i i1, Lf.i i2, Lf.i i3, Lf.i i4, Lf.i i5, Lf.i (IntKind.u64.wrap (i6 + i2)), Lf.i i7, Lf.i (IntKind.u64.wrap (i8 - (1 : Int)))] else bif decide (v1 < IntKind.u64.wrap (i8 * i3)) then bif decide ((4294967296 : Int) ≤ IntKind.u64.wrap (i6 + i2)) then bif decide ((0 : Int) ≤ i1) then ret (SV.tup [tU (IntKind.u64.wrap (IntKind.u64.wrap (i5 * (4294967296 : Int)) + IntKind.u64.wrap (i8 - (1 : Int)))), tU (shrI IntKind.u64 (IntKind.u64.wrap (IntKind.u64.wrap (IntKind.u64.wrap (i7 * (4294967296 : Int)) + i4) - IntKind.u64.wrap (IntKind.u64.wrap (i8 - (1 : Int)) * i0))) i1)]) else none else h (1 : Nat) [Lf.i i0, Lf.i i1, Lf.i i2, Lf.i i3, Lf.i i4, Lf.i i5, Lf.i (IntKind.u64.wrap (i6 + i2)), Lf.i i7, Lf.i (IntKind.u64.wrap (i8 - (1 : Int)))] else bif decide ((0 : Int) ≤ i1) then ret (SV.tup [tU (IntKind.u64.wrap (IntKind.u64.wrap (i5 * (4294967296 : Int)) + i8)), tU (shrI IntKind.u64 (IntKind.u64.wrap (IntKind.u64.wrap (IntKind.u64.wrap (i7 * (4294967296 : Int)) + i4) - IntKind.u64.wrap (i8 * i0))) i1)]) else none := by kernel_rfl

theorem div64_1 (v a b w x q : Int) (s : Nat) (d : KD v a b) (hq : 0 ≤ q ∧ q < 4294967296) : ∀ (k : Nat) (t r : Int), KI v a b x w t r → t.toNat < k →
    ∃ t', KQ v x w t' ∧ div64_f.H div64_e [] k 1 [.i v, .i s, .i a, .i b, .i w, .i q, .i r, .i x, .i t] = some ⟨.tup [tU (q * 4294967296 + t'), tU (shrI .u64 (x * 4294967296 + w - t' * v) s)], []⟩ := by
  intro k
  induction k with
  | zero => intro t r _ h; omega
  | succ k ih =>
    intro t r i hk
    have hv := d.v1
    have hs : decide ((0 : Int) ≤ (s : Int)) = true := decide_eq_true (by omega)
    have e1 := kr_w i
    have e2 := ra_w d i
    have fin : ∀ t', KQ v x w t' → (ret (.tup [tU (IntKind.u64.wrap (IntKind.u64.wrap (q * 4294967296) + t')), tU (shrI .u64 (IntKind.u64.wrap (IntKind.u64.wrap (IntKind.u64.wrap (x * 4294967296) + w) - IntKind.u64.wrap (t' * v))) s)])) = some ⟨.tup [tU (q * 4294967296 + t'), tU (shrI .u64 (x * 4294967296 + w - t' * v) s)], []⟩ := fun t' k' =>
      retT (q_end hq ⟨k'.q0, k'.q1⟩) (by rw [rest_w k' (by omega)])
    have more : ∀ h : 4294967296 ≤ t ∨ 4294967296 * r + w < t * b, IntKind.u64.wrap (t - 1) = t - 1 := fun h => by
      have := (i.more d h).1; have := i.q1
      exact wS (by omega)
    have step : (4294967296 ≤ t ∨ 4294967296 * r + w < t * b) → ∃ t', KQ v x w t' ∧ (bif decide ((4294967296 : Int) ≤ r + a) then ret (.tup [tU (IntKind.u64.wrap (IntKind.u64.wrap (q * 4294967296) + (t - 1))), tU (shrI .u64 (IntKind.u64.wrap (IntKind.u64.wrap (IntKind.u64.wrap (x * 4294967296) + w) - IntKind.u64.wrap ((t - 1) * v))) s)]) else div64_f.H div64_e [] k 1 [.i v, .i s, .i a, .i b, .i w, .i q, .i (r + a), .i x, .i (t - 1)]) = some ⟨.tup [tU (q * 4294967296 + t'), tU (shrI .u64 (x * 4294967296 + w - t' * v) s)], []⟩ := fun h => by
      by_cases c2 : 4294967296 ≤ r + a
      · have kq := i.brk d h c2
        exact ⟨_, kq, by rw [decide_eq_true c2]; exact fin _ kq⟩
      · have := (i.more d h).1
        obtain ⟨t', k', e⟩ := ih (t - 1) (r + a) (i.next d h (by omega)) (by omega)
        exact ⟨t', k', by rw [decide_eq_false c2]; exact e⟩
    rw [FnD.H_succ, div64_l1]
    dsimp only
    rw [e1, e2, hs]
    by_cases c1 : 4294967296 ≤ t
    · rw [more (.inl c1), decide_eq_true c1]
      exact step (.inl c1)
    · have e4 : IntKind.u64.wrap (t * b) = t * b := by rw [u64w]; exact qb_in d i (by omega)
      rw [decide_eq_false c1, e4]
      by_cases c3 : 4294967296 * r + w < t * b
      · rw [more (.inr c3), decide_eq_true c3]
        exact step (.inr c3)
      · rw [decide_eq_false c3]
        have kq := i.fin d (by omega) (by omega)
        exact ⟨t, kq, fin _ kq⟩
theorem div64_0 (v a b u w w0 : Int) (s : Nat) (d : KD v a b) (hw0 : 0 ≤ w0 ∧ w0 < 4294967296) : ∀ (k : Nat) (q r : Int), KI v a b u w q r → q.toNat + 18446744073709551618 < k →
    ∃ t t', KQ v u w t ∧ KQ v (u * 4294967296 + w - t * v) w0 t' ∧ div64_f.H div64_e [] k 0 [.i v, .i s, .i a, .i b, .i u, .i w, .i w0, .i q, .i r] = some ⟨.tup [tU (t * 4294967296 + t'), tU (shrI .u64 ((u * 4294967296 + w - t * v) * 4294967296 + w0 - t' * v) s)], []⟩ := by
  intro k
  induction k with
  | zero => intro t r _ h; omega
  | succ k ih =>
    intro t r i hk
    have hv := d.v1
    have e1 := kr_w i
    have e2 := ra_w d i
    have ha : decide (a = 0) = false := decide_eq_false (by have := d.a0; omega)
    have fin : ∀ t, KQ v u w t → ∃ t1 t', KQ v u w t1 ∧ KQ v (u * 4294967296 + w - t1 * v) w0 t' ∧ div64_f.H div64_e [] k 1 [.i v, .i s, .i a, .i b, .i w0, .i t, .i (IntKind.u64.wrap (IntKind.u64.wrap (IntKind.u64.wrap (IntKind.u64.wrap (u * 4294967296) + w) - IntKind.u64.wrap (t * v)) - IntKind.u64.wrap (IntKind.u64.wrap ((IntKind.u64.wrap (IntKind.u64.wrap (IntKind.u64.wrap (u * 4294967296) + w) - IntKind.u64.wrap (t * v))).tdiv a) * a))), .i (IntKind.u64.wrap (IntKind.u64.wrap (IntKind.u64.wrap (u * 4294967296) + w) - IntKind.u64.wrap (t * v))), .i (IntKind.u64.wrap ((IntKind.u64.wrap (IntKind.u64.wrap (IntKind.u64.wrap (u * 4294967296) + w) - IntKind.u64.wrap (t * v))).tdiv a))] = some ⟨.tup [tU (t1 * 4294967296 + t'), tU (shrI .u64 ((u * 4294967296 + w - t1 * v) * 4294967296 + w0 - t' * v) s)], []⟩ := fun t kq => by
      rw [rest_w kq (by omega)]
      have hx : 0 ≤ u * 4294967296 + w - t * v ∧ u * 4294967296 + w - t * v < v := by have := kq.lo; have := kq.up; omega
      generalize hxe : u * 4294967296 + w - t * v = x at hx
      have ha0 := d.a0
      obtain ⟨f1, f2⟩ := quo_w (x := x) (a := a) ⟨hx.1, by omega⟩ (by omega)
      rw [f1, f2]
      have hle : x / a ≤ x := Int.ediv_le_self _ hx.1
      obtain ⟨t', k', e⟩ := div64_1 v a b w0 x t s d ⟨kq.q0, kq.q1⟩ k (x / a) (x % a) (KI.start d hx hw0) (by omega)
      exact ⟨t, t', kq, by rw [hxe]; exact k', by rw [hxe]; exact e⟩
    have more : ∀ h : 4294967296 ≤ t ∨ 4294967296 * r + w < t * b, IntKind.u64.wrap (t - 1) = t - 1 := fun h => by
      have := (i.more d h).1; have := i.q1
      exact wS (by omega)
    rw [FnD.H_succ, div64_l0]
    dsimp only
    rw [e1, e2, ha]
    by_cases c1 : 4294967296 ≤ t
    · rw [more (.inl c1), decide_eq_true c1]
      by_cases c2 : 4294967296 ≤ r + a
      · rw [decide_eq_true c2]; exact fin _ (i.brk d (.inl c1) c2)
      · have := (i.more d (.inl c1)).1
        rw [decide_eq_false c2]; exact ih _ _ (i.next d (.inl c1) (by omega)) (by omega)
    · have e4 : IntKind.u64.wrap (t * b) = t * b := by rw [u64w]; exact qb_in d i (by omega)
      rw [decide_eq_false c1, e4]
      by_cases c3 : 4294967296 * r + w < t * b
      · rw [more (.inr c3), decide_eq_true c3]
        by_cases c2 : 4294967296 ≤ r + a
        · rw [decide_eq_true c2]; exact fin _ (i.brk d (.inr c3) c2)
        · have := (i.more d (.inr c3)).1
          rw [decide_eq_false c2]; exact ih _ _ (i.next d (.inr c3) (by omega)) (by omega)
      · rw [decide_eq_false c3]
        exact fin _ (i.fin d (by omega) (by omega))
theorem div64_run (u : Int) (l : Int) (y : Int) (hp : isW u ∧ isW l ∧ isW y ∧ u < y) : ∃ fu, div64_f.run div64_e [] fu [c1 (.int .u64 u), c1 (.int .u64 l), c1 (.int .u64 y)] [] = some ⟨.tup [tU (wVal u l / y), tU (wVal u l % y)], []⟩ := by
  obtain ⟨hu, hl, hy, huy⟩ := hp
  have hu' := hu
  have hl' := hl
  have hy' := hy
  unfold isW at hu' hl' hy'
  by_cases h0 : u = 0
  · subst h0
    refine ⟨0, ?_⟩
    rw [FnD.run, div64_ent]
    dsimp only
    rw [decide_eq_false (show ¬ y = 0 by omega), decide_eq_false (show ¬ y ≤ 0 by omega), decide_eq_true (rfl : (0 : Int) = 0)]
    exact retT (by rw [IntWalk.u64_quo l y ⟨hl'.1, by omega, by omega⟩]; simp [wVal]) (by rw [IntWalk.rem_in _ _ hl'.1]; simp [wVal])
  · obtain ⟨n, hn, en, hv0, hv1⟩ := lz_facts hy (by omega)
    obtain ⟨p1, p2, p3, p4⟩ := norm_parts (n := n) hu hl huy hn hv1 (fun _ => trivial)
    have hsh (x : Int) : shlI .u64 x (n : Int) = x * 2 ^ n % 18446744073709551616 := by rw [shl_n _ _ (show n ≤ 64 by omega), u64w]
    have hsr (x : Int) : shrI .u64 x (n : Int) = x / 2 ^ n := shr_n _ _ (show n ≤ 64 by omega)
    have hsr2 (x : Int) : shrI .u64 x ((64 - n : Nat) : Int) = x / 2 ^ (64 - n) := shr_n _ _ (show 64 - n ≤ 64 by omega)
    have w1 : IntKind.u64.wrap (n : Int) = n := wS (by omega)
    have w2 : IntKind.u64.wrap (64 - (n : Int)) = ((64 - n : Nat) : Int) := by rw [wS (by omega)]; omega
    have hym : y * 2 ^ n % 18446744073709551616 = y * 2 ^ n := by
      generalize y * 2 ^ n = t at *
      omega
    have hd : KD (y * 2 ^ n) (y * 2 ^ n / 4294967296) (y * 2 ^ n % 4294967296) := by
      generalize y * 2 ^ n = t at *
      exact ⟨by omega, by omega, by omega, by omega, by omega⟩
    have hvW : isW (y * 2 ^ n) := ⟨by omega, hv1⟩
    have hlo : isW (l * 2 ^ n % 18446744073709551616) := ⟨by omega, by omega⟩
    generalize hX : u * 2 ^ n + l / 2 ^ (64 - n) = X at *
    generalize hL : l * 2 ^ n % 18446744073709551616 = L at *
    have hL' := hlo
    unfold isW at hL'
    obtain ⟨f1, f2⟩ := quo_w (x := X) (a := y * 2 ^ n / 4294967296) ⟨p3, by omega⟩ (by have := hd.a0; omega)
    have hle : X / (y * 2 ^ n / 4294967296) ≤ X := Int.ediv_le_self _ p3
    obtain ⟨t, t', k1, k2, e⟩ := div64_0 (y * 2 ^ n) (y * 2 ^ n / 4294967296) (y * 2 ^ n % 4294967296) X (L / 4294967296) (L % 4294967296) n hd (by omega) 36893488147419103240 _ _ (KI.start hd ⟨p3, p2⟩ (by omega)) (by omega)
    refine ⟨36893488147419103240, ?_⟩
    rw [FnD.run, div64_ent]
    dsimp only
    rw [en, w1, w2, decide_eq_false (show ¬ y = 0 by omega), decide_eq_false (show ¬ y ≤ u by omega), decide_eq_false h0, decide_eq_true hy]
    simp only [hsh, hsr2, hym, shr32, and32 hvW, hL, and32 hlo, p1, f1, f2]
    rw [decide_eq_true (show (0 : Int) ≤ (n : Int) by omega), decide_eq_true (show (0 : Int) ≤ ((64 - n : Nat) : Int) by omega), decide_eq_false (show ¬ y * 2 ^ n / 4294967296 = 0 by have := hd.a0; omega)]
    simp only [cond_true, cond_false, Bool.not_false]
    rw [e, hsr]
    obtain ⟨g1, g2⟩ := div_end (N := wVal u l) (y := y) (n := n) (X := X * 4294967296 + L / 4294967296) (q1 := t) (w0 := L % 4294967296) (by omega) (by rw [p4]; omega) rfl k2
    rw [g1, g2]
theorem div64_ok (u : Int) (l : Int) (y : Int) (hp : isW u ∧ isW l ∧ isW y ∧ u < y) : FnOk cfg 266 ([c1 (.int .u64 u), c1 (.int .u64 l), c1 (.int .u64 y)].map SV.den) (.tup [tU (wVal u l / y), tU (wVal u l % y)] : SV).den := by
  obtain ⟨nn, h⟩ := div64_run u l y hp
  exact FnD.ok div64_g div64_f mixed Tryz.func266 rfl rfl rfl rfl rfl rfl h
noncomputable def c_div64 : SpecF := fun args _ K => match args with
  | [.one (.c (.int .u64 u)), .one (.c (.int .u64 l)), .one (.c (.int .u64 y))] => bif decide (isW u ∧ isW l ∧ isW y ∧ u < y) then K (.tup [tU (wVal u l / y), tU (wVal u l % y)]) [] else none
  | _ => none
theorem c_div64_ok : SpecOk cfg 266 c_div64 := by
  intro args bx K out h
  unfold c_div64 at h
  split at h
  · obtain ⟨hp, h⟩ := bif_some h
    exact ⟨_, _, h, .inl (div64_ok _ _ _ (of_decide_eq_true hp) _), by simp [isTupS]⟩
  · cases h
end Go.Proofs.YtldofkogmkfpjaaGreatDoor
