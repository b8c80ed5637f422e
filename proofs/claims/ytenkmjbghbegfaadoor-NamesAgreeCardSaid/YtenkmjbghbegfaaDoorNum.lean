/-
  Plain facts on numbers: bits, wraps, zigzag.
  Conditions: those of each fact.
-/
import Derived.Test.YtenkmjbghbegfaaDoorStr
namespace Go.V
open Go

theorem toNat_ofInt_bv (m : Nat) {a : Int} (h0 : 0 ≤ a) (h1 : a < 2 ^ m) : (BitVec.ofInt m a).toNat = a.toNat := by
  obtain ⟨n, rfl⟩ := Int.eq_ofNat_of_zero_le h0
  rw [BitVec.ofInt_natCast, BitVec.toNat_ofNat]
  exact Nat.mod_eq_of_lt (by exact_mod_cast h1)
theorem and_nn {k : IntKind} {a b : Int} (a0 : 0 ≤ a) (a1 : a < 2 ^ k.bits) (b0 : 0 ≤ b) (b1 : b < 2 ^ k.bits) : bts .and k a b = k.wrap ((a.toNat &&& b.toNat : Nat) : Int) := by
  simp only [bts, BitVec.toNat_and, toNat_ofInt_bv _ a0 a1, toNat_ofInt_bv _ b0 b1]
theorem or_nn {k : IntKind} {a b : Int} (a0 : 0 ≤ a) (a1 : a < 2 ^ k.bits) (b0 : 0 ≤ b) (b1 : b < 2 ^ k.bits) : bts .or k a b = k.wrap ((a.toNat ||| b.toNat : Nat) : Int) := by
  simp only [bts, BitVec.toNat_or, toNat_ofInt_bv _ a0 a1, toNat_ofInt_bv _ b0 b1]
theorem xor_nn {k : IntKind} {a b : Int} (a0 : 0 ≤ a) (a1 : a < 2 ^ k.bits) (b0 : 0 ≤ b) (b1 : b < 2 ^ k.bits) : bts .xor k a b = k.wrap ((a.toNat ^^^ b.toNat : Nat) : Int) := by
  simp only [bts, BitVec.toNat_xor, toNat_ofInt_bv _ a0 a1, toNat_ofInt_bv _ b0 b1]
theorem p2_63 : p2 .i64 63 = 9223372036854775808 := by decide
theorem p2_1 : p2 .u64 1 = 2 := by decide
theorem p2_7 : p2 .u64 7 = 128 := by decide

theorem and127 {c : Int} (h0 : 0 ≤ c) (h1 : c ≤ 255) : bts .and .u8 c 127 = c % 128 := by
  rw [and_nn h0 (by simp [IntKind.bits]; omega) (by omega) (by simp [IntKind.bits])]
  have h2 : c.toNat &&& (127 : Int).toNat = c.toNat % 128 := Nat.and_two_pow_sub_one_eq_mod c.toNat 7
  rw [h2, wu8 (by omega)]
  omega
theorem or128 (c : Int) : bts .or .u8 (IntKind.u8.wrap c) 128 = c % 128 + 128 := by
  have hw : IntKind.u8.wrap c = c % 256 := by unfold IntKind.wrap; simp [IntKind.bits, IntKind.signed]
  rw [hw, or_nn (by omega) (by simp [IntKind.bits]; omega) (by omega) (by simp [IntKind.bits])]
  have h3 : (c % 256).toNat ||| (128 : Int).toNat = (c % 128).toNat + 128 := by
    have h4 : (c % 256).toNat = 128 * ((c % 256).toNat / 128) + (c % 256).toNat % 128 := (Nat.div_add_mod _ _).symm
    have h5 : (c % 256).toNat % 128 = (c % 128).toNat := by omega
    have h6 : (c % 256).toNat / 128 = 0 ∨ (c % 256).toNat / 128 = 1 := by omega
    have h7 : (128 : Int).toNat = 2 ^ 7 * 1 := rfl
    have h8 : (c % 128).toNat < 2 ^ 7 := by omega
    have h9 := Nat.two_pow_add_eq_or_of_lt h8 1
    rw [h4, h5, h7]
    rcases h6 with h6 | h6
    · rw [h6, Nat.mul_zero, Nat.zero_add, Nat.or_comm, ← h9]; omega
    · rw [h6]
      have h10 : 128 * 1 + (c % 128).toNat = 2 ^ 7 * 1 + (c % 128).toNat := rfl
      rw [h10, h9, Nat.or_assoc, Nat.or_comm (c % 128).toNat, ← Nat.or_assoc, Nat.or_self, ← h9]; omega
  rw [h3, wu8 (by omega)]
  omega
theorem byte_lo {c : Int} (h0 : 0 ≤ c) (h1 : c < 128) : IntKind.u8.wrap c = c := wu8 (by omega)
/-- bits that do not meet -/
theorem or_shift {u x : Int} {m : Nat} (hu0 : 0 ≤ u) (hu : u < 2 ^ m) (hx : 0 ≤ x) (hs : u + x * 2 ^ m < 2 ^ 64) : bts .or .u64 u (x * 2 ^ m) = u + x * 2 ^ m := by
  have hp : (0 : Int) < 2 ^ m := Int.pow_pos (by decide)
  have hxm : 0 ≤ x * 2 ^ m := Int.mul_nonneg hx (Int.le_of_lt hp)
  rw [or_nn hu0 (by simp [IntKind.bits]; omega) hxm (by simp [IntKind.bits]; omega)]
  obtain ⟨a, rfl⟩ := Int.eq_ofNat_of_zero_le hu0
  obtain ⟨b, rfl⟩ := Int.eq_ofNat_of_zero_le hx
  have h1 : ((b : Int) * 2 ^ m).toNat = 2 ^ m * b := by
    have : ((b : Int) * 2 ^ m) = ((2 ^ m * b : Nat) : Int) := by push_cast; rw [Int.mul_comm]
    rw [this, Int.toNat_natCast]
  have h2 : a < 2 ^ m := by exact_mod_cast hu
  rw [h1, Int.toNat_natCast, Nat.or_comm, ← Nat.two_pow_add_eq_or_of_lt h2 b]
  have h3 : ((2 ^ m * b + a : Nat) : Int) = (a : Int) + (b : Int) * 2 ^ m := by push_cast; rw [Int.mul_comm, Int.add_comm]
  rw [h3, wu64 ⟨by omega, by omega⟩]

section
variable {P : Program} {T : Tab} [hT : TabOk P T] {n : Nat} {os l : List Oper} {K : Kt} {F : Fm} {w : World}
theorem WL.shl {o : Oper} {t yt : TypeId} {x y : Operand} {k kk : IntKind} {p b : Int} (hg : o.guard = none) (ho : o.op = .binOp .shl t x y yt) (m : Nat) (hx : ev F x = .int k p) (hy : ev F y = .int kk b) (hb : b = m) (hk : WL P n os l K (updo F o.dst (.int k (k.wrap (p * p2 k m)))) w) : WL P n os (o :: l) K F w := by
  subst hb
  refine WL.val hg (fun hok => ?_) hk
  have e1 := okX_at (F := F) hok (x := x) (by simp [ho, Op.operands])
  have e2 := okX_at (F := F) hok (x := y) (by simp [ho, Op.operands])
  have hr := shfI_ok (P := P) (k := k) (k' := kk) (a := p) (b := (m : Int)) t (op := .shl) rfl rfl w
  simp only [execOp, ho, e1, e2, hx, hy, eqGuard, Sem.run_bind, Sem.run_pure]
  simp [hr]
end

theorem tm_neg {k n : Int} (hn : 0 < n) (h : k.tmod n < 0) : k.tmod n + n = k % n := by
  have h1 := Int.emod_nonneg k (show n ≠ 0 by omega)
  rw [Int.tmod_eq_emod] at h ⊢
  split at h
  · omega
  · rename_i h2; rw [if_neg h2]; omega
theorem tm_pos {k n : Int} (hn : 0 < n) (h : ¬ k.tmod n < 0) : k.tmod n = k % n := by
  have h1 := Int.emod_lt_of_pos k hn
  rw [Int.tmod_eq_emod] at h ⊢
  split at h
  · rename_i h2; rw [if_pos h2]; omega
  · omega
theorem tm_lt {k n : Int} (hn : 0 < n) : -n < k.tmod n ∧ k.tmod n < n := ⟨by
  have h1 := Int.emod_nonneg k (show n ≠ 0 by omega)
  rw [Int.tmod_eq_emod]
  split <;> omega, Int.tmod_lt_of_pos k hn⟩
/-! ### zigzag -/
def zz (n : Int) : Int := if 0 ≤ n then 2 * n else -2 * n - 1
def uz (u : Int) : Int := if u % 2 = 0 then u / 2 else -(u / 2) - 1
theorem uz_zz (n : Int) : uz (zz n) = n := by unfold uz zz; split <;> split <;> omega
theorem zz_uz {u : Int} (h : 0 ≤ u) : zz (uz u) = u := by unfold uz zz; split <;> split <;> omega
theorem zz_b {n : Int} (h : -9223372036854775808 ≤ n ∧ n ≤ 9223372036854775807) : 0 ≤ zz n ∧ zz n ≤ 18446744073709551615 := by unfold zz; split <;> omega
theorem uz_b {u : Int} (h : 0 ≤ u ∧ u ≤ 18446744073709551615) : -9223372036854775808 ≤ uz u ∧ uz u ≤ 9223372036854775807 := by unfold uz; split <;> omega
theorem wrap_u64 (z : Int) : IntKind.u64.wrap z = z % 18446744073709551616 := by unfold IntKind.wrap; simp [IntKind.bits, IntKind.signed]
theorem xor_ones (a : Nat) (h : a < 2 ^ 64) : a ^^^ (2 ^ 64 - 1) = 2 ^ 64 - 1 - a := by
  have h2 := congrArg BitVec.toNat (BitVec.xor_allOnes (x := BitVec.ofNat 64 a))
  simp only [BitVec.toNat_xor, BitVec.toNat_allOnes, BitVec.toNat_not, BitVec.toNat_ofNat, Nat.mod_eq_of_lt h] at h2
  exact h2
theorem zz_bits {n : Int} (h : -9223372036854775808 ≤ n ∧ n ≤ 9223372036854775807) :
    bts .xor .u64 (IntKind.u64.wrap (IntKind.u64.wrap n * p2 .u64 1)) (IntKind.u64.wrap (n / p2 .i64 63)) = zz n := by
  rw [p2_63, p2_1]
  unfold zz
  split
  · rename_i h0
    have e1 : n / 9223372036854775808 = 0 := by omega
    rw [e1, wu64 (z := n) (by omega), wu64 (z := n * 2) (by omega), wu64 (z := 0) (by omega), xor_nn (by omega) (by simp [IntKind.bits]; omega) (by omega) (by simp [IntKind.bits])]
    rw [show (0 : Int).toNat = 0 from rfl, Nat.xor_zero, wu64 (by omega)]; omega
  · rename_i h0
    have e1 : n / 9223372036854775808 = -1 := by omega
    have e2 : IntKind.u64.wrap n = n + 18446744073709551616 := by rw [wrap_u64]; omega
    have e3 : IntKind.u64.wrap ((n + 18446744073709551616) * 2) = 2 * n + 18446744073709551616 := by rw [wrap_u64]; omega
    have e4 : IntKind.u64.wrap (-1) = 18446744073709551615 := by rw [wrap_u64]; rfl
    rw [e1, e2, e3, e4, xor_nn (by omega) (by simp [IntKind.bits]; omega) (by omega) (by simp [IntKind.bits])]
    have e5 : (18446744073709551615 : Int).toNat = 2 ^ 64 - 1 := by rfl
    rw [e5, xor_ones _ (by omega), wu64 (by omega)]
    omega
theorem and1 {u : Int} (h : 0 ≤ u ∧ u ≤ 18446744073709551615) : bts .and .u64 u 1 = u % 2 := by
  rw [and_nn (by omega) (by simp [IntKind.bits]; omega) (by omega) (by simp [IntKind.bits])]
  have h2 : u.toNat &&& (1 : Int).toNat = u.toNat % 2 := Nat.and_two_pow_sub_one_eq_mod u.toNat 1
  rw [h2, wu64 (by omega)]; omega
theorem xor_i64_0 {a : Int} (h : 0 ≤ a ∧ a ≤ 9223372036854775807) : bts .xor .i64 a 0 = a := by
  rw [xor_nn (by omega) (by simp [IntKind.bits]; omega) (by omega) (by simp [IntKind.bits])]
  rw [show (0 : Int).toNat = 0 from rfl, Nat.xor_zero, w64 (by omega)]; omega
theorem xor_i64_m {a : Int} (h : 0 ≤ a ∧ a ≤ 9223372036854775807) : bts .xor .i64 a (-1) = -a - 1 := by
  have e : (BitVec.ofInt 64 (-1)).toNat = 2 ^ 64 - 1 := by decide
  show IntKind.i64.wrap ((BitVec.ofInt 64 a ^^^ BitVec.ofInt 64 (-1)).toNat : Int) = _
  rw [BitVec.toNat_xor, toNat_ofInt_bv 64 h.1 (by omega), e, xor_ones _ (by omega), IntKind.wrap_i64]
  omega
theorem uz_bits {u : Int} (h : 0 ≤ u ∧ u ≤ 18446744073709551615) : bts .xor .i64 (u / 2) (0 - u % 2) = uz u := by
  unfold uz
  split
  · rename_i h0; rw [h0, show (0 : Int) - 0 = 0 from rfl, xor_i64_0 (by omega)]
  · rename_i h0
    have : u % 2 = 1 := by omega
    rw [this, show (0 : Int) - 1 = -1 from rfl, xor_i64_m (by omega)]
end Go.V
