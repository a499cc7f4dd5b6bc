/- The plain law of the sums: four bits by four and bit by bit give one sum; gone on with its own bytes every sum is one and the same. -/
import Derived.Test.YtgpadejkmpfafaaDoorSum
import Derived.Test.YtgpadejkmpfafaaDoorRefSum
import Derived.Test.YtgpadejkmpfafaaDoorLow
namespace Go.Proofs.YtgpadejkmpfafaaDoor

theorem bit1_eq (c : Nat) : bit1 c = (c / 2) ^^^ (if c % 2 = 1 then 3988292384 else 0) := by
  unfold bit1; split <;> simp
theorem xor_mod2 (a b : Nat) : (a ^^^ b) % 2 = (a % 2 + b % 2) % 2 := by
  have h := Nat.testBit_xor a b 0
  simp only [Nat.testBit_zero] at h
  rcases Nat.mod_two_eq_zero_or_one a with ha | ha <;> rcases Nat.mod_two_eq_zero_or_one b with hb | hb <;> rcases Nat.mod_two_eq_zero_or_one (a ^^^ b) with hc | hc <;> simp [ha, hb, hc] at h ⊢
theorem xor_div_pow (a b n : Nat) : (a ^^^ b) / 2 ^ n = (a / 2 ^ n) ^^^ (b / 2 ^ n) := by
  rw [← Nat.shiftRight_eq_div_pow, ← Nat.shiftRight_eq_div_pow, ← Nat.shiftRight_eq_div_pow, Nat.shiftRight_xor_distrib]
theorem bit1_xor (a b : Nat) : bit1 (a ^^^ b) = bit1 a ^^^ bit1 b := by
  have hd : (a ^^^ b) / 2 = (a / 2) ^^^ (b / 2) := xor_div_pow a b 1
  rw [bit1_eq, bit1_eq a, bit1_eq b, hd, xor_mod2]
  rcases Nat.mod_two_eq_zero_or_one a with ha | ha <;> rcases Nat.mod_two_eq_zero_or_one b with hb | hb <;> simp only [ha, hb]
  · simp
  · simp [Nat.xor_assoc]
  · simp [Nat.xor_assoc]; rw [Nat.xor_comm]
    simp [Nat.xor_comm]
  · simp [Nat.xor_assoc]
    rw [← Nat.xor_assoc 3988292384, Nat.xor_comm 3988292384, Nat.xor_assoc]; simp
theorem bits1_xor (a b j : Nat) : bits1 (a ^^^ b) j = bits1 a j ^^^ bits1 b j := by
  induction j with
  | zero => rfl
  | succ j ih => simp only [bits1, ih, bit1_xor]
theorem bits1_mul (q j : Nat) : bits1 (q * 2 ^ j) j = q := by
  have key : ∀ i j q, i ≤ j → bits1 (q * 2 ^ j) i = q * 2 ^ (j - i) := by
    intro i
    induction i with
    | zero => intro j q _; simp [bits1]
    | succ i ih =>
      intro j q h
      rw [bits1, ih j q (by omega), show j - i = (j - (i + 1)) + 1 by omega, Nat.pow_succ, ← Nat.mul_assoc]
      unfold bit1
      rw [if_neg (by omega)]
      omega
  simpa using key j j q (Nat.le_refl _)
theorem split_xor (c n : Nat) : c = (c / 2 ^ n * 2 ^ n) ^^^ (c % 2 ^ n) := by
  apply Nat.eq_of_testBit_eq
  intro i
  rw [Nat.testBit_xor, Nat.testBit_mod_two_pow, Nat.testBit_mul_two_pow, Nat.testBit_div_two_pow]
  by_cases h : i < n
  · simp [h, Nat.not_le.2 h]
  · have h' : n ≤ i := by omega
    simp [h, h', Nat.sub_add_cancel h']
theorem bits1_split (c j : Nat) : bits1 c j = (c / 2 ^ j) ^^^ bits1 (c % 2 ^ j) j := by
  conv => lhs; rw [split_xor c j]
  rw [bits1_xor, bits1_mul]
theorem nib_bits (c : Nat) : nib c = bits1 c 4 := by
  rw [bits1_split]
  unfold nib
  have h : ∀ x : Fin 16, half.getD x.val 0 = bits1 x.val 4 := by decide +kernel
  have := h ⟨c % 16, by omega⟩
  simp only at this
  rw [this]
theorem bits1_add (c i j : Nat) : bits1 (bits1 c i) j = bits1 c (i + j) := by
  induction j with
  | zero => rfl
  | succ j ih => rw [bits1, ih, ← Nat.add_assoc, bits1]
theorem stepB_eq (c : Nat) (x : UInt8) : stepB c x = rstepB c x := by
  unfold stepB rstepB
  simp only [nibs, nib_bits]
  rw [bits1_add]
theorem crc_eq (bs : List UInt8) : crc bs = rcrc bs := by
  unfold crc rcrc
  have : stepB = rstepB := by funext c x; exact stepB_eq c x
  rw [this]
theorem not_sub (c : Nat) (h : c < 4294967296) : 4294967295 ^^^ c = 4294967295 - c := by
  have e := congrArg BitVec.toNat (BitVec.xor_allOnes (x := BitVec.ofNat 32 c))
  rw [BitVec.toNat_xor, BitVec.toNat_not, BitVec.toNat_allOnes, BitVec.toNat_ofNat, Nat.mod_eq_of_lt (by simpa using h), Nat.xor_comm] at e
  simpa using e
theorem sum_eq (bs : List UInt8) : sumOf bs = rsumOf bs := by
  unfold sumOf rsumOf
  rw [← crc_eq, not_sub _ (crc_lt bs)]

/-- one step with the lowest byte of what is left of the state, turned round -/
theorem own_step (a k : Nat) : bits1 ((a ^^^ k) ^^^ (255 ^^^ (a % 256))) 8 = (a / 256) ^^^ bits1 (k ^^^ 255) 8 := by
  have h : (a ^^^ k) ^^^ (255 ^^^ (a % 256)) = (a / 2 ^ 8 * 2 ^ 8) ^^^ (k ^^^ 255) := by
    have hs := split_xor a 8
    have h2 : a ^^^ (a % 2 ^ 8) = a / 2 ^ 8 * 2 ^ 8 := by
      conv => lhs; lhs; rw [hs]
      rw [Nat.xor_assoc, Nat.xor_self, Nat.xor_zero]
    rw [← h2]
    show (a ^^^ k) ^^^ (255 ^^^ (a % 2 ^ 8)) = (a ^^^ (a % 2 ^ 8)) ^^^ (k ^^^ 255)
    generalize a % 2 ^ 8 = m
    rw [Nat.xor_assoc, Nat.xor_assoc, Nat.xor_comm 255 m, ← Nat.xor_assoc k, Nat.xor_comm k m, Nat.xor_assoc]
  rw [h, bits1_xor, bits1_mul]
theorem xor_mod256 (a b : Nat) : (a ^^^ b) % 256 = (a % 256) ^^^ (b % 256) := by
  show (a ^^^ b) % 2 ^ 8 = (a % 2 ^ 8) ^^^ (b % 2 ^ 8)
  apply Nat.eq_of_testBit_eq
  intro i
  simp only [Nat.testBit_mod_two_pow, Nat.testBit_xor]
  by_cases h : i < 8 <;> simp [h]
theorem own_byte (c n : Nat) (hn : n < 4) : (UInt8.ofNat ((4294967295 ^^^ c) / 2 ^ (8 * n))).toNat = 255 ^^^ (c / 2 ^ (8 * n)) % 256 := by
  rw [UInt8.toNat_ofNat', show (2 : Nat) ^ 8 = 256 from rfl, xor_div_pow, xor_mod256]
  congr 1
  match n, hn with
  | 0, _ => rfl
  | 1, _ => rfl
  | 2, _ => rfl
  | 3, _ => rfl
theorem own_sum (bs : List UInt8) : sumOf (bs ++ digs (sumOf bs) 4) = 558161692 := by
  have hc := crc_lt bs
  have e0 := own_byte (crc bs) 0 (by omega)
  have e1 := own_byte (crc bs) 1 (by omega)
  have e2 := own_byte (crc bs) 2 (by omega)
  have e3 := own_byte (crc bs) 3 (by omega)
  have s0 := own_step (crc bs) 0
  have s1 := own_step (crc bs / 256) (bits1 (0 ^^^ 255) 8)
  have s2 := own_step (crc bs / 256 / 256) (bits1 (bits1 (0 ^^^ 255) 8 ^^^ 255) 8)
  have s3 := own_step (crc bs / 256 / 256 / 256) (bits1 (bits1 (bits1 (0 ^^^ 255) 8 ^^^ 255) 8 ^^^ 255) 8)
  have z : crc bs / 256 / 256 / 256 / 256 = 0 := by omega
  have d1 : crc bs / 2 ^ (8 * 1) = crc bs / 256 := rfl
  have d2 : crc bs / 2 ^ (8 * 2) = crc bs / 256 / 256 := by rw [Nat.div_div_eq_div_mul]
  have d3 : crc bs / 2 ^ (8 * 3) = crc bs / 256 / 256 / 256 := by rw [Nat.div_div_eq_div_mul, Nat.div_div_eq_div_mul]
  have f0 : crc bs / 2 ^ (8 * 0) = crc bs := Nat.div_one _
  have g0 : (4294967295 ^^^ crc bs) / 2 ^ (8 * 0) = sumOf bs := Nat.div_one _
  have g1 : (4294967295 ^^^ crc bs) / 2 ^ (8 * 1) = sumOf bs / 256 := rfl
  have g2 : (4294967295 ^^^ crc bs) / 2 ^ (8 * 2) = sumOf bs / 256 / 256 := by rw [Nat.div_div_eq_div_mul]; rfl
  have g3 : (4294967295 ^^^ crc bs) / 2 ^ (8 * 3) = sumOf bs / 256 / 256 / 256 := by rw [Nat.div_div_eq_div_mul, Nat.div_div_eq_div_mul]; rfl
  rw [f0, g0] at e0
  rw [d1, g1] at e1
  rw [d2, g2] at e2
  rw [d3, g3] at e3
  have key : crc (bs ++ digs (sumOf bs) 4) = bits1 (bits1 (bits1 (bits1 (0 ^^^ 255) 8 ^^^ 255) 8 ^^^ 255) 8 ^^^ 255) 8 := by
    rw [crc_eq]
    unfold rcrc
    rw [List.foldl_append]
    show (digs (sumOf bs) 4).foldl rstepB (rcrc bs) = _
    rw [← crc_eq]
    simp only [digs, List.foldl_cons, List.foldl_nil, rstepB]
    rw [e0, e1, e2, e3]
    rw [Nat.xor_zero] at s0
    rw [s0, s1, s2, s3, z, Nat.zero_xor]
  show 4294967295 ^^^ crc _ = _
  rw [key]
  decide +kernel
end Go.Proofs.YtgpadejkmpfafaaDoor
