/- cron.row, cron.full: all numbers of a stretch as bits. -/
import Derived.Test.YtoabloeechphkaaDoorBits
import Derived.Test.YtoabloeechphkaaDoorTxt
import Derived.IntWalk
namespace Go.Proofs.YtoabloeechphkaaDoor
open Go.RowKit

theorem wrap_pow (n : Nat) (h : n < 64) : IntKind.u64.wrap (2 ^ n) = ((2 ^ n : Nat) : Int) := by
  have h2 : (2 : Nat) ^ n < 18446744073709551616 := show 2 ^ n < 2 ^ 64 from Nat.pow_lt_pow_right (by omega) h
  have e : ((2 : Int) ^ n) = ((2 ^ n : Nat) : Int) := by simp
  rw [e]
  obtain ⟨q, hq⟩ : ∃ q, q = 2 ^ n := ⟨_, rfl⟩
  rw [← hq] at h2 ⊢
  exact IntWalk.u64_in _ ⟨by omega, by omega⟩

set_option maxRecDepth 20000 in
set_option maxHeartbeats 400000 in
theorem row_any (f t s : Nat) (hf : f < 64) (ht : t < 64) (hs0 : 0 < s) (hs : s < 64) (w : World) :
    Calls Tryd.prog 43 #[.int .i64 f, .int .i64 t, .int .i64 s] w fun e w' => e = .returned (.int .u64 (rowV f t s)) ∧ w = w' := by
  go_enter Tryd.func43, Tryd.ntmps43
  go_wp2
  go_loop [7, 8] (fun v i => ∃ k : Nat, f + k * s < 128 ∧ i = .int .i64 ((f + k * s : Nat) : Int) ∧ v = .int .u64 ((setP (rowP f t s) (f + k * s) : Nat) : Int)) (fun _ i => 128 - (intOf i).toNat)
  case atStart => exact ⟨0, by omega, by simp, by rw [Nat.zero_mul, Nat.add_zero, row_start]; rfl⟩
  case round =>
    obtain ⟨k, hk, rfl, rfl⟩ := hrel
    obtain ⟨n, hn⟩ : ∃ n, n = f + k * s := ⟨_, rfl⟩
    have hrow := fun (h : n ≤ t) => row_step f t s k hs0 (by omega) ht
    have hend := row_end f t s n
    rw [← hn] at hk hrow ⊢
    have hp := setP_lt (rowP f t s) n
    have Hn := Lib.hid hn; have Hr := Lib.hid hrow; have He := Lib.hid hend; have Hp := Lib.hid hp
    clear hn hrow hend hp
    by_cases hlt : n ≤ t
    · have h2 : (2 : Nat) ^ n < 18446744073709551616 := show 2 ^ n < 2 ^ 64 from Nat.pow_lt_pow_right (by omega) (by omega)
      have hb := u64_or_nat (setP (rowP f t s) n) (2 ^ n) (setP_lt64 _ _ (by omega)) h2
      have hw := wrap_pow n (by omega)
      have Hb := Lib.hid hb; have Hw := Lib.hid hw
      clear hb hw h2
      go_wp2
      go_round
      case rel =>
        refine ⟨k + 1, ?_, ?_, ?_⟩
        · have := Hn.out; rw [Nat.add_mul]; omega
        · have := Hn.out; rw [Nat.add_mul]; congr 1; push_cast [this]; omega
        · rw [Hw.out, Hb.out, Hr.out hlt]
      case measure => simp [intOf]; omega
    · go_wp2
      go_ret
      exact ⟨by rw [He.out (by omega) ht]; rfl, rfl⟩
end Go.Proofs.YtoabloeechphkaaDoor
