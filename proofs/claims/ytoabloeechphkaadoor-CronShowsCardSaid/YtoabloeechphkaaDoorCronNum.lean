/- cron.number: a number of one or two digits. -/
import Derived.Test.YtoabloeechphkaaDoorTxt
namespace Go.Proofs.YtoabloeechphkaaDoor
open Go.RowKit

def digB (c : UInt8) : Bool := decide (48 ≤ c.toNat) && decide (c.toNat ≤ 57)
def decN (s : List UInt8) : Nat := s.foldl (fun n c => n * 10 + (c.toNat - 48)) 0
/-- the number of a text; -1: it is none -/
def numV (s : List UInt8) : Int := if (1 ≤ s.length ∧ s.length ≤ 2) ∧ s.all digB = true then decN s else -1
theorem decN_snoc (s : List UInt8) (c : UInt8) : decN (s ++ [c]) = decN s * 10 + (c.toNat - 48) := by simp [decN]
theorem decN_gen (s : List UInt8) : ∀ n : Nat, s.all digB = true → s.foldl (fun n c => n * 10 + (c.toNat - 48)) n < (n + 1) * 10 ^ s.length := by
  induction s with
  | nil => intro n _; simp
  | cons c s ih =>
    intro n h
    rw [List.all_cons, Bool.and_eq_true] at h
    have h1 := ih (n * 10 + (c.toNat - 48)) h.2
    have h2 := h.1
    simp only [digB, Bool.and_eq_true, decide_eq_true_eq] at h2
    rw [List.foldl_cons, List.length_cons, Nat.pow_succ]
    refine Nat.lt_of_lt_of_le h1 ?_
    rw [Nat.mul_comm (10 ^ s.length) 10, ← Nat.mul_assoc]
    exact Nat.mul_le_mul_right _ (by omega)
theorem decN_lt (s : List UInt8) (h : s.all digB = true) : decN s < 10 ^ s.length := by
  have := decN_gen s 0 h
  unfold decN; omega
theorem numV_none {s : List UInt8} (h : ¬ ((1 ≤ s.length ∧ s.length ≤ 2) ∧ s.all digB = true)) : numV s = -1 := if_neg h
theorem numV_some {s : List UInt8} (h : (1 ≤ s.length ∧ s.length ≤ 2) ∧ s.all digB = true) : numV s = decN s := if_pos h
theorem numV_bd (s : List UInt8) : -1 ≤ numV s ∧ numV s ≤ 99 := by
  unfold numV
  split
  · rename_i h
    have h1 := decN_lt s h.2
    have h2 : (10 : Nat) ^ s.length ≤ 10 ^ 2 := Nat.pow_le_pow_right (by omega) h.1.2
    omega
  · omega

set_option maxRecDepth 20000 in
set_option maxHeartbeats 1600000 in
theorem number_any (s : List UInt8) (hs : s.length ≤ 140737000000000) (w : World) :
    Calls Tryd.prog 45 #[.string (S s)] w fun e w' => e = .returned (.int .i64 (numV s)) ∧ Touch [] w w' := by
  have hsz := S_size s
  by_cases h1 : s.length < 1
  · have hn : numV s = -1 := numV_none (fun h => by omega)
    have Hn := Lib.hid hn
    clear hn
    go_enter Tryd.func45, Tryd.ntmps45
    go_wp2_with fail
    go_ret
    exact ⟨ret_int Hn.out.symm, Touch.refl _ _⟩
  by_cases h2 : 2 < s.length
  · have hn : numV s = -1 := numV_none (fun h => by omega)
    have Hn := Lib.hid hn
    clear hn
    go_enter Tryd.func45, Tryd.ntmps45
    go_wp2_with fail
    go_ret
    exact ⟨ret_int Hn.out.symm, Touch.refl _ _⟩
  go_enter Tryd.func45, Tryd.ntmps45
  have hconv := run_bytes_of s w
  have hr := rd_bytes w s
  have ht := touch_bytes w s
  obtain ⟨W, hW⟩ : ∃ W, W = Lib.bytesWorld w 5 (S s) := ⟨_, rfl⟩
  rw [← hW] at hconv hr ht
  clear hW
  go_wp2_with fail
  clear hconv
  go_loop [3, 17] (fun v i => ∃ k : Nat, k ≤ s.length ∧ i = .int .i64 k ∧ v = .int .i64 ((decN (s.take k) : Nat) : Int) ∧ Hid ((s.take k).all digB = true)) (fun _ i => s.length - (intOf i).toNat)
  case atStart => exact ⟨0, by omega, rfl, rfl, Lib.hid rfl⟩
  case round =>
    obtain ⟨k, hk, rfl, rfl, hall⟩ := hrel
    have hb := decN_lt (s.take k) hall.out
    have hb2 : (10 : Nat) ^ (s.take k).length ≤ 10 ^ 2 := Nat.pow_le_pow_right (by omega) (by rw [List.length_take]; omega)
    obtain ⟨q, hq⟩ : ∃ q, q = decN (s.take k) := ⟨_, rfl⟩
    rw [← hq] at hb ⊢
    have hq1 : q < 100 := by omega
    by_cases hlt : k < s.length
    · obtain ⟨ad, e1, hcell⟩ := hr.at_ k hlt
      obtain rfl : ⟨w.heap.size, 0, none⟩ = ad := by injection e1
      have hsn := decN_snoc (s.take k) s[k]
      rw [← List.take_succ_eq_append_getElem hlt, ← hq] at hsn
      obtain ⟨x, hx⟩ : ∃ x, x = s[k] := ⟨_, rfl⟩
      have hadd : (⟨w.heap.size, 0, none⟩ : Addr).add k = ⟨w.heap.size, k, none⟩ := by unfold Addr.add; split <;> simp_all
      rw [← hx, hadd] at hcell
      rw [← hx] at hsn
      have hxl := x.toNat_lt
      have hbad : digB x = false → numV s = -1 := fun h => numV_none (fun h2 => by
        have := List.all_eq_true.1 h2.2 s[k] (List.getElem_mem hlt)
        rw [← hx, h] at this; cases this)
      have hgood : digB x = true → (s.take (k + 1)).all digB = true := fun h => by
        rw [List.take_succ_eq_append_getElem hlt, List.all_append, hall.out, ← hx]
        simp [h]
      have Hb := Lib.hid hbad
      have Hg := Lib.hid hgood
      have Hs := Lib.hid hsn
      clear hbad hgood hx hall e1 hadd hq hb hb2 hsn
      by_cases h3 : x.toNat < 48
      · have hz : ((x.toNat : Int) < 48) = True := eq_true (by omega)
        go_wp2
        go_ret
        exact ⟨by rw [Hb.out (by simp [digB]; omega)]; rfl, ht⟩
      have hz : ((x.toNat : Int) < 48) = False := eq_false (by omega)
      by_cases h4 : 57 < x.toNat
      · have hy : (57 < (x.toNat : Int)) = True := eq_true (by omega)
        go_wp2
        go_ret
        exact ⟨by rw [Hb.out (by simp [digB]; omega)]; rfl, ht⟩
      · have hy : (57 < (x.toNat : Int)) = False := eq_false (by omega)
        go_wp2
        go_round
        case rel => exact ⟨k + 1, by omega, by go_num, by rw [Hs.out]; congr 1; omega, Lib.hid (Hg.out (by simp [digB]; omega))⟩
        case measure => simp [intOf]; omega
    · obtain rfl : k = s.length := by omega
      have hfin : numV s = decN s := numV_some ⟨⟨by omega, by omega⟩, by have h := hall.out; rwa [List.take_length] at h⟩
      rw [List.take_length] at hq
      rw [← hq] at hfin
      have Hf := Lib.hid hfin
      clear hfin hall hq
      go_wp2
      go_ret
      exact ⟨ret_int Hf.out.symm, ht⟩
end Go.Proofs.YtoabloeechphkaaDoor
