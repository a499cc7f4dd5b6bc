/- cmp.Or: the first that is not 0. For every row. -/
import Derived.Test.YthhjioeipjnjmaaRdK
import Derived.Test.YthhjioeipjnjmaaNums
import Derived.Test.YthhjioeipjnjmaaShelf
import Derived.StillTailTactics
namespace Go.Proofs.Ythhjioeipjnjmaa
open Go.RowKit

/-- the first that is not 0 -/
def orV : List Int → Int
  | [] => 0
  | x :: r => if x = 0 then orV r else x
theorem compareInt_neg (x y : Int) : Lib.compareInt y x = -Lib.compareInt x y := by
  unfold Lib.compareInt
  split <;> split <;> (try split) <;> omega
theorem compareInt_b (x y : Int) : -1 ≤ Lib.compareInt x y ∧ Lib.compareInt x y ≤ 1 := by
  unfold Lib.compareInt
  split <;> (try split) <;> omega
set_option maxHeartbeats 800000 in
theorem or_any (A : Option Addr) (cap n : Nat) (l : List Int) (hn : l.length = n) (w : World) (h : RdK inE w A l) (hl : n ≤ 140737000000000) :
    Calls Try.prog 32 #[.slice A n cap] w fun e w' => e = .returned (.int .i64 (orV l)) ∧ w' = w := by
  subst hn
  go_enter Try.func32, Try.ntmps32
  go_wp2
  go_loopw [8] (fun i wr => ∃ k : Nat, k ≤ l.length ∧ i = .int .i64 k ∧ Hid (orV l = orV (l.drop k)) ∧ wr = w) (fun i _ => l.length - (intOf i).toNat)
  case atStart => exact ⟨0, by omega, rfl, Lib.hid rfl, rfl⟩
  case round =>
    obtain ⟨k, hk, rfl, Ho, rfl⟩ := hrel
    by_cases hlt : k < l.length
    · obtain ⟨ad, rfl, c0⟩ := RdKI.at_ h k hlt
      have hst : orV (l.drop k) = if l[k] = 0 then orV (l.drop (k + 1)) else l[k] := by rw [List.drop_eq_getElem_cons hlt]; rfl
      obtain ⟨x, hx⟩ : ∃ x, x = l[k] := ⟨_, rfl⟩
      rw [← hx] at hst c0
      have Hst := Lib.hid hst
      clear hst hx
      by_cases h0 : x = 0
      · subst h0
        have Hq := Lib.hid (show orV l = orV (l.drop (k + 1)) by rw [Ho.out, Hst.out, if_pos rfl])
        go_wp2
        go_roundw
        case rel => exact ⟨k + 1, by omega, by go_num, Hq, trivial⟩
        case measure => simp [intOf]; omega
      · have Hq := Lib.hid (show orV l = x by rw [Ho.out, Hst.out, if_neg h0])
        have hq : (x == 0) = false := by rw [beq_eq_false_iff_ne]; exact h0
        have hq' : (x != 0) = true := by rw [bne, hq]; rfl
        go_wp2
        go_ret
        exact ⟨ret_int Hq.out.symm, rfl⟩
    · obtain rfl : k = l.length := by omega
      have Hq := Lib.hid (show orV l = 0 by rw [Ho.out, List.drop_length]; rfl)
      go_wp2
      go_ret
      exact ⟨ret_int Hq.out.symm, rfl⟩

theorem wp_still_tail' {P : Program} {id : Nat} {Q : Exit → Act → World → Prop} {a : Act} {w : World} {l : List Oper} (n : Nat) (hm : P.follows .mixedOrders = true) (hB : Region.lexTailB .any l.toArray n = true)
    (h : ∀ w2, w2 = w.drew → wpStill P l.toArray w2 (fun a' => wpList P l.toArray Q (l.drop n) a' w2) (l.take n) a) : (Code.region id l.toArray true).wp P Q a w :=
  wp_region_still_tail n hm hB (h _ rfl)

end Go.Proofs.Ythhjioeipjnjmaa
