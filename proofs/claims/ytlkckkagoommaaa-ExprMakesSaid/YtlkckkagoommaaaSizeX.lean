/- expr.Expr.Size, bywashref04.Size: how many expressions. For every expression. -/
import Derived.Test.YtlkckkagoommaaaOwnX
namespace Go.Proofs.Ytlkckkagoommaaa
open Go.RowKit

set_option maxRecDepth 20000 in
set_option maxHeartbeats 800000 in
theorem sizeX_any (n : Nat) : ∀ (e : TX n) (x : XC) (w : World), ExP xcE anyB n w x e → sizeX n e ≤ 1000000 →
    Calls Try.prog 26 #[x.val] w fun r w' => r = .returned (.int .i64 (sizeX n e)) ∧ Touch [] w w' := by
  induction n with
  | zero => intro e; exact e.elim
  | succ n ih =>
    intro e x w hx hs
    obtain ⟨nd, args⟩ := e
    obtain ⟨h1, h2, h3⟩ := hx.args
    have hsum : sumX n args ≤ 1000000 := by have hs' : 1 + sumX n args ≤ 1000000 := hs; omega
    have hlen := len_le_sum n args
    have htk := sum_take_le n args
    have hfin : sizeX (n + 1) (nd, args) = 1 + sumX n args := rfl
    obtain ⟨⟨k, nm, ⟨vk, vn, vt⟩, op⟩, A, m, c⟩ := x
    dsimp only at h2 h3
    subst h2
    dsimp only [XC.val]
    have Htk := Lib.hid htk; have Hfin := Lib.hid hfin; have Ih := Lib.hid ih
    have t0 := (Touch.refl [] w).alloc (.cells #[.int .i64 k, .string nm, .int .i64 vk, .int .i64 vn, .string vt, .string op, .slice A args.length c] 33)
    clear htk hfin ih hx h1 hs
    go_enter Try.func26, Try.ntmps26
    go_wp2_with fail
    go_loopw [3, 9] (fun v i wr => ∃ j : Nat, j ≤ args.length ∧ i = .int .i64 j ∧ v = .int .i64 ((1 + sumX n (args.take j) : Nat) : Int) ∧ Touch [] w wr) (fun _ i _ => args.length - (intOf i).toNat)
    case atStart => exact ⟨0, by omega, rfl, by simp [sumX], t0⟩
    case round =>
      obtain ⟨j, hj, rfl, rfl, ht⟩ := hrel
      by_cases hlt : j < args.length
      · obtain ⟨ad, b, off, y, rfl, hadd, hy, hcell⟩ := (h3.touch0 ht).at_ xcE_length j hlt
        have hsn := sumX_snoc n args j hlt
        have hms := size_mem (List.getElem_mem hlt)
        have htj := Htk.out j
        have htj1 := Htk.out (j + 1)
        obtain ⟨a, hae⟩ : ∃ a, a = args[j] := ⟨_, rfl⟩
        rw [← hae] at hy hsn hms
        have ta := (Touch.refl [] wr).alloc (.cells #[.int .i64 y.nd.kind, .string y.nd.name, .int .i64 y.nd.v.kind, .int .i64 y.nd.v.num, .string y.nd.v.text, .string y.nd.op, .slice y.A y.n y.c] 33)
        have hc := Lib.hid (Ih.out a y _ (hy.touch0 ta) (by omega))
        have c0 := hcell 0 _ rfl; have c1 := hcell 1 _ rfl; have c2 := hcell 2 _ rfl; have c3 := hcell 3 _ rfl; have c4 := hcell 4 _ rfl; have c5 := hcell 5 _ rfl; have c6 := hcell 6 _ rfl
        rw [Nat.add_zero] at c0
        obtain ⟨p, hp⟩ : ∃ p, p = sumX n (args.take j) := ⟨_, rfl⟩
        obtain ⟨q, hq⟩ : ∃ q, q = sizeX n a := ⟨_, rfl⟩
        rw [← hp] at hsn htj ⊢
        rw [← hq] at hsn hms
        rw [hsn] at htj1
        have Hsn := Lib.hid hsn
        rw [← hq] at hc
        clear hsn hae hcell hp hq
        obtain ⟨⟨k2, nm2, ⟨vk2, vn2, vt2⟩, op2⟩, A2, m2, c2'⟩ := y
        simp only [XC.val] at hc c0 c1 c2 c3 c4 c5 c6
        go_wp2_with fail
        refine hc.out.mono ?_
        rintro e w1 ⟨rfl, t1⟩
        go_wp2_with fail
        go_roundw
        case rel => exact ⟨j + 1, by omega, by go_num, by rw [Hsn.out]; go_num, (ht.trans0 ta).trans0 t1⟩
        case measure => simp [intOf]; omega
      · obtain rfl : j = args.length := by omega
        rw [List.take_length]
        go_wp2_with fail
        go_ret
        exact ⟨by rw [Hfin.out]; rfl, ht⟩
end Go.Proofs.Ytlkckkagoommaaa
