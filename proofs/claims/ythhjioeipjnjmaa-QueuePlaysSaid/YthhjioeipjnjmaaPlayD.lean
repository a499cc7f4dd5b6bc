/- bywashlaw24.same where both are one; step at Put, at Drop and where nothing is bid: the walks. For every lists. -/
import Derived.Test.YthhjioeipjnjmaaPlayC
import Derived.Test.YthhjioeipjnjmaaOpenIts
namespace Go.Proofs.Ythhjioeipjnjmaa
open Go.RowKit

set_option maxRecDepth 20000 in
set_option maxHeartbeats 3200000 in
theorem same_any (A : Option Addr) (c : Nat) (B : Option Addr) (d : Nat) (L : List QE) (n : Nat) (hn : L.length = n) (hl : n ≤ 1000000) (hok : ∀ e ∈ L, e.Ok) (w : World) (ha : RdK itE w A L) (hb : RdK itE w B L) :
    Calls Try.prog 16 #[.slice A n c, .slice B n d] w fun e w' => e = .returned (.bool true) ∧ Touch [] w w' := by
  subst hn
  have H := Lib.hid (And.intro ha (And.intro hb hok))
  have hnn : ((L.length : Int) != (L.length : Int)) = false := by simp
  clear ha hb hok
  go_enter Try.func16, Try.ntmps16
  go_wp2_with fail
  go_loopw [13] (fun i wr => ∃ (k : Nat), k ≤ L.length ∧ i = .int .i64 k ∧ Touch [] w wr) (fun i _ => L.length - (intOf i).toNat)
  case atStart => exact ⟨0, by omega, rfl, Touch.refl [] _⟩
  case round =>
    obtain ⟨k, hk, rfl, ht⟩ := hrel
    by_cases hlt : k < L.length
    · obtain ⟨ha, hb, hok⟩ := H.out
      obtain ⟨ad, b, off, rfl, hadd, -, hcell⟩ := (ha.touch0 ht).at_ 4 itE_length (by omega) k hlt
      obtain ⟨ad2, b2, off2, rfl, hadd2, -, hcell2⟩ := (hb.touch0 ht).at_ 4 itE_length (by omega) k hlt
      have e0 := hcell 0 (.string L[k].asset) rfl
      have e1 := hcell 1 (.int .i64 L[k].index) rfl
      have e2 := hcell 2 (.int .i64 L[k].due) rfl
      have e3 := hcell 3 (.int .i64 L[k].rank) rfl
      have d0 := hcell2 0 (.string L[k].asset) rfl
      have d1 := hcell2 1 (.int .i64 L[k].index) rfl
      have d2 := hcell2 2 (.int .i64 L[k].due) rfl
      have d3 := hcell2 3 (.int .i64 L[k].rank) rfl
      rw [show off + 0 = off by omega] at e0
      rw [show off2 + 0 = off2 by omega] at d0
      have hxok := hok L[k] (List.getElem_mem hlt)
      obtain ⟨x, hx⟩ : ∃ x, x = L[k] := ⟨_, rfl⟩
      rw [← hx] at e0 e1 e2 e3 d0 d1 d2 d3 hxok
      have hkI : (k : Int) < (L.length : Int) := by omega
      have hk0 : (0 : Int) ≤ (k : Int) := by omega
      have heq : ∀ W : World, (Op.equalIn 9999 65 (.agg #[.string x.asset, .int .i64 x.index, .int .i64 x.due, .int .i64 x.rank]) (.agg #[.string x.asset, .int .i64 x.index, .int .i64 x.due, .int .i64 x.rank])).run Try.prog W = .ok true W := fun W => eq_refItem x hxok W
      have Hof := Lib.hid (fun W => refOf_any x W)
      unfold itV at Hof
      have f0 := TW.cell e0
      have f1 := TW.cell e1
      have f2 := TW.cell e2
      have f3 := TW.cell e3
      have g0 := TW.cell d0
      have g1 := TW.cell d1
      have g2 := TW.cell d2
      have g3 := TW.cell d3
      have Ht := Lib.hid ht
      clear ha hb hok hcell hcell2 hx ht hxok e0 e1 e2 e3 d0 d1 d2 d3
      go_wp2_with fail
      refine wp_region_tw wr (Touch.refl _ _) (by kernel_rfl) (by kernel_rfl) ?_
      repeat (go_big_quiet_step (((go_at_call 25; exact Calls.tw _ (Hof.out _)))))
      refine wpQuiet_nil ?_
      rintro _ ⟨z, rfl⟩
      go_wp2_with fail
      go_roundw
      case rel => exact ⟨k + 1, by omega, by go_num, Ht.out.trans0 z.t⟩
      case measure => simp [intOf]; omega
    · obtain rfl : k = L.length := by omega
      have Ht := Lib.hid ht
      clear ht
      go_wp2_with fail
      go_ret
      exact ⟨rfl, Ht.out⟩

/-- what a step leaves -/
def StepPost (g : Nat) (fp : List Nat) (L : List QE) (p : Nat) (w : World) (e : Ending) (w' : World) : Prop :=
  ∃ (A' : Option Addr) (c' : Nat) (L' : List QE) (p' : Nat) (fp' : List Nat), e = .returned (.tuple #[.slice A' L'.length c', .bool true]) ∧ QIs w' g fp' L' p' ∧ RdK itE w' A' L' ∧ L'.length ≤ c' ∧ c' ≤ 9223372036854775807 ∧ (∀ b ∈ fpo A', b ∉ fp' ∧ b < w'.heap.size) ∧ Touch fp w w' ∧ (∀ b ∈ fp', b ∈ fp ∨ w.heap.size ≤ b) ∧ p' ≤ p + 1 ∧ L'.length ≤ L.length + 1
def opV (o : QOp) : Value := .agg #[.int .i64 o.kind, .int .i64 o.now, .int .i64 o.most, .string o.x.asset, .int .i64 o.x.index, .int .i64 o.x.due, .int .i64 o.x.rank]
/-- what a step meets -/
structure StepPre (g : Nat) (fp : List Nat) (L : List QE) (p : Nat) (A : Option Addr) (c : Nat) (w : World) : Prop where
  hq : QIs w g fp L p
  hr : RdK itE w A L
  hc : L.length ≤ c
  hm : c ≤ 9223372036854775807
  ha : ∀ b ∈ fpo A, b ∉ fp ∧ b < w.heap.size
  hl : L.length ≤ 1000
  hp : p ≤ 100000

theorem OwnK.cap {α : Type} {t k : Nat} {enc : α → List Value} {w : World} {A : Option Addr} {c : Nat} {xs : List α} (h : OwnK t k enc w A c xs) : c ≤ 9223372036854775807 := by
  rcases h.2 with ⟨hv, _⟩ | ⟨g, cap, cur, hv, _, _, _, hm, _⟩
  · injection hv with _ _ h3; omega
  · injection hv with _ _ h3; unfold maxLen at hm; omega
set_option maxRecDepth 20000 in
set_option maxHeartbeats 3200000 in
theorem step_none (g : Nat) (fp : List Nat) (L : List QE) (p : Nat) (A : Option Addr) (c : Nat) (o : QOp) (h1 : o.kind ≠ 1) (h2 : o.kind ≠ 2) (h3 : o.kind ≠ 3) (h4 : o.kind ≠ 4) (h5 : o.kind ≠ 5) (h6 : o.kind ≠ 6) (w : World) (h : StepPre g fp L p A c w) :
    Calls Try.prog 15 #[.pointer (some ⟨g, 0, none⟩), .slice A L.length c, opV o] w (StepPost g fp L p w) := by
  have q1 : (o.kind == 1) = false := by rw [beq_eq_false_iff_ne]; exact h1
  have q2 : (o.kind == 2) = false := by rw [beq_eq_false_iff_ne]; exact h2
  have q3 : (o.kind == 3) = false := by rw [beq_eq_false_iff_ne]; exact h3
  have q4 : (o.kind == 4) = false := by rw [beq_eq_false_iff_ne]; exact h4
  have q5 : (o.kind == 5) = false := by rw [beq_eq_false_iff_ne]; exact h5
  have q6 : (o.kind == 6) = false := by rw [beq_eq_false_iff_ne]; exact h6
  have H := Lib.hid h
  have ta := ((Touch.refl [] w).alloc (.cells #[.int .i64 o.kind, .int .i64 o.now, .int .i64 o.most, .string o.x.asset, .int .i64 o.x.index, .int .i64 o.x.due, .int .i64 o.x.rank] 43)).alloc (.cells #[.string o.x.asset, .int .i64 o.x.index] 26)
  have Ta := Lib.hid ta
  clear h ta h1 h2 h3 h4 h5 h6
  unfold opV
  go_enter Try.func15, Try.ntmps15
  go_wp2_with fail
  go_ret2
  exact ⟨A, c, L, p, fp, rfl, H.out.hq.touch0 Ta.out, H.out.hr.touch0 Ta.out, H.out.hc, H.out.hm, fun b hb => ⟨(H.out.ha b hb).1, Nat.lt_of_lt_of_le (H.out.ha b hb).2 Ta.out.size⟩, Ta.out.mono (by simp), fun b hb => .inl hb, by omega, by omega⟩
end Go.Proofs.Ythhjioeipjnjmaa
