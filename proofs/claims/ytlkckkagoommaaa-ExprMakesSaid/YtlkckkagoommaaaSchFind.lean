/- schema.Schema.Find, slices.IndexFunc at its closure: where a column is. For every schema and name. -/
import Derived.Test.YtlkckkagoommaaaSchCheck
namespace Go.Proofs.Ytlkckkagoommaaa
open Go.RowKit

/-- the place of the first column of a name -/
def placeV (cs : List CD) (s : ByteArray) : Option Nat := cs.findIdx? fun c => decide (c.name = s)
/-- the same as a number, -1: none -/
def placeI (cs : List CD) (s : ByteArray) : Int := match placeV cs s with | some k => (k : Int) | none => -1
theorem placeV_some {cs : List CD} {s : ByteArray} {k : Nat} (h : k < cs.length) (hk : cs[k].name = s) (hno : ∀ j (hj : j < k), cs[j].name ≠ s) : placeV cs s = some k := by
  unfold placeV
  rw [List.findIdx?_eq_some_iff_getElem]
  exact ⟨h, by simpa using hk, fun j hj => by simpa using hno j hj⟩
theorem placeV_none {cs : List CD} {s : ByteArray} (hno : ∀ j (hj : j < cs.length), cs[j].name ≠ s) : placeV cs s = none := by
  unfold placeV
  rw [List.findIdx?_eq_none_iff]
  intro c hc
  obtain ⟨j, hj, rfl⟩ := List.mem_iff_getElem.1 hc
  simpa using hno j hj
theorem placeV_lt {cs : List CD} {s : ByteArray} {k : Nat} (h : placeV cs s = some k) : k < cs.length := by
  unfold placeV at h
  rw [List.findIdx?_eq_some_iff_getElem] at h
  exact h.1

set_option maxHeartbeats 400000 in
theorem find1_any (c : CD) (B : Nat) (s : ByteArray) (w : World) (hB : w.cell? ⟨B, 0, none⟩ = some (.string s)) :
    Calls Try.prog 63 #[.agg #[.string c.name, .int .i64 c.typ], .pointer (some ⟨B, 0, none⟩)] w fun e w' => e = .returned (.bool (decide (c.name = s))) ∧ Touch [] w w' := by
  have hbq := bs_beq c.name s
  have t0 := (Touch.refl [] w).alloc (.cells #[.string c.name, .int .i64 c.typ] 45)
  have hlt : B < w.heap.size := World.block_lt_of_cell? w _ hB
  go_enter Try.func63, Try.ntmps63
  go_wp2
  all_goals
    go_ret
    exact ⟨rfl, t0⟩

set_option maxRecDepth 20000 in
set_option maxHeartbeats 1600000 in
theorem indexFunc_any (A : Option Addr) (cap n : Nat) (cs : List CD) (hn : cs.length = n) (B : Nat) (s : ByteArray) (w : World) (h : ColsAt w A cs) (hB : w.cell? ⟨B, 0, none⟩ = some (.string s)) (hl : n ≤ 140737000000000) :
    Calls Try.prog 62 #[.slice A n cap, .func (.func 63) #[] #[.pointer (some ⟨B, 0, none⟩)]] w fun e w' =>
      e = .returned (.int .i64 (placeI cs s)) ∧ Touch [] w w' := by
  subst hn
  go_enter Try.func62, Try.ntmps62
  go_wp2
  go_loopw [8] (fun i wr => ∃ k : Nat, k ≤ cs.length ∧ i = .int .i64 k ∧ Hid (∀ j (hj : j < k) (hl : j < cs.length), cs[j].name ≠ s) ∧ Touch [] w wr) (fun i _ => cs.length - (intOf i).toNat)
  case atStart => exact ⟨0, by omega, rfl, Lib.hid (fun j hj => absurd hj (by omega)), Touch.refl _ _⟩
  case round =>
    obtain ⟨k, hk, rfl, Hno, ht⟩ := hrel
    by_cases hlt : k < cs.length
    · obtain ⟨ad, b, off, rfl, hadd, c0, c1⟩ := (h.touch0 ht).at_ k hlt
      have hyes := placeV_some (s := s) hlt
      obtain ⟨c, hce⟩ : ∃ c, c = cs[k] := ⟨_, rfl⟩
      rw [← hce] at c0 c1 hyes
      have Hce := Lib.hid hce; have Hyes := Lib.hid hyes
      clear hce hyes
      have hf := find1_any c B s wr (ht.cell hB (by simp))
      by_cases hcs : c.name = s
      · rw [decide_eq_true hcs] at hf
        have Hf := Lib.hid hf
        have Hp := Lib.hid (Hyes.out hcs (fun j hj => Hno.out j hj (by omega)))
        clear hf hcs
        go_wp2_with (go_at_call 63; refine Hf.out.mono ?_; rintro e w1 ⟨rfl, t1⟩)
        go_ret
        exact ⟨ret_int (by unfold placeI; rw [Hp.out]), ht.trans0 t1⟩
      · rw [decide_eq_false hcs] at hf
        have Hf := Lib.hid hf
        have Hcs := Lib.hid hcs
        clear hf hcs
        go_wp2_with (go_at_call 63; refine Hf.out.mono ?_; rintro e w1 ⟨rfl, t1⟩)
        go_roundw
        case rel => exact ⟨k + 1, by omega, by go_num, Lib.hid (fun j hj hl => by
          by_cases hjk : j = k
          · subst hjk; rw [← Hce.out]; exact Hcs.out
          · exact Hno.out j (by omega) hl), ht.trans0 t1⟩
        case measure => simp [intOf]; omega
    · obtain rfl : k = cs.length := by omega
      have Hp := Lib.hid (placeV_none (cs := cs) (s := s) (fun j hj => Hno.out j hj hj))
      go_wp2
      go_ret
      exact ⟨ret_int (by unfold placeI; rw [Hp.out]), ht⟩

set_option maxHeartbeats 800000 in
theorem findC_any (A : Option Addr) (cap n : Nat) (cs : List CD) (hn : cs.length = n) (s : ByteArray) (w : World) (h : ColsAt w A cs) (hl : n ≤ 140737000000000) :
    Calls Try.prog 40 #[.slice A n cap, .string s] w fun e w' =>
      e = .returned (.tuple #[.int .i64 (((placeV cs s).getD 0 : Nat) : Int), .bool (placeV cs s).isSome]) ∧ Touch [] w w' := by
  subst hn
  have t0 := (Touch.refl [] w).alloc (.cells #[.string s] 9)
  have hb := heap_alloc_new w (.cells #[.string s] 9)
  have hi := indexFunc_any A cap cs.length cs rfl w.heap.size s _ (h.touch0 t0) (cell_blk hb (i := 0) rfl) hl
  rcases hp : placeV cs s with _ | k
  · rw [show placeI cs s = -1 by unfold placeI; rw [hp]] at hi
    have Hi := Lib.hid hi
    clear hi hp hb
    go_enter Try.func40, Try.ntmps40
    go_wp2_with (go_at_call 62; refine Hi.out.mono ?_; rintro e w1 ⟨rfl, t1⟩)
    go_ret2
    exact ⟨rfl, t0.trans0 t1⟩
  · rw [show placeI cs s = (k : Int) by unfold placeI; rw [hp]] at hi
    have hkl := placeV_lt hp
    have Hi := Lib.hid hi
    clear hi hp hb
    have hmx : max (k : Int) 0 = k := by omega
    have hk0 : (0 : Int) ≤ k := by omega
    go_enter Try.func40, Try.ntmps40
    go_wp2_with (go_at_call 62; refine Hi.out.mono ?_; rintro e w1 ⟨rfl, t1⟩)
    go_ret2
    exact ⟨rfl, t0.trans0 t1⟩
end Go.Proofs.Ytlkckkagoommaaa
