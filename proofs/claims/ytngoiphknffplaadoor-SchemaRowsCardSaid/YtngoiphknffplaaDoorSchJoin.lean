/- slices.Grow, slices.Concat over columns; schema.Schema.Join: the columns of both. For every two schemas. -/
import Derived.Test.YtngoiphknffplaaDoorSchPick
import Derived.Lib.AppendZerosOnto
import Derived.Lib.AppendZeros
namespace Go.Proofs.YtngoiphknffplaaDoor
open Go.RowKit

/-- an owned slice without elements, with room -/
theorem OwnK.room {α : Type} (t k : Nat) (enc : α → List Value) (w : World) (c : Nat) (cells : Array Value) (hm : c ≤ maxLen) (hr : cells.size = c * k) : OwnK t k enc (w.alloc (.cells cells t)) (some ⟨w.heap.size, 0, none⟩) c [] :=
  ⟨by simp, .inr ⟨w.heap.size, c, cells, rfl, Nat.zero_le _, heap_alloc_new w _, Nat.zero_le _, hm, by rw [hr], by simp⟩⟩

set_option maxRecDepth 100000 in
set_option maxHeartbeats 800000 in
theorem growC_any (n : Nat) (hn : n ≤ 1000000) (w : World) :
    Calls Tryd.prog 57 #[.slice none 0 0, .int .i64 n] w fun e w' => ∃ A c, e = .returned (.slice A 0 c) ∧ Made 38 2 cdE [] A c w w' := by
  obtain ⟨i0, hi0, hz0, hz1, hz2⟩ := info_parts info_col
  go_enter Tryd.func57, Tryd.ntmps57
  by_cases h0 : n = 0
  · subst h0
    go_wp2
    go_ret
    exact ⟨none, 0, rfl, Made.nil _ _ _ _⟩
  · have hn0 : 0 < n := by omega
    have hge := grownCap_ge w n 0 38
    have hle := grownCap_le_maxLen w n 0 38 (by simp only [maxLen]; omega)
    have hold : (Builtin.firstCells i0.size 0 (.slice none 0 0)).run Tryd.prog w.drew = .ok ([] : List Value).toArray w.drew := run_firstCells_none w.drew i0.size 0 0 0
    have hrz : ∀ ty, (Builtin.append_ #[24, 3] ty #[.slice none 0 0, .int .i64 (n : Int)]).run Tryd.prog w = _ := fun ty =>
      Lib.run_append_grow_zeros w 24 3 ty 38 i0 (.agg #[.string ⟨#[]⟩, .int .i64 0]) .i64 .i64 Tryd.underlying24 Tryd.underlying3 hi0 hz0 none 0 0 [] hold n hn0 (by omega) (by omega) (by omega)
        (by rw [hz2]; omega) (by rw [hz2]; exact growslice_fits (by omega) (by omega))
    simp only [Nat.zero_add] at hrz
    have hsz : (([] : List Value).toArray ++ Builtin.zeroCells (Value.agg #[.string ⟨#[]⟩, .int .i64 0]).cells n ++ Builtin.zeroCells (Value.agg #[.string ⟨#[]⟩, .int .i64 0]).cells (grownCap w n 0 38 - n)).size = grownCap w n 0 38 * 2 := by
      rw [Array.size_append, Array.size_append, size_zeroCells, size_zeroCells]
      simp [Value.cells]
      omega
    have hcut := OwnK.room 38 2 cdE w.drew (grownCap w n 0 38) _ hle hsz
    obtain ⟨W, hW⟩ : ∃ W, W = w.drew.alloc (.cells (([] : List Value).toArray ++ Builtin.zeroCells (Value.agg #[.string ⟨#[]⟩, .int .i64 0]).cells n ++ Builtin.zeroCells (Value.agg #[.string ⟨#[]⟩, .int .i64 0]).cells (grownCap w n 0 38 - n)) 38) := ⟨_, rfl⟩
    obtain ⟨G, hG⟩ : ∃ G, G = grownCap w n 0 38 := ⟨_, rfl⟩
    have tW : Touch [] w W := by rw [hW]; exact ((Touch.refl [] w).drew).alloc _
    rw [← hW] at hrz hcut
    rw [← hG] at hrz hcut hge hle
    have hws : w.drew.heap.size = w.heap.size := rfl
    rw [hws] at hcut
    unfold maxLen at hle
    clear hW hG hold hsz hws
    go_wp2_with (at_builtin; refine Lib.wpList_append_run _ rfl _ _ _ _ rfl _ _ rfl rfl _ _ (hrz _) ?_)
    go_ret
    exact ⟨_, G, rfl, hcut, tW, by simp [fpo]⟩

set_option maxRecDepth 20000 in
set_option maxHeartbeats 3200000 in
/-- two schemas, one behind the other -/
theorem concatC_any (A1 A2 : Option Addr) (n1 n2 c1 c2 : Nat) (l1 l2 : List CD) (e1 : l1.length = n1) (e2 : l2.length = n2) (h1 : n1 ≤ 1000) (h2 : n2 ≤ 1000) (k1 : n1 ≤ c1) (k2 : n2 ≤ c2) (w : World) (r1 : ColsAt w A1 l1) (r2 : ColsAt w A2 l2) :
    Calls Tryd.prog 45 #[.slice (some ⟨w.heap.size, 0, none⟩) 2 2] (w.alloc (.cells #[.slice A1 n1 c1, .slice A2 n2 c2] 24)) fun e w' =>
      ∃ A c, e = .returned (.slice A (l1 ++ l2).length c) ∧ Made 38 2 cdE (l1 ++ l2) A c w w' := by
  subst e1 e2
  have t0 := (Touch.refl [] w).alloc (.cells #[.slice A1 l1.length c1, .slice A2 l2.length c2] 24)
  have hb := heap_alloc_new w (.cells #[.slice A1 l1.length c1, .slice A2 l2.length c2] 24)
  obtain ⟨W, hW⟩ : ∃ W, W = w.alloc (.cells #[.slice A1 l1.length c1, .slice A2 l2.length c2] 24) := ⟨_, rfl⟩
  have hWs : w.heap.size < W.heap.size := by rw [hW, World.size_alloc]; omega
  rw [← hW] at t0 hb ⊢
  have d0 := cell_blk hb (i := 0) rfl
  have d1 := cell_blk hb (i := 1) rfl
  have hlen : (l1 ++ l2).length = l1.length + l2.length := List.length_append
  have Hlen := Lib.hid hlen
  clear hW hlen
  go_enter Tryd.func45, Tryd.ntmps45
  go_wp2
  refine wp_loop_rounds 3 ?_
  rw [rounds_succ]
  go_wp2
  rw [rounds_succ]
  go_wp2
  rw [rounds_succ]
  go_wp2_with fail
  have hgr := growC_any (l1.length + l2.length) (by omega) W
  rw [Int.natCast_add] at hgr
  refine hgr.mono ?_
  rintro e w1 ⟨A3, c3, rfl, hm3⟩
  have b1 := hm3.t.blk hb (by simp)
  have f0 := cell_blk b1 (i := 0) rfl
  have f1 := cell_blk b1 (i := 1) rfl
  have T1 := t0.trans0 hm3.t
  go_wp2_with fail
  refine wp_loop_rounds 3 ?_
  rw [rounds_succ]
  go_wp2_with (at_builtin; refine stop ?_)
  refine go ?_
  refine wpList_appK rfl (.tmp 31) (.tmp 32) 24 rfl 38 _ 2 24 info_col Tryd.underlying24 rfl (by omega) cdE_length cdE_one A3 0 c3 [] rfl rfl hm3.own
    A1 l1.length c1 l1 rfl rfl (r1.touch0 T1) (by omega) (by omega) ?_
  intro A4 c4 w4 hown4 ht4 hf4
  have hm4 := hm3.step hown4 ht4 hf4
  have b4 := hm4.t.blk hb (by simp)
  have g0 := cell_blk b4 (i := 0) rfl
  have g1 := cell_blk b4 (i := 1) rfl
  rw [List.nil_append] at hm4
  go_wp2_with fail
  rw [rounds_succ]
  go_wp2_with (at_builtin; refine stop ?_)
  refine go ?_
  refine wpList_appK rfl (.tmp 31) (.tmp 32) 24 rfl 38 _ 2 24 info_col Tryd.underlying24 rfl (by omega) cdE_length cdE_one A4 l1.length c4 l1 rfl rfl hm4.own
    A2 l2.length c2 l2 rfl rfl (r2.touch0 (t0.trans0 hm4.t)) (by omega) (by omega) ?_
  intro A5 c5 w5 hown5 ht5 hf5
  have hm5 := hm4.step hown5 ht5 hf5
  go_wp2_with fail
  rw [rounds_succ]
  go_wp2
  go_ret
  exact ⟨A5, c5, ret_slice Hlen.out.symm, hm5.own, t0.trans0 hm5.t, fun b hb => by have := hm5.f b hb; omega⟩

/-- the outcome of Join -/
def JoinPost (l1 l2 : List CD) (w : World) (e : Ending) (w' : World) : Prop :=
  if checkV (l1 ++ l2) = 0 then ∃ A c, e = .returned (.tuple #[.slice A (l1 ++ l2).length c, .int .i64 0]) ∧ Made 38 2 cdE (l1 ++ l2) A c w w'
  else e = .returned (.tuple #[.slice none 0 0, .int .i64 (checkV (l1 ++ l2))]) ∧ Touch [] w w'

set_option maxHeartbeats 1600000 in
theorem joinC_any (A1 A2 : Option Addr) (n1 n2 c1 c2 : Nat) (l1 l2 : List CD) (e1 : l1.length = n1) (e2 : l2.length = n2) (h1 : n1 ≤ 1000) (h2 : n2 ≤ 1000) (k1 : n1 ≤ c1) (k2 : n2 ≤ c2) (hok1 : ∀ c ∈ l1, c.Ok) (hok2 : ∀ c ∈ l2, c.Ok) (w : World) (r1 : ColsAt w A1 l1) (r2 : ColsAt w A2 l2) :
    Calls Tryd.prog 28 #[.slice A1 n1 c1, .slice A2 n2 c2] w fun e w' => JoinPost l1 l2 w e w' := by
  have hcc := concatC_any A1 A2 n1 n2 c1 c2 l1 l2 e1 e2 h1 h2 k1 k2 w r1 r2
  have hlen : (l1 ++ l2).length ≤ 2000 := by rw [List.length_append]; omega
  have Hcc := Lib.hid hcc
  clear hcc
  obtain ⟨L, hL⟩ : ∃ L, L = l1 ++ l2 := ⟨_, rfl⟩
  have hokL : ∀ c ∈ L, c.Ok := fun c hc => by
    rw [hL] at hc
    rcases List.mem_append.1 hc with h | h
    · exact hok1 c h
    · exact hok2 c h
  rw [← hL] at Hcc hlen
  have HL := Lib.hid hL
  have hP : ∀ e w', (if checkV L = 0 then ∃ A c, e = .returned (.tuple #[.slice A L.length c, .int .i64 0]) ∧ Made 38 2 cdE L A c w w' else e = .returned (.tuple #[.slice none 0 0, .int .i64 (checkV L)]) ∧ Touch [] w w') → JoinPost l1 l2 w e w' := fun e w' h => by
    unfold JoinPost; rw [← hL]; exact h
  have HP := Lib.hid hP
  clear hL hP
  go_enter Tryd.func28, Tryd.ntmps28
  go_wp2_with fail
  refine Hcc.out.mono ?_
  rintro e w1 ⟨A3, c3, rfl, hm3⟩
  have hchk := fun W (h : ColsAt W A3 L) => check_any A3 c3 L.length L rfl hokL W h (by omega)
  by_cases hc : checkV L = 0
  · have hck : Calls Tryd.prog 44 #[.slice A3 L.length c3] w1 fun e w' => e = .returned (.tuple #[.slice A3 L.length c3, .int .i64 0]) ∧ Touch [] w1 w' := by
      have h1 := hchk w1 hm3.own.rd
      rw [hc] at h1
      have Hchk := Lib.hid h1
      clear h1 hchk hc
      go_enter Tryd.func44, Tryd.ntmps44
      go_wp2_with (go_at_call 19; refine Hchk.out.mono ?_; rintro e w1 ⟨rfl, t1⟩)
      go_ret2
      exact ⟨rfl, t1⟩
    have Hck := Lib.hid hck; have Hc := Lib.hid hc
    clear hck hc hchk
    go_wp2_with fail
    refine Hck.out.mono ?_
    rintro e w2 ⟨rfl, t2⟩
    go_wp2
    go_ret2
    refine HP.out _ _ ?_
    rw [if_pos Hc.out]
    exact ⟨A3, c3, rfl, hm3.touch0 t2⟩
  · have hck : Calls Tryd.prog 44 #[.slice A3 L.length c3] w1 fun e w' => e = .returned (.tuple #[.slice none 0 0, .int .i64 (checkV L)]) ∧ Touch [] w1 w' := by
      have h1 := hchk w1 hm3.own.rd
      have Hchk := Lib.hid h1
      obtain ⟨E, hE⟩ : ∃ E, E = checkV L := ⟨_, rfl⟩
      have HE := Lib.hid hE
      have hq : (E == 0) = false := by rw [beq_eq_false_iff_ne, hE]; exact hc
      have hq' : (E != 0) = true := by rw [bne, hq]; rfl
      clear h1 hchk hc hE
      go_enter Tryd.func44, Tryd.ntmps44
      go_wp2_with (go_at_call 19; refine Hchk.out.mono ?_; rintro e w1 ⟨rfl, t1⟩; rw [← HE.out])
      go_ret2
      exact ⟨by rw [HE.out]; rfl, t1⟩
    have Hck := Lib.hid hck; have Hc := Lib.hid hc
    clear hck hc hchk
    go_wp2_with fail
    refine Hck.out.mono ?_
    rintro e w2 ⟨rfl, t2⟩
    go_wp2
    go_ret2
    refine HP.out _ _ ?_
    rw [if_neg Hc.out]
    exact ⟨rfl, hm3.t.trans0 t2⟩
end Go.Proofs.YtngoiphknffplaaDoor
