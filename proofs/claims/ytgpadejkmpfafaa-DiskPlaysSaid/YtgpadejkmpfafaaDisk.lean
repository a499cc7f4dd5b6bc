/- A disk as the memory holds it; its small methods (right, has, check, command, Used, Size, Safe). -/
import Derived.Test.YtgpadejkmpfafaaClone
namespace Go.Proofs.Ytgpadejkmpfafaa
open Go.RowKit

/-- a file: its bytes and how many are safe; where its row lies -/
structure DF where
  A : Option Addr
  c : Nat
  l : List UInt8
  safe : Nat

def DF.v (f : DF) : Value := .slice f.A f.l.length f.c
def DF.cells (f : DF) : List Value := [f.v, .int .i64 f.safe]

/-- a disk's other fields -/
structure DR where
  cap : Int
  left : Int
  done : Int
  down : Bool

def DR.cells (r : DR) : List Value := [.int .i64 r.cap, .int .i64 r.left, .int .i64 r.done, .bool r.down]
def dcells (fs : List DF) (r : DR) : Array Value := (fs.flatMap DF.cells ++ r.cells).toArray
def used (fs : List DF) : Nat := (fs.map (·.l.length)).sum

def DF.ok (w : World) (g : Nat) (f : DF) : Prop := OwnB w f.A f.c f.l ∧ f.safe ≤ f.l.length ∧ g ∉ fpo f.A
def Apart (a b : DF) : Prop := ∀ x ∈ fpo a.A, x ∉ fpo b.A
def DR.ok (r : DR) : Prop := 0 ≤ r.cap ∧ r.cap ≤ 1073741824 ∧ -1 ≤ r.left ∧ r.left ≤ 9223372036854775807 ∧ 0 ≤ r.done ∧ r.done ≤ 1073741824

structure DiskAt (w : World) (g : Nat) (fs : List DF) (r : DR) : Prop where
  blk : w.heap[g]? = some (.cells (dcells fs r) 72 (0, 0))
  len : fs.length = 4
  ok : ∀ i, (h : i < fs.length) → fs[i].ok w g
  apart : ∀ i j, (hi : i < fs.length) → (hj : j < fs.length) → i ≠ j → Apart fs[i] fs[j]
  rok : r.ok
  used : used fs ≤ 1073741824

/-- the blocks that a disk holds -/
def dfp (g : Nat) (fs : List DF) : List Nat := g :: fs.flatMap fun f => fpo f.A

theorem four {fs : List DF} (h : fs.length = 4) : ∃ a b c d, fs = [a, b, c, d] := by
  match fs, h with
  | [a, b, c, d], _ => exact ⟨a, b, c, d, rfl⟩
theorem lt_four {n : Nat} (h : n < 4) : n = 0 ∨ n = 1 ∨ n = 2 ∨ n = 3 := by omega
theorem dcells_v {fs : List DF} {r : DR} (h : fs.length = 4) (n : Nat) (hn : n < fs.length) : (dcells fs r)[n * 2]? = some fs[n].v := by
  obtain ⟨a, b, c, d, rfl⟩ := four h
  rcases lt_four hn with rfl | rfl | rfl | rfl <;> rfl
theorem dcells_s {fs : List DF} {r : DR} (h : fs.length = 4) (n : Nat) (hn : n < fs.length) : (dcells fs r)[n * 2 + 1]? = some (.int .i64 fs[n].safe) := by
  obtain ⟨a, b, c, d, rfl⟩ := four h
  rcases lt_four hn with rfl | rfl | rfl | rfl <;> rfl
theorem dcells_r {fs : List DF} {r : DR} (h : fs.length = 4) : (dcells fs r)[8]? = some (.int .i64 r.cap) ∧ (dcells fs r)[9]? = some (.int .i64 r.left) ∧ (dcells fs r)[10]? = some (.int .i64 r.done) ∧ (dcells fs r)[11]? = some (.bool r.down) := by
  obtain ⟨a, b, c, d, rfl⟩ := four h
  exact ⟨rfl, rfl, rfl, rfl⟩
theorem dcells_set_v {fs : List DF} {r : DR} (h : fs.length = 4) (n : Nat) (hn : n < fs.length) (f : DF) (hs : f.safe = fs[n].safe) : (dcells fs r).setIfInBounds (n * 2) f.v = dcells (fs.set n f) r := by
  obtain ⟨a, b, c, d, rfl⟩ := four h
  rcases lt_four hn with rfl | rfl | rfl | rfl <;> simp at hs <;> simp [dcells, DF.cells, DR.cells, hs]
theorem dcells_set_s {fs : List DF} {r : DR} (h : fs.length = 4) (n : Nat) (hn : n < fs.length) (f : DF) (hs : f.v = fs[n].v) : (dcells fs r).setIfInBounds (n * 2 + 1) (.int .i64 f.safe) = dcells (fs.set n f) r := by
  obtain ⟨a, b, c, d, rfl⟩ := four h
  rcases lt_four hn with rfl | rfl | rfl | rfl <;> simp at hs <;> simp [dcells, DF.cells, DR.cells, hs]
theorem dcells_set_f {fs : List DF} {r : DR} (h : fs.length = 4) (n : Nat) (hn : n < fs.length) (f : DF) : ((dcells fs r).setIfInBounds (n * 2) f.v).setIfInBounds (n * 2 + 1) (.int .i64 f.safe) = dcells (fs.set n f) r := by
  obtain ⟨a, b, c, d, rfl⟩ := four h
  rcases lt_four hn with rfl | rfl | rfl | rfl <;> simp [dcells, DF.cells, DR.cells]
theorem dcells_set_r {fs : List DF} {r : DR} (h : fs.length = 4) : (∀ x : Int, (dcells fs r).setIfInBounds 8 (.int .i64 x) = dcells fs { r with cap := x }) ∧ (∀ x : Int, (dcells fs r).setIfInBounds 9 (.int .i64 x) = dcells fs { r with left := x }) ∧
    (∀ x : Int, (dcells fs r).setIfInBounds 10 (.int .i64 x) = dcells fs { r with done := x }) ∧ (∀ x : Bool, (dcells fs r).setIfInBounds 11 (.bool x) = dcells fs { r with down := x }) := by
  obtain ⟨a, b, c, d, rfl⟩ := four h
  exact ⟨fun _ => rfl, fun _ => rfl, fun _ => rfl, fun _ => rfl⟩

theorem used_ge {fs : List DF} (n : Nat) (hn : n < fs.length) : fs[n].l.length ≤ used fs := by
  unfold used
  induction fs generalizing n with
  | nil => simp at hn
  | cons a fs ih =>
    cases n with
    | zero => simp
    | succ n => have := ih n (by simpa using hn); simp; omega
theorem used_set {fs : List DF} (n : Nat) (hn : n < fs.length) (f : DF) : used (fs.set n f) + fs[n].l.length = used fs + f.l.length := by
  unfold used
  induction fs generalizing n with
  | nil => simp at hn
  | cons a fs ih =>
    cases n with
    | zero => simp only [List.set_cons_zero, List.map_cons, List.sum_cons, List.getElem_cons_zero]; omega
    | succ n =>
      have := ih n (by simpa using hn)
      simp only [List.set_cons_succ, List.map_cons, List.sum_cons, List.getElem_cons_succ]
      omega

set_option maxHeartbeats 400000 in
theorem right_any (n : Int) (w : World) : Calls Try.prog 33 #[.int .i64 n] w fun e w' => e = .returned (.bool (decide (0 ≤ n ∧ n ≤ 1073741824))) ∧ w = w' := by
  by_cases h : 0 ≤ n <;> by_cases h2 : n ≤ 1073741824
  all_goals
    go_enter Try.func33, Try.ntmps33
    go_wp2
    go_ret
    exact ⟨by simp [h, h2], rfl⟩
set_option maxHeartbeats 400000 in
theorem has_any (n : Int) (w : World) : Calls Try.prog 37 #[.int .i64 n] w fun e w' => e = .returned (.bool (decide (0 ≤ n ∧ n < 4))) ∧ w = w' := by
  by_cases h : 0 ≤ n <;> by_cases h2 : n < 4
  all_goals
    go_enter Try.func37, Try.ntmps37
    go_wp2
    go_ret
    exact ⟨by simp [h, h2], rfl⟩

def checkI (down : Bool) (n : Int) : Int := if down then 40 else if 0 ≤ n ∧ n < 4 then 0 else 30

theorem cell_blk {w : World} {g i : Nat} {cs : Array Value} {t : TypeId} {v : Value} (h : w.heap[g]? = some (.cells cs t (0, 0))) (hv : cs[i]? = some v) : w.cell? ⟨g, i, none⟩ = some v := by
  rw [cell_of_row w g i cs t (0, 0) h]; exact hv
theorem free_blk {w : World} {g : Nat} {cs : Array Value} {t : TypeId} (h : w.heap[g]? = some (.cells cs t (0, 0))) (i : Nat) : w.frozen? ⟨g, i, none⟩ = false := by
  simp [World.frozen?, h]
theorem set_blk {w : World} {g : Nat} {cs : Array Value} {t : TypeId} (h : w.heap[g]? = some (.cells cs t (0, 0))) (i : Nat) (u : Value) :
    (w.setCell ⟨g, i, none⟩ u).heap[g]? = some (.cells (cs.setIfInBounds i u) t (0, 0)) := by
  simp [World.setCell, Array.getElem?_modify, h]

set_option maxHeartbeats 400000 in
theorem check_any (g : Nat) (down : Bool) (n : Int) (w : World) (h : w.cell? ⟨g, 11, none⟩ = some (.bool down)) :
    Calls Try.prog 34 #[.pointer (some ⟨g, 0, none⟩), .int .i64 n] w fun e w' => e = .returned (.int .i64 (checkI down n)) ∧ w = w' := by
  cases down
  · by_cases hn : 0 ≤ n ∧ n < 4
    · have hd : decide (0 ≤ n ∧ n < 4) = true := by simp [hn]
      go_enter Try.func34, Try.ntmps34
      go_wp2_with (go_at_call 37; refine (has_any _ _).mono ?_; rintro e w' ⟨rfl, rfl⟩; rw [hd])
      go_ret
      exact ⟨ret_int (by simp [checkI, hn]), rfl⟩
    · have hd : decide (0 ≤ n ∧ n < 4) = false := by simp; omega
      go_enter Try.func34, Try.ntmps34
      go_wp2_with (go_at_call 37; refine (has_any _ _).mono ?_; rintro e w' ⟨rfl, rfl⟩; rw [hd])
      go_ret
      exact ⟨ret_int (by simp [checkI, hn]), rfl⟩
  · go_enter Try.func34, Try.ntmps34
    go_wp2
    go_ret
    exact ⟨rfl, rfl⟩

def cmdR (r : DR) : DR := if r.left = 0 then { r with down := true } else { r with left := max (r.left - 1) (-1), done := r.done + 1 }
def cmdE (r : DR) : Int := if r.left = 0 then 40 else 0

def CmdPost (g : Nat) (fs : List DF) (r : DR) (w w' : World) : Prop := w'.heap[g]? = some (.cells (dcells fs r) 72 (0, 0)) ∧ Touch [g] w w'

theorem CmdPost.blk2 {w : World} {g : Nat} {fs : List DF} {r : DR} (h : w.heap[g]? = some (.cells (dcells fs r) 72 (0, 0))) (hl4 : fs.length = 4) (x y : Int) :
    ((w.setCell ⟨g, 9, none⟩ (.int .i64 x)).setCell ⟨g, 10, none⟩ (.int .i64 y)).heap[g]? = some (.cells (dcells fs { r with left := x, done := y }) 72 (0, 0)) := by
  have := set_blk (set_blk h 9 (.int .i64 x)) 10 (.int .i64 y)
  rwa [(dcells_set_r hl4).2.1, (dcells_set_r hl4).2.2.1] at this
theorem CmdPost.blk1 {w : World} {g : Nat} {fs : List DF} {r : DR} (h : w.heap[g]? = some (.cells (dcells fs r) 72 (0, 0))) (hl4 : fs.length = 4) (x : Bool) :
    (w.setCell ⟨g, 11, none⟩ (.bool x)).heap[g]? = some (.cells (dcells fs { r with down := x }) 72 (0, 0)) := by
  have := set_blk h 11 (.bool x)
  rwa [(dcells_set_r hl4).2.2.2] at this

set_option maxHeartbeats 400000 in
theorem command_any (g : Nat) (fs : List DF) (r : DR) (w : World) (h : w.heap[g]? = some (.cells (dcells fs r) 72 (0, 0))) (hl4 : fs.length = 4) (h1 : -1 ≤ r.left) (h2 : r.left ≤ 9223372036854775807) (h3 : 0 ≤ r.done) (h4 : r.done ≤ 9223372036854775800) :
    Calls Try.prog 35 #[.pointer (some ⟨g, 0, none⟩)] w fun e w' => e = .returned (.int .i64 (cmdE r)) ∧ CmdPost g fs (cmdR r) w w' := by
  have c9 : w.cell? ⟨g, 9, none⟩ = some (.int .i64 r.left) := cell_blk h (dcells_r hl4).2.1
  have c10 : w.cell? ⟨g, 10, none⟩ = some (.int .i64 r.done) := cell_blk h (dcells_r hl4).2.2.1
  have c11 : w.cell? ⟨g, 11, none⟩ = some (.bool r.down) := cell_blk h (dcells_r hl4).2.2.2
  have z9 := free_blk h 9
  have z10 := free_blk h 10
  have z11 := free_blk h 11
  have hg := lt_of_block h
  rcases Int.lt_or_le r.left 0 with hl | hl
  · have hb : (r.left == 0) = false := by rw [beq_eq_false_iff_ne]; omega
    have hm : max (r.left - 1) (-1) = -1 := by omega
    go_enter Try.func35, Try.ntmps35
    have hc : cmdR r = { r with left := -1, done := r.done + 1 } := by unfold cmdR; rw [if_neg (by omega), hm]
    have he : cmdE r = 0 := if_neg (by omega)
    have Hc := Lib.hid hc; clear hc
    have He := Lib.hid he; clear he
    go_wp2
    go_ret
    exact ⟨ret_int He.out.symm, by rw [Hc.out]; exact CmdPost.blk2 h hl4 _ _, ((Touch.refl [g] w).setCell (.inl (by simp)) _).setCell (.inl (by simp)) _⟩
  · rcases Int.lt_or_le 0 r.left with hp | hp
    · have hb : (r.left == 0) = false := by rw [beq_eq_false_iff_ne]; omega
      have hm : max (r.left - 1) (-1) = r.left - 1 := by omega
      go_enter Try.func35, Try.ntmps35
      have hc : cmdR r = { r with left := r.left - 1, done := r.done + 1 } := by unfold cmdR; rw [if_neg (by omega), hm]
      have he : cmdE r = 0 := if_neg (by omega)
      have Hc := Lib.hid hc; clear hc
      have He := Lib.hid he; clear he
      go_wp2
      go_ret
      exact ⟨ret_int He.out.symm, by rw [Hc.out]; exact CmdPost.blk2 h hl4 _ _, ((Touch.refl [g] w).setCell (.inl (by simp)) _).setCell (.inl (by simp)) _⟩
    · have hb : (r.left == 0) = true := by rw [beq_iff_eq]; omega
      have hc : cmdR r = { r with down := true } := if_pos (by omega)
      have he : cmdE r = 40 := if_pos (by omega)
      have Hc := Lib.hid hc; clear hc
      have He := Lib.hid he; clear he
      go_enter Try.func35, Try.ntmps35
      go_wp2
      go_ret
      exact ⟨ret_int He.out.symm, by rw [Hc.out]; exact CmdPost.blk1 h hl4 _, (Touch.refl [g] w).setCell (.inl (by simp)) _⟩

set_option maxHeartbeats 400000 in
theorem used_any (g : Nat) (fs : List DF) (r : DR) (w : World) (h : w.heap[g]? = some (.cells (dcells fs r) 72 (0, 0)))
    (hl4 : fs.length = 4) (hu : used fs ≤ 1073741824) :
    Calls Try.prog 16 #[.pointer (some ⟨g, 0, none⟩)] w fun e w' => e = .returned (.int .i64 (used fs : Nat)) ∧ Touch [] w w' := by
  obtain ⟨f0, f1, f2, f3, rfl⟩ := four hl4
  simp only [used, List.map_cons, List.map_nil, List.sum_cons, List.sum_nil, Nat.add_zero] at hu ⊢
  have c0 : w.cell? ⟨g, 0, none⟩ = some f0.v := cell_blk h rfl
  have c1 : w.cell? ⟨g, 1, none⟩ = some (.int .i64 f0.safe) := cell_blk h rfl
  have c2 : w.cell? ⟨g, 2, none⟩ = some f1.v := cell_blk h rfl
  have c3 : w.cell? ⟨g, 3, none⟩ = some (.int .i64 f1.safe) := cell_blk h rfl
  have c4 : w.cell? ⟨g, 4, none⟩ = some f2.v := cell_blk h rfl
  have c5 : w.cell? ⟨g, 5, none⟩ = some (.int .i64 f2.safe) := cell_blk h rfl
  have c6 : w.cell? ⟨g, 6, none⟩ = some f3.v := cell_blk h rfl
  have c7 : w.cell? ⟨g, 7, none⟩ = some (.int .i64 f3.safe) := cell_blk h rfl
  go_enter Try.func16, Try.ntmps16
  unfold DF.v at c0 c2 c4 c6
  have ix : ∀ (a0 a1 a2 a3 a4 a5 a6 a7 : Value) (W : World), (Instr.index 70 (.agg #[a0, a1, a2, a3, a4, a5, a6, a7]) (.int .i64 0)).run Try.prog W = .ok (.agg #[a0, a1]) W := fun _ _ _ _ _ _ _ _ _ => by kernel_rfl
  have iy : ∀ (a0 a1 a2 a3 a4 a5 a6 a7 : Value) (W : World), (Instr.index 70 (.agg #[a0, a1, a2, a3, a4, a5, a6, a7]) (.int .i64 1)).run Try.prog W = .ok (.agg #[a2, a3]) W := fun _ _ _ _ _ _ _ _ _ => by kernel_rfl
  have iz : ∀ (a0 a1 a2 a3 a4 a5 a6 a7 : Value) (W : World), (Instr.index 70 (.agg #[a0, a1, a2, a3, a4, a5, a6, a7]) (.int .i64 2)).run Try.prog W = .ok (.agg #[a4, a5]) W := fun _ _ _ _ _ _ _ _ _ => by kernel_rfl
  have iu : ∀ (a0 a1 a2 a3 a4 a5 a6 a7 : Value) (W : World), (Instr.index 70 (.agg #[a0, a1, a2, a3, a4, a5, a6, a7]) (.int .i64 3)).run Try.prog W = .ok (.agg #[a6, a7]) W := fun _ _ _ _ _ _ _ _ _ => by kernel_rfl
  go_wp2
  refine wp_loop_rounds 5 ?_
  rw [rounds_succ]
  go_wp2
  rw [rounds_succ]
  go_wp2
  rw [rounds_succ]
  go_wp2
  rw [rounds_succ]
  go_wp2
  rw [rounds_succ]
  go_wp2
  go_ret
  exact ⟨ret_int (by omega), by repeat (first | exact Touch.refl _ _ | apply Touch.alloc)⟩
end Go.Proofs.Ytgpadejkmpfafaa
