/- The reference's disk as the memory holds it; wrong, command, Used. -/
import Derived.Test.YtgpadejkmpfafaaRowsAt
namespace Go.Proofs.Ytgpadejkmpfafaa
open Go.RowKit

abbrev RFl := List (List UInt8 × List Bool)
def xsl (V : RFl) : List (List Value) := V.flatMap fun x => [x.1.map B, x.2.map Value.bool]
structure RR where
  cap : Int
  left : Int
  done : Int
  armed : Bool
  down : Bool
def RR.cells (r : RR) : List Value := [.int .i64 r.cap, .int .i64 r.left, .int .i64 r.done, .bool r.armed, .bool r.down]
def rty (i : Nat) : TypeId := if i % 2 = 0 then 5 else 4
abbrev RRows (w : World) (g : Nat) (rs : List Rw) (r : RR) : Prop := RowsAt w g 50 rty rs r.cells
def RdAt (w : World) (g : Nat) (fp : List Nat) (V : RFl) (r : RR) : Prop := ∃ rs, RRows w g rs r ∧ rs.map (·.xs) = xsl V ∧ V.length = 4 ∧ rfp g rs = fp
def RdStep (g : Nat) (fp : List Nat) (V : RFl) (r : RR) (w w' : World) : Prop := ∃ fp', RdAt w' g fp' V r ∧ Touch fp w w' ∧ ∀ b ∈ fp', b ∈ fp ∨ w.heap.size ≤ b

theorem fourV {V : RFl} (h : V.length = 4) : ∃ a b c d, V = [a, b, c, d] := by
  match V, h with
  | [a, b, c, d], _ => exact ⟨a, b, c, d, rfl⟩
theorem rows_len {rs : List Rw} {V : RFl} (h : rs.map (·.xs) = xsl V) (h4 : V.length = 4) : rs.length = 8 := by
  have := congrArg List.length h
  obtain ⟨a, b, c, d, rfl⟩ := fourV h4
  simpa [xsl] using this
theorem rows_b {rs : List Rw} {V : RFl} (h : rs.map (·.xs) = xsl V) (h4 : V.length = 4) (n : Nat) (hn : n < V.length) (hn2 : n * 2 < rs.length) : rs[n * 2].xs = (V[n]).1.map B := by
  have e : (rs.map (·.xs))[n * 2]? = (xsl V)[n * 2]? := by rw [h]
  rw [List.getElem?_map, List.getElem?_eq_getElem hn2] at e
  obtain ⟨a, b, c, d, rfl⟩ := fourV h4
  rcases lt_four hn with rfl | rfl | rfl | rfl <;> simpa [xsl] using e
theorem rows_s {rs : List Rw} {V : RFl} (h : rs.map (·.xs) = xsl V) (h4 : V.length = 4) (n : Nat) (hn : n < V.length) (hn2 : n * 2 + 1 < rs.length) : rs[n * 2 + 1].xs = (V[n]).2.map Value.bool := by
  have e : (rs.map (·.xs))[n * 2 + 1]? = (xsl V)[n * 2 + 1]? := by rw [h]
  rw [List.getElem?_map, List.getElem?_eq_getElem hn2] at e
  obtain ⟨a, b, c, d, rfl⟩ := fourV h4
  rcases lt_four hn with rfl | rfl | rfl | rfl <;> simpa [xsl] using e
theorem xsl_set_b {V : RFl} (h4 : V.length = 4) (n : Nat) (hn : n < V.length) (l : List UInt8) : (xsl V).set (n * 2) (l.map B) = xsl (V.set n (l, (V[n]).2)) := by
  obtain ⟨a, b, c, d, rfl⟩ := fourV h4
  rcases lt_four hn with rfl | rfl | rfl | rfl <;> rfl
theorem xsl_set_s {V : RFl} (h4 : V.length = 4) (n : Nat) (hn : n < V.length) (l : List Bool) : (xsl V).set (n * 2 + 1) (l.map Value.bool) = xsl (V.set n ((V[n]).1, l)) := by
  obtain ⟨a, b, c, d, rfl⟩ := fourV h4
  rcases lt_four hn with rfl | rfl | rfl | rfl <;> rfl

/-- a slice of bools that the calls own -/
def OwnO (w : World) (A : Option Addr) (c : Nat) (l : List Bool) : Prop := w.ownsRow 0 4 1 (.slice A l.length c) l.length (l.map Value.bool)
def RdO (w : World) (A : Option Addr) (l : List Bool) : Prop := Rd w A (l.map Value.bool)
theorem OwnO.rd {w : World} {A : Option Addr} {c : Nat} {l : List Bool} (h : OwnO w A c l) : RdO w A l := by
  intro h0
  rcases h.2 with hv | ⟨g, cap, cur, hv, _⟩
  · simp at h0; omega
  · have hA : A = some ⟨g, 0, none⟩ := by injection hv
    subst hA
    exact ⟨_, rfl, World.ownsRow.cells h (g := g) rfl⟩
theorem RdO.at_ {w : World} {A : Option Addr} {l : List Bool} (h : RdO w A l) (k : Nat) (hk : k < l.length) : ∃ ad, A = some ad ∧ w.cell? (ad.add k) = some (.bool l[k]) := by
  obtain ⟨ad, e, hc⟩ := h (by simpa using Nat.lt_of_le_of_lt (Nat.zero_le _) hk)
  exact ⟨ad, e, hc k _ (by simp [hk])⟩
theorem OwnO.nil (w : World) : OwnO w none 0 [] := World.ownsRow_nil _ _ _ _
theorem OwnO.touch {w w' : World} {A : Option Addr} {c : Nat} {l : List Bool} {fp : List Nat} (h : OwnO w A c l) (ht : Touch fp w w') (hn : ∀ b ∈ fpo A, b ∉ fp) : OwnO w' A c l := by
  refine ⟨h.1, ?_⟩
  rcases h.2 with hv | ⟨g, cap, cur, hv, hb, hg, rest⟩
  · exact .inl hv
  · have hA : A = some ⟨g, 0, none⟩ := by injection hv
    subst hA
    exact .inr ⟨g, cap, cur, hv, hb, ht.blk hg (hn g (by simp [fpo])), rest⟩
theorem OwnO.touch0 {w w' : World} {A : Option Addr} {c : Nat} {l : List Bool} (h : OwnO w A c l) (ht : Touch [] w w') : OwnO w' A c l := h.touch ht (by simp)
theorem OwnO.lt {w : World} {A : Option Addr} {c : Nat} {l : List Bool} (h : OwnO w A c l) : ∀ b ∈ fpo A, b < w.heap.size := by
  intro b hb
  rcases h.2 with ⟨hv, _⟩ | ⟨g, cap, cur, hv, _, hg, _⟩
  · injection hv with hA _ _; subst hA; cases hb
  · have hA : A = some ⟨g, 0, none⟩ := by injection hv
    subst hA
    have : b = g := by simpa [fpo] using hb
    subst this
    exact (Array.getElem?_eq_some_iff.1 hg).1

/-- what a file's two rows hold -/
theorem RRows.file {w : World} {g : Nat} {rs : List Rw} {r : RR} {V : RFl} (h : RRows w g rs r) (hx : rs.map (·.xs) = xsl V) (h4 : V.length = 4) (n : Nat) (hn : n < V.length) :
    ∃ A c B' d, w.cell? ⟨g, n * 2, none⟩ = some (.slice A (V[n]).1.length c) ∧ OwnB w A c (V[n]).1 ∧ w.cell? ⟨g, n * 2 + 1, none⟩ = some (.slice B' (V[n]).2.length d) ∧ OwnO w B' d (V[n]).2 ∧
      (∀ hn2 : n * 2 < rs.length, rs[n * 2].A = A) ∧ (∀ hn2 : n * 2 + 1 < rs.length, rs[n * 2 + 1].A = B') := by
  have h8 := rows_len hx h4
  have hb := rows_b hx h4 n hn (by omega)
  have hs := rows_s hx h4 n hn (by omega)
  have c1 := h.cell (n * 2) (by omega)
  have c2 := h.cell (n * 2 + 1) (by omega)
  have o1 := h.own (n * 2) (by omega)
  have o2 := h.own (n * 2 + 1) (by omega)
  have t1 : rty (n * 2) = 5 := by unfold rty; rw [if_pos (by omega)]
  have t2 : rty (n * 2 + 1) = 4 := by unfold rty; rw [if_neg (by omega)]
  unfold Rw.v at c1 c2 o1 o2
  rw [hb] at c1 o1
  rw [hs] at c2 o2
  rw [t1] at o1
  rw [t2] at o2
  rw [List.length_map] at c1 c2 o1 o2
  exact ⟨_, _, _, _, c1, o1, c2, o2, fun _ => rfl, fun _ => rfl⟩

set_option maxHeartbeats 400000 in
theorem rwrong_any (g : Nat) (down : Bool) (n : Int) (w : World) (h : w.cell? ⟨g, 12, none⟩ = some (.bool down)) :
    Calls Try.prog 47 #[.pointer (some ⟨g, 0, none⟩), .int .i64 n] w fun e w' => e = .returned (.int .i64 (checkI down n)) ∧ w = w' := by
  cases down
  · by_cases h0 : n < 0
    · have e : checkI false n = 30 := by unfold checkI; simp; omega
      rw [e]
      go_enter Try.func47, Try.ntmps47
      go_wp2
      go_ret
      exact ⟨rfl, rfl⟩
    · by_cases h3 : 3 < n
      · have e : checkI false n = 30 := by unfold checkI; simp; omega
        rw [e]
        go_enter Try.func47, Try.ntmps47
        go_wp2
        go_ret
        exact ⟨rfl, rfl⟩
      · have e : checkI false n = 0 := by unfold checkI; simp; omega
        rw [e]
        go_enter Try.func47, Try.ntmps47
        go_wp2
        go_ret
        exact ⟨rfl, rfl⟩
  · go_enter Try.func47, Try.ntmps47
    go_wp2
    go_ret
    exact ⟨rfl, rfl⟩

def rcmdE (r : RR) : Int := if r.armed = true ∧ r.left = 0 then 40 else 0
def rcmdR (r : RR) : RR := if r.armed = true ∧ r.left = 0 then { r with down := true } else { r with left := if r.armed then r.left - 1 else r.left, done := r.done + 1 }

set_option maxHeartbeats 800000 in
theorem rcommand_any (g : Nat) (rs : List Rw) (r : RR) (w : World) (h : RRows w g rs r) (h8 : rs.length = 8) (hl1 : r.armed = true → 0 ≤ r.left) (hl2 : r.left ≤ 9223372036854775807) (hl3 : -9223372036854775808 ≤ r.left) (hd1 : 0 ≤ r.done) (hd2 : r.done ≤ 1073741824) :
    Calls Try.prog 48 #[.pointer (some ⟨g, 0, none⟩)] w fun e w' => e = .returned (.int .i64 (rcmdE r)) ∧ RRows w' g rs (rcmdR r) ∧ Touch [g] w w' := by
  have c9 : w.cell? ⟨g, 9, none⟩ = some (.int .i64 r.left) := h.tcell 1 9 (by omega) _ rfl
  have c10 : w.cell? ⟨g, 10, none⟩ = some (.int .i64 r.done) := h.tcell 2 10 (by omega) _ rfl
  have c11 : w.cell? ⟨g, 11, none⟩ = some (.bool r.armed) := h.tcell 3 11 (by omega) _ rfl
  have c12 : w.cell? ⟨g, 12, none⟩ = some (.bool r.down) := h.tcell 4 12 (by omega) _ rfl
  have z9 := h.free 9
  have z10 := h.free 10
  have z12 := h.free 12
  have hg := lt_of_block h.blk
  obtain ⟨cap, left, done, armed, down⟩ := r
  dsimp only at c9 c10 c11 c12 hl1 hl2 hl3 hd1 hd2
  have s12 := h.setTail 4 12 (by omega) (.bool true)
  have H12 := Lib.hid s12
  have H10 := Lib.hid (h.setTail 2 10 (by omega) (.int .i64 (done + 1)))
  have H910 := Lib.hid ((h.setTail 1 9 (by omega) (.int .i64 (left - 1))).setTail 2 10 (by omega) (.int .i64 (done + 1)))
  clear s12 h
  cases armed
  · have he : rcmdE ⟨cap, left, done, false, down⟩ = 0 := by simp [rcmdE]
    have hr : rcmdR ⟨cap, left, done, false, down⟩ = ⟨cap, left, done + 1, false, down⟩ := by simp [rcmdR]
    rw [he, hr]
    clear he hr
    go_enter Try.func48, Try.ntmps48
    go_wp2
    go_ret
    exact ⟨rfl, H10.out, (Touch.refl [g] w).setCell (.inl (by simp)) _⟩
  · have hl0 := hl1 rfl
    clear hl1
    by_cases h0 : left = 0
    · subst h0
      have he : rcmdE ⟨cap, 0, done, true, down⟩ = 40 := by simp [rcmdE]
      have hr : rcmdR ⟨cap, 0, done, true, down⟩ = ⟨cap, 0, done, true, true⟩ := by simp [rcmdR]
      rw [he, hr]
      clear he hr
      go_enter Try.func48, Try.ntmps48
      go_wp2
      go_ret
      exact ⟨rfl, H12.out, (Touch.refl [g] w).setCell (.inl (by simp)) _⟩
    · have he : rcmdE ⟨cap, left, done, true, down⟩ = 0 := by simp [rcmdE, h0]
      have hr : rcmdR ⟨cap, left, done, true, down⟩ = ⟨cap, left - 1, done + 1, true, down⟩ := by simp [rcmdR, h0]
      have hb : (left == 0) = false := by rw [beq_eq_false_iff_ne]; exact h0
      rw [he, hr]
      clear he hr
      go_enter Try.func48, Try.ntmps48
      go_wp2
      go_ret
      exact ⟨rfl, H910.out, ((Touch.refl [g] w).setCell (.inl (by simp)) _).setCell (.inl (by simp)) _⟩

def rused (V : RFl) : Nat := (V.map fun x => x.1.length).sum

set_option maxHeartbeats 400000 in
theorem rused_any (g : Nat) (rs : List Rw) (V : RFl) (r : RR) (w : World) (h : RRows w g rs r) (hx : rs.map (·.xs) = xsl V) (h4 : V.length = 4) (hu : rused V ≤ 1073741824) :
    Calls Try.prog 24 #[.pointer (some ⟨g, 0, none⟩)] w fun e w' => e = .returned (.int .i64 (rused V : Nat)) ∧ w = w' := by
  obtain ⟨A0, d0, B0, e0, c0, _, _, _, _, _⟩ := h.file hx h4 0 (by omega)
  obtain ⟨A1, d1, B1, e1, c1, _, _, _, _, _⟩ := h.file hx h4 1 (by omega)
  obtain ⟨A2, d2, B2, e2, c2, _, _, _, _, _⟩ := h.file hx h4 2 (by omega)
  obtain ⟨A3, d3, B3, e3, c3, _, _, _, _, _⟩ := h.file hx h4 3 (by omega)
  obtain ⟨a, b, c, d, rfl⟩ := fourV h4
  simp only [rused, List.map_cons, List.map_nil, List.sum_cons, List.sum_nil, Nat.add_zero] at hu ⊢
  simp at c0 c1 c2 c3
  clear h hx
  go_enter Try.func24, Try.ntmps24
  go_wp2
  refine wp_loop_rounds 5 ?_
  rw [rounds_succ]
  go_wp2
  rw [rounds_succ]
  go_wp2
  rw [rounds_succ]
  go_wp2
  rw [rounds_succ]
  go_wp2
  rw [rounds_succ]
  go_wp2
  go_ret
  exact ⟨ret_int (by omega), rfl⟩
end Go.Proofs.Ytgpadejkmpfafaa
