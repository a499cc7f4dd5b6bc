/- bywashlaw06.step at Arm, Crash, Limit and at any other kind. -/
import Derived.Test.YtgpadejkmpfafaaStepB
namespace Go.Proofs.Ytgpadejkmpfafaa
open Go.RowKit

theorem SameR.armed' {r : DR} {rr : RR} (h : SameR r rr) (n : Int) (h1 : -9223372036854775808 ≤ n) (h2 : n ≤ 9223372036854775807) : SameR { r with left := max n (-1) } { rr with armed := decide (0 ≤ n), left := n } := by
  refine ⟨h.cap, h.done, h.down, ?_, fun hx => ?_, h1, h2⟩
  · show decide (0 ≤ n) = decide (0 ≤ max n (-1))
    simp only [decide_eq_decide]; omega
  · have : 0 ≤ max n (-1) := hx
    show n = max n (-1)
    omega

set_option maxRecDepth 100000 in
set_option maxHeartbeats 3200000 in
theorem step_arm (g : Nat) (fp : List Nat) (V : Fl) (r : DR) (h : Nat) (fq : List Nat) (rr : RR) (file n : Int) (vd vk : Value) (w : World) (P : PairAt w g fp V r h fq (toR V) rr) (hs : SameR r rr) (h1 : -9223372036854775808 ≤ n) (h2 : n ≤ 9223372036854775807) :
    Calls Try.prog 23 #[.pointer (some ⟨g, 0, none⟩), .pointer (some ⟨h, 0, none⟩), .agg #[.int .i64 5, .int .i64 file, .int .i64 n, vd, vk]] w fun e w' => StepPost g fp h fq r w e w' := by
  have ta := (Touch.refl [] w).alloc (.cells #[.int .i64 5, .int .i64 file, .int .i64 n, vd, vk] 41)
  have hb := heap_alloc_new w (.cells #[.int .i64 5, .int .i64 file, .int .i64 n, vd, vk] 41)
  have c2 : (w.alloc (.cells #[.int .i64 5, .int .i64 file, .int .i64 n, vd, vk] 41)).cell? ⟨w.heap.size, 2, none⟩ = some (.int .i64 n) := cell_blk hb rfl
  have hltp := P.dk.lt
  have hltq := P.rd.lt
  have P0 := P.keep ta
  have hs2 := hs.armed' n h1 h2
  go_enter Try.func23, Try.ntmps23
  go_wp2_with fail
  refine (arm_dk g fp V r n _ P0.dk h2).mono ?_
  rintro e w1 ⟨rfl, s1⟩
  obtain ⟨fpx, P1, T1, f1⟩ := P0.real s1
  have c2' := T1.cell c2 (fun hm => by have := hltp _ hm; simp at this)
  obtain ⟨q8, q9, q10, q11, q12⟩ := P1.rd.cells
  have z9 := P1.rd.free 9
  have z11 := P1.rd.free 11
  have hgin := P1.rd.gin
  have hne := World.new_ne
  clear c2 hb
  go_wp2_with fail
  obtain ⟨vv, hvv⟩ := cell?_setCell_some (w := w1.drew) (p := ⟨h, 11, none⟩) (x := .bool (decide (0 ≤ n))) (q := ⟨h, 9, none⟩) (v := .int .i64 rr.left) (by go_simp)
  obtain ⟨vu, hvu⟩ := cell?_setCell_some (w := w1.drew) (p := ⟨h, 9, none⟩) (x := .int .i64 n) (q := ⟨h, 11, none⟩) (v := .bool rr.armed) (by go_simp)
  have P1d := P1.keep ((Touch.refl [] w1).drew)
  have hRd : Hid (RdStep h fq (toR V) { rr with armed := decide (0 ≤ n), left := n } w1.drew ((w1.drew.setCell ⟨h, 11, none⟩ (.bool (decide (0 ≤ n)))).setCell ⟨h, 9, none⟩ (.int .i64 n)) ∧ RdStep h fq (toR V) { rr with armed := decide (0 ≤ n), left := n } w1.drew ((w1.drew.setCell ⟨h, 9, none⟩ (.int .i64 n)).setCell ⟨h, 11, none⟩ (.bool (decide (0 ≤ n))))) := Lib.hid (by
    constructor
    · exact ⟨fq, (P1d.rd.setTail (r' := { rr with armed := decide (0 ≤ n) }) 3 11 (by omega) _ rfl).setTail 1 9 (by omega) _ rfl, ((Touch.refl fq _).setCell (p := ⟨h, 11, none⟩) (.inl hgin) _).setCell (p := ⟨h, 9, none⟩) (.inl hgin) _, fun b hb => .inl hb⟩
    · exact ⟨fq, (P1d.rd.setTail (r' := { rr with left := n }) 1 9 (by omega) _ rfl).setTail 3 11 (by omega) _ rfl, ((Touch.refl fq _).setCell (p := ⟨h, 9, none⟩) (.inl hgin) _).setCell (p := ⟨h, 11, none⟩) (.inl hgin) _, fun b hb => .inl hb⟩)
  have s1d : DkStep g fp V { r with left := max n (-1) } (w.alloc (.cells #[.int .i64 5, .int .i64 file, .int .i64 n, vd, vk] 41)) w1.drew := ⟨fpx, P1d.dk, T1.drew, f1⟩
  have Hs := Lib.hid (fun wr (hh : RdStep h fq (toR V) { rr with armed := decide (0 ≤ n), left := n } w1.drew wr) => pair_12 ta P0 s1d hh hs2)
  clear P1 P1d s1d
  go_region
  all_goals
    go_wp2
    go_ret
    first
      | exact ⟨rfl, V, _, Hs.out _ hRd.out.1, by show r.done ≤ r.done + 1; omega⟩
      | exact ⟨rfl, V, _, Hs.out _ hRd.out.2, by show r.done ≤ r.done + 1; omega⟩

set_option maxRecDepth 100000 in
set_option maxHeartbeats 3200000 in
theorem step_crash (g : Nat) (fp : List Nat) (V : Fl) (r : DR) (h : Nat) (fq : List Nat) (rr : RR) (file n : Int) (vd : Value) (kA : Option Addr) (km kc : Nat) (ks : List Int) (hkm : ks.length = km) (w : World) (P : PairAt w g fp V r h fq (toR V) rr) (hs : SameR r rr)
    (hks : ∀ k ∈ ks, -9223372036854775808 ≤ k ∧ k ≤ 9223372036854775807) (hkb : ∀ w', Touch (fp ++ fq) w w' → RdI w' kA ks) :
    Calls Try.prog 23 #[.pointer (some ⟨g, 0, none⟩), .pointer (some ⟨h, 0, none⟩), .agg #[.int .i64 6, .int .i64 file, .int .i64 n, vd, .slice kA km kc]] w fun e w' => StepPost g fp h fq r w e w' := by
  subst hkm
  have ta := (Touch.refl [] w).alloc (.cells #[.int .i64 6, .int .i64 file, .int .i64 n, vd, .slice kA ks.length kc] 41)
  have hb := heap_alloc_new w (.cells #[.int .i64 6, .int .i64 file, .int .i64 n, vd, .slice kA ks.length kc] 41)
  have c4 : (w.alloc (.cells #[.int .i64 6, .int .i64 file, .int .i64 n, vd, .slice kA ks.length kc] 41)).cell? ⟨w.heap.size, 4, none⟩ = some (.slice kA ks.length kc) := cell_blk hb rfl
  have hltp := P.dk.lt
  have hltq := P.rd.lt
  have P0 := P.keep ta
  have hf := P.dk.fok
  go_enter Try.func23, Try.ntmps23
  go_wp2_with fail
  refine (crash_dk g fp V r kA kc ks _ P0.dk (fun w' T => hkb w' ((ta.mono (by simp)).trans T (fun b hb => .inl (by simp [hb])))) hks).mono ?_
  rintro e w1 ⟨rfl, s1⟩
  obtain ⟨fpx, P1, T1, f1⟩ := P0.real s1
  have c4' := T1.cell c4 (fun hm => by have := hltp _ hm; simp at this)
  clear hb c4
  go_wp2_with fail
  refine (rcrash_tw h fq V r rr kA kc ks w1 P1.rd hs hf (fun w' T => hkb w' (((ta.mono (by simp)).trans T1 (fun b hb => .inl (by simp [hb]))).trans T (fun b hb => .inl (by simp [hb])))) hks).mono ?_
  rintro e w2 ⟨rfl, rr2, s2, hs2⟩
  have PS := Lib.hid (pair_12 ta P0 s1 s2 hs2)
  clear P1 s1 s2 c4'
  go_wp2_with fail
  go_ret
  exact ⟨rfl, _, _, PS.out, by show r.done ≤ r.done + 1; omega⟩

set_option maxRecDepth 100000 in
set_option maxHeartbeats 3200000 in
theorem step_limit (g : Nat) (fp : List Nat) (V : Fl) (r : DR) (h : Nat) (fq : List Nat) (rr : RR) (file n : Int) (vd vk : Value) (w : World) (P : PairAt w g fp V r h fq (toR V) rr) (hs : SameR r rr) :
    Calls Try.prog 23 #[.pointer (some ⟨g, 0, none⟩), .pointer (some ⟨h, 0, none⟩), .agg #[.int .i64 7, .int .i64 file, .int .i64 n, vd, vk]] w fun e w' => StepPost g fp h fq r w e w' := by
  have ta := (Touch.refl [] w).alloc (.cells #[.int .i64 7, .int .i64 file, .int .i64 n, vd, vk] 41)
  have hb := heap_alloc_new w (.cells #[.int .i64 7, .int .i64 file, .int .i64 n, vd, vk] 41)
  have c2 : (w.alloc (.cells #[.int .i64 7, .int .i64 file, .int .i64 n, vd, vk] 41)).cell? ⟨w.heap.size, 2, none⟩ = some (.int .i64 n) := cell_blk hb rfl
  have hltp := P.dk.lt
  have P0 := P.keep ta
  have hlim := limit_dk g fp V r n _ P0.dk
  by_cases hin : 0 ≤ n ∧ n ≤ 1073741824
  · rw [if_pos hin] at hlim
    obtain ⟨hn0, hn1⟩ := hin
    go_enter Try.func23, Try.ntmps23
    go_wp2_with fail
    refine hlim.mono ?_
    rintro e w1 ⟨rfl, s1⟩
    obtain ⟨fpx, P1, T1, f1⟩ := P0.real s1
    have c2' := T1.cell c2 (fun hm => by have := hltp _ hm; simp at this)
    obtain ⟨q8, q9, q10, q11, q12⟩ := P1.rd.cells
    have z8 := P1.rd.free 8
    have hgin := P1.rd.gin
    have s2 : RdStep h fq (toR V) { rr with cap := n } w1 (w1.setCell ⟨h, 8, none⟩ (.int .i64 n)) := ⟨fq, P1.rd.setTail 0 8 (by omega) _ rfl, (Touch.refl fq _).setCell (p := ⟨h, 8, none⟩) (.inl hgin) _, fun b hb => .inl hb⟩
    have PS := Lib.hid (pair_12 ta P0 s1 s2 (r' := { r with cap := n }) ⟨rfl, hs.done, hs.down, hs.armed, hs.left, hs.b1, hs.b2⟩)
    clear hb c2 P1 s1 s2
    go_wp2_with fail
    go_ret
    exact ⟨rfl, _, _, PS.out, by show r.done ≤ r.done + 1; omega⟩
  · rw [if_neg hin] at hlim
    rcases (show n < 0 ∨ (0 ≤ n ∧ 1073741824 < n) by omega) with h1 | ⟨h1, h2⟩
    all_goals
      clear hin
      go_enter Try.func23, Try.ntmps23
      go_wp2_with fail
      refine hlim.mono ?_
      rintro e w1 ⟨rfl, s1⟩
      obtain ⟨fpx, P1, T1, f1⟩ := P0.real s1
      have c2' := T1.cell c2 (fun hm => by have := hltp _ hm; simp at this)
      have PS := Lib.hid (pair_12 ta P0 s1 (P1.rd.keep (Touch.refl [] w1)) hs)
      clear hb c2 P1 s1
      go_wp2_with fail
      go_ret
      exact ⟨rfl, _, _, PS.out, by omega⟩

set_option maxRecDepth 100000 in
set_option maxHeartbeats 3200000 in
theorem step_other (g : Nat) (fp : List Nat) (V : Fl) (r : DR) (h : Nat) (fq : List Nat) (rr : RR) (kd file n : Int) (vd vk : Value) (hk : kd < 1 ∨ 7 < kd) (w : World) (P : PairAt w g fp V r h fq (toR V) rr) (hs : SameR r rr) :
    Calls Try.prog 23 #[.pointer (some ⟨g, 0, none⟩), .pointer (some ⟨h, 0, none⟩), .agg #[.int .i64 kd, .int .i64 file, .int .i64 n, vd, vk]] w fun e w' => StepPost g fp h fq r w e w' := by
  have ta := (Touch.refl [] w).alloc (.cells #[.int .i64 kd, .int .i64 file, .int .i64 n, vd, vk] 41)
  have P0 := P.keep ta
  have hall : ∀ m : Int, 1 ≤ m → m ≤ 7 → (kd == m) = false := fun m h1 h2 => by rw [beq_eq_false_iff_ne]; omega
  have e1 := hall 1 (by omega) (by omega)
  have e2 := hall 2 (by omega) (by omega)
  have e3 := hall 3 (by omega) (by omega)
  have e4 := hall 4 (by omega) (by omega)
  have e5 := hall 5 (by omega) (by omega)
  have e6 := hall 6 (by omega) (by omega)
  have e7 := hall 7 (by omega) (by omega)
  have PS := Lib.hid (show PairStep g fp h fq V r w (w.alloc (.cells #[.int .i64 kd, .int .i64 file, .int .i64 n, vd, vk] 41)) from ⟨fp, fq, rr, P0, hs, ta.mono (by simp), fun b hb => .inl (by simp [hb]), fun b hb => .inl (by simp [hb])⟩)
  clear hall hk
  go_enter Try.func23, Try.ntmps23
  go_wp2
  go_ret
  exact ⟨rfl, _, _, PS.out, by omega⟩
end Go.Proofs.Ytgpadejkmpfafaa
