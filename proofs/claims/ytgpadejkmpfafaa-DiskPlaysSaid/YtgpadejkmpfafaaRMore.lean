/- bywashref06.Disk: Append that refuses, Sync, Cut: the walks. -/
import Derived.Test.YtgpadejkmpfafaaRAppend
import Derived.Laws.OwnMore
namespace Go.Proofs.Ytgpadejkmpfafaa
open Go.RowKit

set_option maxHeartbeats 800000 in
theorem rappend_bad (g : Nat) (down : Bool) (n : Int) (b : Value) (w : World) (c12 : w.cell? ⟨g, 12, none⟩ = some (.bool down)) (hck : checkI down n ≠ 0) :
    Calls Try.prog 38 #[.pointer (some ⟨g, 0, none⟩), .int .i64 n, b] w fun e w' => e = .returned (.int .i64 (checkI down n)) ∧ w = w' := by
  have hne : (checkI down n == 0) = false := by rw [beq_eq_false_iff_ne]; exact hck
  have hne2 : (checkI down n != 0) = true := by rw [bne_iff_ne]; exact hck
  obtain ⟨q, hq⟩ : ∃ q, q = checkI down n := ⟨_, rfl⟩
  rw [← hq] at hne hne2 hck ⊢
  have Hq := Lib.hid hq; clear hq
  go_enter Try.func38, Try.ntmps38
  go_wp2_with (go_at_call 47; refine (rwrong_any g down _ _ c12).mono ?_; rintro e w' ⟨rfl, rfl⟩; rw [← Hq.out])
  go_ret
  exact ⟨rfl, rfl⟩

set_option maxHeartbeats 800000 in
theorem rappend_full (g : Nat) (fp : List Nat) (V : RFl) (r : RR) (n : Nat) (A : Option Addr) (c : Nat) (b : List UInt8) (w : World) (hd : RdAt w g fp V r) (hok : r.ok)
    (hn : n < V.length) (hdn : r.down = false) (hu : rused V ≤ 1073741824) (hb : b.length ≤ 1073741824) (hroom : r.cap < (rused V : Int) + b.length) :
    Calls Try.prog 38 #[.pointer (some ⟨g, 0, none⟩), .int .i64 n, .slice A b.length c] w fun e w' => e = .returned (.int .i64 41) ∧ Touch [] w w' := by
  have h4 := hd.len
  obtain ⟨c8, c9, c10, c11, c12⟩ := hd.cells
  have hck : checkI r.down n = 0 := by simp only [checkI, hdn]; simp; omega
  have k1 := hok.1
  have k2 := hok.2.1
  have hwr : IntKind.i64.wrap ((rused V : Int) + (b.length : Int)) = (rused V : Int) + (b.length : Int) := IntWalk.i64_in _ (by omega)
  have hu' := rused_rd g fp V r w.drew (hd.step ((Touch.refl [] w).drew) (by simp)) hu
  go_enter Try.func38, Try.ntmps38
  go_wp2_with (go_at_call 47; refine (rwrong_any g r.down _ _ c12).mono ?_; rintro e w' ⟨rfl, rfl⟩; rw [hck])
  go_region_held3 (fun w' => w'.cell? ⟨g, 8, none⟩ = some (.int .i64 r.cap)) (exact c8) ((go_at_call 24; refine hu'.mono ?_; rintro e w1 ⟨rfl, rfl⟩))
  clear hwr hu'
  go_wp2
  go_ret
  exact ⟨rfl, (Touch.refl [] w).drew⟩

/-- a bool in a file's row is set in place -/
theorem RdAt.pokeS {w : World} {g : Nat} {fp : List Nat} {V : RFl} {r : RR} (h : RdAt w g fp V r) (n : Nat) (hn : n < V.length) {G d : Nat} (hc : w.cell? ⟨g, n * 2 + 1, none⟩ = some (.slice (some ⟨G, 0, none⟩) (V[n]).2.length d)) (k : Nat) (u : Bool) :
    RdStep g fp (V.set n ((V[n]).1, (V[n]).2.set k u)) r w (w.setCell ⟨G, k, none⟩ (.bool u)) ∧ w.frozen? ⟨G, k, none⟩ = false ∧ G ∈ fp := by
  obtain ⟨rs, hR, hx, h4, rfl⟩ := h
  have h8 := rows_len hx h4
  have hn8 : n * 2 + 1 < rs.length := by omega
  have hs := rows_s hx h4 n hn hn8
  have hcell := hR.cell (n * 2 + 1) hn8
  rw [hc] at hcell
  obtain ⟨hA, hcc⟩ : some (⟨G, 0, none⟩ : Addr) = rs[n * 2 + 1].A ∧ d = rs[n * 2 + 1].c := by
    unfold Rw.v at hcell
    injection hcell with e
    injection e with e1 _ e3
    exact ⟨e1, e3⟩
  have hown := hR.own (n * 2 + 1) hn8
  unfold Rw.v at hown
  rw [← hA] at hown
  have hGfp : G ∈ fpo rs[n * 2 + 1].A := by rw [← hA]; simp [fpo]
  have hst := (World.ownsRow.stored hown k (.bool u)).1
  have hfz := World.ownsRow.frozenAt hown k
  have T := (Touch.refl [G] w).setCell (p := ⟨G, k, none⟩) (.inl (by simp)) (.bool u)
  have hGg : G ≠ g := fun e => hR.ne (n * 2 + 1) hn8 (e ▸ hGfp)
  refine ⟨⟨rfp g rs, ⟨rs.set (n * 2 + 1) ⟨rs[n * 2 + 1].A, rs[n * 2 + 1].c, rs[n * 2 + 1].xs.set k (.bool u)⟩, ⟨?_, ?_, ?_, ?_⟩, ?_, by simpa using h4, ?_⟩, T.mono (fun b hb => .inl (mem_rfp.2 (.inr ⟨n * 2 + 1, hn8, by simp at hb; rw [hb]; exact hGfp⟩))), fun b hb => .inl hb⟩, hfz, mem_rfp.2 (.inr ⟨n * 2 + 1, hn8, hGfp⟩)⟩
  · rw [T.blk hR.blk (by simp; exact fun e => hGg e.symm)]
    congr 3
    congr 1
    rw [List.map_set]
    have : Rw.v ⟨rs[n * 2 + 1].A, rs[n * 2 + 1].c, rs[n * 2 + 1].xs.set k (.bool u)⟩ = (rs.map Rw.v)[n * 2 + 1]'(by simpa using hn8) := by simp [Rw.v]
    rw [this, List.set_getElem_self]
  · intro i hi
    have hi' : i < rs.length := by simpa using hi
    by_cases e : n * 2 + 1 = i
    · subst e
      rw [List.getElem_set_self]
      unfold Rw.v
      dsimp only
      rw [List.length_set, ← hA]
      exact hst
    · rw [List.getElem_set_ne e]
      exact ownsV_touch (hR.own i hi') T (fun b hb hm => by
        simp at hm; subst hm
        exact hR.apart i (n * 2 + 1) hi' hn8 (fun e' => e e'.symm) _ hb hGfp)
  · intro i hi
    have hi' : i < rs.length := by simpa using hi
    by_cases e : n * 2 + 1 = i
    · subst e; rw [List.getElem_set_self]; exact hR.ne _ hn8
    · rw [List.getElem_set_ne e]; exact hR.ne i hi'
  · intro i j hi hj hij
    have hi' : i < rs.length := by simpa using hi
    have hj' : j < rs.length := by simpa using hj
    have key : ∀ q (hq : q < rs.length), ((rs.set (n * 2 + 1) ⟨rs[n * 2 + 1].A, rs[n * 2 + 1].c, rs[n * 2 + 1].xs.set k (.bool u)⟩)[q]'(by simpa using hq)).A = rs[q].A := by
      intro q hq
      by_cases e : n * 2 + 1 = q
      · subst e; rw [List.getElem_set_self]
      · rw [List.getElem_set_ne e]
    rw [key i hi', key j hj']
    exact hR.apart i j hi' hj' hij
  · rw [List.map_set, hx]
    dsimp only
    rw [hs, ← List.map_set]
    exact xsl_set_s h4 n hn _
  · unfold rfp
    congr 1
    rw [List.flatMap_def, List.flatMap_def, List.map_set]
    have : fpo rs[n * 2 + 1].A = (rs.map fun f => fpo f.A)[n * 2 + 1]'(by simpa using hn8) := by simp
    dsimp only
    rw [this, List.set_getElem_self]
end Go.Proofs.Ytgpadejkmpfafaa
