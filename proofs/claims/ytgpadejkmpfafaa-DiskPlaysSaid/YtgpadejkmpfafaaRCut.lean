/- bywashref06.Disk.Cut where the file gets shorter; Crash: the walks. -/
import Derived.Test.YtgpadejkmpfafaaRSync
namespace Go.Proofs.Ytgpadejkmpfafaa
open Go.RowKit

/-- both rows of a file set anew -/
theorem RdAt.putFile {w w2 : World} {g : Nat} {fp : List Nat} {V : RFl} {r : RR} (h : RdAt w g fp V r) (n : Nat) (hn : n < V.length) (T : Touch [] w w2) {A c B' d : _} {l : List UInt8} {bs : List Bool}
    (ob : OwnB w2 A c l) (os : OwnO w2 B' d bs) (fA : ∀ b ∈ fpo A, w.heap.size ≤ b ∧ b ∉ fpo B') (fB : ∀ b ∈ fpo B', w.heap.size ≤ b) :
    RdStep g fp (V.set n (l, bs)) r w ((w2.setCell ⟨g, n * 2, none⟩ (.slice A l.length c)).setCell ⟨g, n * 2 + 1, none⟩ (.slice B' bs.length d)) := by
  obtain ⟨rs, hR, hx, h4, rfl⟩ := h
  have h8 := rows_len hx h4
  have hgl := lt_of_block hR.blk
  have t1 : rty (n * 2) = 5 := by unfold rty; rw [if_pos (by omega)]
  have t2 : rty (n * 2 + 1) = 4 := by unfold rty; rw [if_neg (by omega)]
  have hn8 : n * 2 < rs.length := by omega
  have hfr : ∀ b ∈ fpo A, b ∈ fpo rs[n * 2].A ∨ w.heap.size ≤ b := fun b hb => .inr (fA b hb).1
  have R1 := hR.setRow (n * 2) hn8 ⟨A, c, l.map B⟩ (w2 := w2) (T.mono (by simp)) (by rw [t1]; unfold Rw.v; simpa [OwnB] using ob) hfr
  have hgB : g ∉ fpo B' := fun hm => by have := fB g hm; omega
  have ht3 := (Touch.refl [g] w2).setCell (p := ⟨g, n * 2, none⟩) (.inl (by simp)) (Rw.v ⟨A, c, l.map B⟩)
  have os3 := os.touch ht3 (fun b hb hm => hgB ((by simpa using hm : b = g) ▸ hb))
  have hn9 : n * 2 + 1 < (rs.set (n * 2) ⟨A, c, l.map B⟩).length := by simp; omega
  have R2 := R1.setRow' (n * 2 + 1) hn9 ⟨B', d, bs.map Value.bool⟩ (Touch.refl _ _) (by rw [t2]; simpa [OwnO, Rw.v] using os3) hgB (by
    intro j hj hne x hx' hm
    have hj' : j < rs.length := by simpa using hj
    by_cases e : n * 2 = j
    · subst e
      rw [List.getElem_set_self] at hm
      exact (fA x hm).2 hx'
    · rw [List.getElem_set_ne e] at hm
      have := ownsV_lt (hR.own j hj') x hm
      have := fB x hx'
      omega)
  simp only [Rw.v, List.length_map] at R2
  refine ⟨_, ⟨_, R2, ?_, by simpa using h4, rfl⟩, ?_, ?_⟩
  · rw [List.map_set, List.map_set, hx]
    dsimp only
    rw [xsl_set_b h4 n hn l, xsl_set_s (by simpa using h4) n (by simpa using hn) bs]
    simp
  · exact ((T.mono (fp2 := rfp g rs) (by simp)).setCell (p := ⟨g, n * 2, none⟩) (.inl (mem_rfp.2 (.inl rfl))) _).setCell (p := ⟨g, n * 2 + 1, none⟩) (.inl (mem_rfp.2 (.inl rfl))) _
  · intro b hb
    have hb1 := rfp_set (g := g) (m := w.heap.size) hn9 (r := ⟨B', d, bs.map Value.bool⟩) (fun b hb => .inr (fB b hb)) b hb
    rcases hb1 with h1 | h1
    · exact rfp_set hn8 hfr b h1
    · exact .inr h1

set_option maxRecDepth 20000 in
set_option maxHeartbeats 1600000 in
theorem rcut_ok (g : Nat) (fp : List Nat) (V : RFl) (r : RR) (n size : Nat) (w : World) (hd : RdAt w g fp V r) (hok : r.ok) (hn : n < V.length) (hdn : r.down = false) (hl : (V[n]).1.length ≤ 1073741824) (hs : size ≤ (V[n]).1.length) :
    Calls Try.prog 40 #[.pointer (some ⟨g, 0, none⟩), .int .i64 n, .int .i64 size] w fun e w' => e = .returned (.int .i64 (rcmdE r)) ∧
      RdStep g fp (if rcmdE r = 0 then V.set n ((V[n]).1.take size, List.replicate size true) else V) (rcmdR r) w w' := by
  have h4 := hd.len
  obtain ⟨c8, c9, c10, c11, c12⟩ := hd.cells
  have hck : checkI r.down n = 0 := by simp only [checkI, hdn]; simp; omega
  have hn4 : (n : Int) < 4 := by omega
  have hn0 : (0 : Int) ≤ n := by omega
  have hcmd := rcommand_rd g fp V r w hd hok
  obtain ⟨A0, c0, B0, d0, ⟨cb0, ob0, cs0, os0, fa0, fb0, putB0, putS0⟩⟩ := hd.file n hn
  clear putB0 putS0 os0 cs0
  rcases rcmdE_cases r with he | he
  · rw [if_pos he]
    rw [he] at hcmd ⊢
    obtain ⟨l, hle⟩ : ∃ l, l = (V[n]).1 := ⟨_, rfl⟩
    rw [← hle] at hl hs cb0 ob0 ⊢
    have Hle := Lib.hid hle
    clear hle he c8 c9 c10 c11
    go_enter Try.func40, Try.ntmps40
    go_wp2_with (go_at_call 47; refine (rwrong_any g r.down _ _ c12).mono ?_; rintro e w' ⟨rfl, rfl⟩; rw [hck])
    refine hcmd.mono ?_
    rintro e w1 ⟨rfl, ⟨fp1, hd1, T1, hf1⟩, tg⟩
    obtain ⟨A1, c1, B1, d1, ⟨cb, ob, cs, os, fa, fb, putB, putS⟩⟩ := hd1.file n hn
    rw [← Hle.out] at cb ob
    have zb := hd1.free (n * 2)
    have zs := hd1.free (n * 2 + 1)
    have hgr := hd1.lt g hd1.gin
    clear putB putS
    go_wp2_with fail
    have obd := (ob.touch0 ((Touch.refl [] w1).drew)).rd
    have cbd := ((Touch.refl [] w1).drew).cell cb (by simp)
    have csd := ((Touch.refl [] w1).drew).cell cs (by simp)
    have td := (Touch.refl [] w1).drew
    have hgd : g < w1.drew.heap.size := hgr
    go_region_law (first | (go_simp; go_at_call 49; refine (first_any A1 c1 l _ size hs hl _ (by exact obd)).mono ?_; rintro e w2 ⟨A2, c2, B2, d2, rfl, hob2, hos2, ht2, hfA2, hfB2⟩; have cb2 := ht2.cell cbd (by simp); have cs2 := ht2.cell csd (by simp); have zb2 : w2.frozen? ⟨g, n * 2, none⟩ = false := (ht2.frz (a := ⟨g, n * 2, none⟩) hgd (by simp)).trans zb; have zs2 : w2.frozen? ⟨g, n * 2 + 1, none⟩ = false := (ht2.frz (a := ⟨g, n * 2 + 1, none⟩) hgd (by simp)).trans zs))
    go_wp2
    go_ret
    have hps := hd1.putFile n hn (td.trans0 ht2) hob2 hos2 (fun b hb => hfA2 b hb) (fun b hb => hfB2 b hb)
    rw [List.length_take, Nat.min_eq_left hs, List.length_replicate] at hps
    exact ⟨rfl, RdStep.trans T1 hf1 hps⟩
  · rw [if_neg (by rw [he]; decide)]
    rw [he] at hcmd ⊢
    have hs1 : (size : Int) ≤ (V[n]).1.length := by omega
    obtain ⟨m, hm⟩ : ∃ m, m = (V[n]).1.length := ⟨_, rfl⟩
    rw [← hm] at cb0 hs1 hl hs
    clear hm
    go_enter Try.func40, Try.ntmps40
    go_wp2_with (go_at_call 47; refine (rwrong_any g r.down _ _ c12).mono ?_; rintro e w' ⟨rfl, rfl⟩; rw [hck])
    refine hcmd.mono ?_
    rintro e w1 ⟨rfl, hs1, _⟩
    go_wp2
    go_ret
    exact ⟨rfl, hs1⟩
end Go.Proofs.Ytgpadejkmpfafaa
