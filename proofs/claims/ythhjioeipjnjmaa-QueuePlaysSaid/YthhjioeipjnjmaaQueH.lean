/- entries' Less and Swap. For every heap. -/
import Derived.Test.YthhjioeipjnjmaaQueC
import Derived.Handy
import Derived.Test.YthhjioeipjnjmaaTw
import Derived.RegionTactic
namespace Go.Proofs.Ythhjioeipjnjmaa
open Go.RowKit

theorem EsAt.heap {w w' : World} {A : Option Addr} {c : Nat} {es : ES} (h : EsAt w A c es) (hw : w'.heap = w.heap) : EsAt w' A c es := by
  obtain ⟨h1, h2, h3, h4⟩ := h
  refine ⟨?_, fun i hi => by rw [hw]; exact h2 i hi, h3, h4⟩
  refine ⟨h1.1, ?_⟩
  rcases h1.2 with hv | ⟨g, cap, cur, hv, hb, hg, rest⟩
  · exact .inl hv
  · exact .inr ⟨g, cap, cur, hv, hb, by rw [hw]; exact hg, rest⟩

def ltE (a b : Nat × QE) : Bool := ltQ a.2 b.2
theorem ordE : Ord ltE := ⟨fun _ _ h => ordQ.asym _ _ h, fun _ _ _ h k => ordQ.tr _ _ _ h k⟩

set_option maxHeartbeats 800000 in
theorem less_any (A : Option Addr) (c : Nat) (es : ES) (i j n : Nat) (hn : es.length = n) (hi : i < n) (hj : j < n) (w : World) (h : EsAt w A c es) :
    Calls Try.prog 70 #[.slice A n c, .int .i64 i, .int .i64 j] w fun e w' => e = .returned (.bool (ltE es[i]! es[j]!)) ∧ Touch [] w w' := by
  subst hn
  obtain ⟨G, rfl, ci, _⟩ := h.at_ i hi
  obtain ⟨G2, e, cj, _⟩ := h.at_ j hj
  obtain rfl : G = G2 := by injection e with e; injection e
  clear e
  have a2 := h.cell i hi 2 _ rfl
  have a3 := h.cell i hi 3 _ rfl
  have a4 := h.cell i hi 4 _ rfl
  have b2 := h.cell j hj 2 _ rfl
  have b3 := h.cell j hj 3 _ rfl
  have b4 := h.cell j hj 4 _ rfl
  rw [getE _ _ hi, getE _ _ hj]
  obtain ⟨x, hx⟩ : ∃ x, x = es[i] := ⟨_, rfl⟩
  obtain ⟨y, hy⟩ : ∃ y, y = es[j] := ⟨_, rfl⟩
  rw [← hx] at a2 a3 a4 ci ⊢
  rw [← hy] at b2 b3 b4 cj ⊢
  obtain ⟨p, x⟩ := x
  obtain ⟨q, y⟩ := y
  dsimp only at *
  have hlt : ltE (p, x) (q, y) = decide (cfQ x y < 0) := rfl
  rw [hlt]
  have hiI : (i : Int) < (es.length : Int) := by omega
  have hjI : (j : Int) < (es.length : Int) := by omega
  have ti := TW.cell ci
  have tj := TW.cell cj
  have hH : ∀ X : TW w, Calls Try.prog 23 #[ptrV p, ptrV q] X.w fun e w' => e = .returned (.int .i64 (cfQ x y)) ∧ Touch [] X.w w' := fun X => by
    refine (cmpE_any p q x y X.w (TW.cell a2 X) (TW.cell a3 X) (TW.cell a4 X) (TW.cell b2 X) (TW.cell b3 X) (TW.cell b4 X)).mono ?_
    rintro e w' ⟨rfl, o, rfl⟩
    exact ⟨rfl, ((Touch.refl [] X.w).drew).alloc o⟩
  have H := Lib.hid hH
  clear hH
  clear hx hy h hlt a2 a3 a4 b2 b3 b4
  unfold ptrV at *
  go_enter Try.func70, Try.ntmps70
  go_wp2_with fail
  refine wp_region_tw w (Touch.refl _ _) (by kernel_rfl) (by kernel_rfl) ?_
  repeat (go_big_quiet_step (((go_at_call 23; exact Calls.tw _ (H.out _)))))
  refine wpQuiet_nil ?_
  rintro _ ⟨z, rfl⟩
  go_wp2
  go_ret
  exact ⟨rfl, z.t⟩

set_option maxRecDepth 20000 in
set_option maxHeartbeats 1600000 in
theorem swap_any (A : Option Addr) (c : Nat) (es : ES) (i j n : Nat) (hn : es.length = n) (hi : i < n) (hj : j < n) (hij : i ≠ j) (w : World) (h : EsAt w A c es) :
    Calls Try.prog 71 #[.slice A n c, .int .i64 i, .int .i64 j] w fun e w' => e = .returned (.tuple #[]) ∧ EsAt w' A c (swL es i j) ∧ Touch (efp A es) w w' := by
  subst hn
  obtain ⟨G, rfl, ci, zi⟩ := h.at_ i hi
  obtain ⟨G2, e, cj, zj⟩ := h.at_ j hj
  obtain rfl : G = G2 := by injection e with e; injection e
  clear e
  have hs := h.swap i j hi hj
  have a5 := h.cell i hi 5 _ rfl
  have b5 := h.cell j hj 5 _ rfl
  have za := h.free i hi 5
  have zb := h.free j hj 5
  have hxG : es[i].1 ≠ G := fun e => h.nA _ (List.getElem_mem hi) (by simp [fpo, e])
  have hyG : es[j].1 ≠ G := fun e => h.nA _ (List.getElem_mem hj) (by simp [fpo, e])
  have hxy := h.ne i j hi hj hij
  have hmx : es[i].1 ∈ efp (some ⟨G, 0, none⟩) es := mem_efp.2 (.inr ⟨_, List.getElem_mem hi, rfl⟩)
  have hmy : es[j].1 ∈ efp (some ⟨G, 0, none⟩) es := mem_efp.2 (.inr ⟨_, List.getElem_mem hj, rfl⟩)
  have hmG : G ∈ efp (some ⟨G, 0, none⟩) es := mem_efp.2 (.inl (by simp [fpo]))
  obtain ⟨F, hF⟩ : ∃ F, F = efp (some ⟨G, 0, none⟩) es := ⟨_, rfl⟩
  rw [← hF] at hmx hmy hmG ⊢
  obtain ⟨x, hx⟩ : ∃ x, x = es[i].1 := ⟨_, rfl⟩
  obtain ⟨y, hy⟩ : ∃ y, y = es[j].1 := ⟨_, rfl⟩
  rw [← hx, ← hy] at *
  have hiI : (i : Int) < (es.length : Int) := by omega
  have hjI : (j : Int) < (es.length : Int) := by omega
  have Hs := Lib.hid hs
  have HT := Lib.hid (And.intro hmG (And.intro hmx hmy))
  have hxl := World.block_lt_of_cell? w _ a5
  have hyl := World.block_lt_of_cell? w _ b5
  have hgl := World.block_lt_of_cell? w _ ci
  clear hs hmx hmy hmG hF h hx hy
  unfold ptrV at *
  dsimp only at *
  go_enter Try.func71, Try.ntmps71
  go_wp2_with fail
  go_region
  go_wp2_with fail
  go_region
  go_wp2_with fail
  go_end0
  obtain ⟨h1, h2, h3⟩ := HT.out
  exact ⟨rfl, (Hs.out).heap rfl, (((((((Touch.refl F w).setCell (.inl h1) _).setCell (.inl h1) _).setCell (.inl h3) _).setCell (.inl h2) _).drew).drew)⟩
end Go.Proofs.Ythhjioeipjnjmaa
