/- cron.Spec.day, cron.Spec.Match: does a minute match? For every spec and every minute. -/
import Derived.Test.YtoabloeechphkaaDoorCronC
import Derived.Test.YtoabloeechphkaaDoorCronOf
namespace Go.Proofs.YtoabloeechphkaaDoor
open Go.RowKit

def dayV (c : SD) (d : DateD) : Bool := c.has 3 d.mo && (if (c.any 2 || c.any 4) = true then c.has 2 d.d && c.has 4 d.wd else c.has 2 d.d || c.has 4 d.wd)
def matchV (c : SD) (n : Nat) : Bool := dayV c (dateV n) && (c.has 1 (dateV n).h && c.has 0 (dateV n).mi)

/-- the cells of a spec in a box -/
structure SpecAt (w : World) (b : Nat) (c : SD) : Prop where
  s0 : w.cell? ⟨b, 0, none⟩ = some (.int .u64 (c.set 0 : Nat))
  s1 : w.cell? ⟨b, 1, none⟩ = some (.int .u64 (c.set 1 : Nat))
  s2 : w.cell? ⟨b, 2, none⟩ = some (.int .u64 (c.set 2 : Nat))
  s3 : w.cell? ⟨b, 3, none⟩ = some (.int .u64 (c.set 3 : Nat))
  s4 : w.cell? ⟨b, 4, none⟩ = some (.int .u64 (c.set 4 : Nat))
  a0 : w.cell? ⟨b, 5, none⟩ = some (.bool (c.any 0))
  a1 : w.cell? ⟨b, 6, none⟩ = some (.bool (c.any 1))
  a2 : w.cell? ⟨b, 7, none⟩ = some (.bool (c.any 2))
  a3 : w.cell? ⟨b, 8, none⟩ = some (.bool (c.any 3))
  a4 : w.cell? ⟨b, 9, none⟩ = some (.bool (c.any 4))
theorem SpecAt.touch {fp : List Nat} {w w' : World} {b : Nat} {c : SD} (h : SpecAt w b c) (t : Touch fp w w') (hb : b ∉ fp) : SpecAt w' b c :=
  ⟨t.cell h.s0 hb, t.cell h.s1 hb, t.cell h.s2 hb, t.cell h.s3 hb, t.cell h.s4 hb, t.cell h.a0 hb, t.cell h.a1 hb, t.cell h.a2 hb, t.cell h.a3 hb, t.cell h.a4 hb⟩
theorem SpecAt.touch0 {w w' : World} {b : Nat} {c : SD} (h : SpecAt w b c) (t : Touch [] w w') : SpecAt w' b c := h.touch t (by simp)
theorem specAt_new (w : World) (c : SD) : SpecAt (w.alloc (.cells c.row 27)) w.heap.size c := by
  have hb := heap_alloc_new w (.cells c.row 27)
  constructor <;> exact cell_blk hb rfl
theorem specAt_blk {w : World} {b : Nat} {c : SD} {t : TypeId} (hb : w.heap[b]? = some (.cells c.row t (0, 0))) : SpecAt w b c := by
  constructor <;> exact cell_blk hb rfl
/-- the cells of a date in a box -/
structure DateAt (w : World) (b : Nat) (d : DateD) : Prop where
  c0 : w.cell? ⟨b, 0, none⟩ = some (.int .i64 (d.y : Nat))
  c1 : w.cell? ⟨b, 1, none⟩ = some (.int .i64 (d.mo : Nat))
  c2 : w.cell? ⟨b, 2, none⟩ = some (.int .i64 (d.d : Nat))
  c3 : w.cell? ⟨b, 3, none⟩ = some (.int .i64 (d.h : Nat))
  c4 : w.cell? ⟨b, 4, none⟩ = some (.int .i64 (d.mi : Nat))
  c5 : w.cell? ⟨b, 5, none⟩ = some (.int .i64 (d.wd : Nat))
theorem DateAt.touch0 {w w' : World} {b : Nat} {d : DateD} (h : DateAt w b d) (t : Touch [] w w') : DateAt w' b d :=
  ⟨t.cell h.c0 (by simp), t.cell h.c1 (by simp), t.cell h.c2 (by simp), t.cell h.c3 (by simp), t.cell h.c4 (by simp), t.cell h.c5 (by simp)⟩
theorem dateAt_blk {w : World} {b : Nat} {d : DateD} {t : TypeId} (hb : w.heap[b]? = some (.cells d.row t (0, 0))) : DateAt w b d := by
  constructor <;> exact cell_blk hb rfl

set_option maxRecDepth 20000 in
set_option maxHeartbeats 3200000 in
theorem day_any (c : SD) (hc : c.Ok) (d : DateD) (hm : d.mo < 64) (hd : d.d < 64) (hw : d.wd < 64) (w : World) :
    Calls Tryd.prog 32 #[c.val, d.val] w fun e w' => e = .returned (.bool (dayV c d)) ∧ Touch [] w w' := by
  have t0 := ((Touch.refl [] w).alloc (.cells c.row 27)).alloc (.cells d.row 69)
  have hS := (specAt_new w c).touch0 ((Touch.refl [] _).alloc (.cells d.row 69))
  have hD := dateAt_blk (heap_alloc_new (w.alloc (.cells c.row 27)) (.cells d.row 69))
  have h3 : ∀ w', Calls Tryd.prog 33 #[c.val, .int .i64 3, .int .i64 (d.mo : Nat)] w' fun e w'' => e = .returned (.bool (c.has 3 d.mo)) ∧ Touch [] w' w'' := fun w' => has_any c hc 3 d.mo (by omega) hm w'
  have h2 : ∀ w', Calls Tryd.prog 33 #[c.val, .int .i64 2, .int .i64 (d.d : Nat)] w' fun e w'' => e = .returned (.bool (c.has 2 d.d)) ∧ Touch [] w' w'' := fun w' => has_any c hc 2 d.d (by omega) hd w'
  have h4 : ∀ w', Calls Tryd.prog 33 #[c.val, .int .i64 4, .int .i64 (d.wd : Nat)] w' fun e w'' => e = .returned (.bool (c.has 4 d.wd)) ∧ Touch [] w' w'' := fun w' => has_any c hc 4 d.wd (by omega) hw w'
  have hv : dayV c d = (c.has 3 d.mo && (if (c.any 2 || c.any 4) = true then c.has 2 d.d && c.has 4 d.wd else c.has 2 d.d || c.has 4 d.wd)) := rfl
  obtain ⟨x, hx⟩ : ∃ x, x = c.any 2 := ⟨_, rfl⟩
  obtain ⟨y, hy⟩ : ∃ y, y = c.any 4 := ⟨_, rfl⟩
  obtain ⟨m, hm'⟩ : ∃ m, m = c.has 3 d.mo := ⟨_, rfl⟩
  obtain ⟨p, hp'⟩ : ∃ p, p = c.has 2 d.d := ⟨_, rfl⟩
  obtain ⟨q, hq'⟩ : ∃ q, q = c.has 4 d.wd := ⟨_, rfl⟩
  rw [← hx, ← hy, ← hm', ← hp', ← hq'] at hv
  unfold SD.val SD.row at h2 h3 h4
  rw [← hx, ← hy, ← hm'] at h3
  rw [← hx, ← hy, ← hp'] at h2
  rw [← hx, ← hy, ← hq'] at h4
  have ha2 := hS.a2
  have ha4 := hS.a4
  rw [← hx] at ha2
  rw [← hy] at ha4
  have Ha2 := Lib.hid ha2; have Ha4 := Lib.hid ha4
  have H3 := Lib.hid h3; have H2 := Lib.hid h2; have H4 := Lib.hid h4; have Hv := Lib.hid hv
  clear h3 h2 h4 hv hx hy hm' hp' hq' ha2 ha4
  rw [World.size_alloc] at hD
  obtain ⟨W, hW⟩ : ∃ W, W = (w.alloc (.cells c.row 27)).alloc (.cells d.row 69) := ⟨_, rfl⟩
  have hW2 := hW
  unfold SD.row DateD.row at hW2
  rw [← hW] at t0 hS hD Ha2 Ha4
  have HW := Lib.hid hW; have HW2 := Lib.hid hW2
  clear hW hW2
  have k0 := TW.cell hS.s0; have k1 := TW.cell hS.s1; have k2 := TW.cell hS.s2; have k3 := TW.cell hS.s3; have k4 := TW.cell hS.s4
  have k5 := TW.cell hS.a0; have k6 := TW.cell hS.a1; have k7 := TW.cell Ha2.out; have k8 := TW.cell hS.a3; have k9 := TW.cell Ha4.out
  have j0 := TW.cell hD.c0; have j1 := TW.cell hD.c1; have j2 := TW.cell hD.c2; have j3 := TW.cell hD.c3; have j4 := TW.cell hD.c4; have j5 := TW.cell hD.c5
  have HS := Lib.hid hS; have HD := Lib.hid hD
  clear hS hD
  unfold SD.val DateD.val SD.row DateD.row
  go_enter Tryd.func32, Tryd.ntmps32
  go_wp2_with fail
  rw [← HW2.out]
  refine wp_region_tw W (Touch.refl _ _) (by kernel_rfl) (by kernel_rfl) ?_
  repeat (go_big_quiet_step (((go_at_call 33; first | with_reducible exact Calls.tw _ (H2.out _) | with_reducible exact Calls.tw _ (H4.out _)))))
  refine wpQuiet_nil ?_
  rintro _ ⟨z, rfl⟩
  obtain ⟨s0, s1, s2, s3, s4, a0, a1, -, a3, -⟩ := HS.out.touch0 z.t
  obtain ⟨c0, c1, c2, c3, c4, c5⟩ := HD.out.touch0 z.t
  have a2 := z.t.cell Ha2.out (by simp)
  have a4 := z.t.cell Ha4.out (by simp)
  clear k0 k1 k2 k3 k4 k5 k6 k7 k8 k9 j0 j1 j2 j3 j4 j5
  rcases x with _ | _
  rcases y with _ | _
  all_goals
    rcases p with _ | _ <;> rcases m with _ | _
    all_goals
      go_wp2_with (go_at_call 33; (with_reducible refine (H3.out _).mono ?_); rintro e w1 ⟨rfl, t1⟩)
      go_ret
      exact ⟨ret_bool (by rw [Hv.out]; simp), (t0.trans0 z.t).trans0 t1⟩
end Go.Proofs.YtoabloeechphkaaDoor
