/- bywashlaw04.build: the expression at the beginning of a list. For every list. -/
import Derived.Test.YtlkckkagoommaaaBuildV
import Derived.Test.YtlkckkagoommaaaOwnX
import Derived.Test.YtlkckkagoommaaaHeld
import Derived.Test.YtlkckkagoommaaaValF
import Derived.Deep.DrawnRows
namespace Go.Proofs.Ytlkckkagoommaaa
open Go.RowKit
attribute [local go_sem ↓] Go.wp_at_zero Go.wp_at_succ

theorem flat_drop (t : Nat) (l : List PL) : (l.drop t).flatMap plE = (l.flatMap plE).drop (t * 7) := by
  induction t generalizing l with
  | zero => simp
  | succ t ih =>
    cases l with
    | nil => simp
    | cons p l => rw [List.drop_succ_cons, ih, List.flatMap_cons, show (t + 1) * 7 = 7 + t * 7 by omega, ← List.drop_drop]; rfl
theorem PlsAt.drop {w : World} {ad : Addr} {l : List PL} (h : PlsAt w (some ad) l) (t : Nat) : PlsAt w (some (ad.add (t * 7))) (l.drop t) := by
  have := Rd.cut (n := (l.flatMap plE).length) h (A' := some (ad.add (t * 7))) (k := t * 7) (fun a h _ => by cases h; rfl)
  rw [List.take_of_length_le (by rw [List.length_drop]; omega)] at this
  unfold PlsAt RdK
  rw [flat_drop]; exact this
/-- what build promises -/
def BuildSaid (m : Nat) : Prop := ∀ (l : List PL) (A : Option Addr) (len cap d : Nat) (w : World), l.length = len → len ≤ cap → 0 < len → len ≤ 100000000 → d + m = 60 → PlsAt w A l →
    Calls Try.prog 12 #[.slice A len cap, .int .i64 d] w fun r w' => ∃ x, r = .returned (.tuple #[x.val, .int .i64 ((buildX m l).2 : Nat)]) ∧ ExP xcE (Fr w.heap.size w') (m + 1) w' x (buildX m l).1 ∧ Touch [] w w'
/-- .. and that the Args are the calls' own -/
def BuildOwn (m : Nat) : Prop := ∀ (l : List PL) (A : Option Addr) (len cap d : Nat) (w : World), l.length = len → len ≤ cap → 0 < len → len ≤ 100000000 → d + m = 60 → PlsAt w A l →
    Calls Try.prog 12 #[.slice A len cap, .int .i64 d] w fun r w' => ∃ x, r = .returned (.tuple #[x.val, .int .i64 ((buildX m l).2 : Nat)]) ∧ ExP xcE (Fr w.heap.size w') (m + 1) w' x (buildX m l).1 ∧ OwnX 33 xcE w.heap.size m w' x.A x.c (buildX m l).1.2 ∧ Touch [] w w'

theorem info_expr2 : (Try.prog.info? 33).map (fun i => (i.zero, i.size, i.bytes)) = some (some (.agg #[.int .i64 0, .string ⟨#[]⟩, .int .i64 0, .int .i64 0, .string ⟨#[]⟩, .string ⟨#[]⟩, .slice none 0 0]), 7, 96) := by kernel_rfl
set_option maxRecDepth 100000 in
set_option maxHeartbeats 6400000 in
theorem build_zero : BuildOwn 0 := by
  intro l A len cap d w hl hc h0 hb hd h
  have hne : l ≠ [] := fun q => by rw [q] at hl; simp at hl; omega
  obtain ⟨p, hp⟩ : ∃ p, p = l.headD zeroP := ⟨_, rfl⟩
  have hp0 : l[0]'(by omega) = p := by rw [hp]; cases l with | nil => exact absurd rfl hne | cons a l => rfl
  have Hst := Lib.hid (show buildX 0 l = ((((l.headD zeroP).nd, []) : TX 1), 1) from rfl)
  rw [← hp] at Hst
  obtain ⟨ad, b, off, rfl, hadd, hbb, hcell⟩ := RdK.at_ h 7 plE_length (by omega) 0 (by omega)
  clear hbb
  rw [hp0] at hcell
  obtain ⟨⟨k, nm, ⟨vk, vn, vt⟩, op⟩, cnt⟩ := p
  simp only at Hst
  have c0 := hcell 0 _ rfl; have c1 := hcell 1 _ rfl; have c2 := hcell 2 _ rfl; have c3 := hcell 3 _ rfl; have c4 := hcell 4 _ rfl; have c5 := hcell 5 _ rfl; have c6 := hcell 6 _ rfl
  rw [Nat.add_zero] at c0
  simp only at c0 c1 c2 c3 c4 c5 c6
  clear hcell hp0 hp
  have hlI : (0 : Int) < (len : Int) := by omega
  have hdI : ¬ (d : Int) < 60 := by omega
  have Hl := Lib.hid hl; have Hne := Lib.hid hne; have Hd := Lib.hid hd; have Hc := Lib.hid hc
  clear hl hne hd
  have t0 := ((Touch.refl [] w).alloc (.cells #[.int .i64 0, .string ⟨#[]⟩, .int .i64 0, .int .i64 0, .string ⟨#[]⟩, .string ⟨#[]⟩, .slice none 0 0] 33)).drew
  have hR0 := ((Touch.refl [] (w.alloc (.cells #[.int .i64 0, .string ⟨#[]⟩, .int .i64 0, .int .i64 0, .string ⟨#[]⟩, .string ⟨#[]⟩, .slice none 0 0] 33))).drew).blk (heap_alloc_new w (.cells #[.int .i64 0, .string ⟨#[]⟩, .int .i64 0, .int .i64 0, .string ⟨#[]⟩, .string ⟨#[]⟩, .slice none 0 0] 33)) (by simp)
  have f0 := t0.cell c0 (by simp)
  have f1 := t0.cell c1 (by simp)
  have f2 := t0.cell c2 (by simp)
  have f3 := t0.cell c3 (by simp)
  have f4 := t0.cell c4 (by simp)
  have f5 := t0.cell c5 (by simp)
  have f6 := t0.cell c6 (by simp)
  go_enter Try.func12, Try.ntmps12
  go_wp2_with fail
  refine wp_region_held_drew (S := fun w' => w'.cell? ⟨b, off, none⟩ = some (.int .i64 k) ∧ w'.cell? ⟨b, off + 1, none⟩ = some (.string nm) ∧ w'.cell? ⟨b, off + 2, none⟩ = some (.int .i64 vk) ∧ w'.cell? ⟨b, off + 2 + 1, none⟩ = some (.int .i64 vn) ∧ w'.cell? ⟨b, off + 2 + 2, none⟩ = some (.string vt) ∧ w'.cell? ⟨b, off + 5, none⟩ = some (.string op)) (by kernel_rfl) ⟨f0, f1, f2, f3, f4, f5⟩ (fun hHeld => ?_)
  refine take_d (i := 0) (d := 11) (v := ?_) rfl rfl (by kernel_rfl) (by kernel_rfl) (by kernel_rfl) (fun _ _ _ h => h) (Or.inl ⟨by rfl, ?_⟩) (by assumption) ?_
  rotate_left
  · intro w hSw; (try dsimp only at hSw); go_simp; (try with_reducible rfl)
  try simp only [Act.put, List.setIfInBounds_toArray, List.set_cons_zero, List.set_cons_succ]
  refine take_d (i := 1) (d := 12) (v := ?_) rfl rfl (by kernel_rfl) (by kernel_rfl) (by kernel_rfl) (fun _ _ _ h => h) (Or.inl ⟨by rfl, ?_⟩) (by assumption) ?_
  rotate_left
  · intro w hSw; (try dsimp only at hSw); go_simp; (try with_reducible rfl)
  try simp only [Act.put, List.setIfInBounds_toArray, List.set_cons_zero, List.set_cons_succ]
  refine take_d (i := 2) (d := 13) (v := ?_) rfl rfl (by kernel_rfl) (by kernel_rfl) (by kernel_rfl) (fun _ _ _ h => h) (Or.inl ⟨by rfl, ?_⟩) (by assumption) ?_
  rotate_left
  · intro w hSw; (try dsimp only at hSw); go_simp; (try with_reducible rfl)
  try simp only [Act.put, List.setIfInBounds_toArray, List.set_cons_zero, List.set_cons_succ]
  refine take_d (i := 3) (d := 14) (v := ?_) rfl rfl (by kernel_rfl) (by kernel_rfl) (by kernel_rfl) (fun _ _ _ h => h) (Or.inl ⟨by rfl, ?_⟩) (by assumption) ?_
  rotate_left
  · intro w hSw; (try dsimp only at hSw); go_simp; (try with_reducible rfl)
  try simp only [Act.put, List.setIfInBounds_toArray, List.set_cons_zero, List.set_cons_succ]
  refine take_d (i := 4) (d := 15) (v := ?_) rfl rfl (by kernel_rfl) (by kernel_rfl) (by kernel_rfl) (fun _ _ _ h => h) (Or.inl ⟨by rfl, ?_⟩) (by assumption) ?_
  rotate_left
  · intro w hSw; (try dsimp only at hSw); go_simp; (try with_reducible rfl)
  try simp only [Act.put, List.setIfInBounds_toArray, List.set_cons_zero, List.set_cons_succ]
  refine take_d (i := 5) (d := 16) (v := ?_) rfl rfl (by kernel_rfl) (by kernel_rfl) (by kernel_rfl) (fun _ _ _ h => h) (Or.inl ⟨by rfl, ?_⟩) (by assumption) ?_
  rotate_left
  · intro w hSw; (try dsimp only at hSw); go_simp; (try with_reducible rfl)
  try simp only [Act.put, List.setIfInBounds_toArray, List.set_cons_zero, List.set_cons_succ]
  refine take_d (i := 6) (d := 17) (v := ?_) rfl rfl (by kernel_rfl) (by kernel_rfl) (by kernel_rfl) (fun _ _ _ h => h) (Or.inl ⟨by rfl, ?_⟩) (by assumption) ?_
  rotate_left
  · intro w hSw; (try dsimp only at hSw); go_simp; (try with_reducible rfl)
  try simp only [Act.put, List.setIfInBounds_toArray, List.set_cons_zero, List.set_cons_succ]
  refine take_d (i := 7) (d := 18) (v := ?_) rfl rfl (by kernel_rfl) (by kernel_rfl) (by kernel_rfl) (fun _ _ _ h => h) (Or.inl ⟨by rfl, ?_⟩) (by assumption) ?_
  rotate_left
  · intro w hSw; (try dsimp only at hSw); go_simp; (try with_reducible rfl)
  try simp only [Act.put, List.setIfInBounds_toArray, List.set_cons_zero, List.set_cons_succ]
  refine take_d (i := 8) (d := 19) (v := ?_) rfl rfl (by kernel_rfl) (by kernel_rfl) (by kernel_rfl) (fun _ _ _ h => h) (Or.inl ⟨by rfl, ?_⟩) (by assumption) ?_
  rotate_left
  · intro w hSw; (try dsimp only at hSw); go_simp; (try with_reducible rfl)
  try simp only [Act.put, List.setIfInBounds_toArray, List.set_cons_zero, List.set_cons_succ]
  refine take_d (i := 9) (d := 20) (v := ?_) rfl rfl (by kernel_rfl) (by kernel_rfl) (by kernel_rfl) (fun _ _ _ h => h) (Or.inl ⟨by rfl, ?_⟩) (by assumption) ?_
  rotate_left
  · intro w hSw; (try dsimp only at hSw); go_simp; (try with_reducible rfl)
  try simp only [Act.put, List.setIfInBounds_toArray, List.set_cons_zero, List.set_cons_succ]
  refine take_d (i := 10) (d := 21) (v := ?_) rfl rfl (by kernel_rfl) (by kernel_rfl) (by kernel_rfl) (fun _ _ _ h => h) (Or.inl ⟨by rfl, ?_⟩) (by assumption) ?_
  rotate_left
  · intro w hSw; (try dsimp only at hSw); go_simp; (try with_reducible rfl)
  try simp only [Act.put, List.setIfInBounds_toArray, List.set_cons_zero, List.set_cons_succ]
  refine take_d (i := 11) (d := 22) (v := ?_) rfl rfl (by kernel_rfl) (by kernel_rfl) (by kernel_rfl) (fun _ _ _ h => h) (Or.inl ⟨by rfl, ?_⟩) (by assumption) ?_
  rotate_left
  · intro w hSw; (try dsimp only at hSw); go_simp; (try with_reducible rfl)
  try simp only [Act.put, List.setIfInBounds_toArray, List.set_cons_zero, List.set_cons_succ]
  refine take_d (i := 12) (d := 23) (v := ?_) rfl rfl (by kernel_rfl) (by kernel_rfl) (by kernel_rfl) (fun _ _ _ h => h) (Or.inl ⟨by rfl, ?_⟩) (by assumption) ?_
  rotate_left
  · intro w hSw; (try dsimp only at hSw); go_simp; (try with_reducible rfl)
  try simp only [Act.put, List.setIfInBounds_toArray, List.set_cons_zero, List.set_cons_succ]
  refine take_d (i := 13) (d := 24) (v := ?_) rfl rfl (by kernel_rfl) (by kernel_rfl) (by kernel_rfl) (fun _ _ _ h => h) (Or.inl ⟨by rfl, ?_⟩) (by assumption) ?_
  rotate_left
  · intro w hSw; (try dsimp only at hSw); go_simp; (try with_reducible rfl)
  try simp only [Act.put, List.setIfInBounds_toArray, List.set_cons_zero, List.set_cons_succ]
  refine take_d (i := 14) (d := 25) (v := ?_) rfl rfl (by kernel_rfl) (by kernel_rfl) (by kernel_rfl) (fun _ _ _ h => h) (Or.inl ⟨by rfl, ?_⟩) (by assumption) ?_
  rotate_left
  · intro w hSw; (try dsimp only at hSw); go_simp; (try with_reducible rfl)
  try simp only [Act.put, List.setIfInBounds_toArray, List.set_cons_zero, List.set_cons_succ]
  refine take_d (i := 15) (d := 26) (v := ?_) rfl rfl (by kernel_rfl) (by kernel_rfl) (by kernel_rfl) (fun _ _ _ h => h) (Or.inl ⟨by rfl, ?_⟩) (by assumption) ?_
  rotate_left
  · intro w hSw; (try dsimp only at hSw); go_simp; (try with_reducible rfl)
  try simp only [Act.put, List.setIfInBounds_toArray, List.set_cons_zero, List.set_cons_succ]
  refine take_d (i := 16) (d := 27) (v := ?_) rfl rfl (by kernel_rfl) (by kernel_rfl) (by kernel_rfl) (fun _ _ _ h => h) (Or.inl ⟨by rfl, ?_⟩) (by assumption) ?_
  rotate_left
  · intro w hSw; (try dsimp only at hSw); go_simp; (try with_reducible rfl)
  try simp only [Act.put, List.setIfInBounds_toArray, List.set_cons_zero, List.set_cons_succ]
  have tn := (((Touch.refl [] w).alloc (.cells #[.int .i64 0, .string ⟨#[]⟩, .int .i64 0, .int .i64 0, .string ⟨#[]⟩, .string ⟨#[]⟩, .slice none 0 0] 33)).alloc (.cells #[.int .i64 0, .string ⟨#[]⟩, .int .i64 0, .int .i64 0, .string ⟨#[]⟩, .string ⟨#[]⟩, .slice none 0 0] 33)).drew
  have g0 := tn.cell c0 (by simp)
  have g1 := tn.cell c1 (by simp)
  have g2 := tn.cell c2 (by simp)
  have g3 := tn.cell c3 (by simp)
  have g4 := tn.cell c4 (by simp)
  have g5 := tn.cell c5 (by simp)
  have g6 := tn.cell c6 (by simp)
  refine wpAnyH_ready (rs := [17]) (by kernel_rfl) (by simp) ?_
  refine AllReadyH.cons rfl (fun K hK => ?_) AllReadyH.nil
  go_simp
  (try go_wp2_with fail)
  refine hK.out _ _ ⟨g0, g1, g2, g3, g4, g5⟩ (fun _hH => ?_)
  clear hK K
  try simp only [Act.put, List.setIfInBounds_toArray, List.set_cons_zero, List.set_cons_succ]
  have te := (((Touch.refl [] w).alloc (.cells #[.int .i64 0, .string ⟨#[]⟩, .int .i64 0, .int .i64 0, .string ⟨#[]⟩, .string ⟨#[]⟩, .slice none 0 0] 33)).alloc (.cells #[.int .i64 k, .string nm, .int .i64 vk, .int .i64 vn, .string vt, .string op, .slice none 0 0] 33)).drew
  have e0 := te.cell c0 (by simp)
  have e1 := te.cell c1 (by simp)
  have e2 := te.cell c2 (by simp)
  have e3 := te.cell c3 (by simp)
  have e4 := te.cell c4 (by simp)
  have e5 := te.cell c5 (by simp)
  have e6 := te.cell c6 (by simp)
  refine wpAnyH_ready (rs := [18]) (by kernel_rfl) (by simp) ?_
  refine AllReadyH.cons rfl (fun K hK => ?_) AllReadyH.nil
  go_simp
  (try go_wp2_with fail)
  refine hK.out _ _ ⟨e0, e1, e2, e3, e4, e5⟩ (fun _hH => ?_)
  clear hK K
  try simp only [Act.put, List.setIfInBounds_toArray, List.set_cons_zero, List.set_cons_succ]
  refine wpAnyH_done (by kernel_rfl) ?_ _
  have hX0 : ((w.alloc (.cells #[.int .i64 0, .string ⟨#[]⟩, .int .i64 0, .int .i64 0, .string ⟨#[]⟩, .string ⟨#[]⟩, .slice none 0 0] 33)).alloc (.cells #[.int .i64 k, .string nm, .int .i64 vk, .int .i64 vn, .string vt, .string op, .slice none 0 0] 33)).drew.heap[w.heap.size + 1]? = some (.cells #[.int .i64 k, .string nm, .int .i64 vk, .int .i64 vn, .string vt, .string op, .slice none 0 0] 33 (0, 0)) := by have := heap_alloc_new (w.alloc (.cells #[.int .i64 0, .string ⟨#[]⟩, .int .i64 0, .int .i64 0, .string ⟨#[]⟩, .string ⟨#[]⟩, .slice none 0 0] 33)) (.cells #[.int .i64 k, .string nm, .int .i64 vk, .int .i64 vn, .string vt, .string op, .slice none 0 0] 33); rw [World.size_alloc] at this; exact this
  have hR1 := ((Touch.refl [] (w.alloc (.cells #[.int .i64 0, .string ⟨#[]⟩, .int .i64 0, .int .i64 0, .string ⟨#[]⟩, .string ⟨#[]⟩, .slice none 0 0] 33))).alloc (.cells #[.int .i64 k, .string nm, .int .i64 vk, .int .i64 vn, .string vt, .string op, .slice none 0 0] 33)).drew.blk (heap_alloc_new w (.cells #[.int .i64 0, .string ⟨#[]⟩, .int .i64 0, .int .i64 0, .string ⟨#[]⟩, .string ⟨#[]⟩, .slice none 0 0] 33)) (by simp)
  clear f0 f1 f2 f3 f4 f5 f6 g0 g1 g2 g3 g4 g5 g6 e0 e1 e2 e3 e4 e5 e6 tn t0 hR0
  go_wp2_with fail
  go_loopw [7, 8] (fun tv jv wr => jv = .int .i64 0 ∧ tv = .int .i64 1 ∧ wr.heap[w.heap.size + 1]? = some (.cells #[.int .i64 k, .string nm, .int .i64 vk, .int .i64 vn, .string vt, .string op, .slice none 0 0] 33 (0, 0)) ∧ wr.heap[w.heap.size]? = some (.cells #[.int .i64 0, .string ⟨#[]⟩, .int .i64 0, .int .i64 0, .string ⟨#[]⟩, .string ⟨#[]⟩, .slice none 0 0] 33 (0, 0)) ∧ Touch [] w wr) (fun tv _ _ => len - (intOf tv).toNat)
  case atStart => exact ⟨rfl, rfl, hX0, hR1, te⟩
  case round =>
    obtain ⟨rfl, rfl, hX, hR, ht⟩ := hrel
    clear hX0 hR1 te
    have f6 := ht.cell c6 (by simp)
    have hown := OwnX.nil 33 xcE (w.heap.size + 2) 0 wr
    by_cases hjc : (0 : Int) < cnt
    · by_cases htI : (1 : Int) < (len : Int)
      · obtain ⟨a0, a1, a2, a3, a4, a5, a6, _⟩ := blk7 hX
        obtain ⟨r0, r1, r2, r3, r4, r5, r6, g0, g1, g2, g3, g4, g5, g6⟩ := blk7 hR
        go_wp2_with fail
        obtain ⟨q1, q2⟩ := out7 hR (.int .i64 k) (.string nm) (.int .i64 vk) (.int .i64 vn) (.string vt) (.string op) (.slice none 0 0)
        obtain ⟨d0, d1, d2, d3, d4, d5, d6, _⟩ := blk7 q1
        refine bodyPost_ret (v := .tuple #[.agg #[.int .i64 k, .string nm, .int .i64 vk, .int .i64 vn, .string vt, .string op, .slice none 0 0], .int .i64 1]) (by simp [results, Try.results12, go_sem, d0, d1, d2, d3, d4, d5, d6]) rfl ⟨⟨⟨k, nm, ⟨vk, vn, vt⟩, op⟩, none, 0, 0⟩, ?_, ?_, ?_, ht.trans q2 (fun b hb => .inr (by simp at hb; omega))⟩
        · rw [Hst.out]; rfl
        · rw [Hst.out]
          have q3 := q2.size
          exact ((hown.tree ⟨k, nm, ⟨vk, vn, vt⟩, op⟩ 0 rfl).touch q2 (fun b hb hm => by simp at hb; have := hm.1; omega)).mono fun b hb => ⟨by have := hb.1; omega, by have := hb.2; omega⟩
        · rw [Hst.out]
          exact (hown.touch q2 (fun b hb => by simp at hb; omega)).base (by omega)
      · obtain ⟨a0, a1, a2, a3, a4, a5, a6, _⟩ := blk7 hX
        obtain ⟨r0, r1, r2, r3, r4, r5, r6, g0, g1, g2, g3, g4, g5, g6⟩ := blk7 hR
        go_wp2_with fail
        obtain ⟨q1, q2⟩ := out7 hR (.int .i64 k) (.string nm) (.int .i64 vk) (.int .i64 vn) (.string vt) (.string op) (.slice none 0 0)
        obtain ⟨d0, d1, d2, d3, d4, d5, d6, _⟩ := blk7 q1
        refine bodyPost_ret (v := .tuple #[.agg #[.int .i64 k, .string nm, .int .i64 vk, .int .i64 vn, .string vt, .string op, .slice none 0 0], .int .i64 1]) (by simp [results, Try.results12, go_sem, d0, d1, d2, d3, d4, d5, d6]) rfl ⟨⟨⟨k, nm, ⟨vk, vn, vt⟩, op⟩, none, 0, 0⟩, ?_, ?_, ?_, ht.trans q2 (fun b hb => .inr (by simp at hb; omega))⟩
        · rw [Hst.out]; rfl
        · rw [Hst.out]
          have q3 := q2.size
          exact ((hown.tree ⟨k, nm, ⟨vk, vn, vt⟩, op⟩ 0 rfl).touch q2 (fun b hb hm => by simp at hb; have := hm.1; omega)).mono fun b hb => ⟨by have := hb.1; omega, by have := hb.2; omega⟩
        · rw [Hst.out]
          exact (hown.touch q2 (fun b hb => by simp at hb; omega)).base (by omega)
    · obtain ⟨a0, a1, a2, a3, a4, a5, a6, _⟩ := blk7 hX
      obtain ⟨r0, r1, r2, r3, r4, r5, r6, g0, g1, g2, g3, g4, g5, g6⟩ := blk7 hR
      go_wp2_with fail
      obtain ⟨q1, q2⟩ := out7 hR (.int .i64 k) (.string nm) (.int .i64 vk) (.int .i64 vn) (.string vt) (.string op) (.slice none 0 0)
      obtain ⟨d0, d1, d2, d3, d4, d5, d6, _⟩ := blk7 q1
      refine bodyPost_ret (v := .tuple #[.agg #[.int .i64 k, .string nm, .int .i64 vk, .int .i64 vn, .string vt, .string op, .slice none 0 0], .int .i64 1]) (by simp [results, Try.results12, go_sem, d0, d1, d2, d3, d4, d5, d6]) rfl ⟨⟨⟨k, nm, ⟨vk, vn, vt⟩, op⟩, none, 0, 0⟩, ?_, ?_, ?_, ht.trans q2 (fun b hb => .inr (by simp at hb; omega))⟩
      · rw [Hst.out]; rfl
      · rw [Hst.out]
        have q3 := q2.size
        exact ((hown.tree ⟨k, nm, ⟨vk, vn, vt⟩, op⟩ 0 rfl).touch q2 (fun b hb hm => by simp at hb; have := hm.1; omega)).mono fun b hb => ⟨by have := hb.1; omega, by have := hb.2; omega⟩
      · rw [Hst.out]
        exact (hown.touch q2 (fun b hb => by simp at hb; omega)).base (by omega)
set_option maxRecDepth 100000 in
set_option maxHeartbeats 6400000 in
theorem build_succ (m : Nat) (ih : BuildOwn m) : BuildOwn (m + 1) := by
  intro l A len cap d w hl hc h0 hb hd h
  have hne : l ≠ [] := fun q => by rw [q] at hl; simp at hl; omega
  obtain ⟨p, hp⟩ : ∃ p, p = l.headD zeroP := ⟨_, rfl⟩
  have hp0 : l[0]'(by omega) = p := by rw [hp]; cases l with | nil => exact absurd rfl hne | cons a l => rfl
  have Hst := Lib.hid (buildX_succ m l)
  rw [← hp] at Hst
  obtain ⟨ad, b, off, rfl, hadd, hbb, hcell⟩ := RdK.at_ h 7 plE_length (by omega) 0 (by omega)
  clear hbb
  rw [hp0] at hcell
  obtain ⟨⟨k, nm, ⟨vk, vn, vt⟩, op⟩, cnt⟩ := p
  simp only at Hst
  have c0 := hcell 0 _ rfl; have c1 := hcell 1 _ rfl; have c2 := hcell 2 _ rfl; have c3 := hcell 3 _ rfl; have c4 := hcell 4 _ rfl; have c5 := hcell 5 _ rfl; have c6 := hcell 6 _ rfl
  rw [Nat.add_zero] at c0
  simp only at c0 c1 c2 c3 c4 c5 c6
  clear hcell hp0 hp
  have hlI : (0 : Int) < (len : Int) := by omega
  have hdI : (d : Int) < 60 := by omega
  have Hl := Lib.hid hl; have Hne := Lib.hid hne; have Hd := Lib.hid hd; have Hc := Lib.hid hc
  clear hl hne hd
  have t0 := ((Touch.refl [] w).alloc (.cells #[.int .i64 0, .string ⟨#[]⟩, .int .i64 0, .int .i64 0, .string ⟨#[]⟩, .string ⟨#[]⟩, .slice none 0 0] 33)).drew
  have hR0 := ((Touch.refl [] (w.alloc (.cells #[.int .i64 0, .string ⟨#[]⟩, .int .i64 0, .int .i64 0, .string ⟨#[]⟩, .string ⟨#[]⟩, .slice none 0 0] 33))).drew).blk (heap_alloc_new w (.cells #[.int .i64 0, .string ⟨#[]⟩, .int .i64 0, .int .i64 0, .string ⟨#[]⟩, .string ⟨#[]⟩, .slice none 0 0] 33)) (by simp)
  have f0 := t0.cell c0 (by simp)
  have f1 := t0.cell c1 (by simp)
  have f2 := t0.cell c2 (by simp)
  have f3 := t0.cell c3 (by simp)
  have f4 := t0.cell c4 (by simp)
  have f5 := t0.cell c5 (by simp)
  have f6 := t0.cell c6 (by simp)
  go_enter Try.func12, Try.ntmps12
  go_wp2_with fail
  refine wp_region_held_drew (S := fun w' => w'.cell? ⟨b, off, none⟩ = some (.int .i64 k) ∧ w'.cell? ⟨b, off + 1, none⟩ = some (.string nm) ∧ w'.cell? ⟨b, off + 2, none⟩ = some (.int .i64 vk) ∧ w'.cell? ⟨b, off + 2 + 1, none⟩ = some (.int .i64 vn) ∧ w'.cell? ⟨b, off + 2 + 2, none⟩ = some (.string vt) ∧ w'.cell? ⟨b, off + 5, none⟩ = some (.string op)) (by kernel_rfl) ⟨f0, f1, f2, f3, f4, f5⟩ (fun hHeld => ?_)
  refine take_d (i := 0) (d := 11) (v := ?_) rfl rfl (by kernel_rfl) (by kernel_rfl) (by kernel_rfl) (fun _ _ _ h => h) (Or.inl ⟨by rfl, ?_⟩) (by assumption) ?_
  rotate_left
  · intro w hSw; (try dsimp only at hSw); go_simp; (try with_reducible rfl)
  try simp only [Act.put, List.setIfInBounds_toArray, List.set_cons_zero, List.set_cons_succ]
  refine take_d (i := 1) (d := 12) (v := ?_) rfl rfl (by kernel_rfl) (by kernel_rfl) (by kernel_rfl) (fun _ _ _ h => h) (Or.inl ⟨by rfl, ?_⟩) (by assumption) ?_
  rotate_left
  · intro w hSw; (try dsimp only at hSw); go_simp; (try with_reducible rfl)
  try simp only [Act.put, List.setIfInBounds_toArray, List.set_cons_zero, List.set_cons_succ]
  refine take_d (i := 2) (d := 13) (v := ?_) rfl rfl (by kernel_rfl) (by kernel_rfl) (by kernel_rfl) (fun _ _ _ h => h) (Or.inl ⟨by rfl, ?_⟩) (by assumption) ?_
  rotate_left
  · intro w hSw; (try dsimp only at hSw); go_simp; (try with_reducible rfl)
  try simp only [Act.put, List.setIfInBounds_toArray, List.set_cons_zero, List.set_cons_succ]
  refine take_d (i := 3) (d := 14) (v := ?_) rfl rfl (by kernel_rfl) (by kernel_rfl) (by kernel_rfl) (fun _ _ _ h => h) (Or.inl ⟨by rfl, ?_⟩) (by assumption) ?_
  rotate_left
  · intro w hSw; (try dsimp only at hSw); go_simp; (try with_reducible rfl)
  try simp only [Act.put, List.setIfInBounds_toArray, List.set_cons_zero, List.set_cons_succ]
  refine take_d (i := 4) (d := 15) (v := ?_) rfl rfl (by kernel_rfl) (by kernel_rfl) (by kernel_rfl) (fun _ _ _ h => h) (Or.inl ⟨by rfl, ?_⟩) (by assumption) ?_
  rotate_left
  · intro w hSw; (try dsimp only at hSw); go_simp; (try with_reducible rfl)
  try simp only [Act.put, List.setIfInBounds_toArray, List.set_cons_zero, List.set_cons_succ]
  refine take_d (i := 5) (d := 16) (v := ?_) rfl rfl (by kernel_rfl) (by kernel_rfl) (by kernel_rfl) (fun _ _ _ h => h) (Or.inl ⟨by rfl, ?_⟩) (by assumption) ?_
  rotate_left
  · intro w hSw; (try dsimp only at hSw); go_simp; (try with_reducible rfl)
  try simp only [Act.put, List.setIfInBounds_toArray, List.set_cons_zero, List.set_cons_succ]
  refine take_d (i := 6) (d := 17) (v := ?_) rfl rfl (by kernel_rfl) (by kernel_rfl) (by kernel_rfl) (fun _ _ _ h => h) (Or.inl ⟨by rfl, ?_⟩) (by assumption) ?_
  rotate_left
  · intro w hSw; (try dsimp only at hSw); go_simp; (try with_reducible rfl)
  try simp only [Act.put, List.setIfInBounds_toArray, List.set_cons_zero, List.set_cons_succ]
  refine take_d (i := 7) (d := 18) (v := ?_) rfl rfl (by kernel_rfl) (by kernel_rfl) (by kernel_rfl) (fun _ _ _ h => h) (Or.inl ⟨by rfl, ?_⟩) (by assumption) ?_
  rotate_left
  · intro w hSw; (try dsimp only at hSw); go_simp; (try with_reducible rfl)
  try simp only [Act.put, List.setIfInBounds_toArray, List.set_cons_zero, List.set_cons_succ]
  refine take_d (i := 8) (d := 19) (v := ?_) rfl rfl (by kernel_rfl) (by kernel_rfl) (by kernel_rfl) (fun _ _ _ h => h) (Or.inl ⟨by rfl, ?_⟩) (by assumption) ?_
  rotate_left
  · intro w hSw; (try dsimp only at hSw); go_simp; (try with_reducible rfl)
  try simp only [Act.put, List.setIfInBounds_toArray, List.set_cons_zero, List.set_cons_succ]
  refine take_d (i := 9) (d := 20) (v := ?_) rfl rfl (by kernel_rfl) (by kernel_rfl) (by kernel_rfl) (fun _ _ _ h => h) (Or.inl ⟨by rfl, ?_⟩) (by assumption) ?_
  rotate_left
  · intro w hSw; (try dsimp only at hSw); go_simp; (try with_reducible rfl)
  try simp only [Act.put, List.setIfInBounds_toArray, List.set_cons_zero, List.set_cons_succ]
  refine take_d (i := 10) (d := 21) (v := ?_) rfl rfl (by kernel_rfl) (by kernel_rfl) (by kernel_rfl) (fun _ _ _ h => h) (Or.inl ⟨by rfl, ?_⟩) (by assumption) ?_
  rotate_left
  · intro w hSw; (try dsimp only at hSw); go_simp; (try with_reducible rfl)
  try simp only [Act.put, List.setIfInBounds_toArray, List.set_cons_zero, List.set_cons_succ]
  refine take_d (i := 11) (d := 22) (v := ?_) rfl rfl (by kernel_rfl) (by kernel_rfl) (by kernel_rfl) (fun _ _ _ h => h) (Or.inl ⟨by rfl, ?_⟩) (by assumption) ?_
  rotate_left
  · intro w hSw; (try dsimp only at hSw); go_simp; (try with_reducible rfl)
  try simp only [Act.put, List.setIfInBounds_toArray, List.set_cons_zero, List.set_cons_succ]
  refine take_d (i := 12) (d := 23) (v := ?_) rfl rfl (by kernel_rfl) (by kernel_rfl) (by kernel_rfl) (fun _ _ _ h => h) (Or.inl ⟨by rfl, ?_⟩) (by assumption) ?_
  rotate_left
  · intro w hSw; (try dsimp only at hSw); go_simp; (try with_reducible rfl)
  try simp only [Act.put, List.setIfInBounds_toArray, List.set_cons_zero, List.set_cons_succ]
  refine take_d (i := 13) (d := 24) (v := ?_) rfl rfl (by kernel_rfl) (by kernel_rfl) (by kernel_rfl) (fun _ _ _ h => h) (Or.inl ⟨by rfl, ?_⟩) (by assumption) ?_
  rotate_left
  · intro w hSw; (try dsimp only at hSw); go_simp; (try with_reducible rfl)
  try simp only [Act.put, List.setIfInBounds_toArray, List.set_cons_zero, List.set_cons_succ]
  refine take_d (i := 14) (d := 25) (v := ?_) rfl rfl (by kernel_rfl) (by kernel_rfl) (by kernel_rfl) (fun _ _ _ h => h) (Or.inl ⟨by rfl, ?_⟩) (by assumption) ?_
  rotate_left
  · intro w hSw; (try dsimp only at hSw); go_simp; (try with_reducible rfl)
  try simp only [Act.put, List.setIfInBounds_toArray, List.set_cons_zero, List.set_cons_succ]
  refine take_d (i := 15) (d := 26) (v := ?_) rfl rfl (by kernel_rfl) (by kernel_rfl) (by kernel_rfl) (fun _ _ _ h => h) (Or.inl ⟨by rfl, ?_⟩) (by assumption) ?_
  rotate_left
  · intro w hSw; (try dsimp only at hSw); go_simp; (try with_reducible rfl)
  try simp only [Act.put, List.setIfInBounds_toArray, List.set_cons_zero, List.set_cons_succ]
  refine take_d (i := 16) (d := 27) (v := ?_) rfl rfl (by kernel_rfl) (by kernel_rfl) (by kernel_rfl) (fun _ _ _ h => h) (Or.inl ⟨by rfl, ?_⟩) (by assumption) ?_
  rotate_left
  · intro w hSw; (try dsimp only at hSw); go_simp; (try with_reducible rfl)
  try simp only [Act.put, List.setIfInBounds_toArray, List.set_cons_zero, List.set_cons_succ]
  have tn := (((Touch.refl [] w).alloc (.cells #[.int .i64 0, .string ⟨#[]⟩, .int .i64 0, .int .i64 0, .string ⟨#[]⟩, .string ⟨#[]⟩, .slice none 0 0] 33)).alloc (.cells #[.int .i64 0, .string ⟨#[]⟩, .int .i64 0, .int .i64 0, .string ⟨#[]⟩, .string ⟨#[]⟩, .slice none 0 0] 33)).drew
  have g0 := tn.cell c0 (by simp)
  have g1 := tn.cell c1 (by simp)
  have g2 := tn.cell c2 (by simp)
  have g3 := tn.cell c3 (by simp)
  have g4 := tn.cell c4 (by simp)
  have g5 := tn.cell c5 (by simp)
  have g6 := tn.cell c6 (by simp)
  refine wpAnyH_ready (rs := [17]) (by kernel_rfl) (by simp) ?_
  refine AllReadyH.cons rfl (fun K hK => ?_) AllReadyH.nil
  go_simp
  (try go_wp2_with fail)
  refine hK.out _ _ ⟨g0, g1, g2, g3, g4, g5⟩ (fun _hH => ?_)
  clear hK K
  try simp only [Act.put, List.setIfInBounds_toArray, List.set_cons_zero, List.set_cons_succ]
  have te := (((Touch.refl [] w).alloc (.cells #[.int .i64 0, .string ⟨#[]⟩, .int .i64 0, .int .i64 0, .string ⟨#[]⟩, .string ⟨#[]⟩, .slice none 0 0] 33)).alloc (.cells #[.int .i64 k, .string nm, .int .i64 vk, .int .i64 vn, .string vt, .string op, .slice none 0 0] 33)).drew
  have e0 := te.cell c0 (by simp)
  have e1 := te.cell c1 (by simp)
  have e2 := te.cell c2 (by simp)
  have e3 := te.cell c3 (by simp)
  have e4 := te.cell c4 (by simp)
  have e5 := te.cell c5 (by simp)
  have e6 := te.cell c6 (by simp)
  refine wpAnyH_ready (rs := [18]) (by kernel_rfl) (by simp) ?_
  refine AllReadyH.cons rfl (fun K hK => ?_) AllReadyH.nil
  go_simp
  (try go_wp2_with fail)
  refine hK.out _ _ ⟨e0, e1, e2, e3, e4, e5⟩ (fun _hH => ?_)
  clear hK K
  try simp only [Act.put, List.setIfInBounds_toArray, List.set_cons_zero, List.set_cons_succ]
  refine wpAnyH_done (by kernel_rfl) ?_ _
  have hX0 : ((w.alloc (.cells #[.int .i64 0, .string ⟨#[]⟩, .int .i64 0, .int .i64 0, .string ⟨#[]⟩, .string ⟨#[]⟩, .slice none 0 0] 33)).alloc (.cells #[.int .i64 k, .string nm, .int .i64 vk, .int .i64 vn, .string vt, .string op, .slice none 0 0] 33)).drew.heap[w.heap.size + 1]? = some (.cells #[.int .i64 k, .string nm, .int .i64 vk, .int .i64 vn, .string vt, .string op, .slice none 0 0] 33 (0, 0)) := by have := heap_alloc_new (w.alloc (.cells #[.int .i64 0, .string ⟨#[]⟩, .int .i64 0, .int .i64 0, .string ⟨#[]⟩, .string ⟨#[]⟩, .slice none 0 0] 33)) (.cells #[.int .i64 k, .string nm, .int .i64 vk, .int .i64 vn, .string vt, .string op, .slice none 0 0] 33); rw [World.size_alloc] at this; exact this
  have hR1 := ((Touch.refl [] (w.alloc (.cells #[.int .i64 0, .string ⟨#[]⟩, .int .i64 0, .int .i64 0, .string ⟨#[]⟩, .string ⟨#[]⟩, .slice none 0 0] 33))).alloc (.cells #[.int .i64 k, .string nm, .int .i64 vk, .int .i64 vn, .string vt, .string op, .slice none 0 0] 33)).drew.blk (heap_alloc_new w (.cells #[.int .i64 0, .string ⟨#[]⟩, .int .i64 0, .int .i64 0, .string ⟨#[]⟩, .string ⟨#[]⟩, .slice none 0 0] 33)) (by simp)
  clear f0 f1 f2 f3 f4 f5 f6 g0 g1 g2 g3 g4 g5 g6 e0 e1 e2 e3 e4 e5 e6 tn t0 hR0
  go_wp2_with fail
  go_loopw [7, 8] (fun tv jv wr => ∃ (j t : Nat) (bs : List (TX (m + 1))) (B : Option Addr) (cB : Nat), jv = .int .i64 j ∧ tv = .int .i64 t ∧ Hid (Come (buildX m) cnt.toNat l j t bs) ∧ j < t ∧ t ≤ len ∧ wr.heap[w.heap.size + 1]? = some (.cells #[.int .i64 k, .string nm, .int .i64 vk, .int .i64 vn, .string vt, .string op, .slice B j cB] 33 (0, 0)) ∧ wr.heap[w.heap.size]? = some (.cells #[.int .i64 0, .string ⟨#[]⟩, .int .i64 0, .int .i64 0, .string ⟨#[]⟩, .string ⟨#[]⟩, .slice none 0 0] 33 (0, 0)) ∧ OwnX 33 xcE (w.heap.size + 2) (m + 1) wr B cB bs ∧ Touch [] w wr) (fun tv _ _ => len - (intOf tv).toNat)
  case atStart => exact ⟨0, 1, [], none, 0, rfl, rfl, Lib.hid (Come.start _ _ Hne.out), by omega, by omega, hX0, hR1, OwnX.nil _ _ _ _ _, te⟩
  case round =>
    obtain ⟨j, t, bs, B, cB, rfl, rfl, Hco, hjt, htl, hX, hR, hown, ht⟩ := hrel
    clear hX0 hR1 te
    have f6 := ht.cell c6 (by simp)
    have Hbl := Lib.hid Hco.out.1
    have hBlt := fun b hb => (hown.lt b hb).2
    have hBlo := fun b hb => (hown.lt b hb).1
    have hXB : w.heap.size + 1 ∉ fpo B := fun hm => by have := hBlo _ hm; omega
    have hRB : w.heap.size ∉ fpo B := fun hm => by have := hBlo _ hm; omega
    have hlX := (Array.getElem?_eq_some_iff.1 hX).1
    by_cases hjc : (j : Int) < cnt
    · by_cases htl2 : t < len
      · have htI : (t : Int) < (len : Int) := by omega
        have hdl : (l.drop t).length = len - t := by rw [List.length_drop, Hl.out]
        have hdn : l.drop t ≠ [] := fun q => by rw [q] at hdl; simp at hdl; omega
        have hnle := buildX_le m (l.drop t) hdn
        have hnpos := buildX_pos m (l.drop t)
        have Hstep := Lib.hid (Hco.out.step (by omega) (by rw [Hl.out]; exact htl2) hnle)
        have Hc2 := Lib.hid (ih (l.drop t) (some (ad.add (t * 7))) (len - t) (cap - t) (d + 1) wr hdl (by have := Hc.out; omega) (by omega) (by omega) (by have := Hd.out; omega) (PlsAt.drop (h.touch0 ht) t))
        rw [hdl] at hnle
        obtain ⟨⟨a, n⟩, han⟩ : ∃ r, r = buildX m (l.drop t) := ⟨_, rfl⟩
        rw [← han] at hnle hnpos Hstep Hc2
        simp only at hnle hnpos Hstep Hc2
        clear hdl hdn han
        go_wp2_with fail
        refine Hc2.out.mono ?_
        rintro e w1 ⟨x1, rfl, hx1, -, u1⟩
        obtain ⟨⟨k2, nm2, ⟨vk2, vn2, vt2⟩, op2⟩, A2, m2, c2'⟩ := x1
        dsimp only [XC.val]
        have tb := (Touch.refl [] w1).alloc (.cells #[.int .i64 k2, .string nm2, .int .i64 vk2, .int .i64 vn2, .string vt2, .string op2, .slice A2 m2 c2'] 33)
        have hX1 := (u1.trans0 tb).blk hX (by simp)
        have hR2 := (u1.trans0 tb).blk hR (by simp)
        have z0 := cell_blk hX1 (i := 6) rfl
        have hown1 := (hown.touch0 u1).touch0 tb
        have s1 := u1.size
        go_wp2_with (at_builtin; refine stop ?_)
        refine go ?_
        refine wpList_appX xcE_length xcE_one rfl (.tmp 56) (.tmp 58) 31 rfl 33 _ 96 info_expr2 Try.underlying31 rfl (by omega) (w.heap.size + 2) (m + 1) B j cB bs Hbl.out rfl hown1 ⟨⟨k2, nm2, ⟨vk2, vn2, vt2⟩, op2⟩, A2, m2, c2'⟩ a ((hx1.touch0 tb).mono fun b hb => ⟨⟨by have := hb.1; omega, by have := hb.2; simp; omega⟩, fun hm => by have := hBlt b hm; have := hb.1; omega⟩) (by simp; omega) 1 (by rw [World.size_alloc]; rfl) (by omega) rfl ?_
        intro B5 cB5 w5 hown5 ht5 hf5
        have hX5 := ht5.blk hX1 hXB
        have hR5 := ht5.blk hR2 hRB
        have z5 := cell_blk hX5 (i := 6) rfl
        have f5 : w5.frozen? ⟨w.heap.size + 1, 6, none⟩ = false := by simp [World.frozen?, hX5]
        have T5 := ((ht.trans0 u1).trans0 tb).trans ht5 (fun b hb => .inr (by have := hBlo b hb; omega))
        have t7 := (Touch.refl [w.heap.size + 1] w5).setCell (p := ⟨w.heap.size + 1, 6, none⟩) (.inl (by simp)) (.slice B5 (j + 1) cB5)
        go_wp2
        go_roundw
        case rel => exact ⟨j + 1, t + n, bs ++ [a], B5, cB5, by go_num, by go_num, Hstep, by omega, by omega, set_blk hX5 6 _, t7.blk hR5 (by simp), hown5.touch t7 (fun b hb => by simp at hb; omega), T5.setCell (p := ⟨w.heap.size + 1, 6, none⟩) (.inr (by simp only; omega)) _⟩
        case measure => simp [intOf]; omega
      · have htI : ¬ (t : Int) < (len : Int) := by omega
        obtain ⟨a0, a1, a2, a3, a4, a5, a6, _⟩ := blk7 hX
        obtain ⟨r0, r1, r2, r3, r4, r5, r6, g0, g1, g2, g3, g4, g5, g6⟩ := blk7 hR
        go_wp2_with fail
        obtain ⟨q1, q2⟩ := out7 hR (.int .i64 k) (.string nm) (.int .i64 vk) (.int .i64 vn) (.string vt) (.string op) (.slice B j cB)
        obtain ⟨d0, d1, d2, d3, d4, d5, d6, _⟩ := blk7 q1
        refine bodyPost_ret (v := .tuple #[.agg #[.int .i64 k, .string nm, .int .i64 vk, .int .i64 vn, .string vt, .string op, .slice B j cB], .int .i64 (t : Int)]) (by simp [results, Try.results12, go_sem, d0, d1, d2, d3, d4, d5, d6]) rfl ⟨⟨⟨k, nm, ⟨vk, vn, vt⟩, op⟩, B, j, cB⟩, ?_, ?_, ?_, ht.trans q2 (fun b hb => .inr (by simp at hb; omega))⟩
        · have hs := Hco.out.stop (Or.inr (by rw [Hl.out]; omega))
          rw [Hst.out, hs]; simp only; rw [show 1 + (t - 1) = t by omega]; rfl
        · have hs := Hco.out.stop (Or.inr (by rw [Hl.out]; omega))
          rw [Hst.out, hs]
          have q3 := q2.size
          exact ((hown.tree ⟨k, nm, ⟨vk, vn, vt⟩, op⟩ j Hbl.out.symm).touch q2 (fun b hb hm => by simp at hb; have := hm.1; omega)).mono fun b hb => ⟨by have := hb.1; omega, by have := hb.2; omega⟩
        · have hs := Hco.out.stop (Or.inr (by rw [Hl.out]; omega))
          rw [Hst.out, hs]
          exact (hown.touch q2 (fun b hb => by simp at hb; omega)).base (by omega)
    · obtain ⟨a0, a1, a2, a3, a4, a5, a6, _⟩ := blk7 hX
      obtain ⟨r0, r1, r2, r3, r4, r5, r6, g0, g1, g2, g3, g4, g5, g6⟩ := blk7 hR
      go_wp2_with fail
      obtain ⟨q1, q2⟩ := out7 hR (.int .i64 k) (.string nm) (.int .i64 vk) (.int .i64 vn) (.string vt) (.string op) (.slice B j cB)
      obtain ⟨d0, d1, d2, d3, d4, d5, d6, _⟩ := blk7 q1
      refine bodyPost_ret (v := .tuple #[.agg #[.int .i64 k, .string nm, .int .i64 vk, .int .i64 vn, .string vt, .string op, .slice B j cB], .int .i64 (t : Int)]) (by simp [results, Try.results12, go_sem, d0, d1, d2, d3, d4, d5, d6]) rfl ⟨⟨⟨k, nm, ⟨vk, vn, vt⟩, op⟩, B, j, cB⟩, ?_, ?_, ?_, ht.trans q2 (fun b hb => .inr (by simp at hb; omega))⟩
      · have hs := Hco.out.stop (Or.inl (by omega))
        rw [Hst.out, hs]; simp only; rw [show 1 + (t - 1) = t by omega]; rfl
      · have hs := Hco.out.stop (Or.inl (by omega))
        rw [Hst.out, hs]
        have q3 := q2.size
        exact ((hown.tree ⟨k, nm, ⟨vk, vn, vt⟩, op⟩ j Hbl.out.symm).touch q2 (fun b hb hm => by simp at hb; have := hm.1; omega)).mono fun b hb => ⟨by have := hb.1; omega, by have := hb.2; omega⟩
      · have hs := Hco.out.stop (Or.inl (by omega))
        rw [Hst.out, hs]
        exact (hown.touch q2 (fun b hb => by simp at hb; omega)).base (by omega)
theorem build_own : ∀ m, BuildOwn m
  | 0 => build_zero
  | m + 1 => build_succ m (build_own m)
theorem build_any (m : Nat) : BuildSaid m := fun l A len cap d w h1 h2 h3 h4 h5 h6 => (build_own m l A len cap d w h1 h2 h3 h4 h5 h6).mono fun _ _ ⟨x, e1, e2, _, e4⟩ => ⟨x, e1, e2, e4⟩
end Go.Proofs.Ytlkckkagoommaaa
