/- Part 9 of the texts of this proof, one behind the other; each begins with its own sentence. No condition beyond those that its theorems state. -/
import Derived.Test.YtlkckkagoommaaaEt8
import Derived.Deep.DrawnRows
/- bywashlaw04.build: the expression at the beginning of a list. For every list. -/
namespace Go.Proofs.Ytlkckkagoommaaa
open Go.RowKit
attribute [local go_sem ↓] Go.wp_at_zero Go.wp_at_succ

theorem flat_drop (t : Nat) (l : List PL) : (l.drop t).flatMap plE = (l.flatMap plE).drop (t * 7) := by
  induction t generalizing l with
  | zero => simp
  | succ t ih =>
    cases l with
    | nil => simp
    | cons p l => rw [List.drop_succ_cons, ih, List.flatMap_cons, show (t + 1) * 7 = 7 + t * 7 by omega, ← List.drop_drop]; rfl
theorem PlsAt.drop {w : World} {ad : Addr} {l : List PL} (h : PlsAt w (some ad) l) (t : Nat) : PlsAt w (some (ad.add (t * 7))) (l.drop t) := by
  have := Rd.cut (n := (l.flatMap plE).length) h (A' := some (ad.add (t * 7))) (k := t * 7) (fun a h _ => by cases h; rfl)
  rw [List.take_of_length_le (by rw [List.length_drop]; omega)] at this
  unfold PlsAt RdK
  rw [flat_drop]; exact this
/-- what build promises -/
def BuildSaid (m : Nat) : Prop := ∀ (l : List PL) (A : Option Addr) (len cap d : Nat) (w : World), l.length = len → len ≤ cap → 0 < len → len ≤ 100000000 → d + m = 60 → PlsAt w A l →
    Calls Try.prog 12 #[.slice A len cap, .int .i64 d] w fun r w' => ∃ x, r = .returned (.tuple #[x.val, .int .i64 ((buildX m l).2 : Nat)]) ∧ ExP xcE (Fr w.heap.size w') (m + 1) w' x (buildX m l).1 ∧ Touch [] w w'

theorem info_expr2 : (Try.prog.info? 33).map (fun i => (i.zero, i.size, i.bytes)) = some (some (.agg #[.int .i64 0, .string ⟨#[]⟩, .int .i64 0, .int .i64 0, .string ⟨#[]⟩, .string ⟨#[]⟩, .slice none 0 0]), 7, 96) := by kernel_rfl
set_option maxRecDepth 100000 in
set_option maxHeartbeats 6400000 in
theorem build_zero : BuildSaid 0 := by
  intro l A len cap d w hl hc h0 hb hd h
  have hne : l ≠ [] := fun q => by rw [q] at hl; simp at hl; omega
  obtain ⟨p, hp⟩ : ∃ p, p = l.headD zeroP := ⟨_, rfl⟩
  have hp0 : l[0]'(by omega) = p := by rw [hp]; cases l with | nil => exact absurd rfl hne | cons a l => rfl
  have Hst := Lib.hid (show buildX 0 l = ((((l.headD zeroP).nd, []) : TX 1), 1) from rfl)
  rw [← hp] at Hst
  obtain ⟨ad, b, off, rfl, hadd, hbb, hcell⟩ := RdK.at_ h 7 plE_length (by omega) 0 (by omega)
  clear hbb
  rw [hp0] at hcell
  obtain ⟨⟨k, nm, ⟨vk, vn, vt⟩, op⟩, cnt⟩ := p
  simp only at Hst
  have c0 := hcell 0 _ rfl; have c1 := hcell 1 _ rfl; have c2 := hcell 2 _ rfl; have c3 := hcell 3 _ rfl; have c4 := hcell 4 _ rfl; have c5 := hcell 5 _ rfl; have c6 := hcell 6 _ rfl
  rw [Nat.add_zero] at c0
  simp only at c0 c1 c2 c3 c4 c5 c6
  clear hcell hp0 hp
  have hlI : (0 : Int) < (len : Int) := by omega
  have hdI : ¬ (d : Int) < 60 := by omega
  have Hl := Lib.hid hl; have Hne := Lib.hid hne; have Hd := Lib.hid hd; have Hc := Lib.hid hc
  clear hl hne hd
  have t0 := ((Touch.refl [] w).alloc (.cells #[.int .i64 0, .string ⟨#[]⟩, .int .i64 0, .int .i64 0, .string ⟨#[]⟩, .string ⟨#[]⟩, .slice none 0 0] 33)).drew
  have hR0 := ((Touch.refl [] (w.alloc (.cells #[.int .i64 0, .string ⟨#[]⟩, .int .i64 0, .int .i64 0, .string ⟨#[]⟩, .string ⟨#[]⟩, .slice none 0 0] 33))).drew).blk (heap_alloc_new w (.cells #[.int .i64 0, .string ⟨#[]⟩, .int .i64 0, .int .i64 0, .string ⟨#[]⟩, .string ⟨#[]⟩, .slice none 0 0] 33)) (by simp)
  have f0 := t0.cell c0 (by simp)
  have f1 := t0.cell c1 (by simp)
  have f2 := t0.cell c2 (by simp)
  have f3 := t0.cell c3 (by simp)
  have f4 := t0.cell c4 (by simp)
  have f5 := t0.cell c5 (by simp)
  have f6 := t0.cell c6 (by simp)
  go_enter Try.func12, Try.ntmps12
  go_wp2_with fail
  refine wp_region_held_drew (S := fun w' => w'.cell? ⟨b, off, none⟩ = some (.int .i64 k) ∧ w'.cell? ⟨b, off + 1, none⟩ = some (.string nm) ∧ w'.cell? ⟨b, off + 2, none⟩ = some (.int .i64 vk) ∧ w'.cell? ⟨b, off + 2 + 1, none⟩ = some (.int .i64 vn) ∧ w'.cell? ⟨b, off + 2 + 2, none⟩ = some (.string vt) ∧ w'.cell? ⟨b, off + 5, none⟩ = some (.string op)) (by kernel_rfl) ⟨f0, f1, f2, f3, f4, f5⟩ (fun hHeld => ?_)
  refine take_d (i := 0) (d := 11) (v := ?_) rfl rfl (by kernel_rfl) (by kernel_rfl) (by kernel_rfl) (fun _ _ _ h => h) (Or.inl ⟨by rfl, ?_⟩) (by assumption) ?_
  rotate_left
  · intro w hSw; (try dsimp only at hSw); go_simp; (try with_reducible rfl)
  try simp only [Act.put, List.setIfInBounds_toArray, List.set_cons_zero, List.set_cons_succ]
  refine take_d (i := 1) (d := 12) (v := ?_) rfl rfl (by kernel_rfl) (by kernel_rfl) (by kernel_rfl) (fun _ _ _ h => h) (Or.inl ⟨by rfl, ?_⟩) (by assumption) ?_
  rotate_left
  · intro w hSw; (try dsimp only at hSw); go_simp; (try with_reducible rfl)
  try simp only [Act.put, List.setIfInBounds_toArray, List.set_cons_zero, List.set_cons_succ]
  refine take_d (i := 2) (d := 13) (v := ?_) rfl rfl (by kernel_rfl) (by kernel_rfl) (by kernel_rfl) (fun _ _ _ h => h) (Or.inl ⟨by rfl, ?_⟩) (by assumption) ?_
  rotate_left
  · intro w hSw; (try dsimp only at hSw); go_simp; (try with_reducible rfl)
  try simp only [Act.put, List.setIfInBounds_toArray, List.set_cons_zero, List.set_cons_succ]
  refine take_d (i := 3) (d := 14) (v := ?_) rfl rfl (by kernel_rfl) (by kernel_rfl) (by kernel_rfl) (fun _ _ _ h => h) (Or.inl ⟨by rfl, ?_⟩) (by assumption) ?_
  rotate_left
  · intro w hSw; (try dsimp only at hSw); go_simp; (try with_reducible rfl)
  try simp only [Act.put, List.setIfInBounds_toArray, List.set_cons_zero, List.set_cons_succ]
  refine take_d (i := 4) (d := 15) (v := ?_) rfl rfl (by kernel_rfl) (by kernel_rfl) (by kernel_rfl) (fun _ _ _ h => h) (Or.inl ⟨by rfl, ?_⟩) (by assumption) ?_
  rotate_left
  · intro w hSw; (try dsimp only at hSw); go_simp; (try with_reducible rfl)
  try simp only [Act.put, List.setIfInBounds_toArray, List.set_cons_zero, List.set_cons_succ]
  refine take_d (i := 5) (d := 16) (v := ?_) rfl rfl (by kernel_rfl) (by kernel_rfl) (by kernel_rfl) (fun _ _ _ h => h) (Or.inl ⟨by rfl, ?_⟩) (by assumption) ?_
  rotate_left
  · intro w hSw; (try dsimp only at hSw); go_simp; (try with_reducible rfl)
  try simp only [Act.put, List.setIfInBounds_toArray, List.set_cons_zero, List.set_cons_succ]
  refine take_d (i := 6) (d := 17) (v := ?_) rfl rfl (by kernel_rfl) (by kernel_rfl) (by kernel_rfl) (fun _ _ _ h => h) (Or.inl ⟨by rfl, ?_⟩) (by assumption) ?_
  rotate_left
  · intro w hSw; (try dsimp only at hSw); go_simp; (try with_reducible rfl)
  try simp only [Act.put, List.setIfInBounds_toArray, List.set_cons_zero, List.set_cons_succ]
  refine take_d (i := 7) (d := 18) (v := ?_) rfl rfl (by kernel_rfl) (by kernel_rfl) (by kernel_rfl) (fun _ _ _ h => h) (Or.inl ⟨by rfl, ?_⟩) (by assumption) ?_
  rotate_left
  · intro w hSw; (try dsimp only at hSw); go_simp; (try with_reducible rfl)
  try simp only [Act.put, List.setIfInBounds_toArray, List.set_cons_zero, List.set_cons_succ]
  refine take_d (i := 8) (d := 19) (v := ?_) rfl rfl (by kernel_rfl) (by kernel_rfl) (by kernel_rfl) (fun _ _ _ h => h) (Or.inl ⟨by rfl, ?_⟩) (by assumption) ?_
  rotate_left
  · intro w hSw; (try dsimp only at hSw); go_simp; (try with_reducible rfl)
  try simp only [Act.put, List.setIfInBounds_toArray, List.set_cons_zero, List.set_cons_succ]
  refine take_d (i := 9) (d := 20) (v := ?_) rfl rfl (by kernel_rfl) (by kernel_rfl) (by kernel_rfl) (fun _ _ _ h => h) (Or.inl ⟨by rfl, ?_⟩) (by assumption) ?_
  rotate_left
  · intro w hSw; (try dsimp only at hSw); go_simp; (try with_reducible rfl)
  try simp only [Act.put, List.setIfInBounds_toArray, List.set_cons_zero, List.set_cons_succ]
  refine take_d (i := 10) (d := 21) (v := ?_) rfl rfl (by kernel_rfl) (by kernel_rfl) (by kernel_rfl) (fun _ _ _ h => h) (Or.inl ⟨by rfl, ?_⟩) (by assumption) ?_
  rotate_left
  · intro w hSw; (try dsimp only at hSw); go_simp; (try with_reducible rfl)
  try simp only [Act.put, List.setIfInBounds_toArray, List.set_cons_zero, List.set_cons_succ]
  refine take_d (i := 11) (d := 22) (v := ?_) rfl rfl (by kernel_rfl) (by kernel_rfl) (by kernel_rfl) (fun _ _ _ h => h) (Or.inl ⟨by rfl, ?_⟩) (by assumption) ?_
  rotate_left
  · intro w hSw; (try dsimp only at hSw); go_simp; (try with_reducible rfl)
  try simp only [Act.put, List.setIfInBounds_toArray, List.set_cons_zero, List.set_cons_succ]
  refine take_d (i := 12) (d := 23) (v := ?_) rfl rfl (by kernel_rfl) (by kernel_rfl) (by kernel_rfl) (fun _ _ _ h => h) (Or.inl ⟨by rfl, ?_⟩) (by assumption) ?_
  rotate_left
  · intro w hSw; (try dsimp only at hSw); go_simp; (try with_reducible rfl)
  try simp only [Act.put, List.setIfInBounds_toArray, List.set_cons_zero, List.set_cons_succ]
  refine take_d (i := 13) (d := 24) (v := ?_) rfl rfl (by kernel_rfl) (by kernel_rfl) (by kernel_rfl) (fun _ _ _ h => h) (Or.inl ⟨by rfl, ?_⟩) (by assumption) ?_
  rotate_left
  · intro w hSw; (try dsimp only at hSw); go_simp; (try with_reducible rfl)
  try simp only [Act.put, List.setIfInBounds_toArray, List.set_cons_zero, List.set_cons_succ]
  refine take_d (i := 14) (d := 25) (v := ?_) rfl rfl (by kernel_rfl) (by kernel_rfl) (by kernel_rfl) (fun _ _ _ h => h) (Or.inl ⟨by rfl, ?_⟩) (by assumption) ?_
  rotate_left
  · intro w hSw; (try dsimp only at hSw); go_simp; (try with_reducible rfl)
  try simp only [Act.put, List.setIfInBounds_toArray, List.set_cons_zero, List.set_cons_succ]
  refine take_d (i := 15) (d := 26) (v := ?_) rfl rfl (by kernel_rfl) (by kernel_rfl) (by kernel_rfl) (fun _ _ _ h => h) (Or.inl ⟨by rfl, ?_⟩) (by assumption) ?_
  rotate_left
  · intro w hSw; (try dsimp only at hSw); go_simp; (try with_reducible rfl)
  try simp only [Act.put, List.setIfInBounds_toArray, List.set_cons_zero, List.set_cons_succ]
  refine take_d (i := 16) (d := 27) (v := ?_) rfl rfl (by kernel_rfl) (by kernel_rfl) (by kernel_rfl) (fun _ _ _ h => h) (Or.inl ⟨by rfl, ?_⟩) (by assumption) ?_
  rotate_left
  · intro w hSw; (try dsimp only at hSw); go_simp; (try with_reducible rfl)
  try simp only [Act.put, List.setIfInBounds_toArray, List.set_cons_zero, List.set_cons_succ]
  have tn := (((Touch.refl [] w).alloc (.cells #[.int .i64 0, .string ⟨#[]⟩, .int .i64 0, .int .i64 0, .string ⟨#[]⟩, .string ⟨#[]⟩, .slice none 0 0] 33)).alloc (.cells #[.int .i64 0, .string ⟨#[]⟩, .int .i64 0, .int .i64 0, .string ⟨#[]⟩, .string ⟨#[]⟩, .slice none 0 0] 33)).drew
  have g0 := tn.cell c0 (by simp)
  have g1 := tn.cell c1 (by simp)
  have g2 := tn.cell c2 (by simp)
  have g3 := tn.cell c3 (by simp)
  have g4 := tn.cell c4 (by simp)
  have g5 := tn.cell c5 (by simp)
  have g6 := tn.cell c6 (by simp)
  refine wpAnyH_ready (rs := [17]) (by kernel_rfl) (by simp) ?_
  refine AllReadyH.cons rfl (fun K hK => ?_) AllReadyH.nil
  go_simp
  (try go_wp2_with fail)
  refine hK.out _ _ ⟨g0, g1, g2, g3, g4, g5⟩ (fun _hH => ?_)
  clear hK K
  try simp only [Act.put, List.setIfInBounds_toArray, List.set_cons_zero, List.set_cons_succ]
  have te := (((Touch.refl [] w).alloc (.cells #[.int .i64 0, .string ⟨#[]⟩, .int .i64 0, .int .i64 0, .string ⟨#[]⟩, .string ⟨#[]⟩, .slice none 0 0] 33)).alloc (.cells #[.int .i64 k, .string nm, .int .i64 vk, .int .i64 vn, .string vt, .string op, .slice none 0 0] 33)).drew
  have e0 := te.cell c0 (by simp)
  have e1 := te.cell c1 (by simp)
  have e2 := te.cell c2 (by simp)
  have e3 := te.cell c3 (by simp)
  have e4 := te.cell c4 (by simp)
  have e5 := te.cell c5 (by simp)
  have e6 := te.cell c6 (by simp)
  refine wpAnyH_ready (rs := [18]) (by kernel_rfl) (by simp) ?_
  refine AllReadyH.cons rfl (fun K hK => ?_) AllReadyH.nil
  go_simp
  (try go_wp2_with fail)
  refine hK.out _ _ ⟨e0, e1, e2, e3, e4, e5⟩ (fun _hH => ?_)
  clear hK K
  try simp only [Act.put, List.setIfInBounds_toArray, List.set_cons_zero, List.set_cons_succ]
  refine wpAnyH_done (by kernel_rfl) ?_ _
  have hX0 : ((w.alloc (.cells #[.int .i64 0, .string ⟨#[]⟩, .int .i64 0, .int .i64 0, .string ⟨#[]⟩, .string ⟨#[]⟩, .slice none 0 0] 33)).alloc (.cells #[.int .i64 k, .string nm, .int .i64 vk, .int .i64 vn, .string vt, .string op, .slice none 0 0] 33)).drew.heap[w.heap.size + 1]? = some (.cells #[.int .i64 k, .string nm, .int .i64 vk, .int .i64 vn, .string vt, .string op, .slice none 0 0] 33 (0, 0)) := by have := heap_alloc_new (w.alloc (.cells #[.int .i64 0, .string ⟨#[]⟩, .int .i64 0, .int .i64 0, .string ⟨#[]⟩, .string ⟨#[]⟩, .slice none 0 0] 33)) (.cells #[.int .i64 k, .string nm, .int .i64 vk, .int .i64 vn, .string vt, .string op, .slice none 0 0] 33); rw [World.size_alloc] at this; exact this
  have hR1 := ((Touch.refl [] (w.alloc (.cells #[.int .i64 0, .string ⟨#[]⟩, .int .i64 0, .int .i64 0, .string ⟨#[]⟩, .string ⟨#[]⟩, .slice none 0 0] 33))).alloc (.cells #[.int .i64 k, .string nm, .int .i64 vk, .int .i64 vn, .string vt, .string op, .slice none 0 0] 33)).drew.blk (heap_alloc_new w (.cells #[.int .i64 0, .string ⟨#[]⟩, .int .i64 0, .int .i64 0, .string ⟨#[]⟩, .string ⟨#[]⟩, .slice none 0 0] 33)) (by simp)
  clear f0 f1 f2 f3 f4 f5 f6 g0 g1 g2 g3 g4 g5 g6 e0 e1 e2 e3 e4 e5 e6 tn t0 hR0
  go_wp2_with fail
  go_loopw [7, 8] (fun tv jv wr => jv = .int .i64 0 ∧ tv = .int .i64 1 ∧ wr.heap[w.heap.size + 1]? = some (.cells #[.int .i64 k, .string nm, .int .i64 vk, .int .i64 vn, .string vt, .string op, .slice none 0 0] 33 (0, 0)) ∧ wr.heap[w.heap.size]? = some (.cells #[.int .i64 0, .string ⟨#[]⟩, .int .i64 0, .int .i64 0, .string ⟨#[]⟩, .string ⟨#[]⟩, .slice none 0 0] 33 (0, 0)) ∧ Touch [] w wr) (fun tv _ _ => len - (intOf tv).toNat)
  case atStart => exact ⟨rfl, rfl, hX0, hR1, te⟩
  case round =>
    obtain ⟨rfl, rfl, hX, hR, ht⟩ := hrel
    clear hX0 hR1 te
    have f6 := ht.cell c6 (by simp)
    have hown := OwnX.nil 33 xcE (w.heap.size + 2) 0 wr
    by_cases hjc : (0 : Int) < cnt
    · by_cases htI : (1 : Int) < (len : Int)
      · obtain ⟨a0, a1, a2, a3, a4, a5, a6, _⟩ := blk7 hX
        obtain ⟨r0, r1, r2, r3, r4, r5, r6, g0, g1, g2, g3, g4, g5, g6⟩ := blk7 hR
        go_wp2_with fail
        obtain ⟨q1, q2⟩ := out7 hR (.int .i64 k) (.string nm) (.int .i64 vk) (.int .i64 vn) (.string vt) (.string op) (.slice none 0 0)
        obtain ⟨d0, d1, d2, d3, d4, d5, d6, _⟩ := blk7 q1
        refine bodyPost_ret (v := .tuple #[.agg #[.int .i64 k, .string nm, .int .i64 vk, .int .i64 vn, .string vt, .string op, .slice none 0 0], .int .i64 1]) (by simp [results, Try.results12, go_sem, d0, d1, d2, d3, d4, d5, d6]) rfl ⟨⟨⟨k, nm, ⟨vk, vn, vt⟩, op⟩, none, 0, 0⟩, ?_, ?_, ht.trans q2 (fun b hb => .inr (by simp at hb; omega))⟩
        · rw [Hst.out]; rfl
        · rw [Hst.out]
          have q3 := q2.size
          exact ((hown.tree ⟨k, nm, ⟨vk, vn, vt⟩, op⟩ 0 rfl).touch q2 (fun b hb hm => by simp at hb; have := hm.1; omega)).mono fun b hb => ⟨by have := hb.1; omega, by have := hb.2; omega⟩
      · obtain ⟨a0, a1, a2, a3, a4, a5, a6, _⟩ := blk7 hX
        obtain ⟨r0, r1, r2, r3, r4, r5, r6, g0, g1, g2, g3, g4, g5, g6⟩ := blk7 hR
        go_wp2_with fail
        obtain ⟨q1, q2⟩ := out7 hR (.int .i64 k) (.string nm) (.int .i64 vk) (.int .i64 vn) (.string vt) (.string op) (.slice none 0 0)
        obtain ⟨d0, d1, d2, d3, d4, d5, d6, _⟩ := blk7 q1
        refine bodyPost_ret (v := .tuple #[.agg #[.int .i64 k, .string nm, .int .i64 vk, .int .i64 vn, .string vt, .string op, .slice none 0 0], .int .i64 1]) (by simp [results, Try.results12, go_sem, d0, d1, d2, d3, d4, d5, d6]) rfl ⟨⟨⟨k, nm, ⟨vk, vn, vt⟩, op⟩, none, 0, 0⟩, ?_, ?_, ht.trans q2 (fun b hb => .inr (by simp at hb; omega))⟩
        · rw [Hst.out]; rfl
        · rw [Hst.out]
          have q3 := q2.size
          exact ((hown.tree ⟨k, nm, ⟨vk, vn, vt⟩, op⟩ 0 rfl).touch q2 (fun b hb hm => by simp at hb; have := hm.1; omega)).mono fun b hb => ⟨by have := hb.1; omega, by have := hb.2; omega⟩
    · obtain ⟨a0, a1, a2, a3, a4, a5, a6, _⟩ := blk7 hX
      obtain ⟨r0, r1, r2, r3, r4, r5, r6, g0, g1, g2, g3, g4, g5, g6⟩ := blk7 hR
      go_wp2_with fail
      obtain ⟨q1, q2⟩ := out7 hR (.int .i64 k) (.string nm) (.int .i64 vk) (.int .i64 vn) (.string vt) (.string op) (.slice none 0 0)
      obtain ⟨d0, d1, d2, d3, d4, d5, d6, _⟩ := blk7 q1
      refine bodyPost_ret (v := .tuple #[.agg #[.int .i64 k, .string nm, .int .i64 vk, .int .i64 vn, .string vt, .string op, .slice none 0 0], .int .i64 1]) (by simp [results, Try.results12, go_sem, d0, d1, d2, d3, d4, d5, d6]) rfl ⟨⟨⟨k, nm, ⟨vk, vn, vt⟩, op⟩, none, 0, 0⟩, ?_, ?_, ht.trans q2 (fun b hb => .inr (by simp at hb; omega))⟩
      · rw [Hst.out]; rfl
      · rw [Hst.out]
        have q3 := q2.size
        exact ((hown.tree ⟨k, nm, ⟨vk, vn, vt⟩, op⟩ 0 rfl).touch q2 (fun b hb hm => by simp at hb; have := hm.1; omega)).mono fun b hb => ⟨by have := hb.1; omega, by have := hb.2; omega⟩
set_option maxRecDepth 100000 in
set_option maxHeartbeats 6400000 in
theorem build_succ (m : Nat) (ih : BuildSaid m) : BuildSaid (m + 1) := by
  intro l A len cap d w hl hc h0 hb hd h
  have hne : l ≠ [] := fun q => by rw [q] at hl; simp at hl; omega
  obtain ⟨p, hp⟩ : ∃ p, p = l.headD zeroP := ⟨_, rfl⟩
  have hp0 : l[0]'(by omega) = p := by rw [hp]; cases l with | nil => exact absurd rfl hne | cons a l => rfl
  have Hst := Lib.hid (buildX_succ m l)
  rw [← hp] at Hst
  obtain ⟨ad, b, off, rfl, hadd, hbb, hcell⟩ := RdK.at_ h 7 plE_length (by omega) 0 (by omega)
  clear hbb
  rw [hp0] at hcell
  obtain ⟨⟨k, nm, ⟨vk, vn, vt⟩, op⟩, cnt⟩ := p
  simp only at Hst
  have c0 := hcell 0 _ rfl; have c1 := hcell 1 _ rfl; have c2 := hcell 2 _ rfl; have c3 := hcell 3 _ rfl; have c4 := hcell 4 _ rfl; have c5 := hcell 5 _ rfl; have c6 := hcell 6 _ rfl
  rw [Nat.add_zero] at c0
  simp only at c0 c1 c2 c3 c4 c5 c6
  clear hcell hp0 hp
  have hlI : (0 : Int) < (len : Int) := by omega
  have hdI : (d : Int) < 60 := by omega
  have Hl := Lib.hid hl; have Hne := Lib.hid hne; have Hd := Lib.hid hd; have Hc := Lib.hid hc
  clear hl hne hd
  have t0 := ((Touch.refl [] w).alloc (.cells #[.int .i64 0, .string ⟨#[]⟩, .int .i64 0, .int .i64 0, .string ⟨#[]⟩, .string ⟨#[]⟩, .slice none 0 0] 33)).drew
  have hR0 := ((Touch.refl [] (w.alloc (.cells #[.int .i64 0, .string ⟨#[]⟩, .int .i64 0, .int .i64 0, .string ⟨#[]⟩, .string ⟨#[]⟩, .slice none 0 0] 33))).drew).blk (heap_alloc_new w (.cells #[.int .i64 0, .string ⟨#[]⟩, .int .i64 0, .int .i64 0, .string ⟨#[]⟩, .string ⟨#[]⟩, .slice none 0 0] 33)) (by simp)
  have f0 := t0.cell c0 (by simp)
  have f1 := t0.cell c1 (by simp)
  have f2 := t0.cell c2 (by simp)
  have f3 := t0.cell c3 (by simp)
  have f4 := t0.cell c4 (by simp)
  have f5 := t0.cell c5 (by simp)
  have f6 := t0.cell c6 (by simp)
  go_enter Try.func12, Try.ntmps12
  go_wp2_with fail
  refine wp_region_held_drew (S := fun w' => w'.cell? ⟨b, off, none⟩ = some (.int .i64 k) ∧ w'.cell? ⟨b, off + 1, none⟩ = some (.string nm) ∧ w'.cell? ⟨b, off + 2, none⟩ = some (.int .i64 vk) ∧ w'.cell? ⟨b, off + 2 + 1, none⟩ = some (.int .i64 vn) ∧ w'.cell? ⟨b, off + 2 + 2, none⟩ = some (.string vt) ∧ w'.cell? ⟨b, off + 5, none⟩ = some (.string op)) (by kernel_rfl) ⟨f0, f1, f2, f3, f4, f5⟩ (fun hHeld => ?_)
  refine take_d (i := 0) (d := 11) (v := ?_) rfl rfl (by kernel_rfl) (by kernel_rfl) (by kernel_rfl) (fun _ _ _ h => h) (Or.inl ⟨by rfl, ?_⟩) (by assumption) ?_
  rotate_left
  · intro w hSw; (try dsimp only at hSw); go_simp; (try with_reducible rfl)
  try simp only [Act.put, List.setIfInBounds_toArray, List.set_cons_zero, List.set_cons_succ]
  refine take_d (i := 1) (d := 12) (v := ?_) rfl rfl (by kernel_rfl) (by kernel_rfl) (by kernel_rfl) (fun _ _ _ h => h) (Or.inl ⟨by rfl, ?_⟩) (by assumption) ?_
  rotate_left
  · intro w hSw; (try dsimp only at hSw); go_simp; (try with_reducible rfl)
  try simp only [Act.put, List.setIfInBounds_toArray, List.set_cons_zero, List.set_cons_succ]
  refine take_d (i := 2) (d := 13) (v := ?_) rfl rfl (by kernel_rfl) (by kernel_rfl) (by kernel_rfl) (fun _ _ _ h => h) (Or.inl ⟨by rfl, ?_⟩) (by assumption) ?_
  rotate_left
  · intro w hSw; (try dsimp only at hSw); go_simp; (try with_reducible rfl)
  try simp only [Act.put, List.setIfInBounds_toArray, List.set_cons_zero, List.set_cons_succ]
  refine take_d (i := 3) (d := 14) (v := ?_) rfl rfl (by kernel_rfl) (by kernel_rfl) (by kernel_rfl) (fun _ _ _ h => h) (Or.inl ⟨by rfl, ?_⟩) (by assumption) ?_
  rotate_left
  · intro w hSw; (try dsimp only at hSw); go_simp; (try with_reducible rfl)
  try simp only [Act.put, List.setIfInBounds_toArray, List.set_cons_zero, List.set_cons_succ]
  refine take_d (i := 4) (d := 15) (v := ?_) rfl rfl (by kernel_rfl) (by kernel_rfl) (by kernel_rfl) (fun _ _ _ h => h) (Or.inl ⟨by rfl, ?_⟩) (by assumption) ?_
  rotate_left
  · intro w hSw; (try dsimp only at hSw); go_simp; (try with_reducible rfl)
  try simp only [Act.put, List.setIfInBounds_toArray, List.set_cons_zero, List.set_cons_succ]
  refine take_d (i := 5) (d := 16) (v := ?_) rfl rfl (by kernel_rfl) (by kernel_rfl) (by kernel_rfl) (fun _ _ _ h => h) (Or.inl ⟨by rfl, ?_⟩) (by assumption) ?_
  rotate_left
  · intro w hSw; (try dsimp only at hSw); go_simp; (try with_reducible rfl)
  try simp only [Act.put, List.setIfInBounds_toArray, List.set_cons_zero, List.set_cons_succ]
  refine take_d (i := 6) (d := 17) (v := ?_) rfl rfl (by kernel_rfl) (by kernel_rfl) (by kernel_rfl) (fun _ _ _ h => h) (Or.inl ⟨by rfl, ?_⟩) (by assumption) ?_
  rotate_left
  · intro w hSw; (try dsimp only at hSw); go_simp; (try with_reducible rfl)
  try simp only [Act.put, List.setIfInBounds_toArray, List.set_cons_zero, List.set_cons_succ]
  refine take_d (i := 7) (d := 18) (v := ?_) rfl rfl (by kernel_rfl) (by kernel_rfl) (by kernel_rfl) (fun _ _ _ h => h) (Or.inl ⟨by rfl, ?_⟩) (by assumption) ?_
  rotate_left
  · intro w hSw; (try dsimp only at hSw); go_simp; (try with_reducible rfl)
  try simp only [Act.put, List.setIfInBounds_toArray, List.set_cons_zero, List.set_cons_succ]
  refine take_d (i := 8) (d := 19) (v := ?_) rfl rfl (by kernel_rfl) (by kernel_rfl) (by kernel_rfl) (fun _ _ _ h => h) (Or.inl ⟨by rfl, ?_⟩) (by assumption) ?_
  rotate_left
  · intro w hSw; (try dsimp only at hSw); go_simp; (try with_reducible rfl)
  try simp only [Act.put, List.setIfInBounds_toArray, List.set_cons_zero, List.set_cons_succ]
  refine take_d (i := 9) (d := 20) (v := ?_) rfl rfl (by kernel_rfl) (by kernel_rfl) (by kernel_rfl) (fun _ _ _ h => h) (Or.inl ⟨by rfl, ?_⟩) (by assumption) ?_
  rotate_left
  · intro w hSw; (try dsimp only at hSw); go_simp; (try with_reducible rfl)
  try simp only [Act.put, List.setIfInBounds_toArray, List.set_cons_zero, List.set_cons_succ]
  refine take_d (i := 10) (d := 21) (v := ?_) rfl rfl (by kernel_rfl) (by kernel_rfl) (by kernel_rfl) (fun _ _ _ h => h) (Or.inl ⟨by rfl, ?_⟩) (by assumption) ?_
  rotate_left
  · intro w hSw; (try dsimp only at hSw); go_simp; (try with_reducible rfl)
  try simp only [Act.put, List.setIfInBounds_toArray, List.set_cons_zero, List.set_cons_succ]
  refine take_d (i := 11) (d := 22) (v := ?_) rfl rfl (by kernel_rfl) (by kernel_rfl) (by kernel_rfl) (fun _ _ _ h => h) (Or.inl ⟨by rfl, ?_⟩) (by assumption) ?_
  rotate_left
  · intro w hSw; (try dsimp only at hSw); go_simp; (try with_reducible rfl)
  try simp only [Act.put, List.setIfInBounds_toArray, List.set_cons_zero, List.set_cons_succ]
  refine take_d (i := 12) (d := 23) (v := ?_) rfl rfl (by kernel_rfl) (by kernel_rfl) (by kernel_rfl) (fun _ _ _ h => h) (Or.inl ⟨by rfl, ?_⟩) (by assumption) ?_
  rotate_left
  · intro w hSw; (try dsimp only at hSw); go_simp; (try with_reducible rfl)
  try simp only [Act.put, List.setIfInBounds_toArray, List.set_cons_zero, List.set_cons_succ]
  refine take_d (i := 13) (d := 24) (v := ?_) rfl rfl (by kernel_rfl) (by kernel_rfl) (by kernel_rfl) (fun _ _ _ h => h) (Or.inl ⟨by rfl, ?_⟩) (by assumption) ?_
  rotate_left
  · intro w hSw; (try dsimp only at hSw); go_simp; (try with_reducible rfl)
  try simp only [Act.put, List.setIfInBounds_toArray, List.set_cons_zero, List.set_cons_succ]
  refine take_d (i := 14) (d := 25) (v := ?_) rfl rfl (by kernel_rfl) (by kernel_rfl) (by kernel_rfl) (fun _ _ _ h => h) (Or.inl ⟨by rfl, ?_⟩) (by assumption) ?_
  rotate_left
  · intro w hSw; (try dsimp only at hSw); go_simp; (try with_reducible rfl)
  try simp only [Act.put, List.setIfInBounds_toArray, List.set_cons_zero, List.set_cons_succ]
  refine take_d (i := 15) (d := 26) (v := ?_) rfl rfl (by kernel_rfl) (by kernel_rfl) (by kernel_rfl) (fun _ _ _ h => h) (Or.inl ⟨by rfl, ?_⟩) (by assumption) ?_
  rotate_left
  · intro w hSw; (try dsimp only at hSw); go_simp; (try with_reducible rfl)
  try simp only [Act.put, List.setIfInBounds_toArray, List.set_cons_zero, List.set_cons_succ]
  refine take_d (i := 16) (d := 27) (v := ?_) rfl rfl (by kernel_rfl) (by kernel_rfl) (by kernel_rfl) (fun _ _ _ h => h) (Or.inl ⟨by rfl, ?_⟩) (by assumption) ?_
  rotate_left
  · intro w hSw; (try dsimp only at hSw); go_simp; (try with_reducible rfl)
  try simp only [Act.put, List.setIfInBounds_toArray, List.set_cons_zero, List.set_cons_succ]
  have tn := (((Touch.refl [] w).alloc (.cells #[.int .i64 0, .string ⟨#[]⟩, .int .i64 0, .int .i64 0, .string ⟨#[]⟩, .string ⟨#[]⟩, .slice none 0 0] 33)).alloc (.cells #[.int .i64 0, .string ⟨#[]⟩, .int .i64 0, .int .i64 0, .string ⟨#[]⟩, .string ⟨#[]⟩, .slice none 0 0] 33)).drew
  have g0 := tn.cell c0 (by simp)
  have g1 := tn.cell c1 (by simp)
  have g2 := tn.cell c2 (by simp)
  have g3 := tn.cell c3 (by simp)
  have g4 := tn.cell c4 (by simp)
  have g5 := tn.cell c5 (by simp)
  have g6 := tn.cell c6 (by simp)
  refine wpAnyH_ready (rs := [17]) (by kernel_rfl) (by simp) ?_
  refine AllReadyH.cons rfl (fun K hK => ?_) AllReadyH.nil
  go_simp
  (try go_wp2_with fail)
  refine hK.out _ _ ⟨g0, g1, g2, g3, g4, g5⟩ (fun _hH => ?_)
  clear hK K
  try simp only [Act.put, List.setIfInBounds_toArray, List.set_cons_zero, List.set_cons_succ]
  have te := (((Touch.refl [] w).alloc (.cells #[.int .i64 0, .string ⟨#[]⟩, .int .i64 0, .int .i64 0, .string ⟨#[]⟩, .string ⟨#[]⟩, .slice none 0 0] 33)).alloc (.cells #[.int .i64 k, .string nm, .int .i64 vk, .int .i64 vn, .string vt, .string op, .slice none 0 0] 33)).drew
  have e0 := te.cell c0 (by simp)
  have e1 := te.cell c1 (by simp)
  have e2 := te.cell c2 (by simp)
  have e3 := te.cell c3 (by simp)
  have e4 := te.cell c4 (by simp)
  have e5 := te.cell c5 (by simp)
  have e6 := te.cell c6 (by simp)
  refine wpAnyH_ready (rs := [18]) (by kernel_rfl) (by simp) ?_
  refine AllReadyH.cons rfl (fun K hK => ?_) AllReadyH.nil
  go_simp
  (try go_wp2_with fail)
  refine hK.out _ _ ⟨e0, e1, e2, e3, e4, e5⟩ (fun _hH => ?_)
  clear hK K
  try simp only [Act.put, List.setIfInBounds_toArray, List.set_cons_zero, List.set_cons_succ]
  refine wpAnyH_done (by kernel_rfl) ?_ _
  have hX0 : ((w.alloc (.cells #[.int .i64 0, .string ⟨#[]⟩, .int .i64 0, .int .i64 0, .string ⟨#[]⟩, .string ⟨#[]⟩, .slice none 0 0] 33)).alloc (.cells #[.int .i64 k, .string nm, .int .i64 vk, .int .i64 vn, .string vt, .string op, .slice none 0 0] 33)).drew.heap[w.heap.size + 1]? = some (.cells #[.int .i64 k, .string nm, .int .i64 vk, .int .i64 vn, .string vt, .string op, .slice none 0 0] 33 (0, 0)) := by have := heap_alloc_new (w.alloc (.cells #[.int .i64 0, .string ⟨#[]⟩, .int .i64 0, .int .i64 0, .string ⟨#[]⟩, .string ⟨#[]⟩, .slice none 0 0] 33)) (.cells #[.int .i64 k, .string nm, .int .i64 vk, .int .i64 vn, .string vt, .string op, .slice none 0 0] 33); rw [World.size_alloc] at this; exact this
  have hR1 := ((Touch.refl [] (w.alloc (.cells #[.int .i64 0, .string ⟨#[]⟩, .int .i64 0, .int .i64 0, .string ⟨#[]⟩, .string ⟨#[]⟩, .slice none 0 0] 33))).alloc (.cells #[.int .i64 k, .string nm, .int .i64 vk, .int .i64 vn, .string vt, .string op, .slice none 0 0] 33)).drew.blk (heap_alloc_new w (.cells #[.int .i64 0, .string ⟨#[]⟩, .int .i64 0, .int .i64 0, .string ⟨#[]⟩, .string ⟨#[]⟩, .slice none 0 0] 33)) (by simp)
  clear f0 f1 f2 f3 f4 f5 f6 g0 g1 g2 g3 g4 g5 g6 e0 e1 e2 e3 e4 e5 e6 tn t0 hR0
  go_wp2_with fail
  go_loopw [7, 8] (fun tv jv wr => ∃ (j t : Nat) (bs : List (TX (m + 1))) (B : Option Addr) (cB : Nat), jv = .int .i64 j ∧ tv = .int .i64 t ∧ Hid (Come (buildX m) cnt.toNat l j t bs) ∧ j < t ∧ t ≤ len ∧ wr.heap[w.heap.size + 1]? = some (.cells #[.int .i64 k, .string nm, .int .i64 vk, .int .i64 vn, .string vt, .string op, .slice B j cB] 33 (0, 0)) ∧ wr.heap[w.heap.size]? = some (.cells #[.int .i64 0, .string ⟨#[]⟩, .int .i64 0, .int .i64 0, .string ⟨#[]⟩, .string ⟨#[]⟩, .slice none 0 0] 33 (0, 0)) ∧ OwnX 33 xcE (w.heap.size + 2) (m + 1) wr B cB bs ∧ Touch [] w wr) (fun tv _ _ => len - (intOf tv).toNat)
  case atStart => exact ⟨0, 1, [], none, 0, rfl, rfl, Lib.hid (Come.start _ _ Hne.out), by omega, by omega, hX0, hR1, OwnX.nil _ _ _ _ _, te⟩
  case round =>
    obtain ⟨j, t, bs, B, cB, rfl, rfl, Hco, hjt, htl, hX, hR, hown, ht⟩ := hrel
    clear hX0 hR1 te
    have f6 := ht.cell c6 (by simp)
    have Hbl := Lib.hid Hco.out.1
    have hBlt := fun b hb => (hown.lt b hb).2
    have hBlo := fun b hb => (hown.lt b hb).1
    have hXB : w.heap.size + 1 ∉ fpo B := fun hm => by have := hBlo _ hm; omega
    have hRB : w.heap.size ∉ fpo B := fun hm => by have := hBlo _ hm; omega
    have hlX := (Array.getElem?_eq_some_iff.1 hX).1
    by_cases hjc : (j : Int) < cnt
    · by_cases htl2 : t < len
      · have htI : (t : Int) < (len : Int) := by omega
        have hdl : (l.drop t).length = len - t := by rw [List.length_drop, Hl.out]
        have hdn : l.drop t ≠ [] := fun q => by rw [q] at hdl; simp at hdl; omega
        have hnle := buildX_le m (l.drop t) hdn
        have hnpos := buildX_pos m (l.drop t)
        have Hstep := Lib.hid (Hco.out.step (by omega) (by rw [Hl.out]; exact htl2) hnle)
        have Hc2 := Lib.hid (ih (l.drop t) (some (ad.add (t * 7))) (len - t) (cap - t) (d + 1) wr hdl (by have := Hc.out; omega) (by omega) (by omega) (by have := Hd.out; omega) (PlsAt.drop (h.touch0 ht) t))
        rw [hdl] at hnle
        obtain ⟨⟨a, n⟩, han⟩ : ∃ r, r = buildX m (l.drop t) := ⟨_, rfl⟩
        rw [← han] at hnle hnpos Hstep Hc2
        simp only at hnle hnpos Hstep Hc2
        clear hdl hdn han
        go_wp2_with fail
        refine Hc2.out.mono ?_
        rintro e w1 ⟨x1, rfl, hx1, u1⟩
        obtain ⟨⟨k2, nm2, ⟨vk2, vn2, vt2⟩, op2⟩, A2, m2, c2'⟩ := x1
        dsimp only [XC.val]
        have tb := (Touch.refl [] w1).alloc (.cells #[.int .i64 k2, .string nm2, .int .i64 vk2, .int .i64 vn2, .string vt2, .string op2, .slice A2 m2 c2'] 33)
        have hX1 := (u1.trans0 tb).blk hX (by simp)
        have hR2 := (u1.trans0 tb).blk hR (by simp)
        have z0 := cell_blk hX1 (i := 6) rfl
        have hown1 := (hown.touch0 u1).touch0 tb
        have s1 := u1.size
        go_wp2_with (at_builtin; refine stop ?_)
        refine go ?_
        refine wpList_appX xcE_length xcE_one rfl (.tmp 56) (.tmp 58) 31 rfl 33 _ 96 info_expr2 Try.underlying31 rfl (by omega) (w.heap.size + 2) (m + 1) B j cB bs Hbl.out rfl hown1 ⟨⟨k2, nm2, ⟨vk2, vn2, vt2⟩, op2⟩, A2, m2, c2'⟩ a ((hx1.touch0 tb).mono fun b hb => ⟨⟨by have := hb.1; omega, by have := hb.2; simp; omega⟩, fun hm => by have := hBlt b hm; have := hb.1; omega⟩) (by simp; omega) 1 (by rw [World.size_alloc]; rfl) (by omega) rfl ?_
        intro B5 cB5 w5 hown5 ht5 hf5
        have hX5 := ht5.blk hX1 hXB
        have hR5 := ht5.blk hR2 hRB
        have z5 := cell_blk hX5 (i := 6) rfl
        have f5 : w5.frozen? ⟨w.heap.size + 1, 6, none⟩ = false := by simp [World.frozen?, hX5]
        have T5 := ((ht.trans0 u1).trans0 tb).trans ht5 (fun b hb => .inr (by have := hBlo b hb; omega))
        have t7 := (Touch.refl [w.heap.size + 1] w5).setCell (p := ⟨w.heap.size + 1, 6, none⟩) (.inl (by simp)) (.slice B5 (j + 1) cB5)
        go_wp2
        go_roundw
        case rel => exact ⟨j + 1, t + n, bs ++ [a], B5, cB5, by go_num, by go_num, Hstep, by omega, by omega, set_blk hX5 6 _, t7.blk hR5 (by simp), hown5.touch t7 (fun b hb => by simp at hb; omega), T5.setCell (p := ⟨w.heap.size + 1, 6, none⟩) (.inr (by simp only; omega)) _⟩
        case measure => simp [intOf]; omega
      · have htI : ¬ (t : Int) < (len : Int) := by omega
        obtain ⟨a0, a1, a2, a3, a4, a5, a6, _⟩ := blk7 hX
        obtain ⟨r0, r1, r2, r3, r4, r5, r6, g0, g1, g2, g3, g4, g5, g6⟩ := blk7 hR
        go_wp2_with fail
        obtain ⟨q1, q2⟩ := out7 hR (.int .i64 k) (.string nm) (.int .i64 vk) (.int .i64 vn) (.string vt) (.string op) (.slice B j cB)
        obtain ⟨d0, d1, d2, d3, d4, d5, d6, _⟩ := blk7 q1
        refine bodyPost_ret (v := .tuple #[.agg #[.int .i64 k, .string nm, .int .i64 vk, .int .i64 vn, .string vt, .string op, .slice B j cB], .int .i64 (t : Int)]) (by simp [results, Try.results12, go_sem, d0, d1, d2, d3, d4, d5, d6]) rfl ⟨⟨⟨k, nm, ⟨vk, vn, vt⟩, op⟩, B, j, cB⟩, ?_, ?_, ht.trans q2 (fun b hb => .inr (by simp at hb; omega))⟩
        · have hs := Hco.out.stop (Or.inr (by rw [Hl.out]; omega))
          rw [Hst.out, hs]; simp only; rw [show 1 + (t - 1) = t by omega]; rfl
        · have hs := Hco.out.stop (Or.inr (by rw [Hl.out]; omega))
          rw [Hst.out, hs]
          have q3 := q2.size
          exact ((hown.tree ⟨k, nm, ⟨vk, vn, vt⟩, op⟩ j Hbl.out.symm).touch q2 (fun b hb hm => by simp at hb; have := hm.1; omega)).mono fun b hb => ⟨by have := hb.1; omega, by have := hb.2; omega⟩
    · obtain ⟨a0, a1, a2, a3, a4, a5, a6, _⟩ := blk7 hX
      obtain ⟨r0, r1, r2, r3, r4, r5, r6, g0, g1, g2, g3, g4, g5, g6⟩ := blk7 hR
      go_wp2_with fail
      obtain ⟨q1, q2⟩ := out7 hR (.int .i64 k) (.string nm) (.int .i64 vk) (.int .i64 vn) (.string vt) (.string op) (.slice B j cB)
      obtain ⟨d0, d1, d2, d3, d4, d5, d6, _⟩ := blk7 q1
      refine bodyPost_ret (v := .tuple #[.agg #[.int .i64 k, .string nm, .int .i64 vk, .int .i64 vn, .string vt, .string op, .slice B j cB], .int .i64 (t : Int)]) (by simp [results, Try.results12, go_sem, d0, d1, d2, d3, d4, d5, d6]) rfl ⟨⟨⟨k, nm, ⟨vk, vn, vt⟩, op⟩, B, j, cB⟩, ?_, ?_, ht.trans q2 (fun b hb => .inr (by simp at hb; omega))⟩
      · have hs := Hco.out.stop (Or.inl (by omega))
        rw [Hst.out, hs]; simp only; rw [show 1 + (t - 1) = t by omega]; rfl
      · have hs := Hco.out.stop (Or.inl (by omega))
        rw [Hst.out, hs]
        have q3 := q2.size
        exact ((hown.tree ⟨k, nm, ⟨vk, vn, vt⟩, op⟩ j Hbl.out.symm).touch q2 (fun b hb hm => by simp at hb; have := hm.1; omega)).mono fun b hb => ⟨by have := hb.1; omega, by have := hb.2; omega⟩
theorem build_any : ∀ m, BuildSaid m
  | 0 => build_zero
  | m + 1 => build_succ m (build_any m)
end Go.Proofs.Ytlkckkagoommaaa

/- bywashlaw04: small, smallSchema. For every list and schema. -/
namespace Go.Proofs.Ytlkckkagoommaaa
open Go.RowKit

def smallP (p : PL) : Bool := decide (p.nd.name.size ≤ 50) && (decide (p.nd.op.size ≤ 50) && decide (p.nd.v.text.size ≤ 100))
def smallL (l : List PL) : Bool := l.all smallP && (decide (0 < l.length) && decide (l.length ≤ 300))
def smallC4 (c : CD) : Bool := decide (c.name.size ≤ 50)
def smallS4 (cs : List CD) : Bool := cs.all smallC4 && decide (cs.length ≤ 20)
theorem smallL_true {l : List PL} (h : smallL l = true) : (∀ p ∈ l, p.nd.name.size ≤ 50 ∧ p.nd.op.size ≤ 50 ∧ p.nd.v.text.size ≤ 100) ∧ 0 < l.length ∧ l.length ≤ 300 := by
  unfold smallL at h
  rw [Bool.and_eq_true, Bool.and_eq_true, List.all_eq_true] at h
  exact ⟨fun p hp => by simpa [smallP] using h.1 p hp, of_decide_eq_true h.2.1, of_decide_eq_true h.2.2⟩
theorem smallS4_true {cs : List CD} (h : smallS4 cs = true) : (∀ c ∈ cs, c.name.size ≤ 50) ∧ cs.length ≤ 20 := by
  unfold smallS4 at h
  rw [Bool.and_eq_true, List.all_eq_true] at h
  exact ⟨fun c hc => by simpa [smallC4] using h.1 c hc, of_decide_eq_true h.2⟩
theorem PlsAt.at_ {w : World} {A : Option Addr} {l : List PL} (h : PlsAt w A l) (i : Nat) (hi : i < l.length) :
    ∃ ad b off, A = some ad ∧ ad.add (i * 7) = ⟨b, off, none⟩ ∧ ∀ j u, (plE l[i])[j]? = some u → w.cell? ⟨b, off + j, none⟩ = some u := by
  obtain ⟨ad, b, off, h1, h2, _, h3⟩ := RdK.at_ h 7 plE_length (by omega) i hi
  exact ⟨ad, b, off, h1, h2, h3⟩
theorem PlsAt.touch0 {w w' : World} {A : Option Addr} {l : List PL} (h : PlsAt w A l) (ht : Touch [] w w') : PlsAt w' A l := RdK.touch0 h ht

set_option maxRecDepth 20000 in
set_option maxHeartbeats 1600000 in
theorem small4_any (A : Option Addr) (cap n : Nat) (l : List PL) (hn : l.length = n) (w : World) (h : PlsAt w A l) (hl : n ≤ 9223372036854775807) :
    Calls Try.prog 9 #[.slice A n cap] w fun e w' => e = .returned (.bool (smallL l)) ∧ Touch [] w w' := by
  subst hn
  go_enter Try.func9, Try.ntmps9
  go_wp2
  go_loopw [7] (fun i wr => ∃ k : Nat, k ≤ l.length ∧ i = .int .i64 k ∧ Hid ((l.take k).all smallP = true) ∧ Touch [] w wr) (fun i _ => l.length - (intOf i).toNat)
  case atStart => exact ⟨0, by omega, rfl, Lib.hid rfl, Touch.refl _ _⟩
  case round =>
    obtain ⟨k, hk, rfl, Hall, ht⟩ := hrel
    by_cases hlt : k < l.length
    · obtain ⟨ad, b, off, rfl, hadd, hcell⟩ := (h.touch0 ht).at_ k hlt
      have hno := all_no (p := smallP) hlt
      have hyes := all_snoc (p := smallP) hlt Hall.out
      obtain ⟨p, hpe⟩ : ∃ p, p = l[k] := ⟨_, rfl⟩
      rw [← hpe] at hcell hno hyes
      obtain ⟨⟨kd, nm, ⟨vk, vn, vt⟩, op⟩, cnt⟩ := p
      have c0 := hcell 0 _ rfl; have c1 := hcell 1 _ rfl; have c2 := hcell 2 _ rfl; have c3 := hcell 3 _ rfl; have c4 := hcell 4 _ rfl; have c5 := hcell 5 _ rfl; have c6 := hcell 6 _ rfl
      rw [Nat.add_zero] at c0
      simp only at c0 c1 c2 c3 c4 c5 c6
      have Hno := Lib.hid hno; have Hyes := Lib.hid hyes
      clear hpe hno hyes Hall hcell
      by_cases h1 : 50 < nm.size
      · have Hs := Lib.hid (Hno.out (by simp [smallP]; omega))
        have q1 : (50 : Int) < (nm.size : Int) := by omega
        clear h1
        go_wp2
        go_ret
        exact ⟨ret_bool (by unfold smallL; rw [Hs.out]; rfl), ht.alloc _⟩
      by_cases h2 : 50 < op.size
      · have Hs := Lib.hid (Hno.out (by simp [smallP]; omega))
        have q1 : ¬ (50 : Int) < (nm.size : Int) := by omega
        have q2 : (50 : Int) < (op.size : Int) := by omega
        clear h1 h2
        go_wp2
        go_ret
        exact ⟨ret_bool (by unfold smallL; rw [Hs.out]; rfl), ht.alloc _⟩
      by_cases h3 : 100 < vt.size
      · have Hs := Lib.hid (Hno.out (by simp [smallP]; omega))
        have q1 : ¬ (50 : Int) < (nm.size : Int) := by omega
        have q2 : ¬ (50 : Int) < (op.size : Int) := by omega
        have q3 : (100 : Int) < (vt.size : Int) := by omega
        clear h1 h2 h3
        go_wp2
        go_ret
        exact ⟨ret_bool (by unfold smallL; rw [Hs.out]; rfl), ht.alloc _⟩
      · have Hs := Lib.hid (Hyes.out (by simp [smallP]; omega))
        have q1 : ¬ (50 : Int) < (nm.size : Int) := by omega
        have q2 : ¬ (50 : Int) < (op.size : Int) := by omega
        have q3 : ¬ (100 : Int) < (vt.size : Int) := by omega
        clear h1 h2 h3
        go_wp2
        go_roundw
        case rel => exact ⟨k + 1, by omega, by go_num, Hs, ht.alloc _⟩
        case measure => simp [intOf]; omega
    · obtain rfl : k = l.length := by omega
      have hall := Hall.out
      rw [List.take_length] at hall
      have Hs := Lib.hid (show smallL l = (decide (0 < l.length) && decide (l.length ≤ 300)) by unfold smallL; rw [hall, Bool.true_and])
      clear hall Hall
      by_cases h0 : 0 < l.length
      · by_cases h3 : l.length ≤ 300
        · have q0 : (0 : Int) < (l.length : Int) := by omega
          have q3 : (l.length : Int) ≤ 300 := by omega
          have Hs2 := Lib.hid (show smallL l = true by rw [Hs.out, decide_eq_true h0, decide_eq_true h3]; rfl)
          clear h0 h3
          go_wp2
          go_ret
          exact ⟨ret_bool Hs2.out.symm, ht⟩
        · have q0 : (0 : Int) < (l.length : Int) := by omega
          have q3 : ¬ (l.length : Int) ≤ 300 := by omega
          have Hs2 := Lib.hid (show smallL l = false by rw [Hs.out, decide_eq_true h0, decide_eq_false h3]; rfl)
          clear h0 h3
          go_wp2
          go_ret
          exact ⟨ret_bool Hs2.out.symm, ht⟩
      · have q0 : ¬ (0 : Int) < (l.length : Int) := by omega
        have Hs2 := Lib.hid (show smallL l = false by rw [Hs.out, decide_eq_false h0]; rfl)
        clear h0
        go_wp2
        go_ret
        exact ⟨ret_bool Hs2.out.symm, ht⟩

set_option maxHeartbeats 800000 in
theorem smallS4_any (A : Option Addr) (cap n : Nat) (cs : List CD) (hn : cs.length = n) (w : World) (h : ColsAt w A cs) (hl : n ≤ 9223372036854775807) :
    Calls Try.prog 10 #[.slice A n cap] w fun e w' => e = .returned (.bool (smallS4 cs)) ∧ Touch [] w w' := by
  subst hn
  go_enter Try.func10, Try.ntmps10
  go_wp2
  go_loopw [7] (fun i wr => ∃ k : Nat, k ≤ cs.length ∧ i = .int .i64 k ∧ Hid ((cs.take k).all smallC4 = true) ∧ Touch [] w wr) (fun i _ => cs.length - (intOf i).toNat)
  case atStart => exact ⟨0, by omega, rfl, Lib.hid rfl, Touch.refl _ _⟩
  case round =>
    obtain ⟨k, hk, rfl, Hall, ht⟩ := hrel
    by_cases hlt : k < cs.length
    · obtain ⟨ad, b, off, rfl, hadd, c0, c1⟩ := (h.touch0 ht).at_ k hlt
      have hno := all_no (p := smallC4) hlt
      have hyes := all_snoc (p := smallC4) hlt Hall.out
      obtain ⟨c, hce⟩ : ∃ c, c = cs[k] := ⟨_, rfl⟩
      rw [← hce] at c0 c1 hno hyes
      have Hno := Lib.hid hno; have Hyes := Lib.hid hyes
      clear hce hno hyes Hall
      by_cases h1 : 50 < c.name.size
      · have Hs := Lib.hid (Hno.out (by simp [smallC4]; omega))
        have q1 : (50 : Int) < (c.name.size : Int) := by omega
        clear h1
        go_wp2
        go_ret
        exact ⟨ret_bool (by unfold smallS4; rw [Hs.out]; rfl), ht.alloc _⟩
      · have Hs := Lib.hid (Hyes.out (by simp [smallC4]; omega))
        have q1 : ¬ (50 : Int) < (c.name.size : Int) := by omega
        clear h1
        go_wp2
        go_roundw
        case rel => exact ⟨k + 1, by omega, by go_num, Hs, ht.alloc _⟩
        case measure => simp [intOf]; omega
    · obtain rfl : k = cs.length := by omega
      have hall := Hall.out
      rw [List.take_length] at hall
      have Hs := Lib.hid (show smallS4 cs = decide ((cs.length : Int) ≤ 20) by unfold smallS4; rw [hall, Bool.true_and]; exact decide_eq_decide.2 (by omega))
      clear hall Hall
      go_wp2
      go_ret
      exact ⟨ret_bool Hs.out.symm, ht⟩
end Go.Proofs.Ytlkckkagoommaaa

/- expr.Column, Const, Unary, Binary: expressions made of expressions, in new memory. For all. -/
namespace Go.Proofs.Ytlkckkagoommaaa
open Go.RowKit
attribute [local go_sem ↓] Go.wp_at_zero Go.wp_at_succ

theorem leafX {enc : XC → List Value} {p : Nat → Prop} (n : Nat) (w : World) (d : ND) : ExP enc p (n + 1) w ⟨d, none, 0, 0⟩ (d, []) := ⟨rfl, rfl, by simp [fpo], [], rfl, RdK.nil _ _ _, fun i h => absurd h (by simp)⟩

set_option maxRecDepth 20000 in
theorem columnX_any (n : Nat) (s : ByteArray) (w : World) : Calls Try.prog 20 #[.string s] w fun r w' => ∃ x', r = .returned x'.val ∧ ExP xcE (Fr w.heap.size w') (n + 1) w' x' (⟨1, s, ⟨0, 0, ⟨#[]⟩⟩, ⟨#[]⟩⟩, []) ∧ Touch [] w w' := by
  go_enter Try.func20, Try.ntmps20
  go_wp2_with fail
  exact bodyPost_ret (results_cell_row rfl _ _ w.heap.size _ _ _ _ rfl (heap_alloc_new w _) Try.underlying33 rfl rfl) rfl ⟨⟨⟨1, s, ⟨0, 0, ⟨#[]⟩⟩, ⟨#[]⟩⟩, none, 0, 0⟩, rfl, leafX _ _ _, (Touch.refl _ _).alloc _⟩
set_option maxRecDepth 20000 in
theorem constX_any (n : Nat) (v : VD) (w : World) : Calls Try.prog 18 #[v.val] w fun r w' => ∃ x', r = .returned x'.val ∧ ExP xcE (Fr w.heap.size w') (n + 1) w' x' (⟨2, ⟨#[]⟩, v, ⟨#[]⟩⟩, []) ∧ Touch [] w w' := by
  obtain ⟨k, m, s⟩ := v
  dsimp only [VD.val]
  have t0 := (Touch.refl [] w).alloc (.cells #[.int .i64 k, .int .i64 m, .string s] 30)
  go_enter Try.func18, Try.ntmps18
  go_wp2_with fail
  have hb := heap_alloc_new (w.alloc (.cells #[.int .i64 k, .int .i64 m, .string s] 30)) (.cells #[.int .i64 2, .string ⟨#[]⟩, .int .i64 k, .int .i64 m, .string s, .string ⟨#[]⟩, .slice none 0 0] 33)
  rw [World.size_alloc] at hb
  exact bodyPost_ret (results_cell_row rfl _ _ (w.heap.size + 1) _ _ _ _ rfl hb Try.underlying33 rfl rfl) rfl ⟨⟨⟨2, ⟨#[]⟩, ⟨k, m, s⟩, ⟨#[]⟩⟩, none, 0, 0⟩, rfl, leafX _ _ _, t0.alloc _⟩

set_option maxRecDepth 20000 in
set_option maxHeartbeats 1600000 in
theorem unaryX_any (n : Nat) (op : ByteArray) (a : TX n) (x : XC) (w : World) (ha : ExP xcE anyB n w x a) (hs : sizeX n a ≤ 1000000) : Calls Try.prog 30 #[.string op, x.val] w fun r w' => ∃ x', r = .returned x'.val ∧ ExP xcE (Fr w.heap.size w') (n + 1) w' x' (⟨3, ⟨#[]⟩, ⟨0, 0, ⟨#[]⟩⟩, op⟩, [a]) ∧ Touch [] w w' := by
  have Hc := Lib.hid fun w' (t : Touch [] w w') => copied_any n a x w' (ha.touch0 t) hs
  obtain ⟨⟨k1, nm1, ⟨vk1, vn1, vt1⟩, op1⟩, A1, m1, c1⟩ := x
  simp only [XC.val] at Hc ⊢
  have t0 := ((Touch.refl [] w).alloc (.cells #[.int .i64 k1, .string nm1, .int .i64 vk1, .int .i64 vn1, .string vt1, .string op1, .slice A1 m1 c1] 33)).alloc (.cells #[.int .i64 0, .string ⟨#[]⟩, .int .i64 0, .int .i64 0, .string ⟨#[]⟩, .string ⟨#[]⟩, .slice none 0 0] 33)
  have hbr := heap_alloc_new (w.alloc (.cells #[.int .i64 k1, .string nm1, .int .i64 vk1, .int .i64 vn1, .string vt1, .string op1, .slice A1 m1 c1] 33)) (.cells #[.int .i64 0, .string ⟨#[]⟩, .int .i64 0, .int .i64 0, .string ⟨#[]⟩, .string ⟨#[]⟩, .slice none 0 0] 33)
  rw [World.size_alloc] at hbr
  have Hbr := Lib.hid hbr
  clear hbr
  go_enter Try.func30, Try.ntmps30
  go_wp2_with fail
  refine (Hc.out _ t0).mono ?_
  rintro e w1 ⟨x1, rfl, hx1, t1⟩
  obtain ⟨⟨k2, nm2, ⟨vk2, vn2, vt2⟩, op2⟩, A2, m2, c2⟩ := x1
  dsimp only
  have s1 := t1.size
  simp only [World.size_alloc] at s1
  have tb := (Touch.refl [] w1).alloc (.cells #[.int .i64 k2, .string nm2, .int .i64 vk2, .int .i64 vn2, .string vt2, .string op2, .slice A2 m2 c2] 33)
  have hb2 := tb.blk (t1.blk Hbr.out (by simp)) (by simp)
  obtain ⟨e0, e1, e2, e3, e4, e5, e6, g0, g1, g2, g3, g4, g5, g6⟩ := blk7 hb2
  go_wp2_with fail
  obtain ⟨q1, q2⟩ := out7 hb2 (.int .i64 3) (.string ⟨#[]⟩) (.int .i64 0) (.int .i64 0) (.string ⟨#[]⟩) (.string op) (.slice (some ⟨w1.heap.size, 0, none⟩) 1 1)
  refine bodyPost_ret (results_cell_row rfl _ _ (w.heap.size + 1) _ _ _ _ rfl q1 Try.underlying33 rfl rfl) rfl ⟨⟨⟨3, ⟨#[]⟩, ⟨0, 0, ⟨#[]⟩⟩, op⟩, some ⟨w1.heap.size, 0, none⟩, 1, 1⟩, rfl, ?_, ((t0.trans0 t1).trans0 tb).trans q2 (fun b hb => .inr (by simp at hb; omega))⟩
  have sq := q2.size
  simp only [World.size_alloc] at sq
  refine ⟨rfl, rfl, fun b hb => ?_, [⟨⟨k2, nm2, ⟨vk2, vn2, vt2⟩, op2⟩, A2, m2, c2⟩], rfl, RdK.touch (RdK.row w1 33 [(⟨⟨k2, nm2, ⟨vk2, vn2, vt2⟩, op2⟩, A2, m2, c2⟩ : XC)] _ rfl) q2 (by simp [fpo]; omega), fun i a1 b1 => ?_⟩
  · simp [fpo] at hb
    subst hb
    exact ⟨by omega, by omega⟩
  · obtain rfl : i = 0 := by simp at a1; omega
    exact ((hx1.touch0 tb).touch q2 (fun b hb hp => by simp at hb; have := hp.1; simp at this; omega)).mono fun b hb => ⟨by have := hb.1; simp at this; omega, by have := hb.2; omega⟩

set_option maxRecDepth 100000 in
set_option maxHeartbeats 6400000 in
theorem binaryX_any (n : Nat) (op : ByteArray) (a b : TX n) (x y : XC) (w : World) (ha : ExP xcE anyB n w x a) (hb : ExP xcE anyB n w y b) (hs : sizeX n a ≤ 1000000) (hs2 : sizeX n b ≤ 1000000) : Calls Try.prog 21 #[.string op, x.val, y.val] w fun r w' => ∃ x', r = .returned x'.val ∧ ExP xcE (Fr w.heap.size w') (n + 1) w' x' (⟨4, ⟨#[]⟩, ⟨0, 0, ⟨#[]⟩⟩, op⟩, [a, b]) ∧ Touch [] w w' := by
  have H1 := Lib.hid fun w' (t : Touch [] w w') => copied_any n a x w' (ha.touch0 t) hs
  have H2 := Lib.hid fun w' (t : Touch [] w w') => copied_any n b y w' (hb.touch0 t) hs2
  obtain ⟨⟨k1, nm1, ⟨vk1, vn1, vt1⟩, op1⟩, A1, m1, c1⟩ := x
  obtain ⟨⟨k2, nm2, ⟨vk2, vn2, vt2⟩, op2⟩, A2, m2, c2⟩ := y
  simp only [XC.val] at H1 H2 ⊢
  have t0 := (((Touch.refl [] w).alloc (.cells #[.int .i64 k1, .string nm1, .int .i64 vk1, .int .i64 vn1, .string vt1, .string op1, .slice A1 m1 c1] 33)).alloc (.cells #[.int .i64 k2, .string nm2, .int .i64 vk2, .int .i64 vn2, .string vt2, .string op2, .slice A2 m2 c2] 33)).alloc (.cells #[.int .i64 0, .string ⟨#[]⟩, .int .i64 0, .int .i64 0, .string ⟨#[]⟩, .string ⟨#[]⟩, .slice none 0 0] 33)
  have hbr := heap_alloc_new ((w.alloc (.cells #[.int .i64 k1, .string nm1, .int .i64 vk1, .int .i64 vn1, .string vt1, .string op1, .slice A1 m1 c1] 33)).alloc (.cells #[.int .i64 k2, .string nm2, .int .i64 vk2, .int .i64 vn2, .string vt2, .string op2, .slice A2 m2 c2] 33)) (.cells #[.int .i64 0, .string ⟨#[]⟩, .int .i64 0, .int .i64 0, .string ⟨#[]⟩, .string ⟨#[]⟩, .slice none 0 0] 33)
  have hb1 := (((Touch.refl [] (w.alloc (.cells #[.int .i64 k1, .string nm1, .int .i64 vk1, .int .i64 vn1, .string vt1, .string op1, .slice A1 m1 c1] 33))).alloc (.cells #[.int .i64 k2, .string nm2, .int .i64 vk2, .int .i64 vn2, .string vt2, .string op2, .slice A2 m2 c2] 33)).alloc (.cells #[.int .i64 0, .string ⟨#[]⟩, .int .i64 0, .int .i64 0, .string ⟨#[]⟩, .string ⟨#[]⟩, .slice none 0 0] 33)).blk (heap_alloc_new w (.cells #[.int .i64 k1, .string nm1, .int .i64 vk1, .int .i64 vn1, .string vt1, .string op1, .slice A1 m1 c1] 33)) (by simp)
  have hb2 := ((Touch.refl [] ((w.alloc (.cells #[.int .i64 k1, .string nm1, .int .i64 vk1, .int .i64 vn1, .string vt1, .string op1, .slice A1 m1 c1] 33)).alloc (.cells #[.int .i64 k2, .string nm2, .int .i64 vk2, .int .i64 vn2, .string vt2, .string op2, .slice A2 m2 c2] 33))).alloc (.cells #[.int .i64 0, .string ⟨#[]⟩, .int .i64 0, .int .i64 0, .string ⟨#[]⟩, .string ⟨#[]⟩, .slice none 0 0] 33)).blk (heap_alloc_new (w.alloc (.cells #[.int .i64 k1, .string nm1, .int .i64 vk1, .int .i64 vn1, .string vt1, .string op1, .slice A1 m1 c1] 33)) (.cells #[.int .i64 k2, .string nm2, .int .i64 vk2, .int .i64 vn2, .string vt2, .string op2, .slice A2 m2 c2] 33)) (by simp)
  simp only [World.size_alloc] at hbr hb1 hb2
  have t0d := t0.drew
  have hb1d := ((Touch.refl [] (((w.alloc (.cells #[.int .i64 k1, .string nm1, .int .i64 vk1, .int .i64 vn1, .string vt1, .string op1, .slice A1 m1 c1] 33)).alloc (.cells #[.int .i64 k2, .string nm2, .int .i64 vk2, .int .i64 vn2, .string vt2, .string op2, .slice A2 m2 c2] 33)).alloc (.cells #[.int .i64 0, .string ⟨#[]⟩, .int .i64 0, .int .i64 0, .string ⟨#[]⟩, .string ⟨#[]⟩, .slice none 0 0] 33))).drew).blk hb1 (by simp)
  have hb2d := ((Touch.refl [] (((w.alloc (.cells #[.int .i64 k1, .string nm1, .int .i64 vk1, .int .i64 vn1, .string vt1, .string op1, .slice A1 m1 c1] 33)).alloc (.cells #[.int .i64 k2, .string nm2, .int .i64 vk2, .int .i64 vn2, .string vt2, .string op2, .slice A2 m2 c2] 33)).alloc (.cells #[.int .i64 0, .string ⟨#[]⟩, .int .i64 0, .int .i64 0, .string ⟨#[]⟩, .string ⟨#[]⟩, .slice none 0 0] 33))).drew).blk hb2 (by simp)
  have Hbr := Lib.hid (((Touch.refl [] (((w.alloc (.cells #[.int .i64 k1, .string nm1, .int .i64 vk1, .int .i64 vn1, .string vt1, .string op1, .slice A1 m1 c1] 33)).alloc (.cells #[.int .i64 k2, .string nm2, .int .i64 vk2, .int .i64 vn2, .string vt2, .string op2, .slice A2 m2 c2] 33)).alloc (.cells #[.int .i64 0, .string ⟨#[]⟩, .int .i64 0, .int .i64 0, .string ⟨#[]⟩, .string ⟨#[]⟩, .slice none 0 0] 33))).drew).blk hbr (by simp))
  obtain ⟨u0, u1, u2, u3, u4, u5, u6, _⟩ := blk7 hb1d
  obtain ⟨v0, v1, v2, v3, v4, v5, v6, _⟩ := blk7 hb2d
  clear hbr hb1 hb2 hb1d hb2d t0 ha hb
  go_enter Try.func21, Try.ntmps21
  go_wp2_with fail
  refine wp_region_held_drew (S := fun w' => w'.cell? ⟨w.heap.size, 0, none⟩ = some (.int .i64 k1) ∧ w'.cell? ⟨w.heap.size, 1, none⟩ = some (.string nm1) ∧ w'.cell? ⟨w.heap.size, 2, none⟩ = some (.int .i64 vk1) ∧ w'.cell? ⟨w.heap.size, 3, none⟩ = some (.int .i64 vn1) ∧ w'.cell? ⟨w.heap.size, 4, none⟩ = some (.string vt1) ∧ w'.cell? ⟨w.heap.size, 5, none⟩ = some (.string op1) ∧ w'.cell? ⟨w.heap.size, 6, none⟩ = some (.slice A1 m1 c1) ∧ w'.cell? ⟨w.heap.size + 1, 0, none⟩ = some (.int .i64 k2) ∧ w'.cell? ⟨w.heap.size + 1, 1, none⟩ = some (.string nm2) ∧ w'.cell? ⟨w.heap.size + 1, 2, none⟩ = some (.int .i64 vk2) ∧ w'.cell? ⟨w.heap.size + 1, 3, none⟩ = some (.int .i64 vn2) ∧ w'.cell? ⟨w.heap.size + 1, 4, none⟩ = some (.string vt2) ∧ w'.cell? ⟨w.heap.size + 1, 5, none⟩ = some (.string op2) ∧ w'.cell? ⟨w.heap.size + 1, 6, none⟩ = some (.slice A2 m2 c2)) (by kernel_rfl) ⟨u0, u1, u2, u3, u4, u5, u6, v0, v1, v2, v3, v4, v5, v6⟩ (fun hHeld => ?_)
  refine take_d (i := 0) (d := 7) (v := ?_) rfl rfl (by kernel_rfl) (by kernel_rfl) (by kernel_rfl) (fun _ _ _ h => h) (Or.inl ⟨by rfl, ?_⟩) (by assumption) ?_
  rotate_left
  · intro w hSw; (try dsimp only at hSw); go_simp; (try with_reducible rfl)
  try simp only [Act.put, List.setIfInBounds_toArray, List.set_cons_zero, List.set_cons_succ]
  refine take_d (i := 1) (d := 8) (v := ?_) rfl rfl (by kernel_rfl) (by kernel_rfl) (by kernel_rfl) (fun _ _ _ h => h) (Or.inl ⟨by rfl, ?_⟩) (by assumption) ?_
  rotate_left
  · intro w hSw; (try dsimp only at hSw); go_simp; (try with_reducible rfl)
  try simp only [Act.put, List.setIfInBounds_toArray, List.set_cons_zero, List.set_cons_succ]
  refine take_d (i := 3) (d := 10) (v := ?_) rfl rfl (by kernel_rfl) (by kernel_rfl) (by kernel_rfl) (fun _ _ _ h => h) (Or.inl ⟨by rfl, ?_⟩) (by assumption) ?_
  rotate_left
  · intro w hSw; (try dsimp only at hSw); go_simp; (try with_reducible rfl)
  try simp only [Act.put, List.setIfInBounds_toArray, List.set_cons_zero, List.set_cons_succ]
  refine wpAnyH_ready (rs := [2]) (by kernel_rfl) (by simp) ?_
  refine AllReadyH.cons rfl (fun K hK => ?_) AllReadyH.nil
  go_simp
  go_at_call 44
  refine (H1.out _ t0d).mono ?_
  rintro e w1 ⟨x1, rfl, hx1, t1⟩
  obtain ⟨⟨k3, nm3, ⟨vk3, vn3, vt3⟩, op3⟩, A3, m3, c3⟩ := x1
  dsimp only
  have uu0 := t1.cell u0 (by simp)
  have uu1 := t1.cell u1 (by simp)
  have uu2 := t1.cell u2 (by simp)
  have uu3 := t1.cell u3 (by simp)
  have uu4 := t1.cell u4 (by simp)
  have uu5 := t1.cell u5 (by simp)
  have uu6 := t1.cell u6 (by simp)
  have vv0 := t1.cell v0 (by simp)
  have vv1 := t1.cell v1 (by simp)
  have vv2 := t1.cell v2 (by simp)
  have vv3 := t1.cell v3 (by simp)
  have vv4 := t1.cell v4 (by simp)
  have vv5 := t1.cell v5 (by simp)
  have vv6 := t1.cell v6 (by simp)
  (try go_wp2_with fail)
  refine hK.out _ _ ⟨uu0, uu1, uu2, uu3, uu4, uu5, uu6, vv0, vv1, vv2, vv3, vv4, vv5, vv6⟩ (fun _hH => ?_)
  clear hK K
  try simp only [Act.put, List.setIfInBounds_toArray, List.set_cons_zero, List.set_cons_succ]
  refine wpAnyH_ready (rs := [4]) (by kernel_rfl) (by simp) ?_
  refine AllReadyH.cons rfl (fun K hK => ?_) AllReadyH.nil
  go_simp
  go_at_call 44
  refine (H2.out _ (t0d.trans0 t1)).mono ?_
  rintro e w2 ⟨x2, rfl, hx2, t2⟩
  obtain ⟨⟨k4, nm4, ⟨vk4, vn4, vt4⟩, op4⟩, A4, m4, c4⟩ := x2
  dsimp only
  have ux0 := t2.cell uu0 (by simp)
  have ux1 := t2.cell uu1 (by simp)
  have ux2 := t2.cell uu2 (by simp)
  have ux3 := t2.cell uu3 (by simp)
  have ux4 := t2.cell uu4 (by simp)
  have ux5 := t2.cell uu5 (by simp)
  have ux6 := t2.cell uu6 (by simp)
  have vx0 := t2.cell vv0 (by simp)
  have vx1 := t2.cell vv1 (by simp)
  have vx2 := t2.cell vv2 (by simp)
  have vx3 := t2.cell vv3 (by simp)
  have vx4 := t2.cell vv4 (by simp)
  have vx5 := t2.cell vv5 (by simp)
  have vx6 := t2.cell vv6 (by simp)
  have tb := (Touch.refl [] w2).alloc (.cells #[.int .i64 k3, .string nm3, .int .i64 vk3, .int .i64 vn3, .string vt3, .string op3, .slice A3 m3 c3, .int .i64 k4, .string nm4, .int .i64 vk4, .int .i64 vn4, .string vt4, .string op4, .slice A4 m4 c4] 33)
  have uy0 := tb.cell ux0 (by simp)
  have uy1 := tb.cell ux1 (by simp)
  have uy2 := tb.cell ux2 (by simp)
  have uy3 := tb.cell ux3 (by simp)
  have uy4 := tb.cell ux4 (by simp)
  have uy5 := tb.cell ux5 (by simp)
  have uy6 := tb.cell ux6 (by simp)
  have vy0 := tb.cell vx0 (by simp)
  have vy1 := tb.cell vx1 (by simp)
  have vy2 := tb.cell vx2 (by simp)
  have vy3 := tb.cell vx3 (by simp)
  have vy4 := tb.cell vx4 (by simp)
  have vy5 := tb.cell vx5 (by simp)
  have vy6 := tb.cell vx6 (by simp)
  (try go_wp2_with fail)
  refine hK.out _ _ ⟨ux0, ux1, ux2, ux3, ux4, ux5, ux6, vx0, vx1, vx2, vx3, vx4, vx5, vx6⟩ (fun _hH => ?_)
  clear hK K
  try simp only [Act.put, List.setIfInBounds_toArray, List.set_cons_zero, List.set_cons_succ]
  refine wpAnyH_ready (rs := [5]) (by kernel_rfl) (by simp) ?_
  refine AllReadyH.cons rfl (fun K hK => ?_) AllReadyH.nil
  go_simp
  (try go_wp2_with fail)
  refine hK.out _ _ ⟨uy0, uy1, uy2, uy3, uy4, uy5, uy6, vy0, vy1, vy2, vy3, vy4, vy5, vy6⟩ (fun _hH => ?_)
  clear hK K
  try simp only [Act.put, List.setIfInBounds_toArray, List.set_cons_zero, List.set_cons_succ]
  refine take_d (i := 6) (d := 13) (v := ?_) rfl rfl (by kernel_rfl) (by kernel_rfl) (by kernel_rfl) (fun _ _ _ h => h) (Or.inl ⟨by rfl, ?_⟩) (by assumption) ?_
  rotate_left
  · intro w hSw; (try dsimp only at hSw); go_simp; (try with_reducible rfl)
  try simp only [Act.put, List.setIfInBounds_toArray, List.set_cons_zero, List.set_cons_succ]
  have hb2 := tb.blk (t2.blk (t1.blk Hbr.out (by simp)) (by simp)) (by simp)
  obtain ⟨e0, e1, e2, e3, e4, e5, e6, g0, g1, g2, g3, g4, g5, g6⟩ := blk7 hb2
  obtain ⟨q1, q2⟩ := out7 hb2 (.int .i64 4) (.string ⟨#[]⟩) (.int .i64 0) (.int .i64 0) (.string ⟨#[]⟩) (.string op) (.slice (some ⟨w2.heap.size, 0, none⟩) 2 2)
  have uz0 := q2.cell uy0 (by simp only [List.mem_singleton]; omega)
  have uz1 := q2.cell uy1 (by simp only [List.mem_singleton]; omega)
  have uz2 := q2.cell uy2 (by simp only [List.mem_singleton]; omega)
  have uz3 := q2.cell uy3 (by simp only [List.mem_singleton]; omega)
  have uz4 := q2.cell uy4 (by simp only [List.mem_singleton]; omega)
  have uz5 := q2.cell uy5 (by simp only [List.mem_singleton]; omega)
  have uz6 := q2.cell uy6 (by simp only [List.mem_singleton]; omega)
  have vz0 := q2.cell vy0 (by simp only [List.mem_singleton]; omega)
  have vz1 := q2.cell vy1 (by simp only [List.mem_singleton]; omega)
  have vz2 := q2.cell vy2 (by simp only [List.mem_singleton]; omega)
  have vz3 := q2.cell vy3 (by simp only [List.mem_singleton]; omega)
  have vz4 := q2.cell vy4 (by simp only [List.mem_singleton]; omega)
  have vz5 := q2.cell vy5 (by simp only [List.mem_singleton]; omega)
  have vz6 := q2.cell vy6 (by simp only [List.mem_singleton]; omega)
  refine wpAnyH_ready (rs := [7]) (by kernel_rfl) (by simp) ?_
  refine AllReadyH.cons rfl (fun K hK => ?_) AllReadyH.nil
  go_simp
  (try go_wp2_with fail)
  refine hK.out _ _ ⟨uz0, uz1, uz2, uz3, uz4, uz5, uz6, vz0, vz1, vz2, vz3, vz4, vz5, vz6⟩ (fun _hH => ?_)
  clear hK K
  try simp only [Act.put, List.setIfInBounds_toArray, List.set_cons_zero, List.set_cons_succ]
  refine wpAnyH_done (by kernel_rfl) ?_ _
  go_wp2_with fail
  have s1 := t1.size
  have s2 := t2.size
  simp only [World.size_drew, World.size_alloc] at s1
  refine bodyPost_ret (results_cell_row rfl _ _ (w.heap.size + 1 + 1) _ _ _ _ rfl q1 Try.underlying33 rfl rfl) rfl ⟨⟨⟨4, ⟨#[]⟩, ⟨0, 0, ⟨#[]⟩⟩, op⟩, some ⟨w2.heap.size, 0, none⟩, 2, 2⟩, rfl, ?_, (((t0d.trans0 t1).trans0 t2).trans0 tb).trans q2 (fun b hb => .inr (by simp at hb; omega))⟩
  have sq := q2.size
  simp only [World.size_alloc] at sq
  refine ⟨rfl, rfl, fun b hb => ?_, [⟨⟨k3, nm3, ⟨vk3, vn3, vt3⟩, op3⟩, A3, m3, c3⟩, ⟨⟨k4, nm4, ⟨vk4, vn4, vt4⟩, op4⟩, A4, m4, c4⟩], rfl, RdK.touch (RdK.row w2 33 [(⟨⟨k3, nm3, ⟨vk3, vn3, vt3⟩, op3⟩, A3, m3, c3⟩ : XC), ⟨⟨k4, nm4, ⟨vk4, vn4, vt4⟩, op4⟩, A4, m4, c4⟩] _ rfl) q2 (by simp [fpo]; omega), fun i a1 b1 => ?_⟩
  · simp [fpo] at hb
    subst hb
    exact ⟨by omega, by omega⟩
  · have hi : i = 0 ∨ i = 1 := by simp at a1; omega
    rcases hi with rfl | rfl
    · exact (((hx1.touch0 t2).touch0 tb).touch q2 (fun b hb hp => by simp at hb; have := hp.1; simp at this; omega)).mono fun b hb => ⟨by have := hb.1; simp at this; omega, by have := hb.2; omega⟩
    · exact ((hx2.touch0 tb).touch q2 (fun b hb hp => by simp at hb; have := hp.1; omega)).mono fun b hb => ⟨by have := hb.1; omega, by have := hb.2; omega⟩
end Go.Proofs.Ytlkckkagoommaaa

/- bywashlaw04: one, truth. -/
namespace Go.Proofs.Ytlkckkagoommaaa
open Go.RowKit
attribute [local go_sem ↓] Go.wp_at_zero Go.wp_at_succ

set_option maxRecDepth 20000 in
theorem one_any (v : VD) (w : World) : Calls Try.prog 22 #[v.val] w fun e w' => (∃ A, e = .returned (.slice A 1 1) ∧ ValsAt w' A [v]) ∧ Touch [] w w' := by
  obtain ⟨k, n, s⟩ := v
  dsimp only [VD.val]
  have t0 := ((Touch.refl [] w).alloc (.cells #[.int .i64 k, .int .i64 n, .string s] 30)).alloc (.cells #[.int .i64 k, .int .i64 n, .string s] 30)
  go_enter Try.func22, Try.ntmps22
  go_wp2_with fail
  go_ret
  refine ⟨⟨_, rfl, ?_⟩, t0⟩
  have := RdK.row (enc := vdE) (w.alloc (.cells #[.int .i64 k, .int .i64 n, .string s] 30)) 30 [(⟨k, n, s⟩ : VD)] #[.int .i64 k, .int .i64 n, .string s] rfl
  simp only [World.size_alloc] at this
  exact this
set_option maxRecDepth 20000 in
theorem truth_any (b : Bool) (w : World) : Calls Try.prog 24 #[.bool b] w fun e w' => e = .returned (bitV b).val ∧ Touch [] w w' := by
  have h1 := Lib.hid fun w' => of_any 1 w'
  have h0 := Lib.hid fun w' => of_any 0 w'
  simp only [VD.val, ofV, S] at h1 h0
  have t0 := (Touch.refl [] w).alloc (.cells #[.int .i64 0, .int .i64 0, .string ⟨#[]⟩] 30)
  have hb := heap_alloc_new w (.cells #[.int .i64 0, .int .i64 0, .string ⟨#[]⟩] 30)
  have Hb := Lib.hid hb
  clear hb
  cases b
  · go_enter Try.func24, Try.ntmps24
    go_wp2_with fail
    refine (h0.out _).mono ?_
    rintro e w1 ⟨rfl, u1⟩
    obtain ⟨r0, r1, r2, f0, f1, f2⟩ := blk3 (u1.blk Hb.out (by simp))
    go_wp2_with fail
    obtain ⟨q1, q2⟩ := out3 (u1.blk Hb.out (by simp)) (.int .i64 1) (.int .i64 0) (.string ⟨#[]⟩)
    exact bodyPost_ret (results_cell_row rfl _ _ w.heap.size _ _ _ _ rfl q1 Try.underlying30 rfl rfl) rfl ⟨rfl, (t0.trans0 u1).trans q2 (fun b hb => .inr (by simp at hb; omega))⟩
  · go_enter Try.func24, Try.ntmps24
    go_wp2_with fail
    refine (h1.out _).mono ?_
    rintro e w1 ⟨rfl, u1⟩
    obtain ⟨r0, r1, r2, f0, f1, f2⟩ := blk3 (u1.blk Hb.out (by simp))
    go_wp2_with fail
    obtain ⟨q1, q2⟩ := out3 (u1.blk Hb.out (by simp)) (.int .i64 1) (.int .i64 1) (.string ⟨#[]⟩)
    exact bodyPost_ret (results_cell_row rfl _ _ w.heap.size _ _ _ _ rfl q1 Try.underlying30 rfl rfl) rfl ⟨rfl, (t0.trans0 u1).trans q2 (fun b hb => .inr (by simp at hb; omega))⟩

theorem allX0 {q : ND → Prop} {n : Nat} {d : ND} (h : q d) : allX q (n + 1) ((d, []) : TX (n + 1)) := ⟨h, fun a ha => by cases ha⟩
theorem allX2 {q : ND → Prop} {n : Nat} {d : ND} {a b : TX n} (h : q d) (ha : allX q n a) (hb : allX q n b) : allX q (n + 1) ((d, [a, b]) : TX (n + 1)) := ⟨h, fun x hx => by
  rcases List.mem_cons.1 hx with rfl | hx
  · exact ha
  · rw [List.mem_singleton.1 hx]; exact hb⟩
theorem allX3 {q : ND → Prop} {n : Nat} {d : ND} {a b c : TX n} (h : q d) (ha : allX q n a) (hb : allX q n b) (hc : allX q n c) : allX q (n + 1) ((d, [a, b, c]) : TX (n + 1)) := ⟨h, fun x hx => by
  rcases List.mem_cons.1 hx with rfl | hx
  · exact ha
  · rcases List.mem_cons.1 hx with rfl | hx
    · exact hb
    · rw [List.mem_singleton.1 hx]; exact hc⟩
/-- the schema of the fixed answers -/
def csA : List CD := [⟨S [97], 1⟩]
def nd4 (op : ByteArray) : ND := ⟨4, ⟨#[]⟩, ⟨0, 0, ⟨#[]⟩⟩, op⟩
def ndC (v : VD) : ND := ⟨2, ⟨#[]⟩, v, ⟨#[]⟩⟩
def ndA : ND := ⟨1, S [97], ⟨0, 0, ⟨#[]⟩⟩, ⟨#[]⟩⟩
theorem top1 : topX csA [ofV 2] 2 ((nd4 (S [43]), [((ndA, []) : TX 1), ((ndC (ofV 1), []) : TX 1)]) : TX 2) = (ofV 3, 0) := by kernel_rfl
theorem top2 : topX csA [ofV 1] 3 ((⟨5, S [105, 102], ⟨0, 0, ⟨#[]⟩⟩, ⟨#[]⟩⟩, [((nd4 (S [62]), [((ndA, []) : TX 1), ((ndC (ofV 1), []) : TX 1)]) : TX 2), ((nd4 (S [47]), [((ndC (ofV 1), []) : TX 1), ((ndC (ofV 0), []) : TX 1)]) : TX 2), ((ndC (ofV 5), []) : TX 2)]) : TX 3) = (ofV 5, 0) := by kernel_rfl
end Go.Proofs.Ytlkckkagoommaaa

/- expr.Call: a call of expressions, in new memory. For every expression. -/
namespace Go.Proofs.Ytlkckkagoommaaa
open Go.RowKit
attribute [local go_sem ↓] Go.wp_at_zero Go.wp_at_succ

set_option maxRecDepth 100000 in
set_option maxHeartbeats 6400000 in
theorem callX_any (n : Nat) (args : List (TX n)) (nm : ByteArray) (A : Option Addr) (m c : Nat) (hm : args.length = m) (w : World) (h3 : ArgsP xcE anyB n w A args) (hsum : sumX n args ≤ 1000000) :
    Calls Try.prog 31 #[.string nm, .slice A m c] w fun r w' => ∃ x', r = .returned x'.val ∧ ExP xcE (Fr w.heap.size w') (n + 1) w' x' (⟨5, nm, ⟨0, 0, ⟨#[]⟩⟩, ⟨#[]⟩⟩, args) ∧ Touch [] w w' := by
    subst hm
    have hlen := len_le_sum n args
    have Ih := Lib.hid (copied_any n)
    have t0 := (((Touch.refl [] w).alloc (.cells #[.int .i64 0, .string ⟨#[]⟩, .int .i64 0, .int .i64 0, .string ⟨#[]⟩, .string ⟨#[]⟩, .slice none 0 0] 33)).alloc (.cells #[.int .i64 5, .string nm, .int .i64 0, .int .i64 0, .string ⟨#[]⟩, .string ⟨#[]⟩, .slice none 0 0] 33))
    have hbx := (heap_alloc_new (w.alloc (.cells #[.int .i64 0, .string ⟨#[]⟩, .int .i64 0, .int .i64 0, .string ⟨#[]⟩, .string ⟨#[]⟩, .slice none 0 0] 33)) (.cells #[.int .i64 5, .string nm, .int .i64 0, .int .i64 0, .string ⟨#[]⟩, .string ⟨#[]⟩, .slice none 0 0] 33))
    have hbr := (((Touch.refl [] (w.alloc (.cells #[.int .i64 0, .string ⟨#[]⟩, .int .i64 0, .int .i64 0, .string ⟨#[]⟩, .string ⟨#[]⟩, .slice none 0 0] 33))).alloc (.cells #[.int .i64 5, .string nm, .int .i64 0, .int .i64 0, .string ⟨#[]⟩, .string ⟨#[]⟩, .slice none 0 0] 33)).blk (heap_alloc_new w (.cells #[.int .i64 0, .string ⟨#[]⟩, .int .i64 0, .int .i64 0, .string ⟨#[]⟩, .string ⟨#[]⟩, .slice none 0 0] 33)) (by simp))
    simp only [World.size_alloc] at hbx hbr
    go_enter Try.func31, Try.ntmps31
    go_wp2_with fail
    go_loopw [12] (fun i wr => ∃ (j : Nat) (B : Option Addr) (cB : Nat), j ≤ args.length ∧ i = .int .i64 j ∧ wr.heap[w.heap.size + 1]? = some (.cells #[.int .i64 5, .string nm, .int .i64 0, .int .i64 0, .string ⟨#[]⟩, .string ⟨#[]⟩, .slice B j cB] 33 (0, 0)) ∧
        wr.heap[w.heap.size]? = some (.cells #[.int .i64 0, .string ⟨#[]⟩, .int .i64 0, .int .i64 0, .string ⟨#[]⟩, .string ⟨#[]⟩, .slice none 0 0] 33 (0, 0)) ∧ OwnX 33 xcE (w.heap.size + 2) n wr B cB (args.take j) ∧ Touch [] w wr) (fun i _ => args.length - (intOf i).toNat)
    case atStart => exact ⟨0, none, 0, by omega, rfl, hbx, hbr, OwnX.nil _ _ _ _ _, t0⟩
    case round =>
      obtain ⟨j, B, cB, hj, rfl, hX, hR, hown, ht⟩ := hrel
      have hBlt := fun b hb => (hown.lt b hb).2
      have hBlo := fun b hb => (hown.lt b hb).1
      have hXB : w.heap.size + 1 ∉ fpo B := fun hm => by have := hBlo _ hm; omega
      have hRB : w.heap.size ∉ fpo B := fun hm => by have := hBlo _ hm; omega
      have hlR := lt_of_block hR
      have hlX := lt_of_block hX
      by_cases hlt : j < args.length
      · obtain ⟨ad, b, off, y, rfl, hadd, hy, hcell⟩ := (h3.touch0 ht).at_ xcE_length j hlt
        have hsn := List.take_succ_eq_append_getElem hlt
        have hms := size_mem (List.getElem_mem hlt)
        have Htl := Lib.hid (show (args.take j).length = j by rw [List.length_take]; omega)
        obtain ⟨a, hae⟩ : ∃ a, a = args[j] := ⟨_, rfl⟩
        rw [← hae] at hy hsn hms
        have Ta := Lib.hid (((Touch.refl [] wr).alloc (.cells #[.int .i64 y.nd.kind, .string y.nd.name, .int .i64 y.nd.v.kind, .int .i64 y.nd.v.num, .string y.nd.v.text, .string y.nd.op, .slice y.A y.n y.c] 33)).drew)
        have Hc := Lib.hid (Ih.out a y _ (hy.touch0 Ta.out) (by omega))
        have hbv := heap_alloc_new wr (.cells #[.int .i64 y.nd.kind, .string y.nd.name, .int .i64 y.nd.v.kind, .int .i64 y.nd.v.num, .string y.nd.v.text, .string y.nd.op, .slice y.A y.n y.c] 33)
        have c0 := hcell 0 _ rfl; have c1 := hcell 1 _ rfl; have c2 := hcell 2 _ rfl; have c3 := hcell 3 _ rfl; have c4 := hcell 4 _ rfl; have c5 := hcell 5 _ rfl; have c6 := hcell 6 _ rfl
        rw [Nat.add_zero] at c0
        have z0 := Ta.out.cell (cell_blk hX (i := 6) rfl) (by simp)
        have sTa : wr.heap.size ≤ (wr.alloc (.cells #[.int .i64 y.nd.kind, .string y.nd.name, .int .i64 y.nd.v.kind, .int .i64 y.nd.v.num, .string y.nd.v.text, .string y.nd.op, .slice y.A y.n y.c] 33)).drew.heap.size := Ta.out.size
        have Hsn := Lib.hid hsn
        obtain ⟨⟨k2, nm2, ⟨vk2, vn2, vt2⟩, op2⟩, A2, m2, c2'⟩ := y
        simp only [XC.val] at Hc
        simp only at c0 c1 c2 c3 c4 c5 c6 Ta hbv z0 sTa
        have ff0 : (wr.alloc (.cells #[.int .i64 k2, .string nm2, .int .i64 vk2, .int .i64 vn2, .string vt2, .string op2, .slice A2 m2 c2'] 33)).drew.cell? ⟨wr.heap.size, 0, none⟩ = some (.int .i64 k2) := cell_blk hbv rfl
        have ff1 : (wr.alloc (.cells #[.int .i64 k2, .string nm2, .int .i64 vk2, .int .i64 vn2, .string vt2, .string op2, .slice A2 m2 c2'] 33)).drew.cell? ⟨wr.heap.size, 1, none⟩ = some (.string nm2) := cell_blk hbv rfl
        have ff2 : (wr.alloc (.cells #[.int .i64 k2, .string nm2, .int .i64 vk2, .int .i64 vn2, .string vt2, .string op2, .slice A2 m2 c2'] 33)).drew.cell? ⟨wr.heap.size, 2, none⟩ = some (.int .i64 vk2) := cell_blk hbv rfl
        have ff3 : (wr.alloc (.cells #[.int .i64 k2, .string nm2, .int .i64 vk2, .int .i64 vn2, .string vt2, .string op2, .slice A2 m2 c2'] 33)).drew.cell? ⟨wr.heap.size, 3, none⟩ = some (.int .i64 vn2) := cell_blk hbv rfl
        have ff4 : (wr.alloc (.cells #[.int .i64 k2, .string nm2, .int .i64 vk2, .int .i64 vn2, .string vt2, .string op2, .slice A2 m2 c2'] 33)).drew.cell? ⟨wr.heap.size, 4, none⟩ = some (.string vt2) := cell_blk hbv rfl
        have ff5 : (wr.alloc (.cells #[.int .i64 k2, .string nm2, .int .i64 vk2, .int .i64 vn2, .string vt2, .string op2, .slice A2 m2 c2'] 33)).drew.cell? ⟨wr.heap.size, 5, none⟩ = some (.string op2) := cell_blk hbv rfl
        have ff6 : (wr.alloc (.cells #[.int .i64 k2, .string nm2, .int .i64 vk2, .int .i64 vn2, .string vt2, .string op2, .slice A2 m2 c2'] 33)).drew.cell? ⟨wr.heap.size, 6, none⟩ = some (.slice A2 m2 c2') := cell_blk hbv rfl
        clear hsn hae hcell hbv hms
        go_wp2_with fail
        refine wp_region_held_drew (S := fun w' => w'.cell? ⟨wr.heap.size, 0, none⟩ = some (.int .i64 k2) ∧ w'.cell? ⟨wr.heap.size, 1, none⟩ = some (.string nm2) ∧ w'.cell? ⟨wr.heap.size, 2, none⟩ = some (.int .i64 vk2) ∧ w'.cell? ⟨wr.heap.size, 3, none⟩ = some (.int .i64 vn2) ∧ w'.cell? ⟨wr.heap.size, 4, none⟩ = some (.string vt2) ∧ w'.cell? ⟨wr.heap.size, 5, none⟩ = some (.string op2) ∧ w'.cell? ⟨wr.heap.size, 6, none⟩ = some (.slice A2 m2 c2')) (by kernel_rfl) ⟨ff0, ff1, ff2, ff3, ff4, ff5, ff6⟩ (fun hHeld => ?_)
        refine take_d (i := 0) (d := 16) (v := ?_) rfl rfl (by kernel_rfl) (by kernel_rfl) (by kernel_rfl) (fun _ _ _ h => h) (Or.inl ⟨by rfl, ?_⟩) (by assumption) ?_
        rotate_left
        · intro w hSw; (try dsimp only at hSw); go_simp; (try with_reducible rfl)
        try simp only [Act.put, List.setIfInBounds_toArray, List.set_cons_zero, List.set_cons_succ]
        refine take_d (i := 2) (d := 18) (v := ?_) rfl rfl (by kernel_rfl) (by kernel_rfl) (by kernel_rfl) (fun _ _ _ h => h) (Or.inl ⟨by rfl, ?_⟩) (by assumption) ?_
        rotate_left
        · intro w hSw; (try dsimp only at hSw); go_simp; (try with_reducible rfl)
        try simp only [Act.put, List.setIfInBounds_toArray, List.set_cons_zero, List.set_cons_succ]
        refine wpAnyH_ready (rs := [1, 3]) (by kernel_rfl) (by simp) ?_
        refine AllReadyH.cons rfl (fun K hK => ?_) (AllReadyH.cons rfl (fun K hK => ?_) AllReadyH.nil)
        · go_simp
          (try go_wp2_with fail)
          refine hK.out _ _ ⟨ff0, ff1, ff2, ff3, ff4, ff5, ff6⟩ (fun _hH => ?_)
          clear hK K
          try simp only [Act.put, List.setIfInBounds_toArray, List.set_cons_zero, List.set_cons_succ]
          refine wpAnyH_ready (rs := [3]) (by kernel_rfl) (by simp) ?_
          refine AllReadyH.cons rfl (fun K hK => ?_) AllReadyH.nil
          go_simp
          go_at_call 44
          refine (Hc.out).mono ?_
          rintro e w1 ⟨x1, rfl, hx1, t1⟩
          obtain ⟨⟨k3, nm3, ⟨vk3, vn3, vt3⟩, op3⟩, A3, m3, c3⟩ := x1
          have mm0 := t1.cell ff0 (by simp)
          have mm1 := t1.cell ff1 (by simp)
          have mm2 := t1.cell ff2 (by simp)
          have mm3 := t1.cell ff3 (by simp)
          have mm4 := t1.cell ff4 (by simp)
          have mm5 := t1.cell ff5 (by simp)
          have mm6 := t1.cell ff6 (by simp)
          have z1 := t1.cell z0 (by simp)
          have tn := (Touch.refl [] w1).alloc (.cells #[.int .i64 k3, .string nm3, .int .i64 vk3, .int .i64 vn3, .string vt3, .string op3, .slice A3 m3 c3] 33)
          have z2 := tn.cell z1 (by simp)
          have q0 := tn.cell mm0 (by simp)
          have q1 := tn.cell mm1 (by simp)
          have q2 := tn.cell mm2 (by simp)
          have q3 := tn.cell mm3 (by simp)
          have q4 := tn.cell mm4 (by simp)
          have q5 := tn.cell mm5 (by simp)
          have q6 := tn.cell mm6 (by simp)
          have hown1 := (hown.touch0 Ta.out).touch0 t1
          have s1 := t1.size
          (try go_wp2_with fail)
          refine hK.out _ _ ⟨mm0, mm1, mm2, mm3, mm4, mm5, mm6⟩ (fun _hH => ?_)
          clear hK K
          try simp only [Act.put, List.setIfInBounds_toArray, List.set_cons_zero, List.set_cons_succ]
          refine wpAnyH_ready (rs := [4]) (by kernel_rfl) (by simp) ?_
          refine AllReadyH.cons rfl (fun K hK => ?_) AllReadyH.nil
          go_simp
          (try go_wp2_with fail)
          refine hK.out _ _ ⟨q0, q1, q2, q3, q4, q5, q6⟩ (fun _hH => ?_)
          clear hK K
          try simp only [Act.put, List.setIfInBounds_toArray, List.set_cons_zero, List.set_cons_succ]
          refine wpAnyH_ready (rs := [5]) (by kernel_rfl) (by simp) ?_
          refine AllReadyH.cons rfl (fun K hK => ?_) AllReadyH.nil
          refine step_appX xcE_length xcE_one rfl (.tmp 17) (.tmp 20) 31 (by rfl) 33 _ 96 info_expr Try.underlying31 rfl (by omega) (w.heap.size + 2) n B j cB (args.take j) Htl.out (by rfl) hown1 ⟨⟨k3, nm3, ⟨vk3, vn3, vt3⟩, op3⟩, A3, m3, c3⟩ a (hx1.mono fun b hb => ⟨⟨by have := hb.1; omega, hb.2⟩, fun hm => by have := hBlt b hm; have := hb.1; omega⟩) (by omega) 1 (by rfl) (by omega) rfl ?_
          intro B5 cB5 w5 hown5 ht5 hf5
          have hVB : wr.heap.size ∉ fpo B := fun hm => by have := hBlt _ hm; omega
          have p0 := ht5.cell mm0 hVB
          have p1 := ht5.cell mm1 hVB
          have p2 := ht5.cell mm2 hVB
          have p3 := ht5.cell mm3 hVB
          have p4 := ht5.cell mm4 hVB
          have p5 := ht5.cell mm5 hVB
          have p6 := ht5.cell mm6 hVB
          have hX5 := ht5.blk ((Ta.out.trans0 t1).blk hX (by simp)) hXB
          have hR5 := ht5.blk ((Ta.out.trans0 t1).blk hR (by simp)) hRB
          have T5 := ((ht.trans0 Ta.out).trans0 t1).trans ht5 (fun b hb => .inr (by have := hBlo b hb; omega))
          have z5 := cell_blk hX5 (i := 6) rfl
          have f5 : w5.frozen? ⟨w.heap.size + 1, 6, none⟩ = false := by simp [World.frozen?, hX5]
          have t7 := (Touch.refl [w.heap.size + 1] w5).setCell (p := ⟨w.heap.size + 1, 6, none⟩) (.inl (by simp)) (.slice B5 (j + 1) cB5)
          have r0 := t7.cell p0 (by simp; omega)
          have r1 := t7.cell p1 (by simp; omega)
          have r2 := t7.cell p2 (by simp; omega)
          have r3 := t7.cell p3 (by simp; omega)
          have r4 := t7.cell p4 (by simp; omega)
          have r5 := t7.cell p5 (by simp; omega)
          have r6 := t7.cell p6 (by simp; omega)
          refine hK.out _ _ ⟨p0, p1, p2, p3, p4, p5, p6⟩ (fun _hH => ?_)
          clear hK K
          try simp only [Act.put, List.setIfInBounds_toArray]
          refine take_d (i := 6) (d := 22) (v := ?_) rfl rfl (by kernel_rfl) (by kernel_rfl) (by kernel_rfl) (fun _ _ _ h => h) (Or.inl ⟨by rfl, ?_⟩) (by assumption) ?_
          rotate_left
          · intro w hSw; (try dsimp only at hSw); go_simp; (try with_reducible rfl)
          try simp only [Act.put]
          refine wpAnyH_ready (rs := [7]) (by kernel_rfl) (by simp) ?_
          refine AllReadyH.cons rfl (fun K hK => ?_) AllReadyH.nil
          go_simp
          (try go_wp2_with fail)
          refine hK.out _ _ ⟨r0, r1, r2, r3, r4, r5, r6⟩ (fun _hH => ?_)
          clear hK K
          try simp only [Act.put, List.setIfInBounds_toArray, List.set_cons_zero, List.set_cons_succ]
          refine wpAnyH_done (by kernel_rfl) ?_ _
          go_wp2
          go_roundw
          case rel => exact ⟨j + 1, B5, cB5, by omega, by go_num, set_blk hX5 6 _, (t7.blk hR5 (by simp)), by rw [Hsn.out]; exact hown5.touch t7 (fun b hb => by simp at hb; omega), T5.setCell (p := ⟨w.heap.size + 1, 6, none⟩) (.inr (by simp only; omega)) _⟩
          case measure => simp [intOf]; omega
        · go_simp
          go_at_call 44
          refine (Hc.out).mono ?_
          rintro e w1 ⟨x1, rfl, hx1, t1⟩
          obtain ⟨⟨k3, nm3, ⟨vk3, vn3, vt3⟩, op3⟩, A3, m3, c3⟩ := x1
          have mm0 := t1.cell ff0 (by simp)
          have mm1 := t1.cell ff1 (by simp)
          have mm2 := t1.cell ff2 (by simp)
          have mm3 := t1.cell ff3 (by simp)
          have mm4 := t1.cell ff4 (by simp)
          have mm5 := t1.cell ff5 (by simp)
          have mm6 := t1.cell ff6 (by simp)
          have z1 := t1.cell z0 (by simp)
          have tn := (Touch.refl [] w1).alloc (.cells #[.int .i64 k3, .string nm3, .int .i64 vk3, .int .i64 vn3, .string vt3, .string op3, .slice A3 m3 c3] 33)
          have z2 := tn.cell z1 (by simp)
          have q0 := tn.cell mm0 (by simp)
          have q1 := tn.cell mm1 (by simp)
          have q2 := tn.cell mm2 (by simp)
          have q3 := tn.cell mm3 (by simp)
          have q4 := tn.cell mm4 (by simp)
          have q5 := tn.cell mm5 (by simp)
          have q6 := tn.cell mm6 (by simp)
          have hown1 := (hown.touch0 Ta.out).touch0 t1
          have s1 := t1.size
          (try go_wp2_with fail)
          refine hK.out _ _ ⟨mm0, mm1, mm2, mm3, mm4, mm5, mm6⟩ (fun _hH => ?_)
          clear hK K
          try simp only [Act.put, List.setIfInBounds_toArray, List.set_cons_zero, List.set_cons_succ]
          refine wpAnyH_ready (rs := [1, 4]) (by kernel_rfl) (by simp) ?_
          refine AllReadyH.cons rfl (fun K hK => ?_) (AllReadyH.cons rfl (fun K hK => ?_) AllReadyH.nil)
          · go_simp
            (try go_wp2_with fail)
            refine hK.out _ _ ⟨mm0, mm1, mm2, mm3, mm4, mm5, mm6⟩ (fun _hH => ?_)
            clear hK K
            try simp only [Act.put, List.setIfInBounds_toArray, List.set_cons_zero, List.set_cons_succ]
            refine wpAnyH_ready (rs := [4]) (by kernel_rfl) (by simp) ?_
            refine AllReadyH.cons rfl (fun K hK => ?_) AllReadyH.nil
            go_simp
            (try go_wp2_with fail)
            refine hK.out _ _ ⟨q0, q1, q2, q3, q4, q5, q6⟩ (fun _hH => ?_)
            clear hK K
            try simp only [Act.put, List.setIfInBounds_toArray, List.set_cons_zero, List.set_cons_succ]
            refine wpAnyH_ready (rs := [5]) (by kernel_rfl) (by simp) ?_
            refine AllReadyH.cons rfl (fun K hK => ?_) AllReadyH.nil
            refine step_appX xcE_length xcE_one rfl (.tmp 17) (.tmp 20) 31 (by rfl) 33 _ 96 info_expr Try.underlying31 rfl (by omega) (w.heap.size + 2) n B j cB (args.take j) Htl.out (by rfl) hown1 ⟨⟨k3, nm3, ⟨vk3, vn3, vt3⟩, op3⟩, A3, m3, c3⟩ a (hx1.mono fun b hb => ⟨⟨by have := hb.1; omega, hb.2⟩, fun hm => by have := hBlt b hm; have := hb.1; omega⟩) (by omega) 1 (by rfl) (by omega) rfl ?_
            intro B5 cB5 w5 hown5 ht5 hf5
            have hVB : wr.heap.size ∉ fpo B := fun hm => by have := hBlt _ hm; omega
            have p0 := ht5.cell mm0 hVB
            have p1 := ht5.cell mm1 hVB
            have p2 := ht5.cell mm2 hVB
            have p3 := ht5.cell mm3 hVB
            have p4 := ht5.cell mm4 hVB
            have p5 := ht5.cell mm5 hVB
            have p6 := ht5.cell mm6 hVB
            have hX5 := ht5.blk ((Ta.out.trans0 t1).blk hX (by simp)) hXB
            have hR5 := ht5.blk ((Ta.out.trans0 t1).blk hR (by simp)) hRB
            have T5 := ((ht.trans0 Ta.out).trans0 t1).trans ht5 (fun b hb => .inr (by have := hBlo b hb; omega))
            have z5 := cell_blk hX5 (i := 6) rfl
            have f5 : w5.frozen? ⟨w.heap.size + 1, 6, none⟩ = false := by simp [World.frozen?, hX5]
            have t7 := (Touch.refl [w.heap.size + 1] w5).setCell (p := ⟨w.heap.size + 1, 6, none⟩) (.inl (by simp)) (.slice B5 (j + 1) cB5)
            have r0 := t7.cell p0 (by simp; omega)
            have r1 := t7.cell p1 (by simp; omega)
            have r2 := t7.cell p2 (by simp; omega)
            have r3 := t7.cell p3 (by simp; omega)
            have r4 := t7.cell p4 (by simp; omega)
            have r5 := t7.cell p5 (by simp; omega)
            have r6 := t7.cell p6 (by simp; omega)
            refine hK.out _ _ ⟨p0, p1, p2, p3, p4, p5, p6⟩ (fun _hH => ?_)
            clear hK K
            try simp only [Act.put, List.setIfInBounds_toArray]
            refine take_d (i := 6) (d := 22) (v := ?_) rfl rfl (by kernel_rfl) (by kernel_rfl) (by kernel_rfl) (fun _ _ _ h => h) (Or.inl ⟨by rfl, ?_⟩) (by assumption) ?_
            rotate_left
            · intro w hSw; (try dsimp only at hSw); go_simp; (try with_reducible rfl)
            try simp only [Act.put]
            refine wpAnyH_ready (rs := [7]) (by kernel_rfl) (by simp) ?_
            refine AllReadyH.cons rfl (fun K hK => ?_) AllReadyH.nil
            go_simp
            (try go_wp2_with fail)
            refine hK.out _ _ ⟨r0, r1, r2, r3, r4, r5, r6⟩ (fun _hH => ?_)
            clear hK K
            try simp only [Act.put, List.setIfInBounds_toArray, List.set_cons_zero, List.set_cons_succ]
            refine wpAnyH_done (by kernel_rfl) ?_ _
            go_wp2
            go_roundw
            case rel => exact ⟨j + 1, B5, cB5, by omega, by go_num, set_blk hX5 6 _, (t7.blk hR5 (by simp)), by rw [Hsn.out]; exact hown5.touch t7 (fun b hb => by simp at hb; omega), T5.setCell (p := ⟨w.heap.size + 1, 6, none⟩) (.inr (by simp only; omega)) _⟩
            case measure => simp [intOf]; omega
          · go_simp
            (try go_wp2_with fail)
            refine hK.out _ _ ⟨q0, q1, q2, q3, q4, q5, q6⟩ (fun _hH => ?_)
            clear hK K
            try simp only [Act.put, List.setIfInBounds_toArray, List.set_cons_zero, List.set_cons_succ]
            refine wpAnyH_ready (rs := [1]) (by kernel_rfl) (by simp) ?_
            refine AllReadyH.cons rfl (fun K hK => ?_) AllReadyH.nil
            go_simp
            (try go_wp2_with fail)
            refine hK.out _ _ ⟨q0, q1, q2, q3, q4, q5, q6⟩ (fun _hH => ?_)
            clear hK K
            try simp only [Act.put, List.setIfInBounds_toArray, List.set_cons_zero, List.set_cons_succ]
            refine wpAnyH_ready (rs := [5]) (by kernel_rfl) (by simp) ?_
            refine AllReadyH.cons rfl (fun K hK => ?_) AllReadyH.nil
            refine step_appX xcE_length xcE_one rfl (.tmp 17) (.tmp 20) 31 (by rfl) 33 _ 96 info_expr Try.underlying31 rfl (by omega) (w.heap.size + 2) n B j cB (args.take j) Htl.out (by rfl) hown1 ⟨⟨k3, nm3, ⟨vk3, vn3, vt3⟩, op3⟩, A3, m3, c3⟩ a (hx1.mono fun b hb => ⟨⟨by have := hb.1; omega, hb.2⟩, fun hm => by have := hBlt b hm; have := hb.1; omega⟩) (by omega) 1 (by rfl) (by omega) rfl ?_
            intro B5 cB5 w5 hown5 ht5 hf5
            have hVB : wr.heap.size ∉ fpo B := fun hm => by have := hBlt _ hm; omega
            have p0 := ht5.cell mm0 hVB
            have p1 := ht5.cell mm1 hVB
            have p2 := ht5.cell mm2 hVB
            have p3 := ht5.cell mm3 hVB
            have p4 := ht5.cell mm4 hVB
            have p5 := ht5.cell mm5 hVB
            have p6 := ht5.cell mm6 hVB
            have hX5 := ht5.blk ((Ta.out.trans0 t1).blk hX (by simp)) hXB
            have hR5 := ht5.blk ((Ta.out.trans0 t1).blk hR (by simp)) hRB
            have T5 := ((ht.trans0 Ta.out).trans0 t1).trans ht5 (fun b hb => .inr (by have := hBlo b hb; omega))
            have z5 := cell_blk hX5 (i := 6) rfl
            have f5 : w5.frozen? ⟨w.heap.size + 1, 6, none⟩ = false := by simp [World.frozen?, hX5]
            have t7 := (Touch.refl [w.heap.size + 1] w5).setCell (p := ⟨w.heap.size + 1, 6, none⟩) (.inl (by simp)) (.slice B5 (j + 1) cB5)
            have r0 := t7.cell p0 (by simp; omega)
            have r1 := t7.cell p1 (by simp; omega)
            have r2 := t7.cell p2 (by simp; omega)
            have r3 := t7.cell p3 (by simp; omega)
            have r4 := t7.cell p4 (by simp; omega)
            have r5 := t7.cell p5 (by simp; omega)
            have r6 := t7.cell p6 (by simp; omega)
            refine hK.out _ _ ⟨p0, p1, p2, p3, p4, p5, p6⟩ (fun _hH => ?_)
            clear hK K
            try simp only [Act.put, List.setIfInBounds_toArray]
            refine take_d (i := 6) (d := 22) (v := ?_) rfl rfl (by kernel_rfl) (by kernel_rfl) (by kernel_rfl) (fun _ _ _ h => h) (Or.inl ⟨by rfl, ?_⟩) (by assumption) ?_
            rotate_left
            · intro w hSw; (try dsimp only at hSw); go_simp; (try with_reducible rfl)
            try simp only [Act.put]
            refine wpAnyH_ready (rs := [7]) (by kernel_rfl) (by simp) ?_
            refine AllReadyH.cons rfl (fun K hK => ?_) AllReadyH.nil
            go_simp
            (try go_wp2_with fail)
            refine hK.out _ _ ⟨r0, r1, r2, r3, r4, r5, r6⟩ (fun _hH => ?_)
            clear hK K
            try simp only [Act.put, List.setIfInBounds_toArray, List.set_cons_zero, List.set_cons_succ]
            refine wpAnyH_done (by kernel_rfl) ?_ _
            go_wp2
            go_roundw
            case rel => exact ⟨j + 1, B5, cB5, by omega, by go_num, set_blk hX5 6 _, (t7.blk hR5 (by simp)), by rw [Hsn.out]; exact hown5.touch t7 (fun b hb => by simp at hb; omega), T5.setCell (p := ⟨w.heap.size + 1, 6, none⟩) (.inr (by simp only; omega)) _⟩
            case measure => simp [intOf]; omega
      · obtain rfl : j = args.length := by omega
        rw [List.take_length] at hown
        have H7 := Lib.hid (fun (v0 v1 v2 v3 v4 v5 v6 : Value) => out7 hR v0 v1 v2 v3 v4 v5 v6)
        obtain ⟨d0, d1, d2, d3, d4, d5, d6, _⟩ := blk7 hX
        obtain ⟨e0, e1, e2, e3, e4, e5, e6, g0, g1, g2, g3, g4, g5, g6⟩ := blk7 hR
        go_wp2
        obtain ⟨q1, q2⟩ := H7.out (.int .i64 5) (.string nm) (.int .i64 0) (.int .i64 0) (.string ⟨#[]⟩) (.string ⟨#[]⟩) (.slice B args.length cB)
        refine bodyPost_ret (results_cell_row rfl _ _ (w.heap.size) _ _ _ _ rfl q1 Try.underlying33 rfl rfl) rfl ⟨⟨⟨5, nm, ⟨0, 0, ⟨#[]⟩⟩, ⟨#[]⟩⟩, B, args.length, cB⟩, rfl, ?_, ht.trans q2 (fun b hb => .inr (by simp at hb; omega))⟩
        have hT := (hown.touch q2 (fun b hb => by simp at hb; omega)).tree ⟨5, nm, ⟨0, 0, ⟨#[]⟩⟩, ⟨#[]⟩⟩ args.length rfl
        exact hT.mono fun b hb => ⟨by have := hb.1; omega, hb.2⟩
end Go.Proofs.Ytlkckkagoommaaa
