/- graph.Order: the nodes by their depths, then by their numbers. For every graph of less than forty. -/
import Derived.Test.YtmehdlflhllhdaaGrSt
import Derived.Test.YtmehdlflhllhdaaGrA
namespace Go.Proofs.Ytmehdlflhllhdaa
open Go.RowKit

theorem pw_ext {r : Nat → Nat → Prop} (ha : ∀ x y, r x y → ¬ r y x) : ∀ l1 l2 : List Nat, l1.Pairwise r → l2.Pairwise r → (∀ x, x ∈ l1 ↔ x ∈ l2) → l1 = l2 := by
  intro l1
  induction l1 with
  | nil =>
    intro l2 _ _ h
    cases l2 with
    | nil => rfl
    | cons b t => exact absurd ((h b).2 List.mem_cons_self) (by simp)
  | cons a t ih =>
    intro l2 h1 h2 h
    cases l2 with
    | nil => exact absurd ((h a).1 List.mem_cons_self) (by simp)
    | cons b s =>
      rw [List.pairwise_cons] at h1 h2
      have e : a = b := by
        rcases List.mem_cons.1 ((h a).1 List.mem_cons_self) with q | q
        · exact q
        · rcases List.mem_cons.1 ((h b).2 List.mem_cons_self) with z | z
          · exact z.symm
          · exact absurd (h1.1 b z) (ha _ _ (h2.1 a q))
      subst e
      congr 1
      refine ih s h1.2 h2.2 fun x => ⟨fun hx => ?_, fun hx => ?_⟩
      · rcases List.mem_cons.1 ((h x).1 (List.mem_cons_of_mem _ hx)) with q | q
        · subst q; exact absurd (h1.1 x hx) (ha _ _ (h1.1 x hx))
        · exact q
      · rcases List.mem_cons.1 ((h x).2 (List.mem_cons_of_mem _ hx)) with q | q
        · subst q; exact absurd (h2.1 x hx) (ha _ _ (h2.1 x hx))
        · exact q
theorem ltL_asymm (D : Nat → Nat) (x y : Nat) (h : ltL D x y) : ¬ ltL D y x := by unfold ltL at *; omega

/-- depth by depth -/
def ordN (n : Nat) (D : Nat → Nat) : List Nat := (List.range (n + 1)).flatMap fun d => (List.range n).filter fun i => decide (D i = d)
theorem ordN_pw (n : Nat) (D : Nat → Nat) : (ordN n D).Pairwise (ltL D) := by
  unfold ordN
  rw [List.pairwise_flatMap]
  refine ⟨fun d _ => ?_, List.pairwise_lt_range.imp fun {d1 d2} hd x hx y hy => ?_⟩
  · refine (List.pairwise_filter.2 (List.pairwise_lt_range.imp fun {x y} hxy h1 h2 => ?_))
    exact .inr ⟨(of_decide_eq_true h1).trans (of_decide_eq_true h2).symm, hxy⟩
  · have h1 := of_decide_eq_true (List.mem_filter.1 hx).2
    have h2 := of_decide_eq_true (List.mem_filter.1 hy).2
    exact .inl (by omega)
theorem ordN_mem (n : Nat) (D : Nat → Nat) (h : ∀ i, i < n → D i ≤ n) (x : Nat) : x ∈ ordN n D ↔ x < n := by
  unfold ordN
  rw [List.mem_flatMap]
  constructor
  · rintro ⟨d, _, hx⟩
    exact List.mem_range.1 (List.mem_filter.1 hx).1
  · intro hx
    exact ⟨D x, List.mem_range.2 (by have := h x hx; omega), List.mem_filter.2 ⟨List.mem_range.2 hx, by simp⟩⟩
theorem ordN_of {n : Nat} {D f : Nat → Nat} (h : ∀ i, i < n → D i ≤ n) (hs : Srt D f 0 n) (hg : ∀ x, Seg f 0 n x ↔ x < n) : (List.range n).map f = ordN n D := by
  refine pw_ext (ltL_asymm D) _ _ ?_ (ordN_pw n D) fun x => ?_
  · rw [List.pairwise_map]
    refine (List.Pairwise.and_mem.1 List.pairwise_lt_range).imp fun {x y} hxy => ?_
    exact hs x y (Nat.zero_le _) hxy.2.2 (List.mem_range.1 hxy.2.1)
  · rw [ordN_mem n D h, ← hg x, List.mem_map]
    constructor
    · rintro ⟨i, h1, h2⟩; exact ⟨i, Nat.zero_le _, List.mem_range.1 h1, h2⟩
    · rintro ⟨i, _, h1, h2⟩; exact ⟨i, List.mem_range.2 h1, h2⟩
theorem ordN_zero (D : Nat → Nat) : ordN 0 D = [] := rfl

set_option maxHeartbeats 1600000 in
theorem in_nil (fv : Value) (w : World) : Calls Try.prog 46 #[.slice none 0 0, .int .i64 0, .int .i64 0, fv] w fun e w' => e = .returned (.tuple #[]) ∧ w' = w := by
  go_enter Try.func46, Try.ntmps46
  go_wp2_with fail
  go_loop [8] (fun y => y = .int .i64 1) (fun _ => 0)
  case atStart => rfl
  case round =>
    obtain rfl := hrel
    go_wp2
    go_end0
    exact ⟨rfl, rfl⟩
set_option maxHeartbeats 1600000 in
theorem stable_nil (fv : Value) (w : World) : Calls Try.prog 41 #[.slice none 0 0, .int .i64 0, fv] w fun e w' => e = .returned (.tuple #[]) ∧ w' = w := by
  have Hi := Lib.hid (in_nil fv)
  go_enter Try.func41, Try.ntmps41
  go_wp2
  go_loop [7, 8] (fun a b => a = .int .i64 0 ∧ b = .int .i64 20) (fun _ _ => 0)
  case atStart => exact ⟨rfl, rfl⟩
  case round =>
    obtain ⟨rfl, rfl⟩ := hrel
    go_wp2_with fail
    refine (Hi.out _).mono ?_
    rintro e w1 ⟨rfl, hw⟩
    have HW := Lib.hid hw
    clear hw
    go_wp2_with fail
    go_loop [6, 7, 8, 9] (fun a _ _ _ => a = .int .i64 20) (fun _ _ _ _ => 0)
    case atStart => rfl
    case round =>
      obtain rfl := hrel
      go_wp2_with fail
      go_end0
      exact ⟨rfl, HW.out⟩
set_option maxHeartbeats 1600000 in
theorem sortStable_nil (fv : Value) (w : World) : Calls Try.prog 33 #[.slice none 0 0, fv] w fun e w' => e = .returned (.tuple #[]) ∧ w' = w := by
  have Hi := Lib.hid (stable_nil fv)
  go_enter Try.func33, Try.ntmps33
  go_wp2_with fail
  refine (Hi.out _).mono ?_
  rintro e w1 ⟨rfl, hw⟩
  have HW := Lib.hid hw
  clear hw
  go_wp2_with fail
  go_end0
  exact ⟨rfl, HW.out⟩

/-- the closure of Order -/
theorem cmpOk_any {lo up g B G n : Nat} {X : GX} {ns nd : List (List Nat)} {ds : List Nat} {w0 : World} (h : GAt lo up w0 g X ns nd ds) (hn : n = ns.length) (hB : w0.cell? ⟨B, 0, none⟩ = some (gP g)) (hg : G ∉ [B, g, X.P]) :
    CmpOk G B n (fun i => ds.getD i 0) w0 := by
  intro wr T x y hx hy
  obtain ⟨d0, d1, d2⟩ := h.hd.cells
  have cx := h.dp.cell1 x (by rw [h.dl, ← hn]; exact hx)
  have cy := h.dp.cell1 y (by rw [h.dl, ← hn]; exact hy)
  rw [show ds[x]'(by rw [h.dl, ← hn]; exact hx) = ds.getD x 0 by simp [show x < ds.length by rw [h.dl, ← hn]; exact hx]] at cx
  rw [show ds[y]'(by rw [h.dl, ← hn]; exact hy) = ds.getD y 0 by simp [show y < ds.length by rw [h.dl, ← hn]; exact hy]] at cy
  rw [← hn] at d2
  simp only [List.mem_cons, List.not_mem_nil, or_false, not_or] at hg
  exact ocmp_any B g X.P n x y _ _ wr (by rw [hn]; exact h.lt) (T.cell hB (by simp; exact fun e => hg.1 e.symm)) (T.cell d2 (by simp; exact fun e => hg.2.1 e.symm)) hx hy (T.cell cx (by simp; exact fun e => hg.2.2 e.symm)) (T.cell cy (by simp; exact fun e => hg.2.2 e.symm))

theorem ordN_length {n : Nat} {D f : Nat → Nat} (h : ∀ i, i < n → D i ≤ n) (hs : Srt D f 0 n) (hg : ∀ x, Seg f 0 n x ↔ x < n) : (ordN n D).length = n := by rw [← ordN_of h hs hg]; simp

set_option maxRecDepth 20000 in
set_option maxHeartbeats 3200000 in
/-- Order -/
theorem order_any (lo up g : Nat) (X : GX) (ns nd : List (List Nat)) (ds : List Nat) (w : World) (h : GAt lo up w g X ns nd ds) (n : Nat) (hn : n = ns.length) (h40 : n < 40) (hD : ∀ i, i < n → ds.getD i 0 ≤ n) :
    Calls Try.prog 20 #[gP g] w fun e w' => OutI (iN (ordN n fun i => ds.getD i 0)) w e w' := by
  have T0 := (Touch.refl [] w).alloc (.cells #[gP g] 25)
  have hB0 := heap_alloc_new w (.cells #[gP g] 25)
  have h1 := h.touch0 T0
  obtain ⟨d0, d1, d2⟩ := h1.hd.cells
  rw [← hn] at d0 d1 d2
  have dB := cell_blk hB0 (i := 0) rfl
  obtain ⟨W0, hW0⟩ : ∃ W0, W0 = w.alloc (.cells #[gP g] 25) := ⟨_, rfl⟩
  have HG := Lib.hid h1
  have HT0 := Lib.hid T0
  have HB0 := Lib.hid hB0
  have HN := Lib.hid hn
  have HD := Lib.hid hD
  clear h h1 T0 hB0 hn hW0 W0 hD
  go_enter Try.func20, Try.ntmps20
  go_wp2_with fail
  go_loopw [3, 10] (fun v y wr => ∃ (k : Nat) (A : Option Addr) (c : Nat), k ≤ n ∧ (A = none ∨ 0 < k) ∧ y = .int .i64 k ∧ v = .slice A k c ∧ Hid (OwnK 3 1 nE wr A c (List.range k) ∧ Touch [] (w.alloc (.cells #[gP g] 25)) wr ∧ ∀ b ∈ fpo A, w.heap.size + 1 ≤ b)) (fun _ y _ => n - (intOf y).toNat)
  case atStart => exact ⟨0, none, 0, by omega, .inl rfl, rfl, rfl, Lib.hid ⟨OwnK.nil _ _ _ _, Touch.refl _ _, by simp [fpo]⟩⟩
  case round =>
    obtain ⟨k, A, c, hk, hA0, rfl, rfl, HO⟩ := hrel
    by_cases hkn : k < n
    · have tb := (Touch.refl [] wr).alloc (.cells #[.int .i64 (k : Int)] 3)
      go_wp2_with (at_builtin; refine stop ?_)
      refine go ?_
      refine wpList_appK (enc := nE) rfl (.tmp 13) (.tmp 15) 31 rfl 3 (.int .i64 0) 1 8 info_int Try.underlying31 rfl (by omega) (fun _ => rfl) (fun x u hu => by simp only [List.mem_singleton] at hu; subst hu; rfl) A k c (List.range k) List.length_range rfl (HO.out.1.touch0 tb)
        (some ⟨wr.heap.size, 0, none⟩) 1 1 [k] rfl rfl (RdK.one (enc := nE) wr 3 k #[.int .i64 (k : Int)] rfl) (by omega) (by omega) ?_
      intro A3 c3 w3 hown3 ht3 hf3
      have H3 := Lib.hid (And.intro hown3 (And.intro ht3 hf3))
      clear hown3 ht3 hf3
      go_wp2_with fail
      go_roundw
      case rel =>
        obtain ⟨hown3, ht3, hf3⟩ := H3.out
        refine ⟨k + 1, A3, c3, by omega, .inr (by omega), by go_num, rfl, Lib.hid ⟨by rw [List.range_succ]; exact hown3, (HO.out.2.1.trans0 tb).trans ht3 (fun b hb => .inr (by rw [World.size_alloc]; exact HO.out.2.2 b hb)), fun b hb => ?_⟩⟩
        rcases hf3 b hb with e | e
        · exact HO.out.2.2 b e
        · rw [World.size_alloc] at e
          have := HO.out.2.1.size
          rw [World.size_alloc] at this; omega
      case measure => simp [intOf]; omega
    · obtain rfl : k = n := by omega
      rcases HO.out.1.head with ⟨e0, e, e2⟩ | ⟨G, rfl⟩
      · have := congrArg List.length e
        simp at this
        subst this e0 e2
        have Hi := Lib.hid (sortStable_nil (.func (.func 34) #[] #[.pointer (some ⟨w.heap.size, 0, none⟩)]))
        go_wp2_with fail
        refine (Hi.out _).mono ?_
        rintro e w1 ⟨rfl, hw⟩
        have HW := Lib.hid hw
        clear hw
        go_wp2_with fail
        go_ret
        exact ⟨none, 0, rfl, OwnK.nil _ _ _ _, by rw [HW.out]; exact HT0.out.trans0 HO.out.2.1, by simp [fpo]⟩
      · have hG : w.heap.size + 1 ≤ G := HO.out.2.2 G (by simp [fpo])
        rcases hA0 with hA0 | hk0
        · cases hA0
        · have hgl := lt_blk HG.out.hd
          rw [World.size_alloc] at hgl
          have hPl := HG.out.dp.lt X.P (by simp [fpo])
          rw [World.size_alloc] at hPl
          have hne : G ∉ [w.heap.size, g, X.P] := by
            simp only [List.mem_cons, List.not_mem_nil, or_false, not_or]
            exact ⟨by omega, by omega, by omega⟩
          have hR : RowF wr G c k (fun i => i) := by unfold RowF; rw [List.map_id']; exact HO.out.1
          have hS := sortStable_any G c k w.heap.size hk0 h40 (fun i => ds.getD i 0) wr (cmpOk_any (HG.out.touch0 HO.out.2.1) HN.out (HO.out.2.1.cell dB (by simp)) hne) (fun i => i) wr hR (Touch.refl _ _) (fun i j _ h _ => h) (fun i h => h)
          have HS := Lib.hid hS
          clear hS hR
          go_wp2_with fail
          refine HS.out.mono ?_
          rintro e w2 ⟨rfl, f, hr, hm, ht⟩
          have hseg : ∀ x, Seg f 0 k x ↔ x < k := fun x => (hm.seg x).trans ⟨fun ⟨i, _, h1, h2⟩ => by rw [← h2]; exact h1, fun hx => ⟨x, Nat.zero_le _, hx, rfl⟩⟩
          have hlen := ordN_length HD.out hm.srt hseg
          have hr2 : OwnK 3 1 nE w2 (some ⟨G, 0, none⟩) c (ordN k fun i => ds.getD i 0) := by
            have := hr
            unfold RowF at this
            rw [ordN_of HD.out hm.srt hseg] at this
            exact this
          obtain ⟨L, hL⟩ : ∃ L, L = ordN k fun i => ds.getD i 0 := ⟨_, rfl⟩
          rw [← hL] at hr2 hlen
          have HL := Lib.hid (And.intro hL (And.intro hlen (And.intro hr2 ht)))
          clear hr hm ht hseg hlen hr2 hL HS
          go_wp2_with fail
          go_ret
          obtain ⟨hL, hlen, hr2, ht⟩ := HL.out
          rw [← hL]
          have hlen2 : (iN L).length = k := by unfold iN; simpa using hlen
          refine ⟨some ⟨G, 0, none⟩, c, ?_, hr2.toI, ?_, ?_⟩
          · rw [hlen2]; rfl
          · exact (HT0.out.trans0 HO.out.2.1).trans ht (fun b hb => by simp at hb; subst hb; exact .inr (by omega))
          · intro b hb; simp [fpo] at hb; subst hb; omega
end Go.Proofs.Ytmehdlflhllhdaa
