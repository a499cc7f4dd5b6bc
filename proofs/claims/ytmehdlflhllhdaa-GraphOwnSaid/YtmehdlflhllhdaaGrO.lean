/- graph.Order's closure; SortStableFunc of less than twenty; Order's length for such a graph. -/
import Derived.Test.YtmehdlflhllhdaaGrH
import Derived.BigQuiet
namespace Go.Proofs.Ytmehdlflhllhdaa
open Go.RowKit Go.Sort Go.Lib Go.Shelf

theorem touch_putRow0 {α : Type} [Inhabited α] (enc : α → Value) (w : World) (g off : Nat) (d : Array α) : Touch [g] w (putRow enc w g off d) :=
  ⟨rfl, rfl, rfl, by simp, fun k _ hn => by
    have : ¬ g = k := fun e => hn (by simp [e])
    simp [putRow, mapBlock, Array.getElem?_modify, this]⟩
theorem touch_sortWorld {α : Type} [Inhabited α] (enc : α → Value) (w : World) (q g : Nat) (d : Array α) (os : Array Obj) : Touch [g] w (sortWorld enc w g 0 q d os) := by
  have h := touch_putRow enc w q g 0 d
  refine ⟨h.os, h.tape, h.output, ?_, fun k hk hn => ?_⟩
  · have := h.size
    simp only [sortWorld, grow, Array.size_append]
    omega
  · rw [← h.block k hk hn]
    have hk2 : k < (putRow enc (Go.Sort.ahead w q) g 0 d).heap.size := Nat.lt_of_lt_of_le hk h.size
    simp only [sortWorld, grow]
    exact Array.getElem?_append_left hk2

set_option maxRecDepth 20000 in
set_option maxHeartbeats 1600000 in
/-- the closure: two nodes by their depths -/
theorem ocmp_any (B g P n a b x y : Nat) (w : World) (_hn : n ≤ 2000) (hB : w.cell? ⟨B, 0, none⟩ = some (gP g)) (h2 : w.cell? ⟨g, 2, none⟩ = some (.slice (some ⟨P, 0, none⟩) n n)) (ha : a < n) (hb : b < n)
    (ca : w.cell? ⟨P, a, none⟩ = some (.int .i64 x)) (cb : w.cell? ⟨P, b, none⟩ = some (.int .i64 y)) :
    Calls Try.prog 34 #[.int .i64 a, .int .i64 b, .pointer (some ⟨B, 0, none⟩)] w fun e w' => e = .returned (.int .i64 (Lib.compareInt x y)) ∧ ∃ q, w' = w.drewN q := by
  have h1 := fun w' => Try.cmp_Compare_int (x : Int) (y : Int) w'
  obtain ⟨r, hr⟩ : ∃ r, r = Lib.compareInt (x : Int) (y : Int) := ⟨_, rfl⟩
  rw [← hr] at h1 ⊢
  have H1 := Lib.hid h1
  clear h1 hr
  go_enter Try.func34, Try.ntmps34
  go_wp2_with fail
  go_quiet ((go_at_call 35; refine Calls.quiet_of_same (H1.out _)))
  go_wp2_with fail
  go_ret
  exact ⟨rfl, _, rfl⟩

set_option maxHeartbeats 1600000 in
/-- slices.stableCmpFunc of less than twenty: one block is sorted -/
theorem stable_few {α : Type} [Inhabited α] (enc : α → Value) (hO : OneCell enc) (cf : α → α → Int) (cb : Array Value) (G cap : Nat) (d : Array α) (w : World) (h20 : d.size < 20)
    (hcmp : CmpReads Try.prog 34 cb enc cf G 0 d.size w) (hH : Holds enc w G 0 d) :
    Calls Try.prog 41 #[.slice (some ⟨G, 0, none⟩) d.size cap, .int .i64 d.size, .func (.func 34) #[] cb] w fun e w' => e = .returned (.tuple #[]) ∧ ∃ n, w' = (putRow enc w G 0 (Sort.insertionSort (ltOf cf) d 0 d.size)).drewN n := by
  have hi := Try.insertionSortCmpFunc_one enc hO cf 34 cb G 0 cap 0 d.size d w (enters_of Try.func34 (by kernel_rfl) rfl) hcmp hH (Nat.zero_le _) (Nat.le_refl _) (by omega)
  obtain ⟨s, hs⟩ : ∃ s, s = d.size := ⟨_, rfl⟩
  rw [← hs] at hi h20 ⊢
  obtain ⟨D, hD⟩ : ∃ D, D = Sort.insertionSort (ltOf cf) d 0 s := ⟨_, rfl⟩
  rw [← hD] at hi ⊢
  have Hi := Lib.hid hi
  clear hi hs hD hH hcmp
  go_enter Try.func41, Try.ntmps41
  go_wp2
  go_loop [7, 8] (fun a b => a = .int .i64 0 ∧ b = .int .i64 20) (fun _ _ => 0)
  case atStart => exact ⟨rfl, rfl⟩
  case round =>
    obtain ⟨rfl, rfl⟩ := hrel
    go_wp2_with fail
    refine Hi.out.mono ?_
    rintro e w1 ⟨rfl, n, rfl⟩
    go_wp2_with fail
    go_loop [6, 7, 8, 9] (fun a _ _ _ => a = .int .i64 20) (fun _ _ _ _ => 0)
    case atStart => rfl
    case round =>
      obtain rfl := hrel
      go_wp2_with fail
      go_end0
      exact ⟨rfl, n, rfl⟩

set_option maxHeartbeats 800000 in
theorem sortStable_few {α : Type} [Inhabited α] (enc : α → Value) (hO : OneCell enc) (cf : α → α → Int) (cb : Array Value) (G cap : Nat) (d : Array α) (w : World) (h20 : d.size < 20)
    (hcmp : CmpReads Try.prog 34 cb enc cf G 0 d.size w) (hH : Holds enc w G 0 d) :
    Calls Try.prog 33 #[.slice (some ⟨G, 0, none⟩) d.size cap, .func (.func 34) #[] cb] w fun e w' => e = .returned (.tuple #[]) ∧ ∃ n, w' = (putRow enc w G 0 (Sort.insertionSort (ltOf cf) d 0 d.size)).drewN n := by
  have hi := stable_few enc hO cf cb G cap d w h20 hcmp hH
  obtain ⟨D, hD⟩ : ∃ D, D = Sort.insertionSort (ltOf cf) d 0 d.size := ⟨_, rfl⟩
  rw [← hD] at hi ⊢
  have Hi := Lib.hid hi
  clear hi hD hH hcmp
  go_enter Try.func33, Try.ntmps33
  go_wp2_with fail
  refine Hi.out.mono ?_
  rintro e w1 ⟨rfl, n, rfl⟩
  go_wp2_with fail
  go_end0
  exact ⟨rfl, n, rfl⟩

/-- the numbers below n, in a row -/
theorem rangeI (n : Nat) : List.range n = pick n (fun _ => true) := by
  unfold pick
  exact (List.filter_eq_self.2 (fun _ _ => rfl)).symm
theorem OwnK.holdsF {n : Nat} [Inhabited (Fin n)] {w : World} {G c : Nat} (h : OwnK 3 1 nE w (some ⟨G, 0, none⟩) c (List.range n)) : Holds (fun i : Fin n => nV i.val) w G 0 (Array.ofFn (fun i : Fin n => i)) := by
  intro j hj
  have hj' : j < n := by simpa using hj
  have hc := h.cell1 j (by simpa using hj')
  rw [Nat.zero_add]
  refine ⟨by rw [hc]; simp [hj'], h.free_ j⟩

set_option maxRecDepth 20000 in
set_option maxHeartbeats 3200000 in
/-- Order of a graph of less than twenty nodes: how long it is -/
theorem order_few (lo up g : Nat) (X : GX) (ns nd : List (List Nat)) (ds : List Nat) (w : World) (h : GAt lo up w g X ns nd ds) (n : Nat) (hn : n = ns.length) (h0 : 0 < n) (h20 : n < 20) :
    Calls Try.prog 20 #[gP g] w fun e w' => (∃ A c, e = .returned (.slice A n c)) ∧ Touch [] w w' := by
  have T0 := (Touch.refl [] w).alloc (.cells #[gP g] 25)
  have hB0 := heap_alloc_new w (.cells #[gP g] 25)
  have h1 := h.touch0 T0
  obtain ⟨d0, d1, d2⟩ := h1.hd.cells
  rw [← hn] at d0 d1 d2
  have dB := cell_blk hB0 (i := 0) rfl
  obtain ⟨W0, hW0⟩ : ∃ W0, W0 = w.alloc (.cells #[gP g] 25) := ⟨_, rfl⟩
  have HG := Lib.hid h1
  have HT0 := Lib.hid T0
  have HB0 := Lib.hid hB0
  have HN := Lib.hid hn
  clear h h1 T0 hB0 hn hW0 W0
  go_enter Try.func20, Try.ntmps20
  go_wp2_with fail
  go_loopw [3, 10] (fun v y wr => ∃ (k : Nat) (A : Option Addr) (c : Nat), k ≤ n ∧ y = .int .i64 k ∧ v = .slice A k c ∧ Hid (OwnK 3 1 nE wr A c (List.range k) ∧ Touch [] (w.alloc (.cells #[gP g] 25)) wr ∧ ∀ b ∈ fpo A, w.heap.size + 1 ≤ b)) (fun _ y _ => n - (intOf y).toNat)
  case atStart => exact ⟨0, none, 0, by omega, rfl, rfl, Lib.hid ⟨OwnK.nil _ _ _ _, Touch.refl _ _, by simp [fpo]⟩⟩
  case round =>
    obtain ⟨k, A, c, hk, rfl, rfl, HO⟩ := hrel
    by_cases hkn : k < n
    · have tb := (Touch.refl [] wr).alloc (.cells #[.int .i64 (k : Int)] 3)
      go_wp2_with (at_builtin; refine stop ?_)
      refine go ?_
      refine wpList_appK (enc := nE) rfl (.tmp 13) (.tmp 15) 31 rfl 3 (.int .i64 0) 1 8 info_int Try.underlying31 rfl (by omega) (fun _ => rfl) (fun x u hu => by simp only [List.mem_singleton] at hu; subst hu; rfl) A k c (List.range k) List.length_range rfl (HO.out.1.touch0 tb)
        (some ⟨wr.heap.size, 0, none⟩) 1 1 [k] rfl rfl (RdK.one (enc := nE) wr 3 k #[.int .i64 (k : Int)] rfl) (by omega) (by omega) ?_
      intro A3 c3 w3 hown3 ht3 hf3
      have H3 := Lib.hid (And.intro hown3 (And.intro ht3 hf3))
      clear hown3 ht3 hf3
      go_wp2_with fail
      go_roundw
      case rel =>
        obtain ⟨hown3, ht3, hf3⟩ := H3.out
        refine ⟨k + 1, A3, c3, by omega, by go_num, rfl, Lib.hid ⟨by rw [List.range_succ]; exact hown3, (HO.out.2.1.trans0 tb).trans ht3 (fun b hb => .inr (by rw [World.size_alloc]; exact HO.out.2.2 b hb)), fun b hb => ?_⟩⟩
        rcases hf3 b hb with e | e
        · exact HO.out.2.2 b e
        · rw [World.size_alloc] at e
          have := HO.out.2.1.size
          rw [World.size_alloc] at this; omega
      case measure => simp [intOf]; omega
    · obtain rfl : k = n := by omega
      rcases HO.out.1.head with ⟨_, e, _⟩ | ⟨G, rfl⟩
      · have := congrArg List.length e; simp at this; omega
      · haveI : Inhabited (Fin k) := ⟨⟨0, h0⟩⟩
        have hG : w.heap.size + 1 ≤ G := HO.out.2.2 G (by simp [fpo])
        have hb := HG.out.bg
        have hsz : (Array.ofFn (fun i : Fin k => i)).size = k := by simp
        have hdl := HG.out.dl
        have hcmp : CmpReads Try.prog 34 #[.pointer (some ⟨w.heap.size, 0, none⟩)] (fun i : Fin k => nV i.val) (fun i j => Lib.compareInt (ds.getD i.val 0 : Nat) (ds.getD j.val 0 : Nat)) G 0 k wr := by
          intro m os dk _ x y
          have tS := touch_sortWorld (fun i : Fin k => nV i.val) wr m G dk os
          have TT : Touch [G] (w.alloc (.cells #[gP g] 25)) (sortWorld (fun i : Fin k => nV i.val) wr G 0 m dk os) := (HO.out.2.1.mono (by simp)).trans tS (fun b hb => .inl hb)
          have hlw : ∀ b, b < w.heap.size + 1 → b ∉ [G] := fun b hb hm => by simp at hm; omega
          have hgl := lt_blk HG.out.hd
          rw [World.size_alloc] at hgl
          have hPl := HG.out.dp.lt X.P (by simp [fpo])
          rw [World.size_alloc] at hPl
          have hx := x.isLt
          have hy := y.isLt
          have cx := HG.out.dp.cell1 x.val (by have := HN.out; omega)
          have cy := HG.out.dp.cell1 y.val (by have := HN.out; omega)
          rw [show ds[x.val]'(by have := HN.out; omega) = ds.getD x.val 0 by simp [show x.val < ds.length by have := HN.out; omega]] at cx
          rw [show ds[y.val]'(by have := HN.out; omega) = ds.getD y.val 0 by simp [show y.val < ds.length by have := HN.out; omega]] at cy
          exact ocmp_any w.heap.size g X.P k x.val y.val _ _ _ (by omega) (TT.cell dB (hlw _ (by simp))) (TT.cell d2 (hlw _ hgl)) hx hy (TT.cell cx (hlw _ hPl)) (TT.cell cy (hlw _ hPl))
        have hS := sortStable_few (fun i : Fin k => nV i.val) (fun _ => rfl) _ #[.pointer (some ⟨w.heap.size, 0, none⟩)] G c (Array.ofFn (fun i : Fin k => i)) wr (by rw [hsz]; exact h20) (by rw [hsz]; exact hcmp) HO.out.1.holdsF
        rw [hsz] at hS
        obtain ⟨D, hD⟩ : ∃ D, D = Sort.insertionSort (ltOf fun i j : Fin k => Lib.compareInt (ds.getD i.val 0 : Nat) (ds.getD j.val 0 : Nat)) (Array.ofFn (fun i : Fin k => i)) 0 k := ⟨_, rfl⟩
        rw [← hD] at hS
        have HS := Lib.hid hS
        clear hS hD hcmp hb hdl hsz
        go_wp2_with fail
        refine HS.out.mono ?_
        rintro e w2 ⟨rfl, q, rfl⟩
        go_wp2_with fail
        go_ret
        refine ⟨⟨_, _, rfl⟩, ?_⟩
        have t1 : Touch [] w wr := HT0.out.trans0 HO.out.2.1
        have t2 := touch_putRow0 (fun i : Fin k => nV i.val) wr G 0 D
        exact (t1.trans t2 (fun b hb => by simp at hb; subst hb; exact .inr (by omega))).drewN _
end Go.Proofs.Ytmehdlflhllhdaa
