/- bywashlaw24.step at Has: the walk. For every queue. -/
import Derived.Test.YthhjioeipjnjmaaPlayF
namespace Go.Proofs.Ythhjioeipjnjmaa
open Go.RowKit

/-- what Has tells, in two ways -/
theorem hasV_or {L : List QE} {p : Int} (h : InOrd L p) (a : ByteArray) (i : Int) :
    (∃ e ∈ L, e.is a i ∧ hasV L a i = .tuple #[itV e, .bool true] ∧ ∀ y ∈ L, y.is a i → y = e) ∨ ((∀ e ∈ L, ¬ e.is a i) ∧ hasV L a i = .tuple #[noIt, .bool false]) := by
  by_cases hm : ∃ e ∈ L, e.is a i
  · left
    rcases hf : L.find? (fun e => decide (e.is a i)) with _ | e
    · rw [List.find?_eq_none] at hf
      obtain ⟨e, he, hei⟩ := hm
      exact absurd (by simpa using hei) (by simpa using hf e he)
    · have h1 := List.find?_some hf
      have h2 := List.mem_of_find?_eq_some hf
      have h1' : e.is a i := by simpa using h1
      refine ⟨e, h2, h1', by unfold hasV; rw [hf], fun y hy hyi => ?_⟩
      obtain ⟨m, hx, hxe⟩ := List.getElem_of_mem h2
      obtain ⟨n, hn, hne⟩ := List.getElem_of_mem hy
      have hpw := List.pairwise_iff_getElem.1 h.parts
      rcases Nat.lt_trichotomy m n with h3 | h3 | h3
      · exact absurd ⟨by rw [hxe, hne, h1'.1, hyi.1], by rw [hxe, hne, h1'.2, hyi.2]⟩ (hpw m n hx hn h3)
      · subst h3; rw [← hne, hxe]
      · exact absurd ⟨by rw [hxe, hne, h1'.1, hyi.1], by rw [hxe, hne, h1'.2, hyi.2]⟩ (hpw n m hn hx h3)
  · right
    have hno : ∀ e ∈ L, ¬ e.is a i := fun e he k => hm ⟨e, he, k⟩
    refine ⟨hno, ?_⟩
    unfold hasV
    rw [List.find?_eq_none.2 (fun e he => by simpa using hno e he)]

set_option maxRecDepth 20000 in
set_option maxHeartbeats 3200000 in
theorem step_has_yes (g : Nat) (fp : List Nat) (L : List QE) (p : Nat) (A : Option Addr) (c : Nat) (o : QOp) (hk : o.kind = 5) (ho : o.Ok) (e : QE) (he : e ∈ L) (hei : e.is o.x.asset o.x.index) (hv : hasV L o.x.asset o.x.index = .tuple #[itV e, .bool true]) (huniq : ∀ y ∈ L, y.is o.x.asset o.x.index → y = e) (w : World) (h : StepPre g fp L p A c w) :
    Calls Try.prog 15 #[.pointer (some ⟨g, 0, none⟩), .slice A L.length c, opV o] w (StepPost g fp L p w) := by
  obtain ⟨kd, nw, ms, x⟩ := o
  simp only at hk hei hv huniq
  subst hk
  have ta := ((Touch.refl [] w).alloc (.cells #[.int .i64 5, .int .i64 nw, .int .i64 ms, .string x.asset, .int .i64 x.index, .int .i64 x.due, .int .i64 x.rank] 43)).alloc (.cells #[.string x.asset, .int .i64 x.index] 26)
  have hbp := heap_alloc_new (w.alloc (.cells #[.int .i64 5, .int .i64 nw, .int .i64 ms, .string x.asset, .int .i64 x.index, .int .i64 x.due, .int .i64 x.rank] 43)) (.cells #[.string x.asset, .int .i64 x.index] 26)
  rw [World.size_alloc] at hbp
  have hhas := has_any g fp L p x.asset x.index ho.x.t ho.x.i.1 ho.x.i.2 _ (h.hq.touch0 ta)
  rw [hv] at hhas
  have Hh := Lib.hid hhas
  unfold partV itV at Hh
  have hLok := h.hq.ord.2
  have H := Lib.hid (And.intro h (And.intro ta (And.intro hbp (And.intro hLok (And.intro he (And.intro hei huniq))))))
  have hl1 := h.hl
  clear h ta hbp hhas hv hLok he hei huniq
  unfold opV
  go_enter Try.func15, Try.ntmps15
  go_wp2_with fail
  refine Hh.out.mono ?_
  rintro e3 w3 ⟨rfl, t3⟩
  have hb3 := t3.blk H.out.2.2.1 (by simp)
  have hws := t3.size
  rw [World.size_alloc, World.size_alloc] at hws
  have hwl : w.heap.size + 1 < w3.heap.size := by omega
  have tb := (Touch.refl [] w3).alloc (.cells #[.string e.asset, .int .i64 e.index, .int .i64 e.due, .int .i64 e.rank] 28)
  have hbi := heap_alloc_new w3 (.cells #[.string e.asset, .int .i64 e.index, .int .i64 e.due, .int .i64 e.rank] 28)
  have H3 := Lib.hid (And.intro t3 (And.intro tb (And.intro hbi (tb.blk hb3 (by simp)))))
  clear t3 tb hbi hb3 hws
  go_wp2_with fail
  obtain ⟨W, hW⟩ : ∃ W, W = w3.alloc (.cells #[.string e.asset, .int .i64 e.index, .int .i64 e.due, .int .i64 e.rank] 28) := ⟨_, rfl⟩
  have HW := Lib.hid hW
  try rw [← hW]
  have H4 : Hid (Touch [] w3 W ∧ W.heap[w3.heap.size]? = some (.cells #[.string e.asset, .int .i64 e.index, .int .i64 e.due, .int .i64 e.rank] 28 (0, 0)) ∧ W.heap[w.heap.size + 1]? = some (.cells #[.string x.asset, .int .i64 x.index] 26 (0, 0))) := Lib.hid (by rw [hW]; exact H3.out.2)
  clear hW
  go_loopw [106] (fun i wr => ∃ (k : Nat), k ≤ L.length ∧ i = .int .i64 k ∧ Touch [] W wr ∧ Hid (∀ j (hj : j < L.length), j < k → ¬ L[j].is x.asset x.index)) (fun i _ => L.length - (intOf i).toNat)
  case atStart => exact ⟨0, by omega, rfl, Touch.refl [] _, Lib.hid (fun j hj h0 => absurd h0 (by omega))⟩
  case round =>
    obtain ⟨k, hk, rfl, ht, Hbef⟩ := hrel
    obtain ⟨tb, hbi, hbp⟩ := H4.out
    have hbi2 := ht.blk hbi (by simp)
    have hbp2 := ht.blk hbp (by simp)
    have p0 : wr.cell? ⟨w.heap.size + 1, 0, none⟩ = some (.string x.asset) := cell_blk hbp2 rfl
    have p1 : wr.cell? ⟨w.heap.size + 1, 1, none⟩ = some (.int .i64 x.index) := cell_blk hbp2 rfl
    have i0 : wr.cell? ⟨w3.heap.size, 0, none⟩ = some (.string e.asset) := cell_blk hbi2 rfl
    have i1 : wr.cell? ⟨w3.heap.size, 1, none⟩ = some (.int .i64 e.index) := cell_blk hbi2 rfl
    have i2 : wr.cell? ⟨w3.heap.size, 2, none⟩ = some (.int .i64 e.due) := cell_blk hbi2 rfl
    have i3 : wr.cell? ⟨w3.heap.size, 3, none⟩ = some (.int .i64 e.rank) := cell_blk hbi2 rfl
    have hpl := World.block_lt_of_cell? wr _ p0
    have hil := World.block_lt_of_cell? wr _ i0
    have Ht := Lib.hid ((H.out.2.1.trans0 H3.out.1).trans0 (tb.trans0 ht))
    have Htr := Lib.hid ht
    clear tb hbi hbp hbi2 hbp2
    by_cases hlt : k < L.length
    · obtain ⟨ad, b, off, hAe, hadd, -, hcell⟩ := (((H.out.1.hr.touch0 H.out.2.1).touch0 H3.out.1).touch0 H4.out.1 |>.touch0 ht).at_ 4 itE_length (by omega) k hlt
      subst hAe
      have e0 := hcell 0 (.string L[k].asset) rfl
      have e1 := hcell 1 (.int .i64 L[k].index) rfl
      have e2 := hcell 2 (.int .i64 L[k].due) rfl
      have e3 := hcell 3 (.int .i64 L[k].rank) rfl
      rw [show off + 0 = off by omega] at e0
      have hLk := List.getElem_mem hlt
      have hsame : ∃ y, y = L[k] := ⟨_, rfl⟩
      obtain ⟨y, hy⟩ := hsame
      rw [← hy] at e0 e1 e2 e3 hLk
      have hkI : (k : Int) < (L.length : Int) := by omega
      have hbb := bs_beq y.asset x.asset
      clear hcell ht
      have Hy := Lib.hid hy
      clear hy
      by_cases hya : y.asset = x.asset
      · rw [decide_eq_true hya] at hbb
        by_cases hyi : y.index = x.index
        · have hbi3 : (y.index == x.index) = true := by rw [hyi]; simp
          obtain rfl : y = e := H.out.2.2.2.2.2.2 y hLk ⟨hya, hyi⟩
          have heq : ∀ W : World, (Op.equalIn 9999 65 (.agg #[.string y.asset, .int .i64 y.index, .int .i64 y.due, .int .i64 y.rank]) (.agg #[.string y.asset, .int .i64 y.index, .int .i64 y.due, .int .i64 y.rank])).run Try.prog W = .ok true W := fun W => eq_refItem y (H.out.2.2.2.1 y hLk) W
          have Hof := Lib.hid (fun W => refOf_any y W)
          unfold itV at Hof
          have tz := (Touch.refl [] wr).alloc (.cells #[.string y.asset, .int .i64 y.index, .int .i64 y.due, .int .i64 y.rank] 65)
          have hz := heap_alloc_new wr (.cells #[.string y.asset, .int .i64 y.index, .int .i64 y.due, .int .i64 y.rank] 65)
          obtain ⟨Z, hZ⟩ : ∃ Z, Z = wr.alloc (.cells #[.string y.asset, .int .i64 y.index, .int .i64 y.due, .int .i64 y.rank] 65) := ⟨_, rfl⟩
          have HZ := Lib.hid hZ
          rw [← hZ] at tz hz
          have j0 := TW.cell (tz.cell i0 (by simp))
          have j1 := TW.cell (tz.cell i1 (by simp))
          have j2 := TW.cell (tz.cell i2 (by simp))
          have j3 := TW.cell (tz.cell i3 (by simp))
          have l0 : ∀ q : TW Z, q.w.cell? ⟨wr.heap.size, 0, none⟩ = some (.string y.asset) := TW.cell (cell_blk hz rfl)
          have l1 : ∀ q : TW Z, q.w.cell? ⟨wr.heap.size, 1, none⟩ = some (.int .i64 y.index) := TW.cell (cell_blk hz rfl)
          have l2 : ∀ q : TW Z, q.w.cell? ⟨wr.heap.size, 2, none⟩ = some (.int .i64 y.due) := TW.cell (cell_blk hz rfl)
          have l3 : ∀ q : TW Z, q.w.cell? ⟨wr.heap.size, 3, none⟩ = some (.int .i64 y.rank) := TW.cell (cell_blk hz rfl)
          have Htz := Lib.hid tz
          clear hZ tz hz hya hyi hLk
          go_wp2_with fail
          rw [← HZ.out]
          refine wp_region_tw Z (Touch.refl _ _) (by kernel_rfl) (by kernel_rfl) ?_
          repeat (go_big_quiet_step (((go_at_call 25; exact Calls.tw _ (Hof.out _)))))
          refine wpQuiet_nil ?_
          rintro _ ⟨z, rfl⟩
          go_wp2_with fail
          go_ret2
          obtain ⟨h, ta, _⟩ := H.out
          have T := (Ht.out.trans0 Htz.out).trans0 z.t
          exact ⟨_, c, L, p, fp, rfl, h.hq.touch0 T, h.hr.touch0 T, h.hc, h.hm, fun b hb => ⟨(h.ha b hb).1, Nat.lt_of_lt_of_le (h.ha b hb).2 T.size⟩, T.mono (by simp), fun b hb => .inl hb, by omega, by omega⟩
        · have hbi3 : (y.index == x.index) = false := by rw [beq_eq_false_iff_ne]; exact hyi
          have Hni := Lib.hid (show ¬ y.is x.asset x.index from fun h => hyi h.2)
          clear hya hyi hLk
          go_wp2_with fail
          go_roundw
          case rel => exact ⟨k + 1, by omega, by go_num, Htr.out.alloc _, Lib.hid (fun j hj hjk => by
            rcases Nat.lt_or_ge j k with h1 | h1
            · exact Hbef.out j hj h1
            · obtain rfl : j = k := by omega
              rw [← Hy.out]; exact Hni.out)⟩
          case measure => simp [intOf]; omega
      · rw [decide_eq_false hya] at hbb
        have Hni := Lib.hid (show ¬ y.is x.asset x.index from fun h => hya h.1)
        clear hya hLk
        go_wp2_with fail
        go_roundw
        case rel => exact ⟨k + 1, by omega, by go_num, Htr.out.alloc _, Lib.hid (fun j hj hjk => by
          rcases Nat.lt_or_ge j k with h1 | h1
          · exact Hbef.out j hj h1
          · obtain rfl : j = k := by omega
            rw [← Hy.out]; exact Hni.out)⟩
        case measure => simp [intOf]; omega
    · obtain rfl : k = L.length := by omega
      obtain ⟨j, hj, hje⟩ := List.getElem_of_mem H.out.2.2.2.2.1
      exact absurd (by rw [hje]; exact H.out.2.2.2.2.2.1) (Hbef.out j hj hj)

set_option maxRecDepth 20000 in
set_option maxHeartbeats 3200000 in
theorem step_has_no (g : Nat) (fp : List Nat) (L : List QE) (p : Nat) (A : Option Addr) (c : Nat) (o : QOp) (hk : o.kind = 5) (ho : o.Ok) (hno : ∀ e ∈ L, ¬ e.is o.x.asset o.x.index) (hv : hasV L o.x.asset o.x.index = .tuple #[noIt, .bool false]) (w : World) (h : StepPre g fp L p A c w) :
    Calls Try.prog 15 #[.pointer (some ⟨g, 0, none⟩), .slice A L.length c, opV o] w (StepPost g fp L p w) := by
  obtain ⟨kd, nw, ms, x⟩ := o
  simp only at hk hno hv
  subst hk
  have ta := ((Touch.refl [] w).alloc (.cells #[.int .i64 5, .int .i64 nw, .int .i64 ms, .string x.asset, .int .i64 x.index, .int .i64 x.due, .int .i64 x.rank] 43)).alloc (.cells #[.string x.asset, .int .i64 x.index] 26)
  have hbp := heap_alloc_new (w.alloc (.cells #[.int .i64 5, .int .i64 nw, .int .i64 ms, .string x.asset, .int .i64 x.index, .int .i64 x.due, .int .i64 x.rank] 43)) (.cells #[.string x.asset, .int .i64 x.index] 26)
  rw [World.size_alloc] at hbp
  have hhas := has_any g fp L p x.asset x.index ho.x.t ho.x.i.1 ho.x.i.2 _ (h.hq.touch0 ta)
  rw [hv] at hhas
  have Hh := Lib.hid hhas
  unfold partV noIt at Hh
  have hLok := h.hq.ord.2
  have H := Lib.hid (And.intro h (And.intro ta (And.intro hbp (And.intro hLok hno))))
  have hl1 := h.hl
  clear h ta hbp hhas hv hLok hno
  unfold opV
  go_enter Try.func15, Try.ntmps15
  go_wp2_with fail
  refine Hh.out.mono ?_
  rintro e3 w3 ⟨rfl, t3⟩
  have hb3 := t3.blk H.out.2.2.1 (by simp)
  have hws := t3.size
  rw [World.size_alloc, World.size_alloc] at hws
  have hwl : w.heap.size + 1 < w3.heap.size := by omega
  have tb := (Touch.refl [] w3).alloc (.cells #[.string ⟨#[]⟩, .int .i64 0, .int .i64 0, .int .i64 0] 28)
  have hbi := heap_alloc_new w3 (.cells #[.string ⟨#[]⟩, .int .i64 0, .int .i64 0, .int .i64 0] 28)
  have H3 := Lib.hid (And.intro t3 (And.intro tb (And.intro hbi (tb.blk hb3 (by simp)))))
  clear t3 tb hbi hb3 hws
  go_wp2_with fail
  obtain ⟨W, hW⟩ : ∃ W, W = w3.alloc (.cells #[.string ⟨#[]⟩, .int .i64 0, .int .i64 0, .int .i64 0] 28) := ⟨_, rfl⟩
  have HW := Lib.hid hW
  try rw [← hW]
  have H4 : Hid (Touch [] w3 W ∧ W.heap[w3.heap.size]? = some (.cells #[.string ⟨#[]⟩, .int .i64 0, .int .i64 0, .int .i64 0] 28 (0, 0)) ∧ W.heap[w.heap.size + 1]? = some (.cells #[.string x.asset, .int .i64 x.index] 26 (0, 0))) := Lib.hid (by rw [hW]; exact H3.out.2)
  clear hW
  go_loopw [106] (fun i wr => ∃ (k : Nat), k ≤ L.length ∧ i = .int .i64 k ∧ Touch [] W wr) (fun i _ => L.length - (intOf i).toNat)
  case atStart => exact ⟨0, by omega, rfl, Touch.refl [] _⟩
  case round =>
    obtain ⟨k, hk, rfl, ht⟩ := hrel
    obtain ⟨tb, hbi, hbp⟩ := H4.out
    have hbi2 := ht.blk hbi (by simp)
    have hbp2 := ht.blk hbp (by simp)
    have p0 : wr.cell? ⟨w.heap.size + 1, 0, none⟩ = some (.string x.asset) := cell_blk hbp2 rfl
    have p1 : wr.cell? ⟨w.heap.size + 1, 1, none⟩ = some (.int .i64 x.index) := cell_blk hbp2 rfl
    have i0 : wr.cell? ⟨w3.heap.size, 0, none⟩ = some (.string ⟨#[]⟩) := cell_blk hbi2 rfl
    have i1 : wr.cell? ⟨w3.heap.size, 1, none⟩ = some (.int .i64 0) := cell_blk hbi2 rfl
    have i2 : wr.cell? ⟨w3.heap.size, 2, none⟩ = some (.int .i64 0) := cell_blk hbi2 rfl
    have i3 : wr.cell? ⟨w3.heap.size, 3, none⟩ = some (.int .i64 0) := cell_blk hbi2 rfl
    have hpl := World.block_lt_of_cell? wr _ p0
    have hil := World.block_lt_of_cell? wr _ i0
    have Ht := Lib.hid ((H.out.2.1.trans0 H3.out.1).trans0 (tb.trans0 ht))
    have Htr := Lib.hid ht
    clear tb hbi hbp hbi2 hbp2
    by_cases hlt : k < L.length
    · obtain ⟨ad, b, off, hAe, hadd, -, hcell⟩ := (((H.out.1.hr.touch0 H.out.2.1).touch0 H3.out.1).touch0 H4.out.1 |>.touch0 ht).at_ 4 itE_length (by omega) k hlt
      subst hAe
      have e0 := hcell 0 (.string L[k].asset) rfl
      have e1 := hcell 1 (.int .i64 L[k].index) rfl
      have e2 := hcell 2 (.int .i64 L[k].due) rfl
      have e3 := hcell 3 (.int .i64 L[k].rank) rfl
      rw [show off + 0 = off by omega] at e0
      have hLk := List.getElem_mem hlt
      have hsame : ∃ y, y = L[k] := ⟨_, rfl⟩
      obtain ⟨y, hy⟩ := hsame
      rw [← hy] at e0 e1 e2 e3 hLk
      have hkI : (k : Int) < (L.length : Int) := by omega
      have hbb := bs_beq y.asset x.asset
      clear hcell ht
      have Hy := Lib.hid hy
      clear hy
      by_cases hya : y.asset = x.asset
      · rw [decide_eq_true hya] at hbb
        by_cases hyi : y.index = x.index
        · have hbi3 : (y.index == x.index) = true := by rw [hyi]; simp
          exact absurd ⟨hya, hyi⟩ (H.out.2.2.2.2 y hLk)
        · have hbi3 : (y.index == x.index) = false := by rw [beq_eq_false_iff_ne]; exact hyi
          clear hya hyi hLk
          go_wp2_with fail
          go_roundw
          case rel => exact ⟨k + 1, by omega, by go_num, Htr.out.alloc _⟩
          case measure => simp [intOf]; omega
      · rw [decide_eq_false hya] at hbb
        clear hya hLk
        go_wp2_with fail
        go_roundw
        case rel => exact ⟨k + 1, by omega, by go_num, Htr.out.alloc _⟩
        case measure => simp [intOf]; omega
    · obtain rfl : k = L.length := by omega
      have heq := eq_zero
      clear ht
      go_wp2_with fail
      go_quiet (fail)
      go_wp2_with fail
      go_ret2
      obtain ⟨h, ta, _⟩ := H.out
      have T := Ht.out.drewN nq
      exact ⟨A, c, L, p, fp, rfl, h.hq.touch0 T, h.hr.touch0 T, h.hc, h.hm, fun b hb => ⟨(h.ha b hb).1, Nat.lt_of_lt_of_le (h.ha b hb).2 T.size⟩, T.mono (by simp), fun b hb => .inl hb, by omega, by omega⟩
end Go.Proofs.Ythhjioeipjnjmaa
