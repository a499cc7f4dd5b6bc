/- Part 3 of the texts of this proof, one behind the other; each begins with its own sentence. No condition beyond those that its theorems state. -/
import Derived.Test.YtgpadejkmpfafaaDoorFp2
import Derived.Lib.AppendZerosOnto
import Derived.Lib.AppendZeros
import Derived.Deep.RegionWith
import Derived.Lib.ConvBytes
/- slices.Grow, slices.Concat over bytes; frame.Frame, bywashref07.Frame: a frame's bytes. For every slice of bytes. -/
namespace Go.Proofs.YtgpadejkmpfafaaDoor
open Go.RowKit

/-- a slice of slices of bytes leads to these -/
def BsAt (w : World) (A : Option Addr) (ls : List (List UInt8)) : Prop :=
  0 < ls.length → ∃ ad, A = some ad ∧ ∀ j (h : j < ls.length), ∃ A' c', w.cell? (ad.add j) = some (.slice A' ls[j].length c') ∧ RdB w A' ls[j] ∧ ls[j].length ≤ c'
theorem BsAt.touch0 {w w' : World} {A : Option Addr} {ls : List (List UInt8)} (h : BsAt w A ls) (ht : Touch [] w w') : BsAt w' A ls := by
  intro h0
  obtain ⟨ad, rfl, hj⟩ := h h0
  refine ⟨ad, rfl, fun j hl => ?_⟩
  obtain ⟨A', c', h1, h2, h3⟩ := hj j hl
  exact ⟨A', c', ht.cell h1 (by simp), h2.touch0 ht, h3⟩
theorem BsAt.at_ {w : World} {A : Option Addr} {ls : List (List UInt8)} (h : BsAt w A ls) (k : Nat) (hk : k < ls.length) : ∃ ad A' c', A = some ad ∧ w.cell? (ad.add k) = some (.slice A' ls[k].length c') ∧ RdB w A' ls[k] ∧ ls[k].length ≤ c' := by
  obtain ⟨ad, e, hj⟩ := h (by omega)
  obtain ⟨A', c', h1, h2, h3⟩ := hj k hk
  exact ⟨ad, A', c', e, h1, h2, h3⟩

theorem OwnB.cut {w : World} {A : Option Addr} {c : Nat} {l : List UInt8} (h : OwnB w A c l) (k : Nat) (hk : k ≤ l.length) : OwnB w A c (l.take k) := by
  have hlk : (l.take k).length = k := by rw [List.length_take]; omega
  refine ⟨by simp, ?_⟩
  rcases h.2 with ⟨hv, h0⟩ | ⟨g, cap, cur, hv, hb, hg, hnc, hm, hs, ht⟩
  · injection hv with e1 _ e3
    subst e1 e3
    exact .inl ⟨by rw [hlk]; congr 1; omega, by omega⟩
  · injection hv with e1 e2 e3
    subst e1 e3
    refine .inr ⟨g, c, cur, rfl, hb, hg, by omega, hm, hs, ?_⟩
    rw [List.map_take, ← ht, hlk, List.take_take]
    congr 1
    omega

set_option maxRecDepth 100000 in
set_option maxHeartbeats 800000 in
theorem growNil_any (n : Nat) (hn : n ≤ 140737488000000) (w : World) :
    Calls Tryd.prog 55 #[.slice none 0 0, .int .i64 n] w fun e w' => ∃ A c, e = .returned (.slice A 0 c) ∧ OwnB w' A c [] ∧ Touch [] w w' ∧ ∀ b ∈ fpo A, w.heap.size ≤ b := by
  obtain ⟨i0, hi0, hz0, hz1, hz2⟩ := info_parts info_u8
  go_enter Tryd.func55, Tryd.ntmps55
  by_cases h0 : n = 0
  · subst h0
    go_wp2
    go_ret
    exact ⟨none, 0, rfl, OwnB.nil _, Touch.refl _ _, by simp [fpo]⟩
  · have hn0 : 0 < n := by omega
    have hge := grownCap_ge w n 0 5
    have hle := grownCap_le_maxLen w n 0 5 (by simp only [maxLen]; omega)
    have hold : (Builtin.firstCells i0.size 0 (.slice none 0 0)).run Tryd.prog w.drew = .ok ([] : List Value).toArray w.drew := run_firstCells_none w.drew i0.size 0 0 0
    have hrz : ∀ ty, (Builtin.append_ #[22, 3] ty #[.slice none 0 0, .int .i64 (n : Int)]).run Tryd.prog w =
        .ok (.slice (some ⟨w.heap.size, 0, none⟩) n (grownCap w n 0 5)) (w.drew.alloc (.cells (((List.replicate n (0 : UInt8)).map B).toArray ++ Builtin.zeroCells (Value.int .u8 0).cells (grownCap w n 0 5 - n)) 5)) := fun ty => by
      have h := Lib.run_append_grow_zeros w 22 3 ty 5 i0 (.int .u8 0) .i64 .i64 Tryd.underlying22 Tryd.underlying3 hi0 hz0 none 0 0 [] hold n hn0 (by omega) (by omega) (by omega)
        (by rw [hz2]; omega) (by rw [hz2]; exact growslice_fits (by omega) (by omega))
      rw [Nat.zero_add] at h
      rw [h]
      have hz : Builtin.zeroCells (Value.int .u8 0).cells n = ((List.replicate n (0 : UInt8)).map B).toArray := by
        apply Array.ext
        · rw [size_zeroCells]; simp [Value.cells]
        · intro i h1 h2
          simp [Builtin.zeroCells, Value.cells, B, Nat.mod_one]
      rw [hz, Array.empty_append]
    have hmade := OwnB.made w.drew (List.replicate n (0 : UInt8)) n (grownCap w n 0 5) (Builtin.zeroCells (Value.int .u8 0).cells (grownCap w n 0 5 - n)) List.length_replicate hge hle (by rw [size_zeroCells]; simp [Value.cells])
    have hcut := hmade.cut 0 (by omega)
    obtain ⟨W, hW⟩ : ∃ W, W = w.drew.alloc (.cells (((List.replicate n (0 : UInt8)).map B).toArray ++ Builtin.zeroCells (Value.int .u8 0).cells (grownCap w n 0 5 - n)) 5) := ⟨_, rfl⟩
    obtain ⟨G, hG⟩ : ∃ G, G = grownCap w n 0 5 := ⟨_, rfl⟩
    have tW : Touch [] w W := by rw [hW]; exact ((Touch.refl [] w).drew).alloc _
    rw [← hW] at hrz hcut
    rw [← hG] at hrz hcut hge hle
    have hsz : w.drew.heap.size = w.heap.size := rfl
    rw [hsz] at hcut
    simp only [List.take_zero] at hcut
    unfold maxLen at hle
    clear hmade hW hG hold hsz
    go_wp2_with (at_builtin; refine Lib.wpList_append_run _ rfl _ _ _ _ rfl _ _ rfl rfl _ _ (hrz _) ?_)
    go_ret
    exact ⟨_, G, rfl, hcut, tW, by simp [fpo]⟩

/-- the lengths of the first k -/
def lens (ls : List (List UInt8)) : Nat := (ls.map List.length).sum

set_option maxHeartbeats 800000 in
theorem concat_any (A : Option Addr) (c n : Nat) (ls : List (List UInt8)) (hn : ls.length = n) (hl : ∀ l ∈ ls, l.length ≤ 1000000000) (hn4 : n ≤ 1000) (w : World) (h : BsAt w A ls) :
    Calls Tryd.prog 43 #[.slice A n c] w fun e w' => ∃ A' c', e = .returned (.slice A' ls.flatten.length c') ∧ OwnB w' A' c' ls.flatten ∧ Touch [] w w' ∧ ∀ b ∈ fpo A', w.heap.size ≤ b := by
  subst hn
  have hflat : ∀ k, k ≤ ls.length → (ls.take k).flatten.length ≤ 1000000000 * k := by
    intro k
    induction k with
    | zero => simp
    | succ k ih =>
      intro hk
      rw [List.take_succ_eq_append_getElem (by omega), List.flatten_append, List.length_append]
      have := ih (by omega)
      have := hl _ (List.getElem_mem (show k < ls.length by omega))
      simp only [List.flatten_cons, List.flatten_nil, List.append_nil]; omega
  have Hflat := Lib.hid hflat; clear hflat
  go_enter Tryd.func43, Tryd.ntmps43
  go_wp2
  go_loop [3, 11] (fun s i => ∃ k : Nat, k ≤ ls.length ∧ i = .int .i64 k ∧ s = .int .i64 ((ls.take k).flatten.length : Nat)) (fun _ i => ls.length - (intOf i).toNat)
  case atStart => exact ⟨0, by omega, rfl, rfl⟩
  case round =>
    obtain ⟨k, hk, rfl, rfl⟩ := hrel
    have hF := Hflat.out k hk
    by_cases hlt : k < ls.length
    · obtain ⟨ad, A', c', rfl, hcell, _, _⟩ := h.at_ k hlt
      have hs : (ls.take (k + 1)).flatten.length = (ls.take k).flatten.length + ls[k].length := by
        rw [List.take_succ_eq_append_getElem hlt, List.flatten_append, List.length_append]; simp
      have Hs := Lib.hid hs; clear hs
      have hll := hl _ (List.getElem_mem hlt)
      obtain ⟨F, hFe⟩ : ∃ F, F = (ls.take k).flatten.length := ⟨_, rfl⟩
      obtain ⟨m, hm⟩ : ∃ m, m = ls[k].length := ⟨_, rfl⟩
      rw [← hFe] at hF ⊢
      rw [← hm] at hcell hll
      have Hs2 : Hid ((ls.take (k + 1)).flatten.length = F + m) := by have := Hs.out; rw [← hFe, ← hm] at this; exact Lib.hid this
      clear Hs hFe hm
      go_wp2
      go_round
      case rel => exact ⟨k + 1, by omega, by go_num, by rw [Hs2.out]; go_num⟩
      case measure => simp [intOf]; omega
    · obtain rfl : k = ls.length := by omega
      rw [List.take_length] at hF ⊢
      obtain ⟨F, hFe⟩ : ∃ F, F = ls.flatten.length := ⟨_, rfl⟩
      rw [← hFe] at hF ⊢
      have HF := Lib.hid hFe; clear hFe
      go_wp2_with fail
      refine (growNil_any F (by omega) w).mono ?_
      rintro e w1 ⟨A1, c1, rfl, hown1, ht1, hf1⟩
      go_wp2_with fail
      go_loopw [6, 27] (fun v i wr => ∃ (k n : Nat) (A2 : Option Addr) (c2 : Nat), k ≤ ls.length ∧ i = .int .i64 k ∧ v = .slice A2 n c2 ∧ n = (ls.take k).flatten.length ∧ OwnB wr A2 c2 (ls.take k).flatten ∧ Touch [] w wr ∧ ∀ b ∈ fpo A2, w.heap.size ≤ b) (fun _ i _ => ls.length - (intOf i).toNat)
      case atStart => exact ⟨0, 0, A1, c1, by omega, rfl, rfl, rfl, hown1, ht1, hf1⟩
      case round =>
        clear hown1 ht1 hf1
        obtain ⟨k, n, A2, c2, hk, rfl, rfl, hn, hown, ht, hf⟩ := hrel
        have hF2 := Hflat.out k hk
        rw [← hn] at hF2
        by_cases hlt : k < ls.length
        · obtain ⟨ad, A', c', rfl, hcell, hrd, _⟩ := (h.touch0 ht).at_ k hlt
          have hs : (ls.take (k + 1)).flatten = (ls.take k).flatten ++ ls[k] := by
            rw [List.take_succ_eq_append_getElem hlt, List.flatten_append]; simp
          have Hs := Lib.hid hs; clear hs
          have hll := hl _ (List.getElem_mem hlt)
          have Hn := Lib.hid hn.symm; clear hn
          go_wp2_with (at_builtin; refine stop ?_)
          refine go ?_
          refine wpList_appB rfl (.tmp 31) (.tmp 32) rfl A2 n c2 _ Hn.out rfl hown A' ls[k].length c' ls[k] rfl rfl hrd (by omega) ?_
          intro A3 c3 w3 hown3 ht3 hf3
          have hs3 := ht.size
          go_wp2_with fail
          go_roundw
          case rel => exact ⟨k + 1, _, A3, c3, by omega, by go_num, rfl, by rw [Hs.out, List.length_append, Hn.out], by rw [Hs.out]; exact hown3, ht.trans ht3 (fun b hb => .inr (hf b hb)), fun b hb => by
            rcases hf3 b hb with h1 | h1
            · exact hf b h1
            · omega⟩
          case measure => simp [intOf]; omega
        · obtain rfl : k = ls.length := by omega
          rw [List.take_length] at hn hown
          subst hn
          go_wp2
          go_ret
          exact ⟨A2, c2, rfl, hown, ht, hf⟩

/-- a frame's bytes -/
def frm (s : List UInt8) : List UInt8 := encT (S s) ++ digs (sumOf s) 4
theorem frm_length (s : List UInt8) : (frm s).length = (encI s.length).length + s.length + 4 := by
  unfold frm; rw [List.length_append, encT_length, digs_length, S_size]

set_option maxHeartbeats 800000 in
theorem refFrame_any (A : Option Addr) (c n : Nat) (bs : List UInt8) (hn : bs.length = n) (hm : n ≤ 1000000000) (w : World) (hr : RdB w A bs) :
    Calls Tryd.prog 25 #[.slice A n c] w fun e w' => ∃ A' c', e = .returned (.slice A' (frm bs).length c') ∧ OwnB w' A' c' (frm bs) ∧ Touch [] w w' ∧ ∀ b ∈ fpo A', w.heap.size ≤ b := by
  subst hn
  have hfl := frm_length bs
  have hEl := encI_length bs.length
  have hTl := encT_length (S bs)
  rw [S_size] at hTl
  have hsl := sumOf_lt bs
  have hsum := sum_eq bs
  have Hsum := Lib.hid hsum; clear hsum
  have Hfl := Lib.hid hfl; clear hfl
  go_enter Tryd.func25, Tryd.ntmps25
  have hcv := run_str_of c rfl hr
  go_wp2_with fail
  clear hcv
  refine (refText_any (S bs) (by rw [S_size]; omega) w).mono ?_
  rintro e w1 ⟨A1, c1, rfl, hown1, ht1, hf1⟩
  obtain ⟨E, hE⟩ : ∃ E, E = encT (S bs) := ⟨_, rfl⟩
  have hTE : (encI bs.length).length + bs.length = E.length := by rw [hE]; exact hTl.symm
  rw [← hE] at hown1 ⊢
  have HE := Lib.hid hE; clear hE
  have hE9 : E.length ≤ 1000000009 := by omega
  try rw [hTl]
  try rw [hTE]
  clear hTl hTE
  go_wp2_with fail
  refine (refSum_any A c bs w1 (by unfold maxLen; omega) (hr.touch0 ht1)).mono ?_
  rintro e w2 ⟨rfl, rfl⟩
  rw [← Hsum.out]
  obtain ⟨N, hN⟩ : ∃ N, N = sumOf bs := ⟨_, rfl⟩
  rw [← hN] at hsl ⊢
  have HN := Lib.hid hN; clear hN
  go_wp2_with fail
  go_loopw [3, 4, 5] (fun v s i wr => ∃ (k : Nat) (A2 : Option Addr) (c2 : Nat), k ≤ 4 ∧ i = .int .i64 k ∧ v = .slice A2 (E.length + k) c2 ∧ s = .int .u32 (N / 256 ^ k : Nat) ∧ OwnB wr A2 c2 (E ++ digs N k) ∧ Touch [] w wr ∧ ∀ b ∈ fpo A2, w.heap.size ≤ b) (fun _ _ i _ => 4 - (intOf i).toNat)
  case atStart => exact ⟨0, A1, c1, by omega, rfl, rfl, by simp, by simpa [digs] using hown1, ht1, hf1⟩
  case round =>
    clear hown1 ht1 hf1
    obtain ⟨k, A2, c2, hk, rfl, rfl, rfl, hown, ht, hf⟩ := hrel
    by_cases hlt : k < 4
    · obtain ⟨q, hq⟩ : ∃ q, q = N / 256 ^ k := ⟨_, rfl⟩
      have hql : q < 4294967296 := hq ▸ Nat.lt_of_le_of_lt (Nat.div_le_self _ _) hsl
      rw [← hq]
      have Hq := Lib.hid hq; clear hq
      have hx : (q : Int) % 256 = ((UInt8.ofNat q).toNat : Int) := by simp
      have Hx := Lib.hid hx; clear hx
      have hlen : (E ++ digs N k).length = E.length + k := by rw [List.length_append, digs_length]
      have Hlen := Lib.hid hlen; clear hlen
      have hs0 := ht.size
      go_wp2_with (at_builtin; refine stop ?_)
      refine go ?_
      refine wpList_appB rfl (.tmp 15) (.tmp 19) rfl A2 (E.length + k) c2 (E ++ digs N k) Hlen.out rfl (hown.touch0 ((Touch.refl _ _).alloc _)) (some ⟨wr.heap.size, 0, none⟩) 1 1 [UInt8.ofNat q] rfl rfl (RdB.one' _ _ Hx.out) (by omega) ?_
      intro A3 c3 w3 hown3 ht3 hf3
      go_wp2_with fail
      go_roundw
      case rel => exact ⟨k + 1, A3, c3, by omega, by go_num, rfl, by rw [Nat.pow_succ, ← Nat.div_div_eq_div_mul, ← Hq.out]; go_num, by rw [digs_snoc, ← Hq.out, ← List.append_assoc]; exact hown3,
        (ht.alloc _).trans ht3 (fun b hb => .inr (hf b hb)), fun b hb => (by
          rcases hf3 b hb with h | h
          · exact hf b h
          · simp at h; omega)⟩
      case measure => simp [intOf]; omega
    · obtain rfl : k = 4 := by omega
      go_wp2
      go_ret
      have hfr : E ++ digs N 4 = frm bs := by rw [HE.out, HN.out]; rfl
      rw [hfr] at hown
      exact ⟨A2, c2, ret_slice (by rw [← hfr, List.length_append, digs_length]), hown, ht, hf⟩

theorem BsAt.two (w : World) {A1 A2 : Option Addr} {l1 l2 : List UInt8} {n1 n2 c1 c2 : Nat} (h1 : RdB w A1 l1) (h2 : RdB w A2 l2) (e1 : l1.length = n1) (e2 : l2.length = n2) (k1 : n1 ≤ c1) (k2 : n2 ≤ c2) : BsAt (w.alloc (.cells #[.slice A1 n1 c1, .slice A2 n2 c2] 22)) (some ⟨w.heap.size, 0, none⟩) [l1, l2] := by
  subst e1 e2
  have ta := (Touch.refl [] w).alloc (.cells #[.slice A1 l1.length c1, .slice A2 l2.length c2] 22)
  intro _
  have hadd : ∀ j, (⟨w.heap.size, 0, none⟩ : Addr).add j = ⟨w.heap.size, j, none⟩ := fun j => by unfold Addr.add; split <;> simp_all
  refine ⟨_, rfl, fun j hj => ?_⟩
  rw [hadd, cell_of_row _ w.heap.size j _ 22 (0, 0) (heap_alloc_new w _)]
  rcases j with _ | _ | j
  · exact ⟨A1, c1, rfl, h1.touch0 ta, k1⟩
  · exact ⟨A2, c2, rfl, h2.touch0 ta, k2⟩
  · simp at hj; omega

theorem OutAt.touch {w w' : World} {g : Nat} {A : Option Addr} {l : List UInt8} {fp : List Nat} (h : OutAt w g A l) (ht : Touch fp w w') (hg : g ∉ fp) (hA : ∀ b ∈ fpo A, b ∉ fp) : OutAt w' g A l := by
  obtain ⟨c, hb, ho, hn⟩ := h
  exact ⟨c, ht.blk hb hg, ho.touch ht hA, hn⟩

set_option maxRecDepth 100000 in
set_option maxHeartbeats 3200000 in
theorem frame_any (A : Option Addr) (c n : Nat) (bs : List UInt8) (hn : bs.length = n) (hm : n ≤ 900000000) (w : World) (hr : RdB w A bs) (hh : HalfAt w) :
    Calls Tryd.prog 24 #[.slice A n c] w fun e w' => ∃ A' c', e = .returned (.slice A' (frm bs).length c') ∧ OwnB w' A' c' (frm bs) ∧ Touch [] w w' ∧ ∀ b ∈ fpo A', w.heap.size ≤ b := by
  subst hn
  have hsl := sumOf_lt bs
  have ho := Lib.hid (show OutAt (w.alloc (.cells #[.slice none 0 0] 31)) w.heap.size none [] from ⟨0, heap_alloc_new w _, OwnB.nil _, by simp [fpo]⟩)
  have ta := (Touch.refl [] w).alloc (.cells #[.slice none 0 0] 31)
  go_enter Tryd.func24, Tryd.ntmps24
  go_wp2_with fail
  have T0 := ta.drew
  have hr0 : RdB (w.alloc (.cells #[.slice none 0 0] 31)).drew A bs := hr.touch0 T0
  have hh0 := hh.touch T0 (by simp)
  have hcv0 := run_str_of c rfl hr0
  have hwr : IntKind.u64.wrap ((sumOf bs : Nat) : Int) = ((sumOf bs : Nat) : Int) := by rw [IntKind.wrap_u64]; omega
  have hfl : [encT (S bs), digs (sumOf bs) 4].flatten = frm bs := by simp [frm]
  have hl4 : ∀ l ∈ [encT (S bs), digs (sumOf bs) 4], l.length ≤ 1000000000 := by
    intro l hl
    have h1 := encT_length (S bs)
    have h2 := encI_length bs.length
    have h3 := digs_length (sumOf bs) 4
    rw [S_size] at h1
    simp at hl
    rcases hl with rfl | rfl <;> omega
  have Hl4 := Lib.hid hl4; clear hl4
  have hoA := ho.out.touch ((Touch.refl [] _).drew) (by simp) (by simp)
  have hside : ∀ b ∈ w.heap.size :: fpo none, b ∈ ([] : List Nat) ∨ w.heap.size ≤ b := by simp [fpo]
  go_region_with (first
    | (go_at_call 14; refine (outText_any w.heap.size none [] (S bs) (by rw [S_size]; simp; omega) _ (by first | with_reducible exact hoA | with_reducible exact hoL)).mono ?_; rintro e w3 ⟨rfl, A3, ⟨c3, hb3, hown3, hn3⟩, htT, hfT⟩; simp only [List.nil_append] at hb3 hown3; have hcell3 := cell_of_one hb3; (first | have T3 : Touch [] w w3 := by with_reducible exact T0.trans htT hside | have T3 : Touch [] w w3 := by with_reducible exact (T0.trans0 htL).trans htT hside); have hr3 : RdB w3 A bs := hr.touch0 T3; have hh3 := hh.touch T3 (by simp); try (have x5 : OwnB w3 A5 c5 (digs (sumOf bs) 4) := hown5.touch htT (fun b hb hm => by have := hfL b hb; simp [fpo] at hm; simp at this; omega); have x3 : OwnB w3 A3 c3 (encT (S bs)) := hown3; have TL : Touch [] w w3 := T3))
    | (go_at_call 10; refine (sum_any A c bs _ (by unfold maxLen; omega) (by first | with_reducible exact hr0 | with_reducible exact hr3) (by first | with_reducible exact hh0 | with_reducible exact hh3)).mono ?_; rintro e w4 ⟨rfl, rfl⟩)
    | (go_at_call 39; refine (low_four (sumOf bs) hsl _).mono ?_; rintro e w5 ⟨A5, c5, rfl, hown5, htL, hfL⟩; (first | have hcell5 := cell_of_one (htL.blk hb3 (by simp)) | (have hcv5 := run_str_of c rfl (hr0.touch0 htL); have hoL := hoA.touch htL (by simp) (by simp))); try (have x3 : OwnB w5 A3 c3 (encT (S bs)) := hown3.touch0 htL; have x5 : OwnB w5 A5 c5 (digs (sumOf bs) 4) := hown5; have TL : Touch [] w w5 := T3.trans0 htL))
    | (go_at_call 43; refine (concat_any _ _ 2 [encT (S bs), digs (sumOf bs) 4] rfl Hl4.out (by omega) _ (BsAt.two _ x3.rd x5.rd rfl (digs_length _ _) x3.le (by have := x5.le; rw [digs_length] at this; exact this))).mono ?_; rintro e w6 ⟨A6, c6, rfl, hown6, ht6, hf6⟩))
  all_goals
    go_wp2
    go_ret
    rw [hfl] at hown6
    have T6 := (TL.alloc (.cells #[.slice A3 (encT (S bs)).length c3, .slice A5 4 c5] 22)).trans0 ht6
    have hsz := TL.size
    exact ⟨A6, c6, rfl, hown6, T6, fun b hb => by have := hf6 b hb; simp at this; omega⟩
end Go.Proofs.YtgpadejkmpfafaaDoor

/- frame.Out.Value, bywashref07.Value: a value's bytes. For every value. -/
namespace Go.Proofs.YtgpadejkmpfafaaDoor
open Go.RowKit

/-- a value's bytes -/
def encV (v : VD) : List UInt8 :=
  encI v.kind ++ (if v.kind = 1 then encI v.num else if v.kind = 2 then encT v.text else [])

/-- one after the other -/
theorem out_trans {g : Nat} {A A1 : Option Addr} {l2 : List UInt8} {w wa w1 w2 : World} (t0 : Touch [] w wa) (t1 : Touch (g :: fpo A) wa w1) (f1 : ∀ b ∈ fpo A1, b ∈ fpo A ∨ wa.heap.size ≤ b) {l1 : List UInt8} (h : OutPost g A1 l2 w1 w2) (_ : OutAt w1 g A1 l1) : OutPost g A l2 w w2 := by
  obtain ⟨A2, ho2, t2, f2⟩ := h
  have s0 := t0.size
  have s1 := t1.size
  refine ⟨A2, ho2, ((t0.mono (fp2 := g :: fpo A) (fun b hb => by simp at hb)).trans t1 (fun b hb => .inl hb)).trans t2 (fun b hb => ?_), fun b hb => ?_⟩
  · rcases List.mem_cons.1 hb with h | h
    · exact .inl (by simp [h])
    · rcases f1 b h with h' | h'
      · exact .inl (by simp [h'])
      · exact .inr (by omega)
  · rcases f2 b hb with h | h
    · rcases f1 b h with h' | h'
      · exact .inl h'
      · exact .inr (by omega)
    · exact .inr (by omega)

set_option maxHeartbeats 800000 in
theorem outValue_any (g : Nat) (A : Option Addr) (l : List UInt8) (v : VD) (hv : v.Ok 140737000000000) (hl : l.length + v.text.size ≤ 140737487900000 - 100) (w : World) (ho : OutAt w g A l) :
    Calls Tryd.prog 36 #[.pointer (some ⟨g, 0, none⟩), v.val] w fun e w' => e = .returned (.pointer (some ⟨g, 0, none⟩)) ∧ OutPost g A (l ++ encV v) w w' := by
  obtain ⟨⟨hk1, hk2⟩, ⟨hn1, hn2⟩, htx⟩ := hv
  obtain ⟨k, n, s⟩ := v
  dsimp only [VD.val, encV] at *
  go_enter Tryd.func36, Tryd.ntmps36
  have hLk := encI_length k
  have hLn := encI_length n
  have t0 := (Touch.refl [] w).alloc (.cells #[.int .i64 k, .int .i64 n, .string s] 59)
  have hb := heap_alloc_new w (.cells #[.int .i64 k, .int .i64 n, .string s] 59)
  have hgl : g < w.heap.size := by obtain ⟨c, hg, _⟩ := ho; exact lt_of_block hg
  have hAl : ∀ b ∈ fpo A, b < w.heap.size := by obtain ⟨c, hg, hown, _⟩ := ho; exact fun b hb => hown.lt b hb
  have ho0 := ho.touch t0 (by simp) (fun b hb => by simp)
  go_wp2_with fail
  refine (outInt_any g A l k hk1 hk2 (by omega) _ ho0).mono ?_
  rintro e w1 ⟨rfl, A1, ho1, ht1, hf1⟩
  have hlen1 : (l ++ encI k).length = l.length + (encI k).length := by simp
  have hnew : w.heap.size ∉ g :: fpo A := fun hm => by
    rcases List.mem_cons.1 hm with h | h
    · omega
    · have := hAl _ h; omega
  have hb1 := ht1.blk hb hnew
  have c1 := cell_blk hb1 (i := 1) rfl
  have c2 := cell_blk hb1 (i := 2) rfl
  have c0 := cell_blk hb1 (i := 0) rfl
  by_cases h1 : k = 1
  · subst h1
    go_wp2_with fail
    refine (outInt_any g A1 (l ++ encI 1) n hn1 hn2 (by omega) w1 ho1).mono ?_
    rintro e w2 ⟨rfl, hp⟩
    go_wp2_with fail
    go_ret
    refine ⟨rfl, ?_⟩
    have := out_trans t0 ht1 hf1 hp ho1
    simpa using this
  by_cases h2 : k = 2
  · subst h2
    go_wp2_with fail
    refine (outText_any g A1 (l ++ encI 2) s (by omega) w1 ho1).mono ?_
    rintro e w2 ⟨rfl, hp⟩
    go_wp2_with fail
    go_ret
    refine ⟨rfl, ?_⟩
    have := out_trans t0 ht1 hf1 hp ho1
    simpa using this
  · go_wp2_with fail
    go_ret
    refine ⟨rfl, ?_⟩
    have s0 := t0.size
    exact ⟨A1, ho1, (t0.mono (fp2 := g :: fpo A) (fun b hb => by simp at hb)).trans ht1 (fun b hb => .inl hb), fun b hb => (hf1 b hb).imp id (fun h => by omega)⟩

set_option maxHeartbeats 800000 in
theorem refValue_any (v : VD) (hv : v.Ok 140737000000000) (w : World) :
    Calls Tryd.prog 33 #[v.val] w fun e w' => ∃ A c, e = .returned (.slice A (encV v).length c) ∧ OwnB w' A c (encV v) ∧ Touch [] w w' ∧ (∀ b ∈ fpo A, w.heap.size ≤ b) := by
  obtain ⟨⟨hk1, hk2⟩, ⟨hn1, hn2⟩, htx⟩ := hv
  obtain ⟨k, n, s⟩ := v
  dsimp only [VD.val, encV] at *
  go_enter Tryd.func33, Tryd.ntmps33
  have hLk := encI_length k
  have hLn := encI_length n
  have hLt : (encT s).length ≤ 9 + s.size := by have h1 := encT_length s; have h2 := encI_length s.size; omega
  have t0 := (Touch.refl [] w).alloc (.cells #[.int .i64 k, .int .i64 n, .string s] 65)
  have hb := heap_alloc_new w (.cells #[.int .i64 k, .int .i64 n, .string s] 65)
  have s0 := t0.size
  go_wp2_with fail
  refine (refInt_any k hk1 hk2 _).mono ?_
  rintro e w1 ⟨A1, c1, rfl, hown1, ht1, hf1⟩
  have s1 := ht1.size
  have hb1 := ht1.blk hb (by simp)
  have d0 := cell_blk hb1 (i := 0) rfl
  have d1 := cell_blk hb1 (i := 1) rfl
  have d2 := cell_blk hb1 (i := 2) rfl
  by_cases h1 : k = 1
  · subst h1
    go_wp2_with fail
    refine (refInt_any n hn1 hn2 w1).mono ?_
    rintro e w2 ⟨A2, c2, rfl, hown2, ht2, hf2⟩
    have s2 := ht2.size
    have hlen3 : (encI 1 ++ encI n).length = (encI 1).length + (encI n).length := List.length_append
    go_wp2_with (at_builtin; refine stop ?_)
    refine go ?_
    refine wpList_appB rfl (.tmp 10) (.tmp 13) rfl A1 (encI 1).length c1 (encI 1) rfl rfl (hown1.touch ht2 (by simp)) A2 (encI n).length c2 (encI n) rfl rfl hown2.rd (by omega) ?_
    intro A3 c3 w3 hown3 ht3 hf3
    go_wp2_with fail
    go_ret
    have t3 := ((t0.trans0 ht1).trans0 ht2).trans ht3 (fun b hb => .inr (by have := hf1 b hb; omega))
    refine ⟨A3, c3, ?_, hown3, t3, fun b hb => ?_⟩
    · first | exact ret_slice hlen3.symm | rfl
    · rcases hf3 b hb with h | h
      · have := hf1 b h; omega
      · omega
  by_cases h2 : k = 2
  · subst h2
    go_wp2_with fail
    refine (refText_any s (by omega) w1).mono ?_
    rintro e w2 ⟨A2, c2, rfl, hown2, ht2, hf2⟩
    have s2 := ht2.size
    have hlen3 : (encI 2 ++ encT s).length = (encI 2).length + (encT s).length := List.length_append
    go_wp2_with (at_builtin; refine stop ?_)
    refine go ?_
    refine wpList_appB rfl (.tmp 18) (.tmp 21) rfl A1 (encI 2).length c1 (encI 2) rfl rfl (hown1.touch ht2 (by simp)) A2 (encT s).length c2 (encT s) rfl rfl hown2.rd (by omega) ?_
    intro A3 c3 w3 hown3 ht3 hf3
    go_wp2_with fail
    go_ret
    have t3 := ((t0.trans0 ht1).trans0 ht2).trans ht3 (fun b hb => .inr (by have := hf1 b hb; omega))
    refine ⟨A3, c3, ?_, hown3, t3, fun b hb => ?_⟩
    · first | exact ret_slice hlen3.symm | rfl
    · rcases hf3 b hb with h | h
      · have := hf1 b h; omega
      · omega
  · go_wp2_with fail
    go_ret
    refine ⟨A1, c1, rfl, hown1, t0.trans0 ht1, fun b hb => ?_⟩
    have := hf1 b hb
    omega
end Go.Proofs.YtgpadejkmpfafaaDoor

/- frame.Out.Bytes: a copy of what an Out holds. -/
namespace Go.Proofs.YtgpadejkmpfafaaDoor
open Go.RowKit

set_option maxHeartbeats 400000 in
theorem outBytes_any (g : Nat) (A : Option Addr) (l : List UInt8) (hl : l.length ≤ 140737488000000) (w : World) (ho : OutAt w g A l) :
    Calls Tryd.prog 16 #[.pointer (some ⟨g, 0, none⟩)] w fun e w' => ∃ A' c', e = .returned (.slice A' l.length c') ∧ CloneAt l w w' A' c' := by
  obtain ⟨c, hg, hown, hgA⟩ := ho
  have hcell := cell_of_one hg
  go_enter Tryd.func16, Tryd.ntmps16
  go_wp2_with (go_at_call 40; refine (clone_any A c l w hown.rd hl).mono ?_; rintro e w1 ⟨A1, c1, rfl, h1⟩)
  go_ret
  exact ⟨A1, c1, rfl, h1⟩
end Go.Proofs.YtgpadejkmpfafaaDoor

/- the fixed answer of the statements of layer 7: it stands. -/
namespace Go.Proofs.YtgpadejkmpfafaaDoor
open Go.RowKit

theorem crc_digits : sumOf [49, 50, 51, 52, 53, 54, 55, 56, 57] = 3421780262 := by decide +kernel
theorem enc_fixed : ([] : List UInt8) ++ encI 300 ++ encI (-1) ++ encI (-300) = [2, 44, 1, 16, 18, 43, 1] := by decide +kernel

set_option maxHeartbeats 400000 in
set_option maxRecDepth 20000 in
theorem awake_any (w : World) (hh : HalfAt w) : Calls Tryd.prog 9 #[] w fun e w' => e = .returned (.bool true) ∧ Touch [] w w' := by
  have ho : OutAt (w.alloc (.cells #[.slice none 0 0] 31)) w.heap.size none [] := ⟨0, heap_alloc_new w _, OwnB.nil _, by simp [fpo]⟩
  have ht := (Touch.refl [] w).alloc (.cells #[.slice none 0 0] 31)
  go_enter Tryd.func9, Tryd.ntmps9
  go_wp2_with fail
  refine (outInt_any w.heap.size none [] 300 (by omega) (by omega) (by simp) _ ho).mono ?_
  rintro e w1 ⟨rfl, A1, ho1, ht1, hf1⟩
  go_wp2_with fail
  refine (outInt_any w.heap.size A1 _ (-1) (by omega) (by omega) (by decide +kernel) w1 ho1).mono ?_
  rintro e w2 ⟨rfl, A2, ho2, ht2, hf2⟩
  go_wp2_with fail
  refine (outInt_any w.heap.size A2 _ (-300) (by omega) (by omega) (by decide +kernel) w2 ho2).mono ?_
  rintro e w3 ⟨rfl, A3, ho3, ht3, hf3⟩
  rw [enc_fixed] at ho3
  go_wp2_with fail
  refine (outBytes_any w.heap.size A3 _ (by simp) w3 ho3).mono ?_
  rintro e w4 ⟨A4, c4, rfl, hown4, ht4, hf4⟩
  have hcv : (convert 22 9 (.slice A4 7 c4)).run Tryd.prog w4 = .ok (.string ⟨#[2, 44, 1, 16, 18, 43, 1]⟩) w4 := run_str_of c4 (n := 7) rfl hown4.rd
  clear hown4 ho3 ho2 ho1 ho
  have hcc := fun (W : World) (C : Array Value) (n c : Nat) => Lib.run_convert_bytes_const (P := Tryd.prog) W 22 5 C n c Tryd.underlying22 Tryd.underlying5
  have T3 : Touch [] w w3 := ((ht.trans ht1 (by simp [fpo])).trans ht2 (fun b hb => by
    rcases List.mem_cons.1 hb with h | h
    · exact .inr (by omega)
    · have := hf1 b h; simp [fpo] at this; exact .inr (by omega))).trans ht3 (fun b hb => by
    rcases List.mem_cons.1 hb with h | h
    · exact .inr (by omega)
    · rcases hf2 b h with h' | h'
      · have := hf1 b h'; simp [fpo] at this; exact .inr (by omega)
      · have := ht1.size; simp at this; exact .inr (by omega))
  have T4 := T3.trans0 ht4
  have T5 := T4.alloc (.cells (([49, 50, 51, 52, 53, 54, 55, 56, 57] : List UInt8).map B).toArray 5 (9, 10))
  have hd := RdB.newf w4 [49, 50, 51, 52, 53, 54, 55, 56, 57] (9, 10)
  go_wp2_with fail
  refine (sum_any _ 9 [49, 50, 51, 52, 53, 54, 55, 56, 57] _ (by decide) hd (hh.touch T5 (by simp))).mono ?_
  rintro e w6 ⟨rfl, rfl⟩
  rw [crc_digits]
  go_wp2_with fail
  go_ret
  exact ⟨rfl, T5⟩
end Go.Proofs.YtgpadejkmpfafaaDoor

/- bywashlaw07.FrameReads: the walk of the law. For every slice of bytes; the table as the program's text lays it. -/
namespace Go.Proofs.YtgpadejkmpfafaaDoor
open Go.RowKit

theorem rdI_rest {l r : List UInt8} {n : Int} (h : rdI l = some (n, r)) : r.length < l.length ∧ r = l.drop (l.length - r.length) := by
  rcases l with _ | ⟨x, t⟩
  · cases h
  · unfold rdI at h
    dsimp only at h
    generalize (if 16 ≤ x.toNat then x.toNat - 16 else x.toNat) = s at h
    by_cases hn : 8 < s ∨ t.length < s ∨ (0 < s ∧ t[s - 1]? = some 0) ∨ 9223372036854775808 ≤ leV (t.take s)
    · rw [if_pos hn] at h; cases h
    · rw [if_neg hn] at h
      obtain ⟨_, rfl⟩ : _ ∧ t.drop s = r := by simpa using h
      rw [List.length_drop, List.length_cons]
      refine ⟨by omega, ?_⟩
      rw [show t.length + 1 - (t.length - s) = s + 1 by omega, List.drop_succ_cons]
theorem rdI_at {b r : List UInt8} {n : Int} {at_ : Nat} (h : rdI (b.drop at_) = some (n, r)) : ∃ E, E ≤ b.length ∧ r = b.drop E ∧ refRd b at_ = (n, (E : Int)) ∧ b.length - E = r.length := by
  obtain ⟨h1, h2⟩ := rdI_rest h
  rw [List.length_drop] at h1
  refine ⟨b.length - r.length, by omega, ?_, ?_, by omega⟩
  · rw [List.drop_drop, List.length_drop] at h2
    rw [show at_ + (b.length - at_ - r.length) = b.length - r.length by omega] at h2
    exact h2
  · unfold refRd
    rw [h]
    dsimp only
    congr 1
    omega
theorem refRd_none {b : List UInt8} {at_ : Nat} (h : rdI (b.drop at_) = none) : refRd b at_ = (0, -1) := by unfold refRd; rw [h]

theorem S_nil : S [] = ⟨#[]⟩ := rfl

/-- what holds at each round's head -/
structure ReadsAt (w : World) (b : List UInt8) (g : Nat) (at_ : Nat) (bad : Bool) (wr : World) : Prop where
  inn : ∃ A l, InAt wr g A l bad ∧ (bad = false → l = b.drop at_) ∧ ∀ x ∈ fpo A, w.heap.size ≤ x
  le : at_ ≤ b.length
  t : Touch [] w wr

theorem ReadsAt.next {w : World} {b : List UInt8} {g at2 : Nat} {bad2 : Bool} {wr w1 w2 : World} {A : Option Addr} {l2 : List UInt8} (hg : w.heap.size ≤ g) (hf : ∀ x ∈ fpo A, w.heap.size ≤ x) (ht : Touch [] w wr) (ht1 : Touch [] wr w1) (hle : at2 ≤ b.length) (hp : InPost g A l2 bad2 w1 w2) (hl : bad2 = false → l2 = b.drop at2) : ReadsAt w b g at2 bad2 w2 := by
  obtain ⟨A2, hi2, ht2, hf2⟩ := hp
  exact ⟨⟨A2, l2, hi2, hl, fun x hx => hf x (hf2 x hx)⟩, hle, (ht.trans0 ht1).trans ht2 (fun b hb => .inr (by simp at hb; omega))⟩

set_option maxRecDepth 100000 in
set_option maxHeartbeats 6400000 in
theorem reads_law (A : Option Addr) (c : Nat) (b : List UInt8) (Ak : Option Addr) (ck : Nat) (ks : List UInt8) (most : Int) (w : World) (hbl : b.length ≤ maxLen) (hc : b.length ≤ c) (hkl : ks.length ≤ maxLen) (hr : RdB w A b) (hrk : RdB w Ak ks) (hh : HalfAt w) :
    Calls Tryd.prog 5 #[.slice A b.length c, .slice Ak ks.length ck, .int .i64 most] w fun e w' => e = .returned (.bool true) ∧ Touch [] w w' := by
  go_enter Tryd.func5, Tryd.ntmps5
  unfold maxLen at hbl hkl
  by_cases h3 : 500 < b.length
  · go_wp2_with (go_at_call 9; refine (awake_any w hh).mono ?_; rintro e w1 ⟨rfl, ht1⟩)
    go_ret
    exact ⟨rfl, ht1⟩
  by_cases h4 : 60 < ks.length
  · go_wp2_with (go_at_call 9; refine (awake_any w hh).mono ?_; rintro e w1 ⟨rfl, ht1⟩)
    go_ret
    exact ⟨rfl, ht1⟩
  go_wp2_with fail
  refine (newIn_any A b.length c b rfl (by omega) w hr).mono ?_
  rintro e w1 ⟨g, A1, rfl, hi1, ht1, hgw, hf1⟩
  go_wp2_with fail
  go_loopw [8, 9, 28] (fun at_ bad k wr => ∃ (n a : Nat) (bd : Bool), n ≤ ks.length ∧ k = .int .i64 n ∧ at_ = .int .i64 a ∧ bad = .bool bd ∧ ReadsAt w b g a bd wr) (fun _ _ k _ => ks.length - (intOf k).toNat)
  case atStart => exact ⟨0, 0, false, by omega, rfl, rfl, rfl, ⟨A1, b, hi1, fun _ => by simp, hf1⟩, by omega, ht1⟩
  case round =>
    obtain ⟨n, a, bd, hn, rfl, rfl, rfl, ⟨A2, l2, hi2, hl2, hf2⟩, hle, ht⟩ := hrel
    clear hi1 ht1 hf1
    by_cases hlt : n < ks.length
    · obtain ⟨ad, rfl, hcell⟩ := RdB.at_ (hrk.touch0 ht) n hlt
      obtain ⟨x, hx⟩ : ∃ x, x = ks[n] := ⟨_, rfl⟩
      rw [← hx] at hcell
      clear hx
      have hxl := x.toNat_lt
      have hx3 : ((x.toNat : Int) % 3) = 0 ∨ ((x.toNat : Int) % 3) = 1 ∨ ((x.toNat : Int) % 3) = 2 := by omega
      have hrb := hr.touch0 ht
      have hga : ∀ x ∈ fpo A2, x ∉ ([] : List Nat) := by simp
      cases bd
      · obtain rfl := hl2 rfl
        have hCI := inInt_ok g A2 (b.drop a)
        have hCT := inText_ok g A2 (b.drop a)
        have hCC := inCount_ok g A2 (b.drop a) most
        rcases hrI : rdI (b.drop a) with _ | ⟨v, r⟩
        · have hT : rdT (b.drop a) = none := by simp [rdT, hrI]
          have hC : rdC most (b.drop a) = none := by simp [rdC, hrI]
          unfold IntPost at hCI; rw [hrI] at hCI
          unfold TextPost at hCT; rw [hT] at hCT
          unfold CountPost at hCC; rw [hC] at hCC
          have hval := refRd_none hrI
          clear hrI hT hC
          have HCI := Lib.hid hCI; have HCT := Lib.hid hCT; have HCC := Lib.hid hCC; clear hCI hCT hCC
          have Hval := Lib.hid hval; clear hval
          rcases hx3 with hx3 | hx3 | hx3
          · skip
            have hrd := Lib.hid (Hval.out)
            go_wp2_with fail
            refine (refRead_any A c b a (by omega) hc (by omega) wr hrb).mono ?_
            rintro e w2 ⟨rfl, ht2⟩
            rw [hrd.out]
            have hi3 := hi2.touch ht2 (by simp) hga
            go_wp2_with fail
            refine (HCI.out w2 hi3).mono ?_
            rintro e w3 ⟨rfl, l3, hp3⟩
            have hp4 := hp3
            obtain ⟨A4, hi4, _, _⟩ := hp4
            go_wp2_with fail
            refine (bad_any g A4 _ true w3 hi4).mono ?_
            rintro e w4 ⟨rfl, rfl⟩
            go_wp2_with fail
            go_roundw
            case rel => exact ⟨n + 1, a, true, by omega, by go_num, rfl, rfl, ReadsAt.next hgw hf2 ht ht2 (by omega) hp3 (fun h => by cases h)⟩
            case measure => simp [intOf]; omega
          · skip
            have hrd := Lib.hid (Hval.out)
            go_wp2_with fail
            refine (refRead_any A c b a (by omega) hc (by omega) wr hrb).mono ?_
            rintro e w2 ⟨rfl, ht2⟩
            rw [hrd.out]
            have hi3 := hi2.touch ht2 (by simp) hga
            go_wp2_with fail
            refine (HCT.out w2 hi3).mono ?_
            rintro e w3 ⟨rfl, l3, hp3⟩
            rw [S_nil]
            have hp4 := hp3
            obtain ⟨A4, hi4, _, _⟩ := hp4
            go_wp2_with fail
            refine (bad_any g A4 _ true w3 hi4).mono ?_
            rintro e w4 ⟨rfl, rfl⟩
            go_wp2_with fail
            go_roundw
            case rel => exact ⟨n + 1, a, true, by omega, by go_num, rfl, rfl, ReadsAt.next hgw hf2 ht ht2 (by omega) hp3 (fun h => by cases h)⟩
            case measure => simp [intOf]; omega
          · skip
            have hrd := Lib.hid (Hval.out)
            go_wp2_with fail
            refine (refRead_any A c b a (by omega) hc (by omega) wr hrb).mono ?_
            rintro e w2 ⟨rfl, ht2⟩
            rw [hrd.out]
            have hi3 := hi2.touch ht2 (by simp) hga
            go_wp2_with fail
            refine (HCC.out w2 hi3).mono ?_
            rintro e w3 ⟨rfl, l3, hp3⟩
            have hp4 := hp3
            obtain ⟨A4, hi4, _, _⟩ := hp4
            go_wp2_with fail
            refine (bad_any g A4 _ true w3 hi4).mono ?_
            rintro e w4 ⟨rfl, rfl⟩
            go_wp2_with fail
            go_roundw
            case rel => exact ⟨n + 1, a, true, by omega, by go_num, rfl, rfl, ReadsAt.next hgw hf2 ht ht2 (by omega) hp3 (fun h => by cases h)⟩
            case measure => simp [intOf]; omega
        · obtain ⟨E, hE, hrE, hval, hEr⟩ := rdI_at hrI
          have hvb := rdI_bounds hrI
          unfold IntPost at hCI; rw [hrI] at hCI
          have Hval := Lib.hid hval; clear hval
          rcases hx3 with hx3 | hx3 | hx3
          · have HCI := Lib.hid hCI; clear hCI hCT hCC hrI
            have HrE := Lib.hid hrE; clear hrE
            have hrd := Lib.hid (Hval.out)
            go_wp2_with fail
            refine (refRead_any A c b a (by omega) hc (by omega) wr hrb).mono ?_
            rintro e w2 ⟨rfl, ht2⟩
            rw [hrd.out]
            have hi3 := hi2.touch ht2 (by simp) hga
            go_wp2_with fail
            refine (HCI.out w2 hi3).mono ?_
            rintro e w3 ⟨rfl, hp3⟩
            have hp4 := hp3
            obtain ⟨A4, hi4, _, _⟩ := hp4
            go_wp2_with fail
            refine (bad_any g A4 _ false w3 hi4).mono ?_
            rintro e w4 ⟨rfl, rfl⟩
            go_wp2_with fail
            go_roundw
            case rel => exact ⟨n + 1, E, false, by omega, by go_num, rfl, rfl, ReadsAt.next hgw hf2 ht ht2 (by omega) hp3 (fun _ => HrE.out)⟩
            case measure => simp [intOf]; omega
          · by_cases hv : v < 0 ∨ (r.length : Int) < v
            · have hT : rdT (b.drop a) = none := by simp [rdT, hrI, hv]
              unfold TextPost at hCT; rw [hT] at hCT
              have HCT := Lib.hid hCT; clear hCI hCT hCC hrI hT hrE
              rcases (show v < 0 ∨ (0 ≤ v ∧ (r.length : Int) < v) by omega) with hv0 | ⟨hv0, hv1⟩
              · clear hv
                have hrd := Lib.hid (Hval.out)
                go_wp2_with fail
                refine (refRead_any A c b a (by omega) hc (by omega) wr hrb).mono ?_
                rintro e w2 ⟨rfl, ht2⟩
                rw [hrd.out]
                have hi3 := hi2.touch ht2 (by simp) hga
                go_wp2_with fail
                refine (HCT.out w2 hi3).mono ?_
                rintro e w3 ⟨rfl, l3, hp3⟩
                rw [S_nil]
                have hp4 := hp3
                obtain ⟨A4, hi4, _, _⟩ := hp4
                go_wp2_with fail
                refine (bad_any g A4 _ true w3 hi4).mono ?_
                rintro e w4 ⟨rfl, rfl⟩
                go_wp2_with fail
                go_roundw
                case rel => exact ⟨n + 1, a, true, by omega, by go_num, rfl, rfl, ReadsAt.next hgw hf2 ht ht2 (by omega) hp3 (fun h => by cases h)⟩
                case measure => simp [intOf]; omega
              · clear hv
                have hvE : (b.length : Int) - E < v := by omega
                have hrd := Lib.hid (Hval.out)
                go_wp2_with fail
                refine (refRead_any A c b a (by omega) hc (by omega) wr hrb).mono ?_
                rintro e w2 ⟨rfl, ht2⟩
                rw [hrd.out]
                have hi3 := hi2.touch ht2 (by simp) hga
                go_wp2_with fail
                refine (HCT.out w2 hi3).mono ?_
                rintro e w3 ⟨rfl, l3, hp3⟩
                rw [S_nil]
                have hp4 := hp3
                obtain ⟨A4, hi4, _, _⟩ := hp4
                go_wp2_with fail
                refine (bad_any g A4 _ true w3 hi4).mono ?_
                rintro e w4 ⟨rfl, rfl⟩
                go_wp2_with fail
                go_roundw
                case rel => exact ⟨n + 1, a, true, by omega, by go_num, rfl, rfl, ReadsAt.next hgw hf2 ht ht2 (by omega) hp3 (fun h => by cases h)⟩
                case measure => simp [intOf]; omega
            · obtain ⟨v, rfl⟩ : ∃ k : Nat, v = (k : Int) := ⟨v.toNat, by omega⟩
              have hvr : v ≤ r.length := by omega
              have hT : rdT (b.drop a) = some (r.take v, r.drop v) := by simp only [rdT, hrI, if_neg hv]; rfl
              unfold TextPost at hCT; rw [hT] at hCT
              have HCT := Lib.hid hCT; clear hCI hCT hCC hrI hT hv
              have hvE : (v : Int) ≤ (b.length : Int) - E := by omega
              have hdr : r.drop v = b.drop (E + v) := by rw [hrE, List.drop_drop]
              obtain ⟨AS, hAS⟩ : ∃ AS, AS = if c = E then A else A.map (fun x => x.add E) := ⟨_, rfl⟩
              have hrS : ∀ W, RdB W A b → RdB W AS (r.take v) := by
                intro W hW
                rw [hAS]
                split
                · rw [List.eq_nil_of_length_eq_zero (show (r.take v).length = 0 by rw [List.length_take]; omega)]; exact Rd.nil _ _
                · rw [hrE]; exact RdB.pre (RdB.drop hW E) v
              have hsl := fun W => run_cutB A b.length c E (E + v) ((E : Int) + v) (by omega) (by omega) (by omega) W
              rw [← hAS, show E + v - E = v by omega] at hsl
              have Hdr := Lib.hid hdr; have HrS := Lib.hid hrS; clear hdr hrS hAS hrE
              have hrd := Lib.hid (Hval.out)
              go_wp2_with fail
              refine (refRead_any A c b a (by omega) hc (by omega) wr hrb).mono ?_
              rintro e w2 ⟨rfl, ht2⟩
              rw [hrd.out]
              have hi3 := hi2.touch ht2 (by simp) hga
              have hbE : decide ((E : Int) < 0) = false := by simp
              have hbv : decide ((v : Int) < 0) = false := by simp
              have hbr : decide ((b.length : Int) - E < (v : Int)) = false := by simp; omega
              have hcv := run_str_of (w := w2) (A := AS) (n := v) (c - E) (l := r.take v) (by rw [List.length_take]; omega) (HrS.out w2 (hrb.touch0 ht2))
              go_wp2_with fail
              refine (HCT.out w2 hi3).mono ?_
              rintro e w3 ⟨rfl, hp3⟩
              have hp4 := hp3
              obtain ⟨A4, hi4, _, _⟩ := hp4
              go_wp2_with fail
              refine (bad_any g A4 _ false w3 hi4).mono ?_
              rintro e w4 ⟨rfl, rfl⟩
              go_wp2_with fail
              go_roundw
              case rel => exact ⟨n + 1, E + v, false, by omega, by go_num, rfl, rfl, ReadsAt.next hgw hf2 ht ht2 (by omega) hp3 (fun _ => Hdr.out)⟩
              case measure => simp [intOf]; omega
          · by_cases hv : v < 0 ∨ most < v
            · have hC : rdC most (b.drop a) = none := by simp [rdC, hrI, hv]
              unfold CountPost at hCC; rw [hC] at hCC
              have HCC := Lib.hid hCC; clear hCI hCT hCC hrI hC hrE
              rcases (show v < 0 ∨ (0 ≤ v ∧ most < v) by omega) with hv0 | ⟨hv0, hv1⟩
              · clear hv
                have hrd := Lib.hid (Hval.out)
                go_wp2_with fail
                refine (refRead_any A c b a (by omega) hc (by omega) wr hrb).mono ?_
                rintro e w2 ⟨rfl, ht2⟩
                rw [hrd.out]
                have hi3 := hi2.touch ht2 (by simp) hga
                go_wp2_with fail
                refine (HCC.out w2 hi3).mono ?_
                rintro e w3 ⟨rfl, l3, hp3⟩
                have hp4 := hp3
                obtain ⟨A4, hi4, _, _⟩ := hp4
                go_wp2_with fail
                refine (bad_any g A4 _ true w3 hi4).mono ?_
                rintro e w4 ⟨rfl, rfl⟩
                go_wp2_with fail
                go_roundw
                case rel => exact ⟨n + 1, a, true, by omega, by go_num, rfl, rfl, ReadsAt.next hgw hf2 ht ht2 (by omega) hp3 (fun h => by cases h)⟩
                case measure => simp [intOf]; omega
              · clear hv
                have hrd := Lib.hid (Hval.out)
                go_wp2_with fail
                refine (refRead_any A c b a (by omega) hc (by omega) wr hrb).mono ?_
                rintro e w2 ⟨rfl, ht2⟩
                rw [hrd.out]
                have hi3 := hi2.touch ht2 (by simp) hga
                go_wp2_with fail
                refine (HCC.out w2 hi3).mono ?_
                rintro e w3 ⟨rfl, l3, hp3⟩
                have hp4 := hp3
                obtain ⟨A4, hi4, _, _⟩ := hp4
                go_wp2_with fail
                refine (bad_any g A4 _ true w3 hi4).mono ?_
                rintro e w4 ⟨rfl, rfl⟩
                go_wp2_with fail
                go_roundw
                case rel => exact ⟨n + 1, a, true, by omega, by go_num, rfl, rfl, ReadsAt.next hgw hf2 ht ht2 (by omega) hp3 (fun h => by cases h)⟩
                case measure => simp [intOf]; omega
            · have hC : rdC most (b.drop a) = some (v, r) := by simp only [rdC, hrI, if_neg hv]
              unfold CountPost at hCC; rw [hC] at hCC
              have HCC := Lib.hid hCC; have HrE := Lib.hid hrE; clear hCI hCT hCC hrI hC hrE
              have hv0 : 0 ≤ v := by omega
              have hv1 : v ≤ most := by omega
              have hbE : decide ((E : Int) < 0) = false := by simp
              have hbv : decide (v < 0) = false := by simp; omega
              have hbr : decide (most < v) = false := by simp; omega
              clear hv
              have hrd := Lib.hid (Hval.out)
              go_wp2_with fail
              refine (refRead_any A c b a (by omega) hc (by omega) wr hrb).mono ?_
              rintro e w2 ⟨rfl, ht2⟩
              rw [hrd.out]
              have hi3 := hi2.touch ht2 (by simp) hga
              go_wp2_with fail
              refine (HCC.out w2 hi3).mono ?_
              rintro e w3 ⟨rfl, hp3⟩
              have hp4 := hp3
              obtain ⟨A4, hi4, _, _⟩ := hp4
              go_wp2_with fail
              refine (bad_any g A4 _ false w3 hi4).mono ?_
              rintro e w4 ⟨rfl, rfl⟩
              go_wp2_with fail
              go_roundw
              case rel => exact ⟨n + 1, E, false, by omega, by go_num, rfl, rfl, ReadsAt.next hgw hf2 ht ht2 (by omega) hp3 (fun _ => HrE.out)⟩
              case measure => simp [intOf]; omega
      · rcases hx3 with hx3 | hx3 | hx3
        · obtain ⟨y, hy⟩ : ∃ y, y = refRd b a := ⟨_, rfl⟩
          have Hy := Lib.hid hy.symm; clear hy hl2
          have hrd := Lib.hid (Hy.out)
          go_wp2_with fail
          refine (refRead_any A c b a (by omega) hc (by omega) wr hrb).mono ?_
          rintro e w2 ⟨rfl, ht2⟩
          rw [hrd.out]
          have hi3 := hi2.touch ht2 (by simp) hga
          go_wp2_with fail
          refine (inInt_bad g A2 l2 w2 hi3).mono ?_
          rintro e w3 ⟨rfl, hp3⟩
          have hp4 := hp3
          obtain ⟨A4, hi4, _, _⟩ := hp4
          go_wp2_with fail
          refine (bad_any g A4 _ true w3 hi4).mono ?_
          rintro e w4 ⟨rfl, rfl⟩
          go_wp2_with fail
          go_roundw
          case rel => exact ⟨n + 1, a, true, by omega, by go_num, rfl, rfl, ReadsAt.next hgw hf2 ht ht2 (by omega) hp3 (fun h => by cases h)⟩
          case measure => simp [intOf]; omega
        · obtain ⟨y, hy⟩ : ∃ y, y = refRd b a := ⟨_, rfl⟩
          have Hy := Lib.hid hy.symm; clear hy hl2
          have hrd := Lib.hid (Hy.out)
          go_wp2_with fail
          refine (refRead_any A c b a (by omega) hc (by omega) wr hrb).mono ?_
          rintro e w2 ⟨rfl, ht2⟩
          rw [hrd.out]
          have hi3 := hi2.touch ht2 (by simp) hga
          go_wp2_with fail
          refine (inText_bad g A2 l2 w2 hi3).mono ?_
          rintro e w3 ⟨rfl, hp3⟩
          rw [S_nil]
          have hp4 := hp3
          obtain ⟨A4, hi4, _, _⟩ := hp4
          go_wp2_with fail
          refine (bad_any g A4 _ true w3 hi4).mono ?_
          rintro e w4 ⟨rfl, rfl⟩
          go_wp2_with fail
          go_roundw
          case rel => exact ⟨n + 1, a, true, by omega, by go_num, rfl, rfl, ReadsAt.next hgw hf2 ht ht2 (by omega) hp3 (fun h => by cases h)⟩
          case measure => simp [intOf]; omega
        · obtain ⟨y, hy⟩ : ∃ y, y = refRd b a := ⟨_, rfl⟩
          have Hy := Lib.hid hy.symm; clear hy hl2
          have hrd := Lib.hid (Hy.out)
          go_wp2_with fail
          refine (refRead_any A c b a (by omega) hc (by omega) wr hrb).mono ?_
          rintro e w2 ⟨rfl, ht2⟩
          rw [hrd.out]
          have hi3 := hi2.touch ht2 (by simp) hga
          go_wp2_with fail
          refine (inCount_bad g A2 l2 most w2 hi3).mono ?_
          rintro e w3 ⟨rfl, hp3⟩
          have hp4 := hp3
          obtain ⟨A4, hi4, _, _⟩ := hp4
          go_wp2_with fail
          refine (bad_any g A4 _ true w3 hi4).mono ?_
          rintro e w4 ⟨rfl, rfl⟩
          go_wp2_with fail
          go_roundw
          case rel => exact ⟨n + 1, a, true, by omega, by go_num, rfl, rfl, ReadsAt.next hgw hf2 ht ht2 (by omega) hp3 (fun h => by cases h)⟩
          case measure => simp [intOf]; omega
    · obtain rfl : n = ks.length := by omega
      have hh2 := hh.touch ht (by simp)
      go_wp2_with fail
      refine (done_any g A2 l2 bd wr hi2).mono ?_
      rintro e w2 ⟨rfl, rfl⟩
      cases bd
      · obtain rfl := hl2 rfl
        by_cases hab : a = b.length
        · subst hab
          have hd : decide ((b.drop b.length).length = 0) = true := by simp
          rw [hd]
          clear hd
          go_wp2_with (go_at_call 9; refine (awake_any _ hh2).mono ?_; rintro e w5 ⟨rfl, ht5⟩)
          go_ret
          exact ⟨rfl, ht.trans0 ht5⟩
        · have hd : decide ((b.drop a).length = 0) = false := by rw [List.length_drop]; simp; omega
          have hab2 : ((a : Int) == (b.length : Int)) = false := by rw [beq_eq_false_iff_ne]; omega
          rw [hd]
          clear hd hab
          go_wp2_with (go_at_call 9; refine (awake_any _ hh2).mono ?_; rintro e w5 ⟨rfl, ht5⟩)
          go_ret
          exact ⟨rfl, ht.trans0 ht5⟩
      · go_wp2_with (go_at_call 9; refine (awake_any _ hh2).mono ?_; rintro e w5 ⟨rfl, ht5⟩)
        go_ret
        exact ⟨rfl, ht.trans0 ht5⟩
end Go.Proofs.YtgpadejkmpfafaaDoor

/- frame.Scan, bywashref07.Scan: the frames that any bytes hold. For every slice of bytes. -/
namespace Go.Proofs.YtgpadejkmpfafaaDoor
open Go.RowKit

/-- the next frame, and what is left -/
def scan1 (m : List UInt8) : Option (List UInt8 × List UInt8) :=
  match rdT m with
  | some (s, r) => if r.length < 4 then none else if r.take 4 = digs (sumOf s) 4 then some (s, r.drop 4) else none
  | none => none
/-- frame by frame -/
def Steps : List UInt8 → List (List UInt8) → List UInt8 → Prop
  | b, [], m => m = b
  | b, s :: ls, m => ∃ b', scan1 b = some (s, b') ∧ Steps b' ls m
theorem Steps.snoc {b m m' : List UInt8} {ls : List (List UInt8)} {s : List UInt8} (h : Steps b ls m) (h1 : scan1 m = some (s, m')) : Steps b (ls ++ [s]) m' := by
  induction ls generalizing b with
  | nil =>
    obtain rfl : m = b := h
    exact ⟨m', h1, rfl⟩
  | cons x ls ih =>
    obtain ⟨b', h2, h3⟩ := h
    exact ⟨b', h2, ih h3⟩
theorem Steps.unique {b m m' : List UInt8} {ls ls' : List (List UInt8)} (h : Steps b ls m) (hn : scan1 m = none) (h' : Steps b ls' m') (hn' : scan1 m' = none) : ls = ls' ∧ m = m' := by
  induction ls generalizing b ls' with
  | nil =>
    obtain rfl : m = b := h
    cases ls' with
    | nil => exact ⟨rfl, (show m' = m from h').symm⟩
    | cons y ls' => obtain ⟨b', h2, _⟩ := h'; rw [hn] at h2; cases h2
  | cons x ls ih =>
    obtain ⟨b1, h1, h2⟩ := h
    cases ls' with
    | nil =>
      obtain rfl : m' = b := h'
      rw [hn'] at h1; cases h1
    | cons y ls' =>
      obtain ⟨b2, h3, h4⟩ := h'
      rw [h1] at h3
      cases h3
      obtain ⟨rfl, e⟩ := ih h2 h4
      exact ⟨rfl, e⟩

theorem rdT_rest {m s r : List UInt8} (h : rdT m = some (s, r)) : s.length + r.length < m.length ∧ ∃ k, k ≤ m.length ∧ r = m.drop k ∧ r.length = m.length - k := by
  unfold rdT at h
  rcases hI : rdI m with _ | ⟨n, l'⟩
  · rw [hI] at h; cases h
  · rw [hI] at h
    dsimp only at h
    obtain ⟨h1, h2⟩ := rdI_rest hI
    by_cases hc : n < 0 ∨ (l'.length : Int) < n
    · rw [if_pos hc] at h; cases h
    · rw [if_neg hc] at h
      obtain ⟨e1, e2⟩ : l'.take n.toNat = s ∧ l'.drop n.toNat = r := by simpa using h
      subst e1 e2
      rw [List.length_take, List.length_drop]
      refine ⟨by omega, m.length - l'.length + n.toNat, by omega, ?_, by omega⟩
      conv => lhs; rw [h2]
      rw [List.drop_drop]
theorem scan1_rest {m s m' : List UInt8} (h : scan1 m = some (s, m')) : m'.length < m.length ∧ m' = m.drop (m.length - m'.length) ∧ s.length ≤ m.length := by
  unfold scan1 at h
  rcases hT : rdT m with _ | ⟨s1, r⟩
  · rw [hT] at h; cases h
  · rw [hT] at h
    dsimp only at h
    obtain ⟨h1, k, h2, h3, h4⟩ := rdT_rest hT
    by_cases hc : r.length < 4
    · rw [if_pos hc] at h; cases h
    · rw [if_neg hc] at h
      by_cases hd : r.take 4 = digs (sumOf s1) 4
      · rw [if_pos hd] at h
        obtain ⟨e1, e2⟩ : s1 = s ∧ r.drop 4 = m' := by simpa using h
        subst e1 e2
        rw [List.length_drop]
        refine ⟨by omega, ?_, by omega⟩
        rw [show m.length - (r.length - 4) = k + 4 by omega, ← List.drop_drop, ← h3]
      · rw [if_neg hd] at h; cases h
theorem scan1_nil : scan1 [] = none := rfl

set_option maxHeartbeats 400000 in
theorem equal_any (A1 A2 : Option Addr) (n1 n2 c1 c2 : Nat) (l1 l2 : List UInt8) (e1 : l1.length = n1) (e2 : l2.length = n2) (w : World) (h1 : RdB w A1 l1) (h2 : RdB w A2 l2) :
    Calls Tryd.prog 44 #[.slice A1 n1 c1, .slice A2 n2 c2] w fun e w' => e = .returned (.bool (decide (l1 = l2))) ∧ w = w' := by
  have hcv1 := run_str_of c1 e1 h1
  have hcv2 := run_str_of c2 e2 h2
  have hb := Lib.hid (S_beq l1 l2)
  go_enter Tryd.func44, Tryd.ntmps44
  go_wp2
  go_ret
  exact ⟨ret_bool hb.out, rfl⟩

/-- slices of bytes in a row of the calls' own -/
structure OwnBs (w : World) (A : Option Addr) (c : Nat) (ls : List (List UInt8)) (vs : List Value) : Prop where
  own : w.ownsRow 0 22 1 (.slice A ls.length c) ls.length vs
  len : vs.length = ls.length
  at_ : ∀ j (h : j < ls.length), ∃ A' c', vs[j]? = some (.slice A' ls[j].length c') ∧ RdB w A' ls[j] ∧ ls[j].length ≤ c' ∧ (∀ b ∈ fpo A', b ∉ fpo A ∧ b < w.heap.size)
theorem OwnBs.nil (w : World) : OwnBs w none 0 [] [] := ⟨World.ownsRow_nil _ _ _ _, rfl, fun j h => by simp at h⟩
theorem OwnBs.bs {w : World} {A : Option Addr} {c : Nat} {ls : List (List UInt8)} {vs : List Value} (h : OwnBs w A c ls vs) : BsAt w A ls := by
  intro h0
  obtain ⟨hown, hlen, hat⟩ := h
  rcases hown.2 with ⟨hv, he⟩ | ⟨g, cap, cur, hv, _⟩
  · omega
  · have hA : A = some ⟨g, 0, none⟩ := by injection hv
    subst hA
    refine ⟨_, rfl, fun j hj => ?_⟩
    obtain ⟨A', c', h1, h2, h3, _⟩ := hat j hj
    exact ⟨A', c', World.ownsRow.cells hown (g := g) rfl j _ h1, h2, h3⟩
theorem OwnBs.touch {w w' : World} {A : Option Addr} {c : Nat} {ls : List (List UInt8)} {vs : List Value} {fp : List Nat} {n : Nat} (h : OwnBs w A c ls vs) (ht : Touch fp w w') (hA : ∀ b ∈ fpo A, b ∉ fp)
    (hr : ∀ j (h : j < ls.length) A', RdB w A' ls[j] → (∃ c', vs[j]? = some (.slice A' ls[j].length c')) → RdB w' A' ls[j]) (_ : n = n) : OwnBs w' A c ls vs := by
  obtain ⟨hown, hlen, hat⟩ := h
  refine ⟨⟨hown.1, ?_⟩, hlen, fun j hj => ?_⟩
  · rcases hown.2 with hv | ⟨g, cap, cur, hv, hb, hg, rest⟩
    · exact .inl hv
    · have hA' : A = some ⟨g, 0, none⟩ := by injection hv
      subst hA'
      exact .inr ⟨g, cap, cur, hv, hb, ht.blk hg (hA g (by simp [fpo])), rest⟩
  · obtain ⟨A', c', h1, h2, h3, h4⟩ := hat j hj
    exact ⟨A', c', h1, hr j hj A' h2 ⟨c', h1⟩, h3, fun b hb => ⟨(h4 b hb).1, Nat.lt_of_lt_of_le (h4 b hb).2 ht.size⟩⟩
theorem OwnBs.touch0 {w w' : World} {A : Option Addr} {c : Nat} {ls : List (List UInt8)} {vs : List Value} (h : OwnBs w A c ls vs) (ht : Touch [] w w') : OwnBs w' A c ls vs :=
  h.touch (n := 0) ht (by simp) (fun _ _ _ h1 _ => Rd.touch0 h1 ht) rfl
theorem OwnBs.lt {w : World} {A : Option Addr} {c : Nat} {ls : List (List UInt8)} {vs : List Value} (h : OwnBs w A c ls vs) : ∀ b ∈ fpo A, b < w.heap.size := by
  intro b hb
  rcases h.own.2 with ⟨hv, _⟩ | ⟨g, cap, cur, hv, _, hg, _⟩
  · injection hv with hA _ _; subst hA; cases hb
  · have hA : A = some ⟨g, 0, none⟩ := by injection hv
    subst hA
    have : b = g := by simpa [fpo] using hb
    subst this
    exact (Array.getElem?_eq_some_iff.1 hg).1
theorem info_bytes : (Tryd.prog.info? 22).map (fun i => (i.zero, i.size, i.bytes)) = some (some (.slice none 0 0), 1, 24) := by kernel_rfl

/-- append onto slices of bytes that the calls own: one more -/
theorem wpList_appBs {w : World} {ops : Array Oper} {rest : List Oper} {o : Oper} {a : Act} {Q : Exit → Act → World → Prop} (hgd : o.guard = none) (s x : Operand)
    (ho : o.op = .call { callee := .builtin .append, args := #[s, x], argTypes := #[47, 47] })
    (A0 : Option Addr) (n c0 : Nat) (ls : List (List UInt8)) (vs : List Value) (hn : ls.length = n) (hs : a.eval s = .slice A0 n c0) (hown : OwnBs w A0 c0 ls vs)
    (H : Nat) (Ax : Option Addr) (nx cx : Nat) (l : List UInt8) (hx : a.eval x = .slice (some ⟨H, 0, none⟩) 1 1) (hc : w.cell? ⟨H, 0, none⟩ = some (.slice Ax nx cx)) (hl : l.length = nx) (hr : RdB w Ax l) (hcx : nx ≤ cx) (hfx : ∀ b ∈ fpo Ax, b ∉ fpo A0 ∧ b < w.heap.size) (hbytes : n < 1000000000)
    (h : ∀ A' c' w', OwnBs w' A' c' (ls ++ [l]) (vs ++ [.slice Ax nx cx]) → Touch (fpo A0) w w' → (∀ b ∈ fpo A', b ∈ fpo A0 ∨ b = w.heap.size) → wpList Tryd.prog ops Q rest (a.put o.dst (.slice A' (n + 1) c')) w') :
    wpList Tryd.prog ops Q (o :: rest) a w := by
  obtain ⟨i0, hi0, hz0, hz1, hz2⟩ := info_parts info_bytes
  subst hn hl
  have hadd : (⟨H, 0, none⟩ : Addr).add 0 = ⟨H, 0, none⟩ := by unfold Addr.add; split <;> simp_all
  refine wpList_app w hgd s x _ ho 22 i0 _ 1 24 Tryd.underlying47 hi0 hz0 hz1 hz2 rfl (by omega) A0 ls.length c0 _ hs hown.own (some ⟨H, 0, none⟩) 1 1 [.slice Ax l.length cx] hx (by simp)
    (fun _ => ⟨_, rfl, fun j u hu => by
      rcases j with _ | j
      · simp at hu; subst hu; rw [hadd]; exact hc
      · simp at hu⟩) (by simp [Value.oneCell']) (by simp only [maxLen]; omega) (by omega) ?_
  intro A' c' w' h2 h3 h4
  refine h A' c' w' ⟨by rw [List.length_append]; exact h2, by simp [hown.len], fun j hj => ?_⟩ h3 h4
  have hlt := hown.lt
  by_cases hj2 : j < ls.length
  · obtain ⟨A1, c1, k1, k2, k3, k4⟩ := hown.at_ j hj2
    refine ⟨A1, c1, ?_, ?_, ?_, fun b hb => ⟨fun hm => ?_, Nat.lt_of_lt_of_le (k4 b hb).2 h3.size⟩⟩
    · rw [List.getElem?_append_left (by rw [hown.len]; exact hj2), k1, List.getElem_append_left hj2]
    · rw [List.getElem_append_left hj2]; exact Rd.touch k2 h3 (fun b hb => (k4 b hb).1)
    · rw [List.getElem_append_left hj2]; exact k3
    · rcases h4 b hm with e | e
      · exact (k4 b hb).1 e
      · have := (k4 b hb).2; omega
  · obtain rfl : j = ls.length := by simp at hj; omega
    refine ⟨Ax, cx, ?_, ?_, ?_, fun b hb => ⟨fun hm => ?_, Nat.lt_of_lt_of_le (hfx b hb).2 h3.size⟩⟩
    · rw [List.getElem?_append_right (by rw [hown.len]; exact Nat.le_refl _), hown.len]; simp
    · simp only [List.getElem_concat_length]; exact Rd.touch hr h3 (fun b hb => (hfx b hb).1)
    · simp only [List.getElem_concat_length]; exact hcx
    · rcases h4 b hm with e | e
      · exact (hfx b hb).1 e
      · have := (hfx b hb).2; omega
end Go.Proofs.YtgpadejkmpfafaaDoor

/- frame.Scan: the walk. For every slice of bytes. -/
namespace Go.Proofs.YtgpadejkmpfafaaDoor
open Go.RowKit

theorem InAt.touch1 {w w' : World} {g : Nat} {A : Option Addr} {l : List UInt8} {bad : Bool} {fp : List Nat} (h : InAt w g A l bad) (ht : Touch fp w w') (hg : g ∉ fp) (hA : 0 < l.length → ∀ b ∈ fpo A, b ∉ fp) : InAt w' g A l bad := by
  obtain ⟨⟨c, hc, hb⟩, hr, hn, hs⟩ := h
  refine ⟨⟨c, hc, ht.blk hb hg⟩, ?_, hn, hs⟩
  intro h0
  exact Rd.touch hr ht (hA (by simpa using h0)) h0
theorem InAt.lt {w : World} {g : Nat} {A : Option Addr} {l : List UInt8} {bad : Bool} (h : InAt w g A l bad) (h0 : 0 < l.length) : ∀ b ∈ fpo A, b < w.heap.size := Rd.lt h.rd (by simpa using h0)

/-- what holds at each round's head -/
structure ScanAt (w : World) (b : List UInt8) (g : Nat) (A2 : Option Addr) (n c2 : Nat) (E : Nat) (wr : World) : Prop where
  ex : ∃ ls vs m An, OwnBs wr A2 c2 ls vs ∧ ls.length = n ∧ n ≤ E ∧ Steps b ls m ∧ InAt wr g An m false ∧ E + m.length = b.length ∧ (∀ v ∈ vs, ∀ A' k c', v = .slice A' k c' → g ∉ fpo A') ∧
    (∀ x ∈ fpo An, w.heap.size ≤ x) ∧ (0 < m.length → ∀ x ∈ fpo A2, x ∉ fpo An)
  f2 : ∀ x ∈ fpo A2, w.heap.size ≤ x ∧ x ≠ g
  t : Touch [] w wr

/-- the outcome of a scan -/
def ScanPost (b : List UInt8) (w : World) (e : Ending) (w' : World) : Prop :=
  ∃ A c ls vs m, e = .returned (.tuple #[.slice A ls.length c, .int .i64 ((b.length - m.length : Nat) : Int)]) ∧ OwnBs w' A c ls vs ∧ Steps b ls m ∧ scan1 m = none ∧ Touch [] w w' ∧ (∀ x ∈ fpo A, w.heap.size ≤ x)

theorem OwnBs.keepIn {w w' : World} {A : Option Addr} {c g : Nat} {ls : List (List UInt8)} {vs : List Value} (h : OwnBs w A c ls vs) (ht : Touch [g] w w') (hA : ∀ x ∈ fpo A, x ≠ g) (hv : ∀ v ∈ vs, ∀ A' k c', v = .slice A' k c' → g ∉ fpo A') : OwnBs w' A c ls vs :=
  h.touch (n := 0) ht (fun b hb hm => hA b hb (by simpa using hm)) (fun j hj A' hr ⟨c', hc⟩ => Rd.touch hr ht (fun b hb hm => by
    obtain rfl : b = g := by simpa using hm
    exact hv _ (List.mem_of_getElem? hc) A' _ c' rfl hb)) rfl

set_option maxRecDepth 100000 in
set_option maxHeartbeats 3200000 in
theorem scan_any (A : Option Addr) (c n : Nat) (b : List UInt8) (hn : b.length = n) (hm : n ≤ 900000000) (w : World) (hr : RdB w A b) (hh : HalfAt w) :
    Calls Tryd.prog 26 #[.slice A n c] w fun e w' => ScanPost b w e w' := by
  subst hn
  go_enter Tryd.func26, Tryd.ntmps26
  go_wp2_with fail
  refine (newIn_any A b.length c b rfl (by omega) w hr).mono ?_
  rintro e w1 ⟨g, A1, rfl, hi1, ht1, hgw, hf1⟩
  go_wp2_with fail
  go_loopw [2, 3] (fun v E wr => ∃ (A2 : Option Addr) (n c2 E' : Nat), v = .slice A2 n c2 ∧ E = .int .i64 E' ∧ ScanAt w b g A2 n c2 E' wr) (fun _ E _ => b.length - (intOf E).toNat)
  case atStart => exact ⟨none, 0, 0, 0, rfl, rfl, ⟨⟨[], [], b, A1, OwnBs.nil _, rfl, Nat.le_refl _, rfl, hi1, by omega, by simp, hf1, by simp [fpo]⟩, by simp [fpo], ht1⟩⟩
  case round =>
    clear hi1 ht1 hf1
    obtain ⟨A2, n, c2, E, rfl, rfl, ⟨ls, vs, m, An, hown, hln, hnE, hst, hi, hE, hvg, hfn, hap⟩, hf2, ht⟩ := hrel
    obtain ⟨c3, hc3, hg3, hgl3, hc03, hc13, hfr3, hfr13⟩ := hi.mk'
    have hEm : (b.length - m.length : Nat) = E := by omega
    have hstop : ∀ w', Touch [g] wr w' ∨ Touch [] wr w' → scan1 m = none → ScanPost b w (.returned (.tuple #[.slice A2 n c2, .int .i64 (E : Int)])) w' := by
      intro w' hT hnone
      rcases hT with hT | hT
      · exact ⟨A2, c2, ls, vs, m, by rw [hln, hEm], hown.keepIn hT (fun x hx => (hf2 x hx).2) hvg, hst, hnone, ht.trans hT (fun x hx => .inr (by simp at hx; omega)), fun x hx => (hf2 x hx).1⟩
      · exact ⟨A2, c2, ls, vs, m, by rw [hln, hEm], hown.touch0 hT, hst, hnone, ht.trans0 hT, fun x hx => (hf2 x hx).1⟩
    clear hEm
    by_cases hm0 : m = []
    · subst hm0
      have hs := hstop wr (.inr (Touch.refl _ _)) scan1_nil
      have Hs := Lib.hid hs; clear hs hstop hg3 hE hln
      go_wp2
      go_ret2
      exact Hs.out
    · have hml : 0 < m.length := List.length_pos_iff.2 hm0
      have hT := inText_ok g An m wr hi
      have Hstop := Lib.hid hstop; clear hstop
      rcases hrT : rdT m with _ | ⟨s, r⟩
      · unfold TextPost at hT
        rw [hrT] at hT
        have hnone : scan1 m = none := by unfold scan1; rw [hrT]
        have Hnone := Lib.hid hnone
        have HT := Lib.hid hT
        clear hnone hT hrT hg3 hE hln hm0
        go_wp2_with fail
        refine HT.out.mono ?_
        rintro e w2 ⟨rfl, l2, A3, hi3, ht3, hf3⟩
        have hsb := run_bytes_of [] w2
        have tb := touch_bytes w2 []
        go_wp2_with fail
        clear hsb
        refine (take_no g A3 l2 true 4 (by omega) (by omega) _ (hi3.touch tb (by simp) (by simp)) (.inl rfl)).mono ?_
        rintro e w4 ⟨rfl, A4, hi4, ht4, hf4⟩
        obtain ⟨c4, hc4, hg4, hgl4, hc04, hc14, hfr4, hfr14⟩ := hi4.mk'
        clear hg4
        have Hs := Lib.hid (Hstop.out w4 (.inl ((ht3.trans0 tb).trans ht4 (fun b hb => .inl hb))) Hnone.out)
        go_wp2
        go_ret2
        exact Hs.out
      · unfold TextPost at hT
        rw [hrT] at hT
        have hsl := rdT_rest hrT
        have HT := Lib.hid hT
        obtain ⟨hsl1, k, hk1, hk2, hk3⟩ := hsl
        have hsm : m.length ≤ 900000000 := by omega
        have hsn := sumOf_lt s
        by_cases h4 : r.length < 4
        · have hnone : scan1 m = none := by unfold scan1; rw [hrT]; simp [h4]
          have Hnone := Lib.hid hnone
          clear hnone hT hrT hg3 hE hln hm0 hk2 hk3
          go_wp2_with fail
          refine HT.out.mono ?_
          rintro e w2 ⟨rfl, A3, hi3, ht3, hf3⟩
          have hsb := run_bytes_of s w2
          have tb := touch_bytes w2 s
          go_wp2_with fail
          clear hsb
          refine (take_no g A3 r false 4 (by omega) (by omega) _ (hi3.touch tb (by simp) (by simp)) (.inr (.inr (by omega)))).mono ?_
          rintro e w4 ⟨rfl, A4, hi4, ht4, hf4⟩
          obtain ⟨c4, hc4, hg4, hgl4, hc04, hc14, hfr4, hfr14⟩ := hi4.mk'
          clear hg4
          have Hs := Lib.hid (Hstop.out w4 (.inl ((ht3.trans0 tb).trans ht4 (fun b hb => .inl hb))) Hnone.out)
          go_wp2
          go_ret2
          exact Hs.out
        · have hs1 : scan1 m = if r.take 4 = digs (sumOf s) 4 then some (s, r.drop 4) else none := by unfold scan1; rw [hrT]; simp [h4]
          have Hs1 := Lib.hid hs1
          have hwr : IntKind.u64.wrap ((sumOf s : Nat) : Int) = ((sumOf s : Nat) : Int) := by rw [IntKind.wrap_u64]; omega
          clear hs1 hT hrT hg3 hm0 hk2
          go_wp2_with fail
          refine HT.out.mono ?_
          rintro e w2 ⟨rfl, A3, hi3, ht3, hf3⟩
          have hsb := run_bytes_of s w2
          have tb := touch_bytes w2 s
          have rb := rd_bytes w2 s
          have hi3' := hi3.touch tb (by simp) (by simp)
          have hgc := grownCap_ge w2 s.length 0 5
          obtain ⟨G, hG⟩ : ∃ G, G = grownCap w2 s.length 0 5 := ⟨_, rfl⟩
          rw [← hG] at hsb hgc
          clear hG
          go_wp2_with fail
          clear hsb
          refine (take_ok g A3 r 4 (by omega) _ hi3').mono ?_
          rintro e w4 ⟨⟨A0, rfl, hr0, hf0⟩, A4, hi4, ht4, hf4⟩
          obtain ⟨c4, hc4, hg4, hgl4, hc04, hc14, hfr4, hfr14⟩ := hi4.mk'
          have T4 := (ht3.trans0 tb).trans ht4 (fun b hb => .inl hb)
          have TW : Touch [] w w4 := ht.trans T4 (fun x hx => .inr (by simp at hx; omega))
          have hs2 := ht3.size
          have hgs : g < w2.heap.size := by omega
          have rb4 : RdB w4 (some ⟨w2.heap.size, 0, none⟩) s := Rd.touch rb ht4 (fun b hb hm => by
            simp [fpo] at hb hm; omega)
          have hrs : RdB w4 A0 (r.take 4) := Rd.touch hr0 ht4 (fun b hb hm => hi3.ne ((by simpa using hm : b = g) ▸ hf0 b hb))
          clear hg4
          go_wp2_with fail
          refine (sum_any (some ⟨w2.heap.size, 0, none⟩) G s w4 (by unfold maxLen; omega) rb4 (hh.touch TW (by simp))).mono ?_
          rintro e w5 ⟨rfl, rfl⟩
          go_wp2_with fail
          refine (low_four (sumOf s) hsn w4).mono ?_
          rintro e w5 ⟨A5, c5, rfl, hown5, ht5, hf5⟩
          go_wp2_with fail
          refine (equal_any A0 A5 4 4 4 c5 (r.take 4) (digs (sumOf s) 4) (by rw [List.length_take]; omega) (digs_length _ _) w5 (Rd.touch0 hrs ht5) hown5.rd).mono ?_
          rintro e w6 ⟨rfl, rfl⟩
          by_cases heq : r.take 4 = digs (sumOf s) 4
          · have hyes : scan1 m = some (s, r.drop 4) := by rw [Hs1.out, if_pos heq]
            have Hyes := Lib.hid hyes
            have Heq := Lib.hid heq
            have hde : decide (r.take 4 = digs (sumOf s) 4) = true := decide_eq_true heq
            rw [hde]
            clear hyes heq hde
            have hi5 : InAt w5 g A4 (r.drop 4) false := hi4.touch ht5 (by simp) (by simp)
            obtain ⟨c6, hc6, hg6, hgl6, hc06, hc16, hfr6, hfr16⟩ := hi5.mk'
            have hdl : (r.drop 4).length = r.length - 4 := List.length_drop
            have T5 := T4.trans0 ht5
            have hown5b := (hown.keepIn T4 (fun x hx => (hf2 x hx).2) hvg).touch0 ht5
            have hlt2 := hown.lt
            have tx := (Touch.refl [] w5).alloc (.cells #[.slice (some ⟨w2.heap.size, 0, none⟩) s.length G] 22)
            have hcx : (w5.alloc (.cells #[.slice (some ⟨w2.heap.size, 0, none⟩) s.length G] 22)).cell? ⟨w5.heap.size, 0, none⟩ = some (.slice (some ⟨w2.heap.size, 0, none⟩) s.length G) := cell_of_one (heap_alloc_new w5 _)
            have hs4 := ht4.size
            have hs5 := ht5.size
            rw [Lib.bytesWorld_size] at hs4
            have hfs : ∀ x ∈ fpo (some ⟨w2.heap.size, 0, none⟩ : Option Addr), x ∉ fpo A2 ∧ x < (w5.alloc (.cells #[.slice (some ⟨w2.heap.size, 0, none⟩) s.length G] 22)).heap.size := by
              intro x hx
              obtain rfl : x = w2.heap.size := by simpa [fpo] using hx
              refine ⟨fun hm => ?_, by simp; omega⟩
              have := hlt2 _ hm; omega
            have rb5 : RdB (w5.alloc (.cells #[.slice (some ⟨w2.heap.size, 0, none⟩) s.length G] 22)) (some ⟨w2.heap.size, 0, none⟩) s := (Rd.touch0 rb4 ht5).touch0 tx
            have hnl : n < 1000000000 := by omega
            have hE2 : n + 1 ≤ b.length - (r.drop 4).length := by omega
            have hE3 : (b.length - (r.drop 4).length) + (r.drop 4).length = b.length := by omega
            have hE4 : (b.length : Int) - ((r.length - 4 : Nat) : Int) = ((b.length - (r.drop 4).length : Nat) : Int) := by omega
            have hE5 : E < b.length - (r.drop 4).length := by omega
            have HE4 := Lib.hid hE4
            clear hE4
            clear hg6 hc06 hc16 hfr6 hfr16
            have Hln := Lib.hid hln
            have HE := Lib.hid hE
            clear hE hln hk3 hdl
            go_wp2_with (at_builtin; refine stop ?_)
            refine go ?_
            refine wpList_appBs rfl (.tmp 33) (.tmp 35) rfl A2 n c2 ls vs Hln.out rfl (hown5b.touch0 tx) w5.heap.size (some ⟨w2.heap.size, 0, none⟩) s.length G s rfl hcx rfl rb5 hgc hfs hnl ?_
            intro A7 c7 w7 hown7 ht7 hf7
            have hf4A : ∀ x ∈ fpo A4, x ∉ fpo A2 := fun x hx hm => hap hml x hm (hf3 x (hf4 x hx))
            have hi7 : InAt w7 g A4 (r.drop 4) false := (hi5.touch tx (by simp) (by simp)).touch ht7 (fun hm => (hf2 g hm).2 rfl) hf4A
            obtain ⟨c8, hc8, hg8, hgl8, hc08, hc18, hfr8, hfr18⟩ := hi7.mk'
            clear hg8
            have T7 : Touch [] w w7 := ((ht.trans T5 (fun x hx => .inr (by simp at hx; omega))).trans0 tx).trans ht7 (fun x hx => .inr (hf2 x hx).1)
            have hs7 := ht.size
            go_wp2_with fail
            go_roundw
            case rel => exact ⟨A7, n + 1, c7, b.length - (r.drop 4).length, rfl, by rw [HE4.out], ⟨⟨ls ++ [s], _, r.drop 4, A4, hown7, by rw [List.length_append, Hln.out]; rfl, hE2, hst.snoc Hyes.out, hi7, hE3, fun v hv A' k c' e => by
              rcases List.mem_append.1 hv with h1 | h1
              · exact hvg v h1 A' k c' e
              · obtain rfl : v = .slice (some ⟨w2.heap.size, 0, none⟩) s.length G := by simpa using h1
                injection e with e1 _ _
                subst e1
                simp [fpo]; omega, fun x hx => hfn x (hf3 x (hf4 x hx)), fun h0 x hx hm => by
              rcases hf7 x hx with h1 | h1
              · exact hf4A x hm h1
              · have := hi5.lt h0 x hm
                simp at h1
                omega⟩, fun x hx => by
              rcases hf7 x hx with h1 | h1
              · exact hf2 x h1
              · simp at h1; omega, T7⟩⟩
            case measure =>
              have hdl2 : (r.drop 4).length = r.length - 4 := List.length_drop
              simp [intOf]; omega
          · have hnone : scan1 m = none := by rw [Hs1.out, if_neg heq]
            have hde : decide (r.take 4 = digs (sumOf s) 4) = false := decide_eq_false heq
            rw [hde]
            have Hs := Lib.hid (Hstop.out w5 (.inl (T4.trans0 ht5)) hnone)
            clear heq hde hnone hE hln
            go_wp2
            go_ret2
            exact Hs.out
end Go.Proofs.YtgpadejkmpfafaaDoor

/- value.plain, value.Value.Right: they lie in Txt now. -/

/- frame.In.Value: a value is read. For every In. -/
namespace Go.Proofs.YtgpadejkmpfafaaDoor
open Go.RowKit

set_option maxRecDepth 20000 in
set_option maxHeartbeats 800000 in
theorem inValue_bad (g : Nat) (A : Option Addr) (l : List UInt8) (w : World) (hi : InAt w g A l true) :
    Calls Tryd.prog 29 #[.pointer (some ⟨g, 0, none⟩)] w fun e w' => e = .returned (.agg #[.int .i64 0, .int .i64 0, .string (S [])]) ∧ InPost g A l true w w' := by
  go_enter Tryd.func29, Tryd.ntmps29
  have t0 := (Touch.refl [] w).alloc (.cells #[.int .i64 0, .int .i64 0, .string ⟨#[]⟩] 59)
  have hb := heap_alloc_new w (.cells #[.int .i64 0, .int .i64 0, .string ⟨#[]⟩] 59)
  have hi0 := hi.touch t0 (by simp) (fun b hb => by simp)
  have hgl : g < w.heap.size := by obtain ⟨c, hc, hg, hgl, _⟩ := hi.mk'; exact hgl
  go_wp2_with fail
  refine (inInt_bad g A l _ hi0).mono ?_
  rintro e w1 ⟨rfl, A1, hi1, ht1, hf1⟩
  obtain ⟨c1, hc1, hg1, hgl1, hc01, hc11, hfr1, hfr11⟩ := hi1.mk'
  have hb1 := ht1.blk hb (by simp; omega)
  have d0 := cell_blk hb1 (i := 0) rfl
  have d1 := cell_blk hb1 (i := 1) rfl
  have d2 := cell_blk hb1 (i := 2) rfl
  have fr : ∀ i, w1.frozen? ⟨w.heap.size, i, none⟩ = false := fun i => by simp [World.frozen?, hb1]
  have fr0 := fr 0
  have hwl1 : w.heap.size < w1.heap.size := lt_of_block hb1
  have fr1 := fr 1
  have fr2 := fr 2
  have hne : (w.heap.size = g) = False := eq_false (by omega)
  have hne' : (g = w.heap.size) = False := eq_false (by omega)
  go_wp2_with fail
  have hbg : (w1.setCell ⟨g, 1, none⟩ (.bool true)).heap[w.heap.size]? = some (.cells #[.int .i64 0, .int .i64 0, .string ⟨#[]⟩] 59 (0, 0)) :=
    ((Touch.refl [g] w1).setCell (p := ⟨g, 1, none⟩) (by simp) (.bool true)).blk hb1 (by simp; omega)
  have hb2 := set_blk (set_blk (set_blk hbg 0 (.int .i64 0)) 1 (.int .i64 0)) 2 (.string ⟨#[]⟩)
  have hb3 := ((Touch.refl [] _).alloc (.cells #[.int .i64 0, .int .i64 0, .string ⟨#[]⟩] 59)).blk hb2 (by simp)
  (try simp only [Exit.inBlock, Exit.then])
  refine bodyPost_ret (results_cell_row rfl _ _ w.heap.size _ _ _ _ rfl hb3 Tryd.underlying59 rfl rfl) rfl ?_
  have hA1 : 0 < l.length → ∀ b ∈ fpo A1, b < w.heap.size := fun h0 b hb => hi.lt h0 b (hf1 b hb)
  have s0 := t0.size
  have hW : InAt (w1.setCell ⟨g, 1, none⟩ (.bool true)) g A1 l true :=
    ⟨⟨c1, hc1, by rw [set_blk hg1]; rfl⟩, Rd.touch hi1.rd ((Touch.refl [g] w1).setCell (by simp) _) (fun b hb hm => hi1.ne ((by simpa using hm : b = g) ▸ hb)), hi1.ne, hi1.sm⟩
  have T3 := ((((Touch.refl [w.heap.size] (w1.setCell ⟨g, 1, none⟩ (.bool true))).setCell (p := ⟨w.heap.size, 0, none⟩) (.inl (by simp)) (.int .i64 0)).setCell (p := ⟨w.heap.size, 1, none⟩) (.inl (by simp)) (.int .i64 0)).setCell (p := ⟨w.heap.size, 2, none⟩) (.inl (by simp)) (.string ⟨#[]⟩)).alloc (.cells #[.int .i64 0, .int .i64 0, .string ⟨#[]⟩] 59)
  have hW2 := hW.touch1 T3 (by simp; omega) (fun h0 b hb hm => by
    have h1 := hA1 h0 b hb
    have h2 : b = w.heap.size := by simpa using hm
    omega)
  have T1 := (t0.mono (fp2 := [g]) (fun b hb => by simp at hb)).trans ht1 (fun b hb => .inl hb)
  have T2 := T1.setCell (p := ⟨g, 1, none⟩) (.inl (by simp)) (.bool true)
  exact ⟨rfl, A1, hW2, T2.trans T3 (fun b hb => .inr (by have h2 : b = w.heap.size := by simpa using hb
                                                         omega)), hf1⟩
end Go.Proofs.YtgpadejkmpfafaaDoor
