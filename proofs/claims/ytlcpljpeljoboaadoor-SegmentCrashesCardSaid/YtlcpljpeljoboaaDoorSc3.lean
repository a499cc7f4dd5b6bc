/- Part 3 of the texts of this proof, one behind the other; each begins with its own sentence. No condition beyond those that its theorems state. -/
import Derived.Test.YtlcpljpeljoboaaDoorSc2
import Derived.Lib.AppendZerosOnto
import Derived.Lib.AppendZeros
import Derived.Deep.RegionWith
import Derived.Lib.ConvBytes
import Derived.IntWalk
/- slices.Grow, slices.Concat over bytes; frame.Frame, bywashref07.Frame: a frame's bytes. For every slice of bytes. -/
namespace Go.Proofs.YtlcpljpeljoboaaDoor
open Go.RowKit

/-- a slice of slices of bytes leads to these -/
def BsAt (w : World) (A : Option Addr) (ls : List (List UInt8)) : Prop :=
  0 < ls.length → ∃ ad, A = some ad ∧ ∀ j (h : j < ls.length), ∃ A' c', w.cell? (ad.add j) = some (.slice A' ls[j].length c') ∧ RdB w A' ls[j] ∧ ls[j].length ≤ c'
theorem BsAt.touch0 {w w' : World} {A : Option Addr} {ls : List (List UInt8)} (h : BsAt w A ls) (ht : Touch [] w w') : BsAt w' A ls := by
  intro h0
  obtain ⟨ad, rfl, hj⟩ := h h0
  refine ⟨ad, rfl, fun j hl => ?_⟩
  obtain ⟨A', c', h1, h2, h3⟩ := hj j hl
  exact ⟨A', c', ht.cell h1 (by simp), h2.touch0 ht, h3⟩
theorem BsAt.at_ {w : World} {A : Option Addr} {ls : List (List UInt8)} (h : BsAt w A ls) (k : Nat) (hk : k < ls.length) : ∃ ad A' c', A = some ad ∧ w.cell? (ad.add k) = some (.slice A' ls[k].length c') ∧ RdB w A' ls[k] ∧ ls[k].length ≤ c' := by
  obtain ⟨ad, e, hj⟩ := h (by omega)
  obtain ⟨A', c', h1, h2, h3⟩ := hj k hk
  exact ⟨ad, A', c', e, h1, h2, h3⟩

theorem OwnB.cut {w : World} {A : Option Addr} {c : Nat} {l : List UInt8} (h : OwnB w A c l) (k : Nat) (hk : k ≤ l.length) : OwnB w A c (l.take k) := by
  have hlk : (l.take k).length = k := by rw [List.length_take]; omega
  refine ⟨by simp, ?_⟩
  rcases h.2 with ⟨hv, h0⟩ | ⟨g, cap, cur, hv, hb, hg, hnc, hm, hs, ht⟩
  · injection hv with e1 _ e3
    subst e1 e3
    exact .inl ⟨by rw [hlk]; congr 1; omega, by omega⟩
  · injection hv with e1 e2 e3
    subst e1 e3
    refine .inr ⟨g, c, cur, rfl, hb, hg, by omega, hm, hs, ?_⟩
    rw [List.map_take, ← ht, hlk, List.take_take]
    congr 1
    omega

set_option maxRecDepth 100000 in
set_option maxHeartbeats 800000 in
theorem growNil_any (n : Nat) (hn : n ≤ 140737488000000) (w : World) :
    Calls Tryd.prog 76 #[.slice none 0 0, .int .i64 n] w fun e w' => ∃ A c, e = .returned (.slice A 0 c) ∧ OwnB w' A c [] ∧ Touch [] w w' ∧ ∀ b ∈ fpo A, w.heap.size ≤ b := by
  obtain ⟨i0, hi0, hz0, hz1, hz2⟩ := info_parts info_u8
  go_enter Tryd.func76, Tryd.ntmps76
  by_cases h0 : n = 0
  · subst h0
    go_wp2
    go_ret
    exact ⟨none, 0, rfl, OwnB.nil _, Touch.refl _ _, by simp [fpo]⟩
  · have hn0 : 0 < n := by omega
    have hge := grownCap_ge w n 0 5
    have hle := grownCap_le_maxLen w n 0 5 (by simp only [maxLen]; omega)
    have hold : (Builtin.firstCells i0.size 0 (.slice none 0 0)).run Tryd.prog w.drew = .ok ([] : List Value).toArray w.drew := run_firstCells_none w.drew i0.size 0 0 0
    have hrz : ∀ ty, (Builtin.append_ #[22, 3] ty #[.slice none 0 0, .int .i64 (n : Int)]).run Tryd.prog w =
        .ok (.slice (some ⟨w.heap.size, 0, none⟩) n (grownCap w n 0 5)) (w.drew.alloc (.cells (((List.replicate n (0 : UInt8)).map B).toArray ++ Builtin.zeroCells (Value.int .u8 0).cells (grownCap w n 0 5 - n)) 5)) := fun ty => by
      have h := Lib.run_append_grow_zeros w 22 3 ty 5 i0 (.int .u8 0) .i64 .i64 Tryd.underlying22 Tryd.underlying3 hi0 hz0 none 0 0 [] hold n hn0 (by omega) (by omega) (by omega)
        (by rw [hz2]; omega) (by rw [hz2]; exact growslice_fits (by omega) (by omega))
      rw [Nat.zero_add] at h
      rw [h]
      have hz : Builtin.zeroCells (Value.int .u8 0).cells n = ((List.replicate n (0 : UInt8)).map B).toArray := by
        apply Array.ext
        · rw [size_zeroCells]; simp [Value.cells]
        · intro i h1 h2
          simp [Builtin.zeroCells, Value.cells, B, Nat.mod_one]
      rw [hz, Array.empty_append]
    have hmade := OwnB.made w.drew (List.replicate n (0 : UInt8)) n (grownCap w n 0 5) (Builtin.zeroCells (Value.int .u8 0).cells (grownCap w n 0 5 - n)) List.length_replicate hge hle (by rw [size_zeroCells]; simp [Value.cells])
    have hcut := hmade.cut 0 (by omega)
    obtain ⟨W, hW⟩ : ∃ W, W = w.drew.alloc (.cells (((List.replicate n (0 : UInt8)).map B).toArray ++ Builtin.zeroCells (Value.int .u8 0).cells (grownCap w n 0 5 - n)) 5) := ⟨_, rfl⟩
    obtain ⟨G, hG⟩ : ∃ G, G = grownCap w n 0 5 := ⟨_, rfl⟩
    have tW : Touch [] w W := by rw [hW]; exact ((Touch.refl [] w).drew).alloc _
    rw [← hW] at hrz hcut
    rw [← hG] at hrz hcut hge hle
    have hsz : w.drew.heap.size = w.heap.size := rfl
    rw [hsz] at hcut
    simp only [List.take_zero] at hcut
    unfold maxLen at hle
    clear hmade hW hG hold hsz
    go_wp2_with (at_builtin; refine Lib.wpList_append_run _ rfl _ _ _ _ rfl _ _ rfl rfl _ _ (hrz _) ?_)
    go_ret
    exact ⟨_, G, rfl, hcut, tW, by simp [fpo]⟩

/-- the lengths of the first k -/
def lens (ls : List (List UInt8)) : Nat := (ls.map List.length).sum

set_option maxHeartbeats 800000 in
theorem concat_any (A : Option Addr) (c n : Nat) (ls : List (List UInt8)) (hn : ls.length = n) (hl : ∀ l ∈ ls, l.length ≤ 1000000000) (hn4 : n ≤ 1000) (w : World) (h : BsAt w A ls) :
    Calls Tryd.prog 74 #[.slice A n c] w fun e w' => ∃ A' c', e = .returned (.slice A' ls.flatten.length c') ∧ OwnB w' A' c' ls.flatten ∧ Touch [] w w' ∧ ∀ b ∈ fpo A', w.heap.size ≤ b := by
  subst hn
  have hflat : ∀ k, k ≤ ls.length → (ls.take k).flatten.length ≤ 1000000000 * k := by
    intro k
    induction k with
    | zero => simp
    | succ k ih =>
      intro hk
      rw [List.take_succ_eq_append_getElem (by omega), List.flatten_append, List.length_append]
      have := ih (by omega)
      have := hl _ (List.getElem_mem (show k < ls.length by omega))
      simp only [List.flatten_cons, List.flatten_nil, List.append_nil]; omega
  have Hflat := Lib.hid hflat; clear hflat
  go_enter Tryd.func74, Tryd.ntmps74
  go_wp2
  go_loop [3, 11] (fun s i => ∃ k : Nat, k ≤ ls.length ∧ i = .int .i64 k ∧ s = .int .i64 ((ls.take k).flatten.length : Nat)) (fun _ i => ls.length - (intOf i).toNat)
  case atStart => exact ⟨0, by omega, rfl, rfl⟩
  case round =>
    obtain ⟨k, hk, rfl, rfl⟩ := hrel
    have hF := Hflat.out k hk
    by_cases hlt : k < ls.length
    · obtain ⟨ad, A', c', rfl, hcell, _, _⟩ := h.at_ k hlt
      have hs : (ls.take (k + 1)).flatten.length = (ls.take k).flatten.length + ls[k].length := by
        rw [List.take_succ_eq_append_getElem hlt, List.flatten_append, List.length_append]; simp
      have Hs := Lib.hid hs; clear hs
      have hll := hl _ (List.getElem_mem hlt)
      obtain ⟨F, hFe⟩ : ∃ F, F = (ls.take k).flatten.length := ⟨_, rfl⟩
      obtain ⟨m, hm⟩ : ∃ m, m = ls[k].length := ⟨_, rfl⟩
      rw [← hFe] at hF ⊢
      rw [← hm] at hcell hll
      have Hs2 : Hid ((ls.take (k + 1)).flatten.length = F + m) := by have := Hs.out; rw [← hFe, ← hm] at this; exact Lib.hid this
      clear Hs hFe hm
      go_wp2
      go_round
      case rel => exact ⟨k + 1, by omega, by go_num, by rw [Hs2.out]; go_num⟩
      case measure => simp [intOf]; omega
    · obtain rfl : k = ls.length := by omega
      rw [List.take_length] at hF ⊢
      obtain ⟨F, hFe⟩ : ∃ F, F = ls.flatten.length := ⟨_, rfl⟩
      rw [← hFe] at hF ⊢
      have HF := Lib.hid hFe; clear hFe
      go_wp2_with fail
      refine (growNil_any F (by omega) w).mono ?_
      rintro e w1 ⟨A1, c1, rfl, hown1, ht1, hf1⟩
      go_wp2_with fail
      go_loopw [6, 27] (fun v i wr => ∃ (k n : Nat) (A2 : Option Addr) (c2 : Nat), k ≤ ls.length ∧ i = .int .i64 k ∧ v = .slice A2 n c2 ∧ n = (ls.take k).flatten.length ∧ OwnB wr A2 c2 (ls.take k).flatten ∧ Touch [] w wr ∧ ∀ b ∈ fpo A2, w.heap.size ≤ b) (fun _ i _ => ls.length - (intOf i).toNat)
      case atStart => exact ⟨0, 0, A1, c1, by omega, rfl, rfl, rfl, hown1, ht1, hf1⟩
      case round =>
        clear hown1 ht1 hf1
        obtain ⟨k, n, A2, c2, hk, rfl, rfl, hn, hown, ht, hf⟩ := hrel
        have hF2 := Hflat.out k hk
        rw [← hn] at hF2
        by_cases hlt : k < ls.length
        · obtain ⟨ad, A', c', rfl, hcell, hrd, _⟩ := (h.touch0 ht).at_ k hlt
          have hs : (ls.take (k + 1)).flatten = (ls.take k).flatten ++ ls[k] := by
            rw [List.take_succ_eq_append_getElem hlt, List.flatten_append]; simp
          have Hs := Lib.hid hs; clear hs
          have hll := hl _ (List.getElem_mem hlt)
          have Hn := Lib.hid hn.symm; clear hn
          go_wp2_with (at_builtin; refine stop ?_)
          refine go ?_
          refine wpList_appB rfl (.tmp 31) (.tmp 32) rfl A2 n c2 _ Hn.out rfl hown A' ls[k].length c' ls[k] rfl rfl hrd (by omega) ?_
          intro A3 c3 w3 hown3 ht3 hf3
          have hs3 := ht.size
          go_wp2_with fail
          go_roundw
          case rel => exact ⟨k + 1, _, A3, c3, by omega, by go_num, rfl, by rw [Hs.out, List.length_append, Hn.out], by rw [Hs.out]; exact hown3, ht.trans ht3 (fun b hb => .inr (hf b hb)), fun b hb => by
            rcases hf3 b hb with h1 | h1
            · exact hf b h1
            · omega⟩
          case measure => simp [intOf]; omega
        · obtain rfl : k = ls.length := by omega
          rw [List.take_length] at hn hown
          subst hn
          go_wp2
          go_ret
          exact ⟨A2, c2, rfl, hown, ht, hf⟩

/-- a frame's bytes -/
def frm (s : List UInt8) : List UInt8 := encT (S s) ++ digs (sumOf s) 4
theorem frm_length (s : List UInt8) : (frm s).length = (encI s.length).length + s.length + 4 := by
  unfold frm; rw [List.length_append, encT_length, digs_length, S_size]

set_option maxHeartbeats 800000 in
theorem refFrame_any (A : Option Addr) (c n : Nat) (bs : List UInt8) (hn : bs.length = n) (hm : n ≤ 1000000000) (w : World) (hr : RdB w A bs) :
    Calls Tryd.prog 39 #[.slice A n c] w fun e w' => ∃ A' c', e = .returned (.slice A' (frm bs).length c') ∧ OwnB w' A' c' (frm bs) ∧ Touch [] w w' ∧ ∀ b ∈ fpo A', w.heap.size ≤ b := by
  subst hn
  have hfl := frm_length bs
  have hEl := encI_length bs.length
  have hTl := encT_length (S bs)
  rw [S_size] at hTl
  have hsl := sumOf_lt bs
  have hsum := sum_eq bs
  have Hsum := Lib.hid hsum; clear hsum
  have Hfl := Lib.hid hfl; clear hfl
  go_enter Tryd.func39, Tryd.ntmps39
  have hcv := run_str_of c rfl hr
  go_wp2_with fail
  clear hcv
  refine (refText_any (S bs) (by rw [S_size]; omega) w).mono ?_
  rintro e w1 ⟨A1, c1, rfl, hown1, ht1, hf1⟩
  obtain ⟨E, hE⟩ : ∃ E, E = encT (S bs) := ⟨_, rfl⟩
  have hTE : (encI bs.length).length + bs.length = E.length := by rw [hE]; exact hTl.symm
  rw [← hE] at hown1 ⊢
  have HE := Lib.hid hE; clear hE
  have hE9 : E.length ≤ 1000000009 := by omega
  try rw [hTl]
  try rw [hTE]
  clear hTl hTE
  go_wp2_with fail
  refine (refSum_any A c bs w1 (by unfold maxLen; omega) (hr.touch0 ht1)).mono ?_
  rintro e w2 ⟨rfl, rfl⟩
  rw [← Hsum.out]
  obtain ⟨N, hN⟩ : ∃ N, N = sumOf bs := ⟨_, rfl⟩
  rw [← hN] at hsl ⊢
  have HN := Lib.hid hN; clear hN
  go_wp2_with fail
  go_loopw [3, 4, 5] (fun v s i wr => ∃ (k : Nat) (A2 : Option Addr) (c2 : Nat), k ≤ 4 ∧ i = .int .i64 k ∧ v = .slice A2 (E.length + k) c2 ∧ s = .int .u32 (N / 256 ^ k : Nat) ∧ OwnB wr A2 c2 (E ++ digs N k) ∧ Touch [] w wr ∧ ∀ b ∈ fpo A2, w.heap.size ≤ b) (fun _ _ i _ => 4 - (intOf i).toNat)
  case atStart => exact ⟨0, A1, c1, by omega, rfl, rfl, by simp, by simpa [digs] using hown1, ht1, hf1⟩
  case round =>
    clear hown1 ht1 hf1
    obtain ⟨k, A2, c2, hk, rfl, rfl, rfl, hown, ht, hf⟩ := hrel
    by_cases hlt : k < 4
    · obtain ⟨q, hq⟩ : ∃ q, q = N / 256 ^ k := ⟨_, rfl⟩
      have hql : q < 4294967296 := hq ▸ Nat.lt_of_le_of_lt (Nat.div_le_self _ _) hsl
      rw [← hq]
      have Hq := Lib.hid hq; clear hq
      have hx : (q : Int) % 256 = ((UInt8.ofNat q).toNat : Int) := by simp
      have Hx := Lib.hid hx; clear hx
      have hlen : (E ++ digs N k).length = E.length + k := by rw [List.length_append, digs_length]
      have Hlen := Lib.hid hlen; clear hlen
      have hs0 := ht.size
      go_wp2_with (at_builtin; refine stop ?_)
      refine go ?_
      refine wpList_appB rfl (.tmp 15) (.tmp 19) rfl A2 (E.length + k) c2 (E ++ digs N k) Hlen.out rfl (hown.touch0 ((Touch.refl _ _).alloc _)) (some ⟨wr.heap.size, 0, none⟩) 1 1 [UInt8.ofNat q] rfl rfl (RdB.one' _ _ Hx.out) (by omega) ?_
      intro A3 c3 w3 hown3 ht3 hf3
      go_wp2_with fail
      go_roundw
      case rel => exact ⟨k + 1, A3, c3, by omega, by go_num, rfl, by rw [Nat.pow_succ, ← Nat.div_div_eq_div_mul, ← Hq.out]; go_num, by rw [digs_snoc, ← Hq.out, ← List.append_assoc]; exact hown3,
        (ht.alloc _).trans ht3 (fun b hb => .inr (hf b hb)), fun b hb => (by
          rcases hf3 b hb with h | h
          · exact hf b h
          · simp at h; omega)⟩
      case measure => simp [intOf]; omega
    · obtain rfl : k = 4 := by omega
      go_wp2
      go_ret
      have hfr : E ++ digs N 4 = frm bs := by rw [HE.out, HN.out]; rfl
      rw [hfr] at hown
      exact ⟨A2, c2, ret_slice (by rw [← hfr, List.length_append, digs_length]), hown, ht, hf⟩

theorem BsAt.two (w : World) {A1 A2 : Option Addr} {l1 l2 : List UInt8} {n1 n2 c1 c2 : Nat} (h1 : RdB w A1 l1) (h2 : RdB w A2 l2) (e1 : l1.length = n1) (e2 : l2.length = n2) (k1 : n1 ≤ c1) (k2 : n2 ≤ c2) : BsAt (w.alloc (.cells #[.slice A1 n1 c1, .slice A2 n2 c2] 22)) (some ⟨w.heap.size, 0, none⟩) [l1, l2] := by
  subst e1 e2
  have ta := (Touch.refl [] w).alloc (.cells #[.slice A1 l1.length c1, .slice A2 l2.length c2] 22)
  intro _
  have hadd : ∀ j, (⟨w.heap.size, 0, none⟩ : Addr).add j = ⟨w.heap.size, j, none⟩ := fun j => by unfold Addr.add; split <;> simp_all
  refine ⟨_, rfl, fun j hj => ?_⟩
  rw [hadd, cell_of_row _ w.heap.size j _ 22 (0, 0) (heap_alloc_new w _)]
  rcases j with _ | _ | j
  · exact ⟨A1, c1, rfl, h1.touch0 ta, k1⟩
  · exact ⟨A2, c2, rfl, h2.touch0 ta, k2⟩
  · simp at hj; omega

theorem OutAt.touch {w w' : World} {g : Nat} {A : Option Addr} {l : List UInt8} {fp : List Nat} (h : OutAt w g A l) (ht : Touch fp w w') (hg : g ∉ fp) (hA : ∀ b ∈ fpo A, b ∉ fp) : OutAt w' g A l := by
  obtain ⟨c, hb, ho, hn⟩ := h
  exact ⟨c, ht.blk hb hg, ho.touch ht hA, hn⟩

set_option maxRecDepth 100000 in
set_option maxHeartbeats 3200000 in
theorem frame_any (A : Option Addr) (c n : Nat) (bs : List UInt8) (hn : bs.length = n) (hm : n ≤ 900000000) (w : World) (hr : RdB w A bs) (hh : HalfAt w) :
    Calls Tryd.prog 58 #[.slice A n c] w fun e w' => ∃ A' c', e = .returned (.slice A' (frm bs).length c') ∧ OwnB w' A' c' (frm bs) ∧ Touch [] w w' ∧ ∀ b ∈ fpo A', w.heap.size ≤ b := by
  subst hn
  have hsl := sumOf_lt bs
  have ho := Lib.hid (show OutAt (w.alloc (.cells #[.slice none 0 0] 101)) w.heap.size none [] from ⟨0, heap_alloc_new w _, OwnB.nil _, by simp [fpo]⟩)
  have ta := (Touch.refl [] w).alloc (.cells #[.slice none 0 0] 101)
  go_enter Tryd.func58, Tryd.ntmps58
  go_wp2_with fail
  have T0 := ta.drew
  have hr0 : RdB (w.alloc (.cells #[.slice none 0 0] 101)).drew A bs := hr.touch0 T0
  have hh0 := hh.touch T0 (by simp)
  have hcv0 := run_str_of c rfl hr0
  have hwr : IntKind.u64.wrap ((sumOf bs : Nat) : Int) = ((sumOf bs : Nat) : Int) := by rw [IntKind.wrap_u64]; omega
  have hfl : [encT (S bs), digs (sumOf bs) 4].flatten = frm bs := by simp [frm]
  have hl4 : ∀ l ∈ [encT (S bs), digs (sumOf bs) 4], l.length ≤ 1000000000 := by
    intro l hl
    have h1 := encT_length (S bs)
    have h2 := encI_length bs.length
    have h3 := digs_length (sumOf bs) 4
    rw [S_size] at h1
    simp at hl
    rcases hl with rfl | rfl <;> omega
  have Hl4 := Lib.hid hl4; clear hl4
  have hoA := ho.out.touch ((Touch.refl [] _).drew) (by simp) (by simp)
  have hside : ∀ b ∈ w.heap.size :: fpo none, b ∈ ([] : List Nat) ∨ w.heap.size ≤ b := by simp [fpo]
  go_region_with (first
    | (go_at_call 61; refine (outText_any w.heap.size none [] (S bs) (by rw [S_size]; simp; omega) _ (by first | with_reducible exact hoA | with_reducible exact hoL)).mono ?_; rintro e w3 ⟨rfl, A3, ⟨c3, hb3, hown3, hn3⟩, htT, hfT⟩; simp only [List.nil_append] at hb3 hown3; have hcell3 := cell_of_one hb3; (first | have T3 : Touch [] w w3 := by with_reducible exact T0.trans htT hside | have T3 : Touch [] w w3 := by with_reducible exact (T0.trans0 htL).trans htT hside); have hr3 : RdB w3 A bs := hr.touch0 T3; have hh3 := hh.touch T3 (by simp); try (have x5 : OwnB w3 A5 c5 (digs (sumOf bs) 4) := hown5.touch htT (fun b hb hm => by have := hfL b hb; simp [fpo] at hm; simp at this; omega); have x3 : OwnB w3 A3 c3 (encT (S bs)) := hown3; have TL : Touch [] w w3 := T3))
    | (go_at_call 69; refine (sum_any A c bs _ (by unfold maxLen; omega) (by first | with_reducible exact hr0 | with_reducible exact hr3) (by first | with_reducible exact hh0 | with_reducible exact hh3)).mono ?_; rintro e w4 ⟨rfl, rfl⟩)
    | (go_at_call 68; refine (low_four (sumOf bs) hsl _).mono ?_; rintro e w5 ⟨A5, c5, rfl, hown5, htL, hfL⟩; (first | have hcell5 := cell_of_one (htL.blk hb3 (by simp)) | (have hcv5 := run_str_of c rfl (hr0.touch0 htL); have hoL := hoA.touch htL (by simp) (by simp))); try (have x3 : OwnB w5 A3 c3 (encT (S bs)) := hown3.touch0 htL; have x5 : OwnB w5 A5 c5 (digs (sumOf bs) 4) := hown5; have TL : Touch [] w w5 := T3.trans0 htL))
    | (go_at_call 74; refine (concat_any _ _ 2 [encT (S bs), digs (sumOf bs) 4] rfl Hl4.out (by omega) _ (BsAt.two _ x3.rd x5.rd rfl (digs_length _ _) x3.le (by have := x5.le; rw [digs_length] at this; exact this))).mono ?_; rintro e w6 ⟨A6, c6, rfl, hown6, ht6, hf6⟩))
  all_goals
    go_wp2
    go_ret
    rw [hfl] at hown6
    have T6 := (TL.alloc (.cells #[.slice A3 (encT (S bs)).length c3, .slice A5 4 c5] 22)).trans0 ht6
    have hsz := TL.size
    exact ⟨A6, c6, rfl, hown6, T6, fun b hb => by have := hf6 b hb; simp at this; omega⟩
end Go.Proofs.YtlcpljpeljoboaaDoor

/- frame.Out.Bytes: a copy of what an Out holds. -/
namespace Go.Proofs.YtlcpljpeljoboaaDoor
open Go.RowKit

set_option maxHeartbeats 400000 in
theorem outBytes_any (g : Nat) (A : Option Addr) (l : List UInt8) (hl : l.length ≤ 140737488000000) (w : World) (ho : OutAt w g A l) :
    Calls Tryd.prog 62 #[.pointer (some ⟨g, 0, none⟩)] w fun e w' => ∃ A' c', e = .returned (.slice A' l.length c') ∧ CloneAt l w w' A' c' := by
  obtain ⟨c, hg, hown, hgA⟩ := ho
  have hcell := cell_of_one hg
  go_enter Tryd.func62, Tryd.ntmps62
  go_wp2_with (go_at_call 43; refine (clone_any A c l w hown.rd hl).mono ?_; rintro e w1 ⟨A1, c1, rfl, h1⟩)
  go_ret
  exact ⟨A1, c1, rfl, h1⟩
end Go.Proofs.YtlcpljpeljoboaaDoor

/- bywashlaw07.FrameReads: the walk of the law. For every slice of bytes; the table as the program's text lays it. -/
namespace Go.Proofs.YtlcpljpeljoboaaDoor
open Go.RowKit

theorem rdI_rest {l r : List UInt8} {n : Int} (h : rdI l = some (n, r)) : r.length < l.length ∧ r = l.drop (l.length - r.length) := by
  rcases l with _ | ⟨x, t⟩
  · cases h
  · unfold rdI at h
    dsimp only at h
    generalize (if 16 ≤ x.toNat then x.toNat - 16 else x.toNat) = s at h
    by_cases hn : 8 < s ∨ t.length < s ∨ (0 < s ∧ t[s - 1]? = some 0) ∨ 9223372036854775808 ≤ leV (t.take s)
    · rw [if_pos hn] at h; cases h
    · rw [if_neg hn] at h
      obtain ⟨_, rfl⟩ : _ ∧ t.drop s = r := by simpa using h
      rw [List.length_drop, List.length_cons]
      refine ⟨by omega, ?_⟩
      rw [show t.length + 1 - (t.length - s) = s + 1 by omega, List.drop_succ_cons]
theorem rdI_at {b r : List UInt8} {n : Int} {at_ : Nat} (h : rdI (b.drop at_) = some (n, r)) : ∃ E, E ≤ b.length ∧ r = b.drop E ∧ refRd b at_ = (n, (E : Int)) ∧ b.length - E = r.length := by
  obtain ⟨h1, h2⟩ := rdI_rest h
  rw [List.length_drop] at h1
  refine ⟨b.length - r.length, by omega, ?_, ?_, by omega⟩
  · rw [List.drop_drop, List.length_drop] at h2
    rw [show at_ + (b.length - at_ - r.length) = b.length - r.length by omega] at h2
    exact h2
  · unfold refRd
    rw [h]
    dsimp only
    congr 1
    omega
theorem refRd_none {b : List UInt8} {at_ : Nat} (h : rdI (b.drop at_) = none) : refRd b at_ = (0, -1) := by unfold refRd; rw [h]

theorem S_nil : S [] = ⟨#[]⟩ := rfl

/-- what holds at each round's head -/
structure ReadsAt (w : World) (b : List UInt8) (g : Nat) (at_ : Nat) (bad : Bool) (wr : World) : Prop where
  inn : ∃ A l, InAt wr g A l bad ∧ (bad = false → l = b.drop at_) ∧ ∀ x ∈ fpo A, w.heap.size ≤ x
  le : at_ ≤ b.length
  t : Touch [] w wr

theorem ReadsAt.next {w : World} {b : List UInt8} {g at2 : Nat} {bad2 : Bool} {wr w1 w2 : World} {A : Option Addr} {l2 : List UInt8} (hg : w.heap.size ≤ g) (hf : ∀ x ∈ fpo A, w.heap.size ≤ x) (ht : Touch [] w wr) (ht1 : Touch [] wr w1) (hle : at2 ≤ b.length) (hp : InPost g A l2 bad2 w1 w2) (hl : bad2 = false → l2 = b.drop at2) : ReadsAt w b g at2 bad2 w2 := by
  obtain ⟨A2, hi2, ht2, hf2⟩ := hp
  exact ⟨⟨A2, l2, hi2, hl, fun x hx => hf x (hf2 x hx)⟩, hle, (ht.trans0 ht1).trans ht2 (fun b hb => .inr (by simp at hb; omega))⟩
end Go.Proofs.YtlcpljpeljoboaaDoor

/- frame.Scan, bywashref07.Scan: the frames that any bytes hold. For every slice of bytes. -/
namespace Go.Proofs.YtlcpljpeljoboaaDoor
open Go.RowKit

/-- the next frame, and what is left -/
def scan1 (m : List UInt8) : Option (List UInt8 × List UInt8) :=
  match rdT m with
  | some (s, r) => if r.length < 4 then none else if r.take 4 = digs (sumOf s) 4 then some (s, r.drop 4) else none
  | none => none
/-- frame by frame -/
def Steps : List UInt8 → List (List UInt8) → List UInt8 → Prop
  | b, [], m => m = b
  | b, s :: ls, m => ∃ b', scan1 b = some (s, b') ∧ Steps b' ls m
theorem Steps.snoc {b m m' : List UInt8} {ls : List (List UInt8)} {s : List UInt8} (h : Steps b ls m) (h1 : scan1 m = some (s, m')) : Steps b (ls ++ [s]) m' := by
  induction ls generalizing b with
  | nil =>
    obtain rfl : m = b := h
    exact ⟨m', h1, rfl⟩
  | cons x ls ih =>
    obtain ⟨b', h2, h3⟩ := h
    exact ⟨b', h2, ih h3⟩
theorem Steps.unique {b m m' : List UInt8} {ls ls' : List (List UInt8)} (h : Steps b ls m) (hn : scan1 m = none) (h' : Steps b ls' m') (hn' : scan1 m' = none) : ls = ls' ∧ m = m' := by
  induction ls generalizing b ls' with
  | nil =>
    obtain rfl : m = b := h
    cases ls' with
    | nil => exact ⟨rfl, (show m' = m from h').symm⟩
    | cons y ls' => obtain ⟨b', h2, _⟩ := h'; rw [hn] at h2; cases h2
  | cons x ls ih =>
    obtain ⟨b1, h1, h2⟩ := h
    cases ls' with
    | nil =>
      obtain rfl : m' = b := h'
      rw [hn'] at h1; cases h1
    | cons y ls' =>
      obtain ⟨b2, h3, h4⟩ := h'
      rw [h1] at h3
      cases h3
      obtain ⟨rfl, e⟩ := ih h2 h4
      exact ⟨rfl, e⟩

theorem rdT_rest {m s r : List UInt8} (h : rdT m = some (s, r)) : s.length + r.length < m.length ∧ ∃ k, k ≤ m.length ∧ r = m.drop k ∧ r.length = m.length - k := by
  unfold rdT at h
  rcases hI : rdI m with _ | ⟨n, l'⟩
  · rw [hI] at h; cases h
  · rw [hI] at h
    dsimp only at h
    obtain ⟨h1, h2⟩ := rdI_rest hI
    by_cases hc : n < 0 ∨ (l'.length : Int) < n
    · rw [if_pos hc] at h; cases h
    · rw [if_neg hc] at h
      obtain ⟨e1, e2⟩ : l'.take n.toNat = s ∧ l'.drop n.toNat = r := by simpa using h
      subst e1 e2
      rw [List.length_take, List.length_drop]
      refine ⟨by omega, m.length - l'.length + n.toNat, by omega, ?_, by omega⟩
      conv => lhs; rw [h2]
      rw [List.drop_drop]
theorem scan1_rest {m s m' : List UInt8} (h : scan1 m = some (s, m')) : m'.length < m.length ∧ m' = m.drop (m.length - m'.length) ∧ s.length ≤ m.length := by
  unfold scan1 at h
  rcases hT : rdT m with _ | ⟨s1, r⟩
  · rw [hT] at h; cases h
  · rw [hT] at h
    dsimp only at h
    obtain ⟨h1, k, h2, h3, h4⟩ := rdT_rest hT
    by_cases hc : r.length < 4
    · rw [if_pos hc] at h; cases h
    · rw [if_neg hc] at h
      by_cases hd : r.take 4 = digs (sumOf s1) 4
      · rw [if_pos hd] at h
        obtain ⟨e1, e2⟩ : s1 = s ∧ r.drop 4 = m' := by simpa using h
        subst e1 e2
        rw [List.length_drop]
        refine ⟨by omega, ?_, by omega⟩
        rw [show m.length - (r.length - 4) = k + 4 by omega, ← List.drop_drop, ← h3]
      · rw [if_neg hd] at h; cases h
theorem scan1_nil : scan1 [] = none := rfl

set_option maxHeartbeats 400000 in
theorem equal_any (A1 A2 : Option Addr) (n1 n2 c1 c2 : Nat) (l1 l2 : List UInt8) (e1 : l1.length = n1) (e2 : l2.length = n2) (w : World) (h1 : RdB w A1 l1) (h2 : RdB w A2 l2) :
    Calls Tryd.prog 67 #[.slice A1 n1 c1, .slice A2 n2 c2] w fun e w' => e = .returned (.bool (decide (l1 = l2))) ∧ w = w' := by
  have hcv1 := run_str_of c1 e1 h1
  have hcv2 := run_str_of c2 e2 h2
  have hb := Lib.hid (S_beq l1 l2)
  go_enter Tryd.func67, Tryd.ntmps67
  go_wp2
  go_ret
  exact ⟨ret_bool hb.out, rfl⟩

/-- slices of bytes in a row of the calls' own -/
structure OwnBs (w : World) (A : Option Addr) (c : Nat) (ls : List (List UInt8)) (vs : List Value) : Prop where
  own : w.ownsRow 0 22 1 (.slice A ls.length c) ls.length vs
  len : vs.length = ls.length
  at_ : ∀ j (h : j < ls.length), ∃ A' c', vs[j]? = some (.slice A' ls[j].length c') ∧ RdB w A' ls[j] ∧ ls[j].length ≤ c' ∧ (∀ b ∈ fpo A', b ∉ fpo A ∧ b < w.heap.size)
theorem OwnBs.nil (w : World) : OwnBs w none 0 [] [] := ⟨World.ownsRow_nil _ _ _ _, rfl, fun j h => by simp at h⟩
theorem OwnBs.bs {w : World} {A : Option Addr} {c : Nat} {ls : List (List UInt8)} {vs : List Value} (h : OwnBs w A c ls vs) : BsAt w A ls := by
  intro h0
  obtain ⟨hown, hlen, hat⟩ := h
  rcases hown.2 with ⟨hv, he⟩ | ⟨g, cap, cur, hv, _⟩
  · omega
  · have hA : A = some ⟨g, 0, none⟩ := by injection hv
    subst hA
    refine ⟨_, rfl, fun j hj => ?_⟩
    obtain ⟨A', c', h1, h2, h3, _⟩ := hat j hj
    exact ⟨A', c', World.ownsRow.cells hown (g := g) rfl j _ h1, h2, h3⟩
theorem OwnBs.touch {w w' : World} {A : Option Addr} {c : Nat} {ls : List (List UInt8)} {vs : List Value} {fp : List Nat} {n : Nat} (h : OwnBs w A c ls vs) (ht : Touch fp w w') (hA : ∀ b ∈ fpo A, b ∉ fp)
    (hr : ∀ j (h : j < ls.length) A', RdB w A' ls[j] → (∃ c', vs[j]? = some (.slice A' ls[j].length c')) → RdB w' A' ls[j]) (_ : n = n) : OwnBs w' A c ls vs := by
  obtain ⟨hown, hlen, hat⟩ := h
  refine ⟨⟨hown.1, ?_⟩, hlen, fun j hj => ?_⟩
  · rcases hown.2 with hv | ⟨g, cap, cur, hv, hb, hg, rest⟩
    · exact .inl hv
    · have hA' : A = some ⟨g, 0, none⟩ := by injection hv
      subst hA'
      exact .inr ⟨g, cap, cur, hv, hb, ht.blk hg (hA g (by simp [fpo])), rest⟩
  · obtain ⟨A', c', h1, h2, h3, h4⟩ := hat j hj
    exact ⟨A', c', h1, hr j hj A' h2 ⟨c', h1⟩, h3, fun b hb => ⟨(h4 b hb).1, Nat.lt_of_lt_of_le (h4 b hb).2 ht.size⟩⟩
theorem OwnBs.touch0 {w w' : World} {A : Option Addr} {c : Nat} {ls : List (List UInt8)} {vs : List Value} (h : OwnBs w A c ls vs) (ht : Touch [] w w') : OwnBs w' A c ls vs :=
  h.touch (n := 0) ht (by simp) (fun _ _ _ h1 _ => Rd.touch0 h1 ht) rfl
theorem OwnBs.lt {w : World} {A : Option Addr} {c : Nat} {ls : List (List UInt8)} {vs : List Value} (h : OwnBs w A c ls vs) : ∀ b ∈ fpo A, b < w.heap.size := by
  intro b hb
  rcases h.own.2 with ⟨hv, _⟩ | ⟨g, cap, cur, hv, _, hg, _⟩
  · injection hv with hA _ _; subst hA; cases hb
  · have hA : A = some ⟨g, 0, none⟩ := by injection hv
    subst hA
    have : b = g := by simpa [fpo] using hb
    subst this
    exact (Array.getElem?_eq_some_iff.1 hg).1
theorem info_bytes : (Tryd.prog.info? 22).map (fun i => (i.zero, i.size, i.bytes)) = some (some (.slice none 0 0), 1, 24) := by kernel_rfl

/-- append onto slices of bytes that the calls own: one more -/
theorem wpList_appBs {w : World} {ops : Array Oper} {rest : List Oper} {o : Oper} {a : Act} {Q : Exit → Act → World → Prop} (hgd : o.guard = none) (s x : Operand)
    (ho : o.op = .call { callee := .builtin .append, args := #[s, x], argTypes := #[49, 49] })
    (A0 : Option Addr) (n c0 : Nat) (ls : List (List UInt8)) (vs : List Value) (hn : ls.length = n) (hs : a.eval s = .slice A0 n c0) (hown : OwnBs w A0 c0 ls vs)
    (H : Nat) (Ax : Option Addr) (nx cx : Nat) (l : List UInt8) (hx : a.eval x = .slice (some ⟨H, 0, none⟩) 1 1) (hc : w.cell? ⟨H, 0, none⟩ = some (.slice Ax nx cx)) (hl : l.length = nx) (hr : RdB w Ax l) (hcx : nx ≤ cx) (hfx : ∀ b ∈ fpo Ax, b ∉ fpo A0 ∧ b < w.heap.size) (hbytes : n < 1000000000)
    (h : ∀ A' c' w', OwnBs w' A' c' (ls ++ [l]) (vs ++ [.slice Ax nx cx]) → Touch (fpo A0) w w' → (∀ b ∈ fpo A', b ∈ fpo A0 ∨ b = w.heap.size) → wpList Tryd.prog ops Q rest (a.put o.dst (.slice A' (n + 1) c')) w') :
    wpList Tryd.prog ops Q (o :: rest) a w := by
  obtain ⟨i0, hi0, hz0, hz1, hz2⟩ := info_parts info_bytes
  subst hn hl
  have hadd : (⟨H, 0, none⟩ : Addr).add 0 = ⟨H, 0, none⟩ := by unfold Addr.add; split <;> simp_all
  refine wpList_app w hgd s x _ ho 22 i0 _ 1 24 Tryd.underlying49 hi0 hz0 hz1 hz2 rfl (by omega) A0 ls.length c0 _ hs hown.own (some ⟨H, 0, none⟩) 1 1 [.slice Ax l.length cx] hx (by simp)
    (fun _ => ⟨_, rfl, fun j u hu => by
      rcases j with _ | j
      · simp at hu; subst hu; rw [hadd]; exact hc
      · simp at hu⟩) (by simp [Value.oneCell']) (by simp only [maxLen]; omega) (by omega) ?_
  intro A' c' w' h2 h3 h4
  refine h A' c' w' ⟨by rw [List.length_append]; exact h2, by simp [hown.len], fun j hj => ?_⟩ h3 h4
  have hlt := hown.lt
  by_cases hj2 : j < ls.length
  · obtain ⟨A1, c1, k1, k2, k3, k4⟩ := hown.at_ j hj2
    refine ⟨A1, c1, ?_, ?_, ?_, fun b hb => ⟨fun hm => ?_, Nat.lt_of_lt_of_le (k4 b hb).2 h3.size⟩⟩
    · rw [List.getElem?_append_left (by rw [hown.len]; exact hj2), k1, List.getElem_append_left hj2]
    · rw [List.getElem_append_left hj2]; exact Rd.touch k2 h3 (fun b hb => (k4 b hb).1)
    · rw [List.getElem_append_left hj2]; exact k3
    · rcases h4 b hm with e | e
      · exact (k4 b hb).1 e
      · have := (k4 b hb).2; omega
  · obtain rfl : j = ls.length := by simp at hj; omega
    refine ⟨Ax, cx, ?_, ?_, ?_, fun b hb => ⟨fun hm => ?_, Nat.lt_of_lt_of_le (hfx b hb).2 h3.size⟩⟩
    · rw [List.getElem?_append_right (by rw [hown.len]; exact Nat.le_refl _), hown.len]; simp
    · simp only [List.getElem_concat_length]; exact Rd.touch hr h3 (fun b hb => (hfx b hb).1)
    · simp only [List.getElem_concat_length]; exact hcx
    · rcases h4 b hm with e | e
      · exact (hfx b hb).1 e
      · have := (hfx b hb).2; omega
end Go.Proofs.YtlcpljpeljoboaaDoor

/- frame.Scan: the walk. For every slice of bytes. -/
namespace Go.Proofs.YtlcpljpeljoboaaDoor
open Go.RowKit

theorem InAt.touch1 {w w' : World} {g : Nat} {A : Option Addr} {l : List UInt8} {bad : Bool} {fp : List Nat} (h : InAt w g A l bad) (ht : Touch fp w w') (hg : g ∉ fp) (hA : 0 < l.length → ∀ b ∈ fpo A, b ∉ fp) : InAt w' g A l bad := by
  obtain ⟨⟨c, hc, hb⟩, hr, hn, hs⟩ := h
  refine ⟨⟨c, hc, ht.blk hb hg⟩, ?_, hn, hs⟩
  intro h0
  exact Rd.touch hr ht (hA (by simpa using h0)) h0
theorem InAt.lt {w : World} {g : Nat} {A : Option Addr} {l : List UInt8} {bad : Bool} (h : InAt w g A l bad) (h0 : 0 < l.length) : ∀ b ∈ fpo A, b < w.heap.size := Rd.lt h.rd (by simpa using h0)

/-- what holds at each round's head -/
structure ScanAt (w : World) (b : List UInt8) (g : Nat) (A2 : Option Addr) (n c2 : Nat) (E : Nat) (wr : World) : Prop where
  ex : ∃ ls vs m An, OwnBs wr A2 c2 ls vs ∧ ls.length = n ∧ n ≤ E ∧ Steps b ls m ∧ InAt wr g An m false ∧ E + m.length = b.length ∧ (∀ v ∈ vs, ∀ A' k c', v = .slice A' k c' → ∀ x ∈ fpo A', w.heap.size ≤ x ∧ x ≠ g) ∧
    (∀ x ∈ fpo An, w.heap.size ≤ x) ∧ (0 < m.length → ∀ x ∈ fpo A2, x ∉ fpo An)
  f2 : ∀ x ∈ fpo A2, w.heap.size ≤ x ∧ x ≠ g
  t : Touch [] w wr

/-- the outcome of a scan -/
def ScanPost (b : List UInt8) (w : World) (e : Ending) (w' : World) : Prop :=
  ∃ A c ls vs m, e = .returned (.tuple #[.slice A ls.length c, .int .i64 ((b.length - m.length : Nat) : Int)]) ∧ OwnBs w' A c ls vs ∧ Steps b ls m ∧ scan1 m = none ∧ Touch [] w w' ∧ (∀ x ∈ fpo A, w.heap.size ≤ x) ∧ ∀ v ∈ vs, ∀ A' k c', v = .slice A' k c' → ∀ x ∈ fpo A', w.heap.size ≤ x

theorem OwnBs.keepIn {w w' : World} {A : Option Addr} {c g : Nat} {ls : List (List UInt8)} {vs : List Value} (h : OwnBs w A c ls vs) (ht : Touch [g] w w') (hA : ∀ x ∈ fpo A, x ≠ g) (hv : ∀ v ∈ vs, ∀ A' k c', v = .slice A' k c' → g ∉ fpo A') : OwnBs w' A c ls vs :=
  h.touch (n := 0) ht (fun b hb hm => hA b hb (by simpa using hm)) (fun j hj A' hr ⟨c', hc⟩ => Rd.touch hr ht (fun b hb hm => by
    obtain rfl : b = g := by simpa using hm
    exact hv _ (List.mem_of_getElem? hc) A' _ c' rfl hb)) rfl

set_option maxRecDepth 100000 in
set_option maxHeartbeats 3200000 in
theorem scan_any (A : Option Addr) (c n : Nat) (b : List UInt8) (hn : b.length = n) (hm : n ≤ 900000000) (w : World) (hr : RdB w A b) (hh : HalfAt w) :
    Calls Tryd.prog 55 #[.slice A n c] w fun e w' => ScanPost b w e w' := by
  subst hn
  go_enter Tryd.func55, Tryd.ntmps55
  go_wp2_with fail
  refine (newIn_any A b.length c b rfl (by omega) w hr).mono ?_
  rintro e w1 ⟨g, A1, rfl, hi1, ht1, hgw, hf1⟩
  go_wp2_with fail
  go_loopw [2, 3] (fun v E wr => ∃ (A2 : Option Addr) (n c2 E' : Nat), v = .slice A2 n c2 ∧ E = .int .i64 E' ∧ ScanAt w b g A2 n c2 E' wr) (fun _ E _ => b.length - (intOf E).toNat)
  case atStart => exact ⟨none, 0, 0, 0, rfl, rfl, ⟨⟨[], [], b, A1, OwnBs.nil _, rfl, Nat.le_refl _, rfl, hi1, by omega, by simp, hf1, by simp [fpo]⟩, by simp [fpo], ht1⟩⟩
  case round =>
    clear hi1 ht1 hf1
    obtain ⟨A2, n, c2, E, rfl, rfl, ⟨ls, vs, m, An, hown, hln, hnE, hst, hi, hE, hvg0, hfn, hap⟩, hf2, ht⟩ := hrel
    have hvg : ∀ v ∈ vs, ∀ A' k c', v = .slice A' k c' → g ∉ fpo A' := fun v hv A' k c' e hm => (hvg0 v hv A' k c' e g hm).2 rfl
    have hvg1 : ∀ v ∈ vs, ∀ A' k c', v = .slice A' k c' → ∀ x ∈ fpo A', w.heap.size ≤ x := fun v hv A' k c' e x hx => (hvg0 v hv A' k c' e x hx).1
    obtain ⟨c3, hc3, hg3, hgl3, hc03, hc13, hfr3, hfr13⟩ := hi.mk'
    have hEm : (b.length - m.length : Nat) = E := by omega
    have hstop : ∀ w', Touch [g] wr w' ∨ Touch [] wr w' → scan1 m = none → ScanPost b w (.returned (.tuple #[.slice A2 n c2, .int .i64 (E : Int)])) w' := by
      intro w' hT hnone
      rcases hT with hT | hT
      · exact ⟨A2, c2, ls, vs, m, by rw [hln, hEm], hown.keepIn hT (fun x hx => (hf2 x hx).2) hvg, hst, hnone, ht.trans hT (fun x hx => .inr (by simp at hx; omega)), fun x hx => (hf2 x hx).1, hvg1⟩
      · exact ⟨A2, c2, ls, vs, m, by rw [hln, hEm], hown.touch0 hT, hst, hnone, ht.trans0 hT, fun x hx => (hf2 x hx).1, hvg1⟩
    clear hEm
    by_cases hm0 : m = []
    · subst hm0
      have hs := hstop wr (.inr (Touch.refl _ _)) scan1_nil
      have Hs := Lib.hid hs; clear hs hstop hg3 hE hln
      go_wp2
      go_ret2
      exact Hs.out
    · have hml : 0 < m.length := List.length_pos_iff.2 hm0
      have hT := inText_ok g An m wr hi
      have Hstop := Lib.hid hstop; clear hstop
      rcases hrT : rdT m with _ | ⟨s, r⟩
      · unfold TextPost at hT
        rw [hrT] at hT
        have hnone : scan1 m = none := by unfold scan1; rw [hrT]
        have Hnone := Lib.hid hnone
        have HT := Lib.hid hT
        clear hnone hT hrT hg3 hE hln hm0
        go_wp2_with fail
        refine HT.out.mono ?_
        rintro e w2 ⟨rfl, l2, A3, hi3, ht3, hf3⟩
        have hsb := run_bytes_of [] w2
        have tb := touch_bytes w2 []
        go_wp2_with fail
        clear hsb
        refine (take_no g A3 l2 true 4 (by omega) (by omega) _ (hi3.touch tb (by simp) (by simp)) (.inl rfl)).mono ?_
        rintro e w4 ⟨rfl, A4, hi4, ht4, hf4⟩
        obtain ⟨c4, hc4, hg4, hgl4, hc04, hc14, hfr4, hfr14⟩ := hi4.mk'
        clear hg4
        have Hs := Lib.hid (Hstop.out w4 (.inl ((ht3.trans0 tb).trans ht4 (fun b hb => .inl hb))) Hnone.out)
        go_wp2
        go_ret2
        exact Hs.out
      · unfold TextPost at hT
        rw [hrT] at hT
        have hsl := rdT_rest hrT
        have HT := Lib.hid hT
        obtain ⟨hsl1, k, hk1, hk2, hk3⟩ := hsl
        have hsm : m.length ≤ 900000000 := by omega
        have hsn := sumOf_lt s
        by_cases h4 : r.length < 4
        · have hnone : scan1 m = none := by unfold scan1; rw [hrT]; simp [h4]
          have Hnone := Lib.hid hnone
          clear hnone hT hrT hg3 hE hln hm0 hk2 hk3
          go_wp2_with fail
          refine HT.out.mono ?_
          rintro e w2 ⟨rfl, A3, hi3, ht3, hf3⟩
          have hsb := run_bytes_of s w2
          have tb := touch_bytes w2 s
          go_wp2_with fail
          clear hsb
          refine (take_no g A3 r false 4 (by omega) (by omega) _ (hi3.touch tb (by simp) (by simp)) (.inr (.inr (by omega)))).mono ?_
          rintro e w4 ⟨rfl, A4, hi4, ht4, hf4⟩
          obtain ⟨c4, hc4, hg4, hgl4, hc04, hc14, hfr4, hfr14⟩ := hi4.mk'
          clear hg4
          have Hs := Lib.hid (Hstop.out w4 (.inl ((ht3.trans0 tb).trans ht4 (fun b hb => .inl hb))) Hnone.out)
          go_wp2
          go_ret2
          exact Hs.out
        · have hs1 : scan1 m = if r.take 4 = digs (sumOf s) 4 then some (s, r.drop 4) else none := by unfold scan1; rw [hrT]; simp [h4]
          have Hs1 := Lib.hid hs1
          have hwr : IntKind.u64.wrap ((sumOf s : Nat) : Int) = ((sumOf s : Nat) : Int) := by rw [IntKind.wrap_u64]; omega
          clear hs1 hT hrT hg3 hm0 hk2
          go_wp2_with fail
          refine HT.out.mono ?_
          rintro e w2 ⟨rfl, A3, hi3, ht3, hf3⟩
          have hsb := run_bytes_of s w2
          have tb := touch_bytes w2 s
          have rb := rd_bytes w2 s
          have hi3' := hi3.touch tb (by simp) (by simp)
          have hgc := grownCap_ge w2 s.length 0 5
          obtain ⟨G, hG⟩ : ∃ G, G = grownCap w2 s.length 0 5 := ⟨_, rfl⟩
          rw [← hG] at hsb hgc
          clear hG
          go_wp2_with fail
          clear hsb
          refine (take_ok g A3 r 4 (by omega) _ hi3').mono ?_
          rintro e w4 ⟨⟨A0, rfl, hr0, hf0⟩, A4, hi4, ht4, hf4⟩
          obtain ⟨c4, hc4, hg4, hgl4, hc04, hc14, hfr4, hfr14⟩ := hi4.mk'
          have T4 := (ht3.trans0 tb).trans ht4 (fun b hb => .inl hb)
          have TW : Touch [] w w4 := ht.trans T4 (fun x hx => .inr (by simp at hx; omega))
          have hs2 := ht3.size
          have hgs : g < w2.heap.size := by omega
          have rb4 : RdB w4 (some ⟨w2.heap.size, 0, none⟩) s := Rd.touch rb ht4 (fun b hb hm => by
            simp [fpo] at hb hm; omega)
          have hrs : RdB w4 A0 (r.take 4) := Rd.touch hr0 ht4 (fun b hb hm => hi3.ne ((by simpa using hm : b = g) ▸ hf0 b hb))
          clear hg4
          go_wp2_with fail
          refine (sum_any (some ⟨w2.heap.size, 0, none⟩) G s w4 (by unfold maxLen; omega) rb4 (hh.touch TW (by simp))).mono ?_
          rintro e w5 ⟨rfl, rfl⟩
          go_wp2_with fail
          refine (low_four (sumOf s) hsn w4).mono ?_
          rintro e w5 ⟨A5, c5, rfl, hown5, ht5, hf5⟩
          go_wp2_with fail
          refine (equal_any A0 A5 4 4 4 c5 (r.take 4) (digs (sumOf s) 4) (by rw [List.length_take]; omega) (digs_length _ _) w5 (Rd.touch0 hrs ht5) hown5.rd).mono ?_
          rintro e w6 ⟨rfl, rfl⟩
          by_cases heq : r.take 4 = digs (sumOf s) 4
          · have hyes : scan1 m = some (s, r.drop 4) := by rw [Hs1.out, if_pos heq]
            have Hyes := Lib.hid hyes
            have Heq := Lib.hid heq
            have hde : decide (r.take 4 = digs (sumOf s) 4) = true := decide_eq_true heq
            rw [hde]
            clear hyes heq hde
            have hi5 : InAt w5 g A4 (r.drop 4) false := hi4.touch ht5 (by simp) (by simp)
            obtain ⟨c6, hc6, hg6, hgl6, hc06, hc16, hfr6, hfr16⟩ := hi5.mk'
            have hdl : (r.drop 4).length = r.length - 4 := List.length_drop
            have T5 := T4.trans0 ht5
            have hown5b := (hown.keepIn T4 (fun x hx => (hf2 x hx).2) hvg).touch0 ht5
            have hlt2 := hown.lt
            have tx := (Touch.refl [] w5).alloc (.cells #[.slice (some ⟨w2.heap.size, 0, none⟩) s.length G] 22)
            have hcx : (w5.alloc (.cells #[.slice (some ⟨w2.heap.size, 0, none⟩) s.length G] 22)).cell? ⟨w5.heap.size, 0, none⟩ = some (.slice (some ⟨w2.heap.size, 0, none⟩) s.length G) := cell_of_one (heap_alloc_new w5 _)
            have hs4 := ht4.size
            have hs5 := ht5.size
            rw [Lib.bytesWorld_size] at hs4
            have hfs : ∀ x ∈ fpo (some ⟨w2.heap.size, 0, none⟩ : Option Addr), x ∉ fpo A2 ∧ x < (w5.alloc (.cells #[.slice (some ⟨w2.heap.size, 0, none⟩) s.length G] 22)).heap.size := by
              intro x hx
              obtain rfl : x = w2.heap.size := by simpa [fpo] using hx
              refine ⟨fun hm => ?_, by simp; omega⟩
              have := hlt2 _ hm; omega
            have rb5 : RdB (w5.alloc (.cells #[.slice (some ⟨w2.heap.size, 0, none⟩) s.length G] 22)) (some ⟨w2.heap.size, 0, none⟩) s := (Rd.touch0 rb4 ht5).touch0 tx
            have hnl : n < 1000000000 := by omega
            have hE2 : n + 1 ≤ b.length - (r.drop 4).length := by omega
            have hE3 : (b.length - (r.drop 4).length) + (r.drop 4).length = b.length := by omega
            have hE4 : (b.length : Int) - ((r.length - 4 : Nat) : Int) = ((b.length - (r.drop 4).length : Nat) : Int) := by omega
            have hE5 : E < b.length - (r.drop 4).length := by omega
            have HE4 := Lib.hid hE4
            clear hE4
            clear hg6 hc06 hc16 hfr6 hfr16
            have Hln := Lib.hid hln
            have HE := Lib.hid hE
            clear hE hln hk3 hdl
            go_wp2_with (at_builtin; refine stop ?_)
            refine go ?_
            refine wpList_appBs rfl (.tmp 33) (.tmp 35) rfl A2 n c2 ls vs Hln.out rfl (hown5b.touch0 tx) w5.heap.size (some ⟨w2.heap.size, 0, none⟩) s.length G s rfl hcx rfl rb5 hgc hfs hnl ?_
            intro A7 c7 w7 hown7 ht7 hf7
            have hf4A : ∀ x ∈ fpo A4, x ∉ fpo A2 := fun x hx hm => hap hml x hm (hf3 x (hf4 x hx))
            have hi7 : InAt w7 g A4 (r.drop 4) false := (hi5.touch tx (by simp) (by simp)).touch ht7 (fun hm => (hf2 g hm).2 rfl) hf4A
            obtain ⟨c8, hc8, hg8, hgl8, hc08, hc18, hfr8, hfr18⟩ := hi7.mk'
            clear hg8
            have T7 : Touch [] w w7 := ((ht.trans T5 (fun x hx => .inr (by simp at hx; omega))).trans0 tx).trans ht7 (fun x hx => .inr (hf2 x hx).1)
            have hs7 := ht.size
            go_wp2_with fail
            go_roundw
            case rel => exact ⟨A7, n + 1, c7, b.length - (r.drop 4).length, rfl, by rw [HE4.out], ⟨⟨ls ++ [s], _, r.drop 4, A4, hown7, by rw [List.length_append, Hln.out]; rfl, hE2, hst.snoc Hyes.out, hi7, hE3, fun v hv A' k c' e => by
              rcases List.mem_append.1 hv with h1 | h1
              · exact hvg0 v h1 A' k c' e
              · obtain rfl : v = .slice (some ⟨w2.heap.size, 0, none⟩) s.length G := by simpa using h1
                injection e with e1 _ _
                subst e1
                intro x hx
                simp [fpo] at hx
                omega, fun x hx => hfn x (hf3 x (hf4 x hx)), fun h0 x hx hm => by
              rcases hf7 x hx with h1 | h1
              · exact hf4A x hm h1
              · have := hi5.lt h0 x hm
                simp at h1
                omega⟩, fun x hx => by
              rcases hf7 x hx with h1 | h1
              · exact hf2 x h1
              · simp at h1; omega, T7⟩⟩
            case measure =>
              have hdl2 : (r.drop 4).length = r.length - 4 := List.length_drop
              simp [intOf]; omega
          · have hnone : scan1 m = none := by rw [Hs1.out, if_neg heq]
            have hde : decide (r.take 4 = digs (sumOf s) 4) = false := decide_eq_false heq
            rw [hde]
            have Hs := Lib.hid (Hstop.out w5 (.inl (T4.trans0 ht5)) hnone)
            clear heq hde hnone hE hln
            go_wp2
            go_ret2
            exact Hs.out
end Go.Proofs.YtlcpljpeljoboaaDoor

/- bywashref07.Scan: the walk. For every slice of bytes. -/
namespace Go.Proofs.YtlcpljpeljoboaaDoor
open Go.RowKit

theorem rdI_canon {m r : List UInt8} {v : Int} (h : rdI m = some (v, r)) : m = encI v ++ r := by
  rcases m with _ | ⟨x, t⟩
  · cases h
  · obtain ⟨s, hs⟩ : ∃ s, s = x.toNat % 16 := ⟨_, rfl⟩
    have hx := x.toNat_lt
    by_cases hno : 31 < x.toNat ∨ 8 < s ∨ t.length < s ∨ 9223372036854775808 ≤ leV (t.take s) ∨ (t.take s).getLast? = some 0
    · rw [rdI_none x t s hs hno] at h; cases h
    · have h0 : (t.take s).getLast? ≠ some 0 := fun e => hno (.inr (.inr (.inr (.inr e))))
      have hl : (t.take s).length = s := by rw [List.length_take]; omega
      rw [rdI_cons x t s hs (by omega) (by omega) (by omega) (by omega) h0] at h
      have hb := (encI_back x (t.take s) (by omega) (by omega) (by omega)).2 h0
      obtain ⟨e1, e2⟩ : (if 16 ≤ x.toNat then -1 - (leV (t.take s) : Int) else (leV (t.take s) : Int)) = v ∧ t.drop s = r := by simpa using h
      rw [← e1, ← e2, hb, List.cons_append, List.take_append_drop]

theorem rdT_of {m r : List UInt8} {v : Nat} (h : rdI m = some ((v : Int), r)) (hv : v ≤ r.length) : rdT m = some (r.take v, r.drop v) := by
  unfold rdT
  rw [h]
  dsimp only
  rw [if_neg (by omega)]
  rfl
theorem frm_split {m r : List UInt8} {v : Nat} (h : rdI m = some ((v : Int), r)) (hv : v ≤ r.length) : m = encT (S (r.take v)) ++ r.drop v ∧ frm (r.take v) = encT (S (r.take v)) ++ digs (sumOf (r.take v)) 4 := by
  refine ⟨?_, rfl⟩
  have hl : (S (r.take v)).size = v := by rw [S_size, List.length_take]; omega
  unfold encT
  rw [hl, S_toList, List.append_assoc, List.take_append_drop]
  exact rdI_canon h
theorem scan1_long {m r : List UInt8} {v : Nat} (h : rdI m = some ((v : Int), r)) (hv : v ≤ r.length) (hl : m.length < (frm (r.take v)).length) : scan1 m = none := by
  obtain ⟨e1, e2⟩ := frm_split h hv
  have : (r.drop v).length < 4 := by
    rw [e2, List.length_append, digs_length] at hl
    have := congrArg List.length e1
    rw [List.length_append] at this
    omega
  unfold scan1
  rw [rdT_of h hv]
  dsimp only
  rw [if_pos this]
theorem scan1_fit {m r : List UInt8} {v : Nat} (h : rdI m = some ((v : Int), r)) (hv : v ≤ r.length) (hl : (frm (r.take v)).length ≤ m.length) :
    scan1 m = if m.take (frm (r.take v)).length = frm (r.take v) then some (r.take v, m.drop (frm (r.take v)).length) else none := by
  obtain ⟨e1, e2⟩ := frm_split h hv
  have h4 : ¬ (r.drop v).length < 4 := by
    rw [e2, List.length_append, digs_length] at hl
    have := congrArg List.length e1
    rw [List.length_append] at this
    omega
  have e3 : m.take (frm (r.take v)).length = encT (S (r.take v)) ++ (r.drop v).take 4 := by
    conv => lhs; rw [e1]
    rw [e2, List.length_append, digs_length, List.take_length_add_append]
  have e4 : m.drop (frm (r.take v)).length = (r.drop v).drop 4 := by
    conv => lhs; rw [e1]
    rw [e2, List.length_append, digs_length, List.drop_length_add_append]
  unfold scan1
  rw [rdT_of h hv]
  dsimp only
  rw [if_neg h4, e4]
  by_cases hd : (r.drop v).take 4 = digs (sumOf (r.take v)) 4
  · rw [if_pos hd, if_pos (by rw [e3, e2, hd])]
  · rw [if_neg hd, if_neg (by rw [e3, e2]; exact fun e => hd (List.append_cancel_left e))]

/-- what holds at each round's head -/
structure RScanAt (w : World) (b : List UInt8) (A2 : Option Addr) (n c2 : Nat) (a : Nat) (wr : World) : Prop where
  ex : ∃ ls vs, OwnBs wr A2 c2 ls vs ∧ ls.length = n ∧ Steps b ls (b.drop a) ∧ ∀ v ∈ vs, ∀ A' k c', v = .slice A' k c' → ∀ x ∈ fpo A', w.heap.size ≤ x
  na : n ≤ a
  le : a ≤ b.length
  f2 : ∀ x ∈ fpo A2, w.heap.size ≤ x
  t : Touch [] w wr

set_option maxRecDepth 100000 in
set_option maxHeartbeats 3200000 in
theorem refScan_any (A : Option Addr) (c n : Nat) (b : List UInt8) (hn : b.length = n) (hm : n ≤ 900000000) (hc : n ≤ c) (w : World) (hr : RdB w A b) :
    Calls Tryd.prog 36 #[.slice A n c] w fun e w' => ScanPost b w e w' := by
  subst hn
  go_enter Tryd.func36, Tryd.ntmps36
  go_wp2_with fail
  go_loopw [4, 5] (fun v a wr => ∃ (A2 : Option Addr) (n c2 a' : Nat), v = .slice A2 n c2 ∧ a = .int .i64 a' ∧ RScanAt w b A2 n c2 a' wr) (fun _ a _ => b.length - (intOf a).toNat)
  case atStart => exact ⟨none, 0, 0, 0, rfl, rfl, ⟨⟨[], [], OwnBs.nil _, rfl, by simp [Steps], by simp⟩, by omega, by omega, by simp [fpo], Touch.refl _ _⟩⟩
  case round =>
    obtain ⟨A2, n, c2, a, rfl, rfl, ⟨ls, vs, hown, hln, hst, hvg⟩, hna, hle, hf2, ht⟩ := hrel
    have hstop : ∀ w', Touch [] wr w' → scan1 (b.drop a) = none → ScanPost b w (.returned (.tuple #[.slice A2 n c2, .int .i64 (a : Int)])) w' := by
      intro w' hT hnone
      have e : b.length - (b.drop a).length = a := by rw [List.length_drop]; omega
      exact ⟨A2, c2, ls, vs, b.drop a, by rw [hln, e], hown.touch0 hT, hst, hnone, ht.trans0 hT, hf2, hvg⟩
    have Hstop := Lib.hid hstop; clear hstop
    have Hln := Lib.hid hln; clear hln
    have hrb : RdB wr A b := Rd.touch0 hr ht
    have hRead := refRead_any A c b a (by omega) hc (by omega) wr hrb
    rcases hI : rdI (b.drop a) with _ | ⟨v, r⟩
    · have hT : scan1 (b.drop a) = none := by unfold scan1 rdT; rw [hI]
      have hval := refRd_none hI
      have Hval := Lib.hid hval
      have HT := Lib.hid hT
      clear hval hT hI
      go_wp2_with fail
      refine hRead.mono ?_
      clear hRead
      rintro e w2 ⟨rfl, ht2⟩
      rw [Hval.out]
      have Hs := Lib.hid (Hstop.out w2 ht2 HT.out)
      go_wp2
      go_ret2
      exact Hs.out
    · obtain ⟨E, hE, hrE, hval, hEr⟩ := rdI_at hI
      have hvb := rdI_bounds hI
      have Hval := Lib.hid hval
      clear hval
      by_cases hv : v < 0 ∨ (r.length : Int) < v
      · have hT : scan1 (b.drop a) = none := by unfold scan1 rdT; rw [hI]; simp [hv]
        have HT := Lib.hid hT
        clear hT hI hrE
        rcases (show v < 0 ∨ (0 ≤ v ∧ (r.length : Int) < v) by omega) with hv0 | ⟨hv0, hv1⟩
        · clear hv
          go_wp2_with fail
          refine hRead.mono ?_
          clear hRead
          rintro e w2 ⟨rfl, ht2⟩
          rw [Hval.out]
          have Hs := Lib.hid (Hstop.out w2 ht2 HT.out)
          go_wp2
          go_ret2
          exact Hs.out
        · clear hv
          have hvE : (b.length : Int) - E < v := by omega
          go_wp2_with fail
          refine hRead.mono ?_
          clear hRead
          rintro e w2 ⟨rfl, ht2⟩
          rw [Hval.out]
          have Hs := Lib.hid (Hstop.out w2 ht2 HT.out)
          go_wp2
          go_ret2
          exact Hs.out
      · obtain ⟨v, rfl⟩ : ∃ k : Nat, v = (k : Int) := ⟨v.toNat, by omega⟩
        have hvr : v ≤ r.length := by omega
        have hlong := scan1_long hI hvr
        have hfit := scan1_fit hI hvr
        have hrest := (rdI_rest hI).1
        obtain ⟨s, hs⟩ : ∃ s, s = r.take v := ⟨_, rfl⟩
        have hsl : s.length = v := by rw [hs, List.length_take]; omega
        rw [← hs] at hlong hfit
        have hvE : (v : Int) ≤ (b.length : Int) - E := by omega
        obtain ⟨AS, hAS⟩ : ∃ AS, AS = if c = E then A else A.map (fun x => x.add E) := ⟨_, rfl⟩
        have hrS : ∀ W, RdB W A b → RdB W AS s := by
          intro W hW
          rw [hAS, hs]
          split
          · rw [List.eq_nil_of_length_eq_zero (show (r.take v).length = 0 by rw [List.length_take]; omega)]; exact Rd.nil _ _
          · rw [hrE]; exact RdB.pre (RdB.drop hW E) v
        have hsl2 := fun W => run_cutB A b.length c E (E + v) ((E : Int) + v) (by omega) (by omega) (by omega) W
        rw [← hAS, show E + v - E = v by omega] at hsl2
        rw [List.length_drop] at hrest hlong hfit
        have hfl := frm_length s
        have hfl2 := encI_length s.length
        have HrS := Lib.hid hrS
        have Hlong := Lib.hid hlong
        have Hfit := Lib.hid hfit
        have Hsl := Lib.hid hsl
        clear hrS hAS hrE hs hI hv hlong hfit hEr
        have hflv : (frm s).length ≤ v + 13 ∧ v + 5 ≤ (frm s).length := by omega
        clear hfl hfl2 hsl
        go_wp2_with fail
        refine hRead.mono ?_
        clear hRead
        rintro e w2 ⟨rfl, ht2⟩
        rw [Hval.out]
        have hrb2 : RdB w2 A b := Rd.touch0 hrb ht2
        have hrs2 := HrS.out w2 hrb2
        have hbE : decide ((E : Int) < 0) = false := by simp
        have hbv : decide ((v : Int) < 0) = false := by simp
        have hbr : decide ((b.length : Int) - E < (v : Int)) = false := by simp; omega
        go_wp2_with fail
        refine (refFrame_any AS (c - E) v s Hsl.out (by omega) w2 hrs2).mono ?_
        rintro e w3 ⟨A3, c3, rfl, hown3, ht3, hf3⟩
        obtain ⟨F, hF⟩ : ∃ F, F = (frm s).length := ⟨_, rfl⟩
        rw [← hF] at hflv ⊢
        have HF := Lib.hid hF; clear hF
        have T3 := ht2.trans0 ht3
        by_cases hbig : b.length < a + F
        · have hbb : decide ((b.length : Int) < (a : Int) + F) = true := by simp; omega
          have hA : IntKind.i64.wrap ((a : Int) + (F : Int)) = (a : Int) + F := IntWalk.i64_in _ (by omega)
          go_wp2_with fail
          go_quiet (fail)
          have Hs := Lib.hid (fun n => Hstop.out (w3.drewN n) (T3.drewN n) (Hlong.out (by rw [← HF.out]; omega)))
          go_wp2
          go_ret2
          exact Hs.out _
        · have hbb : decide ((b.length : Int) < (a : Int) + F) = false := by simp; omega
          have hA : IntKind.i64.wrap ((a : Int) + (F : Int)) = (a : Int) + F := IntWalk.i64_in _ (by omega)
          have hfl3 : (frm s).length = F := HF.out.symm
          have hcvf := fun W (hW : Touch [] w3 W) => run_str_of (w := W) c3 hfl3 (hown3.touch0 hW).rd
          have hrm : ∀ W, Touch [] w3 W → RdB W (if c = a then A else A.map (fun x => x.add a)) ((b.drop a).take F) := by
            intro W hW
            have hrW : RdB W A b := Rd.touch0 hrb (T3.trans0 hW)
            split
            · have : (b.drop a).length = 0 := by rw [List.length_drop]; omega
              rw [List.eq_nil_of_length_eq_zero this, List.take_nil]; exact Rd.nil _ _
            · exact RdB.pre (RdB.drop hrW a) F
          obtain ⟨AM, hAM⟩ : ∃ AM, AM = if c = a then A else A.map (fun x => x.add a) := ⟨_, rfl⟩
          have hsl3 := fun W => run_cutB A b.length c a (a + F) ((a : Int) + F) (by omega) (by omega) (by omega) W
          rw [← hAM] at hrm
          rw [← hAM, show a + F - a = F by omega] at hsl3
          have hml : ((b.drop a).take F).length = F := by rw [List.length_take, List.length_drop]; omega
          have hcvm := fun W (hW : Touch [] w3 W) => run_str_of (w := W) (c - a) hml (hrm W hW)
          have hq := S_beq (frm s) ((b.drop a).take F)
          have hq2 := S_bne (frm s) ((b.drop a).take F)
          have hfit := Hfit.out (by rw [← HF.out]; omega)
          rw [← HF.out] at hfit
          have c1 := fun n => hcvf (w3.drewN n) ((Touch.refl _ _).drewN n)
          have c2 := fun n => hcvm (w3.drewN n) ((Touch.refl _ _).drewN n)
          clear hcvf hcvm hfl3 hrm hAM
          by_cases heq : (b.drop a).take F = frm s
          · rw [if_pos heq] at hfit
            rw [heq] at c2 hq hq2 hml
            rw [show decide (frm s = frm s) = true from decide_eq_true rfl] at hq hq2
            have Hfit2 := Lib.hid hfit
            clear hfit heq hml
            go_wp2_with fail
            go_quiet (fail)
            obtain ⟨W, hW⟩ : ∃ W, W = w3.drewN nq := ⟨_, rfl⟩
            rw [← hW]
            have TW : Touch [] wr W := by rw [hW]; exact T3.drewN nq
            clear hW c1 c2 hq hq2 hsl3
            have hrsW : RdB W AS s := HrS.out W (Rd.touch0 hrb TW)
            have hE2 : IntKind.i64.wrap ((E : Int) + (v : Int)) = (E : Int) + v := IntWalk.i64_in _ (by omega)
            have hownW := hown.touch0 TW
            go_wp2_with (at_builtin; refine stop ?_)
            refine go ?_
            refine wpList_appB rfl (.tmp 62) (.tmp 68) rfl none 0 0 [] rfl rfl (OwnB.nil _) AS v (c - E) s Hsl.out rfl hrsW (by omega) ?_
            intro A7 c7 w7 hown7 ht7 hf7
            rw [Nat.zero_add]
            rw [List.nil_append] at hown7
            have tx := (Touch.refl [] w7).alloc (.cells #[.slice A7 v c7] 22)
            have hcx : (w7.alloc (.cells #[.slice A7 v c7] 22)).cell? ⟨w7.heap.size, 0, none⟩ = some (.slice A7 v c7) := cell_of_one (heap_alloc_new w7 _)
            have T7 : Touch [] W w7 := ht7
            have hfx : ∀ x ∈ fpo A7, x ∉ fpo A2 ∧ x < (w7.alloc (.cells #[.slice A7 v c7] 22)).heap.size := by
              intro x hx
              have h1 := hown7.lt x hx
              refine ⟨fun hm => ?_, by simp; omega⟩
              have h2 := hownW.lt x hm
              rcases hf7 x hx with h3 | h3
              · simp [fpo] at h3
              · omega
            have hvc7 : v ≤ c7 := by have := hown7.le; rw [Hsl.out] at this; exact this
            have hown8 := (hownW.touch0 T7).touch0 tx
            go_wp2_with (at_builtin; refine stop ?_)
            refine go ?_
            refine wpList_appBs rfl (.tmp 61) (.tmp 70) rfl A2 n c2 ls vs Hln.out rfl hown8 w7.heap.size A7 v c7 s rfl hcx Hsl.out (hown7.touch0 tx).rd hvc7 hfx (by omega) ?_
            intro A9 c9 w9 hown9 ht9 hf9
            have T9 : Touch [] w w9 := ((((ht.trans0 TW).trans0 T7).trans0 tx).trans ht9 (fun x hx => .inr (hf2 x hx)))
            have hsw := ((ht.trans0 TW).trans0 T7).size
            have hst2 := hst.snoc Hfit2.out
            rw [List.drop_drop] at hst2
            have hA2 : IntKind.i64.wrap ((a : Int) + (F : Int)) = (a : Int) + F := IntWalk.i64_in _ (by omega)
            have hf9' : ∀ x ∈ fpo A9, w.heap.size ≤ x := fun x hx => by
              rcases hf9 x hx with h1 | h1
              · exact hf2 x h1
              · simp at h1; omega
            have Hst2 := Lib.hid hst2
            clear hst2 hst
            go_wp2_with fail
            go_roundw
            case rel => exact ⟨A9, n + 1, c9, a + F, rfl, by go_num, ⟨⟨ls ++ [s], _, hown9, by rw [List.length_append, Hln.out]; rfl, Hst2.out, fun v hv A' k c' e x hx => by
              rcases List.mem_append.1 hv with h1 | h1
              · exact hvg v h1 A' k c' e x hx
              · have h1' := List.mem_singleton.1 h1
                rw [h1'] at e
                injection e with e1 _ _
                subst e1
                rcases hf7 x hx with h2 | h2
                · simp [fpo] at h2
                · have h3 := (ht.trans0 TW).size
                  omega⟩, by omega, by omega, hf9', T9⟩⟩
            case measure => simp [intOf]; omega
          · rw [if_neg heq] at hfit
            have hne : decide (frm s = (b.drop a).take F) = false := decide_eq_false (fun e => heq e.symm)
            rw [hne] at hq hq2
            have Hfit2 := Lib.hid hfit
            clear hfit heq hne hml
            go_wp2_with fail
            go_quiet (fail)
            have Hs := Lib.hid (fun n => Hstop.out (w3.drewN n) (T3.drewN n) Hfit2.out)
            go_wp2
            go_ret2
            exact Hs.out _
end Go.Proofs.YtlcpljpeljoboaaDoor

/- What is written as a number or as a text is read back just so: plain. -/
namespace Go.Proofs.YtlcpljpeljoboaaDoor
open Go.RowKit

theorem leV_le (f M : Nat) (h : M < 256 ^ f) : leV (le f M) = M := by
  induction f generalizing M with
  | zero => simp at h; subst h; rfl
  | succ f ih =>
    unfold le
    split
    · rename_i h0; subst h0; rfl
    · rw [leV_cons, ih (M / 256) (by rw [Nat.pow_succ] at h; exact Nat.div_lt_of_lt_mul (by rw [Nat.mul_comm]; exact h))]
      simp; omega
theorem le_last (f M : Nat) (h : M < 256 ^ f) : (le f M).getLast? ≠ some 0 := by
  induction f generalizing M with
  | zero => simp [le]
  | succ f ih =>
    unfold le
    split
    · simp
    · rename_i h0
      have hd : M / 256 < 256 ^ f := by rw [Nat.pow_succ] at h; exact Nat.div_lt_of_lt_mul (by rw [Nat.mul_comm]; exact h)
      have := ih (M / 256) hd
      rw [List.getLast?_cons]
      cases hg : (le f (M / 256)).getLast? with
      | none =>
        have hn : le f (M / 256) = [] := List.getLast?_eq_none_iff.1 hg
        have hz := leV_le f (M / 256) hd
        rw [hn] at hz
        have hz' : M / 256 = 0 := hz.symm
        intro e
        simp at e
        have := congrArg UInt8.toNat e
        simp at this
        omega
      | some v => rw [hg] at this; simpa using this
theorem rdI_enc {n : Int} (h1 : -9223372036854775808 ≤ n) (h2 : n ≤ 9223372036854775807) (r : List UInt8) : rdI (encI n ++ r) = some (n, r) := by
  obtain ⟨M, hM, hMn⟩ : ∃ M : Nat, M < 9223372036854775808 ∧ ((n < 0 ∧ (-1 - n : Int) = M) ∨ n = M) := by
    by_cases hn : n < 0
    · exact ⟨(-1 - n).toNat, by omega, .inl ⟨hn, by omega⟩⟩
    · exact ⟨n.toNat, by omega, .inr (by omega)⟩
  have hl := le_length 8 M
  have h256 : M < 256 ^ 8 := by simp; omega
  have hv := leV_le 8 M h256
  have hla := le_last 8 M h256
  have ht : (le 8 M ++ r).take (le 8 M).length = le 8 M := List.take_left
  have hd : (le 8 M ++ r).drop (le 8 M).length = r := List.drop_left
  rcases hMn with ⟨hn, hMe⟩ | rfl
  · rw [encI_neg hn hMe, List.cons_append]
    have ht16 : (UInt8.ofNat ((le 8 M).length + 16)).toNat = (le 8 M).length + 16 := by simp; omega
    rw [rdI_cons _ _ (le 8 M).length (by rw [ht16]; omega) (by rw [ht16]; omega) hl (by simp) (by rw [ht, hv]; omega) (by rw [ht]; exact hla)]
    rw [ht, hv, hd, if_pos (by rw [ht16]; omega)]
    congr 2; omega
  · rw [encI_pos, List.cons_append]
    have ht16 : (UInt8.ofNat ((le 8 M).length)).toNat = (le 8 M).length := by simp; omega
    rw [rdI_cons _ _ (le 8 M).length (by rw [ht16]; omega) (by rw [ht16]; omega) hl (by simp) (by rw [ht, hv]; omega) (by rw [ht]; exact hla)]
    rw [ht, hv, hd, if_neg (by rw [ht16]; omega)]
theorem rdT_enc (s : ByteArray) (hs : s.size ≤ 9223372036854775807) (r : List UInt8) : rdT (encT s ++ r) = some (s.data.toList, r) := by
  unfold rdT encT
  rw [List.append_assoc, rdI_enc (by omega) (by omega)]
  have hl := size_toList s
  dsimp only
  rw [if_neg (by rw [List.length_append]; omega)]
  rw [Int.toNat_natCast, ← hl, List.take_left, List.drop_left]
end Go.Proofs.YtlcpljpeljoboaaDoor

/- Frames that are cut off anywhere are read as far as they are whole: plain. -/
namespace Go.Proofs.YtlcpljpeljoboaaDoor
open Go.RowKit

theorem rdI_more {m r : List UInt8} {v : Int} (h : rdI m = some (v, r)) (x : List UInt8) : rdI (m ++ x) = some (v, r ++ x) := by
  have hb := rdI_bounds h
  rw [rdI_canon h, List.append_assoc]
  exact rdI_enc hb.1 hb.2 _
theorem scan1_frm (s r : List UInt8) (hs : s.length ≤ 9223372036854775807) : scan1 (frm s ++ r) = some (s, r) := by
  unfold scan1 frm
  rw [List.append_assoc, rdT_enc (S s) (by rw [S_size]; exact hs), S_toList]
  dsimp only
  have h4 : (digs (sumOf s) 4).length = 4 := digs_length _ _
  rw [if_neg (by rw [List.length_append]; omega)]
  have e1 : (digs (sumOf s) 4 ++ r).take 4 = digs (sumOf s) 4 := by
    have := List.take_left (l₁ := digs (sumOf s) 4) (l₂ := r)
    rw [h4] at this
    exact this
  have e2 : (digs (sumOf s) 4 ++ r).drop 4 = r := by
    have := List.drop_left (l₁ := digs (sumOf s) 4) (l₂ := r)
    rw [h4] at this
    exact this
  rw [if_pos e1, e2]
theorem scan1_part (s : List UInt8) (k : Nat) (hs : s.length ≤ 9223372036854775807) (hk : k < (frm s).length) : scan1 ((frm s).take k) = none := by
  have hf : frm s = encI s.length ++ (s ++ digs (sumOf s) 4) := by
    unfold frm encT
    rw [S_size, S_toList, List.append_assoc]
  have hI : rdI (frm s) = some ((s.length : Int), s ++ digs (sumOf s) 4) := by rw [hf]; exact rdI_enc (by omega) (by omega) _
  unfold scan1 rdT
  rcases hm : rdI ((frm s).take k) with _ | ⟨v, r⟩
  · rfl
  · have h2 := rdI_more hm ((frm s).drop k)
    rw [List.take_append_drop, hI] at h2
    obtain ⟨e1, e2⟩ : (s.length : Int) = v ∧ s ++ digs (sumOf s) 4 = r ++ (frm s).drop k := by simpa using h2
    subst e1
    have e3 := congrArg List.length e2
    rw [List.length_append, List.length_append, digs_length, List.length_drop] at e3
    dsimp only
    by_cases hc : (s.length : Int) < 0 ∨ (r.length : Int) < (s.length : Int)
    · rw [if_pos hc]
    · rw [if_neg hc]
      dsimp only
      rw [Int.toNat_natCast, List.length_drop, if_pos (by omega)]

def frames (l : List (List UInt8)) : List UInt8 := l.flatMap frm
theorem frames_snoc (l : List (List UInt8)) (k : Nat) (h : k < l.length) : frames (l.take (k + 1)) = frames (l.take k) ++ frm l[k] := by
  unfold frames
  rw [List.take_succ_eq_append_getElem h, List.flatMap_append]; simp
def endN (l : List (List UInt8)) (k : Nat) : Nat := (frames (l.take k)).length
theorem endN_succ (l : List (List UInt8)) (k : Nat) (h : k < l.length) : endN l (k + 1) = endN l k + (frm l[k]).length := by
  unfold endN; rw [frames_snoc l k h, List.length_append]
theorem endN_cons (s : List UInt8) (l : List (List UInt8)) (k : Nat) : endN (s :: l) (k + 1) = (frm s).length + endN l k := by
  unfold endN frames; simp
theorem scan_cut (n : Nat) (l : List (List UInt8)) (cut : Nat) (hs : ∀ s ∈ l, s.length ≤ 9223372036854775807) (hn : n ≤ l.length) (h1 : endN l n ≤ cut) (hc : cut ≤ (frames l).length) (h2 : n = l.length ∨ cut < endN l (n + 1)) :
    ∃ rest, Steps ((frames l).take cut) (l.take n) rest ∧ scan1 rest = none ∧ rest.length = cut - endN l n := by
  induction n generalizing l cut with
  | zero =>
    refine ⟨(frames l).take cut, by simp [Steps], ?_, by rw [List.length_take]; simp [endN, frames]; simp [frames] at hc; omega⟩
    rcases l with _ | ⟨s, l⟩
    · simp [frames]; rfl
    · have h3 : cut < (frm s).length := by
        rcases h2 with h2 | h2
        · simp at h2
        · rw [endN_cons] at h2; simpa [endN, frames] using h2
      have e : (frames (s :: l)).take cut = (frm s).take cut := by
        unfold frames
        rw [List.flatMap_cons, List.take_append_of_le_length (by omega)]
      rw [e]
      exact scan1_part s cut (hs s (by simp)) h3
  | succ n ih =>
    rcases l with _ | ⟨s, l⟩
    · simp at hn
    · rw [endN_cons] at h1
      have hfl : (frames (s :: l)).length = (frm s).length + (frames l).length := by unfold frames; rw [List.flatMap_cons, List.length_append]
      obtain ⟨rest, k1, k2, k3⟩ := ih l (cut - (frm s).length) (fun x hx => hs x (by simp [hx])) (by simpa using hn) (by omega) (by omega) (by
        rcases h2 with h2 | h2
        · left; simpa using h2
        · right; rw [endN_cons] at h2; omega)
      refine ⟨rest, ⟨(frames l).take (cut - (frm s).length), ?_, k1⟩, k2, by rw [k3, endN_cons]; omega⟩
      have e : (frames (s :: l)).take cut = frm s ++ (frames l).take (cut - (frm s).length) := by
        unfold frames
        rw [List.flatMap_cons, List.take_append]
        rw [List.take_of_length_le (by omega)]
      rw [e]
      exact scan1_frm s _ (hs s (by simp))
end Go.Proofs.YtlcpljpeljoboaaDoor

/- A disk as the memory holds it; its small methods (right, has, check, command, Used, Size, Safe). -/
namespace Go.Proofs.YtlcpljpeljoboaaDoor
open Go.RowKit

/-- a file: its bytes and how many are safe; where its row lies -/
structure DF where
  A : Option Addr
  c : Nat
  l : List UInt8
  safe : Nat

def DF.v (f : DF) : Value := .slice f.A f.l.length f.c
def DF.cells (f : DF) : List Value := [f.v, .int .i64 f.safe]

/-- a disk's other fields -/
structure DR where
  cap : Int
  left : Int
  done : Int
  down : Bool

def DR.cells (r : DR) : List Value := [.int .i64 r.cap, .int .i64 r.left, .int .i64 r.done, .bool r.down]
def dcells (fs : List DF) (r : DR) : Array Value := (fs.flatMap DF.cells ++ r.cells).toArray
def used (fs : List DF) : Nat := (fs.map (·.l.length)).sum

def DF.ok (w : World) (g : Nat) (f : DF) : Prop := OwnB w f.A f.c f.l ∧ f.safe ≤ f.l.length ∧ g ∉ fpo f.A
def Apart (a b : DF) : Prop := ∀ x ∈ fpo a.A, x ∉ fpo b.A
def DR.ok (r : DR) : Prop := 0 ≤ r.cap ∧ r.cap ≤ 1073741824 ∧ -1 ≤ r.left ∧ r.left ≤ 9223372036854775807 ∧ 0 ≤ r.done ∧ r.done ≤ 1073741824

structure DiskAt (w : World) (g : Nat) (fs : List DF) (r : DR) : Prop where
  blk : w.heap[g]? = some (.cells (dcells fs r) 69 (0, 0))
  len : fs.length = 4
  ok : ∀ i, (h : i < fs.length) → fs[i].ok w g
  apart : ∀ i j, (hi : i < fs.length) → (hj : j < fs.length) → i ≠ j → Apart fs[i] fs[j]
  rok : r.ok
  used : used fs ≤ 1073741824

/-- the blocks that a disk holds -/
def dfp (g : Nat) (fs : List DF) : List Nat := g :: fs.flatMap fun f => fpo f.A

theorem four {fs : List DF} (h : fs.length = 4) : ∃ a b c d, fs = [a, b, c, d] := by
  match fs, h with
  | [a, b, c, d], _ => exact ⟨a, b, c, d, rfl⟩
theorem lt_four {n : Nat} (h : n < 4) : n = 0 ∨ n = 1 ∨ n = 2 ∨ n = 3 := by omega
theorem dcells_v {fs : List DF} {r : DR} (h : fs.length = 4) (n : Nat) (hn : n < fs.length) : (dcells fs r)[n * 2]? = some fs[n].v := by
  obtain ⟨a, b, c, d, rfl⟩ := four h
  rcases lt_four hn with rfl | rfl | rfl | rfl <;> rfl
theorem dcells_s {fs : List DF} {r : DR} (h : fs.length = 4) (n : Nat) (hn : n < fs.length) : (dcells fs r)[n * 2 + 1]? = some (.int .i64 fs[n].safe) := by
  obtain ⟨a, b, c, d, rfl⟩ := four h
  rcases lt_four hn with rfl | rfl | rfl | rfl <;> rfl
theorem dcells_r {fs : List DF} {r : DR} (h : fs.length = 4) : (dcells fs r)[8]? = some (.int .i64 r.cap) ∧ (dcells fs r)[9]? = some (.int .i64 r.left) ∧ (dcells fs r)[10]? = some (.int .i64 r.done) ∧ (dcells fs r)[11]? = some (.bool r.down) := by
  obtain ⟨a, b, c, d, rfl⟩ := four h
  exact ⟨rfl, rfl, rfl, rfl⟩
theorem dcells_set_v {fs : List DF} {r : DR} (h : fs.length = 4) (n : Nat) (hn : n < fs.length) (f : DF) (hs : f.safe = fs[n].safe) : (dcells fs r).setIfInBounds (n * 2) f.v = dcells (fs.set n f) r := by
  obtain ⟨a, b, c, d, rfl⟩ := four h
  rcases lt_four hn with rfl | rfl | rfl | rfl <;> simp at hs <;> simp [dcells, DF.cells, DR.cells, hs]
theorem dcells_set_s {fs : List DF} {r : DR} (h : fs.length = 4) (n : Nat) (hn : n < fs.length) (f : DF) (hs : f.v = fs[n].v) : (dcells fs r).setIfInBounds (n * 2 + 1) (.int .i64 f.safe) = dcells (fs.set n f) r := by
  obtain ⟨a, b, c, d, rfl⟩ := four h
  rcases lt_four hn with rfl | rfl | rfl | rfl <;> simp at hs <;> simp [dcells, DF.cells, DR.cells, hs]
theorem dcells_set_f {fs : List DF} {r : DR} (h : fs.length = 4) (n : Nat) (hn : n < fs.length) (f : DF) : ((dcells fs r).setIfInBounds (n * 2) f.v).setIfInBounds (n * 2 + 1) (.int .i64 f.safe) = dcells (fs.set n f) r := by
  obtain ⟨a, b, c, d, rfl⟩ := four h
  rcases lt_four hn with rfl | rfl | rfl | rfl <;> simp [dcells, DF.cells, DR.cells]
theorem dcells_set_r {fs : List DF} {r : DR} (h : fs.length = 4) : (∀ x : Int, (dcells fs r).setIfInBounds 8 (.int .i64 x) = dcells fs { r with cap := x }) ∧ (∀ x : Int, (dcells fs r).setIfInBounds 9 (.int .i64 x) = dcells fs { r with left := x }) ∧
    (∀ x : Int, (dcells fs r).setIfInBounds 10 (.int .i64 x) = dcells fs { r with done := x }) ∧ (∀ x : Bool, (dcells fs r).setIfInBounds 11 (.bool x) = dcells fs { r with down := x }) := by
  obtain ⟨a, b, c, d, rfl⟩ := four h
  exact ⟨fun _ => rfl, fun _ => rfl, fun _ => rfl, fun _ => rfl⟩

theorem used_ge {fs : List DF} (n : Nat) (hn : n < fs.length) : fs[n].l.length ≤ used fs := by
  unfold used
  induction fs generalizing n with
  | nil => simp at hn
  | cons a fs ih =>
    cases n with
    | zero => simp
    | succ n => have := ih n (by simpa using hn); simp; omega
theorem used_set {fs : List DF} (n : Nat) (hn : n < fs.length) (f : DF) : used (fs.set n f) + fs[n].l.length = used fs + f.l.length := by
  unfold used
  induction fs generalizing n with
  | nil => simp at hn
  | cons a fs ih =>
    cases n with
    | zero => simp only [List.set_cons_zero, List.map_cons, List.sum_cons, List.getElem_cons_zero]; omega
    | succ n =>
      have := ih n (by simpa using hn)
      simp only [List.set_cons_succ, List.map_cons, List.sum_cons, List.getElem_cons_succ]
      omega

set_option maxHeartbeats 400000 in
theorem right_any (n : Int) (w : World) : Calls Tryd.prog 32 #[.int .i64 n] w fun e w' => e = .returned (.bool (decide (0 ≤ n ∧ n ≤ 1073741824))) ∧ w = w' := by
  by_cases h : 0 ≤ n <;> by_cases h2 : n ≤ 1073741824
  all_goals
    go_enter Tryd.func32, Tryd.ntmps32
    go_wp2
    go_ret
    exact ⟨by simp [h, h2], rfl⟩
set_option maxHeartbeats 400000 in
theorem has_any (n : Int) (w : World) : Calls Tryd.prog 42 #[.int .i64 n] w fun e w' => e = .returned (.bool (decide (0 ≤ n ∧ n < 4))) ∧ w = w' := by
  by_cases h : 0 ≤ n <;> by_cases h2 : n < 4
  all_goals
    go_enter Tryd.func42, Tryd.ntmps42
    go_wp2
    go_ret
    exact ⟨by simp [h, h2], rfl⟩

def checkI (down : Bool) (n : Int) : Int := if down then 40 else if 0 ≤ n ∧ n < 4 then 0 else 30

theorem free_blk {w : World} {g : Nat} {cs : Array Value} {t : TypeId} (h : w.heap[g]? = some (.cells cs t (0, 0))) (i : Nat) : w.frozen? ⟨g, i, none⟩ = false := by
  simp [World.frozen?, h]
set_option maxHeartbeats 400000 in
theorem check_any (g : Nat) (down : Bool) (n : Int) (w : World) (h : w.cell? ⟨g, 11, none⟩ = some (.bool down)) :
    Calls Tryd.prog 33 #[.pointer (some ⟨g, 0, none⟩), .int .i64 n] w fun e w' => e = .returned (.int .i64 (checkI down n)) ∧ w = w' := by
  cases down
  · by_cases hn : 0 ≤ n ∧ n < 4
    · have hd : decide (0 ≤ n ∧ n < 4) = true := by simp [hn]
      go_enter Tryd.func33, Tryd.ntmps33
      go_wp2_with (go_at_call 42; refine (has_any _ _).mono ?_; rintro e w' ⟨rfl, rfl⟩; rw [hd])
      go_ret
      exact ⟨ret_int (by simp [checkI, hn]), rfl⟩
    · have hd : decide (0 ≤ n ∧ n < 4) = false := by simp; omega
      go_enter Tryd.func33, Tryd.ntmps33
      go_wp2_with (go_at_call 42; refine (has_any _ _).mono ?_; rintro e w' ⟨rfl, rfl⟩; rw [hd])
      go_ret
      exact ⟨ret_int (by simp [checkI, hn]), rfl⟩
  · go_enter Tryd.func33, Tryd.ntmps33
    go_wp2
    go_ret
    exact ⟨rfl, rfl⟩

def cmdR (r : DR) : DR := if r.left = 0 then { r with down := true } else { r with left := max (r.left - 1) (-1), done := r.done + 1 }
def cmdE (r : DR) : Int := if r.left = 0 then 40 else 0

def CmdPost (g : Nat) (fs : List DF) (r : DR) (w w' : World) : Prop := w'.heap[g]? = some (.cells (dcells fs r) 69 (0, 0)) ∧ Touch [g] w w'

theorem CmdPost.blk2 {w : World} {g : Nat} {fs : List DF} {r : DR} (h : w.heap[g]? = some (.cells (dcells fs r) 69 (0, 0))) (hl4 : fs.length = 4) (x y : Int) :
    ((w.setCell ⟨g, 9, none⟩ (.int .i64 x)).setCell ⟨g, 10, none⟩ (.int .i64 y)).heap[g]? = some (.cells (dcells fs { r with left := x, done := y }) 69 (0, 0)) := by
  have := set_blk (set_blk h 9 (.int .i64 x)) 10 (.int .i64 y)
  rwa [(dcells_set_r hl4).2.1, (dcells_set_r hl4).2.2.1] at this
theorem CmdPost.blk1 {w : World} {g : Nat} {fs : List DF} {r : DR} (h : w.heap[g]? = some (.cells (dcells fs r) 69 (0, 0))) (hl4 : fs.length = 4) (x : Bool) :
    (w.setCell ⟨g, 11, none⟩ (.bool x)).heap[g]? = some (.cells (dcells fs { r with down := x }) 69 (0, 0)) := by
  have := set_blk h 11 (.bool x)
  rwa [(dcells_set_r hl4).2.2.2] at this

set_option maxHeartbeats 400000 in
theorem command_any (g : Nat) (fs : List DF) (r : DR) (w : World) (h : w.heap[g]? = some (.cells (dcells fs r) 69 (0, 0))) (hl4 : fs.length = 4) (h1 : -1 ≤ r.left) (h2 : r.left ≤ 9223372036854775807) (h3 : 0 ≤ r.done) (h4 : r.done ≤ 9223372036854775800) :
    Calls Tryd.prog 35 #[.pointer (some ⟨g, 0, none⟩)] w fun e w' => e = .returned (.int .i64 (cmdE r)) ∧ CmdPost g fs (cmdR r) w w' := by
  have c9 : w.cell? ⟨g, 9, none⟩ = some (.int .i64 r.left) := cell_blk h (dcells_r hl4).2.1
  have c10 : w.cell? ⟨g, 10, none⟩ = some (.int .i64 r.done) := cell_blk h (dcells_r hl4).2.2.1
  have c11 : w.cell? ⟨g, 11, none⟩ = some (.bool r.down) := cell_blk h (dcells_r hl4).2.2.2
  have z9 := free_blk h 9
  have z10 := free_blk h 10
  have z11 := free_blk h 11
  have hg := lt_of_block h
  rcases Int.lt_or_le r.left 0 with hl | hl
  · have hb : (r.left == 0) = false := by rw [beq_eq_false_iff_ne]; omega
    have hm : max (r.left - 1) (-1) = -1 := by omega
    go_enter Tryd.func35, Tryd.ntmps35
    have hc : cmdR r = { r with left := -1, done := r.done + 1 } := by unfold cmdR; rw [if_neg (by omega), hm]
    have he : cmdE r = 0 := if_neg (by omega)
    have Hc := Lib.hid hc; clear hc
    have He := Lib.hid he; clear he
    go_wp2
    go_ret
    exact ⟨ret_int He.out.symm, by rw [Hc.out]; exact CmdPost.blk2 h hl4 _ _, ((Touch.refl [g] w).setCell (.inl (by simp)) _).setCell (.inl (by simp)) _⟩
  · rcases Int.lt_or_le 0 r.left with hp | hp
    · have hb : (r.left == 0) = false := by rw [beq_eq_false_iff_ne]; omega
      have hm : max (r.left - 1) (-1) = r.left - 1 := by omega
      go_enter Tryd.func35, Tryd.ntmps35
      have hc : cmdR r = { r with left := r.left - 1, done := r.done + 1 } := by unfold cmdR; rw [if_neg (by omega), hm]
      have he : cmdE r = 0 := if_neg (by omega)
      have Hc := Lib.hid hc; clear hc
      have He := Lib.hid he; clear he
      go_wp2
      go_ret
      exact ⟨ret_int He.out.symm, by rw [Hc.out]; exact CmdPost.blk2 h hl4 _ _, ((Touch.refl [g] w).setCell (.inl (by simp)) _).setCell (.inl (by simp)) _⟩
    · have hb : (r.left == 0) = true := by rw [beq_iff_eq]; omega
      have hc : cmdR r = { r with down := true } := if_pos (by omega)
      have he : cmdE r = 40 := if_pos (by omega)
      have Hc := Lib.hid hc; clear hc
      have He := Lib.hid he; clear he
      go_enter Tryd.func35, Tryd.ntmps35
      go_wp2
      go_ret
      exact ⟨ret_int He.out.symm, by rw [Hc.out]; exact CmdPost.blk1 h hl4 _, (Touch.refl [g] w).setCell (.inl (by simp)) _⟩

set_option maxHeartbeats 400000 in
theorem used_any (g : Nat) (fs : List DF) (r : DR) (w : World) (h : w.heap[g]? = some (.cells (dcells fs r) 69 (0, 0)))
    (hl4 : fs.length = 4) (hu : used fs ≤ 1073741824) :
    Calls Tryd.prog 34 #[.pointer (some ⟨g, 0, none⟩)] w fun e w' => e = .returned (.int .i64 (used fs : Nat)) ∧ Touch [] w w' := by
  obtain ⟨f0, f1, f2, f3, rfl⟩ := four hl4
  simp only [used, List.map_cons, List.map_nil, List.sum_cons, List.sum_nil, Nat.add_zero] at hu ⊢
  have c0 : w.cell? ⟨g, 0, none⟩ = some f0.v := cell_blk h rfl
  have c1 : w.cell? ⟨g, 1, none⟩ = some (.int .i64 f0.safe) := cell_blk h rfl
  have c2 : w.cell? ⟨g, 2, none⟩ = some f1.v := cell_blk h rfl
  have c3 : w.cell? ⟨g, 3, none⟩ = some (.int .i64 f1.safe) := cell_blk h rfl
  have c4 : w.cell? ⟨g, 4, none⟩ = some f2.v := cell_blk h rfl
  have c5 : w.cell? ⟨g, 5, none⟩ = some (.int .i64 f2.safe) := cell_blk h rfl
  have c6 : w.cell? ⟨g, 6, none⟩ = some f3.v := cell_blk h rfl
  have c7 : w.cell? ⟨g, 7, none⟩ = some (.int .i64 f3.safe) := cell_blk h rfl
  go_enter Tryd.func34, Tryd.ntmps34
  unfold DF.v at c0 c2 c4 c6
  have ix : ∀ (a0 a1 a2 a3 a4 a5 a6 a7 : Value) (W : World), (Instr.index 67 (.agg #[a0, a1, a2, a3, a4, a5, a6, a7]) (.int .i64 0)).run Tryd.prog W = .ok (.agg #[a0, a1]) W := fun _ _ _ _ _ _ _ _ _ => by kernel_rfl
  have iy : ∀ (a0 a1 a2 a3 a4 a5 a6 a7 : Value) (W : World), (Instr.index 67 (.agg #[a0, a1, a2, a3, a4, a5, a6, a7]) (.int .i64 1)).run Tryd.prog W = .ok (.agg #[a2, a3]) W := fun _ _ _ _ _ _ _ _ _ => by kernel_rfl
  have iz : ∀ (a0 a1 a2 a3 a4 a5 a6 a7 : Value) (W : World), (Instr.index 67 (.agg #[a0, a1, a2, a3, a4, a5, a6, a7]) (.int .i64 2)).run Tryd.prog W = .ok (.agg #[a4, a5]) W := fun _ _ _ _ _ _ _ _ _ => by kernel_rfl
  have iu : ∀ (a0 a1 a2 a3 a4 a5 a6 a7 : Value) (W : World), (Instr.index 67 (.agg #[a0, a1, a2, a3, a4, a5, a6, a7]) (.int .i64 3)).run Tryd.prog W = .ok (.agg #[a6, a7]) W := fun _ _ _ _ _ _ _ _ _ => by kernel_rfl
  go_wp2
  refine wp_loop_rounds 5 ?_
  rw [rounds_succ]
  go_wp2
  rw [rounds_succ]
  go_wp2
  rw [rounds_succ]
  go_wp2
  rw [rounds_succ]
  go_wp2
  rw [rounds_succ]
  go_wp2
  go_ret
  exact ⟨ret_int (by omega), by repeat (first | exact Touch.refl _ _ | apply Touch.alloc)⟩
end Go.Proofs.YtlcpljpeljoboaaDoor
