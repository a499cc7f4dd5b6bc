/- slices.Grow, slices.Concat over bytes; frame.Frame, bywashref07.Frame: a frame's bytes. For every slice of bytes. -/
import Derived.Test.YtgpadejkmpfafaaDoorRefRead
import Derived.Test.YtgpadejkmpfafaaDoorSum
import Derived.Test.YtgpadejkmpfafaaDoorRefSum
import Derived.Test.YtgpadejkmpfafaaDoorCrcLaw
import Derived.Lib.AppendZerosOnto
import Derived.Lib.AppendZeros
import Derived.Deep.RegionWith
namespace Go.Proofs.YtgpadejkmpfafaaDoor
open Go.RowKit

/-- a slice of slices of bytes leads to these -/
def BsAt (w : World) (A : Option Addr) (ls : List (List UInt8)) : Prop :=
  0 < ls.length → ∃ ad, A = some ad ∧ ∀ j (h : j < ls.length), ∃ A' c', w.cell? (ad.add j) = some (.slice A' ls[j].length c') ∧ RdB w A' ls[j] ∧ ls[j].length ≤ c'
theorem BsAt.touch0 {w w' : World} {A : Option Addr} {ls : List (List UInt8)} (h : BsAt w A ls) (ht : Touch [] w w') : BsAt w' A ls := by
  intro h0
  obtain ⟨ad, rfl, hj⟩ := h h0
  refine ⟨ad, rfl, fun j hl => ?_⟩
  obtain ⟨A', c', h1, h2, h3⟩ := hj j hl
  exact ⟨A', c', ht.cell h1 (by simp), h2.touch0 ht, h3⟩
theorem BsAt.at_ {w : World} {A : Option Addr} {ls : List (List UInt8)} (h : BsAt w A ls) (k : Nat) (hk : k < ls.length) : ∃ ad A' c', A = some ad ∧ w.cell? (ad.add k) = some (.slice A' ls[k].length c') ∧ RdB w A' ls[k] ∧ ls[k].length ≤ c' := by
  obtain ⟨ad, e, hj⟩ := h (by omega)
  obtain ⟨A', c', h1, h2, h3⟩ := hj k hk
  exact ⟨ad, A', c', e, h1, h2, h3⟩

theorem OwnB.cut {w : World} {A : Option Addr} {c : Nat} {l : List UInt8} (h : OwnB w A c l) (k : Nat) (hk : k ≤ l.length) : OwnB w A c (l.take k) := by
  have hlk : (l.take k).length = k := by rw [List.length_take]; omega
  refine ⟨by simp, ?_⟩
  rcases h.2 with ⟨hv, h0⟩ | ⟨g, cap, cur, hv, hb, hg, hnc, hm, hs, ht⟩
  · injection hv with e1 _ e3
    subst e1 e3
    exact .inl ⟨by rw [hlk]; congr 1; omega, by omega⟩
  · injection hv with e1 e2 e3
    subst e1 e3
    refine .inr ⟨g, c, cur, rfl, hb, hg, by omega, hm, hs, ?_⟩
    rw [List.map_take, ← ht, hlk, List.take_take]
    congr 1
    omega

set_option maxRecDepth 100000 in
set_option maxHeartbeats 800000 in
theorem growNil_any (n : Nat) (hn : n ≤ 140737488000000) (w : World) :
    Calls Tryd.prog 55 #[.slice none 0 0, .int .i64 n] w fun e w' => ∃ A c, e = .returned (.slice A 0 c) ∧ OwnB w' A c [] ∧ Touch [] w w' ∧ ∀ b ∈ fpo A, w.heap.size ≤ b := by
  obtain ⟨i0, hi0, hz0, hz1, hz2⟩ := info_parts info_u8
  go_enter Tryd.func55, Tryd.ntmps55
  by_cases h0 : n = 0
  · subst h0
    go_wp2
    go_ret
    exact ⟨none, 0, rfl, OwnB.nil _, Touch.refl _ _, by simp [fpo]⟩
  · have hn0 : 0 < n := by omega
    have hge := grownCap_ge w n 0 5
    have hle := grownCap_le_maxLen w n 0 5 (by simp only [maxLen]; omega)
    have hold : (Builtin.firstCells i0.size 0 (.slice none 0 0)).run Tryd.prog w.drew = .ok ([] : List Value).toArray w.drew := run_firstCells_none w.drew i0.size 0 0 0
    have hrz : ∀ ty, (Builtin.append_ #[22, 3] ty #[.slice none 0 0, .int .i64 (n : Int)]).run Tryd.prog w =
        .ok (.slice (some ⟨w.heap.size, 0, none⟩) n (grownCap w n 0 5)) (w.drew.alloc (.cells (((List.replicate n (0 : UInt8)).map B).toArray ++ Builtin.zeroCells (Value.int .u8 0).cells (grownCap w n 0 5 - n)) 5)) := fun ty => by
      have h := Lib.run_append_grow_zeros w 22 3 ty 5 i0 (.int .u8 0) .i64 .i64 Tryd.underlying22 Tryd.underlying3 hi0 hz0 none 0 0 [] hold n hn0 (by omega) (by omega) (by omega)
        (by rw [hz2]; omega) (by rw [hz2]; exact growslice_fits (by omega) (by omega))
      rw [Nat.zero_add] at h
      rw [h]
      have hz : Builtin.zeroCells (Value.int .u8 0).cells n = ((List.replicate n (0 : UInt8)).map B).toArray := by
        apply Array.ext
        · rw [size_zeroCells]; simp [Value.cells]
        · intro i h1 h2
          simp [Builtin.zeroCells, Value.cells, B, Nat.mod_one]
      rw [hz, Array.empty_append]
    have hmade := OwnB.made w.drew (List.replicate n (0 : UInt8)) n (grownCap w n 0 5) (Builtin.zeroCells (Value.int .u8 0).cells (grownCap w n 0 5 - n)) List.length_replicate hge hle (by rw [size_zeroCells]; simp [Value.cells])
    have hcut := hmade.cut 0 (by omega)
    obtain ⟨W, hW⟩ : ∃ W, W = w.drew.alloc (.cells (((List.replicate n (0 : UInt8)).map B).toArray ++ Builtin.zeroCells (Value.int .u8 0).cells (grownCap w n 0 5 - n)) 5) := ⟨_, rfl⟩
    obtain ⟨G, hG⟩ : ∃ G, G = grownCap w n 0 5 := ⟨_, rfl⟩
    have tW : Touch [] w W := by rw [hW]; exact ((Touch.refl [] w).drew).alloc _
    rw [← hW] at hrz hcut
    rw [← hG] at hrz hcut hge hle
    have hsz : w.drew.heap.size = w.heap.size := rfl
    rw [hsz] at hcut
    simp only [List.take_zero] at hcut
    unfold maxLen at hle
    clear hmade hW hG hold hsz
    go_wp2_with (at_builtin; refine Lib.wpList_append_run _ rfl _ _ _ _ rfl _ _ rfl rfl _ _ (hrz _) ?_)
    go_ret
    exact ⟨_, G, rfl, hcut, tW, by simp [fpo]⟩

/-- the lengths of the first k -/
def lens (ls : List (List UInt8)) : Nat := (ls.map List.length).sum

set_option maxHeartbeats 800000 in
theorem concat_any (A : Option Addr) (c n : Nat) (ls : List (List UInt8)) (hn : ls.length = n) (hl : ∀ l ∈ ls, l.length ≤ 1000000000) (hn4 : n ≤ 1000) (w : World) (h : BsAt w A ls) :
    Calls Tryd.prog 43 #[.slice A n c] w fun e w' => ∃ A' c', e = .returned (.slice A' ls.flatten.length c') ∧ OwnB w' A' c' ls.flatten ∧ Touch [] w w' ∧ ∀ b ∈ fpo A', w.heap.size ≤ b := by
  subst hn
  have hflat : ∀ k, k ≤ ls.length → (ls.take k).flatten.length ≤ 1000000000 * k := by
    intro k
    induction k with
    | zero => simp
    | succ k ih =>
      intro hk
      rw [List.take_succ_eq_append_getElem (by omega), List.flatten_append, List.length_append]
      have := ih (by omega)
      have := hl _ (List.getElem_mem (show k < ls.length by omega))
      simp only [List.flatten_cons, List.flatten_nil, List.append_nil]; omega
  have Hflat := Lib.hid hflat; clear hflat
  go_enter Tryd.func43, Tryd.ntmps43
  go_wp2
  go_loop [3, 11] (fun s i => ∃ k : Nat, k ≤ ls.length ∧ i = .int .i64 k ∧ s = .int .i64 ((ls.take k).flatten.length : Nat)) (fun _ i => ls.length - (intOf i).toNat)
  case atStart => exact ⟨0, by omega, rfl, rfl⟩
  case round =>
    obtain ⟨k, hk, rfl, rfl⟩ := hrel
    have hF := Hflat.out k hk
    by_cases hlt : k < ls.length
    · obtain ⟨ad, A', c', rfl, hcell, _, _⟩ := h.at_ k hlt
      have hs : (ls.take (k + 1)).flatten.length = (ls.take k).flatten.length + ls[k].length := by
        rw [List.take_succ_eq_append_getElem hlt, List.flatten_append, List.length_append]; simp
      have Hs := Lib.hid hs; clear hs
      have hll := hl _ (List.getElem_mem hlt)
      obtain ⟨F, hFe⟩ : ∃ F, F = (ls.take k).flatten.length := ⟨_, rfl⟩
      obtain ⟨m, hm⟩ : ∃ m, m = ls[k].length := ⟨_, rfl⟩
      rw [← hFe] at hF ⊢
      rw [← hm] at hcell hll
      have Hs2 : Hid ((ls.take (k + 1)).flatten.length = F + m) := by have := Hs.out; rw [← hFe, ← hm] at this; exact Lib.hid this
      clear Hs hFe hm
      go_wp2
      go_round
      case rel => exact ⟨k + 1, by omega, by go_num, by rw [Hs2.out]; go_num⟩
      case measure => simp [intOf]; omega
    · obtain rfl : k = ls.length := by omega
      rw [List.take_length] at hF ⊢
      obtain ⟨F, hFe⟩ : ∃ F, F = ls.flatten.length := ⟨_, rfl⟩
      rw [← hFe] at hF ⊢
      have HF := Lib.hid hFe; clear hFe
      go_wp2_with fail
      refine (growNil_any F (by omega) w).mono ?_
      rintro e w1 ⟨A1, c1, rfl, hown1, ht1, hf1⟩
      go_wp2_with fail
      go_loopw [6, 27] (fun v i wr => ∃ (k n : Nat) (A2 : Option Addr) (c2 : Nat), k ≤ ls.length ∧ i = .int .i64 k ∧ v = .slice A2 n c2 ∧ n = (ls.take k).flatten.length ∧ OwnB wr A2 c2 (ls.take k).flatten ∧ Touch [] w wr ∧ ∀ b ∈ fpo A2, w.heap.size ≤ b) (fun _ i _ => ls.length - (intOf i).toNat)
      case atStart => exact ⟨0, 0, A1, c1, by omega, rfl, rfl, rfl, hown1, ht1, hf1⟩
      case round =>
        clear hown1 ht1 hf1
        obtain ⟨k, n, A2, c2, hk, rfl, rfl, hn, hown, ht, hf⟩ := hrel
        have hF2 := Hflat.out k hk
        rw [← hn] at hF2
        by_cases hlt : k < ls.length
        · obtain ⟨ad, A', c', rfl, hcell, hrd, _⟩ := (h.touch0 ht).at_ k hlt
          have hs : (ls.take (k + 1)).flatten = (ls.take k).flatten ++ ls[k] := by
            rw [List.take_succ_eq_append_getElem hlt, List.flatten_append]; simp
          have Hs := Lib.hid hs; clear hs
          have hll := hl _ (List.getElem_mem hlt)
          have Hn := Lib.hid hn.symm; clear hn
          go_wp2_with (at_builtin; refine stop ?_)
          refine go ?_
          refine wpList_appB rfl (.tmp 31) (.tmp 32) rfl A2 n c2 _ Hn.out rfl hown A' ls[k].length c' ls[k] rfl rfl hrd (by omega) ?_
          intro A3 c3 w3 hown3 ht3 hf3
          have hs3 := ht.size
          go_wp2_with fail
          go_roundw
          case rel => exact ⟨k + 1, _, A3, c3, by omega, by go_num, rfl, by rw [Hs.out, List.length_append, Hn.out], by rw [Hs.out]; exact hown3, ht.trans ht3 (fun b hb => .inr (hf b hb)), fun b hb => by
            rcases hf3 b hb with h1 | h1
            · exact hf b h1
            · omega⟩
          case measure => simp [intOf]; omega
        · obtain rfl : k = ls.length := by omega
          rw [List.take_length] at hn hown
          subst hn
          go_wp2
          go_ret
          exact ⟨A2, c2, rfl, hown, ht, hf⟩

/-- a frame's bytes -/
def frm (s : List UInt8) : List UInt8 := encT (S s) ++ digs (sumOf s) 4
theorem S_size (s : List UInt8) : (S s).size = s.length := by simp [S, ByteArray.size]
theorem S_toList (s : List UInt8) : (S s).data.toList = s := by simp [S]
theorem frm_length (s : List UInt8) : (frm s).length = (encI s.length).length + s.length + 4 := by
  unfold frm; rw [List.length_append, encT_length, digs_length, S_size]

set_option maxHeartbeats 800000 in
theorem refFrame_any (A : Option Addr) (c n : Nat) (bs : List UInt8) (hn : bs.length = n) (hm : n ≤ 1000000000) (w : World) (hr : RdB w A bs) :
    Calls Tryd.prog 25 #[.slice A n c] w fun e w' => ∃ A' c', e = .returned (.slice A' (frm bs).length c') ∧ OwnB w' A' c' (frm bs) ∧ Touch [] w w' ∧ ∀ b ∈ fpo A', w.heap.size ≤ b := by
  subst hn
  have hfl := frm_length bs
  have hEl := encI_length bs.length
  have hTl := encT_length (S bs)
  rw [S_size] at hTl
  have hsl := sumOf_lt bs
  have hsum := sum_eq bs
  have Hsum := Lib.hid hsum; clear hsum
  have Hfl := Lib.hid hfl; clear hfl
  go_enter Tryd.func25, Tryd.ntmps25
  have hcv := run_str_of c rfl hr
  go_wp2_with fail
  clear hcv
  refine (refText_any (S bs) (by rw [S_size]; omega) w).mono ?_
  rintro e w1 ⟨A1, c1, rfl, hown1, ht1, hf1⟩
  obtain ⟨E, hE⟩ : ∃ E, E = encT (S bs) := ⟨_, rfl⟩
  have hTE : (encI bs.length).length + bs.length = E.length := by rw [hE]; exact hTl.symm
  rw [← hE] at hown1 ⊢
  have HE := Lib.hid hE; clear hE
  have hE9 : E.length ≤ 1000000009 := by omega
  try rw [hTl]
  try rw [hTE]
  clear hTl hTE
  go_wp2_with fail
  refine (refSum_any A c bs w1 (by unfold maxLen; omega) (hr.touch0 ht1)).mono ?_
  rintro e w2 ⟨rfl, rfl⟩
  rw [← Hsum.out]
  obtain ⟨N, hN⟩ : ∃ N, N = sumOf bs := ⟨_, rfl⟩
  rw [← hN] at hsl ⊢
  have HN := Lib.hid hN; clear hN
  go_wp2_with fail
  go_loopw [3, 4, 5] (fun v s i wr => ∃ (k : Nat) (A2 : Option Addr) (c2 : Nat), k ≤ 4 ∧ i = .int .i64 k ∧ v = .slice A2 (E.length + k) c2 ∧ s = .int .u32 (N / 256 ^ k : Nat) ∧ OwnB wr A2 c2 (E ++ digs N k) ∧ Touch [] w wr ∧ ∀ b ∈ fpo A2, w.heap.size ≤ b) (fun _ _ i _ => 4 - (intOf i).toNat)
  case atStart => exact ⟨0, A1, c1, by omega, rfl, rfl, by simp, by simpa [digs] using hown1, ht1, hf1⟩
  case round =>
    clear hown1 ht1 hf1
    obtain ⟨k, A2, c2, hk, rfl, rfl, rfl, hown, ht, hf⟩ := hrel
    by_cases hlt : k < 4
    · obtain ⟨q, hq⟩ : ∃ q, q = N / 256 ^ k := ⟨_, rfl⟩
      have hql : q < 4294967296 := hq ▸ Nat.lt_of_le_of_lt (Nat.div_le_self _ _) hsl
      rw [← hq]
      have Hq := Lib.hid hq; clear hq
      have hx : (q : Int) % 256 = ((UInt8.ofNat q).toNat : Int) := by simp
      have Hx := Lib.hid hx; clear hx
      have hlen : (E ++ digs N k).length = E.length + k := by rw [List.length_append, digs_length]
      have Hlen := Lib.hid hlen; clear hlen
      have hs0 := ht.size
      go_wp2_with (at_builtin; refine stop ?_)
      refine go ?_
      refine wpList_appB rfl (.tmp 15) (.tmp 19) rfl A2 (E.length + k) c2 (E ++ digs N k) Hlen.out rfl (hown.touch0 ((Touch.refl _ _).alloc _)) (some ⟨wr.heap.size, 0, none⟩) 1 1 [UInt8.ofNat q] rfl rfl (RdB.one' _ _ Hx.out) (by omega) ?_
      intro A3 c3 w3 hown3 ht3 hf3
      go_wp2_with fail
      go_roundw
      case rel => exact ⟨k + 1, A3, c3, by omega, by go_num, rfl, by rw [Nat.pow_succ, ← Nat.div_div_eq_div_mul, ← Hq.out]; go_num, by rw [digs_snoc, ← Hq.out, ← List.append_assoc]; exact hown3,
        (ht.alloc _).trans ht3 (fun b hb => .inr (hf b hb)), fun b hb => (by
          rcases hf3 b hb with h | h
          · exact hf b h
          · simp at h; omega)⟩
      case measure => simp [intOf]; omega
    · obtain rfl : k = 4 := by omega
      go_wp2
      go_ret
      have hfr : E ++ digs N 4 = frm bs := by rw [HE.out, HN.out]; rfl
      rw [hfr] at hown
      exact ⟨A2, c2, ret_slice (by rw [← hfr, List.length_append, digs_length]), hown, ht, hf⟩

theorem BsAt.two (w : World) {A1 A2 : Option Addr} {l1 l2 : List UInt8} {n1 n2 c1 c2 : Nat} (h1 : RdB w A1 l1) (h2 : RdB w A2 l2) (e1 : l1.length = n1) (e2 : l2.length = n2) (k1 : n1 ≤ c1) (k2 : n2 ≤ c2) : BsAt (w.alloc (.cells #[.slice A1 n1 c1, .slice A2 n2 c2] 22)) (some ⟨w.heap.size, 0, none⟩) [l1, l2] := by
  subst e1 e2
  have ta := (Touch.refl [] w).alloc (.cells #[.slice A1 l1.length c1, .slice A2 l2.length c2] 22)
  intro _
  have hadd : ∀ j, (⟨w.heap.size, 0, none⟩ : Addr).add j = ⟨w.heap.size, j, none⟩ := fun j => by unfold Addr.add; split <;> simp_all
  refine ⟨_, rfl, fun j hj => ?_⟩
  rw [hadd, cell_of_row _ w.heap.size j _ 22 (0, 0) (heap_alloc_new w _)]
  rcases j with _ | _ | j
  · exact ⟨A1, c1, rfl, h1.touch0 ta, k1⟩
  · exact ⟨A2, c2, rfl, h2.touch0 ta, k2⟩
  · simp at hj; omega

theorem OutAt.touch {w w' : World} {g : Nat} {A : Option Addr} {l : List UInt8} {fp : List Nat} (h : OutAt w g A l) (ht : Touch fp w w') (hg : g ∉ fp) (hA : ∀ b ∈ fpo A, b ∉ fp) : OutAt w' g A l := by
  obtain ⟨c, hb, ho, hn⟩ := h
  exact ⟨c, ht.blk hb hg, ho.touch ht hA, hn⟩

set_option maxRecDepth 100000 in
set_option maxHeartbeats 3200000 in
theorem frame_any (A : Option Addr) (c n : Nat) (bs : List UInt8) (hn : bs.length = n) (hm : n ≤ 900000000) (w : World) (hr : RdB w A bs) (hh : HalfAt w) :
    Calls Tryd.prog 24 #[.slice A n c] w fun e w' => ∃ A' c', e = .returned (.slice A' (frm bs).length c') ∧ OwnB w' A' c' (frm bs) ∧ Touch [] w w' ∧ ∀ b ∈ fpo A', w.heap.size ≤ b := by
  subst hn
  have hsl := sumOf_lt bs
  have ho := Lib.hid (show OutAt (w.alloc (.cells #[.slice none 0 0] 31)) w.heap.size none [] from ⟨0, heap_alloc_new w _, OwnB.nil _, by simp [fpo]⟩)
  have ta := (Touch.refl [] w).alloc (.cells #[.slice none 0 0] 31)
  go_enter Tryd.func24, Tryd.ntmps24
  go_wp2_with fail
  have T0 := ta.drew
  have hr0 : RdB (w.alloc (.cells #[.slice none 0 0] 31)).drew A bs := hr.touch0 T0
  have hh0 := hh.touch T0 (by simp)
  have hcv0 := run_str_of c rfl hr0
  have hwr : IntKind.u64.wrap ((sumOf bs : Nat) : Int) = ((sumOf bs : Nat) : Int) := by rw [IntKind.wrap_u64]; omega
  have hfl : [encT (S bs), digs (sumOf bs) 4].flatten = frm bs := by simp [frm]
  have hl4 : ∀ l ∈ [encT (S bs), digs (sumOf bs) 4], l.length ≤ 1000000000 := by
    intro l hl
    have h1 := encT_length (S bs)
    have h2 := encI_length bs.length
    have h3 := digs_length (sumOf bs) 4
    rw [S_size] at h1
    simp at hl
    rcases hl with rfl | rfl <;> omega
  have Hl4 := Lib.hid hl4; clear hl4
  have hoA := ho.out.touch ((Touch.refl [] _).drew) (by simp) (by simp)
  have hside : ∀ b ∈ w.heap.size :: fpo none, b ∈ ([] : List Nat) ∨ w.heap.size ≤ b := by simp [fpo]
  go_region_with (first
    | (go_at_call 14; refine (outText_any w.heap.size none [] (S bs) (by rw [S_size]; simp; omega) _ (by first | with_reducible exact hoA | with_reducible exact hoL)).mono ?_; rintro e w3 ⟨rfl, A3, ⟨c3, hb3, hown3, hn3⟩, htT, hfT⟩; simp only [List.nil_append] at hb3 hown3; have hcell3 := cell_of_one hb3; (first | have T3 : Touch [] w w3 := by with_reducible exact T0.trans htT hside | have T3 : Touch [] w w3 := by with_reducible exact (T0.trans0 htL).trans htT hside); have hr3 : RdB w3 A bs := hr.touch0 T3; have hh3 := hh.touch T3 (by simp); try (have x5 : OwnB w3 A5 c5 (digs (sumOf bs) 4) := hown5.touch htT (fun b hb hm => by have := hfL b hb; simp [fpo] at hm; simp at this; omega); have x3 : OwnB w3 A3 c3 (encT (S bs)) := hown3; have TL : Touch [] w w3 := T3))
    | (go_at_call 10; refine (sum_any A c bs _ (by unfold maxLen; omega) (by first | with_reducible exact hr0 | with_reducible exact hr3) (by first | with_reducible exact hh0 | with_reducible exact hh3)).mono ?_; rintro e w4 ⟨rfl, rfl⟩)
    | (go_at_call 39; refine (low_four (sumOf bs) hsl _).mono ?_; rintro e w5 ⟨A5, c5, rfl, hown5, htL, hfL⟩; (first | have hcell5 := cell_of_one (htL.blk hb3 (by simp)) | (have hcv5 := run_str_of c rfl (hr0.touch0 htL); have hoL := hoA.touch htL (by simp) (by simp))); try (have x3 : OwnB w5 A3 c3 (encT (S bs)) := hown3.touch0 htL; have x5 : OwnB w5 A5 c5 (digs (sumOf bs) 4) := hown5; have TL : Touch [] w w5 := T3.trans0 htL))
    | (go_at_call 43; refine (concat_any _ _ 2 [encT (S bs), digs (sumOf bs) 4] rfl Hl4.out (by omega) _ (BsAt.two _ x3.rd x5.rd rfl (digs_length _ _) x3.le (by have := x5.le; rw [digs_length] at this; exact this))).mono ?_; rintro e w6 ⟨A6, c6, rfl, hown6, ht6, hf6⟩))
  all_goals
    go_wp2
    go_ret
    rw [hfl] at hown6
    have T6 := (TL.alloc (.cells #[.slice A3 (encT (S bs)).length c3, .slice A5 4 c5] 22)).trans0 ht6
    have hsz := TL.size
    exact ⟨A6, c6, rfl, hown6, T6, fun b hb => by have := hf6 b hb; simp at this; omega⟩
end Go.Proofs.YtgpadejkmpfafaaDoor
