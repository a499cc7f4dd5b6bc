/- bywashlaw07.FrameNumbers: the walk of the law. For every slice of ints and of texts; the table as the program's text lays it. -/
import Derived.Test.YtgpadejkmpfafaaDoorRefRead
import Derived.Test.YtgpadejkmpfafaaDoorAwakeA
import Derived.Test.YtgpadejkmpfafaaDoorIns
namespace Go.Proofs.YtgpadejkmpfafaaDoor
open Go.RowKit

theorem leV_le (f M : Nat) (h : M < 256 ^ f) : leV (le f M) = M := by
  induction f generalizing M with
  | zero => simp at h; subst h; rfl
  | succ f ih =>
    unfold le
    split
    · rename_i h0; subst h0; rfl
    · rw [leV_cons, ih (M / 256) (by rw [Nat.pow_succ] at h; exact Nat.div_lt_of_lt_mul (by rw [Nat.mul_comm]; exact h))]
      simp; omega
theorem le_last (f M : Nat) (h : M < 256 ^ f) : (le f M).getLast? ≠ some 0 := by
  induction f generalizing M with
  | zero => simp [le]
  | succ f ih =>
    unfold le
    split
    · simp
    · rename_i h0
      have hd : M / 256 < 256 ^ f := by rw [Nat.pow_succ] at h; exact Nat.div_lt_of_lt_mul (by rw [Nat.mul_comm]; exact h)
      have := ih (M / 256) hd
      rw [List.getLast?_cons]
      cases hg : (le f (M / 256)).getLast? with
      | none =>
        have hn : le f (M / 256) = [] := List.getLast?_eq_none_iff.1 hg
        have hz := leV_le f (M / 256) hd
        rw [hn] at hz
        have hz' : M / 256 = 0 := hz.symm
        intro e
        simp at e
        have := congrArg UInt8.toNat e
        simp at this
        omega
      | some v => rw [hg] at this; simpa using this
theorem rdI_enc {n : Int} (h1 : -9223372036854775808 ≤ n) (h2 : n ≤ 9223372036854775807) (r : List UInt8) : rdI (encI n ++ r) = some (n, r) := by
  obtain ⟨M, hM, hMn⟩ : ∃ M : Nat, M < 9223372036854775808 ∧ ((n < 0 ∧ (-1 - n : Int) = M) ∨ n = M) := by
    by_cases hn : n < 0
    · exact ⟨(-1 - n).toNat, by omega, .inl ⟨hn, by omega⟩⟩
    · exact ⟨n.toNat, by omega, .inr (by omega)⟩
  have hl := le_length 8 M
  have h256 : M < 256 ^ 8 := by simp; omega
  have hv := leV_le 8 M h256
  have hla := le_last 8 M h256
  have ht : (le 8 M ++ r).take (le 8 M).length = le 8 M := List.take_left
  have hd : (le 8 M ++ r).drop (le 8 M).length = r := List.drop_left
  rcases hMn with ⟨hn, hMe⟩ | rfl
  · rw [encI_neg hn hMe, List.cons_append]
    have ht16 : (UInt8.ofNat ((le 8 M).length + 16)).toNat = (le 8 M).length + 16 := by simp; omega
    rw [rdI_cons _ _ (le 8 M).length (by rw [ht16]; omega) (by rw [ht16]; omega) hl (by simp) (by rw [ht, hv]; omega) (by rw [ht]; exact hla)]
    rw [ht, hv, hd, if_pos (by rw [ht16]; omega)]
    congr 2; omega
  · rw [encI_pos, List.cons_append]
    have ht16 : (UInt8.ofNat ((le 8 M).length)).toNat = (le 8 M).length := by simp; omega
    rw [rdI_cons _ _ (le 8 M).length (by rw [ht16]; omega) (by rw [ht16]; omega) hl (by simp) (by rw [ht, hv]; omega) (by rw [ht]; exact hla)]
    rw [ht, hv, hd, if_neg (by rw [ht16]; omega)]
theorem rdT_enc (s : ByteArray) (hs : s.size ≤ 9223372036854775807) (r : List UInt8) : rdT (encT s ++ r) = some (s.data.toList, r) := by
  unfold rdT encT
  rw [List.append_assoc, rdI_enc (by omega) (by omega)]
  have hl := size_toList s
  dsimp only
  rw [if_neg (by rw [List.length_append]; omega)]
  rw [Int.toNat_natCast, ← hl, List.take_left, List.drop_left]
theorem S_data (s : ByteArray) : S s.data.toList = s := by cases s; simp [S]

def encIs (l : List Int) : List UInt8 := l.flatMap encI
def encTs (l : List ByteArray) : List UInt8 := l.flatMap encT
theorem encIs_snoc (l : List Int) (k : Nat) (h : k < l.length) : encIs (l.take (k + 1)) = encIs (l.take k) ++ encI l[k] := by
  unfold encIs
  rw [List.take_succ_eq_append_getElem h, List.flatMap_append]; simp
theorem encTs_snoc (l : List ByteArray) (k : Nat) (h : k < l.length) : encTs (l.take (k + 1)) = encTs (l.take k) ++ encT l[k] := by
  unfold encTs
  rw [List.take_succ_eq_append_getElem h, List.flatMap_append]; simp
theorem encIs_drop (l : List Int) (k : Nat) (h : k < l.length) : encIs (l.drop k) = encI l[k] ++ encIs (l.drop (k + 1)) := by
  unfold encIs
  rw [List.drop_eq_getElem_cons h]; rfl
theorem encTs_drop (l : List ByteArray) (k : Nat) (h : k < l.length) : encTs (l.drop k) = encT l[k] ++ encTs (l.drop (k + 1)) := by
  unfold encTs
  rw [List.drop_eq_getElem_cons h]; rfl
theorem encIs_len (l : List Int) : (encIs l).length ≤ 9 * l.length := by
  unfold encIs
  induction l with
  | nil => simp
  | cons x l ih => have := encI_length x; simp at ih ⊢; omega

/-- what two of the calls' own rows and an Out hold, apart from each other -/
structure Both (w : World) (g : Nat) (xs : List UInt8) (A2 : Option Addr) (n c2 : Nat) (wr : World) : Prop where
  o : ∃ A, OutAt wr g A xs ∧ (∀ b ∈ fpo A, w.heap.size ≤ b) ∧ ∀ b ∈ fpo A2, b ∉ fpo A
  n : xs.length = n
  own : OwnB wr A2 c2 xs
  g2 : g ∉ fpo A2
  f2 : ∀ b ∈ fpo A2, w.heap.size ≤ b
  t : Touch [] w wr

/-- both get the same bytes -/
theorem Both.next {w : World} {g : Nat} {xs ys : List UInt8} {A A1 A2 A3 A4 : Option Addr} {n n4 c4 : Nat} {wr w1 w2 w3 : World} (hg : w.heap.size ≤ g) (hA2 : ∀ b ∈ fpo A2, b < wr.heap.size) (hg2 : g ∉ fpo A2) (hfA : ∀ b ∈ fpo A, w.heap.size ≤ b) (hap : ∀ b ∈ fpo A2, b ∉ fpo A) (hf2 : ∀ b ∈ fpo A2, w.heap.size ≤ b)
    (ht : Touch [] w wr) (hp : OutPost g A (xs ++ ys) wr w1) (h2 : Touch [] w1 w2) (hgw : g < wr.heap.size) (h3 : Touch (fpo A2) w2 w3) (hf4 : ∀ b ∈ fpo A4, b ∈ fpo A2 ∨ b = w2.heap.size) (hown : OwnB w3 A4 c4 (xs ++ ys)) (hn : (xs ++ ys).length = n4) (_ : A1 = A3 ∧ n = n) : Both w g (xs ++ ys) A4 n4 c4 w3 := by
  obtain ⟨A5, ⟨c5, hb5, ho5, hn5⟩, ht5, hf5⟩ := hp
  have hs1 := ht5.size
  have hs2 := h2.size
  have hA5lt : ∀ b ∈ fpo A5, b < w1.heap.size := ho5.lt
  have hA5A2 : ∀ b ∈ fpo A5, b ∉ fpo A2 := fun b hb hm => by
    rcases hf5 b hb with h | h
    · exact hap b hm h
    · have := hA2 b hm; omega
  refine ⟨⟨A5, ⟨c5, h3.blk (h2.blk hb5 (by simp)) hg2, (ho5.touch0 h2).touch h3 hA5A2, hn5⟩, fun b hb => ?_, fun b hb hm => ?_⟩, hn, hown, fun hm => ?_, fun b hb => ?_, ((ht.trans ht5 (fun b hb => ?_)).trans0 h2).trans h3 (fun b hb => .inr (hf2 b hb))⟩
  · have := ht.size
    rcases hf5 b hb with h | h
    · exact hfA b h
    · omega
  · rcases hf4 b hb with h | h
    · exact hA5A2 b hm h
    · have := hA5lt b hm; omega
  · rcases hf4 g hm with h | h
    · exact hg2 h
    · omega
  · have := ht.size
    rcases hf4 b hb with h | h
    · exact hf2 b h
    · omega
  · rcases List.mem_cons.1 hb with h | h
    · exact .inr (by omega)
    · exact .inr (hfA b h)

/-- one byte of a row of the calls' own is set -/
theorem OwnB.set {w : World} {G c : Nat} {l : List UInt8} (h : OwnB w (some ⟨G, 0, none⟩) c l) (k : Nat) (x : UInt8) : OwnB (w.setCell ⟨G, k, none⟩ (B x)) (some ⟨G, 0, none⟩) c (l.set k x) := by
  have := (World.ownsRow.stored h k (B x)).1
  unfold OwnB
  rw [List.length_set, List.map_set]
  exact this
theorem u8_inc (x : UInt8) : ((x.toNat : Int) + 1) % 256 = ((x + 1).toNat : Int) := by
  rw [UInt8.toNat_add]; simp

set_option maxRecDepth 100000 in
set_option maxHeartbeats 6400000 in
theorem numbers_law (A : Option Addr) (c : Nat) (l : List Int) (At : Option Addr) (ct : Nat) (ts : List ByteArray) (w : World) (hll : l.length ≤ maxLen) (htl : ts.length ≤ maxLen) (hr : RdI w A l) (hrt : RdS w At ts)
    (hl : ∀ k ∈ l, -9223372036854775808 ≤ k ∧ k ≤ 9223372036854775807) (hts : ∀ k ∈ ts, k.size ≤ maxLen) (hh : HalfAt w) :
    Calls Tryd.prog 4 #[.slice A l.length c, .slice At ts.length ct] w fun e w' => e = .returned (.bool true) ∧ Touch [] w w' := by
  go_enter Tryd.func4, Tryd.ntmps4
  unfold maxLen at hll htl
  by_cases h3 : 60 < l.length
  · go_wp2_with (go_at_call 9; refine (awake_any w hh).mono ?_; rintro e w1 ⟨rfl, ht1⟩)
    go_ret
    exact ⟨rfl, ht1⟩
  by_cases h4 : 30 < ts.length
  · go_wp2_with (go_at_call 9; refine (awake_any w hh).mono ?_; rintro e w1 ⟨rfl, ht1⟩)
    go_ret
    exact ⟨rfl, ht1⟩
  have H0 := Lib.hid (show OutAt (w.alloc (.cells #[.slice none 0 0] 31)) w.heap.size none [] from ⟨0, heap_alloc_new w _, OwnB.nil _, by simp [fpo]⟩)
  have ta := (Touch.refl [] w).alloc (.cells #[.slice none 0 0] 31)
  go_wp2_with fail
  go_loopw [6, 29] (fun v i wr => ∃ (k : Nat) (A2 : Option Addr) (n c2 : Nat), k ≤ l.length ∧ i = .int .i64 k ∧ v = .slice A2 n c2 ∧ Both w w.heap.size (encIs (l.take k)) A2 n c2 wr ∧ w.heap.size < wr.heap.size) (fun _ i _ => l.length - (intOf i).toNat)
  case atStart => exact ⟨0, none, 0, 0, by omega, rfl, rfl, ⟨⟨none, H0.out, by simp [fpo], by simp [fpo]⟩, rfl, OwnB.nil _, by simp [fpo], by simp [fpo], ta⟩, by simp⟩
  case round =>
    obtain ⟨k, A2, n, c2, hk, rfl, rfl, hb, hgw⟩ := hrel
    by_cases hlt : k < l.length
    · obtain ⟨ad, rfl, hcell⟩ := RdI.at_ (hr.touch0 hb.t) k hlt
      have hv := hl l[k] (List.getElem_mem hlt)
      have hsn := encIs_snoc l k hlt
      have hlen := encIs_len (l.take k)
      rw [List.length_take] at hlen
      have hle := encI_length l[k]
      obtain ⟨v, hve⟩ : ∃ v, v = l[k] := ⟨_, rfl⟩
      rw [← hve] at hcell hv hsn hle
      clear hve
      obtain ⟨⟨A1, ho, hfA, hap⟩, hn, hown, hg2, hf2, ht⟩ := hb
      obtain ⟨xs, hxs⟩ : ∃ xs, xs = encIs (l.take k) := ⟨_, rfl⟩
      rw [← hxs] at hsn hlen ho hn hown
      have Hsn := Lib.hid hsn; clear hsn
      clear hxs H0
      subst hn
      go_wp2_with fail
      refine (outInt_any w.heap.size A1 xs v hv.1 hv.2 (by omega) wr ho).mono ?_
      rintro e w1 ⟨rfl, hp⟩
      have hp2 := hp
      obtain ⟨A5, ho5, ht5, hf5⟩ := hp2
      have hs5 := ht5.size
      have hA2lt := hown.lt
      have hrd5 : OwnB w1 A2 c2 xs := hown.touch ht5 (fun b hb hm => by
        rcases List.mem_cons.1 hm with h | h
        · exact hg2 (h ▸ hb)
        · exact hap b hb h)
      go_wp2_with fail
      refine (refInt_any v hv.1 hv.2 w1).mono ?_
      rintro e w2 ⟨A6, c6, rfl, hown6, ht6, hf6⟩
      have hs6 := ht6.size
      go_wp2_with (at_builtin; refine stop ?_)
      refine go ?_
      refine wpList_appB rfl (.tmp 35) (.tmp 37) rfl A2 xs.length c2 xs rfl rfl (hrd5.touch0 ht6) A6 (encI v).length c6 (encI v) rfl rfl hown6.rd (by omega) ?_
      intro A7 c7 w7 hown7 ht7 hf7
      have hs7 := ht7.size
      go_wp2_with fail
      go_roundw
      case rel => exact ⟨k + 1, A7, _, c7, by omega, by go_num, rfl, by
        rw [Hsn.out]
        exact Both.next (A1 := none) (A3 := none) (n := 0) (Nat.le_refl _) hA2lt hg2 hfA hap hf2 ht hp ht6 hgw ht7 hf7 hown7 (by simp) ⟨rfl, rfl⟩, by omega⟩
      case measure => simp [intOf]; omega
    · obtain rfl : k = l.length := by omega
      rw [List.take_length] at hb
      have hlenI := encIs_len l
      obtain ⟨ys, hys⟩ : ∃ ys, ys = encIs l := ⟨_, rfl⟩
      rw [← hys] at hb hlenI
      have Hys := Lib.hid hys; clear hys
      clear H0
      go_wp2_with fail
      go_loopw [6, 42] (fun v i wr => ∃ (k : Nat) (A2 : Option Addr) (n c2 : Nat), k ≤ ts.length ∧ i = .int .i64 k ∧ v = .slice A2 n c2 ∧ Both w w.heap.size (ys ++ encTs (ts.take k)) A2 n c2 wr ∧ w.heap.size < wr.heap.size ∧ (ys ++ encTs (ts.take k)).length ≤ 540 + 509 * k) (fun _ i _ => ts.length - (intOf i).toNat)
      case atStart => exact ⟨0, A2, n, c2, by omega, rfl, rfl, by simpa [encTs] using hb, hgw, by simp [encTs]; omega⟩
      case round =>
        clear hb hgw hlenI
        obtain ⟨k, A2, n, c2, hk, rfl, rfl, hb, hgw, hlen⟩ := hrel
        by_cases hlt : k < ts.length
        · obtain ⟨ad, rfl, hcell⟩ := RdS.at_ (hrt.touch0 hb.t) k hlt
          have hsn := encTs_snoc ts k hlt
          obtain ⟨v, hve⟩ : ∃ v, v = ts[k] := ⟨_, rfl⟩
          rw [← hve] at hcell hsn
          clear hve
          obtain ⟨⟨A1, ho, hfA, hap⟩, hn, hown, hg2, hf2, ht⟩ := hb
          obtain ⟨xs, hxs⟩ : ∃ xs, xs = ys ++ encTs (ts.take k) := ⟨_, rfl⟩
          have hsn2 : ys ++ encTs (ts.take (k + 1)) = xs ++ encT v := by rw [hsn, hxs, List.append_assoc]
          rw [← hxs] at hlen ho hn hown
          have Hsn := Lib.hid hsn2; clear hsn hsn2
          clear hxs
          subst hn
          by_cases h5 : 500 < v.size
          · go_wp2_with (go_at_call 9; refine (awake_any wr (hh.touch ht (by simp))).mono ?_; rintro e w1 ⟨rfl, ht1⟩)
            go_ret
            exact ⟨rfl, ht.trans0 ht1⟩
          have hvl := encT_length v
          have hvl2 := encI_length v.size
          have hvl3 : (encT v).length ≤ 509 := by omega
          clear hvl hvl2
          go_wp2_with fail
          refine (outText_any w.heap.size A1 xs v (by omega) wr ho).mono ?_
          rintro e w1 ⟨rfl, hp⟩
          have hp2 := hp
          obtain ⟨A5, ho5, ht5, hf5⟩ := hp2
          have hs5 := ht5.size
          have hA2lt := hown.lt
          have hrd5 : OwnB w1 A2 c2 xs := hown.touch ht5 (fun b hb hm => by
            rcases List.mem_cons.1 hm with h | h
            · exact hg2 (h ▸ hb)
            · exact hap b hb h)
          go_wp2_with fail
          refine (refText_any v (by omega) w1).mono ?_
          rintro e w2 ⟨A6, c6, rfl, hown6, ht6, hf6⟩
          have hs6 := ht6.size
          go_wp2_with (at_builtin; refine stop ?_)
          refine go ?_
          refine wpList_appB rfl (.tmp 52) (.tmp 54) rfl A2 xs.length c2 xs rfl rfl (hrd5.touch0 ht6) A6 (encT v).length c6 (encT v) rfl rfl hown6.rd (by omega) ?_
          intro A7 c7 w7 hown7 ht7 hf7
          have hs7 := ht7.size
          go_wp2_with fail
          go_roundw
          case rel => exact ⟨k + 1, A7, _, c7, by omega, by go_num, rfl, by
            rw [Hsn.out]
            exact Both.next (A1 := none) (A3 := none) (n := 0) (Nat.le_refl _) hA2lt hg2 hfA hap hf2 ht hp ht6 hgw ht7 hf7 hown7 (by simp) ⟨rfl, rfl⟩, by omega, by rw [Hsn.out, List.length_append]; omega⟩
          case measure => simp [intOf]; omega
        · obtain rfl : k = ts.length := by omega
          rw [List.take_length] at hb hlen
          have htsz : ∀ k (h : k < ts.length), ts[k].size ≤ 9223372036854775807 := fun k h => by have := hts _ (List.getElem_mem h); unfold maxLen at this; omega
          obtain ⟨xs, hxs⟩ : ∃ xs, xs = ys ++ encTs ts := ⟨_, rfl⟩
          rw [← hxs] at hlen hb
          have Hxs := Lib.hid hxs; clear hxs
          obtain ⟨⟨A1, ho, hfA, hap⟩, hn, hown, hg2, hf2, ht⟩ := hb
          subst hn
          go_wp2_with fail
          refine (outBytes_any w.heap.size A1 xs (by omega) wr ho).mono ?_
          rintro e w1 ⟨A3, c3, rfl, hown3, ht3, hf3⟩
          have hcv1 := run_str_of c3 rfl hown3.rd
          have hcv2 := run_str_of c2 rfl (hown.touch0 ht3).rd
          go_wp2_with fail
          clear hcv1 hcv2
          refine (newIn_any A3 xs.length c3 xs rfl (by omega) w1 hown3.rd).mono ?_
          rintro e w2 ⟨g, A4, rfl, hi4, ht4, hgw4, hf4⟩
          have hown4 := hown3.touch0 ht4
          have hlt3 := hown3.lt
          have hs4 := ht4.size
          have T2 := (ht.trans0 ht3).trans0 ht4
          have Hts := Lib.hid htsz; clear htsz
          clear hown hap ho hfA hg2 hf2 hown3
          go_wp2_with fail
          go_loopw [67] (fun i wr => ∃ (k : Nat) (zs : List UInt8), k ≤ xs.length ∧ i = .int .i64 k ∧ zs.length = xs.length ∧ OwnB wr A3 c3 zs ∧ Touch (fpo A3) w2 wr) (fun i _ => xs.length - (intOf i).toNat)
          case atStart => exact ⟨0, xs, by omega, rfl, rfl, hown4, Touch.refl _ _⟩
          case round =>
            clear hown4
            obtain ⟨k, zs, hk, rfl, hzl, hown, ht5⟩ := hrel
            by_cases hlt : k < xs.length
            · have hkz : k < zs.length := by omega
              obtain ⟨G, rfl⟩ : ∃ G, A3 = some ⟨G, 0, none⟩ := by
                rcases hown.head with ⟨_, e, _⟩ | ⟨G, e⟩
                · rw [e] at hkz; simp at hkz
                · exact ⟨G, e⟩
              obtain ⟨x, hx⟩ : ∃ x, x = zs[k] := ⟨_, rfl⟩
              have hcell : wr.cell? ⟨G, k, none⟩ = some (.int .u8 x.toNat) := by
                have := World.ownsRow.cells hown (g := G) rfl k (B x) (by rw [hx]; simp [hkz])
                have e0 : (⟨G, 0, none⟩ : Addr).add k = ⟨G, k, none⟩ := by unfold Addr.add; split <;> simp_all
                rwa [e0] at this
              have hfree : wr.frozen? ⟨G, k, none⟩ = false := World.ownsRow.frozenAt hown k
              have hset := hown.set k (x + 1)
              have hxl := x.toNat_lt
              have hinc := Lib.hid (u8_inc x)
              have hzl2 : (zs.set k (x + 1)).length = xs.length := by rw [List.length_set]; exact hzl
              have Hzl := Lib.hid hzl2
              clear hx hzl hzl2 hown
              have T5 := ht5.setCell (p := ⟨G, k, none⟩) (.inl (by simp [fpo])) (B (x + 1))
              go_wp2_with fail
              go_roundw
              case rel => exact ⟨k + 1, zs.set k (x + 1), by omega, by go_num, Hzl.out, by rw [hinc.out]; exact hset, by rw [hinc.out]; exact T5⟩
              case measure => simp [intOf]; omega
            · obtain rfl : k = xs.length := by omega
              have hi5 : InAt wr g A4 xs false := hi4.touch ht5 (fun hm => by have := hlt3 g hm; omega) (fun b hb hm => by have := hlt3 b hm; have := hf4 b hb; omega)
              have hs5 := ht5.size
              have T5 : Touch [] w wr := T2.trans ht5 (fun b hb => .inr (by have := hf3 b hb; have := ht.size; omega))
              have hgW : w.heap.size ≤ g := by have := (ht.trans0 ht3).size; omega
              have hfW : ∀ b ∈ fpo A4, w.heap.size ≤ b := fun b hb => by have := (ht.trans0 ht3).size; have := hf4 b hb; omega
              clear hown hzl hi4 ht5 T2 ht4 hf4
              have Hxs2 : Hid (xs = encIs (l.drop 0) ++ encTs ts) := by rw [Hxs.out, Hys.out]; exact Lib.hid rfl
              go_wp2_with fail
              go_loopw [79] (fun i wr => ∃ (k : Nat) (A6 : Option Addr), k ≤ l.length ∧ i = .int .i64 k ∧ InAt wr g A6 (encIs (l.drop k) ++ encTs ts) false ∧ Touch [] w wr ∧ ∀ b ∈ fpo A6, w.heap.size ≤ b) (fun i _ => l.length - (intOf i).toNat)
              case atStart => exact ⟨0, A4, by omega, rfl, by rw [← Hxs2.out]; exact hi5, T5, hfW⟩
              case round =>
                clear hi5 T5
                obtain ⟨k, A6, hk, rfl, hi, ht6, hf6⟩ := hrel
                by_cases hlt : k < l.length
                · obtain ⟨ad, rfl, hcell⟩ := RdI.at_ (hr.touch0 ht6) k hlt
                  have hv := hl l[k] (List.getElem_mem hlt)
                  have hI := inInt_ok g A6 _ _ hi
                  rw [encIs_drop l k hlt, List.append_assoc] at hI
                  unfold IntPost at hI
                  rw [rdI_enc hv.1 hv.2] at hI
                  obtain ⟨v, hve⟩ : ∃ v, v = l[k] := ⟨_, rfl⟩
                  rw [← hve] at hcell hI
                  clear hve hi
                  go_wp2_with fail
                  refine hI.mono ?_
                  rintro e w7 ⟨rfl, A7, hi7, ht7, hf7⟩
                  go_wp2_with fail
                  go_roundw
                  case rel => exact ⟨k + 1, A7, by omega, by go_num, hi7, ht6.trans ht7 (fun b hb => .inr (by simp at hb; omega)), fun b hb => hf6 b (hf7 b hb)⟩
                  case measure => simp [intOf]; omega
                · obtain rfl : k = l.length := by omega
                  rw [List.drop_length] at hi
                  have Hi := Lib.hid (show InAt wr g A6 (encTs (ts.drop 0)) false from hi)
                  clear hi
                  go_wp2_with fail
                  go_loopw [90] (fun i wr => ∃ (k : Nat) (A6 : Option Addr), k ≤ ts.length ∧ i = .int .i64 k ∧ InAt wr g A6 (encTs (ts.drop k)) false ∧ Touch [] w wr ∧ ∀ b ∈ fpo A6, w.heap.size ≤ b) (fun i _ => ts.length - (intOf i).toNat)
                  case atStart => exact ⟨0, A6, by omega, rfl, Hi.out, ht6, hf6⟩
                  case round =>
                    clear Hi ht6 hf6
                    obtain ⟨k, A6, hk, rfl, hi, ht6, hf6⟩ := hrel
                    by_cases hlt : k < ts.length
                    · obtain ⟨ad, rfl, hcell⟩ := RdS.at_ (hrt.touch0 ht6) k hlt
                      have hT := inText_ok g A6 _ _ hi
                      rw [encTs_drop ts k hlt] at hT
                      unfold TextPost at hT
                      rw [rdT_enc _ (Hts.out k hlt)] at hT
                      obtain ⟨v, hve⟩ : ∃ v, v = ts[k] := ⟨_, rfl⟩
                      rw [← hve] at hcell hT
                      dsimp only at hT
                      rw [S_data] at hT
                      clear hve hi
                      go_wp2_with fail
                      refine hT.mono ?_
                      rintro e w7 ⟨rfl, A7, hi7, ht7, hf7⟩
                      go_wp2_with fail
                      go_roundw
                      case rel => exact ⟨k + 1, A7, by omega, by go_num, hi7, ht6.trans ht7 (fun b hb => .inr (by simp at hb; omega)), fun b hb => hf6 b (hf7 b hb)⟩
                      case measure => simp [intOf]; omega
                    · obtain rfl : k = ts.length := by omega
                      rw [List.drop_length] at hi
                      have hi2 : InAt wr g A6 [] false := hi
                      have hh2 := hh.touch ht6 (by simp)
                      clear hi
                      go_wp2_with fail
                      refine (done_any g A6 [] false wr hi2).mono ?_
                      rintro e w8 ⟨rfl, rfl⟩
                      go_wp2_with fail
                      refine (bad_any g A6 [] false _ hi2).mono ?_
                      rintro e w8 ⟨rfl, rfl⟩
                      go_wp2_with fail
                      refine (awake_any _ hh2).mono ?_
                      rintro e w8 ⟨rfl, ht8⟩
                      go_wp2_with fail
                      go_ret
                      exact ⟨rfl, ht6.trans0 ht8⟩
end Go.Proofs.YtgpadejkmpfafaaDoor
