/- cron.items: a set's text. For every set without the highest bit. -/
import Derived.Test.YtoabloeechphkaaDoorCronTz
namespace Go.Proofs.YtoabloeechphkaaDoor
open Go.RowKit Go.Shelf

theorem itoa_any (n : Nat) (hn : n < 64) (w : World) : Calls Tryd.prog 53 #[.int .i64 n] w fun e w' => e = .returned (.string (S (dg n))) ∧ w' = w := by
  have h := Tryd.strconv_Itoa_small n (by omega) w
  rw [dg_dec n (by omega)] at h
  exact h
theorem map_S (l : List (List UInt8)) : (l.map S).map (fun x => x.data.toList) = l := by
  rw [List.map_map]
  have : (fun x : ByteArray => x.data.toList) ∘ S = id := funext fun x => S_toList x
  rw [this, List.map_id]
/-- joined pieces -/
theorem join_any (b : UInt8) (l : List (List UInt8)) (A : Option Addr) (c n : Nat) (hn : l.length = n) (w : World) (h : OwnK 9 1 encT w A c l) (hl : l.length ≤ 100000) (hlen : (Lib.join l [b]).length ≤ 100000) :
    Calls Tryd.prog 38 #[.slice A n c, .string (S [b])] w fun e w' => e = .returned (.string (S (Lib.join l [b]))) ∧ Touch [] w w' := by
  subst hn
  rcases h.head with ⟨rfl, rfl, rfl⟩ | ⟨g, rfl⟩
  · refine (Tryd.strings_Join_none none 0 (S [b]) w).mono ?_
    rintro e w' ⟨rfl, rfl⟩
    exact ⟨rfl, Touch.refl _ _⟩
  · have hc : ∀ (j : Nat) x, (l.map S)[j]? = some x → w.cell? ⟨g, 0 + j, none⟩ = some (.string x) := fun j x hx => by
      rw [List.getElem?_map] at hx
      obtain ⟨y, hy, rfl⟩ := Option.map_eq_some_iff.1 hx
      have hj := (List.getElem?_eq_some_iff.1 hy).1
      have h1 := World.ownsRow.cells h (g := g) rfl j (.string (S y)) (by
        have := flat_get encT 1 encT_len l j 0 hj (by omega)
        rw [Nat.mul_one, Nat.add_zero] at this
        rw [this, (List.getElem?_eq_some_iff.1 hy).2]; rfl)
      have e1 : (⟨g, 0, none⟩ : Addr).add j = ⟨g, j, none⟩ := by unfold Addr.add; split <;> simp_all
      rw [Nat.zero_add]
      rwa [e1] at h1
    have hj := Tryd.strings_Join g 0 c (l.map S) (S [b]) w hc (h.lt g (by simp [fpo])) (by rw [List.length_map]; omega) (by rw [List.length_map]; exact h.le) (by rw [map_S, S_toList]; omega)
    rw [map_S, S_toList, List.length_map] at hj
    refine hj.mono ?_
    rintro e w' ⟨rfl, hb⟩
    exact ⟨rfl, Touch.of_below hb []⟩

theorem runs_top {s p : Nat} {l : List (Nat × Nat)} (h : Runs s p l) (hl : l ≠ []) : ∃ a b r, l = (a, b) :: r ∧ p ≤ a ∧ (∀ j, p ≤ j → j < a → s.testBit j = false) ∧ a ≤ b ∧ b < 64 ∧ (∀ j, a ≤ j → j ≤ b → s.testBit j = true) ∧ (b + 1 < 64 → s.testBit (b + 1) = false) ∧ Runs s (b + 1) r := by
  cases h with
  | nil _ _ => exact absurd rfl hl
  | cons _ a b l h1 h2 h3 h4 h5 h6 h7 => exact ⟨a, b, l, rfl, h1, h2, h3, h4, h5, h6, h7⟩
theorem fromB_none {s p : Nat} (hs : s < 18446744073709551616) (h : Runs s p []) : fromB s p = 0 := by
  rw [← runs_or hs h]; rfl
/-- the numbers of a run are taken away -/
theorem fromB_off {s p a b : Nat} (hs : s < 18446744073709551616) (h1 : p ≤ a) (h2 : ∀ j, p ≤ j → j < a → s.testBit j = false) (h3 : a ≤ b) (h4 : b < 64) : fromB s p &&& (18446744073709551615 - rowV a b 1) = fromB s (b + 1) := by
  refine bits_ext (Nat.lt_of_le_of_lt Nat.and_le_left (fromB_lt s p hs)) (fromB_lt _ _ hs) fun j hj => ?_
  have hn : (18446744073709551615 - rowV a b 1).testBit j = !(rowV a b 1).testBit j := by
    have h := Nat.testBit_two_pow_sub_succ (show rowV a b 1 < 2 ^ 64 from rowV_lt a b 1) j
    have e : 2 ^ 64 - (rowV a b 1 + 1) = 18446744073709551615 - rowV a b 1 := by omega
    rw [e] at h
    rw [h]; simp [hj]
  rw [Nat.testBit_and, hn, fromB_bit, fromB_bit, rowV_bit _ _ _ _ hj, Bool.eq_iff_iff]
  simp only [rowP, Nat.mod_one, decide_true, Bool.and_true, Bool.and_eq_true, decide_eq_true_eq, Bool.not_eq_true', Bool.and_eq_false_iff, decide_eq_false_iff_not]
  constructor
  · rintro ⟨⟨h8, h9⟩, h10⟩
    refine ⟨?_, h9⟩
    by_cases q : j < a
    · rw [h2 j h8 q] at h9; cases h9
    · omega
  · rintro ⟨h8, h9⟩
    exact ⟨⟨by omega, h9⟩, by omega⟩
/-- how long a run is -/
theorem run_len {s p a b : Nat} (hs : s < 18446744073709551616) (h1 : p ≤ a) (h3 : a ≤ b) (h4 : b < 63) (h5 : ∀ j, a ≤ j → j ≤ b → s.testBit j = true) (h6 : s.testBit (b + 1) = false) :
    18446744073709551615 - fromB s p / 2 ^ a < 18446744073709551616 ∧ 18446744073709551615 - fromB s p / 2 ^ a ≠ 0 ∧ Lib.ctz 64 (18446744073709551615 - fromB s p / 2 ^ a) = b + 1 - a := by
  have hl : fromB s p / 2 ^ a < 18446744073709551616 := Nat.lt_of_le_of_lt (Nat.div_le_self _ _) (fromB_lt s p hs)
  have hb : ∀ j, j < 64 → (18446744073709551615 - fromB s p / 2 ^ a).testBit j = !(fromB s p).testBit (a + j) := fun j hj => by
    have h := Nat.testBit_two_pow_sub_succ (show fromB s p / 2 ^ a < 2 ^ 64 from hl) j
    have e : 2 ^ 64 - (fromB s p / 2 ^ a + 1) = 18446744073709551615 - fromB s p / 2 ^ a := by omega
    rw [e] at h
    rw [h, ← Nat.shiftRight_eq_div_pow, Nat.testBit_shiftRight]; simp [hj]
  have hlt : 18446744073709551615 - fromB s p / 2 ^ a < 18446744073709551616 := Nat.lt_of_le_of_lt (Nat.sub_le _ _) (by decide)
  have := ctz_eq (x := 18446744073709551615 - fromB s p / 2 ^ a) (k := b + 1 - a) hlt (by omega) (by rw [hb _ (by omega), fromB_bit, show a + (b + 1 - a) = b + 1 by omega, h6]; simp) (fun j hj => by rw [hb j (by omega), fromB_bit, h5 (a + j) (by omega) (by omega), decide_eq_true (by omega)]; rfl)
  exact ⟨hlt, this.1, this.2⟩

theorem not_u64 (y : Nat) (hy : y < 18446744073709551616) : bits .xor .u64 IntKind.u64.max (y : Int) = ((18446744073709551615 - y : Nat) : Int) := by
  have h := u64_xor_nat 18446744073709551615 y (by omega) hy
  have e : 18446744073709551615 ^^^ y = 18446744073709551615 - y := by
    refine bits_ext (Nat.xor_lt_two_pow (n := 64) (by decide) hy) (by omega) fun j hj => ?_
    have h1 := Nat.testBit_two_pow_sub_succ (show y < 2 ^ 64 from hy) j
    have e : 2 ^ 64 - (y + 1) = 18446744073709551615 - y := by omega
    rw [e] at h1
    have h2 : (18446744073709551615 : Nat).testBit j = true := by
      have := Nat.testBit_two_pow_sub_one 64 j
      rw [show (2 : Nat) ^ 64 - 1 = 18446744073709551615 from rfl] at this
      rw [this]; simp [hj]
    rw [Nat.testBit_xor, h1, h2]; simp [hj]
  rw [e] at h
  exact h

set_option maxRecDepth 100000 in
set_option maxHeartbeats 6400000 in
theorem items_any (s : Nat) (hs : s < 18446744073709551616) (h63 : s.testBit 63 = false) (l : List (Nat × Nat)) (hl : Runs s 0 l) (hll : l.length ≤ 64) (w : World) (hT : Gz w) :
    Calls Tryd.prog 37 #[.int .u64 s] w fun e w' => e = .returned (.string (S (Lib.join (l.map runT) [44]))) ∧ Touch [] w w' := by
  have hlb : (Lib.join (l.map runT) [44]).length ≤ 6 * l.length + 1 := by
    have := fldT_len (a := false) (l := l) (fun r hr => by obtain ⟨h1, h2, -, -⟩ := runs_in hl r hr; omega)
    unfold fldT at this
    rwa [if_neg (by simp)] at this
  have Hlb := Lib.hid hlb
  have HT := Lib.hid hT
  have HL := Lib.hid hl
  clear hT hl hlb
  go_enter Tryd.func37, Tryd.ntmps37
  go_wp2
  go_loopw [0, 3] (fun sv q wr => ∃ (p x : Nat) (don rest : List (Nat × Nat)) (A : Option Addr) (c m : Nat), sv = .int .u64 (x : Nat) ∧ q = .slice A m c ∧ p ≤ 64 ∧ Hid (x = fromB s p) ∧ Hid (Runs s p rest) ∧ Hid (l = don ++ rest) ∧ m = don.length ∧ m ≤ 64 ∧ Hid (OwnK 9 1 encT wr A c (don.map runT)) ∧ Hid (∀ b ∈ fpo A, w.heap.size ≤ b) ∧ Touch [] w wr) (fun sv _ _ => (intOf sv).toNat)
  case atStart => exact ⟨0, s, [], l, none, 0, 0, rfl, rfl, by omega, Lib.hid (fromB_zero s).symm, HL, Lib.hid rfl, rfl, by omega, Lib.hid (OwnK.nil _ _ _ _), Lib.hid (by simp [fpo]), Touch.refl _ _⟩
  case round =>
    obtain ⟨p, x, don, rest, A, c, m, rfl, rfl, hp, hx, hruns, hcut, hm, hm64, hown, hge, ht⟩ := hrel
    by_cases hr : rest = []
    · subst hr
      have hx0 : x = 0 := by rw [hx.out, fromB_none hs hruns.out]
      subst hx0
      have hd : don = l := by have := hcut.out; rw [List.append_nil] at this; exact this.symm
      have ho := hown.out
      rw [hd] at ho hm
      have hj := join_any 44 (l.map runT) A c m (by rw [List.length_map]; exact hm.symm) wr ho (by rw [List.length_map]; omega) (by have := Hlb.out; omega)
      have Hj := Lib.hid hj
      clear hj ho hown hcut hruns hx hd hm
      go_wp2_with fail
      refine Hj.out.mono ?_
      rintro e w1 ⟨rfl, t1⟩
      go_wp2_with fail
      go_ret
      exact ⟨rfl, ht.trans0 t1⟩
    · obtain ⟨a, b, r, rfl, h1, h2, h3, h4, h5, h6, h7⟩ := runs_top hruns.out hr
      have hb63 : b < 63 := by
        by_cases e : b = 63
        · have := h5 b h3 (Nat.le_refl _)
          rw [e, h63] at this; cases this
        · omega
      have hxl : x < 18446744073709551616 := by rw [hx.out]; exact fromB_lt s p hs
      have hz := ctz_eq (x := x) (k := a) hxl (by omega) (by rw [hx.out, fromB_bit, h5 a (Nat.le_refl _) h3, decide_eq_true h1]; rfl) (fun j hj => by
        rw [hx.out, fromB_bit]
        by_cases q : p ≤ j
        · rw [h2 j q hj]; simp
        · rw [decide_eq_false q]; rfl)
      have hrl := run_len (p := p) hs h1 h3 hb63 h5 (h6 (by omega))
      have hoff := fromB_off (p := p) hs h1 h2 h3 h4
      rw [← hx.out] at hrl hoff
      have hz1 := tz_any x hz.1 hxl wr (HT.out.touch0 ht)
      rw [hz.2] at hz1
      have hz2 := tz_any _ hrl.2.1 hrl.1 wr (HT.out.touch0 ht)
      rw [hrl.2.2] at hz2
      have hand := u64_andNot_nat x (rowV a b 1) hxl (rowV_lt a b 1)
      rw [hoff] at hand
      have hlt : fromB s (b + 1) < x := by
        refine Nat.lt_of_le_of_ne (by rw [← hoff]; exact Nat.and_le_left) (fun e => ?_)
        have e1 := congrArg (fun y => Nat.testBit y a) e
        simp only [fromB_bit] at e1
        rw [hx.out, fromB_bit, h5 a (Nat.le_refl _) h3, decide_eq_true h1, decide_eq_false (by omega)] at e1
        cases e1
      have hx0 : x ≠ 0 := hz.1
      have hxb : ((x : Int) != 0) = true := by rw [bne_iff_ne]; omega
      have hxz : ((x : Int) = 0) = False := eq_false (by omega)
      have hia := fun w' => itoa_any a (by omega) w'
      have hib := fun w' => itoa_any b h4 w'
      have hrow := fun w' => row_any a b 1 (by omega) h4 (by omega) (by omega) w'
      obtain ⟨cn, hcn⟩ : ∃ cn, cn = b + 1 - a := ⟨_, rfl⟩
      rw [← hcn] at hz2
      obtain ⟨x2, hx2⟩ : ∃ x2, x2 = fromB s (b + 1) := ⟨_, rfl⟩
      rw [← hx2] at hand hlt
      have hxd : x / 2 ^ a < 18446744073709551616 := Nat.lt_of_le_of_lt (Nat.div_le_self _ _) hxl
      have hsh := not_u64 _ hxd
      rw [Int.natCast_ediv, Int.natCast_pow] at hsh
      rw [← hsh] at hz2
      have Hsh := Lib.hid hsh
      clear hxd
      have hrT : runT (a, b) = if a < b then dg a ++ 45 :: dg b else dg a := rfl
      have hcut2 : l = (don ++ [(a, b)]) ++ r := by rw [hcut.out]; simp
      have hlen : don.length + 1 ≤ 64 := by
        have := congrArg List.length hcut2
        simp at this; omega
      have Hz1 := Lib.hid hz1; have Hz2 := Lib.hid hz2; have Hand := Lib.hid hand; have Hia := Lib.hid hia; have Hib := Lib.hid hib; have Hrow := Lib.hid hrow; have Hx2 := Lib.hid hx2; have H7 := Lib.hid h7; have Hcut2 := Lib.hid hcut2; have Hrt := Lib.hid hrT; have Hlt := Lib.hid hlt; have Hm := Lib.hid hm; have Hcn := Lib.hid hcn
      clear hz1 hz2 hand hia hib hrow hx2 h7 hcut2 hcut hrT hx hruns h2 h5 h6 hrl hoff hz hxl hsh hlt hr
      have a0 : (0 : Int) ≤ (a : Int) := by omega
      have a64 : (a : Int) < 64 := by omega
      clear hcn hm
      go_wp2_with fail
      refine (Hz1.out).mono ?_
      rintro e w1 ⟨rfl, rfl⟩
      go_wp2_with fail
      refine (Hz2.out).mono ?_
      rintro e w1 ⟨rfl, rfl⟩
      go_wp2_with fail
      refine (Hia.out _).mono ?_
      rintro e w1 ⟨rfl, rfl⟩
      have eqb : (a : Int) + cn - 1 = b := by have := Hcn.out; omega
      have eqb2 : (a : Int) + cn = (b : Int) + 1 := by omega
      have hcn64 : (cn : Int) ≤ 64 := by omega
      have hda := (dg_wd (n := a) (by omega)).1.1
      have hdb := (dg_wd (n := b) h4).1.1
      have hend : ∀ (A3 : Option Addr) (c3 : Nat) (w3 : World), OwnK 9 1 encT w3 A3 c3 (don.map runT ++ [runT (a, b)]) → OwnK 9 1 encT w3 A3 c3 ((don ++ [(a, b)]).map runT) := fun A3 c3 w3 h => by
        rw [List.map_append]; exact h
      have Hend := Lib.hid hend
      clear hend
      by_cases hab : a < b
      · have hcn1 : ((1 : Int) < cn) = True := eq_true (by omega)
        have Hrt2 := Lib.hid (show runT (a, b) = dg a ++ 45 :: dg b by rw [Hrt.out, if_pos hab])
        have y1 : ByteArray.mk #[45] ++ S (dg b) = S (45 :: dg b) := by rw [show ByteArray.mk #[45] = S [45] from rfl, S_app]; rfl
        have y2 : S (dg a) ++ S (45 :: dg b) = S (runT (a, b)) := by rw [S_app, Hrt2.out]
        have y3 : (ByteArray.mk #[45]).size + (S (dg b)).size ≤ 1000 := by rw [S_size]; show 1 + _ ≤ _; omega
        have y4 : (S (dg a)).size + (S (45 :: dg b)).size ≤ 1000 := by rw [S_size, S_size, List.length_cons]; omega
        have y5 : (S (45 :: dg b)).size ≤ 1000 := by rw [S_size, List.length_cons]; omega
        have y6 : (S (runT (a, b))).size ≤ 1000 := by rw [S_size, Hrt2.out, List.length_append, List.length_cons]; omega
        have ta := (Touch.refl [] w1).alloc (.cells #[.string (S (runT (a, b)))] 9)
        have Hown := Lib.hid (hown.out.touch0 ta)
        have Hrd := Lib.hid (RdK.one (enc := encT) w1 9 (runT (a, b)) #[.string (S (runT (a, b)))] rfl)
        clear hda hdb
        go_wp2_with fail
        refine (Hib.out _).mono ?_
        rintro e w2 ⟨rfl, rfl⟩
        go_wp2_with (at_builtin; refine wpList_appK rfl (.tmp 28) (.tmp 30) 55 rfl 9 (.string ByteArray.empty) 1 16 info_strT Tryd.underlying55 rfl (by omega) encT_len encT_one A m c (don.map runT) (by rw [List.length_map]; exact Hm.out.symm) rfl Hown.out (some ⟨w2.heap.size, 0, none⟩) 1 1 [runT (a, b)] rfl rfl Hrd.out (by omega) (by omega) ?_; refine stop ?_)
        refine go ?_
        intro A3 c3 w3 hown3 ht3 hf3
        have tt : Touch [] w w3 := (ht.trans0 ta).trans ht3 (fun b hb => .inr (hge.out b hb))
        have hws := ht.size
        have hand := Hand.out
        go_wp2_with fail
        refine (Hrow.out _).mono ?_
        rintro e w4 ⟨rfl, rfl⟩
        go_wp2_with fail
        go_roundw
        case rel => exact ⟨b + 1, x2, don ++ [(a, b)], r, A3, c3, m + 1, rfl, by first | rfl | go_num, by omega, Hx2, H7, Hcut2, by rw [List.length_append, Hm.out]; rfl, by rw [Hm.out]; omega, Lib.hid (Hend.out _ _ _ hown3), Lib.hid (fun k hk => by
          rcases hf3 k hk with e | e
          · exact hge.out k e
          · (try rw [World.size_alloc] at e); omega), tt⟩
        case measure => have := Hlt.out; simp [intOf]; omega
      · obtain rfl : a = b := by omega
        have hcn1 : ((1 : Int) < cn) = False := eq_false (by omega)
        have Hrt2 := Lib.hid (show runT (a, a) = dg a by rw [Hrt.out, if_neg hab])
        have ta := (Touch.refl [] w1).alloc (.cells #[.string (S (dg a))] 9)
        have Hown := Lib.hid (hown.out.touch0 ta)
        have Hrd := Lib.hid (RdK.one (enc := encT) w1 9 (dg a) #[.string (S (dg a))] rfl)
        clear hda hdb
        go_wp2_with (at_builtin; refine wpList_appK rfl (.tmp 28) (.tmp 30) 55 rfl 9 (.string ByteArray.empty) 1 16 info_strT Tryd.underlying55 rfl (by omega) encT_len encT_one A m c (don.map runT) (by rw [List.length_map]; exact Hm.out.symm) rfl Hown.out (some ⟨w1.heap.size, 0, none⟩) 1 1 [dg a] rfl rfl Hrd.out (by omega) (by omega) ?_; refine stop ?_)
        refine go ?_
        intro A3 c3 w3 hown3 ht3 hf3
        rw [← Hrt2.out] at hown3
        have tt : Touch [] w w3 := (ht.trans0 ta).trans ht3 (fun b hb => .inr (hge.out b hb))
        have hws := ht.size
        have hand := Hand.out
        go_wp2_with fail
        refine (Hrow.out _).mono ?_
        rintro e w4 ⟨rfl, rfl⟩
        go_wp2_with fail
        go_roundw
        case rel => exact ⟨a + 1, x2, don ++ [(a, a)], r, A3, c3, m + 1, rfl, by first | rfl | go_num, by omega, Hx2, H7, Hcut2, by rw [List.length_append, Hm.out]; rfl, by rw [Hm.out]; omega, Lib.hid (Hend.out _ _ _ hown3), Lib.hid (fun k hk => by
          rcases hf3 k hk with e | e
          · exact hge.out k e
          · (try rw [World.size_alloc] at e); omega), tt⟩
        case measure => have := Hlt.out; simp [intOf]; omega
end Go.Proofs.YtoabloeechphkaaDoor
