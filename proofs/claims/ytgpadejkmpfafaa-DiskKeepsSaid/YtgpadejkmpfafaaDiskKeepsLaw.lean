/- bywashlaw06.DiskKeeps: the walk of the law. For every input. -/
import Derived.Test.YtgpadejkmpfafaaDiskPowerLaw
import Derived.Test.YtgpadejkmpfafaaBss
namespace Go.Proofs.Ytgpadejkmpfafaa
open Go.RowKit

def flat (l : List BS) : List UInt8 := l.flatMap (·.l)
theorem flat_snoc (l : List BS) (k : Nat) (h : k < l.length) : flat (l.take (k + 1)) = flat (l.take k) ++ l[k].l := by
  unfold flat
  rw [List.take_succ_eq_append_getElem h, List.flatMap_append]; simp
/-- how many bytes are safe when k were added -/
def safeK (n : Nat) (ll : List BS) (k : Nat) : Nat := if k ≤ n then 0 else (flat (ll.take n)).length
def VK (n : Nat) (ll : List BS) (k : Nat) : Fl := [([], 0), ([], 0), (flat (ll.take k), safeK n ll k), ([], 0)]
theorem usedV_VK (n : Nat) (ll : List BS) (k : Nat) : usedV (VK n ll k) = (flat (ll.take k)).length := by simp [usedV, VK]
/-- Sync of file 2 with the power on -/
theorem pSync_two {V : Fl} {r : DR} (hl : r.left = -1) (hd : r.down = false) : pSync V r 2 = (0, V.set 2 ((V.getD 2 ([], 0)).1, (V.getD 2 ([], 0)).1.length), { r with left := -1, done := r.done + 1 }) := by
  unfold pSync
  rw [if_neg (by simp [checkI, hd]), (cmd_on hl).1, (cmd_on hl).2]
  rfl
theorem app_two (ll : List BS) (k : Nat) (b : List UInt8) (s : Nat) (r : DR) (hl : r.left = -1) (hd : r.down = false) (hr : ((flat (ll.take k)).length : Int) + b.length ≤ r.cap) :
    pApp [([], 0), ([], 0), (flat (ll.take k), s), ([], 0)] r 2 b = (0, [([], 0), ([], 0), (flat (ll.take k) ++ b, s), ([], 0)], { r with left := -1, done := r.done + 1 }) := by
  have := pApp_room (V := [([], 0), ([], 0), (flat (ll.take k), s), ([], 0)]) (r := r) (k := 2) (b := b) hl hd (by simp) rfl (by simp [usedV]; omega)
  simpa using this

theorem S_ext (l : List UInt8) (n : Nat) : (S l).extract 0 n = S (l.take n) := by
  apply ByteArray.ext
  simp [S, ByteArray.data_extract]
/-- all[:n] -/
theorem run_cutS (l : List UInt8) (n : Nat) (hn : n ≤ l.length) (w : World) : (Instr.slice 9 (.string (S l)) none (some (.int .i64 (n : Int))) none).run Try.prog w = .ok (.string (S (l.take n))) w := by
  rw [run_slice_string_h (P := Try.prog) w 9 (S l) Try.underlying9 .i64 (n : Int) (by omega) (by rw [S_size]; omega), Int.toNat_natCast, S_ext]
theorem crash_two (keep : Int) (al : List UInt8) (s N : Nat) (hN : N = s + min (max keep 0).toNat (al.length - s)) :
    crashK [9, 9, keep] [([], 0), ([], 0), (al, s), ([], 0)] 4 = [([], 0), ([], 0), (al.take N, N), ([], 0)] := by
  subst hN
  simp [crashK, crashF, stays]

set_option maxRecDepth 100000 in
set_option maxHeartbeats 6400000 in
theorem keeps_law (A0 : Option Addr) (c0 : Nat) (l0 : List BS) (A1 : Option Addr) (c1 : Nat) (l1 : List BS) (keep : Int) (w : World) (h0 : BssRd w A0 l0) (i0 : BssIn w l0) (h1 : BssRd w A1 l1) (i1 : BssIn w l1)
    (hl0 : l0.length ≤ 9223372036854775807) (hl1 : l1.length ≤ 9223372036854775807) (hel : ∀ e ∈ l0 ++ l1, e.l.length ≤ 9223372036854775807) (hk1 : -9223372036854775808 ≤ keep) (hk2 : keep ≤ 9223372036854775807) :
    Calls Try.prog 3 #[.slice A0 l0.length c0, .slice A1 l1.length c1, .int .i64 keep] w fun e w' => e = .returned (.bool true) ∧ Touch [] w w' := by
  go_enter Try.func3, Try.ntmps3
  go_wp2_with fail
  refine (new_dk 1048576 w (by omega)).mono ?_
  rintro e w1 ⟨rfl, hd1, ht1⟩
  by_cases hg0 : 30 < l0.length
  · go_wp2_with (go_at_call 10; refine (awake6_any _).mono ?_; rintro e w3 ⟨rfl, ht3⟩)
    go_ret
    exact ⟨rfl, ht1.trans0 ht3⟩
  by_cases hg1 : 30 < l1.length
  · go_wp2_with (go_at_call 10; refine (awake6_any _).mono ?_; rintro e w3 ⟨rfl, ht3⟩)
    go_ret
    exact ⟨rfl, ht1.trans0 ht3⟩
  go_wp2_with (at_builtin; refine stop ?_)
  refine go ?_
  have ta := (Touch.refl [] w1).alloc (.cells #[] 26)
  refine wpList_appS rfl (.tmp 33) (.tmp 34) rfl (some ⟨w1.heap.size, 0, none⟩) 0 0 [] rfl rfl (OwnS.empty_new w1) A0 l0.length c0 l0 rfl rfl (Rd.touch0 h0 (ht1.trans0 ta)) (by omega) ?_
  intro A2 c2 w2 hown2 ht2 hf2
  have T2 : Touch [] w w2 := (ht1.trans0 ta).trans ht2 (fun b hb => .inr (by have := ht1.size; simp [fpo] at hb; omega))
  have F2 : ∀ b ∈ fpo A2, w.heap.size < b := fun b hb => by
    have h1 : w.heap.size < w1.heap.size := World.block_lt_of_cell? w1 ⟨w.heap.size, 8, none⟩ hd1.cells.1
    have := ht1.size
    rcases hf2 b hb with h | h
    · simp [fpo] at h; omega
    · simp at h; omega
  go_wp2_with (at_builtin; refine stop ?_)
  refine go ?_
  refine wpList_appS rfl (.tmp 35) (.tmp 36) rfl A2 l0.length c2 ([] ++ l0) (by simp) rfl hown2 A1 l1.length c1 l1 rfl rfl (Rd.touch0 h1 T2) (by omega) ?_
  intro A3 c3 w3 hown3 ht3 hf3
  have F3 : ∀ b ∈ fpo A3, w.heap.size < b := fun b hb => by
    have := T2.size
    rcases hf3 b hb with h | h
    · exact F2 b h
    · have h1 : w.heap.size < w1.heap.size := World.block_lt_of_cell? w1 ⟨w.heap.size, 8, none⟩ hd1.cells.1
      have h2 := ht1.size
      have h3 := (ta.trans0 (Touch.refl [] _)).size
      have h4 := ht2.size
      simp at h3 h4
      omega
  have hr3 : BssRd w3 A3 (l0 ++ l1) := by simpa using hown3.rd
  have T3 : Touch [] w w3 := T2.trans ht3 (fun b hb => .inr (by have := F2 b hb; omega))
  have hin : BssIn w (l0 ++ l1) := fun e he => by
    rcases List.mem_append.1 he with h | h
    · exact i0 e h
    · exact i1 e h
  have hlen : (l0 ++ l1).length = l0.length + l1.length := List.length_append
  obtain ⟨ll, hll⟩ : ∃ ll, ll = l0 ++ l1 := ⟨_, rfl⟩
  rw [← hll] at hr3 hin hlen hel
  clear hown3 hown2 h0 h1 i0 i1
  have hd3 := hd1.step (ta.trans ht2 (fun b hb => .inr (by simp [fpo] at hb; omega))) (by simp)
  have hd3' := hd3.step ht3 (fun b hb hm => by simp at hb; have := F2 b hm; omega)
  clear hd1 hd3 ht1 ta ht2 ht3
  have Hll := Lib.hid hll; clear hll
  have Hlen := Lib.hid hlen
  have hlen1 : ((l0.length : Int) + l1.length) = (ll.length : Int) := by omega
  have hll60 : ll.length ≤ 60 := by omega
  have hn0 : l0.length ≤ ll.length := by omega
  clear hlen
  have T3g : Touch [w.heap.size] w3 w3 := Touch.refl _ _
  have ht30 := T3.size
  go_wp2_with fail
  go_loopw [8, 9, 39] (fun su al i wr => ∃ (k : Nat) (fp : List Nat) (done : Nat), k ≤ ll.length ∧ i = .int .i64 k ∧ su = .string (S (flat (ll.take (min k l0.length)))) ∧ al = .string (S (flat (ll.take k))) ∧
      DkAt wr w.heap.size fp (VK l0.length ll k) ⟨1048576, -1, done, false⟩ ∧ done ≤ 2 * k ∧ (flat (ll.take k)).length ≤ 500 * k ∧ Touch [w.heap.size] w3 wr ∧ ∀ b ∈ fp, b = w.heap.size ∨ w3.heap.size ≤ b)
    (fun _ _ i _ => ll.length - (intOf i).toNat)
  case atStart => exact ⟨0, _, 0, by omega, rfl, by simp [flat, S], by simp [flat, S], by simpa [VK, flat, safeK] using hd3', by omega, by simp [flat], T3g, by simp⟩
  case round =>
    clear hd3' T3g
    obtain ⟨k, fp, done, hk, rfl, rfl, rfl, hd, hdk, hfl, ht, hf⟩ := hrel
    have Tw : Touch [] w wr := T3.trans ht (fun b hb => .inr (by simp at hb; omega))
    have Fw : ∀ b ∈ fp, w.heap.size ≤ b := fun b hb => by rcases hf b hb with h | h <;> omega
    have hrw : BssRd wr A3 ll := Rd.touch hr3 ht (fun b hb hm => by have := F3 b hb; simp at hm; omega)
    by_cases hlt : k < ll.length
    · obtain ⟨ad, rfl, hcell⟩ := hrw.at_ k hlt
      obtain ⟨x, hx⟩ : ∃ x, x = ll[k] := ⟨_, rfl⟩
      rw [← hx] at hcell
      have hxb : RdB w x.A x.l := by rw [hx]; exact hin _ (List.getElem_mem hlt)
      have hxl : x.l.length ≤ 9223372036854775807 := by rw [hx]; exact hel _ (List.getElem_mem hlt)
      have Hsn := Lib.hid (show flat (ll.take (k + 1)) = flat (ll.take k) ++ x.l by rw [hx]; exact flat_snoc ll k hlt)
      clear hx hrw
      by_cases h500 : 500 < x.l.length
      · go_wp2_with (go_at_call 10; refine (awake6_any _).mono ?_; rintro e w4 ⟨rfl, ht4⟩)
        go_ret
        exact ⟨rfl, Tw.trans0 ht4⟩
      rcases Nat.lt_trichotomy k l0.length with hkn | hkn | hkn
      · have hkb : ((k : Int) == l0.length) = false := by rw [beq_eq_false_iff_ne]; omega
        have hmin : min k l0.length = k := by omega
        rw [hmin]
        have hklI : (k : Int) < l0.length := by omega
        obtain ⟨wA, fpA, hdA, TwA, TgA, hfA⟩ : ∃ wA fpA, DkAt wA w.heap.size fpA (VK l0.length ll k) ⟨1048576, -1, done, false⟩ ∧ Touch [] w wA ∧ Touch [w.heap.size] w3 wA ∧ (wA = wr ∧ fpA = fp) ∧ ∀ b ∈ fpA, b = w.heap.size ∨ w3.heap.size ≤ b := ⟨wr, fp, hd, Tw, ht, ⟨rfl, rfl⟩, hf⟩
        obtain ⟨⟨rfl, rfl⟩, hfA⟩ := hfA
        have Happ := Lib.hid (app_two ll k x.l (safeK l0.length ll k) ⟨1048576, -1, done, false⟩ rfl rfl (by show _ ≤ (1048576 : Int); omega))
        go_wp2_with fail
        refine (append_dkn w.heap.size fpA (VK l0.length ll k) ⟨1048576, -1, done, false⟩ 2 x.A x.l.length x.c x.l rfl wA hdA (hxb.touch0 TwA) hxl (by show (done : Int) < _; omega) _ Happ.out).mono ?_
        rintro e w4 ⟨rfl, fp4, hd4, ht4, hf4⟩
        have FwA : ∀ b ∈ fpA, w.heap.size ≤ b := fun b hb => by rcases hfA b hb with h | h <;> omega
        have Tw4 : Touch [] w w4 := TwA.trans ht4 (fun b hb => .inr (FwA b hb))
        have Tg4 : Touch [w.heap.size] w3 w4 := TgA.trans ht4 (fun b hb => by rcases hfA b hb with h | h; exact .inl (by simp [h]); exact .inr h)
        have hcv := run_str_of x.c rfl (hxb.touch0 Tw4)
        have hz1 : (S (flat (ll.take k))).size + (S x.l).size ≤ 9223372036854775807 := by rw [S_size, S_size]; omega
        go_wp2_with fail
        go_roundw
        case rel => exact ⟨k + 1, fp4, done + 1, by omega, by go_num, by rw [show min (k + 1) l0.length = k + 1 by omega, S_app, Hsn.out], by rw [S_app, Hsn.out], by
          have e : VK l0.length ll (k + 1) = [([], 0), ([], 0), (flat (ll.take k) ++ x.l, safeK l0.length ll k), ([], 0)] := by
            unfold VK; rw [Hsn.out]; congr 3
            unfold safeK; rw [if_pos (by omega), if_pos (by omega)]
          rw [e]; exact hd4, by omega, by rw [Hsn.out, List.length_append]; omega, Tg4, fun b hb => by
          rcases hf4 b hb with h | h
          · exact hfA b h
          · exact .inr (Nat.le_trans TgA.size h)⟩
        case measure => simp [intOf]; omega
      · subst hkn
        have hmin : min l0.length l0.length = l0.length := by omega
        rw [hmin]
        have Hps := Lib.hid (pSync_two (V := VK l0.length ll l0.length) (r := ⟨1048576, -1, done, false⟩) rfl rfl)
        go_wp2_with fail
        refine (sync_dkx w.heap.size fp (VK l0.length ll l0.length) _ 2 wr hd (by show (done : Int) < _; omega) _ Hps.out).mono ?_
        rintro e wA ⟨rfl, fpA, hdA, htA, hfA'⟩
        have TwA : Touch [] w wA := Tw.trans htA (fun b hb => .inr (Fw b hb))
        have TgA : Touch [w.heap.size] w3 wA := ht.trans htA (fun b hb => by rcases hf b hb with h | h; exact .inl (by simp [h]); exact .inr h)
        have hfA : ∀ b ∈ fpA, b = w.heap.size ∨ w3.heap.size ≤ b := fun b hb => by
          rcases hfA' b hb with h | h
          · exact hf b h
          · exact .inr (Nat.le_trans ht.size h)
        have Happ := Lib.hid (app_two ll l0.length x.l ((flat (ll.take l0.length)).length) ⟨1048576, -1, (done : Int) + 1, false⟩ rfl rfl (by show _ ≤ (1048576 : Int); omega))
        go_wp2_with fail
        refine (append_dkn w.heap.size fpA [([], 0), ([], 0), (flat (ll.take l0.length), (flat (ll.take l0.length)).length), ([], 0)] ⟨1048576, -1, (done : Int) + 1, false⟩ 2 x.A x.l.length x.c x.l rfl wA hdA (hxb.touch0 TwA) hxl (by show ((done : Int) + 1 : Int) < _; omega) _ Happ.out).mono ?_
        rintro e w4 ⟨rfl, fp4, hd4, ht4, hf4⟩
        have FwA : ∀ b ∈ fpA, w.heap.size ≤ b := fun b hb => by rcases hfA b hb with h | h <;> omega
        have Tw4 : Touch [] w w4 := TwA.trans ht4 (fun b hb => .inr (FwA b hb))
        have Tg4 : Touch [w.heap.size] w3 w4 := TgA.trans ht4 (fun b hb => by rcases hfA b hb with h | h; exact .inl (by simp [h]); exact .inr h)
        have hcv := run_str_of x.c rfl (hxb.touch0 Tw4)
        have hz1 : (S (flat (ll.take l0.length))).size + (S x.l).size ≤ 9223372036854775807 := by rw [S_size, S_size]; omega
        go_wp2_with fail
        go_roundw
        case rel => exact ⟨l0.length + 1, fp4, done + 1 + 1, by omega, by go_num, by rw [show min (l0.length + 1) l0.length = l0.length by omega], by rw [S_app, Hsn.out], by
          have e : VK l0.length ll (l0.length + 1) = [([], 0), ([], 0), (flat (ll.take l0.length) ++ x.l, (flat (ll.take l0.length)).length), ([], 0)] := by
            unfold VK; rw [Hsn.out]; congr 3
            unfold safeK; rw [if_neg (by omega)]
          rw [e]; exact hd4, by omega, by rw [Hsn.out, List.length_append]; omega, Tg4, fun b hb => by
          rcases hf4 b hb with h | h
          · exact hfA b h
          · exact .inr (Nat.le_trans TgA.size h)⟩
        case measure => simp [intOf]; omega
      · have hkb : ((k : Int) == l0.length) = false := by rw [beq_eq_false_iff_ne]; omega
        have hmin : min k l0.length = l0.length := by omega
        rw [hmin]
        have hklI : (l0.length : Int) ≤ k := by omega
        obtain ⟨wA, fpA, hdA, TwA, TgA, hfA⟩ : ∃ wA fpA, DkAt wA w.heap.size fpA (VK l0.length ll k) ⟨1048576, -1, done, false⟩ ∧ Touch [] w wA ∧ Touch [w.heap.size] w3 wA ∧ (wA = wr ∧ fpA = fp) ∧ ∀ b ∈ fpA, b = w.heap.size ∨ w3.heap.size ≤ b := ⟨wr, fp, hd, Tw, ht, ⟨rfl, rfl⟩, hf⟩
        obtain ⟨⟨rfl, rfl⟩, hfA⟩ := hfA
        have Happ := Lib.hid (app_two ll k x.l (safeK l0.length ll k) ⟨1048576, -1, done, false⟩ rfl rfl (by show _ ≤ (1048576 : Int); omega))
        go_wp2_with fail
        refine (append_dkn w.heap.size fpA (VK l0.length ll k) ⟨1048576, -1, done, false⟩ 2 x.A x.l.length x.c x.l rfl wA hdA (hxb.touch0 TwA) hxl (by show (done : Int) < _; omega) _ Happ.out).mono ?_
        rintro e w4 ⟨rfl, fp4, hd4, ht4, hf4⟩
        have FwA : ∀ b ∈ fpA, w.heap.size ≤ b := fun b hb => by rcases hfA b hb with h | h <;> omega
        have Tw4 : Touch [] w w4 := TwA.trans ht4 (fun b hb => .inr (FwA b hb))
        have Tg4 : Touch [w.heap.size] w3 w4 := TgA.trans ht4 (fun b hb => by rcases hfA b hb with h | h; exact .inl (by simp [h]); exact .inr h)
        have hcv := run_str_of x.c rfl (hxb.touch0 Tw4)
        have hz1 : (S (flat (ll.take k))).size + (S x.l).size ≤ 9223372036854775807 := by rw [S_size, S_size]; omega
        go_wp2_with fail
        go_roundw
        case rel => exact ⟨k + 1, fp4, done + 1, by omega, by go_num, by rw [show min (k + 1) l0.length = l0.length by omega], by rw [S_app, Hsn.out], by
          have e : VK l0.length ll (k + 1) = [([], 0), ([], 0), (flat (ll.take k) ++ x.l, safeK l0.length ll k), ([], 0)] := by
            unfold VK; rw [Hsn.out]; congr 3
            unfold safeK; rw [if_neg (by omega), if_neg (by omega)]
          rw [e]; exact hd4, by omega, by rw [Hsn.out, List.length_append]; omega, Tg4, fun b hb => by
          rcases hf4 b hb with h | h
          · exact hfA b h
          · exact .inr (Nat.le_trans TgA.size h)⟩
        case measure => simp [intOf]; omega
    · obtain rfl : k = ll.length := by omega
      rw [List.take_length] at hfl
      rw [show min ll.length l0.length = l0.length by omega, List.take_length]
      obtain ⟨al, hal⟩ : ∃ al, al = flat ll := ⟨_, rfl⟩
      obtain ⟨su, hsu⟩ : ∃ su, su = flat (ll.take l0.length) := ⟨_, rfl⟩
      have hVK : VK l0.length ll ll.length = [([], 0), ([], 0), (al, if l1 = [] then 0 else su.length), ([], 0)] := by
        unfold VK safeK
        rw [List.take_length, ← hal, ← hsu]
        by_cases h : l1 = []
        · have : l1.length = 0 := by rw [h]; rfl
          rw [if_pos (by omega), if_pos h]
        · have : 0 < l1.length := List.length_pos_iff.2 h
          rw [if_neg (by omega), if_neg h]
      have hsub : su.length ≤ al.length ∧ (l1 = [] → su = al) := by
        constructor
        · rw [hsu, hal]
          have : flat ll = flat (ll.take l0.length) ++ flat (ll.drop l0.length) := by
            unfold flat; rw [← List.flatMap_append, List.take_append_drop]
          rw [this, List.length_append]; omega
        · intro h
          have : l1.length = 0 := by rw [h]; rfl
          rw [hsu, hal, List.take_of_length_le (by omega)]
      rw [← hal] at hfl
      rw [hVK] at hd
      rw [← hal, ← hsu]
      have hsz1 : (S al).size = al.length := S_size _
      have hsz2 : (S su).size = su.length := S_size _
      clear hVK hal hsu hin hel hlen1
      obtain ⟨hsl, hse⟩ := hsub
      by_cases hl1e : l1 = []
      · subst hl1e
        rw [if_pos rfl] at hd
        obtain rfl := hse rfl
        have Hps := Lib.hid (pSync_two (V := [([], 0), ([], 0), (su, 0), ([], 0)]) (r := ⟨1048576, -1, done, false⟩) rfl rfl)
        go_wp2_with fail
        refine (sync_dkx w.heap.size fp _ _ 2 wr hd (by show (done : Int) < _; omega) _ Hps.out).mono ?_
        rintro e wA ⟨rfl, fpA, hdA', htA, hfA⟩
        have hdA : DkAt wA w.heap.size fpA [([], 0), ([], 0), (su, su.length), ([], 0)] ⟨1048576, -1, done + 1, false⟩ := hdA'
        clear hdA'
        have TwA : Touch [] w wA := Tw.trans htA (fun b hb => .inr (Fw b hb))
        have FwA : ∀ b ∈ fpA, w.heap.size ≤ b := fun b hb => by
          rcases hfA b hb with h | h
          · exact Fw b h
          · exact Nat.le_trans Tw.size h
        go_wp2_with fail
        have tc := (Touch.refl [] wA).alloc (.cells #[.int .i64 9, .int .i64 9, .int .i64 keep] 3)
        have hk : RdI (wA.alloc (.cells #[.int .i64 9, .int .i64 9, .int .i64 keep] 3)) (some ⟨wA.heap.size, 0, none⟩) [9, 9, keep] := fun _ => ⟨_, rfl, fun j u hu => by
          match j, hu with
          | 0, hu => simp at hu; subst hu; exact cell_blk (heap_alloc_new wA _) rfl
          | 1, hu => simp at hu; subst hu; exact cell_blk (heap_alloc_new wA _) rfl
          | 2, hu => simp at hu; subst hu; exact cell_blk (heap_alloc_new wA _) rfl⟩
        refine (crash_dk w.heap.size fpA _ _ (some ⟨wA.heap.size, 0, none⟩) 3 [9, 9, keep] _ (hdA.step tc (by simp)) (fun w' ht' => Rd.touch hk ht' (fun b hb hm => ?_)) (by simp; omega)).mono ?_
        · have hb' : b = wA.heap.size := by simpa [fpo] using hb
          have := hdA.lt b hm
          omega
        rintro e w5 ⟨rfl, fp5, hd5, ht5, hf5⟩
        have T5 := (TwA.trans0 tc).trans ht5 (fun b hb => .inr (FwA b hb))
        obtain ⟨N, hN⟩ : ∃ N, N = su.length + min (max keep 0).toNat (su.length - su.length) := ⟨_, rfl⟩
        rw [crash_two keep su su.length N hN] at hd5
        have hNl : N ≤ su.length := by omega
        go_wp2_with fail
        refine (read_dk w.heap.size fp5 _ _ 2 w5 hd5).mono ?_
        rintro e w6 ⟨A6, c6, l6, hl6, rfl, hown6, ht6, hf6⟩
        have hl6' : l6 = su.take N := by rw [hl6]; rfl
        subst hl6'
        rw [show checkI false 2 = 0 from rfl]
        have hlenN : (su.take N).length = N := by simp; omega
        rw [hlenN]
        have hd6 := hd5.step ht6 (by simp)
        have T6 := T5.trans0 ht6
        clear hl6
        have HN := Lib.hid hN; clear hN
        rcases (show keep < 0 ∨ (0 ≤ keep ∧ keep ≤ (su.length : Int) - su.length) ∨ (0 ≤ keep ∧ (su.length : Int) - su.length < keep) by omega) with hkc | ⟨hkc, hkd⟩ | ⟨hkc, hkd⟩
        · have hx : (su.length : Int) = (N : Int) := by have := HN.out; omega
          have Hx := Lib.hid hx; clear hx
          have hroom : (0 : Int) ≤ (su.length : Int) - su.length := by omega
          go_wp2_with fail
          rw [Hx.out]
          have hcv := run_str_of c6 hlenN (w := w6.drew) (by exact hown6.rd)
          have hsl2 := fun W => run_cutS su N hNl W
          have h2 : 2 < ([([], 0), ([], 0), (su.take N, N), ([], 0)] : Fl).length := by simp
          have hus : usedV ([([], 0), ([], 0), (su.take N, N), ([], 0)] : Fl) = N := by simp [usedV]; omega
          have Hus := Lib.hid hus; clear hus
          go_region_held3 (fun w' => (convert 26 9 (.slice A6 N c6)).run Try.prog w' = .ok (.string (S (su.take N))) w') (first | exact hcv | exact run_str_of c6 hlenN (hown6.rd.touch0 ht8.ofDrew) | exact run_str_of c6 hlenN ((hown6.rd.touch0 ht8.ofDrew).touch0 ht9)) (first
            | (go_at_call 15; refine (safe_dkx w.heap.size fp5 _ _ 2 h2 _ (hd6.step (by first | exact Touch.refl [] _ | exact (Touch.refl [] _).drew) (by simp))).mono ?_; rintro e w7 ⟨rfl, rfl⟩)
            | (go_at_call 16; refine (used_dk w.heap.size fp5 _ _ _ (hd6.step (by first | exact Touch.refl [] _ | exact (Touch.refl [] _).drew) (by simp))).mono ?_; rintro e w8 ⟨rfl, ht8⟩; rw [Hus.out])
            | (go_at_call 10; refine (awake6_any _).mono ?_; rintro e w9 ⟨rfl, ht9⟩))
          go_wp2
          go_ret
          exact ⟨rfl, (T6.trans0 ht8.ofDrew).trans0 ht9⟩
        · obtain ⟨K, rfl⟩ : ∃ K : Nat, keep = K := ⟨keep.toNat, by omega⟩
          have hx : ((su.length : Int) + K : Int) = (N : Int) := by have := HN.out; omega
          have Hx := Lib.hid hx; clear hx
          have hroom : (0 : Int) ≤ (su.length : Int) - su.length := by omega
          go_wp2_with fail
          rw [Hx.out]
          have hcv := run_str_of c6 hlenN (w := w6.drew) (by exact hown6.rd)
          have hsl2 := fun W => run_cutS su N hNl W
          have h2 : 2 < ([([], 0), ([], 0), (su.take N, N), ([], 0)] : Fl).length := by simp
          have hus : usedV ([([], 0), ([], 0), (su.take N, N), ([], 0)] : Fl) = N := by simp [usedV]; omega
          have Hus := Lib.hid hus; clear hus
          go_region_held3 (fun w' => (convert 26 9 (.slice A6 N c6)).run Try.prog w' = .ok (.string (S (su.take N))) w') (first | exact hcv | exact run_str_of c6 hlenN (hown6.rd.touch0 ht8.ofDrew) | exact run_str_of c6 hlenN ((hown6.rd.touch0 ht8.ofDrew).touch0 ht9)) (first
            | (go_at_call 15; refine (safe_dkx w.heap.size fp5 _ _ 2 h2 _ (hd6.step (by first | exact Touch.refl [] _ | exact (Touch.refl [] _).drew) (by simp))).mono ?_; rintro e w7 ⟨rfl, rfl⟩)
            | (go_at_call 16; refine (used_dk w.heap.size fp5 _ _ _ (hd6.step (by first | exact Touch.refl [] _ | exact (Touch.refl [] _).drew) (by simp))).mono ?_; rintro e w8 ⟨rfl, ht8⟩; rw [Hus.out])
            | (go_at_call 10; refine (awake6_any _).mono ?_; rintro e w9 ⟨rfl, ht9⟩))
          go_wp2
          go_ret
          exact ⟨rfl, (T6.trans0 ht8.ofDrew).trans0 ht9⟩
        · have hx : ((su.length : Int) : Int) = (N : Int) := by have := HN.out; omega
          have Hx := Lib.hid hx; clear hx
          have hroom : (0 : Int) ≤ (su.length : Int) - su.length := by omega
          go_wp2_with fail
          rw [Hx.out]
          have hcv := run_str_of c6 hlenN (w := w6.drew) (by exact hown6.rd)
          have hsl2 := fun W => run_cutS su N hNl W
          have h2 : 2 < ([([], 0), ([], 0), (su.take N, N), ([], 0)] : Fl).length := by simp
          have hus : usedV ([([], 0), ([], 0), (su.take N, N), ([], 0)] : Fl) = N := by simp [usedV]; omega
          have Hus := Lib.hid hus; clear hus
          go_region_held3 (fun w' => (convert 26 9 (.slice A6 N c6)).run Try.prog w' = .ok (.string (S (su.take N))) w') (first | exact hcv | exact run_str_of c6 hlenN (hown6.rd.touch0 ht8.ofDrew) | exact run_str_of c6 hlenN ((hown6.rd.touch0 ht8.ofDrew).touch0 ht9)) (first
            | (go_at_call 15; refine (safe_dkx w.heap.size fp5 _ _ 2 h2 _ (hd6.step (by first | exact Touch.refl [] _ | exact (Touch.refl [] _).drew) (by simp))).mono ?_; rintro e w7 ⟨rfl, rfl⟩)
            | (go_at_call 16; refine (used_dk w.heap.size fp5 _ _ _ (hd6.step (by first | exact Touch.refl [] _ | exact (Touch.refl [] _).drew) (by simp))).mono ?_; rintro e w8 ⟨rfl, ht8⟩; rw [Hus.out])
            | (go_at_call 10; refine (awake6_any _).mono ?_; rintro e w9 ⟨rfl, ht9⟩))
          go_wp2
          go_ret
          exact ⟨rfl, (T6.trans0 ht8.ofDrew).trans0 ht9⟩
      · rw [if_neg hl1e] at hd
        have hl1n : ((l1.length : Int) == 0) = false := by rw [beq_eq_false_iff_ne]; have := List.length_pos_iff.2 hl1e; omega
        have hdA := hd
        have TwA := Tw
        have FwA := Fw
        go_wp2_with fail
        have tc := (Touch.refl [] wr).alloc (.cells #[.int .i64 9, .int .i64 9, .int .i64 keep] 3)
        have hk : RdI (wr.alloc (.cells #[.int .i64 9, .int .i64 9, .int .i64 keep] 3)) (some ⟨wr.heap.size, 0, none⟩) [9, 9, keep] := fun _ => ⟨_, rfl, fun j u hu => by
          match j, hu with
          | 0, hu => simp at hu; subst hu; exact cell_blk (heap_alloc_new wr _) rfl
          | 1, hu => simp at hu; subst hu; exact cell_blk (heap_alloc_new wr _) rfl
          | 2, hu => simp at hu; subst hu; exact cell_blk (heap_alloc_new wr _) rfl⟩
        refine (crash_dk w.heap.size fp _ _ (some ⟨wr.heap.size, 0, none⟩) 3 [9, 9, keep] _ (hdA.step tc (by simp)) (fun w' ht' => Rd.touch hk ht' (fun b hb hm => ?_)) (by simp; omega)).mono ?_
        · have hb' : b = wr.heap.size := by simpa [fpo] using hb
          have := hdA.lt b hm
          omega
        rintro e w5 ⟨rfl, fp5, hd5, ht5, hf5⟩
        have T5 := (TwA.trans0 tc).trans ht5 (fun b hb => .inr (FwA b hb))
        obtain ⟨N, hN⟩ : ∃ N, N = su.length + min (max keep 0).toNat (al.length - su.length) := ⟨_, rfl⟩
        rw [crash_two keep al su.length N hN] at hd5
        have hNl : N ≤ al.length := by omega
        go_wp2_with fail
        refine (read_dk w.heap.size fp5 _ _ 2 w5 hd5).mono ?_
        rintro e w6 ⟨A6, c6, l6, hl6, rfl, hown6, ht6, hf6⟩
        have hl6' : l6 = al.take N := by rw [hl6]; rfl
        subst hl6'
        rw [show checkI false 2 = 0 from rfl]
        have hlenN : (al.take N).length = N := by simp; omega
        rw [hlenN]
        have hd6 := hd5.step ht6 (by simp)
        have T6 := T5.trans0 ht6
        clear hl6
        have HN := Lib.hid hN; clear hN
        rcases (show keep < 0 ∨ (0 ≤ keep ∧ keep ≤ (al.length : Int) - su.length) ∨ (0 ≤ keep ∧ (al.length : Int) - su.length < keep) by omega) with hkc | ⟨hkc, hkd⟩ | ⟨hkc, hkd⟩
        · have hx : (su.length : Int) = (N : Int) := by have := HN.out; omega
          have Hx := Lib.hid hx; clear hx
          have hroom : (0 : Int) ≤ (al.length : Int) - su.length := by omega
          go_wp2_with fail
          rw [Hx.out]
          have hcv := run_str_of c6 hlenN (w := w6.drew) (by exact hown6.rd)
          have hsl2 := fun W => run_cutS al N hNl W
          have h2 : 2 < ([([], 0), ([], 0), (al.take N, N), ([], 0)] : Fl).length := by simp
          have hus : usedV ([([], 0), ([], 0), (al.take N, N), ([], 0)] : Fl) = N := by simp [usedV]; omega
          have Hus := Lib.hid hus; clear hus
          go_region_held3 (fun w' => (convert 26 9 (.slice A6 N c6)).run Try.prog w' = .ok (.string (S (al.take N))) w') (first | exact hcv | exact run_str_of c6 hlenN (hown6.rd.touch0 ht8.ofDrew) | exact run_str_of c6 hlenN ((hown6.rd.touch0 ht8.ofDrew).touch0 ht9)) (first
            | (go_at_call 15; refine (safe_dkx w.heap.size fp5 _ _ 2 h2 _ (hd6.step (by first | exact Touch.refl [] _ | exact (Touch.refl [] _).drew) (by simp))).mono ?_; rintro e w7 ⟨rfl, rfl⟩)
            | (go_at_call 16; refine (used_dk w.heap.size fp5 _ _ _ (hd6.step (by first | exact Touch.refl [] _ | exact (Touch.refl [] _).drew) (by simp))).mono ?_; rintro e w8 ⟨rfl, ht8⟩; rw [Hus.out])
            | (go_at_call 10; refine (awake6_any _).mono ?_; rintro e w9 ⟨rfl, ht9⟩))
          go_wp2
          go_ret
          exact ⟨rfl, (T6.trans0 ht8.ofDrew).trans0 ht9⟩
        · obtain ⟨K, rfl⟩ : ∃ K : Nat, keep = K := ⟨keep.toNat, by omega⟩
          have hx : ((su.length : Int) + K : Int) = (N : Int) := by have := HN.out; omega
          have Hx := Lib.hid hx; clear hx
          have hroom : (0 : Int) ≤ (al.length : Int) - su.length := by omega
          go_wp2_with fail
          rw [Hx.out]
          have hcv := run_str_of c6 hlenN (w := w6.drew) (by exact hown6.rd)
          have hsl2 := fun W => run_cutS al N hNl W
          have h2 : 2 < ([([], 0), ([], 0), (al.take N, N), ([], 0)] : Fl).length := by simp
          have hus : usedV ([([], 0), ([], 0), (al.take N, N), ([], 0)] : Fl) = N := by simp [usedV]; omega
          have Hus := Lib.hid hus; clear hus
          go_region_held3 (fun w' => (convert 26 9 (.slice A6 N c6)).run Try.prog w' = .ok (.string (S (al.take N))) w') (first | exact hcv | exact run_str_of c6 hlenN (hown6.rd.touch0 ht8.ofDrew) | exact run_str_of c6 hlenN ((hown6.rd.touch0 ht8.ofDrew).touch0 ht9)) (first
            | (go_at_call 15; refine (safe_dkx w.heap.size fp5 _ _ 2 h2 _ (hd6.step (by first | exact Touch.refl [] _ | exact (Touch.refl [] _).drew) (by simp))).mono ?_; rintro e w7 ⟨rfl, rfl⟩)
            | (go_at_call 16; refine (used_dk w.heap.size fp5 _ _ _ (hd6.step (by first | exact Touch.refl [] _ | exact (Touch.refl [] _).drew) (by simp))).mono ?_; rintro e w8 ⟨rfl, ht8⟩; rw [Hus.out])
            | (go_at_call 10; refine (awake6_any _).mono ?_; rintro e w9 ⟨rfl, ht9⟩))
          go_wp2
          go_ret
          exact ⟨rfl, (T6.trans0 ht8.ofDrew).trans0 ht9⟩
        · have hx : ((su.length : Int) + ((al.length : Int) - su.length) : Int) = (N : Int) := by have := HN.out; omega
          have Hx := Lib.hid hx; clear hx
          have hroom : (0 : Int) ≤ (al.length : Int) - su.length := by omega
          go_wp2_with fail
          rw [Hx.out]
          have hcv := run_str_of c6 hlenN (w := w6.drew) (by exact hown6.rd)
          have hsl2 := fun W => run_cutS al N hNl W
          have h2 : 2 < ([([], 0), ([], 0), (al.take N, N), ([], 0)] : Fl).length := by simp
          have hus : usedV ([([], 0), ([], 0), (al.take N, N), ([], 0)] : Fl) = N := by simp [usedV]; omega
          have Hus := Lib.hid hus; clear hus
          go_region_held3 (fun w' => (convert 26 9 (.slice A6 N c6)).run Try.prog w' = .ok (.string (S (al.take N))) w') (first | exact hcv | exact run_str_of c6 hlenN (hown6.rd.touch0 ht8.ofDrew) | exact run_str_of c6 hlenN ((hown6.rd.touch0 ht8.ofDrew).touch0 ht9)) (first
            | (go_at_call 15; refine (safe_dkx w.heap.size fp5 _ _ 2 h2 _ (hd6.step (by first | exact Touch.refl [] _ | exact (Touch.refl [] _).drew) (by simp))).mono ?_; rintro e w7 ⟨rfl, rfl⟩)
            | (go_at_call 16; refine (used_dk w.heap.size fp5 _ _ _ (hd6.step (by first | exact Touch.refl [] _ | exact (Touch.refl [] _).drew) (by simp))).mono ?_; rintro e w8 ⟨rfl, ht8⟩; rw [Hus.out])
            | (go_at_call 10; refine (awake6_any _).mono ?_; rintro e w9 ⟨rfl, ht9⟩))
          go_wp2
          go_ret
          exact ⟨rfl, (T6.trans0 ht8.ofDrew).trans0 ht9⟩
end Go.Proofs.Ytgpadejkmpfafaa
