/- bywashlaw06.DiskFull: the walk of the law. For every input. -/
import Derived.Test.YtgpadejkmpfafaaAwakeB
namespace Go.Proofs.Ytgpadejkmpfafaa
open Go.RowKit

theorem cmd_on {r : DR} (h : r.left = -1) : cmdE r = 0 ∧ cmdR r = { r with left := -1, done := r.done + 1 } := by
  constructor
  · unfold cmdE; rw [if_neg (by omega)]
  · unfold cmdR; rw [if_neg (by omega), h]; rfl
theorem usedV_set (V : Fl) (n : Nat) (hn : n < V.length) (x : List UInt8 × Nat) : usedV (V.set n x) + (V[n]).1.length = usedV V + x.1.length := by
  unfold usedV
  induction V generalizing n with
  | nil => simp at hn
  | cons a V ih =>
    cases n with
    | zero => simp only [List.set_cons_zero, List.map_cons, List.sum_cons, List.getElem_cons_zero]; omega
    | succ n =>
      have := ih n (by simpa using hn)
      simp only [List.set_cons_succ, List.map_cons, List.sum_cons, List.getElem_cons_succ]
      omega
theorem usedV_ge (V : Fl) (n : Nat) (hn : n < V.length) : (V[n]).1.length ≤ usedV V := by
  have := usedV_set V n hn ([], 0)
  simp at this; omega

/-- an Append with the power on, where there is room -/
theorem pApp_room {V : Fl} {r : DR} {k : Nat} {b : List UInt8} (hl : r.left = -1) (hd : r.down = false) (hk : k < V.length) (h4 : V.length = 4) (hr : (b.length : Int) ≤ r.cap - usedV V) :
    pApp V r k b = (0, V.set k ((V[k]).1 ++ b, (V[k]).2), { r with left := -1, done := r.done + 1 }) := by
  have hc : checkI r.down k = 0 := by rw [hd]; simp only [checkI]; simp; omega
  unfold pApp
  rw [if_neg (by simpa using hc), if_neg (by omega), (cmd_on hl).1, (cmd_on hl).2]
  simp [List.getD, hk]
theorem pApp_full {V : Fl} {r : DR} {k : Nat} {b : List UInt8} (hd : r.down = false) (hk : k < 4) (hr : r.cap - usedV V < (b.length : Int)) : pApp V r k b = (41, V, r) := by
  have hc : checkI r.down k = 0 := by rw [hd]; simp only [checkI]; simp; omega
  unfold pApp
  rw [if_neg (by simpa using hc), if_pos hr]

theorem pCut_bad {V : Fl} {r : DR} {k : Nat} {n : Int} (hd : r.down = false) (hk : k < V.length) (h4 : V.length = 4) (h : n < 0 ∨ ((V[k]).1.length : Int) < n) : pCut V r k n = (30, V, r) := by
  have hc : checkI r.down k = 0 := by rw [hd]; simp only [checkI]; simp; omega
  have hg : V.getD (k : Int).toNat ([], 0) = V[k] := by simp [List.getD, hk]
  unfold pCut
  rw [if_neg (by simpa using hc), hg, if_pos h]
theorem pCut_ok {V : Fl} {r : DR} {k n : Nat} (hl : r.left = -1) (hd : r.down = false) (hk : k < V.length) (h4 : V.length = 4) (h : n ≤ (V[k]).1.length) :
    pCut V r k n = (0, V.set k ((V[k]).1.take n, n), { r with left := -1, done := r.done + 1 }) := by
  have hc : checkI r.down k = 0 := by rw [hd]; simp only [checkI]; simp; omega
  have hg : V.getD (k : Int).toNat ([], 0) = V[k] := by simp [List.getD, hk]
  unfold pCut
  rw [if_neg (by simpa using hc), hg, if_neg (by omega), (cmd_on hl).1, (cmd_on hl).2]
  simp
theorem cut_dkx (g : Nat) (fp : List Nat) (V : Fl) (r : DR) (n size : Int) (w : World) (hd : DkAt w g fp V r) (hdone : r.done < 1073741824) (x : Int × Fl × DR) (hx : pCut V r n size = x) :
    Calls Try.prog 20 #[.pointer (some ⟨g, 0, none⟩), .int .i64 n, .int .i64 size] w fun e w' => e = .returned (.int .i64 x.1) ∧ DkStep g fp x.2.1 x.2.2 w w' := by
  subst hx
  exact cut_dk g fp V r n size w hd hdone
theorem size_dkx (g : Nat) (fp : List Nat) (V : Fl) (r : DR) (k : Nat) (hk : k < V.length) (w : World) (hd : DkAt w g fp V r) :
    Calls Try.prog 22 #[.pointer (some ⟨g, 0, none⟩), .int .i64 k] w fun e w' => e = .returned (.int .i64 ((V[k]).1.length : Nat)) ∧ w = w' := by
  have h4 := hd.facts.1
  refine (size_dk g fp V r k w hd).mono ?_
  rintro e w' ⟨rfl, rfl⟩
  rw [if_pos (by omega)]
  exact ⟨by simp [List.getD, hk], rfl⟩
theorem safe_dkx (g : Nat) (fp : List Nat) (V : Fl) (r : DR) (k : Nat) (hk : k < V.length) (w : World) (hd : DkAt w g fp V r) :
    Calls Try.prog 15 #[.pointer (some ⟨g, 0, none⟩), .int .i64 k] w fun e w' => e = .returned (.int .i64 ((V[k]).2 : Nat)) ∧ w = w' := by
  have h4 := hd.facts.1
  refine (safe_dk g fp V r k w hd).mono ?_
  rintro e w' ⟨rfl, rfl⟩
  rw [if_pos (by omega)]
  exact ⟨by simp [List.getD, hk], rfl⟩

theorem append_dkn (g : Nat) (fp : List Nat) (V : Fl) (r : DR) (n : Int) (A : Option Addr) (m c : Nat) (b : List UInt8) (hm : b.length = m) (w : World) (hd : DkAt w g fp V r) (hr : RdB w A b) (hb : m ≤ 9223372036854775807) (hdone : r.done < 1073741824) (x : Int × Fl × DR) (hx : pApp V r n b = x) :
    Calls Try.prog 12 #[.pointer (some ⟨g, 0, none⟩), .int .i64 n, .slice A m c] w fun e w' => e = .returned (.int .i64 x.1) ∧ DkStep g fp x.2.1 x.2.2 w w' := by
  subst hm hx
  exact append_dk g fp V r n A c b w hd hr hb hdone

set_option maxRecDepth 100000 in
set_option maxHeartbeats 3200000 in
theorem full_law (cap : Int) (A : Option Addr) (c : Nat) (ks : List Int) (cut : Int) (w : World) (hr : RdI w A ks) (hkl : ks.length ≤ 9223372036854775807) (hks : ∀ k ∈ ks, -9223372036854775808 ≤ k ∧ k ≤ 9223372036854775807) :
    Calls Try.prog 5 #[.int .i64 cap, .slice A ks.length c, .int .i64 cut] w fun e w' => e = .returned (.bool true) ∧ Touch [] w w' := by
  go_enter Try.func5, Try.ntmps5
  by_cases hc0 : cap < 0
  · go_wp2_with (go_at_call 10; refine (awake6_any _).mono ?_; rintro e w1 ⟨rfl, ht⟩)
    go_ret
    exact ⟨rfl, ht⟩
  by_cases hc1 : 2000 < cap
  · go_wp2_with (go_at_call 10; refine (awake6_any _).mono ?_; rintro e w1 ⟨rfl, ht⟩)
    go_ret
    exact ⟨rfl, ht⟩
  by_cases hl : 40 < ks.length
  · go_wp2_with (go_at_call 10; refine (awake6_any _).mono ?_; rintro e w1 ⟨rfl, ht⟩)
    go_ret
    exact ⟨rfl, ht⟩
  go_wp2_with fail
  refine (new_dk cap w (by omega)).mono ?_
  rintro e w1 ⟨rfl, hd1, ht1⟩
  go_wp2_with fail
  go_loopw [8, 32] (fun u i wr => ∃ (k : Nat) (V : Fl) (fp : List Nat) (done : Nat), k ≤ ks.length ∧ i = .int .i64 k ∧ u = .int .i64 (usedV V : Nat) ∧ DkAt wr w.heap.size fp V ⟨cap, -1, done, false⟩ ∧ done ≤ k ∧ (usedV V : Int) ≤ cap ∧ Touch [] w wr ∧ ∀ b ∈ fp, w.heap.size ≤ b)
    (fun _ i _ => ks.length - (intOf i).toNat)
  case atStart => exact ⟨0, _, _, 0, by omega, rfl, rfl, hd1, by omega, by simp [usedV]; omega, ht1, by simp⟩
  case round =>
    obtain ⟨k, V, fp, done, hk, rfl, rfl, hd, hdk, hu, ht, hf⟩ := hrel
    clear hd1
    by_cases hlt : k < ks.length
    · obtain ⟨ad, rfl, hcell⟩ := RdI.at_ (Rd.touch0 hr ht) k hlt
      have hkv := hks ks[k] (List.getElem_mem hlt)
      by_cases hn0 : ks[k] < 0
      · go_wp2_with (go_at_call 10; refine (awake6_any _).mono ?_; rintro e w2 ⟨rfl, ht2⟩)
        go_ret
        exact ⟨rfl, ht.trans0 ht2⟩
      by_cases hn1 : 3000 < ks[k]
      · go_wp2_with (go_at_call 10; refine (awake6_any _).mono ?_; rintro e w2 ⟨rfl, ht2⟩)
        go_ret
        exact ⟨rfl, ht.trans0 ht2⟩
      obtain ⟨N, hN⟩ : ∃ N : Nat, ks[k] = (N : Int) := ⟨ks[k].toNat, by omega⟩
      rw [hN] at hcell hn0 hn1
      have hmk := run_makeB N (by omega)
      have hV4 := hd.facts.1
      have hk4 : k % 4 < V.length := by omega
      have hcast : ((k : Int) % 4) = ((k % 4 : Nat) : Int) := by omega
      have hlenN : (List.replicate N (0 : UInt8)).length = N := List.length_replicate
      have ta := (Touch.refl [] wr).alloc (.cells (Array.replicate N (B 0)) 5)
      have hrd : RdB (wr.alloc (.cells (Array.replicate N (B 0)) 5)) (some ⟨wr.heap.size, 0, none⟩) (List.replicate N (0 : UInt8)) := RdB.new' wr _ (0, 0) _ (by simp)
      have hgl := hd.lt
      have hd' := hd.step ta (by simp)
      have Hcast := Lib.hid hcast; clear hcast
      have HN := Lib.hid hN; clear hN
      have HlenN := Lib.hid hlenN; clear hlenN
      by_cases hroom : (N : Int) ≤ cap - usedV V
      · have hp := pApp_room (V := V) (r := ⟨cap, -1, done, false⟩) (k := k % 4) (b := List.replicate N (0 : UInt8)) rfl rfl hk4 hV4 (by rw [HlenN.out]; exact hroom)
        rw [← Hcast.out] at hp
        have hset := usedV_set V (k % 4) hk4 ((V[k % 4]).1 ++ List.replicate N 0, (V[k % 4]).2)
        simp only [List.length_append, List.length_replicate] at hset
        obtain ⟨V2, hV2⟩ : ∃ V2, V2 = V.set (k % 4) ((V[k % 4]).1 ++ List.replicate N 0, (V[k % 4]).2) := ⟨_, rfl⟩
        rw [← hV2] at hp hset
        have hu2 : ((usedV V2 : Nat) : Int) = (usedV V : Int) + N := by omega
        clear hset hV2
        have Hp := Lib.hid hp; clear hp
        have Hu2 := Lib.hid hu2; clear hu2
        go_wp2_with fail
        refine (append_dkn w.heap.size fp V ⟨cap, -1, done, false⟩ ((k : Int) % 4) (some ⟨wr.heap.size, 0, none⟩) N N (List.replicate N 0) HlenN.out _ hd' hrd (by omega) (by show (done : Int) < _; omega) _ Hp.out).mono ?_
        rintro e w2 ⟨rfl, fp2, hd2, ht2, hf2⟩
        go_wp2_with fail
        refine (used_dk w.heap.size fp2 V2 _ w2 hd2).mono ?_
        rintro e w3 ⟨rfl, ht3⟩
        rw [Hu2.out]
        have T2 : Touch [] w w2 := (ht.trans0 ta).trans ht2 (fun b hb => .inr (hf b hb))
        go_wp2_with fail
        go_roundw
        case rel => exact ⟨k + 1, V2, fp2, done + 1, by omega, by go_num, by rw [Hu2.out], hd2.step ht3 (by simp), by omega, by rw [Hu2.out]; omega, T2.trans0 ht3, fun b hb => by
          rcases hf2 b hb with h | h
          · exact hf b h
          · exact Nat.le_trans (Nat.le_trans ht.size ta.size) h⟩
        case measure => simp [intOf]; omega
      · have hp := pApp_full (V := V) (r := ⟨cap, -1, done, false⟩) (k := k % 4) (b := List.replicate N (0 : UInt8)) rfl (by omega) (by rw [HlenN.out]; show cap - _ < _; omega)
        rw [← Hcast.out] at hp
        have Hp := Lib.hid hp; clear hp
        go_wp2_with fail
        refine (append_dkn w.heap.size fp V ⟨cap, -1, done, false⟩ ((k : Int) % 4) (some ⟨wr.heap.size, 0, none⟩) N N (List.replicate N 0) HlenN.out _ hd' hrd (by omega) (by show (done : Int) < _; omega) _ Hp.out).mono ?_
        rintro e w2 ⟨rfl, fp2, hd2, ht2, hf2⟩
        go_wp2_with fail
        refine (used_dk w.heap.size fp2 V _ w2 hd2).mono ?_
        rintro e w3 ⟨rfl, ht3⟩
        have T2 : Touch [] w w2 := (ht.trans0 ta).trans ht2 (fun b hb => .inr (hf b hb))
        go_wp2_with fail
        go_roundw
        case rel => exact ⟨k + 1, V, fp2, done, by omega, by go_num, rfl, hd2.step ht3 (by simp), by omega, by omega, T2.trans0 ht3, fun b hb => by
          rcases hf2 b hb with h | h
          · exact hf b h
          · exact Nat.le_trans (Nat.le_trans ht.size ta.size) h⟩
        case measure => simp [intOf]; omega
    · obtain rfl : k = ks.length := by omega
      have hV4 := hd.facts.1
      have h0V : 0 < V.length := by omega
      have hge := usedV_ge V 0 h0V
      obtain ⟨S, hS⟩ : ∃ S, S = (V[0]).1.length := ⟨_, rfl⟩
      rw [← hS] at hge
      have HS := Lib.hid hS; clear hS
      go_wp2_with fail
      refine (size_dkx w.heap.size fp V _ 0 h0V wr hd).mono ?_
      rintro e w2 ⟨rfl, rfl⟩
      rw [← HS.out]
      by_cases hbad : cut < 0 ∨ (S : Int) < cut
      · have hp := pCut_bad (V := V) (r := ⟨cap, -1, done, false⟩) (k := 0) (n := cut) rfl h0V hV4 (by rw [← HS.out]; exact hbad)
        have Hp := Lib.hid hp; clear hp
        rcases hbad with hb | hb
        all_goals
          try have hnb : ¬ cut < 0 := by omega
          go_wp2_with fail
          refine (cut_dkx w.heap.size fp V _ 0 cut wr hd (by show (done : Int) < _; omega) _ Hp.out).mono ?_
          rintro e w2 ⟨rfl, fp2, hd2, ht2, hf2⟩
          go_wp2_with fail
          refine (used_dk w.heap.size fp2 V _ w2 hd2).mono ?_
          rintro e w3 ⟨rfl, ht3⟩
          go_wp2_with fail
          refine (awake6_any w3).mono ?_
          rintro e w4 ⟨rfl, ht4⟩
          go_wp2_with fail
          go_ret
          exact ⟨rfl, ((ht.trans ht2 (fun b hb => .inr (hf b hb))).trans0 ht3).trans0 ht4⟩
      · obtain ⟨C, rfl⟩ : ∃ C : Nat, cut = C := ⟨cut.toNat, by omega⟩
        have hp := pCut_ok (V := V) (r := ⟨cap, -1, done, false⟩) (k := 0) (n := C) rfl rfl h0V hV4 (by rw [← HS.out]; omega)
        have hset := usedV_set V 0 h0V ((V[0]).1.take C, C)
        simp only [List.length_take, ← HS.out] at hset
        obtain ⟨V2, hV2⟩ : ∃ V2, V2 = V.set 0 ((V[0]).1.take C, C) := ⟨_, rfl⟩
        rw [← hV2] at hp hset
        have hV24 : V2.length = 4 := by rw [hV2]; simpa using hV4
        have h0V2 : 0 < V2.length := by omega
        have h1V2 : 1 < V2.length := by omega
        have hsf : (V2[0]).2 = C := by simp [hV2]
        have hu2 : ((usedV V2 : Nat) : Int) = (usedV V : Int) - S + C := by omega
        have hu3 : (usedV V2 : Int) ≤ cap := by omega
        clear hset hV2
        have Hp := Lib.hid hp; clear hp
        have Hu2 := Lib.hid hu2; clear hu2
        have Hsf := Lib.hid hsf; clear hsf
        have hnb : ¬ (C : Int) < 0 := by omega
        have hnc : ¬ (S : Int) < C := by omega
        clear hbad
        go_wp2_with fail
        refine (cut_dkx w.heap.size fp V _ 0 C wr hd (by show (done : Int) < _; omega) _ Hp.out).mono ?_
        rintro e w2 ⟨rfl, fp2, hd2, ht2, hf2⟩
        have T2 := ht.trans ht2 (fun b hb => .inr (hf b hb))
        have F2 : ∀ b ∈ fp2, w.heap.size ≤ b := fun b hb => by
          rcases hf2 b hb with h | h
          · exact hf b h
          · exact Nat.le_trans ht.size h
        go_wp2_with fail
        refine (used_dk w.heap.size fp2 V2 _ w2 hd2).mono ?_
        rintro e w3 ⟨rfl, ht3⟩
        rw [Hu2.out]
        have hd3 := hd2.step ht3 (by simp)
        go_wp2_with fail
        refine (safe_dkx w.heap.size fp2 V2 _ 0 h0V2 w3 hd3).mono ?_
        rintro e w4 ⟨rfl, rfl⟩
        rw [Hsf.out]
        go_wp2_with fail
        refine (used_dk w.heap.size fp2 V2 _ w3 hd3).mono ?_
        rintro e w4 ⟨rfl, ht4⟩
        have hd4 := hd3.step ht4 (by simp)
        obtain ⟨R, hR⟩ : ∃ R : Nat, cap - (usedV V2 : Int) = R := ⟨(cap - usedV V2).toNat, by omega⟩
        have hmk := run_makeB R (by omega)
        have hlenR : (List.replicate R (0 : UInt8)).length = R := List.length_replicate
        have ta := (Touch.refl [] w4).alloc (.cells (Array.replicate R (B 0)) 5)
        have hrd : RdB (w4.alloc (.cells (Array.replicate R (B 0)) 5)) (some ⟨w4.heap.size, 0, none⟩) (List.replicate R (0 : UInt8)) := RdB.new' w4 _ (0, 0) _ (by simp)
        have hset := usedV_set V2 1 h1V2 ((V2[1]).1 ++ List.replicate R 0, (V2[1]).2)
        simp only [List.length_append, List.length_replicate] at hset
        have hp := pApp_room (V := V2) (r := ⟨cap, -1, done + 1, false⟩) (k := 1) (b := List.replicate R (0 : UInt8)) rfl rfl h1V2 hV24 (by rw [hlenR]; show (R : Int) ≤ cap - _; omega)
        obtain ⟨V3, hV3⟩ : ∃ V3, V3 = V2.set 1 ((V2[1]).1 ++ List.replicate R 0, (V2[1]).2) := ⟨_, rfl⟩
        rw [← hV3] at hp hset
        have hfull : cap - (usedV V3 : Int) < (([1] : List UInt8).length : Int) := by simp; omega
        have hp2 := pApp_full (V := V3) (r := ⟨cap, -1, done + 1 + 1, false⟩) (k := 1) (b := [1]) rfl (by omega) hfull
        have hdone : (done : Int) + 1 + 1 < 1073741824 := by omega
        have hRl : R ≤ 2000 := by omega
        clear hset hV3
        have Hp := Lib.hid hp; clear hp
        have Hp2 := Lib.hid hp2; clear hp2
        have HlenR := Lib.hid hlenR; clear hlenR
        go_wp2_with fail
        refine (append_dkn w.heap.size fp2 V2 ⟨cap, -1, done + 1, false⟩ 1 (some ⟨w4.heap.size, 0, none⟩) R R (List.replicate R 0) HlenR.out _ (hd4.step ta (by simp)) hrd (by omega) (by show (done : Int) + 1 < _; omega) _ Hp.out).mono ?_
        rintro e w5 ⟨rfl, fp5, hd5, ht5, hf5⟩
        have T5 := (((T2.trans0 ht3).trans0 ht4).trans0 ta).trans ht5 (fun b hb => .inr (F2 b hb))
        have F5 : ∀ b ∈ fp5, w.heap.size ≤ b := fun b hb => by
          rcases hf5 b hb with h | h
          · exact F2 b h
          · exact Nat.le_trans ((((T2.trans0 ht3).trans0 ht4).trans0 ta).size) h
        have tb := (Touch.refl [] w5).alloc (.cells #[.int .u8 1] 5)
        have hd5' := hd5.step tb (by simp)
        have hrd5 := RdB.one' w5 1 (z := 1) rfl
        go_wp2_with fail
        refine (append_dkn w.heap.size fp5 V3 ⟨cap, -1, done + 1 + 1, false⟩ 1 (some ⟨w5.heap.size, 0, none⟩) 1 1 [1] rfl _ hd5' hrd5 (by omega) hdone _ Hp2.out).mono ?_
        rintro e w6 ⟨rfl, fp6, hd6, ht6, hf6⟩
        have T6 := (T5.trans0 tb).trans ht6 (fun b hb => .inr (F5 b hb))
        go_wp2_with fail
        refine (awake6_any w6).mono ?_
        rintro e w7 ⟨rfl, ht7⟩
        go_wp2_with fail
        go_ret
        exact ⟨rfl, T6.trans0 ht7⟩
end Go.Proofs.Ytgpadejkmpfafaa
