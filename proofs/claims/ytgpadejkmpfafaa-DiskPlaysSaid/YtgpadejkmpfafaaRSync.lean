/- bywashref06.Disk.Sync, Cut: the walks. -/
import Derived.Test.YtgpadejkmpfafaaRMore
import Derived.Outline
namespace Go.Proofs.Ytgpadejkmpfafaa
open Go.RowKit

set_option maxHeartbeats 800000 in
theorem rsync_bad (g : Nat) (down : Bool) (n : Int) (w : World) (c12 : w.cell? ⟨g, 12, none⟩ = some (.bool down)) (hck : checkI down n ≠ 0) :
    Calls Try.prog 39 #[.pointer (some ⟨g, 0, none⟩), .int .i64 n] w fun e w' => e = .returned (.int .i64 (checkI down n)) ∧ w = w' := by
  have hne : (checkI down n == 0) = false := by rw [beq_eq_false_iff_ne]; exact hck
  have hne2 : (checkI down n != 0) = true := by rw [bne_iff_ne]; exact hck
  obtain ⟨q, hq⟩ : ∃ q, q = checkI down n := ⟨_, rfl⟩
  rw [← hq] at hne hne2 hck ⊢
  have Hq := Lib.hid hq; clear hq
  go_enter Try.func39, Try.ntmps39
  go_wp2_with (go_at_call 47; refine (rwrong_any g down _ _ c12).mono ?_; rintro e w' ⟨rfl, rfl⟩; rw [← Hq.out])
  go_ret
  exact ⟨rfl, rfl⟩

theorem rcmdE_cases (r : RR) : rcmdE r = 0 ∨ rcmdE r = 40 := by unfold rcmdE; split <;> simp

set_option maxRecDepth 20000 in
set_option maxHeartbeats 1600000 in
theorem rsync_ok (g : Nat) (fp : List Nat) (V : RFl) (r : RR) (n : Nat) (w : World) (hd : RdAt w g fp V r) (hok : r.ok) (hn : n < V.length) (hdn : r.down = false) (hbl : ∀ i, (h : i < V.length) → (V[i]).2.length ≤ 1073741824) :
    Calls Try.prog 39 #[.pointer (some ⟨g, 0, none⟩), .int .i64 n] w fun e w' => e = .returned (.int .i64 (rcmdE r)) ∧
      RdStep g fp (if rcmdE r = 0 then V.set n ((V[n]).1, List.replicate (V[n]).2.length true) else V) (rcmdR r) w w' := by
  have h4 := hd.len
  obtain ⟨c8, c9, c10, c11, c12⟩ := hd.cells
  have hck : checkI r.down n = 0 := by simp only [checkI, hdn]; simp; omega
  have hn4 : (n : Int) < 4 := by omega
  have hn0 : (0 : Int) ≤ n := by omega
  have hbn := hbl n hn
  have hcmd := rcommand_rd g fp V r w hd hok
  rcases rcmdE_cases r with he | he
  · rw [if_pos he]
    rw [he] at hcmd ⊢
    obtain ⟨l, hl⟩ : ∃ l, l = (V[n]).1 := ⟨_, rfl⟩
    obtain ⟨bs, hbs⟩ : ∃ bs, bs = (V[n]).2 := ⟨_, rfl⟩
    rw [← hl]
    rw [← hbs] at hbn ⊢
    have hset : V.set n (l, List.replicate 0 true ++ bs.drop 0) = V := by
      rw [hl, hbs]; simp only [List.drop_zero, List.replicate_zero, List.nil_append]; exact List.set_getElem_self hn
    have Hset := Lib.hid hset
    clear hset hl hbs he c8 c9 c10 c11
    go_enter Try.func39, Try.ntmps39
    go_wp2_with (go_at_call 47; refine (rwrong_any g r.down _ _ c12).mono ?_; rintro e w' ⟨rfl, rfl⟩; rw [hck])
    refine hcmd.mono ?_
    rintro e w1 ⟨rfl, hs1, _⟩
    go_wp2_with fail
    go_loopw [7] (fun i wr => ∃ k : Nat, k ≤ bs.length ∧ i = .int .i64 k ∧ RdStep g fp (V.set n (l, List.replicate k true ++ bs.drop k)) (rcmdR r) w wr) (fun i _ => bs.length - (intOf i).toNat)
    case atStart => exact ⟨0, by omega, rfl, by rw [Hset.out]; exact hs1⟩
    case round =>
      obtain ⟨k, hk, rfl, ⟨fp1, hd1, T1, hf1⟩⟩ := hrel
      obtain ⟨V1, hV1⟩ : ∃ V1, V1 = V.set n (l, List.replicate k true ++ bs.drop k) := ⟨_, rfl⟩
      have hn1 : n < V1.length := by rw [hV1]; simpa using hn
      have hVn : V1[n] = (l, List.replicate k true ++ bs.drop k) := by simp [hV1]
      rw [← hV1] at hd1
      obtain ⟨A1, c1, B1, d1, ⟨cb, ob, cs, os, fa, fb, putB, putS⟩⟩ := hd1.file n hn1
      have hpoke := fun G (e : B1 = some ⟨G, 0, none⟩) => hd1.pokeS n hn1 (G := G) (d := d1) (by rw [cs, e]) k true
      have hlen : (V1[n]).2.length = bs.length := by rw [hVn]; simp; omega
      rw [hlen] at cs
      by_cases hlt : k < bs.length
      · have hrd := os.rd
        obtain ⟨ad, e, hcell⟩ := hrd.at_ k (by rw [hlen]; exact hlt)
        obtain ⟨G, hG⟩ : ∃ G, B1 = some ⟨G, 0, none⟩ := by
          rcases os.2 with ⟨hv, h0⟩ | ⟨G, cap, cur, hv, _⟩
          · rw [hlen] at h0; omega
          · injection hv with hA _ _; exact ⟨G, hA⟩
        subst hG
        obtain rfl : ad = ⟨G, 0, none⟩ := by injection e with e; exact e.symm
        have hadd : (⟨G, 0, none⟩ : Addr).add k = ⟨G, k, none⟩ := by unfold Addr.add; split <;> simp_all
        rw [hadd] at hcell
        replace hcell : ∃ y, wr.cell? ⟨G, k, none⟩ = some (.bool y) := ⟨_, hcell⟩
        obtain ⟨y, hcell⟩ := hcell
        obtain ⟨hp1, hp2, hp3⟩ := hpoke G rfl
        have hVV : V1.set n ((V1[n]).1, (V1[n]).2.set k true) = V.set n (l, List.replicate (k + 1) true ++ bs.drop (k + 1)) := by
          rw [hVn, hV1, List.set_set]
          congr 2
          apply List.ext_getElem?
          intro i
          simp only [List.getElem?_set, List.getElem?_append, List.length_replicate, List.getElem?_replicate, List.getElem?_drop, List.length_append, List.length_drop]
          by_cases h1 : k = i
          · subst h1
            rw [if_pos rfl, if_pos (by omega), if_pos (by omega), if_pos (by omega)]
          · rw [if_neg h1]
            by_cases h2 : i < k
            · rw [if_pos h2, if_pos h2, if_pos (by omega), if_pos (by omega)]
            · rw [if_neg h2, if_neg (by omega)]
              congr 1; omega
        rw [hVV] at hp1
        have Hst := Lib.hid (RdStep.trans T1 hf1 hp1)
        have hkI0 : (0 : Int) ≤ (k : Int) := by omega
        clear hVV hp1 hpoke hVn hV1 hrd hlen putB putS hadd e
        go_wp2_with fail
        go_roundw
        case rel => exact ⟨k + 1, by omega, by go_num, Hst.out⟩
        case measure => simp [intOf]; omega
      · obtain rfl : k = bs.length := by omega
        have hfin : V1 = V.set n (l, List.replicate bs.length true) := by rw [hV1, List.drop_length, List.append_nil]
        rw [hfin] at hd1
        have Hst := Lib.hid (show RdStep g fp (V.set n (l, List.replicate bs.length true)) (rcmdR r) w wr from ⟨fp1, hd1, T1, hf1⟩)
        clear hfin hpoke hVn hV1 hlen putB putS
        go_wp2
        go_ret
        exact ⟨rfl, Hst.out⟩
  · rw [if_neg (by rw [he]; decide)]
    rw [he] at hcmd ⊢
    go_enter Try.func39, Try.ntmps39
    go_wp2_with (go_at_call 47; refine (rwrong_any g r.down _ _ c12).mono ?_; rintro e w' ⟨rfl, rfl⟩; rw [hck])
    refine hcmd.mono ?_
    rintro e w1 ⟨rfl, hs1, _⟩
    go_wp2_with fail
    refine wp_loop_rounds 1 ?_
    rw [rounds_succ]
    go_wp2
    go_ret
    exact ⟨rfl, hs1⟩

set_option maxHeartbeats 800000 in
theorem rcut_bad (g : Nat) (down : Bool) (n size : Int) (w : World) (c12 : w.cell? ⟨g, 12, none⟩ = some (.bool down)) (hck : checkI down n ≠ 0) :
    Calls Try.prog 40 #[.pointer (some ⟨g, 0, none⟩), .int .i64 n, .int .i64 size] w fun e w' => e = .returned (.int .i64 (checkI down n)) ∧ w = w' := by
  have hne : (checkI down n == 0) = false := by rw [beq_eq_false_iff_ne]; exact hck
  have hne2 : (checkI down n != 0) = true := by rw [bne_iff_ne]; exact hck
  obtain ⟨q, hq⟩ : ∃ q, q = checkI down n := ⟨_, rfl⟩
  rw [← hq] at hne hne2 hck ⊢
  have Hq := Lib.hid hq; clear hq
  go_enter Try.func40, Try.ntmps40
  go_wp2_with (go_at_call 47; refine (rwrong_any g down _ _ c12).mono ?_; rintro e w' ⟨rfl, rfl⟩; rw [← Hq.out])
  go_ret
  exact ⟨rfl, rfl⟩

set_option maxHeartbeats 800000 in
theorem rcut_range (g : Nat) (fp : List Nat) (V : RFl) (r : RR) (n : Nat) (size : Int) (w : World) (hd : RdAt w g fp V r) (hn : n < V.length) (hdn : r.down = false) (hs : size < 0 ∨ ((V[n]).1.length : Int) < size) :
    Calls Try.prog 40 #[.pointer (some ⟨g, 0, none⟩), .int .i64 n, .int .i64 size] w fun e w' => e = .returned (.int .i64 30) ∧ w = w' := by
  have h4 := hd.len
  obtain ⟨c8, c9, c10, c11, c12⟩ := hd.cells
  have hck : checkI r.down n = 0 := by simp only [checkI, hdn]; simp; omega
  have hn4 : (n : Int) < 4 := by omega
  have hn0 : (0 : Int) ≤ n := by omega
  obtain ⟨A1, c1, B1, d1, ⟨cb, ob, cs, os, fa, fb, putB, putS⟩⟩ := hd.file n hn
  obtain ⟨m, hm⟩ : ∃ m, m = (V[n]).1.length := ⟨_, rfl⟩
  rw [← hm] at cb hs
  clear hm putB putS cs os ob
  rcases (show size < 0 ∨ (0 ≤ size ∧ (m : Int) < size) by omega) with h0 | ⟨h0, h1⟩
  all_goals
    clear hs
    go_enter Try.func40, Try.ntmps40
    go_wp2_with (go_at_call 47; refine (rwrong_any g r.down _ _ c12).mono ?_; rintro e w' ⟨rfl, rfl⟩; rw [hck])
    go_ret
    exact ⟨rfl, rfl⟩
end Go.Proofs.Ytgpadejkmpfafaa
