/- bywashref24.Drop: the walk. For every lists. -/
import Derived.Test.YthhjioeipjnjmaaPlayA
namespace Go.Proofs.Ythhjioeipjnjmaa
open Go.RowKit

theorem info_ref : (Try.prog.info? 65).map (fun i => (i.zero, i.size, i.bytes)) = some (some noIt, 4, 40) := by kernel_rfl
abbrev OwnR (w : World) (A : Option Addr) (c : Nat) (l : List QE) : Prop := OwnK 65 4 itE w A c l
theorem dropQ_snoc (L : List QE) (x : QE) (a : ByteArray) (i : Int) : dropQ (L ++ [x]) a i = if x.is a i then dropQ L a i else dropQ L a i ++ [x] := by
  unfold dropQ
  rw [List.filter_append]
  by_cases h : x.is a i
  · rw [if_pos h]; simp [h]
  · rw [if_neg h]; simp [h]
theorem dropQ_lt (L : List QE) (a : ByteArray) (i : Int) : decide ((dropQ L a i).length < L.length) = hasQ L a i := by
  unfold dropQ hasQ
  rw [Bool.eq_iff_iff, decide_eq_true_eq, List.any_eq_true]
  constructor
  · intro h
    rcases List.length_filter_lt_length_iff_exists.1 h with ⟨x, hx, h1⟩
    exact ⟨x, hx, by simpa using h1⟩
  · rintro ⟨x, hx, h1⟩
    exact List.length_filter_lt_length_iff_exists.2 ⟨x, hx, by simpa using h1⟩

set_option maxRecDepth 20000 in
set_option maxHeartbeats 3200000 in
theorem refDrop_any (A : Option Addr) (c n : Nat) (L : List QE) (hn : L.length = n) (hl : n ≤ 100000) (a : ByteArray) (i : Int) (w : World) (hr : RdK itE w A L) :
    Calls Try.prog 26 #[.slice A n c, .string a, .int .i64 i] w fun e w' => ∃ A' c', e = .returned (.tuple #[.slice A' (dropQ L a i).length c', .bool (hasQ L a i)]) ∧ OwnR w' A' c' (dropQ L a i) ∧ Touch [] w w' ∧ ∀ b ∈ fpo A', w.heap.size ≤ b := by
  subst hn
  have Hr := Lib.hid hr
  clear hr
  go_enter Try.func26, Try.ntmps26
  go_wp2_with fail
  go_loopw [8, 9] (fun o j wr => ∃ (k : Nat) (A8 : Option Addr) (c8 m : Nat), k ≤ L.length ∧ j = .int .i64 k ∧ o = .slice A8 m c8 ∧ Hid ((dropQ (L.take k) a i).length = m) ∧ OwnR wr A8 c8 (dropQ (L.take k) a i) ∧ Touch [] w wr ∧ (∀ b ∈ fpo A8, w.heap.size ≤ b) ∧ m ≤ k) (fun _ j _ => L.length - (intOf j).toNat)
  case atStart => exact ⟨0, none, 0, 0, by omega, rfl, rfl, Lib.hid rfl, OwnK.nil _ _ _ _, Touch.refl _ _, by simp [fpo], by omega⟩
  case round =>
    obtain ⟨k, A8, c8, m, hk, rfl, rfl, Hm, ho, ht, hf, hmk⟩ := hrel
    by_cases hlt : k < L.length
    · obtain ⟨ad, b, off, rfl, hadd, -, hcell⟩ := (Hr.out.touch0 ht).at_ 4 itE_length (by omega) k hlt
      have e0 := hcell 0 (.string L[k].asset) rfl
      have e1 := hcell 1 (.int .i64 L[k].index) rfl
      have e2 := hcell 2 (.int .i64 L[k].due) rfl
      have e3 := hcell 3 (.int .i64 L[k].rank) rfl
      rw [show off + 0 = off by omega] at e0
      have hds := dropQ_snoc (L.take k) L[k] a i
      rw [← List.take_succ_eq_append_getElem hlt] at hds
      obtain ⟨x, hx⟩ : ∃ x, x = L[k] := ⟨_, rfl⟩
      rw [← hx] at e0 e1 e2 e3 hds
      have hbb := bs_beq x.asset a
      have hkI : (k : Int) < (L.length : Int) := by omega
      by_cases hxa : x.asset = a
      · rw [decide_eq_true hxa] at hbb
        have hbb' : (!(x.asset.toList == a.toList)) = false := by rw [hbb]; rfl
        by_cases hxi : x.index = i
        · have hie : (x.index == i) = true := by rw [hxi]; simp
          have hie' : (x.index != i) = false := by rw [bne, hie]; rfl
          rw [if_pos ⟨hxa, hxi⟩] at hds
          have H := Lib.hid (And.intro ho (And.intro ht (And.intro hf hds)))
          clear ho ht hf hds hx hcell hxa hxi
          go_wp2_with fail
          go_roundw
          case rel =>
            obtain ⟨ho, ht, hf, hds⟩ := H.out
            exact ⟨k + 1, A8, c8, m, by omega, by go_num, rfl, by rw [hds]; exact Hm, by rw [hds]; exact ho, ht, hf, by omega⟩
          case measure => simp [intOf]; omega
        · have hie : (x.index == i) = false := by rw [beq_eq_false_iff_ne]; exact hxi
          have hie' : (x.index != i) = true := by rw [bne, hie]; rfl
          rw [if_neg (fun h => hxi h.2)] at hds
          clear hxa hxi
          have ta := (Touch.refl [] wr).alloc (.cells #[.string x.asset, .int .i64 x.index, .int .i64 x.due, .int .i64 x.rank] 65)
          have hr1 : RdK itE (wr.alloc (.cells #[.string x.asset, .int .i64 x.index, .int .i64 x.due, .int .i64 x.rank] 65)) (some ⟨wr.heap.size, 0, none⟩) [x] := RdK.one _ _ x _ rfl
          have H := Lib.hid (And.intro (ho.touch0 ta) (And.intro ht (And.intro hf (And.intro hds (And.intro hr1 ta)))))
          clear ho ht hf hds hx hcell hr1 ta
          go_wp2_with (at_builtin; refine stop ?_)
          refine go ?_
          refine wpList_appK rfl (.tmp 32) (.tmp 37) 41 rfl 65 noIt 4 40 info_ref Try.underlying41 rfl (by omega) itE_length itE_one A8 m c8 (dropQ (L.take k) a i) Hm.out rfl H.out.1 (some ⟨wr.heap.size, 0, none⟩) 1 1 [x] rfl rfl H.out.2.2.2.2.1 (by omega) (by omega) ?_
          intro A5 c5 w5 ho5 t5 hf5
          have H6 := Lib.hid (And.intro ho5 (And.intro t5 hf5))
          clear ho5 t5 hf5
          go_wp2_with fail
          go_roundw
          case rel =>
            obtain ⟨ho, ht, hf, hds, hr1, ta⟩ := H.out
            obtain ⟨ho5, t5, hf5⟩ := H6.out
            refine ⟨k + 1, A5, c5, m + 1, by omega, by go_num, rfl, Lib.hid (by rw [hds, List.length_append, Hm.out]; rfl), by rw [hds]; exact ho5, (ht.trans0 ta).trans t5 (fun b hb => .inr (hf b hb)), fun b hb => ?_, by omega⟩
            rcases hf5 b hb with h1 | h1
            · exact hf b h1
            · have := ht.size
              rw [World.size_alloc] at h1; omega
          case measure => simp [intOf]; omega
      · rw [decide_eq_false hxa] at hbb
        have hbb' : (!(x.asset.toList == a.toList)) = true := by rw [hbb]; rfl
        rw [if_neg (fun h => hxa h.1)] at hds
        clear hxa
        have ta := (Touch.refl [] wr).alloc (.cells #[.string x.asset, .int .i64 x.index, .int .i64 x.due, .int .i64 x.rank] 65)
        have hr1 : RdK itE (wr.alloc (.cells #[.string x.asset, .int .i64 x.index, .int .i64 x.due, .int .i64 x.rank] 65)) (some ⟨wr.heap.size, 0, none⟩) [x] := RdK.one _ _ x _ rfl
        have H := Lib.hid (And.intro (ho.touch0 ta) (And.intro ht (And.intro hf (And.intro hds (And.intro hr1 ta)))))
        clear ho ht hf hds hx hcell hr1 ta
        go_wp2_with (at_builtin; refine stop ?_)
        refine go ?_
        refine wpList_appK rfl (.tmp 32) (.tmp 37) 41 rfl 65 noIt 4 40 info_ref Try.underlying41 rfl (by omega) itE_length itE_one A8 m c8 (dropQ (L.take k) a i) Hm.out rfl H.out.1 (some ⟨wr.heap.size, 0, none⟩) 1 1 [x] rfl rfl H.out.2.2.2.2.1 (by omega) (by omega) ?_
        intro A5 c5 w5 ho5 t5 hf5
        have H6 := Lib.hid (And.intro ho5 (And.intro t5 hf5))
        clear ho5 t5 hf5
        go_wp2_with fail
        go_roundw
        case rel =>
          obtain ⟨ho, ht, hf, hds, hr1, ta⟩ := H.out
          obtain ⟨ho5, t5, hf5⟩ := H6.out
          refine ⟨k + 1, A5, c5, m + 1, by omega, by go_num, rfl, Lib.hid (by rw [hds, List.length_append, Hm.out]; rfl), by rw [hds]; exact ho5, (ht.trans0 ta).trans t5 (fun b hb => .inr (hf b hb)), fun b hb => ?_, by omega⟩
          rcases hf5 b hb with h1 | h1
          · exact hf b h1
          · have := ht.size
            rw [World.size_alloc] at h1; omega
        case measure => simp [intOf]; omega
    · obtain rfl : k = L.length := by omega
      rw [List.take_length] at ho Hm
      have hfin := dropQ_lt L a i
      rw [Hm.out] at hfin
      have H := Lib.hid (And.intro ho (And.intro ht (And.intro hf hfin)))
      clear ho ht hf hfin
      go_wp2_with fail
      go_ret2
      obtain ⟨ho, ht, hf, hfin⟩ := H.out
      exact ⟨A8, c8, by rw [Hm.out, ← hfin]; rfl, ho, ht, hf⟩
end Go.Proofs.Ythhjioeipjnjmaa
