/- bywashref10.split: the walk. For every text of at most some thousand bytes. -/
import Derived.Test.YtoabloeechphkaaDoorCronRNum
namespace Go.Proofs.YtoabloeechphkaaDoor
open Go.RowKit Go.Shelf

theorem S_app (a b : List UInt8) : S a ++ S b = S (a ++ b) := by
  apply ByteArray.ext
  simp [S, ByteArray.data_append]
theorem flat_set {α β : Type} (enc : α → List β) (k : Nat) (hk : ∀ x, (enc x).length = k) (v : β) (o : Nat) (ho : o < k) : ∀ (xs : List α) (i : Nat) (hi : i < xs.length) (y : α), enc y = (enc xs[i]).set o v → (xs.set i y).flatMap enc = (xs.flatMap enc).set (i * k + o) v
  | [], i => fun hi => absurd hi (by simp)
  | x :: xs, 0 => fun _ y hy => by
    rw [List.set_cons_zero, List.flatMap_cons, List.flatMap_cons, hy, List.getElem_cons_zero, Nat.zero_mul, Nat.zero_add, List.set_append_left _ _ (by rw [hk]; exact ho)]
  | x :: xs, i + 1 => fun hi y hy => by
    have ih := flat_set enc k hk v o ho xs i (by simpa using hi) y (by simpa using hy)
    have e1 : (i + 1) * k + o = k + (i * k + o) := by rw [Nat.add_mul]; omega
    rw [List.set_cons_succ, List.flatMap_cons, List.flatMap_cons, ih, List.set_append_right _ _ (by rw [hk, e1]; omega), hk, e1, Nat.add_sub_cancel_left]
theorem OwnK.set {α : Type} {t k : Nat} {enc : α → List Value} {w : World} {G c : Nat} {xs : List α} (h : OwnK t k enc w (some ⟨G, 0, none⟩) c xs) (hk : ∀ x, (enc x).length = k) (i : Nat) (hi : i < xs.length) (o : Nat) (ho : o < k) (v : Value) (y : α)
    (hy : enc y = (enc xs[i]).set o v) : OwnK t k enc (w.setCell ⟨G, i * k + o, none⟩ v) (some ⟨G, 0, none⟩) c (xs.set i y) := by
  have := (World.ownsRow.stored h (i * k + o) v).1
  unfold OwnK
  rw [List.length_set, flat_set enc k hk v o ho xs i hi y hy]
  exact this
theorem OwnT.one (w : World) (x : List UInt8) (cs : Array Value) (hc : cs = #[.string (S x)]) : OwnK 9 1 encT (w.alloc (.cells cs 9)) (some ⟨w.heap.size, 0, none⟩) 1 [x] := by
  subst hc
  exact ⟨by simp [encT], .inr ⟨w.heap.size, 1, #[.string (S x)], rfl, Nat.zero_le _, heap_alloc_new w _, Nat.le_refl _, (by decide), by simp, by simp [encT]⟩⟩
theorem spl_snoc_b (b : UInt8) (s : List UInt8) : spl b (s ++ [b]) = spl b s ++ [[]] := by
  unfold spl; rw [splA_snoc]; unfold splStep; rw [if_pos rfl]
theorem spl_snoc_c (b : UInt8) (s : List UInt8) (c : UInt8) (h : ¬ c = b) : spl b (s ++ [c]) = (spl b s).set (splA b s).1.length ((splA b s).2 ++ [c]) := by
  unfold spl; rw [splA_snoc]; unfold splStep; rw [if_neg h]; simp
theorem spl_len (b : UInt8) (s : List UInt8) : (spl b s).length = (splA b s).1.length + 1 := by simp [spl]
theorem spl_last (b : UInt8) (s : List UInt8) (h : (splA b s).1.length < (spl b s).length) : (spl b s)[(splA b s).1.length] = (splA b s).2 := by simp [spl]
theorem splA_len (b : UInt8) : ∀ (s : List UInt8), (splA b s).1.length ≤ s.length ∧ (splA b s).2.length ≤ s.length := fun s => by
  have gen : ∀ (r : List UInt8) (p : List (List UInt8) × List UInt8), (r.foldl (splStep b) p).1.length ≤ p.1.length + r.length ∧ (r.foldl (splStep b) p).2.length ≤ p.2.length + r.length := fun r => by
    induction r with
    | nil => intro p; simp
    | cons c r ih =>
      intro p
      have := ih (splStep b p c)
      rw [List.foldl_cons, List.length_cons]
      unfold splStep at this ⊢
      split at this
      · rename_i h; rw [if_pos h]; simp at this ⊢; omega
      · rename_i h; rw [if_neg h]; simp at this ⊢; omega
  have := gen s ([], [])
  simpa [splA] using this

set_option maxRecDepth 100000 in
set_option maxHeartbeats 6400000 in
theorem rsplit_any (s : List UInt8) (hs : s.length ≤ 100000) (b : UInt8) (w : World) :
    Calls Tryd.prog 26 #[.string (S s), .int .u8 b.toNat] w fun e w' => ∃ A c, e = .returned (.slice A (splitV s [b]).length c) ∧ OwnK 9 1 encT w' A c (splitV s [b]) ∧ (∀ k ∈ fpo A, w.heap.size ≤ k) ∧ Touch [] w w' := by
  have hsz := S_size s
  have hown0 := OwnT.one w [] #[.string ⟨#[]⟩] rfl
  have t0 := (Touch.refl [] w).alloc (.cells #[.string ⟨#[]⟩] 9)
  obtain ⟨W0, hW0⟩ : ∃ W0, W0 = w.alloc (.cells #[.string ⟨#[]⟩] 9) := ⟨_, rfl⟩
  have hW0s : W0.heap.size = w.heap.size + 1 := by rw [hW0]; simp
  rw [← hW0] at hown0 t0
  have HW := Lib.hid hW0; have HO := Lib.hid hown0; have HWs := Lib.hid hW0s
  have hsp := spl_split b s
  have Hsp := Lib.hid hsp
  have Hlen := Lib.hid (splA_len b)
  clear hW0 hown0 hW0s hsp
  have hbl := b.toNat_lt
  go_enter Tryd.func26, Tryd.ntmps26
  go_wp2_with (with_reducible rw [← HW.out])
  go_loopw [5, 6] (fun o i wr => ∃ (k : Nat) (G c n : Nat), k ≤ s.length ∧ i = .int .i64 k ∧ o = .slice (some ⟨G, 0, none⟩) n c ∧ Hid (n = (spl b (s.take k)).length) ∧ w.heap.size ≤ G ∧ Hid (OwnK 9 1 encT wr (some ⟨G, 0, none⟩) c (spl b (s.take k))) ∧ Touch [] w wr) (fun _ i _ => s.length - (intOf i).toNat)
  case atStart => exact ⟨0, w.heap.size, 1, 1, by omega, rfl, rfl, Lib.hid rfl, Nat.le_refl _, Lib.hid HO.out, t0⟩
  case round =>
    obtain ⟨k, G, c, n, hk, rfl, rfl, hn, hG, hown, ht⟩ := hrel
    by_cases hlt : k < s.length
    · have hg := S_at s k (by rw [hsz]; exact hlt)
      have htk := List.take_succ_eq_append_getElem hlt
      obtain ⟨h1, h2⟩ := Hlen.out (s.take k)
      rw [List.length_take, Nat.min_eq_left (by omega)] at h1 h2
      have hsl := spl_len b (s.take k)
      obtain ⟨x, hx⟩ : ∃ x, x = s[k] := ⟨_, rfl⟩
      rw [← hx] at hg htk
      have hxl := x.toNat_lt
      have Hx := Lib.hid hx
      have n0 := hn.out
      obtain ⟨L, hL⟩ : ∃ L, L = (splA b (s.take k)).1.length := ⟨_, rfl⟩
      obtain ⟨la, hla⟩ : ∃ la, la = (splA b (s.take k)).2 := ⟨_, rfl⟩
      have hlast := spl_last b (s.take k) (by omega)
      have hsnb := spl_snoc_b b (s.take k)
      have hsnc := spl_snoc_c b (s.take k) x
      rw [← hL, ← hla] at hsnc
      have hlast' : ∀ (h : L < (spl b (s.take k)).length), (spl b (s.take k))[L] = la := fun h => by
        have := hlast
        simp only [← hL, ← hla] at this
        exact this
      rw [← hL] at h1 hsl
      rw [← hla] at h2
      have Htk := Lib.hid htk; have Hsnb := Lib.hid hsnb; have Hsnc := Lib.hid hsnc; have Hlast := Lib.hid hlast'; have Hsl := Lib.hid hsl
      obtain rfl : n = L + 1 := by omega
      clear hx htk hsl hL hla hlast hlast' hsnb hsnc n0
      by_cases hxb : x = b
      · have ta := (Touch.refl [] wr).alloc (.cells #[.string ⟨#[]⟩] 9)
        have hownV := hown.out.touch0 ta
        have hrdV := RdK.one (enc := encT) wr 9 [] #[.string ⟨#[]⟩] rfl
        have Hown := Lib.hid hownV; have Hrd := Lib.hid hrdV
        subst hxb
        clear hownV hrdV
        go_wp2_with (at_builtin; refine wpList_appK rfl (.tmp 19) (.tmp 20) 55 rfl 9 (.string ByteArray.empty) 1 16 info_strT Tryd.underlying55 rfl (by omega) encT_len encT_one (some ⟨G, 0, none⟩) (L + 1) c (spl x (s.take k)) hn.out.symm rfl Hown.out (some ⟨wr.heap.size, 0, none⟩) 1 1 [[]] rfl rfl Hrd.out (by omega) (by omega) ?_; refine stop ?_)
        refine go ?_
        intro A3 c3 w3 hown3 ht3 hf3
        have tt : Touch [] w w3 := (ht.trans0 ta).trans ht3 (fun b hb => .inr (by simp [fpo] at hb; omega))
        have hsz2 := (ht.trans0 ta).size
        rcases hown3.head with ⟨-, h0, -⟩ | ⟨g3, rfl⟩
        · simp at h0
        have hg3 : w.heap.size ≤ g3 := by
          rcases hf3 g3 (by simp [fpo]) with e | e
          · simp [fpo] at e; omega
          · have := ht.size; omega
        go_wp2_with fail
        go_roundw
        case rel => exact ⟨k + 1, g3, c3, L + 1 + 1, by omega, by go_num, by first | rfl | go_num, Lib.hid (by rw [Htk.out, Hsnb.out, List.length_append, ← hn.out]; rfl), hg3, Lib.hid (by rw [Htk.out, Hsnb.out]; exact hown3), tt⟩
        case measure => simp [intOf]; omega
      · have hne : ((x.toNat : Int) = b.toNat) = False := eq_false (fun e => hxb (by
          apply UInt8.toNat_inj.1; omega))
        have hne2 : ((x.toNat : Int) == b.toNat) = false := by rw [beq_eq_false_iff_ne]; exact fun e => hxb (by
          apply UInt8.toNat_inj.1; omega)
        have hLs : L < (spl b (s.take k)).length := by have := Hsl.out; omega
        have hown' := hown.out
        have hcellL := World.ownsRow.cells hown' (g := G) rfl L (.string (S la)) (by
          have := flat_get encT 1 encT_len (spl b (s.take k)) L 0 hLs (by omega)
          rw [Nat.mul_one, Nat.add_zero] at this
          rw [this, Hlast.out hLs]; rfl)
        have e1 : (⟨G, 0, none⟩ : Addr).add L = ⟨G, L, none⟩ := by unfold Addr.add; split <;> simp_all
        rw [e1] at hcellL
        obtain ⟨cur, hblk⟩ := hown'.cells G (by simp [fpo])
        have zL := frozen_blk hblk L
        have hcut : ∀ w', (Instr.slice 9 (.string (S s)) (some (.int .i64 (k : Nat))) (some (.int .i64 ((k : Int) + 1))) none).run Tryd.prog w' = .ok (.string (S [x])) w' := fun w' => by
          rw [run_slice_string (P := Tryd.prog) w' 9 (S s) .i64 .i64 (k : Int) ((k : Int) + 1) Tryd.underlying9 (by omega) (by omega) (by rw [S_size]; omega), Int.toNat_natCast, show ((k : Int) + 1).toNat = k + 1 by omega, S_ext2, List.take_succ_eq_append_getElem hlt, List.drop_append_of_le_length (by rw [List.length_take]; omega), List.drop_of_length_le (by rw [List.length_take]; omega), ← Hx.out]; rfl
        have y1 : S la ++ S [x] = S (la ++ [x]) := S_app _ _
        have y2 : (S la ++ S [x]).size ≤ 1000000 := by rw [y1, S_size]; simp; omega
        have y3 : (S la).size + (S [x]).size ≤ 1000000 := by rw [S_size, S_size]; simp; omega
        have hset := hown'.set encT_len L hLs 0 (by omega) (.string (S (la ++ [x]))) (la ++ [x]) (by rw [Hlast.out hLs]; rfl)
        rw [Nat.mul_one, Nat.add_zero] at hset
        have Hset := Lib.hid hset
        have Hn2 := Lib.hid (hn.out)
        have i0 : (0 : Int) ≤ (L : Int) := by omega
        have hS2 : Hid True := Lib.hid trivial
        have e2 : (L : Int) + 1 - 1 = L := by omega
        have iL : ((L : Int) < (L : Int) + 1) = True := eq_true (by omega)
        have wL : IntKind.i64.wrap (L : Int) = L := IntWalk.i64_in _ (by omega)
        have wk : IntKind.i64.wrap ((k : Int) + 1) = (k : Int) + 1 := IntWalk.i64_in _ (by omega)
        clear hset hown' hblk
        go_wp2_with fail
        refine (wpIn_wide (n := 1)).1 (wpIn_mono (Q := Q1 _) (wpIn_wide.2 ?_) (fun e a w h => by obtain ⟨rfl, h⟩ := h; exact h))
        refine wp_region_held_drew (S := fun _ => True) (by kernel_rfl) trivial (fun _ => ?_)
        refine take_d (i := 0) (d := 22) (v := ?_) rfl rfl (by kernel_rfl) (by kernel_rfl) (by kernel_rfl) (fun _ _ _ h => q1_panic _ _ _ _ _ h) (Or.inl ⟨by rfl, ?_⟩) trivial ?_
        rotate_left
        · intro w hSw; (try dsimp only at hSw); go_simp; (try with_reducible rfl)
        try simp only [Act.put, List.setIfInBounds_toArray, List.set_cons_zero, List.set_cons_succ]
        refine take_d (i := 1) (d := 23) (v := ?_) rfl rfl (by kernel_rfl) (by kernel_rfl) (by kernel_rfl) (fun _ _ _ h => q1_panic _ _ _ _ _ h) (Or.inl ⟨by rfl, ?_⟩) trivial ?_
        rotate_left
        · intro w hSw; (try dsimp only at hSw); go_simp; (try with_reducible rfl)
        try simp only [Act.put, List.setIfInBounds_toArray, List.set_cons_zero, List.set_cons_succ]
        refine take_d (i := 2) (d := 24) (v := ?_) rfl rfl (by kernel_rfl) (by kernel_rfl) (by kernel_rfl) (fun _ _ _ h => q1_panic _ _ _ _ _ h) (Or.inl ⟨by rfl, ?_⟩) trivial ?_
        rotate_left
        · intro w hSw; (try dsimp only at hSw); go_simp; (try with_reducible rfl)
        try simp only [Act.put, List.setIfInBounds_toArray, List.set_cons_zero, List.set_cons_succ]
        refine take_d (i := 3) (d := 25) (v := ?_) rfl rfl (by kernel_rfl) (by kernel_rfl) (by kernel_rfl) (fun _ _ _ h => q1_panic _ _ _ _ _ h) (Or.inl ⟨by rfl, ?_⟩) trivial ?_
        rotate_left
        · intro w hSw; (try dsimp only at hSw); go_simp; (try with_reducible rfl)
        try simp only [Act.put, List.setIfInBounds_toArray, List.set_cons_zero, List.set_cons_succ]
        refine take_d (i := 4) (d := 26) (v := ?_) rfl rfl (by kernel_rfl) (by kernel_rfl) (by kernel_rfl) (fun _ _ _ h => q1_panic _ _ _ _ _ h) (Or.inl ⟨by rfl, ?_⟩) trivial ?_
        rotate_left
        · intro w hSw; (try dsimp only at hSw); go_simp; (try with_reducible rfl)
        try simp only [Act.put, List.setIfInBounds_toArray, List.set_cons_zero, List.set_cons_succ]
        refine take_d (i := 6) (d := 28) (v := ?_) rfl rfl (by kernel_rfl) (by kernel_rfl) (by kernel_rfl) (fun _ _ _ h => q1_panic _ _ _ _ _ h) (Or.inl ⟨by rfl, ?_⟩) trivial ?_
        rotate_left
        · intro w hSw; (try dsimp only at hSw); go_simp; (try with_reducible rfl)
        try simp only [Act.put, List.setIfInBounds_toArray, List.set_cons_zero, List.set_cons_succ]
        refine take_d (i := 7) (d := 29) (v := ?_) rfl rfl (by kernel_rfl) (by kernel_rfl) (by kernel_rfl) (fun _ _ _ h => q1_panic _ _ _ _ _ h) (Or.inl ⟨by rfl, ?_⟩) trivial ?_
        rotate_left
        · intro w hSw; (try dsimp only at hSw); go_simp; (try with_reducible rfl)
        try simp only [Act.put, List.setIfInBounds_toArray, List.set_cons_zero, List.set_cons_succ]
        refine take_d (i := 8) (d := 30) (v := ?_) rfl rfl (by kernel_rfl) (by kernel_rfl) (by kernel_rfl) (fun _ _ _ h => q1_panic _ _ _ _ _ h) (Or.inl ⟨by rfl, ?_⟩) trivial ?_
        rotate_left
        · intro w hSw; (try dsimp only at hSw); go_simp; (try with_reducible rfl)
        try simp only [Act.put, List.setIfInBounds_toArray, List.set_cons_zero, List.set_cons_succ]
        refine take_d (i := 9) (d := 31) (v := ?_) rfl rfl (by kernel_rfl) (by kernel_rfl) (by kernel_rfl) (fun _ _ _ h => q1_panic _ _ _ _ _ h) (Or.inl ⟨by rfl, ?_⟩) trivial ?_
        rotate_left
        · intro w hSw; (try dsimp only at hSw); go_simp; (try with_reducible rfl)
        try simp only [Act.put, List.setIfInBounds_toArray, List.set_cons_zero, List.set_cons_succ]
        refine take_d (i := 10) (d := 32) (v := ?_) rfl rfl (by kernel_rfl) (by kernel_rfl) (by kernel_rfl) (fun _ _ _ h => q1_panic _ _ _ _ _ h) (Or.inl ⟨by rfl, ?_⟩) trivial ?_
        rotate_left
        · intro w hSw; (try dsimp only at hSw); go_simp; (try with_reducible rfl)
        try simp only [Act.put, List.setIfInBounds_toArray, List.set_cons_zero, List.set_cons_succ]
        refine wpAnyH_ready (rs := [5]) (by kernel_rfl) (by simp) ?_
        refine AllReadyH.cons rfl (fun K hK => ?_) AllReadyH.nil
        go_simp
        (try go_wp2_with fail)
        refine hK.out _ _ trivial (fun _ => ?_)
        clear hK K
        try simp only [Act.put, List.setIfInBounds_toArray, List.set_cons_zero, List.set_cons_succ]
        refine wpAnyH_ready (rs := [11]) (by kernel_rfl) (by simp) ?_
        refine AllReadyH.cons rfl (fun K hK => ?_) AllReadyH.nil
        go_simp
        (try go_wp2_with fail)
        refine hK.out _ _ trivial (fun _ => ?_)
        clear hK K
        try simp only [Act.put, List.setIfInBounds_toArray, List.set_cons_zero, List.set_cons_succ]
        refine wpAnyH_ready (rs := [12]) (by kernel_rfl) (by simp) ?_
        refine AllReadyH.cons rfl (fun K hK => ?_) AllReadyH.nil
        go_simp
        (try go_wp2_with fail)
        refine hK.out _ _ trivial (fun _ => ?_)
        clear hK K
        try simp only [Act.put, List.setIfInBounds_toArray, List.set_cons_zero, List.set_cons_succ]
        refine wpAnyH_ready (rs := [13]) (by kernel_rfl) (by simp) ?_
        refine AllReadyH.cons rfl (fun K hK => ?_) AllReadyH.nil
        go_simp
        (try go_wp2_with fail)
        refine hK.out _ _ trivial (fun _ => ?_)
        clear hK K
        try simp only [Act.put, List.setIfInBounds_toArray, List.set_cons_zero, List.set_cons_succ]
        refine wpAnyH_done (by kernel_rfl) ?_ _
        refine ⟨rfl, ?_⟩
        go_wp2_with fail
        refine ⟨⟨k + 1, G, c, L + 1, by omega, by go_num, rfl, Lib.hid (by rw [Htk.out, Hsnc.out hxb, List.length_set]; exact hn.out), hG, Lib.hid (by rw [Htk.out, Hsnc.out hxb]; exact Hset.out.touch0 (Touch.refl _ _).drew), (ht.setCell (p := ⟨G, L, none⟩) (.inr hG) _).drew⟩, ?_⟩
        simp [intOf]; omega
    · obtain rfl : k = s.length := by omega
      rw [List.take_length] at hown hn
      have ho := hown.out
      have hn' := hn.out
      rw [Hsp.out] at ho hn'
      have Ho := Lib.hid ho; have Hn' := Lib.hid hn'
      clear ho hn' hown hn
      go_wp2_with fail
      go_ret
      exact ⟨some ⟨G, 0, none⟩, c, by show Ending.returned (.slice _ n c) = _; rw [← Hn'.out], Ho.out, fun b hb => by simp [fpo] at hb; omega, ht⟩
end Go.Proofs.YtoabloeechphkaaDoor
