/- bywashref10.Show: the walk. -/
import Derived.Test.YtoabloeechphkaaDoorCronRShow
namespace Go.Proofs.YtoabloeechphkaaDoor
open Go.RowKit Go.Shelf

theorem S_empty_iff (t : List UInt8) : ((S t).toList = []) = (t = []) := by rw [S_list]

set_option maxRecDepth 100000 in
set_option maxHeartbeats 6400000 in
theorem rshow_any (s : Nat) (h63 : s.testBit 63 = false) (a : Bool) (l : List (Nat × Nat)) (hl : Runs s 0 l) (w : World) :
    Calls Tryd.prog 20 #[.agg (fldC s a).toArray] w fun e w' => e = .returned (.string (S (fldT a l))) ∧ Touch [] w w' := by
  have t0 := (Touch.refl [] w).alloc (.cells (fldC s a).toArray 33)
  have hb := heap_alloc_new w (.cells (fldC s a).toArray 33)
  obtain ⟨W, hW⟩ : ∃ W, W = w.alloc (.cells (fldC s a).toArray 33) := ⟨_, rfl⟩
  rw [← hW] at t0 hb
  have HW := Lib.hid hW; have HB := Lib.hid hb
  have cAny := cell_blk hb (i := 64) (v := .bool a) (by rw [List.getElem?_toArray]; exact fldC_any s a)
  have hlen := runs_len hl
  have hin := runs_in hl
  have Hin := Lib.hid hin
  have HL := Lib.hid hl
  have hjl : ∀ d : List (Nat × Nat), (∀ r ∈ d, r ∈ l) → d.length ≤ 64 → (Lib.join (d.map runT) [44]).length ≤ 384 := fun d h1 h2 => by
    have := join_len 44 5 (d.map runT) (fun t ht => by
      obtain ⟨r, hr, rfl⟩ := List.mem_map.1 ht
      obtain ⟨q1, q2, -, -⟩ := Hin.out r (h1 r hr)
      exact (runT_chars (r := r) (by omega) q2).2.2.1)
    rw [List.length_map] at this; omega
  have Hjl := Lib.hid hjl
  clear hW hb hin hl hjl
  rcases a with _ | _
  case true =>
    go_enter Tryd.func20, Tryd.ntmps20
    go_wp2_with (with_reducible rw [← HW.out])
    go_ret
    exact ⟨rfl, t0⟩
  have hfT : fldT false l = Lib.join (l.map runT) [44] := if_neg (by simp)
  have HfT := Lib.hid hfT
  clear hfT
  go_enter Tryd.func20, Tryd.ntmps20
  go_wp2_with (with_reducible rw [← HW.out])
  try rw [← HW.out]
  go_loopw [3, 4] (fun tv nv wr => ∃ (p : Nat) (don rest : List (Nat × Nat)) (t : List UInt8), p ≤ 64 ∧ nv = .int .i64 p ∧ tv = .string (S t) ∧ Hid (t = Lib.join (don.map runT) [44]) ∧ t.length ≤ 384 ∧ Hid (Runs s p rest) ∧ Hid (l = don ++ rest) ∧ Touch [] W wr) (fun _ nv _ => 64 - (intOf nv).toNat)
  case atStart => exact ⟨0, [], l, [], by omega, rfl, rfl, Lib.hid rfl, by simp, HL, Lib.hid rfl, Touch.refl _ _⟩
  case round =>
    obtain ⟨p, don, rest, t, hp, rfl, rfl, htx, htl, hruns, hcut, ht⟩ := hrel
    by_cases hlt : p < 64
    · have hbk := ht.blk HB.out (by simp)
      have cp := cell_blk hbk (i := p) (v := .bool (s.testBit p)) (by rw [List.getElem?_toArray]; exact fldC_bit s false p hlt)
      have p0 : (0 : Int) ≤ (p : Int) := by omega
      have p64 : (p : Int) < 64 := by omega
      rcases hbit : s.testBit p with _ | _
      · rw [hbit] at cp
        have Hn := Lib.hid (runs_next hruns.out hbit)
        clear hbit hbk
        go_wp2_with fail
        go_roundw
        case rel => exact ⟨p + 1, don, rest, t, by omega, by go_num, rfl, htx, htl, Hn, hcut, ht⟩
        case measure => simp [intOf]; omega
      · rw [hbit] at cp
        obtain ⟨b, r, rfl, h3, h4, h5, h6, h7⟩ := runs_here hruns.out hlt hbit
        have hb63 : b < 63 := by
          by_cases e : b = 63
          · have := h5 b h3 (Nat.le_refl _)
            rw [e, h63] at this; cases this
          · omega
        have hcut2 : l = (don ++ [(p, b)]) ++ r := by rw [hcut.out]; simp
        have hdl : (don ++ [(p, b)]).length ≤ 64 := by
          have := congrArg List.length hcut2
          rw [List.length_append] at this; omega
        have hnew := Hjl.out (don ++ [(p, b)]) (fun r' hr' => by rw [hcut2]; exact List.mem_append_left _ hr') hdl
        have hdon : t = [] ↔ don = [] := ⟨fun h => by
          by_cases e : don = []
          · exact e
          · exfalso
            refine joinR_ne e (fun r' hr' => ?_) (by rw [← htx.out, h])
            obtain ⟨q1, q2, -, -⟩ := Hin.out r' (by rw [hcut2]; simp [hr'])
            omega, fun h => by rw [htx.out, h]; rfl⟩
        have hadd : Lib.join ((don ++ [(p, b)]).map runT) [44] = (if t = [] then [] else t ++ [44]) ++ runT (p, b) := by
          rw [List.map_append]
          by_cases e : t = []
          · rw [if_pos e, hdon.1 e]; simp [Lib.join_one]
          · rw [if_neg e, List.map_cons, List.map_nil, join_snoc 44 _ _ (by simp; exact fun h => e (hdon.2 h)), ← htx.out]; simp
        have hrT : runT (p, b) = if p < b then dg p ++ 45 :: dg b else dg p := rfl
        have hbits : ∀ q, p ≤ q → q ≤ b → ∀ wz, Touch [] W wz → wz.cell? ⟨w.heap.size, q + 1, none⟩ = some (.bool (decide (q < b))) := fun q h1 h2 wz tz => by
          have h8 : s.testBit (q + 1) = decide (q < b) := by
            by_cases e : q < b
            · rw [h5 (q + 1) (by omega) (by omega), decide_eq_true e]
            · obtain rfl : q = b := by omega
              rw [h6 (by omega), decide_eq_false e]
          rw [← h8]
          exact cell_blk (tz.blk HB.out (by simp)) (by rw [List.getElem?_toArray]; exact fldC_bit s false (q + 1) (by omega))
        have Hbits := Lib.hid hbits; have Hadd := Lib.hid hadd; have Hrt := Lib.hid hrT; have Hcut2 := Lib.hid hcut2; have H7 := Lib.hid h7
        have Hnew := Lib.hid hnew
        clear hbit hbk hbits hadd hrT hcut2 h7 h5 h6 hdon hcut hdl htx hnew hruns
        go_wp2_with fail
        go_loop [5] (fun lv => ∃ q : Nat, p ≤ q ∧ q ≤ b ∧ lv = .int .i64 q) (fun lv => 64 - (intOf lv).toNat)
        case atStart => exact ⟨p, Nat.le_refl _, h3, rfl⟩
        case round =>
          obtain ⟨q, hq1, hq2, rfl⟩ := hrel
          have cq := Hbits.out q hq1 hq2 _ ht
          have q1i : (q : Int) + 1 < 64 := by omega
          have q0i : (0 : Int) ≤ (q : Int) + 1 := by omega
          have q2i : ((q : Int) + 1).toNat = q + 1 := by omega
          by_cases hqb : q < b
          · rw [decide_eq_true hqb] at cq
            go_wp2_with fail
            go_round
            case rel => exact ⟨q + 1, by omega, by omega, by go_num⟩
            case measure => simp [intOf]; omega
          · rw [decide_eq_false hqb] at cq
            obtain rfl : q = b := by omega
            have Hdp := Lib.hid (dg_wd (n := p) (by omega)).1.1
            have Hdq := Lib.hid (dg_wd (n := q) h4).1.1
            have HDp := Lib.hid (digits_any p (by omega))
            have HDq := Lib.hid (digits_any q h4)
            clear hqb
            by_cases hte : t = []
            · subst hte
              have q9 : (S []).toList = [] := by rw [S_list]
              have hX : (dg p).length ≤ 390 := by have := Hdp.out; simp; omega
              have y1 : S [] ++ S (dg p) = S (dg p) := S_app _ _
              have z0 : (S []).size + (S (dg p)).size ≤ 1000 := by rw [S_size, S_size]; have := Hdp.out; simp; omega
              by_cases hpq : p < q
              · have hpqi : ((p : Int) < (q : Int)) = True := eq_true (by omega)
                have Hr2 := Lib.hid (show runT (p, q) = dg p ++ 45 :: dg q by rw [Hrt.out, if_pos hpq])
                have y2 : ByteArray.mk #[45] ++ S (dg q) = S (45 :: dg q) := by rw [show ByteArray.mk #[45] = S [45] from rfl, S_app]; rfl
                have y3 : S ((dg p)) ++ S (45 :: dg q) = S ((dg p) ++ 45 :: dg q) := S_app _ _
                have z1 : (ByteArray.mk #[45]).size + (S (dg q)).size ≤ 1000 := by rw [S_size]; show 1 + _ ≤ _; have := Hdq.out; omega
                have z2 : (S ((dg p))).size + (S (45 :: dg q)).size ≤ 1000 := by rw [S_size, S_size, List.length_cons]; have := Hdq.out; omega
                have Hfin := Lib.hid (show (dg p) ++ 45 :: dg q = Lib.join ((don ++ [(p, q)]).map runT) [44] by rw [Hadd.out, Hr2.out]; simp)
                go_wp2_with fail
                refine (HDp.out _).mono ?_
                rintro e w2 ⟨rfl, t2⟩
                go_wp2_with fail
                refine (HDq.out _).mono ?_
                rintro e w3 ⟨rfl, t3⟩
                go_wp2_with fail
                refine ⟨⟨q + 1, don ++ [(p, q)], r, (dg p) ++ 45 :: dg q, by omega, by go_num, by first | rfl | simp, Hfin, by rw [Hfin.out]; exact Hnew.out, H7, Hcut2, (ht.trans0 t2).trans0 t3⟩, ?_⟩
                simp [intOf]; omega
              · obtain rfl : p = q := by omega
                have hpqi : ((p : Int) < (p : Int)) = False := eq_false (by omega)
                have Hr2 := Lib.hid (show runT (p, p) = dg p by rw [Hrt.out, if_neg hpq])
                have Hfin := Lib.hid (show (dg p) = Lib.join ((don ++ [(p, p)]).map runT) [44] by rw [Hadd.out, Hr2.out]; simp)
                go_wp2_with fail
                refine (HDp.out _).mono ?_
                rintro e w2 ⟨rfl, t2⟩
                go_wp2_with fail
                refine ⟨⟨p + 1, don ++ [(p, p)], r, (dg p), by omega, by go_num, by first | rfl | simp, Hfin, by rw [Hfin.out]; exact Hnew.out, H7, Hcut2, ht.trans0 t2⟩, ?_⟩
                simp [intOf]; omega
            · have hq9 : ((S t).toList == []) = false := by rw [S_list, beq_eq_false_iff_ne]; exact hte
              have hq91 : ((S t).toList = []) = False := eq_false (by rw [S_list]; exact hte)
              have hq92 : ((S t).toList != []) = true := by rw [bne, hq9]; rfl
              have Hte := Lib.hid hte
              clear hte
              have hX : (t ++ 44 :: dg p).length ≤ 390 := by have := Hdp.out; simp; omega
              have y0 : S t ++ ByteArray.mk #[44] = S (t ++ [44]) := S_app t [44]
              have y1 : S (t ++ [44]) ++ S (dg p) = S (t ++ 44 :: dg p) := by rw [S_app]; simp
              have z00 : (S t).size + (ByteArray.mk #[44]).size ≤ 1000 := by rw [S_size]; show _ + 1 ≤ _; omega
              have z0 : (S (t ++ [44])).size + (S (dg p)).size ≤ 1000 := by rw [S_size, S_size]; have := Hdp.out; simp; omega
              by_cases hpq : p < q
              · have hpqi : ((p : Int) < (q : Int)) = True := eq_true (by omega)
                have Hr2 := Lib.hid (show runT (p, q) = dg p ++ 45 :: dg q by rw [Hrt.out, if_pos hpq])
                have y2 : ByteArray.mk #[45] ++ S (dg q) = S (45 :: dg q) := by rw [show ByteArray.mk #[45] = S [45] from rfl, S_app]; rfl
                have y3 : S ((t ++ 44 :: dg p)) ++ S (45 :: dg q) = S ((t ++ 44 :: dg p) ++ 45 :: dg q) := S_app _ _
                have z1 : (ByteArray.mk #[45]).size + (S (dg q)).size ≤ 1000 := by rw [S_size]; show 1 + _ ≤ _; have := Hdq.out; omega
                have z2 : (S ((t ++ 44 :: dg p))).size + (S (45 :: dg q)).size ≤ 1000 := by rw [S_size, S_size, List.length_cons]; have := Hdq.out; omega
                have Hfin := Lib.hid (show (t ++ 44 :: dg p) ++ 45 :: dg q = Lib.join ((don ++ [(p, q)]).map runT) [44] by rw [Hadd.out, Hr2.out, if_neg Hte.out]; simp)
                go_wp2_with fail
                refine (HDp.out _).mono ?_
                rintro e w2 ⟨rfl, t2⟩
                go_wp2_with fail
                refine (HDq.out _).mono ?_
                rintro e w3 ⟨rfl, t3⟩
                go_wp2_with fail
                refine ⟨⟨q + 1, don ++ [(p, q)], r, (t ++ 44 :: dg p) ++ 45 :: dg q, by omega, by go_num, by first | rfl | simp, Hfin, by rw [Hfin.out]; exact Hnew.out, H7, Hcut2, (ht.trans0 t2).trans0 t3⟩, ?_⟩
                simp [intOf]; omega
              · obtain rfl : p = q := by omega
                have hpqi : ((p : Int) < (p : Int)) = False := eq_false (by omega)
                have Hr2 := Lib.hid (show runT (p, p) = dg p by rw [Hrt.out, if_neg hpq])
                have Hfin := Lib.hid (show (t ++ 44 :: dg p) = Lib.join ((don ++ [(p, p)]).map runT) [44] by rw [Hadd.out, Hr2.out, if_neg Hte.out]; simp)
                go_wp2_with fail
                refine (HDp.out _).mono ?_
                rintro e w2 ⟨rfl, t2⟩
                go_wp2_with fail
                refine ⟨⟨p + 1, don ++ [(p, p)], r, (t ++ 44 :: dg p), by omega, by go_num, by first | rfl | simp, Hfin, by rw [Hfin.out]; exact Hnew.out, H7, Hcut2, ht.trans0 t2⟩, ?_⟩
                simp [intOf]; omega
    · obtain rfl : p = 64 := by omega
      have hr0 : rest = [] := by
        cases hruns.out with
        | nil _ _ => rfl
        | cons _ a b l h1 h2 h3 h4 h5 h6 h7 => omega
      subst hr0
      have hd : don = l := by have := hcut.out; rw [List.append_nil] at this; exact this.symm
      have Ht := Lib.hid (show t = fldT false l by rw [htx.out, hd, HfT.out])
      clear hruns hcut htx hd
      go_wp2_with fail
      go_ret
      exact ⟨by rw [← Ht.out]; rfl, t0.trans0 ht⟩
end Go.Proofs.YtoabloeechphkaaDoor
