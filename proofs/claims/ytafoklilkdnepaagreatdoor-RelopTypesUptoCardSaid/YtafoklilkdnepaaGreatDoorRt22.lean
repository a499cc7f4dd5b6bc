/- Part 22 of the texts of this proof, one behind the other; each begins with its own sentence. No condition beyond those that its theorems state. -/
import Derived.Test.YtafoklilkdnepaaGreatDoorRt21
import Derived.OrdersHeld
import Derived.Deep.RegionHeld3
/- bywashlaw05: need, typed. (gen_rllaw4.py) -/
namespace Go.Proofs.YtafoklilkdnepaaGreatDoor
open Go.RowKit

def needI (k : Int) : Int := if k = 2 ∨ k = 3 ∨ k = 6 ∨ k = 8 ∨ k = 9 then 1 else if k = 4 ∨ k = 5 ∨ k = 7 then 2 else 0
set_option maxRecDepth 20000 in
set_option maxHeartbeats 3200000 in
theorem need5_any (k : Int) (w : World) : Calls Tryz.prog 23 #[.int .i64 k] w fun e w' => e = .returned (.int .i64 (needI k)) ∧ Touch [] w w' := by
  by_cases h : k = 2 ∨ k = 3 ∨ k = 4 ∨ k = 5 ∨ k = 6 ∨ k = 7 ∨ k = 8 ∨ k = 9
  · rcases h with rfl | rfl | rfl | rfl | rfl | rfl | rfl | rfl
    all_goals
      go_enter Tryz.func23, Tryz.ntmps23
      go_wp2
      go_ret
      exact ⟨rfl, Touch.refl _ _⟩
  · have hN := Lib.hid (show needI k = 0 by unfold needI; rw [if_neg (by omega), if_neg (by omega)])
    have h2 : (k == 2) = false := by rw [beq_eq_false_iff_ne]; omega
    have h3 : (k == 3) = false := by rw [beq_eq_false_iff_ne]; omega
    have h4 : (k == 4) = false := by rw [beq_eq_false_iff_ne]; omega
    have h5 : (k == 5) = false := by rw [beq_eq_false_iff_ne]; omega
    have h6 : (k == 6) = false := by rw [beq_eq_false_iff_ne]; omega
    have h7 : (k == 7) = false := by rw [beq_eq_false_iff_ne]; omega
    have h8 : (k == 8) = false := by rw [beq_eq_false_iff_ne]; omega
    have h9 : (k == 9) = false := by rw [beq_eq_false_iff_ne]; omega
    clear h
    go_enter Tryz.func23, Tryz.ntmps23
    go_wp2
    go_ret
    exact ⟨ret_int hN.out.symm, Touch.refl _ _⟩

def finV (v : Int × List CD) : Int × List CD := if v.1 = 0 then (if checkV v.2 = 0 then (0, v.2) else (checkV v.2, [])) else (v.1, [])
def typed5V (k : Int) (rx ry : Bool) (v : Int × List CD) : Int × List CD :=
  if k < 2 ∨ 9 < k then (if k = 1 then (13, []) else (20, [])) else if rx = false then (12, []) else if needI k = 2 ∧ ry = false then (12, []) else finV v

set_option maxRecDepth 40000 in
set_option maxHeartbeats 12800000 in
theorem typed5_any (x : PC) (SA SB : Option Addr) (c1 c2 : Nat) (a b : List CD) (hla : a.length ≤ 1000000) (hlb : b.length ≤ 1000000) (hoa : ∀ c ∈ a, c.Ok) (hob : ∀ c ∈ b, c.Ok) (RA RB : Option Addr) (d1 d2 : Nat) (ra rb : List (List VD)) (hra : ra.length ≤ 1000000) (hrb : rb.length ≤ 1000000)
    (hka : RowsOk ra) (hkb : RowsOk rb) (hea : RowsLe ra) (heb : RowsLe rb) (w : World) (ha : ColsAt w SA a) (hb : ColsAt w SB b) (hva : RowsAt w RA ra) (hvb : RowsAt w RB rb)
    (v : Int × List CD) (hv : 2 ≤ x.kind → x.kind ≤ 9 → rightV a ra = true → (needI x.kind = 2 → rightV b rb = true) → ∀ w', Touch [] w w' → Calls Tryz.prog 32 #[x.val, .slice SA a.length c1, .slice SB b.length c2] w' (LawPost v w')) (hok : ∀ c ∈ v.2, c.Ok) (hvl : v.2.length ≤ 2000000) :
    Calls Tryz.prog 17 #[x.val, .agg #[.slice SA a.length c1, .slice RA ra.length d1], .agg #[.slice SB b.length c2, .slice RB rb.length d2]] w (LawPost (typed5V x.kind (rightV a ra) (rightV b rb) v) w) := by
  have Hrx := Lib.hid fun w' (t : Touch [] w w') => right5_any SA c1 a.length a rfl hoa RA d1 ra.length ra rfl hka hea w' (ha.touch0 t) (hva.touch0 t) hla hra
  have Hry := Lib.hid fun w' (t : Touch [] w w') => right5_any SB c2 b.length b rfl hob RB d2 rb.length rb rfl hkb heb w' (hb.touch0 t) (hvb.touch0 t) hlb hrb
  obtain ⟨rx, hrx⟩ : ∃ r, r = rightV a ra := ⟨_, rfl⟩
  obtain ⟨ry, hry⟩ : ∃ r, r = rightV b rb := ⟨_, rfl⟩
  rw [← hrx] at Hrx hv ⊢
  rw [← hry] at Hry hv ⊢
  clear hrx hry ha hb hva hvb
  obtain ⟨k0, k1, ⟨A2, n2, c2'⟩, ⟨⟨ck, cn, ⟨cvk, cvn, cvt⟩, cop⟩, CA, cnn, cc⟩, ⟨NA, nn, nc⟩, ⟨EA, en, ec⟩, ⟨OA, ol, oc⟩, ⟨GA, gn, gc⟩, ⟨BA, bn, bc⟩, count⟩ := x
  dsimp only at hv ⊢
  have Hck : Hid (∀ (A : Option Addr) (c : Nat) (w' : World), ColsAt w' A v.2 → Calls Tryz.prog 33 #[.slice A v.2.length c] w' fun e w'' => e = .returned (.int .i64 (checkV v.2)) ∧ Touch [] w' w'') := Lib.hid fun A c w' hcs => check_any A c v.2.length v.2 rfl hok w' hcs (by omega)
  have Hnd := Lib.hid fun w' => need5_any k0 w'
  simp only [PC.val] at *
  obtain ⟨z, hz⟩ : ∃ z, z = needI k0 := ⟨_, rfl⟩
  rw [← hz] at Hnd hv
  have HG := Lib.hid (show typed5V k0 rx ry v = if k0 < 2 ∨ 9 < k0 then (if k0 = 1 then (13, []) else (20, [])) else if rx = false then (12, []) else if z = 2 ∧ ry = false then (12, []) else if v.1 = 0 then (if checkV v.2 = 0 then (0, v.2) else (checkV v.2, [])) else (v.1, []) by rw [hz]; rfl)
  obtain ⟨G, hG⟩ : ∃ G, G = typed5V k0 rx ry v := ⟨_, rfl⟩
  rw [← hG] at HG ⊢
  have Hv := Lib.hid hv
  obtain ⟨K, hK⟩ : ∃ K, K = checkV v.2 := ⟨_, rfl⟩
  rw [← hK] at HG Hck
  obtain ⟨ver, vcs⟩ := v
  dsimp only at HG Hck hvl
  clear hz hG hv hok hK
  have ta := ((((Touch.refl [] w).alloc (.cells #[.int .i64 k0, .string k1, .slice A2 n2 c2', .int .i64 ck, .string cn, .int .i64 cvk, .int .i64 cvn, .string cvt, .string cop, .slice CA cnn cc, .slice NA nn nc, .slice EA en ec, .slice OA ol oc, .slice GA gn gc, .slice BA bn bc, .int .i64 count] 49)).alloc (.cells #[.slice SA a.length c1, .slice RA ra.length d1] 27)).alloc (.cells #[.slice SB b.length c2, .slice RB rb.length d2] 27))
  obtain ⟨W, hW⟩ : ∃ W, W = ((w.alloc (.cells #[.int .i64 k0, .string k1, .slice A2 n2 c2', .int .i64 ck, .string cn, .int .i64 cvk, .int .i64 cvn, .string cvt, .string cop, .slice CA cnn cc, .slice NA nn nc, .slice EA en ec, .slice OA ol oc, .slice GA gn gc, .slice BA bn bc, .int .i64 count] 49)).alloc (.cells #[.slice SA a.length c1, .slice RA ra.length d1] 27)).alloc (.cells #[.slice SB b.length c2, .slice RB rb.length d2] 27) := ⟨_, rfl⟩
  have hb0 : W.heap[w.heap.size]? = some (.cells #[.int .i64 k0, .string k1, .slice A2 n2 c2', .int .i64 ck, .string cn, .int .i64 cvk, .int .i64 cvn, .string cvt, .string cop, .slice CA cnn cc, .slice NA nn nc, .slice EA en ec, .slice OA ol oc, .slice GA gn gc, .slice BA bn bc, .int .i64 count] 49 (0, 0)) := by
    rw [hW]
    exact (((Touch.refl [] (w.alloc (.cells #[.int .i64 k0, .string k1, .slice A2 n2 c2', .int .i64 ck, .string cn, .int .i64 cvk, .int .i64 cvn, .string cvt, .string cop, .slice CA cnn cc, .slice NA nn nc, .slice EA en ec, .slice OA ol oc, .slice GA gn gc, .slice BA bn bc, .int .i64 count] 49))).alloc (.cells #[.slice SA a.length c1, .slice RA ra.length d1] 27)).alloc (.cells #[.slice SB b.length c2, .slice RB rb.length d2] 27)).blk (heap_alloc_new w _) (by simp)
  have hb1 : W.heap[w.heap.size + 1]? = some (.cells #[.slice SA a.length c1, .slice RA ra.length d1] 27 (0, 0)) := by
    rw [hW]
    have h := heap_alloc_new (w.alloc (.cells #[.int .i64 k0, .string k1, .slice A2 n2 c2', .int .i64 ck, .string cn, .int .i64 cvk, .int .i64 cvn, .string cvt, .string cop, .slice CA cnn cc, .slice NA nn nc, .slice EA en ec, .slice OA ol oc, .slice GA gn gc, .slice BA bn bc, .int .i64 count] 49)) (.cells #[.slice SA a.length c1, .slice RA ra.length d1] 27)
    rw [World.size_alloc] at h
    exact ((Touch.refl [] _).alloc (.cells #[.slice SB b.length c2, .slice RB rb.length d2] 27)).blk h (by simp)
  have hb2 : W.heap[w.heap.size + 2]? = some (.cells #[.slice SB b.length c2, .slice RB rb.length d2] 27 (0, 0)) := by
    rw [hW]
    have h := heap_alloc_new ((w.alloc (.cells #[.int .i64 k0, .string k1, .slice A2 n2 c2', .int .i64 ck, .string cn, .int .i64 cvk, .int .i64 cvn, .string cvt, .string cop, .slice CA cnn cc, .slice NA nn nc, .slice EA en ec, .slice OA ol oc, .slice GA gn gc, .slice BA bn bc, .int .i64 count] 49)).alloc (.cells #[.slice SA a.length c1, .slice RA ra.length d1] 27)) (.cells #[.slice SB b.length c2, .slice RB rb.length d2] 27)
    rw [World.size_alloc, World.size_alloc] at h
    exact h
  rw [← hW] at ta
  have HW := Lib.hid hW
  have HT := Lib.hid ta
  have HB := Lib.hid (And.intro hb0 (And.intro hb1 hb2))
  obtain ⟨p0, p1, p2, p3, p4, p5, p6, p7, p8, p9, p10, p11, p12, p13, p14, p15⟩ := blk16 hb0
  have x0 : W.cell? ⟨w.heap.size + 1, 0, none⟩ = some (.slice SA a.length c1) := cell_blk hb1 rfl
  have x1 : W.cell? ⟨w.heap.size + 1, 1, none⟩ = some (.slice RA ra.length d1) := cell_blk hb1 rfl
  clear ta hW hb0 hb1 hb2
  by_cases hk1 : k0 = 1
  · subst hk1
    have Hq := Lib.hid (show G = (13, []) by rw [HG.out, if_pos (by omega), if_pos rfl])
    go_enter Tryz.func17, Tryz.ntmps17
    go_upto_region 1 with fail
    rw [← HW.out]
    go_wp2
    go_ret2
    rw [Hq.out]
    exact LawPost.err 13 HT.out
  have q1 : (k0 == 1) = false := by rw [beq_eq_false_iff_ne]; exact hk1
  by_cases hk2 : k0 < 2
  · have Hq := Lib.hid (show G = (20, []) by rw [HG.out, if_pos (.inl hk2), if_neg hk1])
    have q2 : (k0 < 2) = True := eq_true hk2
    clear hk1 hk2
    go_enter Tryz.func17, Tryz.ntmps17
    go_upto_region 1 with fail
    rw [← HW.out]
    go_wp2
    go_ret2
    rw [Hq.out]
    exact LawPost.err 20 HT.out
  have q2 : (k0 < 2) = False := eq_false hk2
  by_cases hk9 : 9 < k0
  · have Hq := Lib.hid (show G = (20, []) by rw [HG.out, if_pos (.inr hk9), if_neg hk1])
    have q9 : (9 < k0) = True := eq_true hk9
    clear hk1 hk2 hk9
    go_enter Tryz.func17, Tryz.ntmps17
    go_upto_region 1 with fail
    rw [← HW.out]
    go_wp2
    go_ret2
    rw [Hq.out]
    exact LawPost.err 20 HT.out
  have q9 : (9 < k0) = False := eq_false hk9
  have HG1 := Lib.hid (show G = if rx = false then (12, []) else if z = 2 ∧ ry = false then (12, []) else if ver = 0 then (if K = 0 then (0, vcs) else (K, [])) else (ver, []) by rw [HG.out, if_neg (by omega)])
  have Hv1 := Lib.hid fun h1 h2 => Hv.out (by omega) (by omega) h1 h2
  clear HG Hv hk1 hk2 hk9
  cases rx
  · have Hq := Lib.hid (show G = (12, []) by rw [HG1.out, if_pos rfl])
    go_enter Tryz.func17, Tryz.ntmps17
    go_upto_region 1 with fail
    rw [← HW.out]
    go_wp2_with fail
    refine (Hrx.out _ HT.out).mono ?_
    rintro e w1 ⟨rfl, t1⟩
    obtain ⟨p0, p1, p2, p3, p4, p5, p6, p7, p8, p9, p10, p11, p12, p13, p14, p15⟩ := blk16 (t1.blk HB.out.1 (by simp))
    obtain ⟨x0, x1, _, _⟩ := blk2 (t1.blk HB.out.2.1 (by simp))
    obtain ⟨y0, y1, _, _⟩ := blk2 (t1.blk HB.out.2.2 (by simp))
    have HT1 := Lib.hid t1
    clear t1
    go_wp2
    go_ret2
    rw [Hq.out]
    exact LawPost.err 12 (HT.out.trans0 HT1.out)
  have HG2 := Lib.hid (show G = if z = 2 ∧ ry = false then (12, []) else if ver = 0 then (if K = 0 then (0, vcs) else (K, [])) else (ver, []) by rw [HG1.out, if_neg (by simp)])
  clear HG1
  by_cases hz2 : z = 2
  · subst hz2
    cases ry
    · have Hq := Lib.hid (show G = (12, []) by rw [HG2.out, if_pos ⟨rfl, rfl⟩])
      go_enter Tryz.func17, Tryz.ntmps17
      go_upto_region 1 with fail
      rw [← HW.out]
      go_wp2_with fail
      refine (Hrx.out _ HT.out).mono ?_
      rintro e w1 ⟨rfl, t1⟩
      obtain ⟨p0, p1, p2, p3, p4, p5, p6, p7, p8, p9, p10, p11, p12, p13, p14, p15⟩ := blk16 (t1.blk HB.out.1 (by simp))
      obtain ⟨x0, x1, _, _⟩ := blk2 (t1.blk HB.out.2.1 (by simp))
      obtain ⟨y0, y1, _, _⟩ := blk2 (t1.blk HB.out.2.2 (by simp))
      have HT1 := Lib.hid t1
      clear t1
      go_wp2_with fail
      refine (Hnd.out _).mono ?_
      rintro e w2 ⟨rfl, t2⟩
      obtain ⟨p0, p1, p2, p3, p4, p5, p6, p7, p8, p9, p10, p11, p12, p13, p14, p15⟩ := blk16 (t2.blk (HT1.out.blk HB.out.1 (by simp)) (by simp))
      obtain ⟨x0, x1, _, _⟩ := blk2 (t2.blk (HT1.out.blk HB.out.2.1 (by simp)) (by simp))
      obtain ⟨y0, y1, _, _⟩ := blk2 (t2.blk (HT1.out.blk HB.out.2.2 (by simp)) (by simp))
      have HT2 := Lib.hid (HT1.out.trans0 t2)
      clear t2
      go_wp2_with fail
      refine (Hry.out _ (HT.out.trans0 HT2.out)).mono ?_
      rintro e w3 ⟨rfl, t3⟩
      obtain ⟨p0, p1, p2, p3, p4, p5, p6, p7, p8, p9, p10, p11, p12, p13, p14, p15⟩ := blk16 (t3.blk (HT2.out.blk HB.out.1 (by simp)) (by simp))
      obtain ⟨x0, x1, _, _⟩ := blk2 (t3.blk (HT2.out.blk HB.out.2.1 (by simp)) (by simp))
      obtain ⟨y0, y1, _, _⟩ := blk2 (t3.blk (HT2.out.blk HB.out.2.2 (by simp)) (by simp))
      have HT3 := Lib.hid (HT2.out.trans0 t3)
      clear t3
      go_wp2
      go_ret2
      rw [Hq.out]
      exact LawPost.err 12 (HT.out.trans0 HT3.out)
    · have HF := Lib.hid (show G = if ver = 0 then (if K = 0 then (0, vcs) else (K, [])) else (ver, []) by rw [HG2.out, if_neg (by simp)])
      go_enter Tryz.func17, Tryz.ntmps17
      go_upto_region 1 with fail
      rw [← HW.out]
      go_wp2_with fail
      refine (Hrx.out _ HT.out).mono ?_
      rintro e w1 ⟨rfl, t1⟩
      obtain ⟨p0, p1, p2, p3, p4, p5, p6, p7, p8, p9, p10, p11, p12, p13, p14, p15⟩ := blk16 (t1.blk HB.out.1 (by simp))
      obtain ⟨x0, x1, _, _⟩ := blk2 (t1.blk HB.out.2.1 (by simp))
      obtain ⟨y0, y1, _, _⟩ := blk2 (t1.blk HB.out.2.2 (by simp))
      have HT1 := Lib.hid t1
      clear t1
      go_wp2_with fail
      refine (Hnd.out _).mono ?_
      rintro e w2 ⟨rfl, t2⟩
      obtain ⟨p0, p1, p2, p3, p4, p5, p6, p7, p8, p9, p10, p11, p12, p13, p14, p15⟩ := blk16 (t2.blk (HT1.out.blk HB.out.1 (by simp)) (by simp))
      obtain ⟨x0, x1, _, _⟩ := blk2 (t2.blk (HT1.out.blk HB.out.2.1 (by simp)) (by simp))
      obtain ⟨y0, y1, _, _⟩ := blk2 (t2.blk (HT1.out.blk HB.out.2.2 (by simp)) (by simp))
      have HT2 := Lib.hid (HT1.out.trans0 t2)
      clear t2
      go_wp2_with fail
      refine (Hry.out _ (HT.out.trans0 HT2.out)).mono ?_
      rintro e w3 ⟨rfl, t3⟩
      obtain ⟨p0, p1, p2, p3, p4, p5, p6, p7, p8, p9, p10, p11, p12, p13, p14, p15⟩ := blk16 (t3.blk (HT2.out.blk HB.out.1 (by simp)) (by simp))
      obtain ⟨x0, x1, _, _⟩ := blk2 (t3.blk (HT2.out.blk HB.out.2.1 (by simp)) (by simp))
      obtain ⟨y0, y1, _, _⟩ := blk2 (t3.blk (HT2.out.blk HB.out.2.2 (by simp)) (by simp))
      have HT3 := Lib.hid (HT2.out.trans0 t3)
      clear t3
      have Ho := Lib.hid (Hv1.out (by first | trivial | rfl) (by first | (intro _; trivial) | (intro _; rfl)) _ (HT.out.trans0 HT3.out))
      clear Hv1
      go_wp2_with fail
      refine Ho.out.mono ?_
      rintro e w4 ⟨⟨sA, sn, sc⟩, rfl, s1, s2, t4⟩
      dsimp only at s1 s2
      subst s1
      have HS := Lib.hid s2
      have HT4 := Lib.hid (HT.out.trans0 (HT3.out.trans0 t4))
      clear s2 t4
      by_cases hv0 : ver = 0
      · subst hv0
        have Hc := Lib.hid (Hck.out sA sc w4 HS.out)
        by_cases hK0 : K = 0
        · subst hK0
          have Hq := Lib.hid (show G = (0, vcs) by rw [HF.out, if_pos rfl, if_pos rfl])
          go_wp2_with fail
          refine Hc.out.mono ?_
          rintro e w5 ⟨rfl, t5⟩
          go_wp2
          go_ret2
          rw [Hq.out]
          exact ⟨⟨sA, vcs.length, sc⟩, rfl, rfl, HS.out.touch0 t5, HT4.out.trans0 t5⟩
        · have Hq := Lib.hid (show G = (K, []) by rw [HF.out, if_pos rfl, if_neg hK0])
          have qK : (K == 0) = false := by rw [beq_eq_false_iff_ne]; exact hK0
          have qK' : (K != 0) = true := by rw [bne, qK]; rfl
          clear hK0
          go_wp2_with fail
          refine Hc.out.mono ?_
          rintro e w5 ⟨rfl, t5⟩
          go_wp2
          go_ret2
          rw [Hq.out]
          exact LawPost.err K (HT4.out.trans0 t5)
      · have Hq := Lib.hid (show G = (ver, []) by rw [HF.out, if_neg hv0])
        have qv : (ver == 0) = false := by rw [beq_eq_false_iff_ne]; exact hv0
        have qv' : (ver != 0) = true := by rw [bne, qv]; rfl
        clear hv0
        go_wp2
        go_ret2
        rw [Hq.out]
        exact LawPost.err ver HT4.out
  · have HF := Lib.hid (show G = if ver = 0 then (if K = 0 then (0, vcs) else (K, [])) else (ver, []) by rw [HG2.out, if_neg (fun q => hz2 q.1)])
    have qz : (z == 2) = false := by rw [beq_eq_false_iff_ne]; exact hz2
    go_enter Tryz.func17, Tryz.ntmps17
    go_upto_region 1 with fail
    rw [← HW.out]
    go_wp2_with fail
    refine (Hrx.out _ HT.out).mono ?_
    rintro e w1 ⟨rfl, t1⟩
    obtain ⟨p0, p1, p2, p3, p4, p5, p6, p7, p8, p9, p10, p11, p12, p13, p14, p15⟩ := blk16 (t1.blk HB.out.1 (by simp))
    obtain ⟨x0, x1, _, _⟩ := blk2 (t1.blk HB.out.2.1 (by simp))
    obtain ⟨y0, y1, _, _⟩ := blk2 (t1.blk HB.out.2.2 (by simp))
    have HT1 := Lib.hid t1
    clear t1
    go_wp2_with fail
    refine (Hnd.out _).mono ?_
    rintro e w2 ⟨rfl, t2⟩
    obtain ⟨p0, p1, p2, p3, p4, p5, p6, p7, p8, p9, p10, p11, p12, p13, p14, p15⟩ := blk16 (t2.blk (HT1.out.blk HB.out.1 (by simp)) (by simp))
    obtain ⟨x0, x1, _, _⟩ := blk2 (t2.blk (HT1.out.blk HB.out.2.1 (by simp)) (by simp))
    obtain ⟨y0, y1, _, _⟩ := blk2 (t2.blk (HT1.out.blk HB.out.2.2 (by simp)) (by simp))
    have HT2 := Lib.hid (HT1.out.trans0 t2)
    clear t2
    have Ho := Lib.hid (Hv1.out (by first | trivial | rfl) (by first | trivial | exact fun h => absurd h hz2) _ (HT.out.trans0 HT2.out))
    clear Hv1
    go_wp2_with fail
    refine Ho.out.mono ?_
    rintro e w4 ⟨⟨sA, sn, sc⟩, rfl, s1, s2, t4⟩
    dsimp only at s1 s2
    subst s1
    have HS := Lib.hid s2
    have HT4 := Lib.hid (HT.out.trans0 (HT2.out.trans0 t4))
    clear s2 t4
    by_cases hv0 : ver = 0
    · subst hv0
      have Hc := Lib.hid (Hck.out sA sc w4 HS.out)
      by_cases hK0 : K = 0
      · subst hK0
        have Hq := Lib.hid (show G = (0, vcs) by rw [HF.out, if_pos rfl, if_pos rfl])
        go_wp2_with fail
        refine Hc.out.mono ?_
        rintro e w5 ⟨rfl, t5⟩
        go_wp2
        go_ret2
        rw [Hq.out]
        exact ⟨⟨sA, vcs.length, sc⟩, rfl, rfl, HS.out.touch0 t5, HT4.out.trans0 t5⟩
      · have Hq := Lib.hid (show G = (K, []) by rw [HF.out, if_pos rfl, if_neg hK0])
        have qK : (K == 0) = false := by rw [beq_eq_false_iff_ne]; exact hK0
        have qK' : (K != 0) = true := by rw [bne, qK]; rfl
        clear hK0
        go_wp2_with fail
        refine Hc.out.mono ?_
        rintro e w5 ⟨rfl, t5⟩
        go_wp2
        go_ret2
        rw [Hq.out]
        exact LawPost.err K (HT4.out.trans0 t5)
    · have Hq := Lib.hid (show G = (ver, []) by rw [HF.out, if_neg hv0])
      have qv : (ver == 0) = false := by rw [beq_eq_false_iff_ne]; exact hv0
      have qv' : (ver != 0) = true := by rw [bne, qv]; rfl
      clear hv0
      go_wp2
      go_ret2
      rw [Hq.out]
      exact LawPost.err ver HT4.out
end Go.Proofs.YtafoklilkdnepaaGreatDoor

/- What an expression's type and value are, as the program reckons them. No program's function. -/
namespace Go.Proofs.YtafoklilkdnepaaGreatDoor
open Go.RowKit

/-- a rule: a name, the types of Args, its own -/
structure RU where
  name : ByteArray
  args : List Int
  out : Int
def rulesV (kind : Int) : List RU :=
  if kind = 3 then [⟨S [45], [1], 1⟩, ⟨S [110, 111, 116], [0], 1⟩]
  else if kind = 4 then [⟨S [43], [1, 1], 1⟩, ⟨S [45], [1, 1], 1⟩, ⟨S [42], [1, 1], 1⟩, ⟨S [47], [1, 1], 1⟩, ⟨S [37], [1, 1], 1⟩,
    ⟨S [61], [-1, -1], 1⟩, ⟨S [33, 61], [-1, -1], 1⟩, ⟨S [60], [-1, -1], 1⟩, ⟨S [60, 61], [-1, -1], 1⟩, ⟨S [62], [-1, -1], 1⟩, ⟨S [62, 61], [-1, -1], 1⟩,
    ⟨S [97, 110, 100], [0, 0], 1⟩, ⟨S [111, 114], [0, 0], 1⟩]
  else if kind = 5 then [⟨S [108, 101, 110], [2], 1⟩, ⟨S [97, 98, 115], [1], 1⟩, ⟨S [105, 115, 110, 117, 108, 108], [0], 1⟩, ⟨S [99, 97, 116], [2, 2], 2⟩,
    ⟨S [101, 105, 116, 104, 101, 114], [-1, -1], -1⟩, ⟨S [105, 102], [0, -1, -1], -1⟩]
  else []
/-- the name that a rule is looked up by -/
def keyN (d : ND) : ByteArray := if d.kind = 5 then d.name else d.op
def ruleI (d : ND) : Option Nat := (rulesV d.kind).findIdx? fun r => decide (r.name = keyN d)
def ruleV (d : ND) : Option RU := match ruleI d with | some k => (rulesV d.kind)[k]? | none => none
def idxI (o : Option Nat) : Int := match o with | some k => (k : Int) | none => -1
def isNull (v : VD) : Bool := decide (v.kind = 0) && (decide (v.num = 0) && decide (v.text = S []))
/-- is the form right, with so many Args? -/
def formV (d : ND) (n : Nat) : Bool :=
  if d.kind = 1 then decide (d.op = S []) && (decide (n = 0) && isNull d.v)
  else if d.kind = 2 then decide (d.name = S []) && (decide (d.op = S []) && (decide (n = 0) && d.v.right))
  else (match ruleV d with | some r => decide (n = r.args.length) | none => false) && (isNull d.v && (if d.kind = 5 then decide (d.op = S []) else decide (d.name = S [])))
/-- do types fit? -/
def fitL : List Int → List Int → Int → Int × Bool
  | w :: ws, t :: ts, both =>
    if t = 0 ∨ w = 0 then fitL ws ts both
    else if w ≠ -1 ∧ w ≠ t ∨ w = -1 ∧ both ≠ 0 ∧ both ≠ t then (0, false)
    else if w = -1 then fitL ws ts t else fitL ws ts both
  | _, _, both => (both, true)
/-- the type of a column of a name; 0: there is none -/
def colT (cs : List CD) (s : ByteArray) : Option Int := match placeV cs s with | some k => cs[k]?.map CD.typ | none => none
/-- the type and the error of one that lies at a depth -/
def typedX (cs : List CD) : (n : Nat) → Nat → TX n → Int × Int
  | 0, _, _ => (0, 0)
  | n + 1, d, e =>
    if 32 < d then (0, 52)
    else if formV e.1 e.2.length = false then (0, 20)
    else if e.1.kind = 2 then (e.1.v.kind, 0)
    else if e.1.kind = 1 then (match colT cs e.1.name with | some t => (t, 0) | none => (0, 13))
    else match e.2.find? fun a => decide ((typedX cs n (d + 1) a).2 ≠ 0) with
      | some a => (0, (typedX cs n (d + 1) a).2)
      | none => match ruleV e.1 with
        | none => (0, 20)
        | some r => match fitL r.args (e.2.map fun a => (typedX cs n (d + 1) a).1) 0 with
          | (both, true) => if r.out = -1 then (both, 0) else (r.out, 0)
          | (_, false) => (0, 12)
def typeX (cs : List CD) (n : Nat) (e : TX n) : Int × Int :=
  if checkV cs = 0 then (if 256 < sizeX n e then (0, 31) else typedX cs n 1 e) else (0, checkV cs)

def zeroV : VD := ⟨0, 0, S []⟩
def ofV (n : Int) : VD := ⟨1, n, S []⟩
def bitV (b : Bool) : VD := if b = true then ofV 1 else ofV 0
def VD.tru (v : VD) : Bool := decide (v.kind = 1) && decide (v.num ≠ 0)
end Go.Proofs.YtafoklilkdnepaaGreatDoor

/- expr.rules: the rules of a kind, as they lie in memory. For every kind. -/
namespace Go.Proofs.YtafoklilkdnepaaGreatDoor
open Go.RowKit

def IntsAt (w : World) (A : Option Addr) (l : List Int) : Prop := RdK inE w A l
theorem IntsAt.touch0 {w w' : World} {A : Option Addr} {l : List Int} (h : IntsAt w A l) (ht : Touch [] w w') : IntsAt w' A l := RdK.touch0 h ht
theorem IntsAt.at_ {w : World} {A : Option Addr} {l : List Int} (h : IntsAt w A l) (i : Nat) (hi : i < l.length) : ∃ ad, A = some ad ∧ w.cell? (ad.add i) = some (.int .i64 l[i]) := by
  obtain ⟨ad, b, off, e1, e2, _, e3⟩ := RdK.at_ h 1 inE_length (by omega) i hi
  rw [Nat.mul_one] at e2
  exact ⟨ad, e1, by rw [e2]; exact e3 0 _ rfl⟩
/-- a rule's cells -/
structure RC where
  name : ByteArray
  A : Option Addr
  n : Nat
  c : Nat
  out : Int
def ruE (r : RC) : List Value := [.string r.name, .slice r.A r.n r.c, .int .i64 r.out]
theorem ruE_length (r : RC) : (ruE r).length = 3 := rfl
/-- rules that lie there, in such blocks -/
def RulesAt (p : Nat → Prop) (w : World) (A : Option Addr) (rs : List RU) : Prop :=
  (∀ b ∈ fpo A, p b) ∧ ∃ cs : List RC, cs.length = rs.length ∧ RdK ruE w A cs ∧ ∀ i (h1 : i < cs.length) (h2 : i < rs.length), cs[i].name = rs[i].name ∧ cs[i].out = rs[i].out ∧ cs[i].n = rs[i].args.length ∧ IntsAt w cs[i].A rs[i].args ∧ ∀ b ∈ fpo cs[i].A, p b
theorem RulesAt.touch {p : Nat → Prop} {w w' : World} {A : Option Addr} {rs : List RU} {fp : List Nat} (h : RulesAt p w A rs) (ht : Touch fp w w') (hp : ∀ b ∈ fp, ¬ p b) : RulesAt p w' A rs := by
  obtain ⟨h0, cs, h1, h2, h3⟩ := h
  exact ⟨h0, cs, h1, RdK.touch h2 ht (fun b hb hm => hp b hm (h0 b hb)), fun i a b => ⟨(h3 i a b).1, (h3 i a b).2.1, (h3 i a b).2.2.1, RdK.touch (h3 i a b).2.2.2.1 ht (fun x hx hm => hp x hm ((h3 i a b).2.2.2.2 x hx)), (h3 i a b).2.2.2.2⟩⟩
theorem RulesAt.touch0 {p : Nat → Prop} {w w' : World} {A : Option Addr} {rs : List RU} (h : RulesAt p w A rs) (ht : Touch [] w w') : RulesAt p w' A rs := h.touch ht (by simp)
theorem RulesAt.at_ {p : Nat → Prop} {w : World} {A : Option Addr} {rs : List RU} (h : RulesAt p w A rs) (i : Nat) (hi : i < rs.length) :
    ∃ ad b off B c, A = some ad ∧ ad.add (i * 3) = ⟨b, off, none⟩ ∧ w.cell? ⟨b, off, none⟩ = some (.string rs[i].name) ∧ w.cell? ⟨b, off + 1, none⟩ = some (.slice B rs[i].args.length c) ∧ w.cell? ⟨b, off + 2, none⟩ = some (.int .i64 rs[i].out) ∧ IntsAt w B rs[i].args ∧ p b ∧ ∀ b ∈ fpo B, p b := by
  obtain ⟨h0, cs, h1, h2, h3⟩ := h
  obtain ⟨ad, b, off, e1, e2, e4, e3⟩ := RdK.at_ h2 3 ruE_length (by omega) i (by omega)
  obtain ⟨f1, f2, f3, f4, f5⟩ := h3 i (by omega) hi
  refine ⟨ad, b, off, cs[i].A, cs[i].c, e1, e2, ?_, ?_, ?_, f4, h0 b (by rw [e1, e4]; simp [fpo]), f5⟩
  · rw [← f1]; exact e3 0 _ rfl
  · rw [← f3]; exact e3 1 _ rfl
  · rw [← f2]; exact e3 2 _ rfl

/-- rows of numbers, laid one behind the other -/
def allocI : World → List (List Int) → World
  | w, [] => w
  | w, l :: r => allocI (w.alloc (.cells (l.flatMap inE).toArray 3)) r
theorem allocI_touch : ∀ (L : List (List Int)) (w : World), Touch [] w (allocI w L)
  | [], _ => Touch.refl _ _
  | _ :: r, w => ((Touch.refl [] w).alloc _).trans0 (allocI_touch r _)
theorem allocI_size : ∀ (L : List (List Int)) (w : World), (allocI w L).heap.size = w.heap.size + L.length
  | [], w => rfl
  | l :: r, w => by
    show (allocI _ r).heap.size = _
    rw [allocI_size r, World.size_alloc, List.length_cons]; omega
theorem allocI_at : ∀ (L : List (List Int)) (w : World) (i : Nat) (h : i < L.length), IntsAt (allocI w L) (some ⟨w.heap.size + i, 0, none⟩) L[i]
  | l :: r, w, 0, _ => (RdK.row w 3 l _ (by simp)).touch0 (allocI_touch r _)
  | l :: r, w, i + 1, h => by
    have := allocI_at r (w.alloc (.cells (l.flatMap inE).toArray 3)) i (by simpa using h)
    rw [World.size_alloc] at this
    have e : w.heap.size + 1 + i = w.heap.size + (i + 1) := by omega
    rw [e] at this
    exact this
def rcs (base : Nat) : List RU → List RC
  | [] => []
  | r :: s => ⟨r.name, some ⟨base, 0, none⟩, r.args.length, r.args.length, r.out⟩ :: rcs (base + 1) s
theorem rcs_len : ∀ (rs : List RU) (base : Nat), (rcs base rs).length = rs.length
  | [], _ => rfl
  | r :: s, base => by show (rcs (base + 1) s).length + 1 = _; rw [rcs_len s]; rfl
theorem rcs_at : ∀ (rs : List RU) (base i : Nat) (h1 : i < (rcs base rs).length) (h2 : i < rs.length), (rcs base rs)[i] = ⟨rs[i].name, some ⟨base + i, 0, none⟩, rs[i].args.length, rs[i].args.length, rs[i].out⟩
  | r :: s, base, 0, _, _ => rfl
  | r :: s, base, i + 1, h1, h2 => by
    have := rcs_at s (base + 1) i (by simpa [rcs] using h1) (by simpa using h2)
    have e : base + 1 + i = base + (i + 1) := by omega
    rw [e] at this
    exact this
theorem rules_laid (rs : List RU) (w : World) : RulesAt (fun b => w.heap.size ≤ b) ((allocI w (rs.map RU.args)).alloc (.cells ((rcs w.heap.size rs).flatMap ruE).toArray 202)) (some ⟨w.heap.size + rs.length, 0, none⟩) rs ∧
    Touch [] w ((allocI w (rs.map RU.args)).alloc (.cells ((rcs w.heap.size rs).flatMap ruE).toArray 202)) := by
  have ta := (Touch.refl [] (allocI w (rs.map RU.args))).alloc (.cells ((rcs w.heap.size rs).flatMap ruE).toArray 202)
  refine ⟨⟨fun b hb => by simp [fpo] at hb; omega, rcs w.heap.size rs, rcs_len _ _, ?_, fun i h1 h2 => ?_⟩, (allocI_touch _ _).trans0 ta⟩
  · have := RdK.row (enc := ruE) (allocI w (rs.map RU.args)) 202 (rcs w.heap.size rs) ((rcs w.heap.size rs).flatMap ruE).toArray (by simp)
    rw [allocI_size, List.length_map] at this
    exact this
  · rw [rcs_at rs w.heap.size i h1 h2]
    refine ⟨rfl, rfl, rfl, IntsAt.touch0 ?_ ta, fun b hb => by simp [fpo] at hb; omega⟩
    have := allocI_at (rs.map RU.args) w i (by simpa using h2)
    rw [List.getElem_map] at this
    exact this

set_option maxRecDepth 100000 in
set_option maxHeartbeats 1600000 in
theorem rules_any (k : Int) (w : World) :
    Calls Tryz.prog 179 #[.int .i64 k] w fun e w' => ∃ A c, e = .returned (.slice A (rulesV k).length c) ∧ RulesAt (fun b => w.heap.size ≤ b) w' A (rulesV k) ∧ Touch [] w w' := by
  by_cases h3 : k = 3
  · subst h3
    go_enter Tryz.func179, Tryz.ntmps179
    go_wp2_with fail
    go_ret
    exact ⟨_, _, rfl, (rules_laid (rulesV 3) w).1, (rules_laid (rulesV 3) w).2⟩
  by_cases h4 : k = 4
  · subst h4
    go_enter Tryz.func179, Tryz.ntmps179
    go_wp2_with fail
    go_ret
    exact ⟨_, _, rfl, (rules_laid (rulesV 4) w).1, (rules_laid (rulesV 4) w).2⟩
  by_cases h5 : k = 5
  · subst h5
    go_enter Tryz.func179, Tryz.ntmps179
    go_wp2_with fail
    go_ret
    exact ⟨_, _, rfl, (rules_laid (rulesV 5) w).1, (rules_laid (rulesV 5) w).2⟩
  · have e3 : (k == 3) = false := by simpa using h3
    have e4 : (k == 4) = false := by simpa using h4
    have e5 : (k == 5) = false := by simpa using h5
    have Hr := Lib.hid (show rulesV k = [] by unfold rulesV; rw [if_neg h3, if_neg h4, if_neg h5])
    clear h3 h4 h5
    go_enter Tryz.func179, Tryz.ntmps179
    go_wp2_with fail
    go_ret
    exact ⟨none, 0, by rw [Hr.out]; rfl, by rw [Hr.out]; exact ⟨by simp [fpo], [], rfl, RdK.nil _ _ _, fun i h => absurd h (by simp)⟩, Touch.refl _ _⟩
end Go.Proofs.YtafoklilkdnepaaGreatDoor

/- value.Of, value.Null, value.Text, value.Value.True, expr.bit: small functions on values. -/
namespace Go.Proofs.YtafoklilkdnepaaGreatDoor
open Go.RowKit

/-- a struct of three cells is written -/
theorem out3 {X : World} {R : Nat} {t : TypeId} {a0 a1 a2 : Value} (h : X.heap[R]? = some (.cells #[a0, a1, a2] t (0, 0))) (v0 v1 v2 : Value) :
    (((X.setCell ⟨R, 0, none⟩ v0).setCell ⟨R, 1, none⟩ v1).setCell ⟨R, 2, none⟩ v2).heap[R]? = some (.cells #[v0, v1, v2] t (0, 0)) ∧ Touch [R] X (((X.setCell ⟨R, 0, none⟩ v0).setCell ⟨R, 1, none⟩ v1).setCell ⟨R, 2, none⟩ v2) :=
  ⟨set_blk (set_blk (set_blk h 0 v0) 1 v1) 2 v2, (((Touch.refl [R] X).setCell (p := ⟨R, 0, none⟩) (.inl (by simp)) v0).setCell (p := ⟨R, 1, none⟩) (.inl (by simp)) v1).setCell (p := ⟨R, 2, none⟩) (.inl (by simp)) v2⟩
theorem blk3x {w : World} {R : Nat} {a b c : Value} {t : TypeId} (h : w.heap[R]? = some (.cells #[a, b, c] t (0, 0))) : w.cell? ⟨R, 0, none⟩ = some a ∧ w.cell? ⟨R, 1, none⟩ = some b ∧ w.cell? ⟨R, 2, none⟩ = some c ∧
    w.frozen? ⟨R, 0, none⟩ = false ∧ w.frozen? ⟨R, 1, none⟩ = false ∧ w.frozen? ⟨R, 2, none⟩ = false :=
  ⟨cell_blk h rfl, cell_blk h rfl, cell_blk h rfl, by simp [World.frozen?, h], by simp [World.frozen?, h], by simp [World.frozen?, h]⟩

set_option maxRecDepth 20000 in
theorem of_any (n : Int) (w : World) : Calls Tryz.prog 11 #[.int .i64 n] w fun e w' => e = .returned (ofV n).val ∧ Touch [] w w' := by
  dsimp only [VD.val, ofV]
  go_enter Tryz.func11, Tryz.ntmps11
  go_wp2_with fail
  exact bodyPost_ret (results_cell_row rfl _ _ w.heap.size _ _ _ _ rfl (heap_alloc_new w _) Tryz.underlying31 rfl rfl) rfl ⟨rfl, (Touch.refl _ _).alloc _⟩
set_option maxRecDepth 20000 in
theorem vnull_any (w : World) : Calls Tryz.prog 173 #[] w fun e w' => e = .returned zeroV.val ∧ Touch [] w w' := by
  dsimp only [VD.val, zeroV]
  go_enter Tryz.func173, Tryz.ntmps173
  go_wp2_with fail
  exact bodyPost_ret (results_cell_row rfl _ _ w.heap.size _ _ _ _ rfl (heap_alloc_new w _) Tryz.underlying31 rfl rfl) rfl ⟨rfl, (Touch.refl _ _).alloc _⟩
set_option maxRecDepth 20000 in
theorem text_any (s : ByteArray) (w : World) : Calls Tryz.prog 185 #[.string s] w fun e w' => e = .returned (VD.val ⟨2, 0, s⟩) ∧ Touch [] w w' := by
  dsimp only [VD.val]
  go_enter Tryz.func185, Tryz.ntmps185
  go_wp2_with fail
  exact bodyPost_ret (results_cell_row rfl _ _ w.heap.size _ _ _ _ rfl (heap_alloc_new w _) Tryz.underlying31 rfl rfl) rfl ⟨rfl, (Touch.refl _ _).alloc _⟩
set_option maxRecDepth 20000 in
theorem true_any (v : VD) (w : World) : Calls Tryz.prog 132 #[v.val] w fun e w' => e = .returned (.bool v.tru) ∧ Touch [] w w' := by
  obtain ⟨k, n, s⟩ := v
  dsimp only [VD.val]
  have t0 := (Touch.refl [] w).alloc (.cells #[.int .i64 k, .int .i64 n, .string s] 31)
  by_cases h1 : k = 1
  · have hk : (k == 1) = true := by simpa using h1
    by_cases h0 : n = 0
    · have hn : (n != 0) = false := by simpa using h0
      have Hf := Lib.hid (show VD.tru ⟨k, n, s⟩ = false by simp [VD.tru, h0])
      clear h0 h1
      go_enter Tryz.func132, Tryz.ntmps132
      go_wp2_with fail
      go_ret
      exact ⟨by rw [Hf.out]; rfl, t0⟩
    · have hn : (n != 0) = true := by simpa using h0
      have Hf := Lib.hid (show VD.tru ⟨k, n, s⟩ = true by simp [VD.tru, h0, h1])
      clear h0 h1
      go_enter Tryz.func132, Tryz.ntmps132
      go_wp2_with fail
      go_ret
      exact ⟨by rw [Hf.out]; rfl, t0⟩
  · have hk : (k == 1) = false := by simpa using h1
    have Hf := Lib.hid (show VD.tru ⟨k, n, s⟩ = false by simp [VD.tru, h1])
    clear h1
    go_enter Tryz.func132, Tryz.ntmps132
    go_wp2_with fail
    go_ret
    exact ⟨by rw [Hf.out]; rfl, t0⟩
set_option maxRecDepth 20000 in
theorem bit_any (b : Bool) (w : World) : Calls Tryz.prog 183 #[.bool b] w fun e w' => e = .returned (bitV b).val ∧ Touch [] w w' := by
  have h1 := Lib.hid fun w' => of_any 1 w'
  have h0 := Lib.hid fun w' => of_any 0 w'
  simp only [VD.val, ofV] at h1 h0
  have t0 := (Touch.refl [] w).alloc (.cells #[.int .i64 0, .int .i64 0, .string ⟨#[]⟩] 31)
  have hb := heap_alloc_new w (.cells #[.int .i64 0, .int .i64 0, .string ⟨#[]⟩] 31)
  have Hb := Lib.hid hb
  clear hb
  cases b
  · simp only [bitV, VD.val, ofV]
    go_enter Tryz.func183, Tryz.ntmps183
    go_wp2_with fail
    refine (h0.out _).mono ?_
    rintro e w1 ⟨rfl, t1⟩
    have hb1 := t1.blk Hb.out (by simp)
    obtain ⟨c0, c1, c2, f0, f1, f2⟩ := blk3x hb1
    go_wp2_with fail
    obtain ⟨q1, q2⟩ := out3 hb1 (.int .i64 1) (.int .i64 0) (.string (S []))
    exact bodyPost_ret (results_cell_row rfl _ _ w.heap.size _ _ _ _ rfl q1 Tryz.underlying31 rfl rfl) rfl ⟨rfl, (t0.trans0 t1).trans q2 (fun b hb => .inr (by simp at hb; omega))⟩
  · simp only [bitV, VD.val, ofV]
    go_enter Tryz.func183, Tryz.ntmps183
    go_wp2_with fail
    refine (h1.out _).mono ?_
    rintro e w1 ⟨rfl, t1⟩
    have hb1 := t1.blk Hb.out (by simp)
    obtain ⟨c0, c1, c2, f0, f1, f2⟩ := blk3x hb1
    go_wp2_with fail
    obtain ⟨q1, q2⟩ := out3 hb1 (.int .i64 1) (.int .i64 1) (.string (S []))
    exact bodyPost_ret (results_cell_row rfl _ _ w.heap.size _ _ _ _ rfl q1 Tryz.underlying31 rfl rfl) rfl ⟨rfl, (t0.trans0 t1).trans q2 (fun b hb => .inr (by simp at hb; omega))⟩
end Go.Proofs.YtafoklilkdnepaaGreatDoor

/- A region that draws its order, walked by hand under a condition on the world that may change on the way. No program's function. -/
namespace Go.Proofs.YtafoklilkdnepaaGreatDoor
open Go.RowKit

section
variable {P : Program} {ops : Array Oper} {Q : Exit → Act → World → Prop} {md : Region.Mode} {S S' : World → Prop}
/-- a walk that holds more holds less -/
theorem wpAnyH_weak (hS : ∀ w, S w → S' w) : ∀ (fuel : Nat) (listed : Array Bool) (a : Act) (w : World), wpAnyH P md ops Q S fuel listed a w → wpAnyH P md ops Q S' fuel listed a w
  | 0, _, _, _, h => h
  | fuel + 1, _, _, _, h => ⟨h.1, fun i hi => wpOp_mono (fun a' w' h' => ⟨hS w' h'.1, wpAnyH_weak hS fuel _ a' w' h'.2⟩) (h.2 i hi)⟩
/-- 'wpAnyH_take', the operation's temporary told by its number -/
theorem take_d {i d : Nat} {oi : Oper} {v : Value} {fuel : Nat} {listed : Array Bool} {a : Act} {w : World} (hi : ops[i]? = some oi) (hd : oi.dst = some d)
    (hs : Region.noSelect ops = true) (hf : Region.free md ops listed i = true) (hr : (Region.ready md ops listed).contains i = true)
    (hQ : ∀ c a w, Q (.panic c) (a.put oi.dst v) w → Q (.panic c) a w) (hy : YieldsIf P ops S oi v a) (hS : S w)
    (h : wpAnyH P md ops Q S fuel (listed.setIfInBounds i true) (a.put (some d) v) w) : wpAnyH P md ops Q S (fuel + 1) listed a w :=
  wpAnyH_take hi hs hf hr hQ hy hS (by rw [hd]; exact h)
end
end Go.Proofs.YtafoklilkdnepaaGreatDoor
