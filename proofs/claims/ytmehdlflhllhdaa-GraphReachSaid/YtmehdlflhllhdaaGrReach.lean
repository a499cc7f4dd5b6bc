/- bywashlaw16.GraphReach: the walk of the law. For every input. -/
import Derived.Test.YtmehdlflhllhdaaGrMakes
import Derived.BigQuiet
namespace Go.Proofs.Ytmehdlflhllhdaa
open Go.RowKit

/-- what the law wants: above, below -/
def upB (T : Nat → Nat → Bool) (n : Nat) (l : List Int) (k : Nat) : Bool := hasL l (k : Int) || l.any fun x => nodeB n x && T x.toNat k
def dnB (T : Nat → Nat → Bool) (n : Nat) (l : List Int) (k : Nat) : Bool := hasL l (k : Int) || l.any fun x => nodeB n x && T k x.toNat
theorem up_iff {t T : Nat → Nat → Bool} {n : Nat} (hT : ∀ a b, T a b = true ↔ Way t a b) (l : List Int) (k : Nat) : Reach t n l k ↔ upB T n l k = true := by
  unfold Reach upB
  rw [Bool.or_eq_true, hasL_iff, List.any_eq_true]
  refine or_congr Iff.rfl ⟨?_, ?_⟩
  · rintro ⟨b, hb, hn, w⟩
    exact ⟨(b : Int), hb, by rw [Bool.and_eq_true]; exact ⟨nodeB_iff.2 (by omega), by rw [Int.toNat_natCast]; exact (hT b k).2 w⟩⟩
  · rintro ⟨x, hx, h⟩
    rw [Bool.and_eq_true] at h
    have hn := nodeB_iff.1 h.1
    exact ⟨x.toNat, by rw [Int.toNat_of_nonneg hn.1]; exact hx, by omega, (hT _ _).1 h.2⟩
theorem dn_iff {t T : Nat → Nat → Bool} {n : Nat} (hT : ∀ a b, T a b = true ↔ Way t a b) (l : List Int) (k : Nat) : Reach (fun a b => t b a) n l k ↔ dnB T n l k = true := by
  unfold Reach dnB
  rw [Bool.or_eq_true, hasL_iff, List.any_eq_true]
  refine or_congr Iff.rfl ⟨?_, ?_⟩
  · rintro ⟨b, hb, hn, w⟩
    exact ⟨(b : Int), hb, by rw [Bool.and_eq_true]; exact ⟨nodeB_iff.2 (by omega), by rw [Int.toNat_natCast]; exact (hT k b).2 (Way.turn (s := t) (fun _ _ => rfl) w)⟩⟩
  · rintro ⟨x, hx, h⟩
    rw [Bool.and_eq_true] at h
    have hn := nodeB_iff.1 h.1
    exact ⟨x.toNat, by rw [Int.toNat_of_nonneg hn.1]; exact hx, by omega, Way.turn (s := fun a b => t b a) (fun _ _ => rfl) ((hT _ _).1 h.2)⟩
theorem reach_up {n : Nat} {ls : List (List Int)} (hl : ls.length ≤ n) (ha : ∀ l ∈ ls, allN n l = true) (l : List Int) : upN (nsL n ls) l = pick n (upB (tabP (tE ls) n) n l) ∧ dnN (nsL n ls) l = pick n (dnB (tabP (tE ls) n) n l) := by
  unfold upN dnN
  rw [nsL_length]
  exact ⟨reachN_eq fun a _ => up_iff (tab_way hl ha) l a, reachN_eq fun a _ => dn_iff (tab_way hl ha) l a⟩

abbrev caC (n : Int) (A : Option Addr) (m c : Nat) (AL : Option Addr) (mL cL : Nat) : Array Value := #[.int .i64 n, .slice A m c, .slice AL mL cL]

set_option maxRecDepth 20000 in
set_option maxHeartbeats 8000000 in
theorem reach_ok (N : Nat) (hN : N ≤ 24) (A : Option Addr) (c m : Nat) (ls : List (List Int)) (hm : ls.length = m) (hmN : m ≤ N) (AL : Option Addr) (cL mL : Nat) (L : List Int) (hmL : L.length = mL) (hL40 : mL ≤ 40) (w : World) (h : InR w A ls) (hrL : RdI w AL L) (hb : ∀ l ∈ ls, l.length ≤ 40) (ha : ∀ l ∈ ls, allN N l = true) (hr : ¬ Ring (nsL N ls))
    (hs : ∀ W, Touch [] w W → Calls Try.prog 9 #[.int .i64 N, .slice A m c] W fun e w' => e = .returned (.bool true) ∧ w' = W) :
    Calls Try.prog 5 #[.agg (caC N A m c AL mL cL)] w fun e w' => e = .returned (.bool true) ∧ Touch [] w w' := by
  subst hm
  have T0 := (Touch.refl [] w).alloc (.cells (caC N A ls.length c AL mL cL) 40)
  have hZ := heap_alloc_new w (.cells (caC N A ls.length c AL mL cL) 40)
  have z0 := cell_blk hZ (i := 0) rfl
  have z1 := cell_blk hZ (i := 1) rfl
  have z2 := cell_blk hZ (i := 2) rfl
  have HS := Lib.hid (hs _ T0)
  have HW := Lib.hid (by
    have := wrong_any (N : Int) A c ls.length ls rfl (by omega) _ (h.touch0 T0) (fun l hl => by have := hb l hl; omega)
    rw [(wrongV_in (by omega) hmN ha).2 hr] at this
    exact this)
  have HT0 := Lib.hid T0
  have HZ := Lib.hid hZ
  have Hb := Lib.hid hb
  have Ha := Lib.hid ha
  have Hr := Lib.hid hr
  have HmL := Lib.hid hmL
  clear hs hb ha hr T0 hZ hmL
  go_enter Try.func5, Try.ntmps5
  go_wp2_with fail
  refine HS.out.mono ?_
  rintro e w1 ⟨rfl, hw1⟩
  rw [hw1]
  have Hw1 := Lib.hid hw1
  clear hw1 HS
  go_wp2_with fail
  refine HW.out.mono ?_
  rintro e w2 ⟨rfl, t2⟩
  have Ht2 := Lib.hid (HT0.out.trans0 t2)
  have y0 := t2.cell z0 (by simp)
  have y1 := t2.cell z1 (by simp)
  have y2 := t2.cell z2 (by simp)
  have hZ2 := t2.blk HZ.out (by simp)
  have HZ2 := Lib.hid hZ2
  have hNw := new_any N (by omega) A c ls.length ls rfl hmN w2 (h.touch0 Ht2.out) (fun l hl => by have := Hb.out l hl; omega)
  have HN := Lib.hid hNw
  clear t2 HW z0 z1 z2 HZ hNw hZ2
  go_wp2_with fail
  refine HN.out.mono ?_
  rintro e w3 hp
  obtain ⟨t3, g, X, ds, up, rfl, hG⟩ := hp.ok hmN Ha.out Hr.out
  have x0 := t3.cell y0 (by simp)
  have x1 := t3.cell y1 (by simp)
  have x2 := t3.cell y2 (by simp)
  have HG := Lib.hid hG
  have Ht3 := Lib.hid (Ht2.out.trans0 t3)
  have HZ3 := Lib.hid (t3.blk HZ2.out (by simp))
  have HB := Lib.hid (refBelow_any N (by omega) A c ls.length ls rfl (by omega) w3 (h.touch0 Ht3.out) (fun l hl => by have := Hb.out l hl; omega))
  clear t3 hp hG HN y0 y1 y2 HZ2
  go_wp2_with fail
  refine HB.out.mono ?_
  rintro e w4 ⟨Bt, dt, bs, rfl, hT⟩
  have HT := Lib.hid hT
  have HZ4 := Lib.hid (hT.t.blk HZ3.out (by simp))
  have HG4 := Lib.hid (HG.out.touch0 hT.t)
  have Ht4 := Lib.hid (Ht3.out.trans0 hT.t)
  have x0' := hT.t.cell x0 (by simp)
  obtain ⟨T, hTe⟩ : ∃ T, T = tabP (tE ls) N := ⟨_, rfl⟩
  have HTe := Lib.hid hTe
  rw [← hTe] at HT
  clear hT HB x0 x1 x2 HG HZ3 hTe
  go_wp2_with fail
  go_loopw [6, 7, 55] (fun a b y wr => ∃ (k q1 q2 : Nat) (Aw Ab : Option Addr) (cw cb : Nat), k ≤ N ∧ q1 ≤ k ∧ q2 ≤ k ∧ y = .int .i64 k ∧ a = .slice Aw q1 cw ∧ b = .slice Ab q2 cb ∧ Hid (MkS w4 (upB T N L) (dnB T N L) k q1 q2 Aw cw Ab cb wr)) (fun _ _ y _ => N - (intOf y).toNat)
  case atStart => exact ⟨0, 0, 0, none, none, 0, 0, by omega, by omega, by omega, rfl, rfl, rfl, Lib.hid ⟨OwnK.nil _ _ _ _, OwnK.nil _ _ _ _, rfl, rfl, by simp [fpo], by simp [fpo], by simp [fpo], Touch.refl _ _⟩⟩
  case round =>
    clear x0'
    obtain ⟨k, q1, q2, Aw, Ab, cw, cb, hk, hq1, hq2, rfl, rfl, rfl, HM⟩ := hrel
    have hZr := HM.out.t.blk HZ4.out (by simp)
    have z0 := cell_blk hZr (i := 0) rfl
    have z2 := cell_blk hZr (i := 2) rfl
    have HrL := Lib.hid (show RdI wr AL L from Rd.touch0 hrL (Ht4.out.trans0 HM.out.t))
    by_cases hkN : k < N
    · have hH := fun n => refHas_any AL cL mL L HmL.out (by omega) (k : Int) (wr.drewN n) (Rd.touch0 HrL.out ((Touch.refl [] wr).drewN n))
      obtain ⟨v, hv⟩ : ∃ v, v = hasL L (k : Int) := ⟨_, rfl⟩
      rw [← hv] at hH
      have HH := Lib.hid hH
      have Hv := Lib.hid hv
      clear hH hv hZr
      go_wp2_with fail
      go_quiet ((go_at_call 14; refine Calls.quiet_of_same (HH.out _)))
      obtain ⟨W1, hW1⟩ : ∃ W1, W1 = wr.drewN nq := ⟨_, rfl⟩
      have TW1 : Touch [] wr W1 := by rw [hW1]; exact (Touch.refl [] wr).drewN _
      rw [← hW1]
      have zz0 := TW1.cell z0 (by simp)
      have zz2 := TW1.cell z2 (by simp)
      have HrL1 := Lib.hid (show RdI W1 AL L from Rd.touch0 HrL.out TW1)
      have HT1 := Lib.hid (HT.out.tab.touch0 (HM.out.t.trans0 TW1))
      have HTW1 := Lib.hid TW1
      obtain ⟨uv, huv⟩ : ∃ uv : Nat → Bool, uv = fun p => v || (L.take p).any fun x => nodeB N x && T x.toNat k := ⟨_, rfl⟩
      obtain ⟨dv, hdv⟩ : ∃ dv : Nat → Bool, dv = fun p => v || (L.take p).any fun x => nodeB N x && T k x.toNat := ⟨_, rfl⟩
      have Hu0 : Hid (uv 0 = v ∧ dv 0 = v) := Lib.hid (by rw [huv, hdv]; simp)
      have HuS : Hid (∀ p (hp : p < L.length), uv (p + 1) = (uv p || (nodeB N L[p] && T L[p].toNat k)) ∧ dv (p + 1) = (dv p || (nodeB N L[p] && T k L[p].toNat))) := Lib.hid (fun p hp => by
        rw [huv, hdv]
        simp only [List.take_succ_eq_append_getElem hp, List.any_append, List.any_cons, List.any_nil, Bool.or_false, Bool.or_assoc]
        refine ⟨?_, ?_⟩ <;> first | trivial | rfl)
      have HuE : Hid (uv L.length = upB T N L k ∧ dv L.length = dnB T N L k) := Lib.hid (by
        rw [huv, hdv]
        simp only [List.take_length]
        unfold upB dnB
        rw [← Hv.out]
        exact ⟨rfl, rfl⟩)
      have Hlen : Hid (bs.length = N) := Lib.hid HT.out.len
      clear huv hdv hW1 TW1 z0 z2
      go_wp2_with fail
      go_loop [9, 10, 69] (fun a b y => ∃ (p : Nat), p ≤ mL ∧ y = .int .i64 p ∧ a = .bool (uv p) ∧ b = .bool (dv p)) (fun _ _ y => mL - (intOf y).toNat)
      case atStart => exact ⟨0, by omega, rfl, by rw [Hu0.out.1], by rw [Hu0.out.2]⟩
      case round =>
        obtain ⟨p, hp, rfl, rfl, rfl⟩ := hrel
        by_cases hpm : p < mL
        · have hpL : p < L.length := by have := HmL.out; omega
          obtain ⟨ad, hAL, hcx⟩ := HrL1.out.at_ p hpL
          subst hAL
          obtain ⟨hs1, hs2⟩ := HuS.out p hpL
          obtain ⟨x, hx⟩ : ∃ x, x = L[p] := ⟨_, rfl⟩
          rw [← hx] at hcx hs1 hs2
          clear hx
          by_cases hx0 : 0 ≤ x
          · by_cases hxN : x < N
            · obtain ⟨j, rfl⟩ : ∃ j : Nat, x = j := ⟨x.toNat, by omega⟩
              have hn : nodeB N (j : Int) = true := nodeB_iff.2 (by omega)
              rw [hn, Bool.true_and, Int.toNat_natCast] at hs1 hs2
              obtain ⟨G, hG1, cj, rj⟩ := HT1.out.at_ j (by rw [Hlen.out]; omega)
              subst hG1
              obtain ⟨G2, hG2, ck, rk⟩ := HT1.out.at_ k (by rw [Hlen.out]; exact hkN)
              obtain rfl : G = G2 := by injection hG2 with e; injection e
              clear hG2
              have cjk := rj k hkN
              have ckj := rk j (by omega)
              obtain ⟨bj, hbj⟩ : ∃ bj, bj = bs[j]'(by rw [Hlen.out]; omega) := ⟨_, rfl⟩
              obtain ⟨bk, hbk⟩ : ∃ bk, bk = bs[k]'(by rw [Hlen.out]; exact hkN) := ⟨_, rfl⟩
              rw [← hbj] at cj cjk
              rw [← hbk] at ck ckj
              clear rj rk hbj hbk hn
              obtain ⟨tjk, htjk⟩ : ∃ tjk, tjk = T j k := ⟨_, rfl⟩
              obtain ⟨tkj, htkj⟩ : ∃ tkj, tkj = T k j := ⟨_, rfl⟩
              rw [← htjk] at cjk hs1
              rw [← htkj] at ckj hs2
              clear htjk htkj
              have Hs1 := Lib.hid hs1
              have Hs2 := Lib.hid hs2
              clear hs1 hs2
              rcases hu : uv p with _ | _
              · have Hu := Lib.hid hu
                clear hu
                rcases hd : dv p with _ | _
                · have Hd := Lib.hid hd
                  clear hd
                  go_wp2_with fail
                  go_round
                  case rel => exact ⟨p + 1, by omega, by go_num, by rw [Hs1.out, Hu.out]; simp, by rw [Hs2.out, Hd.out]; simp⟩
                  case measure => simp [intOf]; omega
                · have Hd := Lib.hid hd
                  clear hd
                  go_wp2_with fail
                  go_round
                  case rel => exact ⟨p + 1, by omega, by go_num, by rw [Hs1.out, Hu.out]; simp, by rw [Hs2.out, Hd.out]; simp⟩
                  case measure => simp [intOf]; omega
              · have Hu := Lib.hid hu
                clear hu
                rcases hd : dv p with _ | _
                · have Hd := Lib.hid hd
                  clear hd
                  go_wp2_with fail
                  go_round
                  case rel => exact ⟨p + 1, by omega, by go_num, by rw [Hs1.out, Hu.out]; simp, by rw [Hs2.out, Hd.out]; simp⟩
                  case measure => simp [intOf]; omega
                · have Hd := Lib.hid hd
                  clear hd
                  go_wp2_with fail
                  go_round
                  case rel => exact ⟨p + 1, by omega, by go_num, by rw [Hs1.out, Hu.out]; simp, by rw [Hs2.out, Hd.out]; simp⟩
                  case measure => simp [intOf]; omega
            · have hn : nodeB N x = false := by unfold nodeB; simp; omega
              rw [hn] at hs1 hs2
              have Hs1 := Lib.hid hs1
              have Hs2 := Lib.hid hs2
              have hxN' : (x < (N : Int)) = False := by simpa using hxN
              clear hs1 hs2 hn
              go_wp2_with fail
              go_round
              case rel => exact ⟨p + 1, by omega, by go_num, by rw [Hs1.out]; simp, by rw [Hs2.out]; simp⟩
              case measure => simp [intOf]; omega
          · have hn : nodeB N x = false := by unfold nodeB; simp; omega
            rw [hn] at hs1 hs2
            have Hs1 := Lib.hid hs1
            have Hs2 := Lib.hid hs2
            have hx0' : (0 ≤ x) = False := by simpa using hx0
            clear hs1 hs2 hn
            go_wp2_with fail
            go_round
            case rel => exact ⟨p + 1, by omega, by go_num, by rw [Hs1.out]; simp, by rw [Hs2.out]; simp⟩
            case measure => simp [intOf]; omega
        · obtain rfl : p = mL := by omega
          have HuE2 : Hid (uv p = upB T N L k ∧ dv p = dnB T N L k) := Lib.hid (by have := HuE.out; rw [HmL.out] at this; exact this)
          rw [HuE2.out.1, HuE2.out.2]
          have HM1 : Hid (MkS w4 (upB T N L) (dnB T N L) k q1 q2 Aw cw Ab cb W1) := Lib.hid ⟨HM.out.o1.touch0 HTW1.out, HM.out.o2.touch0 HTW1.out, HM.out.l1, HM.out.l2, HM.out.dis, HM.out.f1, HM.out.f2, HM.out.t.trans0 HTW1.out⟩
          clear HuE2 HuE HuS Hu0
          obtain ⟨wp, hwp⟩ : ∃ wp, wp = upB T N L := ⟨_, rfl⟩
          obtain ⟨bp, hbp⟩ : ∃ bp, bp = dnB T N L := ⟨_, rfl⟩
          have HwP := Lib.hid hwp
          have HbP := Lib.hid hbp
          rw [← hwp, ← hbp] at HM1
          rw [← hwp, ← hbp]
          clear hwp hbp
          rcases hv1 : wp k with _ | _
          · have HK : Hid (Mk1 w4 wp bp k q1 q2 Aw cw Ab cb W1) := Lib.hid (by
              have hpw : pick (k + 1) wp = pick k wp := by rw [pick_succ, hv1]; simp
              exact ⟨by rw [hpw]; exact HM1.out.o1, HM1.out.o2, by rw [hpw]; exact HM1.out.l1, HM1.out.l2, HM1.out.dis, HM1.out.f1, HM1.out.f2, HM1.out.t⟩)
            clear hv1
            have hk2 : q1 ≤ k + 1 := by rw [HK.out.l1]; exact pick_length_le _ _
            rcases hv2 : bp k with _ | _
            · have Hpb : Hid (pick (k + 1) bp = pick k bp) := Lib.hid (by rw [pick_succ, hv2]; simp)
              clear hv2
              go_wp2_with fail
              go_roundw
              case rel => exact ⟨k + 1, q1, q2, Aw, Ab, cw, cb, by omega, hk2, by omega, by go_num, rfl, rfl, Lib.hid (by rw [← HwP.out, ← HbP.out]; exact ⟨HK.out.o1, by rw [Hpb.out]; exact HK.out.o2, HK.out.l1, by rw [Hpb.out]; exact HK.out.l2, HK.out.dis, HK.out.f1, HK.out.f2, HK.out.t⟩)⟩
              case measure => simp [intOf]; omega
            · have Hpb : Hid (pick (k + 1) bp = pick k bp ++ [k]) := Lib.hid (by rw [pick_succ, hv2]; simp)
              clear hv2
              have tb := (Touch.refl [] W1).alloc (.cells #[.int .i64 (k : Int)] 3)
              go_wp2_with (at_builtin; refine stop ?_)
              refine go ?_
              refine wpList_appK (enc := nE) rfl (.tmp 108) (.tmp 110) 31 rfl 3 (.int .i64 0) 1 8 info_int Try.underlying31 rfl (by omega) (fun _ => rfl) nE_one2 Ab q2 cb (pick k bp) HK.out.l2.symm rfl (HK.out.o2.touch0 tb)
                (some ⟨W1.heap.size, 0, none⟩) 1 1 [k] rfl rfl (RdK.one (enc := nE) W1 3 k #[.int .i64 (k : Int)] rfl) (by omega) (by omega) ?_
              intro A4 c4 w7 hown4 ht4 hf4
              have H7 := Lib.hid (HK.out.more2 tb hown4 ht4 hf4 Hpb.out)
              clear hown4 ht4 hf4
              go_wp2_with fail
              go_roundw
              case rel => exact ⟨k + 1, q1, q2 + 1, Aw, A4, cw, c4, by omega, hk2, by omega, by go_num, rfl, rfl, Lib.hid (by rw [← HwP.out, ← HbP.out]; exact H7.out)⟩
              case measure => simp [intOf]; omega
          · have Hpw : Hid (pick (k + 1) wp = pick k wp ++ [k]) := Lib.hid (by rw [pick_succ, hv1]; simp)
            clear hv1
            have tb := (Touch.refl [] W1).alloc (.cells #[.int .i64 (k : Int)] 3)
            go_wp2_with (at_builtin; refine stop ?_)
            refine go ?_
            refine wpList_appK (enc := nE) rfl (.tmp 103) (.tmp 105) 31 rfl 3 (.int .i64 0) 1 8 info_int Try.underlying31 rfl (by omega) (fun _ => rfl) nE_one2 Aw q1 cw (pick k wp) HM1.out.l1.symm rfl (HM1.out.o1.touch0 tb)
              (some ⟨W1.heap.size, 0, none⟩) 1 1 [k] rfl rfl (RdK.one (enc := nE) W1 3 k #[.int .i64 (k : Int)] rfl) (by omega) (by omega) ?_
            intro A3 c3 wz hown3 ht3 hf3
            have HK : Hid (Mk1 w4 wp bp k (q1 + 1) q2 A3 c3 Ab cb wz) := Lib.hid (by
              obtain ⟨r1, r2, r3, r4, r5⟩ := HM1.out.more1 tb hown3 ht3 hf3
              exact ⟨by rw [Hpw.out]; exact r1, r2, by rw [Hpw.out, List.length_append, ← HM1.out.l1]; rfl, HM1.out.l2, r3, r4, HM1.out.f2, r5⟩)
            clear hown3 ht3 hf3
            have hk2 : (q1 + 1) ≤ k + 1 := by rw [HK.out.l1]; exact pick_length_le _ _
            rcases hv2 : bp k with _ | _
            · have Hpb : Hid (pick (k + 1) bp = pick k bp) := Lib.hid (by rw [pick_succ, hv2]; simp)
              clear hv2
              go_wp2_with fail
              go_roundw
              case rel => exact ⟨k + 1, (q1 + 1), q2, A3, Ab, c3, cb, by omega, hk2, by omega, by go_num, rfl, rfl, Lib.hid (by rw [← HwP.out, ← HbP.out]; exact ⟨HK.out.o1, by rw [Hpb.out]; exact HK.out.o2, HK.out.l1, by rw [Hpb.out]; exact HK.out.l2, HK.out.dis, HK.out.f1, HK.out.f2, HK.out.t⟩)⟩
              case measure => simp [intOf]; omega
            · have Hpb : Hid (pick (k + 1) bp = pick k bp ++ [k]) := Lib.hid (by rw [pick_succ, hv2]; simp)
              clear hv2
              have tb := (Touch.refl [] wz).alloc (.cells #[.int .i64 (k : Int)] 3)
              go_wp2_with (at_builtin; refine stop ?_)
              refine go ?_
              refine wpList_appK (enc := nE) rfl (.tmp 108) (.tmp 110) 31 rfl 3 (.int .i64 0) 1 8 info_int Try.underlying31 rfl (by omega) (fun _ => rfl) nE_one2 Ab q2 cb (pick k bp) HK.out.l2.symm rfl (HK.out.o2.touch0 tb)
                (some ⟨wz.heap.size, 0, none⟩) 1 1 [k] rfl rfl (RdK.one (enc := nE) wz 3 k #[.int .i64 (k : Int)] rfl) (by omega) (by omega) ?_
              intro A4 c4 w7 hown4 ht4 hf4
              have H7 := Lib.hid (HK.out.more2 tb hown4 ht4 hf4 Hpb.out)
              clear hown4 ht4 hf4
              go_wp2_with fail
              go_roundw
              case rel => exact ⟨k + 1, (q1 + 1), q2 + 1, A3, A4, c3, c4, by omega, hk2, by omega, by go_num, rfl, rfl, Lib.hid (by rw [← HwP.out, ← HbP.out]; exact H7.out)⟩
              case measure => simp [intOf]; omega
    · obtain rfl : k = N := by omega
      have HGw := Lib.hid (HG4.out.touch0 HM.out.t)
      have hUp : upN (nsL k ls) L = pick k (upB T k L) ∧ dnN (nsL k ls) L = pick k (dnB T k L) := by rw [HTe.out]; exact reach_up hmN Ha.out L
      obtain ⟨Lw, hLw⟩ : ∃ Lw, Lw = iN (pick k (upB T k L)) := ⟨_, rfl⟩
      obtain ⟨Lb, hLb⟩ : ∃ Lb, Lb = iN (pick k (dnB T k L)) := ⟨_, rfl⟩
      have hab := above_any _ up g X (nsL k ls) ds AL cL mL L HmL.out (by omega) wr HGw.out HrL.out
      rw [hUp.1, ← hLw] at hab
      have HAb := Lib.hid hab
      have HUp2 := Lib.hid hUp.2
      have Hl1 : Hid (Lw.length = q1) := Lib.hid (by rw [hLw, List.length_map]; exact HM.out.l1.symm)
      have Hl2 : Hid (Lb.length = q2) := Lib.hid (by rw [hLb, List.length_map]; exact HM.out.l2.symm)
      have Hr1 : Hid (RdI wr Aw Lw) := Lib.hid (by rw [hLw]; exact rdI_of_ownN HM.out.o1)
      have Hr2 : Hid (RdI wr Ab Lb) := Lib.hid (by rw [hLb]; exact rdI_of_ownN HM.out.o2)
      have HLb := Lib.hid hLb
      clear hab hUp hLw hLb hZr
      obtain ⟨m1, hm1⟩ : ∃ m1, m1 = Lw.length := ⟨_, rfl⟩
      obtain ⟨m2, hm2⟩ : ∃ m2, m2 = Lb.length := ⟨_, rfl⟩
      have Hm1 := Lib.hid hm1
      have Hm2 := Lib.hid hm2
      clear hm1 hm2
      go_wp2_with fail
      refine HAb.out.mono ?_
      rintro e w5 ⟨A5, c5, rfl, ho5, t5, hf5⟩
      have Hsame := Lib.hid (same_any A5 c5 m1 Lw Hm1.out.symm Aw cw q1 Lw Hl1.out (by have := Hm1.out; have := Hl1.out; omega) (by omega) w5 (rdI_of_ownI ho5) (Rd.touch0 Hr1.out t5))
      rw [← Hm1.out]
      have z2' := t5.cell z2 (by simp)
      have Ht5 := Lib.hid t5
      clear ho5 t5 hf5 HAb
      go_wp2_with fail
      refine Hsame.out.mono ?_
      rintro e w6 ⟨rfl, t6⟩
      have h1 : oneL Lw Lw = true := oneL_iff.2 rfl
      rw [h1]
      have z2'' := t6.cell z2' (by simp)
      have Ht6 := Lib.hid (Ht5.out.trans0 t6)
      have hne2 := below_any _ up g X (nsL k ls) ds AL cL mL L HmL.out (by omega) w6 (HGw.out.touch0 Ht6.out) (Rd.touch0 HrL.out Ht6.out)
      rw [HUp2.out, ← HLb.out] at hne2
      have HNe2 := Lib.hid hne2
      clear hne2 t6 h1 Hsame
      go_wp2_with fail
      refine HNe2.out.mono ?_
      rintro e w7 ⟨A7, c7, rfl, ho7, t7, hf7⟩
      have Hsame2 := Lib.hid (same_any A7 c7 m2 Lb Hm2.out.symm Ab cb q2 Lb Hl2.out (by have := Hm2.out; have := Hl2.out; omega) (by omega) w7 (rdI_of_ownI ho7) (Rd.touch0 (Rd.touch0 Hr2.out Ht6.out) t7))
      rw [← Hm2.out]
      have Ht7 := Lib.hid (Ht6.out.trans0 t7)
      clear ho7 t7 hf7 HNe2
      go_wp2_with fail
      refine Hsame2.out.mono ?_
      rintro e w8 ⟨rfl, t8⟩
      have h2 : oneL Lb Lb = true := oneL_iff.2 rfl
      rw [h2]
      have Ht8 := Lib.hid (HM.out.t.trans0 (Ht7.out.trans0 t8))
      clear t8 h2 Hsame2
      go_wp2_with fail
      refine (awake_any w8).mono ?_
      rintro e w9 ⟨rfl, t9⟩
      go_wp2
      go_ret
      exact ⟨rfl, (Ht4.out.trans0 Ht8.out).trans0 t9⟩
end Go.Proofs.Ytmehdlflhllhdaa
