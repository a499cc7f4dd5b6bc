/- bywashlaw16.GraphOrders: the walk of the law. For every input. -/
import Derived.Test.YtmehdlflhllhdaaGrOp
import Derived.Test.YtmehdlflhllhdaaGrMakes
import Derived.Carry
import Derived.BigQuiet
namespace Go.Proofs.Ytmehdlflhllhdaa
open Go.RowKit Go.Maps Go.ChangeMaps

/-- the list in the loops -/
structure WnS (w0 : World) (D : Nat → Nat) (L : List Nat) (q : Nat) (mv : Int) (A : Option Addr) (c : Nat) (wr : World) : Prop where
  own : OwnK 3 1 nE wr A c L
  len : L.length = q
  mst : mv = lastV D L
  t : Touch [] w0 wr
  f : ∀ b ∈ fpo A, w0.heap.size ≤ b
theorem WnS.more {w0 : World} {D : Nat → Nat} {L : List Nat} {q : Nat} {mv : Int} {A : Option Addr} {c : Nat} {wr w2 w3 : World} {k : Nat} (h : WnS w0 D L q mv A c wr) (t2 : Touch [] wr w2) {A3 : Option Addr} {c3 : Nat} (ho : OwnK 3 1 nE w3 A3 c3 (L ++ [k])) (t3 : Touch (fpo A) w2 w3) (hf : ∀ b ∈ fpo A3, b ∈ fpo A ∨ b = w2.heap.size) :
    WnS w0 D (L ++ [k]) (q + 1) (D k : Nat) A3 c3 w3 :=
  ⟨ho, by rw [List.length_append, h.len]; rfl, (lastV_snoc D L k).symm, (h.t.trans0 t2).trans t3 (fun b hb => .inr (h.f b hb)), fun b hb => by
    rcases hf b hb with e | e
    · exact h.f b e
    · have := t2.size; have := h.t.size; omega⟩

theorem depth_in {lo up g : Nat} {X : GX} {ns nd : List (List Nat)} {ds : List Nat} {w : World} (h : GAt lo up w g X ns nd ds) (N : Nat) (hN : ns.length = N) (k : Nat) (hk : k < N) :
    Calls Try.prog 19 #[gP g, .int .i64 k] w fun e w' => e = .returned (.int .i64 (ds.getD k 0 : Nat)) ∧ w' = w := by
  have z := depth_any g X ds N (by rw [h.dl, hN]) (k : Int) w (by have := h.hd; rw [hN] at this; exact this) (by have := h.dp; rw [hN] at this; exact this)
  rw [if_pos (by omega), Int.toNat_natCast] at z
  exact z
theorem depth_off {lo up g : Nat} {X : GX} {ns nd : List (List Nat)} {ds : List Nat} {w : World} (h : GAt lo up w g X ns nd ds) (N : Nat) (hN : ns.length = N) (k : Int) (hk : ¬ (0 ≤ k ∧ k < N)) :
    Calls Try.prog 19 #[gP g, .int .i64 k] w fun e w' => e = .returned (.int .i64 (-1)) ∧ w' = w := by
  have z := depth_any g X ds N (by rw [h.dl, hN]) k w (by have := h.hd; rw [hN] at this; exact this) (by have := h.dp; rw [hN] at this; exact this)
  rw [if_neg hk] at z
  exact z

set_option maxRecDepth 20000 in
set_option maxHeartbeats 8000000 in
theorem orders_ok (N : Nat) (hN : N ≤ 24) (A : Option Addr) (c m : Nat) (ls : List (List Int)) (hm : ls.length = m) (hmN : m ≤ N) (w : World) (h : InR w A ls) (hb : ∀ l ∈ ls, l.length ≤ 40) (ha : ∀ l ∈ ls, allN N l = true) (hr : ¬ Ring (nsL N ls))
    (hs : Calls Try.prog 9 #[.int .i64 N, .slice A m c] w fun e w' => e = .returned (.bool true) ∧ w' = w) :
    Calls Try.prog 4 #[.int .i64 N, .slice A m c] w fun e w' => e = .returned (.bool true) ∧ Touch [] w w' := by
  have HS := Lib.hid hs
  have HW := Lib.hid (by
    have := wrong_any (N : Int) A c m ls hm (by omega) w h (fun l hl => by have := hb l hl; omega)
    rw [(wrongV_in (by omega) (by omega) ha).2 hr] at this
    exact this)
  have Hb := Lib.hid hb
  have Ha := Lib.hid ha
  have Hr := Lib.hid hr
  have Hm := Lib.hid hm
  clear hs hb ha hr hm
  go_enter Try.func4, Try.ntmps4
  go_wp2_with fail
  refine HS.out.mono ?_
  rintro e w1 ⟨rfl, hw1⟩
  rw [hw1]
  clear hw1 HS
  go_wp2_with fail
  refine HW.out.mono ?_
  rintro e w2 ⟨rfl, t2⟩
  have Ht2 := Lib.hid t2
  have hNw := new_any N (by omega) A c m ls Hm.out hmN w2 (h.touch0 t2) (fun l hl => by have := Hb.out l hl; omega)
  have HN := Lib.hid hNw
  clear t2 HW hNw
  go_wp2_with fail
  refine HN.out.mono ?_
  rintro e w3 hp
  obtain ⟨t3, g, X, ds, up, rfl, hG⟩ := hp.ok (by have := Hm.out; omega) Ha.out Hr.out
  have HG := Lib.hid hG
  have Ht3 := Lib.hid (Ht2.out.trans0 t3)
  have hdl : ds.length = N := by have := hG.gr.dl; rw [nsL_length] at this; exact this
  obtain ⟨D, hD⟩ : ∃ D : Nat → Nat, D = fun k => ds.getD k 0 := ⟨_, rfl⟩
  have hDp : Deep (nsL N ls) D := by rw [hD]; exact hG.dp
  have hDN : ∀ k, k < N → D k < N := fun k hk => hDp.le (by have := Hm.out; omega) Ha.out k hk
  have HDp := Lib.hid hDp
  have HDN := Lib.hid hDN
  have HD := Lib.hid hD
  have Hdl := Lib.hid hdl
  have HRD := Lib.hid (refDepths_any N (by omega) A c m ls Hm.out hmN w3 (h.touch0 Ht3.out) (fun l hl => by have := Hb.out l hl; omega) Ha.out D hDp (fun k hk => Nat.le_of_lt (hDN k hk)))
  clear t3 hp hG HN hD hDp hDN hdl Ht2
  go_wp2_with fail
  refine HRD.out.mono ?_
  rintro e w4 ⟨Gd, dd, rfl, hrd, hdd, t4, hGd⟩
  have hR4 := hrd.congr hdd
  have HR4 := Lib.hid hR4
  have HG4 := Lib.hid (HG.out.touch0 t4)
  have Ht4 := Lib.hid (Ht3.out.trans0 t4)
  clear hrd hdd t4 hGd HRD HG Ht3 hR4
  go_wp2_with fail
  go_loopw [8, 9, 10] (fun a mo y wr => ∃ (dep q : Nat) (mv : Int) (Aw : Option Addr) (cw : Nat), dep ≤ N + 1 ∧ q ≤ dep * N ∧ y = .int .i64 dep ∧ mo = .int .i64 mv ∧ a = .slice Aw q cw ∧ Hid (WnS w4 D (wantN N D dep 0) q mv Aw cw wr)) (fun _ _ y _ => N + 1 - (intOf y).toNat)
  case atStart => exact ⟨0, 0, -1, none, 0, by omega, by omega, rfl, rfl, rfl, Lib.hid ⟨by rw [wantN_zero]; exact OwnK.nil _ _ _ _, by rw [wantN_zero]; rfl, by rw [wantN_zero]; rfl, Touch.refl _ _, by simp [fpo]⟩⟩
  case round =>
    obtain ⟨dep, q, mv, Aw, cw, hdep, hq, rfl, rfl, rfl, HM⟩ := hrel
    by_cases hdN : dep ≤ N
    · have hq2 : dep * N ≤ 24 * 24 := Nat.mul_le_mul (by omega) (by omega)
      go_wp2_with fail
      go_loopw [8, 9, 52] (fun a mo y wr => ∃ (k q : Nat) (mv : Int) (Aw : Option Addr) (cw : Nat), k ≤ N ∧ q ≤ 1000 ∧ y = .int .i64 k ∧ mo = .int .i64 mv ∧ a = .slice Aw q cw ∧ Hid (WnS w4 D (wantN N D dep k) q mv Aw cw wr)) (fun _ _ y _ => N - (intOf y).toNat)
      case atStart => exact ⟨0, q, mv, Aw, cw, by omega, by omega, rfl, rfl, rfl, HM⟩
      case round =>
        clear HM hq hq2
        obtain ⟨k, q, mv, Aw, cw, hk, hq, rfl, rfl, rfl, HM⟩ := hrel
        by_cases hkN : k < N
        · have ck := (HR4.out.touch0 HM.out.t).cell k hkN
          by_cases hx : D k = dep
          · rw [hx] at ck
            have Hx := Lib.hid hx
            clear hx
            have tb := (Touch.refl [] wr).alloc (.cells #[.int .i64 (k : Int)] 3)
            go_wp2_with (at_builtin; refine stop ?_)
            refine go ?_
            refine wpList_appK (enc := nE) rfl (.tmp 61) (.tmp 63) 31 rfl 3 (.int .i64 0) 1 8 info_int Try.underlying31 rfl (by omega) (fun _ => rfl) nE_one2 Aw q cw (wantN N D dep k) HM.out.len rfl (HM.out.own.touch0 tb)
              (some ⟨wr.heap.size, 0, none⟩) 1 1 [k] rfl rfl (RdK.one (enc := nE) wr 3 k #[.int .i64 (k : Int)] rfl) (by omega) (by omega) ?_
            intro A3 c3 w5 hown3 ht3 hf3
            have HK : Hid (WnS w4 D (wantN N D dep (k + 1)) (q + 1) dep A3 c3 w5) := Lib.hid (by
              rw [wantN_yes Hx.out]
              have := HM.out.more tb hown3 ht3 hf3
              rw [Hx.out] at this
              exact this)
            clear hown3 ht3 hf3
            go_wp2_with fail
            go_roundw
            case rel => exact ⟨k + 1, q + 1, dep, A3, c3, by omega, by
              have h1 := HK.out.len
              have h2 := wantN_len N D dep (k + 1) (by omega)
              have h3 : (dep + 1) * N ≤ 25 * 24 := Nat.mul_le_mul (by omega) (by omega)
              omega, by go_num, rfl, rfl, HK⟩
            case measure => simp [intOf]; omega
          · have Hx := Lib.hid hx
            have hx2 : ((D k : Int) == (dep : Int)) = false := by simp; omega
            have HK : Hid (WnS w4 D (wantN N D dep (k + 1)) q mv Aw cw wr) := Lib.hid (by rw [wantN_no hx]; exact HM.out)
            clear hx
            go_wp2_with fail
            go_roundw
            case rel => exact ⟨k + 1, q, mv, Aw, cw, by omega, hq, by go_num, rfl, rfl, HK⟩
            case measure => simp [intOf]; omega
        · obtain rfl : k = N := by omega
          have HK : Hid (WnS w4 D (wantN k D (dep + 1) 0) q mv Aw cw wr) := Lib.hid (by rw [← wantN_row]; exact HM.out)
          go_wp2_with fail
          go_roundw
          case rel => exact ⟨dep + 1, q, mv, Aw, cw, by omega, by
              have h1 := HM.out.len
              have h2 := wantN_len k D dep k (by omega)
              omega, by go_num, rfl, rfl, HK⟩
          case measure => simp [intOf]; omega
    · obtain rfl : dep = N + 1 := by omega
      obtain ⟨L, hL⟩ : ∃ L, L = ordN N D := ⟨_, rfl⟩
      rw [wantN_all, ← hL] at HM
      have hLl : L.length = N := by rw [hL]; exact ordN_len fun i hi => Nat.le_of_lt (HDN.out i hi)
      have hLm : mv = mostV ds := by
        rw [HM.out.mst, hL, HD.out]
        exact ordN_last Hdl.out fun i hi => by have := HDN.out i hi; rw [HD.out] at this; exact Nat.le_of_lt this
      have HLp : Hid (L.Pairwise (ltL D) ∧ ∀ x, x ∈ L ↔ x < N) := Lib.hid (by rw [hL]; exact ⟨ordN_pw N D, ordN_mem N D fun i hi => Nat.le_of_lt (HDN.out i hi)⟩)
      obtain rfl : N = q := by have := HM.out.len; omega
      have HL := Lib.hid hL
      have HLl := Lib.hid hLl
      have HLm := Lib.hid hLm
      have Hns : Hid ((nsL N ls).length = N) := Lib.hid (nsL_length N ls)
      obtain ⟨Wa, hWa⟩ : ∃ Wa, Wa = wr := ⟨_, rfl⟩
      subst hWa
      clear hL hLl hLm hq hdep
      have hmm := @run_makeMap Try.prog
      go_wp2_with fail
      go_loopw [68] (fun y wr => ∃ k : Nat, k ≤ N ∧ y = .int .i64 k ∧ Hid (Touch [] Wa wr)) (fun y _ => N - (intOf y).toNat)
      case atStart => exact ⟨0, by omega, rfl, Lib.hid (Touch.refl _ _)⟩
      case round =>
        obtain ⟨k, hk, rfl, HT⟩ := hrel
        by_cases hkN : k < N
        · have ck := (HR4.out.touch0 (HM.out.t.trans0 HT.out)).cell k hkN
          have hDc := fun n => depth_in (HG4.out.gr.touch0 ((HM.out.t.trans0 HT.out).drewN n)) N Hns.out k hkN
          rw [show ds.getD k 0 = D k by rw [HD.out]] at hDc
          obtain ⟨x, hx⟩ : ∃ x, x = D k := ⟨_, rfl⟩
          rw [← hx] at ck hDc
          have HDc := Lib.hid hDc
          clear hx hDc hmm
          go_wp2_with fail
          go_quiet ((go_at_call 19; refine Calls.quiet_of_same (HDc.out _)))
          go_wp2_with fail
          go_roundw
          case rel => exact ⟨k + 1, by omega, by go_num, Lib.hid (HT.out.drewN _)⟩
          case measure => simp [intOf]; omega
        · obtain rfl : k = N := by omega
          obtain ⟨W3, hW3⟩ : ∃ W3, W3 = wr := ⟨_, rfl⟩
          subst hW3
          obtain ⟨Wb, hWb⟩ : ∃ Wb, Wb = W3.alloc (.map #[] 0) := ⟨_, rfl⟩
          have hMp : MapAt Try.prog 3 Wb W3.heap.size (posK L 0) := by rw [hWb, posK_zero]; exact MapAt.made W3
          have tb : Touch [] W3 Wb := by rw [hWb]; exact (Touch.refl [] W3).alloc _
          have hord := order_any _ up g X (nsL k ls) _ ds Wb (HG4.out.gr.touch0 ((HM.out.t.trans0 HT.out).trans0 tb)) k Hns.out.symm (by omega) (fun i hi => by have := HDN.out i hi; rw [HD.out] at this; exact Nat.le_of_lt this)
          rw [← HD.out, ← HL.out] at hord
          have hlen : (iN L).length = k := by unfold iN; rw [List.length_map]; exact HLl.out
          unfold OutI at hord
          rw [hlen] at hord
          rw [hWb] at hord
          have HO := Lib.hid hord
          have HWb := Lib.hid (And.intro hWb (And.intro hMp tb))
          clear hord hWb hMp tb hlen
          go_wp2_with fail
          refine HO.out.mono ?_
          rintro e w5 ⟨Ao, co, rfl, ho5, t5, hf5⟩
          have hsz : Wb.heap.size = W3.heap.size + 1 := by rw [HWb.out.1, World.size_alloc]
          rw [← HWb.out.1] at t5 hf5
          have HMp5 : Hid (MapAt Try.prog 3 w5 W3.heap.size (posK L 0)) := Lib.hid (HWb.out.2.1.touch t5 (by simp))
          have HT5 : Hid (Touch [] W3 w5) := Lib.hid (HWb.out.2.2.trans0 t5)
          have hbf : ∀ b ∈ fpo Ao, b ∉ [W3.heap.size] := fun b hb hm => by have := hf5 b hb; simp at hm; omega
          have Hbf := Lib.hid hbf
          have HR5 : Hid (RdI w5 Ao (iN L)) := Lib.hid (rdI_of_ownI ho5)
          obtain ⟨bm, hbm⟩ : ∃ bm, bm = W3.heap.size := ⟨_, rfl⟩
          rw [← hbm] at HMp5 Hbf
          clear hmm HO ho5 t5 hf5 hsz hbf
          go_wp2_with fail
          rw [← hbm]
          have Hbm := Lib.hid (Nat.le_of_eq hbm.symm)
          clear hbm
          go_loopw [84] (fun y wr => ∃ p : Nat, p ≤ k ∧ y = .int .i64 p ∧ Hid (MapAt Try.prog 3 wr bm (posK L p) ∧ Touch [bm] w5 wr)) (fun y _ => k - (intOf y).toNat)
          case atStart => exact ⟨0, by omega, rfl, Lib.hid ⟨HMp5.out, Touch.refl _ _⟩⟩
          case round =>
            clear HMp5
            obtain ⟨p, hp, rfl, HMp⟩ := hrel
            by_cases hpk : p < k
            · have hpl : p < (iN L).length := by unfold iN; rw [List.length_map, HLl.out]; exact hpk
              obtain ⟨ad, rfl, hc⟩ := (show RdI wr Ao (iN L) from Rd.touch HR5.out HMp.out.2 Hbf.out).at_ p hpl
              have hpL : p < L.length := by rw [HLl.out]; exact hpk
              rw [show (iN L)[p] = ((L.getD p 0 : Nat) : Int) by unfold iN; rw [List.getElem_map, getD_at hpL]] at hc
              have hxk : L.getD p 0 < k := (HLp.out.2 _).1 (by rw [getD_at hpL]; exact List.getElem_mem hpL)
              obtain ⟨w6, hrun, hmp6, t6⟩ := HMp.out.1.put_new (int_keyed Try.underlying3) Try.underlying37 (int_key ((L.getD p 0 : Nat) : Int) (by omega) (by omega)) (posK_miss HLp.out.1 hpL) (.int .i64 (p : Nat))
              rw [← posK_succ] at hmp6
              obtain ⟨x, hx⟩ : ∃ x, x = L.getD p 0 := ⟨_, rfl⟩
              rw [← hx] at hc hrun
              have Hrun := Lib.hid hrun
              have H6 := Lib.hid (And.intro hmp6 (HMp.out.2.trans t6 (fun b hb => .inl hb)))
              clear hx hrun hmp6 t6 hpl hpL hxk
              go_wp2_with (at_mapUpdate; refine stop ?_)
              refine go ?_
              refine wpList_update_is rfl (.tmp 89) (.tmp 90) (.tmp 91) 37 rfl _ _ _ rfl rfl rfl Hrun.out ?_
              go_wp2_with fail
              go_roundw
              case rel => exact ⟨p + 1, by omega, by go_num, H6⟩
              case measure => simp [intOf]; omega
            · obtain rfl : p = k := by omega
              obtain ⟨W6, hW6⟩ : ∃ W6, W6 = wr := ⟨_, rfl⟩
              subst hW6
              have HMq : Hid (MapAt Try.prog 3 W6 bm (posK L L.length)) := Lib.hid (by rw [HLl.out]; exact HMp.out.1)
              have HTw6 : Hid (Touch [] w W6) := Lib.hid (by
                have z := Ht4.out.trans0 (HM.out.t.trans0 (HT.out.trans0 HT5.out))
                have := (Ht4.out.trans0 (HM.out.t.trans0 HT.out)).size
                have := Hbm.out
                exact z.trans HMp.out.2 (fun b hb => by simp at hb; subst hb; exact .inr (by omega)))
              have HT46 : Hid (Touch [] Wa W6) := Lib.hid (by
                have := HT.out.size
                have := Hbm.out
                exact (HT.out.trans0 HT5.out).trans HMp.out.2 (fun b hb => by simp at hb; subst hb; exact .inr (by omega)))
              clear HMp HR5 Hbf HT5 HT Hbm
              go_wp2_with fail
              go_loopw [95] (fun y wr => ∃ i : Nat, i ≤ m ∧ y = .int .i64 i ∧ wr = W6) (fun y _ => m - (intOf y).toNat)
              case atStart => exact ⟨0, by omega, rfl, rfl⟩
              case round =>
                obtain ⟨i, hi, rfl, hwr⟩ := hrel
                subst hwr
                by_cases him : i < m
                · have hil : i < ls.length := by have := Hm.out; omega
                  obtain ⟨ad, A', c', rfl, hc, _, hrow⟩ := (h.touch0 HTw6.out).at_ i hil
                  obtain ⟨q, hq⟩ : ∃ q, q = ls[i].length := ⟨_, rfl⟩
                  rw [← hq] at hc
                  have hq40 : q ≤ 40 := by rw [hq]; exact Hb.out _ (List.getElem_mem hil)
                  have Hq := Lib.hid hq
                  have Hrow := Lib.hid hrow
                  clear hq hrow
                  go_wp2_with fail
                  go_loopw [102] (fun y w7 => ∃ j : Nat, j ≤ q ∧ y = .int .i64 j ∧ w7 = wr) (fun y _ => q - (intOf y).toNat)
                  case atStart => exact ⟨0, by omega, rfl, rfl⟩
                  case round =>
                    obtain ⟨j, hj, rfl, hwr⟩ := hrel
                    rename_i w8
                    subst hwr
                    by_cases hjq : j < q
                    · have hjl : j < ls[i].length := by have := Hq.out; omega
                      obtain ⟨ad2, rfl, hc2⟩ := Hrow.out.at_ j hjl
                      have hyn := nodeB_iff.1 (List.all_eq_true.1 (Ha.out _ (List.getElem_mem hil)) _ (List.getElem_mem hjl))
                      obtain ⟨y, hy⟩ : ∃ y : Nat, ls[i][j] = (y : Int) := ⟨ls[i][j].toNat, by omega⟩
                      have hyi : D y < D i := by
                        refine HDp.out.up i y ?_
                        rw [nsOf_nsL p ls (by have := Hm.out; omega), mem_rowU (allN_getD Ha.out _), ← hy, show ls.getD i [] = ls[i] by simp [hil]]
                        exact List.getElem_mem hjl
                      rw [hy] at hc2 hyn
                      obtain ⟨p1, hp1, e1, hit1⟩ := posK_hit ((HLp.out.2 y).2 (by omega))
                      obtain ⟨p2, hp2, e2, hit2⟩ := posK_hit ((HLp.out.2 i).2 (by omega))
                      have hlt : p1 < p2 := pos_lt HLp.out.1 hp1 hp2 (by rw [e1, e2]; exact hyi)
                      have hge : ((p2 : Int) ≤ (p1 : Int)) = False := by simp; omega
                      have L1 := Lib.hid (HMq.out.hit (int_keyed Try.underlying3) Try.underlying37 (int_key ((y : Nat) : Int) (by omega) (by omega)) hit1 false)
                      have L2 := Lib.hid (HMq.out.hit (int_keyed Try.underlying3) Try.underlying37 (int_key ((i : Nat) : Int) (by omega) (by omega)) hit2 false)
                      clear hit1 hit2 e1 e2 hyi hy hp1 hp2 hyn
                      go_wp2_with (at_lookup; refine stop ?_)
                      refine go ?_
                      refine wpList_lookup_is rfl (.tmp 106) (.tmp 107) 37 false rfl _ _ _ rfl rfl L1.out ?_
                      go_wp2_with (at_lookup; refine stop ?_)
                      refine go ?_
                      refine wpList_lookup_is rfl (.tmp 109) (.tmp 110) 37 false rfl _ _ _ rfl rfl L2.out ?_
                      go_wp2_with fail
                      go_roundw
                      case rel => exact ⟨j + 1, by omega, by go_num, by first | trivial | rfl⟩
                      case measure => simp [intOf]; omega
                    · obtain rfl : j = q := by omega
                      go_wp2_with fail
                      go_roundw
                      case rel => exact ⟨i + 1, by omega, by go_num, by first | trivial | rfl⟩
                      case measure => simp [intOf]; omega
                · obtain rfl : i = m := by omega
                  have hG6 := HG4.out.gr.touch0 (HM.out.t.trans0 HT46.out)
                  have hord := order_any _ up g X (nsL p ls) _ ds wr hG6 p Hns.out.symm (by omega) (fun i hi => by have := HDN.out i hi; rw [HD.out] at this; exact Nat.le_of_lt this)
                  rw [← HD.out, ← HL.out] at hord
                  obtain ⟨LL, hLL⟩ : ∃ LL, LL = iN L := ⟨_, rfl⟩
                  have hlen : LL.length = p := by rw [hLL]; unfold iN; rw [List.length_map]; exact HLl.out
                  rw [← hLL] at hord
                  unfold OutI at hord
                  rw [hlen] at hord
                  have HO := Lib.hid hord
                  have Hlen := Lib.hid hlen
                  have Hwant : Hid (RdI wr Aw LL) := Lib.hid (by rw [hLL]; exact Rd.touch0 (rdI_of_ownN HM.out.own) HT46.out)
                  have HG6 := Lib.hid hG6
                  clear hG6 hord hlen hLL HMq
                  go_wp2_with fail
                  refine HO.out.mono ?_
                  rintro e w7 ⟨A7, c7, rfl, ho7, t7, hf7⟩
                  have Hsame := Lib.hid (same_any A7 c7 p LL Hlen.out Aw cw p LL Hlen.out (by omega) (by omega) w7 (rdI_of_ownI ho7) (Rd.touch0 Hwant.out t7))
                  have Ht7 := Lib.hid t7
                  clear ho7 t7 hf7 HO
                  go_wp2_with fail
                  refine Hsame.out.mono ?_
                  rintro e w8 ⟨rfl, t8⟩
                  have h1 : oneL LL LL = true := oneL_iff.2 rfl
                  rw [h1]
                  have Ht8 := Lib.hid (Ht7.out.trans0 t8)
                  have hG8 := HG6.out.touch0 Ht8.out
                  have HG8 := Lib.hid hG8
                  have hdp := deepest_any g X ds p Hdl.out (by omega) w8 (by have := hG8.hd; rw [Hns.out] at this; exact this) (by have := hG8.dp; rw [Hns.out] at this; exact this)
                  rw [← HLm.out] at hdp
                  have HDp2 := Lib.hid hdp
                  clear hdp hG8 t8 h1 Hsame
                  go_wp2_with fail
                  refine HDp2.out.mono ?_
                  rintro e w9 ⟨rfl, hw9⟩
                  rw [hw9]
                  clear hw9 HDp2
                  have HE1 := Lib.hid (depth_off HG8.out p Hns.out (-1) (by omega))
                  have HE2 := Lib.hid (depth_off HG8.out p Hns.out (p : Int) (by omega))
                  go_wp2_with fail
                  refine HE1.out.mono ?_
                  rintro e w9 ⟨rfl, hw9⟩
                  rw [hw9]
                  clear hw9 HE1
                  go_wp2_with fail
                  refine HE2.out.mono ?_
                  rintro e w9 ⟨rfl, hw9⟩
                  rw [hw9]
                  clear hw9 HE2
                  go_wp2_with fail
                  refine (awake_any w8).mono ?_
                  rintro e w9 ⟨rfl, t9⟩
                  go_wp2
                  go_ret
                  exact ⟨rfl, (HTw6.out.trans0 Ht8.out).trans0 t9⟩
end Go.Proofs.Ytmehdlflhllhdaa
