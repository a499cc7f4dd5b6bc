/- Part 10 of the texts of this proof, one behind the other; each begins with its own sentence. No condition beyond those that its theorems state. -/
import Derived.Test.YtlcpljpeljoboaaDoorSc9
import Derived.Deep.RegionLaw
import Derived.Deep.RegionHeld3
/- bywashlaw08.SegmentCrashes: the walk of the law. For every script; the half bytes' table as the program's text lays it. -/
namespace Go.Proofs.YtlcpljpeljoboaaDoor
open Go.RowKit

theorem hd1_lenC : (hdB 1 []).length = 11 := by kernel_rfl
theorem fileB_newC : (fileB 1 [] []).length = 11 := by unfold fileB; simpa using hd1_lenC
theorem up_nil {s : LS} (h : s.l.down = false) : lApp s [] = (0, s) := by unfold lApp; rw [if_neg (by simp [h])]; rfl

set_option maxRecDepth 100000 in
set_option maxHeartbeats 51200000 in
theorem crash_law (A : Option Addr) (c : Nat) (l : List OpG) (w : World) (hl : l.length ≤ 9223372036854775807) (ho : OpsG w A l) (hh : HalfAt w) :
    Calls Tryd.prog 4 #[.slice A l.length c] w fun e w' => e = .returned (.bool true) ∧ Touch [] w w' := by
  have Haw := Lib.hid fun w' (t : Touch [] w w') => awake8_any w' (hh.touch t (by simp))
  have Hsm := fun (w' : World) (t : Touch [] w w') => small8_any A c l 40 w' (ho.touch0 t) hl
  rcases hs : (l.all smallG && decide ((l.length : Int) ≤ 40)) with _ | _
  · rw [hs] at Hsm
    have HSM := Lib.hid Hsm
    clear Hsm hs
    go_enter Tryd.func4, Tryd.ntmps4
    go_wp2_with fail
    refine (new_dk 1048576 w (by omega)).mono ?_
    rintro e w1 ⟨rfl, hd1, ht1⟩
    clear hd1
    go_wp2_with fail
    refine (HSM.out w1 ht1).mono ?_
    rintro e w2 ⟨rfl, ht2⟩
    go_wp2_with fail
    refine (Haw.out _ (ht1.trans0 ht2)).mono ?_
    rintro e w3 ⟨rfl, ht3⟩
    go_wp2
    go_ret
    exact ⟨rfl, (ht1.trans0 ht2).trans0 ht3⟩
  rw [hs] at Hsm
  have HSM := Lib.hid Hsm
  rw [Bool.and_eq_true] at hs
  have hl40 : l.length ≤ 40 := by have := of_decide_eq_true hs.2; omega
  have HSO := Lib.hid (fun o (hm : o ∈ l) => smallG_iff (List.all_eq_true.1 hs.1 o hm))
  have calm0 : Calm ⟨1048576, -1, 0, false⟩ := ⟨rfl, rfl⟩
  obtain ⟨d1, hd1, e1⟩ := open_fresh calm0 ([], 0) ([], 0) (by simp) (by simp) (by rw [sgOf_nil]) (by rw [sgOf_nil]) (by rw [hd1_lenC]; show (11 : Int) ≤ 1048576; omega)
  have HE1 := Lib.hid e1
  have hhl := hh.lt
  have HO := Lib.hid ho
  clear Hsm hs e1 ho hl
  go_enter Tryd.func4, Tryd.ntmps4
  go_wp2_with fail
  refine (new_dk 1048576 w (by omega)).mono ?_
  rintro e w2 ⟨rfl, hd2, ht2⟩
  have HK2 := Lib.hid (show DkS w w.heap.size [w.heap.size] (mkV 0 ([], 0) ([], 0)) ⟨1048576, -1, 0, false⟩ w2 from ⟨hd2, ht2, by simp⟩)
  clear hd2
  go_wp2_with fail
  refine (HSM.out w2 ht2).mono ?_
  rintro e w2' ⟨rfl, ht2'⟩
  have K2 := HK2.out.touch0 ht2'
  have C3 := open_s w.heap.size [w.heap.size] _ _ w w2' K2 hh rfl (by simp [mkV]) (by simp [mkV]) (by show (0 : Int) + 5 ≤ _; omega) _ HE1.out ⟨0, [], [], 0⟩ (by
    have := (bestOf_mk (k := 0) (by omega) ([], 0) ([], 0) (.inr ⟨rfl, Nat.le_refl _⟩)).2
    rw [sgOf_nil] at this
    exact this)
  have HC3 := Lib.hid C3
  clear C3 K2 HK2 ht2 ht2'
  go_wp2_with fail
  refine HC3.out.mono ?_
  clear HC3
  rintro e w3 ⟨L, fp3, Fc, fcc, Fg, fcg, rfl, hL3, -, -, -, -, -, -, -⟩
  simp only [List.length_nil]
  have ta : Touch [] w3 ((w3.alloc (.cells #[.slice Fc 0 fcc, .slice Fg 0 fcg] 34)).alloc (.cells #[.slice none 0 0, .slice none 0 0, .int .i64 0] 47)) := ((Touch.refl _ _).alloc _).alloc _
  have P0 : CrS w L w.heap.size (w3.heap.size + 1) fp3 (jS 0 1 [] [] (fileB 1 [] []).length (up ⟨1048576, -1, 0, false⟩ d1) false) ⟨[], [], 0, none, false⟩ (.pointer none) ((w3.alloc (.cells #[.slice Fc 0 fcc, .slice Fg 0 fcg] 34)).alloc (.cells #[.slice none 0 0, .slice none 0 0, .int .i64 0] 47)) := by
    have hlt := hL3.ls.lts
    have hsz := hL3.t.size
    exact ⟨hL3.touch0 ta, ⟨none, 0, none, 0, ⟨heap_alloc2_new w3 _ _, Rd.nil _ _, by simp, GsD.nil _ _ _, Nat.le_refl _⟩⟩, .inl ⟨rfl, rfl⟩, fun hm => by have := hlt _ hm; omega, by omega⟩
  have I0 : Inv 0 (jS 0 1 [] [] (fileB 1 [] []).length (up ⟨1048576, -1, 0, false⟩ d1) false) ⟨[], [], 0, none, false⟩ :=
    ⟨.inl ⟨rfl, rfl, 0, 1, _, _, false, rfl, by omega, by omega, by omega, rfl, Nat.le_refl _, Nat.le_refl _, fun _ => rfl, (by have := fileB_newC; simp only; omega)⟩, Nat.le_refl _, (fun g hg => by cases hg), by simp, (by show (0 : Int) + (d1 : Int) ≤ _; omega), rfl, by simp, (fun g hg => by cases hg), by show 0 < 2; omega, by show 1 ≤ _; omega⟩
  have HP0 := Lib.hid (And.intro P0 I0)
  clear P0 I0 ta hL3 calm0 HE1
  go_wp2_with fail
  go_loopw [4, 8, 9, 39] (fun v4 v8 v9 i wr => ∃ (k : Nat) (L : Nat) (fp : List Nat) (s : LS) (g : GH), i = .int .i64 k ∧ k ≤ l.length ∧ v4 = .pointer (some ⟨L, 0, none⟩) ∧ v9 = .bool g.down ∧ CrS w L w.heap.size (w3.heap.size + 1) fp s g v8 wr ∧ Inv k s g) (fun _ _ _ i _ => l.length - (intOf i).toNat)
  case atStart => exact ⟨0, L, fp3, _, _, rfl, by omega, rfl, rfl, HP0.out.1, HP0.out.2⟩
  case round =>
    clear HP0
    obtain ⟨k, L, fp, s, g, rfl, hk, rfl, rfl, C, I⟩ := hrel
    by_cases hlt : k < l.length
    · obtain ⟨ad, ob, off, rfl, hadd, hok0⟩ := HO.out k hlt
      have hok := hok0.touch0 C.ls.t
      have sm := HSO.out _ (List.getElem_mem hlt)
      obtain ⟨o, hoe⟩ : ∃ o, o = l[k] := ⟨_, rfl⟩
      rw [← hoe] at hok hok0 sm
      clear hoe
      have Hrd0 := Lib.hid hok0.rd
      have Hrk0 := Lib.hid (And.intro hok0.rk hok0.bks)
      have hbe := hok0.rr.old
      have hbn := hok0.bn
      clear hok0
      obtain ⟨kd, on, dA, dc, data, rA, rc, recs, kA, kc, keep⟩ := o
      obtain ⟨q0, q1, q2, q3, q4, rd, rr, rk, bk, bn, bks, dl, rl, kl, rel⟩ := hok
      obtain ⟨sd, sr, sk, se, sx⟩ := sm
      (try simp only at q0 q1 q2 q3 q4 rd rr rk bk bn bks dl rl kl rel sd sr sk se sx hbe hbn)
      obtain ⟨cp, gs, sure, next, down⟩ := g
      have gl : gs.length ≤ k := I.gl
      have hdn : s.r.done ≤ 10 + 10 * k := I.dn
      have cpl : cp.length ≤ 300 := I.cpl
      have ld : s.l.down = down := I.ld
      have tb : Touch [] wr (wr.alloc (.cells #[.int .i64 kd, .int .i64 on, .slice dA data.length dc, .slice rA recs.length rc, .slice kA keep.length kc] 52)) := (Touch.refl _ _).alloc _
      have HB := Lib.hid (show (wr.alloc (.cells #[.int .i64 kd, .int .i64 on, .slice dA data.length dc, .slice rA recs.length rc, .slice kA keep.length kc] 52)).heap[wr.heap.size]? = some (.cells #[.int .i64 kd, .int .i64 on, .slice dA data.length dc, .slice rA recs.length rc, .slice kA keep.length kc] 52 (0, 0)) from heap_alloc_new wr _)
      have HCW := Lib.hid (C.touch0 tb)
      have hobN : wr.heap.size ≠ w3.heap.size + 1 := by have := C.lt; omega
      have hob : wr.heap.size ∉ L :: fp := fun hm => by have := C.ls.ls.lts _ hm; omega
      have Hrr := Lib.hid (rr.touch0 tb)
      have Hbe := Lib.hid (hbe.touch0 (C.ls.t.trans0 tb))
      have HI := Lib.hid I
      have Hld := Lib.hid ld
      clear C I tb rd rr rk sx bks rel hbe ld
      by_cases hk1 : kd = 1
      · subst hk1
        by_cases hr0 : recs.length = 0
        · obtain rfl : recs = [] := List.eq_nil_of_length_eq_zero hr0
          have hbb := HB.out
          simp only [List.length_nil] at *
          rcases down with _ | _
          · as_aux_lemma =>
            have Cop := append_log L w.heap.size fp s rA rc 0 [] rfl (by simp [encR]) (by omega) (by have := HI.out.fl; omega) (wr.alloc (.cells #[.int .i64 1, .int .i64 on, .slice dA data.length dc, .slice rA 0 rc, .slice kA keep.length kc] 52)) HCW.out.ls.ls (fun h => by simp at h) (by omega)
            rw [up_nil Hld.out] at Cop
            have HC := Lib.hid Cop
            clear Cop
            go_wp2_with fail
            refine HC.out.mono ?_
            clear HC
            rintro e wx ⟨rfl, hs⟩
            obtain ⟨fp2, C2, T2⟩ := HCW.out.log hs
            have bB := T2.blk HB.out hob
            obtain ⟨y0, y1, y2, y3, y4, -⟩ := blk5 bB
            have HF := Lib.hid (And.intro C2 HI.out.succ)
            clear C2 T2 bB hs
            go_wp2_with fail
            go_roundw
            case rel => exact ⟨k + 1, _, _, _, _, by go_num, by omega, rfl, rfl, HF.out.1, HF.out.2⟩
            case measure => simp [intOf]; omega
          · as_aux_lemma =>
            have Cop := append_log L w.heap.size fp s rA rc 0 [] rfl (by simp [encR]) (by omega) (by have := HI.out.fl; omega) (wr.alloc (.cells #[.int .i64 1, .int .i64 on, .slice dA data.length dc, .slice rA 0 rc, .slice kA keep.length kc] 52)) HCW.out.ls.ls (fun h => by simp at h) (by omega)
            rw [down_app Hld.out] at Cop
            have HC := Lib.hid Cop
            clear Cop
            go_wp2_with fail
            refine HC.out.mono ?_
            clear HC
            rintro e wx ⟨rfl, hs⟩
            obtain ⟨fp2, C2, T2⟩ := HCW.out.log hs
            have bB := T2.blk HB.out hob
            obtain ⟨y0, y1, y2, y3, y4, -⟩ := blk5 bB
            have HF := Lib.hid (And.intro C2 HI.out.succ)
            clear C2 T2 bB hs
            go_wp2_with fail
            go_roundw
            case rel => exact ⟨k + 1, _, _, _, _, by go_num, by omega, rfl, rfl, HF.out.1, HF.out.2⟩
            case measure => simp [intOf]; omega
        · have hrp : 0 < recs.length := by omega
          rcases down with _ | _
          · obtain ⟨e3, s3, h1, h2, h3, -⟩ := inv_app HI.out rfl hr0 sr se (by omega)
            simp only at h3
            have H3 := Lib.hid h3
            clear h3
            rcases h2 with rfl | rfl
            · as_aux_lemma =>
              have Cop := append_log L w.heap.size fp s rA rc recs.length recs rfl (by omega) (by omega) (by have := HI.out.fl; omega) (wr.alloc (.cells #[.int .i64 1, .int .i64 on, .slice dA data.length dc, .slice rA recs.length rc, .slice kA keep.length kc] 52)) HCW.out.ls.ls Hrr.out (by omega)
              rw [h1] at Cop
              clear h1
              have HC := Lib.hid Cop
              clear Cop
              go_wp2_with fail
              refine HC.out.mono ?_
              clear HC
              rintro e wx ⟨rfl, hs⟩
              obtain ⟨fp2, C2, T2⟩ := HCW.out.log hs
              have bB := T2.blk HB.out hob
              obtain ⟨y0, y1, y2, y3, y4, -⟩ := blk5 bB
              obtain ⟨Nc, Ncc, Ng, Ncg, hnow⟩ := C2.now
              have l0 : (0 : Int) ≤ (gs.length : Int) := by omega
              have l1 : (gs.length : Int) ≤ (Ncg : Int) := by have h9 : gs.length ≤ Ncg := hnow.cap; omega
              have hbx : BsD (fun b => b ∉ (w3.heap.size + 1) :: L :: fp2) wx rA recs := ((Hbe.out.touch T2 (fun b (hb : b < w.heap.size) _ hm => by have := HCW.out.ls.f b hm; omega))).mono (fun b hb hd hm => by
                have hd2 : b < w.heap.size := hd
                rcases List.mem_cons.1 hm with e | e
                · have := C2.wN; omega
                · have := C2.ls.f b e; omega)
              have HNow := Lib.hid (And.intro hnow (And.intro hbx (And.intro C2 bB)))
              clear hnow C2 T2 bB hs hbx
              go_wp2_with fail
              obtain ⟨wd, hwd⟩ : ∃ wd, wd = wx.drew := ⟨_, rfl⟩
              have td := (Touch.refl [] wx).drew
              rw [← hwd] at td
              have bNd := td.blk HNow.out.1.blk (by simp)
              have n1 := cell_blk (i := 1) bNd rfl
              have y3d := cell_blk (i := 3) (td.blk HNow.out.2.2.2 (by simp)) rfl
              have tz : Touch [] wx (wd.alloc (.cells #[.slice rA recs.length rc] 49)) := td.alloc _
              have n1a := ((Touch.refl [] wd).alloc (.cells #[.slice rA recs.length rc] 49)).cell n1 (by simp)
              have y3a := ((Touch.refl [] wd).alloc (.cells #[.slice rA recs.length rc] 49)).cell y3d (by simp)
              refine wp_region_until 14 (fun w' => w'.cell? ⟨w3.heap.size + 1, 1, none⟩ = some (.slice Ng gs.length Ncg) ∧ w'.cell? ⟨wr.heap.size, 3, none⟩ = some (.slice rA recs.length rc)) (by kernel_rfl) ?_
              rw [← hwd]
              clear hwd
              have hHd : (fun w' : World => w'.cell? ⟨w3.heap.size + 1, 1, none⟩ = some (.slice Ng gs.length Ncg) ∧ w'.cell? ⟨wr.heap.size, 3, none⟩ = some (.slice rA recs.length rc)) wd := ⟨n1, y3d⟩
              refine takeU (i := 0) (d := 67) (v := ?_) rfl rfl (by kernel_rfl) (by kernel_rfl) (by kernel_rfl) (fun _ _ _ h => h) (by decide) rfl (by kernel_rfl) (by kernel_rfl) (Or.inl ⟨by rfl, ?_⟩) hHd ?_
              rotate_left
              · intro w hSw; (try dsimp only at hSw); go_simp; (try with_reducible rfl)
              try simp only [Act.put, List.setIfInBounds_toArray, List.set_cons_zero, List.set_cons_succ]
              refine takeU (i := 1) (d := 68) (v := ?_) rfl rfl (by kernel_rfl) (by kernel_rfl) (by kernel_rfl) (fun _ _ _ h => h) (by decide) rfl (by kernel_rfl) (by kernel_rfl) (Or.inl ⟨by rfl, ?_⟩) hHd ?_
              rotate_left
              · intro w hSw; (try dsimp only at hSw); go_simp; (try with_reducible rfl)
              try simp only [Act.put, List.setIfInBounds_toArray, List.set_cons_zero, List.set_cons_succ]
              refine takeU (i := 2) (d := 69) (v := ?_) rfl rfl (by kernel_rfl) (by kernel_rfl) (by kernel_rfl) (fun _ _ _ h => h) (by decide) rfl (by kernel_rfl) (by kernel_rfl) (Or.inl ⟨by rfl, ?_⟩) hHd ?_
              rotate_left
              · intro w hSw; (try dsimp only at hSw); go_simp; (try with_reducible rfl)
              try simp only [Act.put, List.setIfInBounds_toArray, List.set_cons_zero, List.set_cons_succ]
              refine takeU (i := 3) (d := 70) (v := ?_) rfl rfl (by kernel_rfl) (by kernel_rfl) (by kernel_rfl) (fun _ _ _ h => h) (by decide) rfl (by kernel_rfl) (by kernel_rfl) (Or.inl ⟨by rfl, ?_⟩) hHd ?_
              rotate_left
              · intro w hSw; (try dsimp only at hSw); go_simp; (try with_reducible rfl)
              try simp only [Act.put, List.setIfInBounds_toArray, List.set_cons_zero, List.set_cons_succ]
              refine takeU (i := 4) (d := 71) (v := ?_) rfl rfl (by kernel_rfl) (by kernel_rfl) (by kernel_rfl) (fun _ _ _ h => h) (by decide) rfl (by kernel_rfl) (by kernel_rfl) (Or.inl ⟨by rfl, ?_⟩) hHd ?_
              rotate_left
              · intro w hSw; (try dsimp only at hSw); go_simp; (try with_reducible rfl)
              try simp only [Act.put, List.setIfInBounds_toArray, List.set_cons_zero, List.set_cons_succ]
              refine takeU (i := 5) (d := 72) (v := ?_) rfl rfl (by kernel_rfl) (by kernel_rfl) (by kernel_rfl) (fun _ _ _ h => h) (by decide) rfl (by kernel_rfl) (by kernel_rfl) (Or.inl ⟨by rfl, ?_⟩) hHd ?_
              rotate_left
              · intro w hSw; (try dsimp only at hSw); go_simp; (try with_reducible rfl)
              try simp only [Act.put, List.setIfInBounds_toArray, List.set_cons_zero, List.set_cons_succ]
              refine takeU (i := 6) (d := 73) (v := ?_) rfl rfl (by kernel_rfl) (by kernel_rfl) (by kernel_rfl) (fun _ _ _ h => h) (by decide) rfl (by kernel_rfl) (by kernel_rfl) (Or.inl ⟨by rfl, ?_⟩) hHd ?_
              rotate_left
              · intro w hSw; (try dsimp only at hSw); go_simp; (try with_reducible rfl)
              try simp only [Act.put, List.setIfInBounds_toArray, List.set_cons_zero, List.set_cons_succ]
              refine takeU (i := 7) (d := 74) (v := ?_) rfl rfl (by kernel_rfl) (by kernel_rfl) (by kernel_rfl) (fun _ _ _ h => h) (by decide) rfl (by kernel_rfl) (by kernel_rfl) (Or.inl ⟨by rfl, ?_⟩) hHd ?_
              rotate_left
              · intro w hSw; (try dsimp only at hSw); go_simp; (try with_reducible rfl)
              try simp only [Act.put, List.setIfInBounds_toArray, List.set_cons_zero, List.set_cons_succ]
              refine takeU (i := 8) (d := 75) (v := ?_) rfl rfl (by kernel_rfl) (by kernel_rfl) (by kernel_rfl) (fun _ _ _ h => h) (by decide) rfl (by kernel_rfl) (by kernel_rfl) (Or.inl ⟨by rfl, ?_⟩) hHd ?_
              rotate_left
              · intro w hSw; (try dsimp only at hSw); go_simp; (try with_reducible rfl)
              try simp only [Act.put, List.setIfInBounds_toArray, List.set_cons_zero, List.set_cons_succ]
              refine takeU (i := 9) (d := 76) (v := ?_) rfl rfl (by kernel_rfl) (by kernel_rfl) (by kernel_rfl) (fun _ _ _ h => h) (by decide) rfl (by kernel_rfl) (by kernel_rfl) (Or.inl ⟨by rfl, ?_⟩) hHd ?_
              rotate_left
              · intro w hSw; (try dsimp only at hSw); go_simp; (try with_reducible rfl)
              try simp only [Act.put, List.setIfInBounds_toArray, List.set_cons_zero, List.set_cons_succ]
              refine takeU (i := 10) (d := 77) (v := ?_) rfl rfl (by kernel_rfl) (by kernel_rfl) (by kernel_rfl) (fun _ _ _ h => h) (by decide) rfl (by kernel_rfl) (by kernel_rfl) (Or.inl ⟨by rfl, ?_⟩) hHd ?_
              rotate_left
              · intro w hSw; (try dsimp only at hSw); go_simp; (try with_reducible rfl)
              try simp only [Act.put, List.setIfInBounds_toArray, List.set_cons_zero, List.set_cons_succ]
              refine oneU (i := 11) (by kernel_rfl) rfl (fun K hK => ?_)
              go_simp
              have hHa : (fun w' : World => w'.cell? ⟨w3.heap.size + 1, 1, none⟩ = some (.slice Ng gs.length Ncg) ∧ w'.cell? ⟨wr.heap.size, 3, none⟩ = some (.slice rA recs.length rc)) (wd.alloc (.cells #[.slice rA recs.length rc] 49)) := ⟨n1a, y3a⟩
              refine hK _ _ (fun _ => hHa) ?_
              clear hK K
              try simp only [Act.put, List.setIfInBounds_toArray, List.set_cons_zero, List.set_cons_succ]
              refine oneU (i := 12) (by kernel_rfl) rfl (fun K hK => ?_)
              refine step_appGr rfl (.tmp 75) (.tmp 78) rfl (D := fun b => b ∉ (w3.heap.size + 1) :: L :: fp2) Ng gs.length gs rfl rfl (HNow.out.1.gd.touch0 tz) wd.heap.size rA recs.length rc recs rfl (cell_blk (heap_alloc_new wd _) rfl) rfl (HNow.out.2.1.touch0 tz) (by omega) ?_
              intro gq cq wq hgq hfq htq hcq
              have tq : Touch [] wx wq := tz.trans0 htq
              have nq0 := tq.blk HNow.out.1.blk (by simp)
              have n1q0 := cell_blk (i := 1) nq0 rfl
              have z1q0 := free_blk nq0 1
              have y3q := cell_blk (i := 3) (tq.blk HNow.out.2.2.2 (by simp)) rfl
              have hHq : (fun w' : World => w'.cell? ⟨w3.heap.size + 1, 1, none⟩ = some (.slice Ng gs.length Ncg) ∧ w'.cell? ⟨wr.heap.size, 3, none⟩ = some (.slice rA recs.length rc)) wq := ⟨n1q0, y3q⟩
              refine hK _ _ (fun _ => hHq) ?_
              clear hK K
              try simp only [Act.put, List.setIfInBounds_toArray, List.set_cons_zero, List.set_cons_succ]
              refine takeU (i := 13) (d := 80) (v := ?_) rfl rfl (by kernel_rfl) (by kernel_rfl) (by kernel_rfl) (fun _ _ _ h => h) (by decide) rfl (by kernel_rfl) (by kernel_rfl) (Or.inl ⟨by rfl, ?_⟩) hHq ?_
              rotate_left
              · intro w hSw; (try dsimp only at hSw); go_simp; (try with_reducible rfl)
              try simp only [Act.put, List.setIfInBounds_toArray, List.set_cons_zero, List.set_cons_succ]
              refine oneU (i := 14) (by kernel_rfl) rfl (fun K hK => ?_)
              go_simp
              refine hK _ _ (fun h => by cases h) ?_
              clear hK K
              refine doneU (by kernel_rfl) ?_ _
              have nq := tq.blk HNow.out.1.blk (by simp)
              have n1q := cell_blk (i := 1) nq rfl
              have z1q := free_blk nq 1
              have hgq2 : wx.heap.size ≤ gq := by have := tz.size; omega
              have Cq := HNow.out.2.2.1.touch0 tq
              have hTN : Touch [(w3.heap.size + 1)] wq (wq.setCell ⟨w3.heap.size + 1, 1, none⟩ (.slice (some ⟨gq, 0, none⟩) (gs.length + 1) cq)) := (Touch.refl [(w3.heap.size + 1)] wq).setCell (.inl (by simp)) _
              have nz := set_blk nq 1 (.slice (some ⟨gq, 0, none⟩) (gs.length + 1) cq)
              have Cz := Cq.put hh hTN (g2 := ⟨cp, gs ++ [recs], sure, next, decide ((0 : Int) = 40)⟩) rfl (by rw [List.length_append]; exact nz) (HNow.out.1.rc.touch1 tq (fun _ _ _ => by simp)) HNow.out.1.ac (hgq.mono (fun b _ hd hm => by
                rcases hd with hd | rfl
                · exact hd hm
                · rcases List.mem_cons.1 hm with e | e
                  · have := HNow.out.2.2.1.lt; omega
                  · have := HNow.out.2.2.1.ls.ls.lts b e; omega)) (by simp; omega)
              obtain ⟨y0z, -⟩ := blk5 (hTN.blk (tq.blk HNow.out.2.2.2 (by simp)) (by simp; omega))
              have HF := Lib.hid (And.intro Cz H3.out)
              clear Cz Cq hTN nz tq nq hgq htq n1 y0 y1 y2 y3 y4 y3d tz
              go_wp2_with fail
              go_roundw
              case rel => exact ⟨k + 1, _, _, _, _, by go_num, by omega, rfl, rfl, HF.out.1, HF.out.2⟩
              case measure => simp [intOf]; omega
            · as_aux_lemma =>
              have Cop := append_log L w.heap.size fp s rA rc recs.length recs rfl (by omega) (by omega) (by have := HI.out.fl; omega) (wr.alloc (.cells #[.int .i64 1, .int .i64 on, .slice dA data.length dc, .slice rA recs.length rc, .slice kA keep.length kc] 52)) HCW.out.ls.ls Hrr.out (by omega)
              rw [h1] at Cop
              clear h1
              have HC := Lib.hid Cop
              clear Cop
              go_wp2_with fail
              refine HC.out.mono ?_
              clear HC
              rintro e wx ⟨rfl, hs⟩
              obtain ⟨fp2, C2, T2⟩ := HCW.out.log hs
              have bB := T2.blk HB.out hob
              obtain ⟨y0, y1, y2, y3, y4, -⟩ := blk5 bB
              obtain ⟨Nc, Ncc, Ng, Ncg, hnow⟩ := C2.now
              have l0 : (0 : Int) ≤ (gs.length : Int) := by omega
              have l1 : (gs.length : Int) ≤ (Ncg : Int) := by have h9 : gs.length ≤ Ncg := hnow.cap; omega
              have hbx : BsD (fun b => b ∉ (w3.heap.size + 1) :: L :: fp2) wx rA recs := ((Hbe.out.touch T2 (fun b (hb : b < w.heap.size) _ hm => by have := HCW.out.ls.f b hm; omega))).mono (fun b hb hd hm => by
                have hd2 : b < w.heap.size := hd
                rcases List.mem_cons.1 hm with e | e
                · have := C2.wN; omega
                · have := C2.ls.f b e; omega)
              have HNow := Lib.hid (And.intro hnow (And.intro hbx (And.intro C2 bB)))
              clear hnow C2 T2 bB hs hbx
              go_wp2_with fail
              obtain ⟨wd, hwd⟩ : ∃ wd, wd = wx.drew := ⟨_, rfl⟩
              have td := (Touch.refl [] wx).drew
              rw [← hwd] at td
              have bNd := td.blk HNow.out.1.blk (by simp)
              have n1 := cell_blk (i := 1) bNd rfl
              have y3d := cell_blk (i := 3) (td.blk HNow.out.2.2.2 (by simp)) rfl
              have tz : Touch [] wx (wd.alloc (.cells #[.slice rA recs.length rc] 49)) := td.alloc _
              have n1a := ((Touch.refl [] wd).alloc (.cells #[.slice rA recs.length rc] 49)).cell n1 (by simp)
              have y3a := ((Touch.refl [] wd).alloc (.cells #[.slice rA recs.length rc] 49)).cell y3d (by simp)
              refine wp_region_until 14 (fun w' => w'.cell? ⟨w3.heap.size + 1, 1, none⟩ = some (.slice Ng gs.length Ncg) ∧ w'.cell? ⟨wr.heap.size, 3, none⟩ = some (.slice rA recs.length rc)) (by kernel_rfl) ?_
              rw [← hwd]
              clear hwd
              have hHd : (fun w' : World => w'.cell? ⟨w3.heap.size + 1, 1, none⟩ = some (.slice Ng gs.length Ncg) ∧ w'.cell? ⟨wr.heap.size, 3, none⟩ = some (.slice rA recs.length rc)) wd := ⟨n1, y3d⟩
              refine takeU (i := 0) (d := 67) (v := ?_) rfl rfl (by kernel_rfl) (by kernel_rfl) (by kernel_rfl) (fun _ _ _ h => h) (by decide) rfl (by kernel_rfl) (by kernel_rfl) (Or.inl ⟨by rfl, ?_⟩) hHd ?_
              rotate_left
              · intro w hSw; (try dsimp only at hSw); go_simp; (try with_reducible rfl)
              try simp only [Act.put, List.setIfInBounds_toArray, List.set_cons_zero, List.set_cons_succ]
              refine takeU (i := 1) (d := 68) (v := ?_) rfl rfl (by kernel_rfl) (by kernel_rfl) (by kernel_rfl) (fun _ _ _ h => h) (by decide) rfl (by kernel_rfl) (by kernel_rfl) (Or.inl ⟨by rfl, ?_⟩) hHd ?_
              rotate_left
              · intro w hSw; (try dsimp only at hSw); go_simp; (try with_reducible rfl)
              try simp only [Act.put, List.setIfInBounds_toArray, List.set_cons_zero, List.set_cons_succ]
              refine takeU (i := 2) (d := 69) (v := ?_) rfl rfl (by kernel_rfl) (by kernel_rfl) (by kernel_rfl) (fun _ _ _ h => h) (by decide) rfl (by kernel_rfl) (by kernel_rfl) (Or.inl ⟨by rfl, ?_⟩) hHd ?_
              rotate_left
              · intro w hSw; (try dsimp only at hSw); go_simp; (try with_reducible rfl)
              try simp only [Act.put, List.setIfInBounds_toArray, List.set_cons_zero, List.set_cons_succ]
              refine takeU (i := 3) (d := 70) (v := ?_) rfl rfl (by kernel_rfl) (by kernel_rfl) (by kernel_rfl) (fun _ _ _ h => h) (by decide) rfl (by kernel_rfl) (by kernel_rfl) (Or.inl ⟨by rfl, ?_⟩) hHd ?_
              rotate_left
              · intro w hSw; (try dsimp only at hSw); go_simp; (try with_reducible rfl)
              try simp only [Act.put, List.setIfInBounds_toArray, List.set_cons_zero, List.set_cons_succ]
              refine takeU (i := 4) (d := 71) (v := ?_) rfl rfl (by kernel_rfl) (by kernel_rfl) (by kernel_rfl) (fun _ _ _ h => h) (by decide) rfl (by kernel_rfl) (by kernel_rfl) (Or.inl ⟨by rfl, ?_⟩) hHd ?_
              rotate_left
              · intro w hSw; (try dsimp only at hSw); go_simp; (try with_reducible rfl)
              try simp only [Act.put, List.setIfInBounds_toArray, List.set_cons_zero, List.set_cons_succ]
              refine takeU (i := 5) (d := 72) (v := ?_) rfl rfl (by kernel_rfl) (by kernel_rfl) (by kernel_rfl) (fun _ _ _ h => h) (by decide) rfl (by kernel_rfl) (by kernel_rfl) (Or.inl ⟨by rfl, ?_⟩) hHd ?_
              rotate_left
              · intro w hSw; (try dsimp only at hSw); go_simp; (try with_reducible rfl)
              try simp only [Act.put, List.setIfInBounds_toArray, List.set_cons_zero, List.set_cons_succ]
              refine takeU (i := 6) (d := 73) (v := ?_) rfl rfl (by kernel_rfl) (by kernel_rfl) (by kernel_rfl) (fun _ _ _ h => h) (by decide) rfl (by kernel_rfl) (by kernel_rfl) (Or.inl ⟨by rfl, ?_⟩) hHd ?_
              rotate_left
              · intro w hSw; (try dsimp only at hSw); go_simp; (try with_reducible rfl)
              try simp only [Act.put, List.setIfInBounds_toArray, List.set_cons_zero, List.set_cons_succ]
              refine takeU (i := 7) (d := 74) (v := ?_) rfl rfl (by kernel_rfl) (by kernel_rfl) (by kernel_rfl) (fun _ _ _ h => h) (by decide) rfl (by kernel_rfl) (by kernel_rfl) (Or.inl ⟨by rfl, ?_⟩) hHd ?_
              rotate_left
              · intro w hSw; (try dsimp only at hSw); go_simp; (try with_reducible rfl)
              try simp only [Act.put, List.setIfInBounds_toArray, List.set_cons_zero, List.set_cons_succ]
              refine takeU (i := 8) (d := 75) (v := ?_) rfl rfl (by kernel_rfl) (by kernel_rfl) (by kernel_rfl) (fun _ _ _ h => h) (by decide) rfl (by kernel_rfl) (by kernel_rfl) (Or.inl ⟨by rfl, ?_⟩) hHd ?_
              rotate_left
              · intro w hSw; (try dsimp only at hSw); go_simp; (try with_reducible rfl)
              try simp only [Act.put, List.setIfInBounds_toArray, List.set_cons_zero, List.set_cons_succ]
              refine takeU (i := 9) (d := 76) (v := ?_) rfl rfl (by kernel_rfl) (by kernel_rfl) (by kernel_rfl) (fun _ _ _ h => h) (by decide) rfl (by kernel_rfl) (by kernel_rfl) (Or.inl ⟨by rfl, ?_⟩) hHd ?_
              rotate_left
              · intro w hSw; (try dsimp only at hSw); go_simp; (try with_reducible rfl)
              try simp only [Act.put, List.setIfInBounds_toArray, List.set_cons_zero, List.set_cons_succ]
              refine takeU (i := 10) (d := 77) (v := ?_) rfl rfl (by kernel_rfl) (by kernel_rfl) (by kernel_rfl) (fun _ _ _ h => h) (by decide) rfl (by kernel_rfl) (by kernel_rfl) (Or.inl ⟨by rfl, ?_⟩) hHd ?_
              rotate_left
              · intro w hSw; (try dsimp only at hSw); go_simp; (try with_reducible rfl)
              try simp only [Act.put, List.setIfInBounds_toArray, List.set_cons_zero, List.set_cons_succ]
              refine oneU (i := 11) (by kernel_rfl) rfl (fun K hK => ?_)
              go_simp
              have hHa : (fun w' : World => w'.cell? ⟨w3.heap.size + 1, 1, none⟩ = some (.slice Ng gs.length Ncg) ∧ w'.cell? ⟨wr.heap.size, 3, none⟩ = some (.slice rA recs.length rc)) (wd.alloc (.cells #[.slice rA recs.length rc] 49)) := ⟨n1a, y3a⟩
              refine hK _ _ (fun _ => hHa) ?_
              clear hK K
              try simp only [Act.put, List.setIfInBounds_toArray, List.set_cons_zero, List.set_cons_succ]
              refine oneU (i := 12) (by kernel_rfl) rfl (fun K hK => ?_)
              refine step_appGr rfl (.tmp 75) (.tmp 78) rfl (D := fun b => b ∉ (w3.heap.size + 1) :: L :: fp2) Ng gs.length gs rfl rfl (HNow.out.1.gd.touch0 tz) wd.heap.size rA recs.length rc recs rfl (cell_blk (heap_alloc_new wd _) rfl) rfl (HNow.out.2.1.touch0 tz) (by omega) ?_
              intro gq cq wq hgq hfq htq hcq
              have tq : Touch [] wx wq := tz.trans0 htq
              have nq0 := tq.blk HNow.out.1.blk (by simp)
              have n1q0 := cell_blk (i := 1) nq0 rfl
              have z1q0 := free_blk nq0 1
              have y3q := cell_blk (i := 3) (tq.blk HNow.out.2.2.2 (by simp)) rfl
              have hHq : (fun w' : World => w'.cell? ⟨w3.heap.size + 1, 1, none⟩ = some (.slice Ng gs.length Ncg) ∧ w'.cell? ⟨wr.heap.size, 3, none⟩ = some (.slice rA recs.length rc)) wq := ⟨n1q0, y3q⟩
              refine hK _ _ (fun _ => hHq) ?_
              clear hK K
              try simp only [Act.put, List.setIfInBounds_toArray, List.set_cons_zero, List.set_cons_succ]
              refine takeU (i := 13) (d := 80) (v := ?_) rfl rfl (by kernel_rfl) (by kernel_rfl) (by kernel_rfl) (fun _ _ _ h => h) (by decide) rfl (by kernel_rfl) (by kernel_rfl) (Or.inl ⟨by rfl, ?_⟩) hHq ?_
              rotate_left
              · intro w hSw; (try dsimp only at hSw); go_simp; (try with_reducible rfl)
              try simp only [Act.put, List.setIfInBounds_toArray, List.set_cons_zero, List.set_cons_succ]
              refine oneU (i := 14) (by kernel_rfl) rfl (fun K hK => ?_)
              go_simp
              refine hK _ _ (fun h => by cases h) ?_
              clear hK K
              refine doneU (by kernel_rfl) ?_ _
              have nq := tq.blk HNow.out.1.blk (by simp)
              have n1q := cell_blk (i := 1) nq rfl
              have z1q := free_blk nq 1
              have hgq2 : wx.heap.size ≤ gq := by have := tz.size; omega
              have Cq := HNow.out.2.2.1.touch0 tq
              have hTN : Touch [(w3.heap.size + 1)] wq (wq.setCell ⟨w3.heap.size + 1, 1, none⟩ (.slice (some ⟨gq, 0, none⟩) (gs.length + 1) cq)) := (Touch.refl [(w3.heap.size + 1)] wq).setCell (.inl (by simp)) _
              have nz := set_blk nq 1 (.slice (some ⟨gq, 0, none⟩) (gs.length + 1) cq)
              have Cz := Cq.put hh hTN (g2 := ⟨cp, gs ++ [recs], sure, next, decide ((40 : Int) = 40)⟩) rfl (by rw [List.length_append]; exact nz) (HNow.out.1.rc.touch1 tq (fun _ _ _ => by simp)) HNow.out.1.ac (hgq.mono (fun b _ hd hm => by
                rcases hd with hd | rfl
                · exact hd hm
                · rcases List.mem_cons.1 hm with e | e
                  · have := HNow.out.2.2.1.lt; omega
                  · have := HNow.out.2.2.1.ls.ls.lts b e; omega)) (by simp; omega)
              obtain ⟨y0z, -⟩ := blk5 (hTN.blk (tq.blk HNow.out.2.2.2 (by simp)) (by simp; omega))
              have HF := Lib.hid (And.intro Cz H3.out)
              clear Cz Cq hTN nz tq nq hgq htq n1 y0 y1 y2 y3 y4 y3d tz
              go_wp2_with fail
              go_roundw
              case rel => exact ⟨k + 1, _, _, _, _, by go_num, by omega, rfl, rfl, HF.out.1, HF.out.2⟩
              case measure => simp [intOf]; omega
          · as_aux_lemma =>
            have Cop := append_log L w.heap.size fp s rA rc recs.length recs rfl (by omega) (by omega) (by have := HI.out.fl; omega) (wr.alloc (.cells #[.int .i64 1, .int .i64 on, .slice dA data.length dc, .slice rA recs.length rc, .slice kA keep.length kc] 52)) HCW.out.ls.ls Hrr.out (by omega)
            rw [down_app Hld.out] at Cop
            have HC := Lib.hid Cop
            clear Cop
            go_wp2_with fail
            refine HC.out.mono ?_
            clear HC
            rintro e wx ⟨rfl, hs⟩
            obtain ⟨fp2, C2, T2⟩ := HCW.out.log hs
            have bB := T2.blk HB.out hob
            obtain ⟨y0, y1, y2, y3, y4, -⟩ := blk5 bB
            have HF := Lib.hid (And.intro C2 HI.out.succ)
            clear C2 T2 bB hs
            go_wp2_with fail
            go_roundw
            case rel => exact ⟨k + 1, _, _, _, _, by go_num, by omega, rfl, rfl, HF.out.1, HF.out.2⟩
            case measure => simp [intOf]; omega
      by_cases hk3 : kd = 3
      · subst hk3
        by_cases hr0 : recs.length = 0
        · obtain rfl : recs = [] := List.eq_nil_of_length_eq_zero hr0
          have hbb := HB.out
          simp only [List.length_nil] at *
          rcases down with _ | _
          · as_aux_lemma =>
            obtain ⟨e3, s3, h1, h2, h3⟩ := inv_commit HI.out rfl (recs := []) (by simp) (by simp [encR]) (by omega)
            simp only [List.length_nil, if_true] at h3
            have H3 := Lib.hid h3
            clear h3
            rcases h2 with rfl | rfl
            · have Cop := commit_log L w.heap.size fp s rA rc 0 [] rfl (by simp [encR]) (by omega) (by have := HI.out.fl; omega) (wr.alloc (.cells #[.int .i64 3, .int .i64 on, .slice dA data.length dc, .slice rA 0 rc, .slice kA keep.length kc] 52)) HCW.out.ls.ls (fun h => by simp at h) (by omega)
              rw [h1] at Cop
              clear h1
              have HC := Lib.hid Cop
              clear Cop
              go_wp2_with fail
              refine HC.out.mono ?_
              clear HC
              rintro e wx ⟨rfl, hs⟩
              obtain ⟨fp2, C2, T2⟩ := HCW.out.log hs
              have bB := T2.blk HB.out hob
              obtain ⟨y0, y1, y2, y3, y4, -⟩ := blk5 bB
              have HF := Lib.hid (And.intro ((C2.sure hh gs.length).dn false) H3.out)
              obtain ⟨Nc, Ncc, Ng, Ncg, hnow⟩ := C2.now
              have n1 := cell_blk (i := 1) hnow.blk rfl
              have n2 := cell_blk (i := 2) hnow.blk rfl
              have z2 := free_blk hnow.blk 2
              clear C2 T2 bB hs hnow
              go_wp2_with fail
              go_roundw
              case rel => exact ⟨k + 1, _, _, _, _, by go_num, by omega, rfl, rfl, HF.out.1, HF.out.2⟩
              case measure => simp [intOf]; omega
            · have Cop := commit_log L w.heap.size fp s rA rc 0 [] rfl (by simp [encR]) (by omega) (by have := HI.out.fl; omega) (wr.alloc (.cells #[.int .i64 3, .int .i64 on, .slice dA data.length dc, .slice rA 0 rc, .slice kA keep.length kc] 52)) HCW.out.ls.ls (fun h => by simp at h) (by omega)
              rw [h1] at Cop
              clear h1
              have HC := Lib.hid Cop
              clear Cop
              go_wp2_with fail
              refine HC.out.mono ?_
              clear HC
              rintro e wx ⟨rfl, hs⟩
              obtain ⟨fp2, C2, T2⟩ := HCW.out.log hs
              have bB := T2.blk HB.out hob
              obtain ⟨y0, y1, y2, y3, y4, -⟩ := blk5 bB
              have HF := Lib.hid (And.intro (C2.dn true) H3.out)
              clear C2 T2 bB hs
              go_wp2_with fail
              go_roundw
              case rel => exact ⟨k + 1, _, _, _, _, by go_num, by omega, rfl, rfl, HF.out.1, HF.out.2⟩
              case measure => simp [intOf]; omega
          · as_aux_lemma =>
            have Cop := commit_log L w.heap.size fp s rA rc 0 [] rfl (by simp [encR]) (by omega) (by have := HI.out.fl; omega) (wr.alloc (.cells #[.int .i64 3, .int .i64 on, .slice dA data.length dc, .slice rA 0 rc, .slice kA keep.length kc] 52)) HCW.out.ls.ls (fun h => by simp at h) (by omega)
            rw [down_commit Hld.out] at Cop
            have HC := Lib.hid Cop
            clear Cop
            go_wp2_with fail
            refine HC.out.mono ?_
            clear HC
            rintro e wx ⟨rfl, hs⟩
            obtain ⟨fp2, C2, T2⟩ := HCW.out.log hs
            have bB := T2.blk HB.out hob
            obtain ⟨y0, y1, y2, y3, y4, -⟩ := blk5 bB
            have HF := Lib.hid (And.intro C2 HI.out.succ)
            clear C2 T2 bB hs
            go_wp2_with fail
            go_roundw
            case rel => exact ⟨k + 1, _, _, _, _, by go_num, by omega, rfl, rfl, HF.out.1, HF.out.2⟩
            case measure => simp [intOf]; omega
        · have hrp : 0 < recs.length := by omega
          rcases down with _ | _
          · obtain ⟨e3, s3, h1, h2, h3⟩ := inv_commit HI.out rfl (recs := recs) sr se (by omega)
            simp only [if_neg hr0] at h3
            have H3 := Lib.hid h3
            clear h3
            rcases h2 with rfl | rfl
            · as_aux_lemma =>
              have Cop := commit_log L w.heap.size fp s rA rc recs.length recs rfl (by omega) (by omega) (by have := HI.out.fl; omega) (wr.alloc (.cells #[.int .i64 3, .int .i64 on, .slice dA data.length dc, .slice rA recs.length rc, .slice kA keep.length kc] 52)) HCW.out.ls.ls Hrr.out (by omega)
              rw [h1] at Cop
              clear h1
              have HC := Lib.hid Cop
              clear Cop
              go_wp2_with fail
              refine HC.out.mono ?_
              clear HC
              rintro e wx ⟨rfl, hs⟩
              obtain ⟨fp2, C2, T2⟩ := HCW.out.log hs
              have bB := T2.blk HB.out hob
              obtain ⟨y0, y1, y2, y3, y4, -⟩ := blk5 bB
              obtain ⟨Nc, Ncc, Ng, Ncg, hnow⟩ := C2.now
              have l0 : (0 : Int) ≤ (gs.length : Int) := by omega
              have l1 : (gs.length : Int) ≤ (Ncg : Int) := by have h9 : gs.length ≤ Ncg := hnow.cap; omega
              have hbx : BsD (fun b => b ∉ (w3.heap.size + 1) :: L :: fp2) wx rA recs := ((Hbe.out.touch T2 (fun b (hb : b < w.heap.size) _ hm => by have := HCW.out.ls.f b hm; omega))).mono (fun b hb hd hm => by
                have hd2 : b < w.heap.size := hd
                rcases List.mem_cons.1 hm with e | e
                · have := C2.wN; omega
                · have := C2.ls.f b e; omega)
              have HNow := Lib.hid (And.intro hnow (And.intro hbx (And.intro C2 bB)))
              clear hnow C2 T2 bB hs hbx
              go_wp2_with fail
              obtain ⟨wd, hwd⟩ : ∃ wd, wd = wx.drew := ⟨_, rfl⟩
              have td := (Touch.refl [] wx).drew
              rw [← hwd] at td
              have bNd := td.blk HNow.out.1.blk (by simp)
              have n1 := cell_blk (i := 1) bNd rfl
              have y3d := cell_blk (i := 3) (td.blk HNow.out.2.2.2 (by simp)) rfl
              have tz : Touch [] wx (wd.alloc (.cells #[.slice rA recs.length rc] 49)) := td.alloc _
              have n1a := ((Touch.refl [] wd).alloc (.cells #[.slice rA recs.length rc] 49)).cell n1 (by simp)
              have y3a := ((Touch.refl [] wd).alloc (.cells #[.slice rA recs.length rc] 49)).cell y3d (by simp)
              refine wp_region_until 14 (fun w' => w'.cell? ⟨w3.heap.size + 1, 1, none⟩ = some (.slice Ng gs.length Ncg) ∧ w'.cell? ⟨wr.heap.size, 3, none⟩ = some (.slice rA recs.length rc)) (by kernel_rfl) ?_
              rw [← hwd]
              clear hwd
              have hHd : (fun w' : World => w'.cell? ⟨w3.heap.size + 1, 1, none⟩ = some (.slice Ng gs.length Ncg) ∧ w'.cell? ⟨wr.heap.size, 3, none⟩ = some (.slice rA recs.length rc)) wd := ⟨n1, y3d⟩
              refine takeU (i := 0) (d := 67) (v := ?_) rfl rfl (by kernel_rfl) (by kernel_rfl) (by kernel_rfl) (fun _ _ _ h => h) (by decide) rfl (by kernel_rfl) (by kernel_rfl) (Or.inl ⟨by rfl, ?_⟩) hHd ?_
              rotate_left
              · intro w hSw; (try dsimp only at hSw); go_simp; (try with_reducible rfl)
              try simp only [Act.put, List.setIfInBounds_toArray, List.set_cons_zero, List.set_cons_succ]
              refine takeU (i := 1) (d := 68) (v := ?_) rfl rfl (by kernel_rfl) (by kernel_rfl) (by kernel_rfl) (fun _ _ _ h => h) (by decide) rfl (by kernel_rfl) (by kernel_rfl) (Or.inl ⟨by rfl, ?_⟩) hHd ?_
              rotate_left
              · intro w hSw; (try dsimp only at hSw); go_simp; (try with_reducible rfl)
              try simp only [Act.put, List.setIfInBounds_toArray, List.set_cons_zero, List.set_cons_succ]
              refine takeU (i := 2) (d := 69) (v := ?_) rfl rfl (by kernel_rfl) (by kernel_rfl) (by kernel_rfl) (fun _ _ _ h => h) (by decide) rfl (by kernel_rfl) (by kernel_rfl) (Or.inl ⟨by rfl, ?_⟩) hHd ?_
              rotate_left
              · intro w hSw; (try dsimp only at hSw); go_simp; (try with_reducible rfl)
              try simp only [Act.put, List.setIfInBounds_toArray, List.set_cons_zero, List.set_cons_succ]
              refine takeU (i := 3) (d := 70) (v := ?_) rfl rfl (by kernel_rfl) (by kernel_rfl) (by kernel_rfl) (fun _ _ _ h => h) (by decide) rfl (by kernel_rfl) (by kernel_rfl) (Or.inl ⟨by rfl, ?_⟩) hHd ?_
              rotate_left
              · intro w hSw; (try dsimp only at hSw); go_simp; (try with_reducible rfl)
              try simp only [Act.put, List.setIfInBounds_toArray, List.set_cons_zero, List.set_cons_succ]
              refine takeU (i := 4) (d := 71) (v := ?_) rfl rfl (by kernel_rfl) (by kernel_rfl) (by kernel_rfl) (fun _ _ _ h => h) (by decide) rfl (by kernel_rfl) (by kernel_rfl) (Or.inl ⟨by rfl, ?_⟩) hHd ?_
              rotate_left
              · intro w hSw; (try dsimp only at hSw); go_simp; (try with_reducible rfl)
              try simp only [Act.put, List.setIfInBounds_toArray, List.set_cons_zero, List.set_cons_succ]
              refine takeU (i := 5) (d := 72) (v := ?_) rfl rfl (by kernel_rfl) (by kernel_rfl) (by kernel_rfl) (fun _ _ _ h => h) (by decide) rfl (by kernel_rfl) (by kernel_rfl) (Or.inl ⟨by rfl, ?_⟩) hHd ?_
              rotate_left
              · intro w hSw; (try dsimp only at hSw); go_simp; (try with_reducible rfl)
              try simp only [Act.put, List.setIfInBounds_toArray, List.set_cons_zero, List.set_cons_succ]
              refine takeU (i := 6) (d := 73) (v := ?_) rfl rfl (by kernel_rfl) (by kernel_rfl) (by kernel_rfl) (fun _ _ _ h => h) (by decide) rfl (by kernel_rfl) (by kernel_rfl) (Or.inl ⟨by rfl, ?_⟩) hHd ?_
              rotate_left
              · intro w hSw; (try dsimp only at hSw); go_simp; (try with_reducible rfl)
              try simp only [Act.put, List.setIfInBounds_toArray, List.set_cons_zero, List.set_cons_succ]
              refine takeU (i := 7) (d := 74) (v := ?_) rfl rfl (by kernel_rfl) (by kernel_rfl) (by kernel_rfl) (fun _ _ _ h => h) (by decide) rfl (by kernel_rfl) (by kernel_rfl) (Or.inl ⟨by rfl, ?_⟩) hHd ?_
              rotate_left
              · intro w hSw; (try dsimp only at hSw); go_simp; (try with_reducible rfl)
              try simp only [Act.put, List.setIfInBounds_toArray, List.set_cons_zero, List.set_cons_succ]
              refine takeU (i := 8) (d := 75) (v := ?_) rfl rfl (by kernel_rfl) (by kernel_rfl) (by kernel_rfl) (fun _ _ _ h => h) (by decide) rfl (by kernel_rfl) (by kernel_rfl) (Or.inl ⟨by rfl, ?_⟩) hHd ?_
              rotate_left
              · intro w hSw; (try dsimp only at hSw); go_simp; (try with_reducible rfl)
              try simp only [Act.put, List.setIfInBounds_toArray, List.set_cons_zero, List.set_cons_succ]
              refine takeU (i := 9) (d := 76) (v := ?_) rfl rfl (by kernel_rfl) (by kernel_rfl) (by kernel_rfl) (fun _ _ _ h => h) (by decide) rfl (by kernel_rfl) (by kernel_rfl) (Or.inl ⟨by rfl, ?_⟩) hHd ?_
              rotate_left
              · intro w hSw; (try dsimp only at hSw); go_simp; (try with_reducible rfl)
              try simp only [Act.put, List.setIfInBounds_toArray, List.set_cons_zero, List.set_cons_succ]
              refine takeU (i := 10) (d := 77) (v := ?_) rfl rfl (by kernel_rfl) (by kernel_rfl) (by kernel_rfl) (fun _ _ _ h => h) (by decide) rfl (by kernel_rfl) (by kernel_rfl) (Or.inl ⟨by rfl, ?_⟩) hHd ?_
              rotate_left
              · intro w hSw; (try dsimp only at hSw); go_simp; (try with_reducible rfl)
              try simp only [Act.put, List.setIfInBounds_toArray, List.set_cons_zero, List.set_cons_succ]
              refine oneU (i := 11) (by kernel_rfl) rfl (fun K hK => ?_)
              go_simp
              have hHa : (fun w' : World => w'.cell? ⟨w3.heap.size + 1, 1, none⟩ = some (.slice Ng gs.length Ncg) ∧ w'.cell? ⟨wr.heap.size, 3, none⟩ = some (.slice rA recs.length rc)) (wd.alloc (.cells #[.slice rA recs.length rc] 49)) := ⟨n1a, y3a⟩
              refine hK _ _ (fun _ => hHa) ?_
              clear hK K
              try simp only [Act.put, List.setIfInBounds_toArray, List.set_cons_zero, List.set_cons_succ]
              refine oneU (i := 12) (by kernel_rfl) rfl (fun K hK => ?_)
              refine step_appGr rfl (.tmp 75) (.tmp 78) rfl (D := fun b => b ∉ (w3.heap.size + 1) :: L :: fp2) Ng gs.length gs rfl rfl (HNow.out.1.gd.touch0 tz) wd.heap.size rA recs.length rc recs rfl (cell_blk (heap_alloc_new wd _) rfl) rfl (HNow.out.2.1.touch0 tz) (by omega) ?_
              intro gq cq wq hgq hfq htq hcq
              have tq : Touch [] wx wq := tz.trans0 htq
              have nq0 := tq.blk HNow.out.1.blk (by simp)
              have n1q0 := cell_blk (i := 1) nq0 rfl
              have z1q0 := free_blk nq0 1
              have y3q := cell_blk (i := 3) (tq.blk HNow.out.2.2.2 (by simp)) rfl
              have hHq : (fun w' : World => w'.cell? ⟨w3.heap.size + 1, 1, none⟩ = some (.slice Ng gs.length Ncg) ∧ w'.cell? ⟨wr.heap.size, 3, none⟩ = some (.slice rA recs.length rc)) wq := ⟨n1q0, y3q⟩
              refine hK _ _ (fun _ => hHq) ?_
              clear hK K
              try simp only [Act.put, List.setIfInBounds_toArray, List.set_cons_zero, List.set_cons_succ]
              refine takeU (i := 13) (d := 80) (v := ?_) rfl rfl (by kernel_rfl) (by kernel_rfl) (by kernel_rfl) (fun _ _ _ h => h) (by decide) rfl (by kernel_rfl) (by kernel_rfl) (Or.inl ⟨by rfl, ?_⟩) hHq ?_
              rotate_left
              · intro w hSw; (try dsimp only at hSw); go_simp; (try with_reducible rfl)
              try simp only [Act.put, List.setIfInBounds_toArray, List.set_cons_zero, List.set_cons_succ]
              refine oneU (i := 14) (by kernel_rfl) rfl (fun K hK => ?_)
              go_simp
              refine hK _ _ (fun h => by cases h) ?_
              clear hK K
              refine doneU (by kernel_rfl) ?_ _
              have nq := tq.blk HNow.out.1.blk (by simp)
              have n1q := cell_blk (i := 1) nq rfl
              have z1q := free_blk nq 1
              have hgq2 : wx.heap.size ≤ gq := by have := tz.size; omega
              have Cq := HNow.out.2.2.1.touch0 tq
              have hTN : Touch [(w3.heap.size + 1)] wq (wq.setCell ⟨w3.heap.size + 1, 1, none⟩ (.slice (some ⟨gq, 0, none⟩) (gs.length + 1) cq)) := (Touch.refl [(w3.heap.size + 1)] wq).setCell (.inl (by simp)) _
              have nz := set_blk nq 1 (.slice (some ⟨gq, 0, none⟩) (gs.length + 1) cq)
              have Cz := Cq.put hh hTN (g2 := ⟨cp, gs ++ [recs], sure, next, decide ((0 : Int) = 40)⟩) rfl (by rw [List.length_append]; exact nz) (HNow.out.1.rc.touch1 tq (fun _ _ _ => by simp)) HNow.out.1.ac (hgq.mono (fun b _ hd hm => by
                rcases hd with hd | rfl
                · exact hd hm
                · rcases List.mem_cons.1 hm with e | e
                  · have := HNow.out.2.2.1.lt; omega
                  · have := HNow.out.2.2.1.ls.ls.lts b e; omega)) (by simp; omega)
              obtain ⟨y0z, -⟩ := blk5 (hTN.blk (tq.blk HNow.out.2.2.2 (by simp)) (by simp; omega))
              have n1z := cell_blk (i := 1) nz rfl
              have n2z := cell_blk (i := 2) nz rfl
              have z2z := free_blk nz 2
              have Cs := Cz.sure hh (gs.length + 1)
              have eq1 : (((gs.length + 1 : Nat)) : Int) = (gs.length : Int) + 1 := by omega
              rw [eq1] at Cs
              have HF := Lib.hid (And.intro Cs H3.out)
              clear Cz Cs Cq hTN nz tq nq hgq htq n1 y0 y1 y2 y3 y4 y3d eq1 tz
              go_wp2_with fail
              go_roundw
              case rel => exact ⟨k + 1, _, _, _, _, by go_num, by omega, rfl, rfl, HF.out.1, by have h := HF.out.2; simp only [List.length_append, List.length_singleton] at h; exact h⟩
              case measure => simp [intOf]; omega
            · as_aux_lemma =>
              have Cop := commit_log L w.heap.size fp s rA rc recs.length recs rfl (by omega) (by omega) (by have := HI.out.fl; omega) (wr.alloc (.cells #[.int .i64 3, .int .i64 on, .slice dA data.length dc, .slice rA recs.length rc, .slice kA keep.length kc] 52)) HCW.out.ls.ls Hrr.out (by omega)
              rw [h1] at Cop
              clear h1
              have HC := Lib.hid Cop
              clear Cop
              go_wp2_with fail
              refine HC.out.mono ?_
              clear HC
              rintro e wx ⟨rfl, hs⟩
              obtain ⟨fp2, C2, T2⟩ := HCW.out.log hs
              have bB := T2.blk HB.out hob
              obtain ⟨y0, y1, y2, y3, y4, -⟩ := blk5 bB
              obtain ⟨Nc, Ncc, Ng, Ncg, hnow⟩ := C2.now
              have l0 : (0 : Int) ≤ (gs.length : Int) := by omega
              have l1 : (gs.length : Int) ≤ (Ncg : Int) := by have h9 : gs.length ≤ Ncg := hnow.cap; omega
              have hbx : BsD (fun b => b ∉ (w3.heap.size + 1) :: L :: fp2) wx rA recs := ((Hbe.out.touch T2 (fun b (hb : b < w.heap.size) _ hm => by have := HCW.out.ls.f b hm; omega))).mono (fun b hb hd hm => by
                have hd2 : b < w.heap.size := hd
                rcases List.mem_cons.1 hm with e | e
                · have := C2.wN; omega
                · have := C2.ls.f b e; omega)
              have HNow := Lib.hid (And.intro hnow (And.intro hbx (And.intro C2 bB)))
              clear hnow C2 T2 bB hs hbx
              go_wp2_with fail
              obtain ⟨wd, hwd⟩ : ∃ wd, wd = wx.drew := ⟨_, rfl⟩
              have td := (Touch.refl [] wx).drew
              rw [← hwd] at td
              have bNd := td.blk HNow.out.1.blk (by simp)
              have n1 := cell_blk (i := 1) bNd rfl
              have y3d := cell_blk (i := 3) (td.blk HNow.out.2.2.2 (by simp)) rfl
              have tz : Touch [] wx (wd.alloc (.cells #[.slice rA recs.length rc] 49)) := td.alloc _
              have n1a := ((Touch.refl [] wd).alloc (.cells #[.slice rA recs.length rc] 49)).cell n1 (by simp)
              have y3a := ((Touch.refl [] wd).alloc (.cells #[.slice rA recs.length rc] 49)).cell y3d (by simp)
              refine wp_region_until 14 (fun w' => w'.cell? ⟨w3.heap.size + 1, 1, none⟩ = some (.slice Ng gs.length Ncg) ∧ w'.cell? ⟨wr.heap.size, 3, none⟩ = some (.slice rA recs.length rc)) (by kernel_rfl) ?_
              rw [← hwd]
              clear hwd
              have hHd : (fun w' : World => w'.cell? ⟨w3.heap.size + 1, 1, none⟩ = some (.slice Ng gs.length Ncg) ∧ w'.cell? ⟨wr.heap.size, 3, none⟩ = some (.slice rA recs.length rc)) wd := ⟨n1, y3d⟩
              refine takeU (i := 0) (d := 67) (v := ?_) rfl rfl (by kernel_rfl) (by kernel_rfl) (by kernel_rfl) (fun _ _ _ h => h) (by decide) rfl (by kernel_rfl) (by kernel_rfl) (Or.inl ⟨by rfl, ?_⟩) hHd ?_
              rotate_left
              · intro w hSw; (try dsimp only at hSw); go_simp; (try with_reducible rfl)
              try simp only [Act.put, List.setIfInBounds_toArray, List.set_cons_zero, List.set_cons_succ]
              refine takeU (i := 1) (d := 68) (v := ?_) rfl rfl (by kernel_rfl) (by kernel_rfl) (by kernel_rfl) (fun _ _ _ h => h) (by decide) rfl (by kernel_rfl) (by kernel_rfl) (Or.inl ⟨by rfl, ?_⟩) hHd ?_
              rotate_left
              · intro w hSw; (try dsimp only at hSw); go_simp; (try with_reducible rfl)
              try simp only [Act.put, List.setIfInBounds_toArray, List.set_cons_zero, List.set_cons_succ]
              refine takeU (i := 2) (d := 69) (v := ?_) rfl rfl (by kernel_rfl) (by kernel_rfl) (by kernel_rfl) (fun _ _ _ h => h) (by decide) rfl (by kernel_rfl) (by kernel_rfl) (Or.inl ⟨by rfl, ?_⟩) hHd ?_
              rotate_left
              · intro w hSw; (try dsimp only at hSw); go_simp; (try with_reducible rfl)
              try simp only [Act.put, List.setIfInBounds_toArray, List.set_cons_zero, List.set_cons_succ]
              refine takeU (i := 3) (d := 70) (v := ?_) rfl rfl (by kernel_rfl) (by kernel_rfl) (by kernel_rfl) (fun _ _ _ h => h) (by decide) rfl (by kernel_rfl) (by kernel_rfl) (Or.inl ⟨by rfl, ?_⟩) hHd ?_
              rotate_left
              · intro w hSw; (try dsimp only at hSw); go_simp; (try with_reducible rfl)
              try simp only [Act.put, List.setIfInBounds_toArray, List.set_cons_zero, List.set_cons_succ]
              refine takeU (i := 4) (d := 71) (v := ?_) rfl rfl (by kernel_rfl) (by kernel_rfl) (by kernel_rfl) (fun _ _ _ h => h) (by decide) rfl (by kernel_rfl) (by kernel_rfl) (Or.inl ⟨by rfl, ?_⟩) hHd ?_
              rotate_left
              · intro w hSw; (try dsimp only at hSw); go_simp; (try with_reducible rfl)
              try simp only [Act.put, List.setIfInBounds_toArray, List.set_cons_zero, List.set_cons_succ]
              refine takeU (i := 5) (d := 72) (v := ?_) rfl rfl (by kernel_rfl) (by kernel_rfl) (by kernel_rfl) (fun _ _ _ h => h) (by decide) rfl (by kernel_rfl) (by kernel_rfl) (Or.inl ⟨by rfl, ?_⟩) hHd ?_
              rotate_left
              · intro w hSw; (try dsimp only at hSw); go_simp; (try with_reducible rfl)
              try simp only [Act.put, List.setIfInBounds_toArray, List.set_cons_zero, List.set_cons_succ]
              refine takeU (i := 6) (d := 73) (v := ?_) rfl rfl (by kernel_rfl) (by kernel_rfl) (by kernel_rfl) (fun _ _ _ h => h) (by decide) rfl (by kernel_rfl) (by kernel_rfl) (Or.inl ⟨by rfl, ?_⟩) hHd ?_
              rotate_left
              · intro w hSw; (try dsimp only at hSw); go_simp; (try with_reducible rfl)
              try simp only [Act.put, List.setIfInBounds_toArray, List.set_cons_zero, List.set_cons_succ]
              refine takeU (i := 7) (d := 74) (v := ?_) rfl rfl (by kernel_rfl) (by kernel_rfl) (by kernel_rfl) (fun _ _ _ h => h) (by decide) rfl (by kernel_rfl) (by kernel_rfl) (Or.inl ⟨by rfl, ?_⟩) hHd ?_
              rotate_left
              · intro w hSw; (try dsimp only at hSw); go_simp; (try with_reducible rfl)
              try simp only [Act.put, List.setIfInBounds_toArray, List.set_cons_zero, List.set_cons_succ]
              refine takeU (i := 8) (d := 75) (v := ?_) rfl rfl (by kernel_rfl) (by kernel_rfl) (by kernel_rfl) (fun _ _ _ h => h) (by decide) rfl (by kernel_rfl) (by kernel_rfl) (Or.inl ⟨by rfl, ?_⟩) hHd ?_
              rotate_left
              · intro w hSw; (try dsimp only at hSw); go_simp; (try with_reducible rfl)
              try simp only [Act.put, List.setIfInBounds_toArray, List.set_cons_zero, List.set_cons_succ]
              refine takeU (i := 9) (d := 76) (v := ?_) rfl rfl (by kernel_rfl) (by kernel_rfl) (by kernel_rfl) (fun _ _ _ h => h) (by decide) rfl (by kernel_rfl) (by kernel_rfl) (Or.inl ⟨by rfl, ?_⟩) hHd ?_
              rotate_left
              · intro w hSw; (try dsimp only at hSw); go_simp; (try with_reducible rfl)
              try simp only [Act.put, List.setIfInBounds_toArray, List.set_cons_zero, List.set_cons_succ]
              refine takeU (i := 10) (d := 77) (v := ?_) rfl rfl (by kernel_rfl) (by kernel_rfl) (by kernel_rfl) (fun _ _ _ h => h) (by decide) rfl (by kernel_rfl) (by kernel_rfl) (Or.inl ⟨by rfl, ?_⟩) hHd ?_
              rotate_left
              · intro w hSw; (try dsimp only at hSw); go_simp; (try with_reducible rfl)
              try simp only [Act.put, List.setIfInBounds_toArray, List.set_cons_zero, List.set_cons_succ]
              refine oneU (i := 11) (by kernel_rfl) rfl (fun K hK => ?_)
              go_simp
              have hHa : (fun w' : World => w'.cell? ⟨w3.heap.size + 1, 1, none⟩ = some (.slice Ng gs.length Ncg) ∧ w'.cell? ⟨wr.heap.size, 3, none⟩ = some (.slice rA recs.length rc)) (wd.alloc (.cells #[.slice rA recs.length rc] 49)) := ⟨n1a, y3a⟩
              refine hK _ _ (fun _ => hHa) ?_
              clear hK K
              try simp only [Act.put, List.setIfInBounds_toArray, List.set_cons_zero, List.set_cons_succ]
              refine oneU (i := 12) (by kernel_rfl) rfl (fun K hK => ?_)
              refine step_appGr rfl (.tmp 75) (.tmp 78) rfl (D := fun b => b ∉ (w3.heap.size + 1) :: L :: fp2) Ng gs.length gs rfl rfl (HNow.out.1.gd.touch0 tz) wd.heap.size rA recs.length rc recs rfl (cell_blk (heap_alloc_new wd _) rfl) rfl (HNow.out.2.1.touch0 tz) (by omega) ?_
              intro gq cq wq hgq hfq htq hcq
              have tq : Touch [] wx wq := tz.trans0 htq
              have nq0 := tq.blk HNow.out.1.blk (by simp)
              have n1q0 := cell_blk (i := 1) nq0 rfl
              have z1q0 := free_blk nq0 1
              have y3q := cell_blk (i := 3) (tq.blk HNow.out.2.2.2 (by simp)) rfl
              have hHq : (fun w' : World => w'.cell? ⟨w3.heap.size + 1, 1, none⟩ = some (.slice Ng gs.length Ncg) ∧ w'.cell? ⟨wr.heap.size, 3, none⟩ = some (.slice rA recs.length rc)) wq := ⟨n1q0, y3q⟩
              refine hK _ _ (fun _ => hHq) ?_
              clear hK K
              try simp only [Act.put, List.setIfInBounds_toArray, List.set_cons_zero, List.set_cons_succ]
              refine takeU (i := 13) (d := 80) (v := ?_) rfl rfl (by kernel_rfl) (by kernel_rfl) (by kernel_rfl) (fun _ _ _ h => h) (by decide) rfl (by kernel_rfl) (by kernel_rfl) (Or.inl ⟨by rfl, ?_⟩) hHq ?_
              rotate_left
              · intro w hSw; (try dsimp only at hSw); go_simp; (try with_reducible rfl)
              try simp only [Act.put, List.setIfInBounds_toArray, List.set_cons_zero, List.set_cons_succ]
              refine oneU (i := 14) (by kernel_rfl) rfl (fun K hK => ?_)
              go_simp
              refine hK _ _ (fun h => by cases h) ?_
              clear hK K
              refine doneU (by kernel_rfl) ?_ _
              have nq := tq.blk HNow.out.1.blk (by simp)
              have n1q := cell_blk (i := 1) nq rfl
              have z1q := free_blk nq 1
              have hgq2 : wx.heap.size ≤ gq := by have := tz.size; omega
              have Cq := HNow.out.2.2.1.touch0 tq
              have hTN : Touch [(w3.heap.size + 1)] wq (wq.setCell ⟨w3.heap.size + 1, 1, none⟩ (.slice (some ⟨gq, 0, none⟩) (gs.length + 1) cq)) := (Touch.refl [(w3.heap.size + 1)] wq).setCell (.inl (by simp)) _
              have nz := set_blk nq 1 (.slice (some ⟨gq, 0, none⟩) (gs.length + 1) cq)
              have Cz := Cq.put hh hTN (g2 := ⟨cp, gs ++ [recs], sure, next, decide ((40 : Int) = 40)⟩) rfl (by rw [List.length_append]; exact nz) (HNow.out.1.rc.touch1 tq (fun _ _ _ => by simp)) HNow.out.1.ac (hgq.mono (fun b _ hd hm => by
                rcases hd with hd | rfl
                · exact hd hm
                · rcases List.mem_cons.1 hm with e | e
                  · have := HNow.out.2.2.1.lt; omega
                  · have := HNow.out.2.2.1.ls.ls.lts b e; omega)) (by simp; omega)
              obtain ⟨y0z, -⟩ := blk5 (hTN.blk (tq.blk HNow.out.2.2.2 (by simp)) (by simp; omega))
              have HF := Lib.hid (And.intro Cz H3.out)
              clear Cz Cq hTN nz tq nq hgq htq n1 y0 y1 y2 y3 y4 y3d tz
              go_wp2_with fail
              go_roundw
              case rel => exact ⟨k + 1, _, _, _, _, by go_num, by omega, rfl, rfl, HF.out.1, HF.out.2⟩
              case measure => simp [intOf]; omega
          · as_aux_lemma =>
            have Cop := commit_log L w.heap.size fp s rA rc recs.length recs rfl (by omega) (by omega) (by have := HI.out.fl; omega) (wr.alloc (.cells #[.int .i64 3, .int .i64 on, .slice dA data.length dc, .slice rA recs.length rc, .slice kA keep.length kc] 52)) HCW.out.ls.ls Hrr.out (by omega)
            rw [down_commit Hld.out] at Cop
            have HC := Lib.hid Cop
            clear Cop
            go_wp2_with fail
            refine HC.out.mono ?_
            clear HC
            rintro e wx ⟨rfl, hs⟩
            obtain ⟨fp2, C2, T2⟩ := HCW.out.log hs
            have bB := T2.blk HB.out hob
            obtain ⟨y0, y1, y2, y3, y4, -⟩ := blk5 bB
            have HF := Lib.hid (And.intro C2 HI.out.succ)
            clear C2 T2 bB hs
            go_wp2_with fail
            go_roundw
            case rel => exact ⟨k + 1, _, _, _, _, by go_num, by omega, rfl, rfl, HF.out.1, HF.out.2⟩
            case measure => simp [intOf]; omega
      by_cases hk2 : kd = 2
      · subst hk2
        rcases down with _ | _
        · obtain ⟨e3, s3, h1, h2, h3, -⟩ := inv_sync HI.out rfl
          simp only at h3
          have H3 := Lib.hid h3
          clear h3
          rcases h2 with rfl | rfl
          · as_aux_lemma =>
            have Cop := sync_log L w.heap.size fp s (by have := HI.out.fl; omega) (wr.alloc (.cells #[.int .i64 2, .int .i64 on, .slice dA data.length dc, .slice rA recs.length rc, .slice kA keep.length kc] 52)) HCW.out.ls.ls (by omega)
            rw [h1] at Cop
            clear h1
            have HC := Lib.hid Cop
            clear Cop
            go_wp2_with fail
            refine HC.out.mono ?_
            clear HC
            rintro e wx ⟨rfl, hs⟩
            obtain ⟨fp2, C2, T2⟩ := HCW.out.log hs
            have bB := T2.blk HB.out hob
            obtain ⟨y0, y1, y2, y3, y4, -⟩ := blk5 bB
            have HF := Lib.hid (And.intro ((C2.sure hh gs.length).dn false) H3.out)
            obtain ⟨Nc, Ncc, Ng, Ncg, hnow⟩ := C2.now
            have n1 := cell_blk (i := 1) hnow.blk rfl
            have n2 := cell_blk (i := 2) hnow.blk rfl
            have z2 := free_blk hnow.blk 2
            clear C2 T2 bB hs hnow
            go_wp2_with fail
            go_roundw
            case rel => exact ⟨k + 1, _, _, _, _, by go_num, by omega, rfl, rfl, HF.out.1, HF.out.2⟩
            case measure => simp [intOf]; omega
          · as_aux_lemma =>
            have Cop := sync_log L w.heap.size fp s (by have := HI.out.fl; omega) (wr.alloc (.cells #[.int .i64 2, .int .i64 on, .slice dA data.length dc, .slice rA recs.length rc, .slice kA keep.length kc] 52)) HCW.out.ls.ls (by omega)
            rw [h1] at Cop
            clear h1
            have HC := Lib.hid Cop
            clear Cop
            go_wp2_with fail
            refine HC.out.mono ?_
            clear HC
            rintro e wx ⟨rfl, hs⟩
            obtain ⟨fp2, C2, T2⟩ := HCW.out.log hs
            have bB := T2.blk HB.out hob
            obtain ⟨y0, y1, y2, y3, y4, -⟩ := blk5 bB
            have HF := Lib.hid (And.intro (C2.dn true) H3.out)
            clear C2 T2 bB hs
            go_wp2_with fail
            go_roundw
            case rel => exact ⟨k + 1, _, _, _, _, by go_num, by omega, rfl, rfl, HF.out.1, HF.out.2⟩
            case measure => simp [intOf]; omega
        · as_aux_lemma =>
          have Cop := sync_log L w.heap.size fp s (by have := HI.out.fl; omega) (wr.alloc (.cells #[.int .i64 2, .int .i64 on, .slice dA data.length dc, .slice rA recs.length rc, .slice kA keep.length kc] 52)) HCW.out.ls.ls (by omega)
          rw [down_sync Hld.out] at Cop
          have HC := Lib.hid Cop
          clear Cop
          go_wp2_with fail
          refine HC.out.mono ?_
          clear HC
          rintro e wx ⟨rfl, hs⟩
          obtain ⟨fp2, C2, T2⟩ := HCW.out.log hs
          have bB := T2.blk HB.out hob
          obtain ⟨y0, y1, y2, y3, y4, -⟩ := blk5 bB
          have HF := Lib.hid (And.intro C2 HI.out.succ)
          clear C2 T2 bB hs
          go_wp2_with fail
          go_roundw
          case rel => exact ⟨k + 1, _, _, _, _, by go_num, by omega, rfl, rfl, HF.out.1, HF.out.2⟩
          case measure => simp [intOf]; omega
      by_cases hk4 : kd = 4
      · subst hk4
        rcases down with _ | _
        · obtain ⟨e3, s3, h1, h2⟩ := inv_compact HI.out rfl sd (by omega)
          have hnn : next = none := by
            rcases HI.out.st with ⟨_, h, _⟩ | ⟨h, _⟩
            · exact h
            · cases h
          subst hnn
          rcases h2 with ⟨rfl, h3⟩ | ⟨rfl, h3⟩
          · as_aux_lemma =>
            have H3 := Lib.hid h3
            clear h3
            have Cop := compact_log L w.heap.size fp s dA dc data.length data rfl (by omega) HI.out.fl (by have := HI.out.gb; omega) (wr.alloc (.cells #[.int .i64 4, .int .i64 on, .slice dA data.length dc, .slice rA recs.length rc, .slice kA keep.length kc] 52)) HCW.out.ls.ls (Rd.stable Hrd0.out (fun b hb => HCW.out.ls.f b (by simp [hb])) HCW.out.ls.t) (by omega)
            rw [h1] at Cop
            clear h1
            have HC := Lib.hid Cop
            clear Cop
            go_wp2_with fail
            refine HC.out.mono ?_
            clear HC
            rintro e wx ⟨rfl, hs⟩
            obtain ⟨fp2, C2, T2⟩ := HCW.out.log hs
            have bB := T2.blk HB.out hob
            obtain ⟨y0, y1, y2, y3, y4, -⟩ := blk5 bB
            have tz : Touch [] wx (wx.alloc (.cells #[] 5)) := (Touch.refl _ _).alloc _
            have y2z := tz.cell y2 (by simp)
            have rdz : RdB (wx.alloc (.cells #[] 5)) dA data := Rd.touch0 Hrd0.out (C2.ls.t.trans0 tz)
            have HC2 := Lib.hid (And.intro C2 (And.intro tz bB))
            clear C2 tz bB hs T2
            go_wp2_with (at_builtin; refine stop ?_)
            refine go ?_
            refine wpList_appB rfl (.tmp 110) (.tmp 112) rfl (some ⟨wx.heap.size, 0, none⟩) 0 0 [] rfl rfl (OwnB.empty_new wx) dA data.length dc data rfl rfl rdz (by omega) ?_
            intro A9 c9 wy hown9 hty hfy
            rw [List.nil_append, Nat.zero_add] at *
            have txy : Touch [] wx wy := HC2.out.2.1.trans hty (fun b hb => .inr (by have h9 : b = wx.heap.size := (by simpa [fpo] using hb); omega))
            have hf9 : ∀ b ∈ fpo A9, wx.heap.size ≤ b := fun b hb => by
              rcases hfy b hb with h | h
              · have h9 : b = wx.heap.size := (by simpa [fpo] using h)
                omega
              · have := HC2.out.2.1.size; omega
            have Cy := HC2.out.1.touch0 txy
            have hsxy := txy.size
            have apt : 0 < data.length → ∀ x ∈ fpo A9, x ∉ (w3.heap.size + 1) :: L :: fp2 := fun _ x hx hm => by
              have h1 := hf9 x hx
              rcases List.mem_cons.1 hm with e | e
              · have := HC2.out.1.lt; omega
              · have := HC2.out.1.ls.ls.lts x e; omega
            obtain ⟨Nc, Ncc, Ng, Ncg, hnow⟩ := Cy.now
            have n0 := cell_blk (i := 0) hnow.blk rfl
            have n1 := cell_blk (i := 1) hnow.blk rfl
            have n2 := cell_blk (i := 2) hnow.blk rfl
            have z0 := free_blk hnow.blk 0
            have z1 := free_blk hnow.blk 1
            have z2 := free_blk hnow.blk 2
            have nz := set_blk (set_blk (set_blk hnow.blk 0 (.slice A9 data.length c9)) 1 (.slice none 0 0)) 2 (.int .i64 0)
            have hTN : Touch [(w3.heap.size + 1)] wy (((wy.setCell ⟨w3.heap.size + 1, 0, none⟩ (.slice A9 data.length c9)).setCell ⟨w3.heap.size + 1, 1, none⟩ (.slice none 0 0)).setCell ⟨w3.heap.size + 1, 2, none⟩ (.int .i64 0)) := (((Touch.refl [(w3.heap.size + 1)] wy).setCell (.inl (by simp)) _).setCell (.inl (by simp)) _).setCell (.inl (by simp)) _
            have Cz := Cy.put hh hTN (g2 := ⟨data, [], 0, none, false⟩) rfl (Ac := A9) (cc := c9) (Ag := none) (cg := 0) nz hown9.rd apt (GsD.nil _ _ _) (Nat.le_refl _)
            have HF := Lib.hid (And.intro Cz H3.out)
            clear Cz Cy nz hTN hnow hown9 apt hf9 txy hty hfy rdz y2z
            go_wp2_with fail
            go_roundw
            case rel => exact ⟨k + 1, _, _, _, _, by go_num, by omega, rfl, rfl, HF.out.1, HF.out.2⟩
            case measure => simp [intOf]; omega
          · as_aux_lemma =>
            have H3 := Lib.hid h3
            clear h3
            have Cop := compact_log L w.heap.size fp s dA dc data.length data rfl (by omega) HI.out.fl (by have := HI.out.gb; omega) (wr.alloc (.cells #[.int .i64 4, .int .i64 on, .slice dA data.length dc, .slice rA recs.length rc, .slice kA keep.length kc] 52)) HCW.out.ls.ls (Rd.stable Hrd0.out (fun b hb => HCW.out.ls.f b (by simp [hb])) HCW.out.ls.t) (by omega)
            rw [h1] at Cop
            clear h1
            have HC := Lib.hid Cop
            clear Cop
            go_wp2_with fail
            refine HC.out.mono ?_
            clear HC
            rintro e wx ⟨rfl, hs⟩
            obtain ⟨fp2, C2, T2⟩ := HCW.out.log hs
            have bB := T2.blk HB.out hob
            obtain ⟨y0, y1, y2, y3, y4, -⟩ := blk5 bB
            have tz : Touch [] wx (wx.alloc (.cells #[] 5)) := (Touch.refl _ _).alloc _
            have y2z := tz.cell y2 (by simp)
            have rdz : RdB (wx.alloc (.cells #[] 5)) dA data := Rd.touch0 Hrd0.out (C2.ls.t.trans0 tz)
            have HC2 := Lib.hid (And.intro C2 (And.intro tz bB))
            clear C2 tz bB hs T2
            go_wp2_with (at_builtin; refine stop ?_)
            refine go ?_
            refine wpList_appB rfl (.tmp 117) (.tmp 119) rfl (some ⟨wx.heap.size, 0, none⟩) 0 0 [] rfl rfl (OwnB.empty_new wx) dA data.length dc data rfl rfl rdz (by omega) ?_
            intro A9 c9 wy hown9 hty hfy
            rw [List.nil_append, Nat.zero_add] at *
            have txy : Touch [] wx wy := HC2.out.2.1.trans hty (fun b hb => .inr (by have h9 : b = wx.heap.size := (by simpa [fpo] using hb); omega))
            have hf9 : ∀ b ∈ fpo A9, wx.heap.size ≤ b := fun b hb => by
              rcases hfy b hb with h | h
              · have h9 : b = wx.heap.size := (by simpa [fpo] using h)
                omega
              · have := HC2.out.2.1.size; omega
            have Cy := HC2.out.1.touch0 txy
            have hsxy := txy.size
            have apt : 0 < data.length → ∀ x ∈ fpo A9, x ∉ (w3.heap.size + 1) :: L :: fp2 := fun _ x hx hm => by
              have h1 := hf9 x hx
              rcases List.mem_cons.1 hm with e | e
              · have := HC2.out.1.lt; omega
              · have := HC2.out.1.ls.ls.lts x e; omega
            have tX : Touch [] wy (wy.alloc (.cells #[.slice A9 data.length c9, .slice none 0 0, .int .i64 0] 47)) := (Touch.refl _ _).alloc _
            have CX := Cy.touch0 tX
            have Cz : CrS w L w.heap.size (w3.heap.size + 1) fp2 s3 ⟨cp, gs, sure, some data, true⟩ (.pointer (some ⟨wy.heap.size, 0, none⟩)) (wy.alloc (.cells #[.slice A9 data.length c9, .slice none 0 0, .int .i64 0] 47)) :=
              ⟨CX.ls, CX.now, .inr ⟨data, wy.heap.size, A9, c9, rfl, rfl, heap_alloc_new wy _, fun hm => by
                rcases List.mem_cons.1 hm with e | e
                · have := Cy.lt; omega
                · have := Cy.ls.ls.lts _ e; omega, Rd.touch0 hown9.rd tX, apt⟩, CX.nN, CX.wN⟩
            have HF := Lib.hid (And.intro Cz H3.out)
            clear Cz Cy CX tX hown9 apt hf9 txy hty hfy rdz y2z
            go_wp2_with fail
            go_roundw
            case rel => exact ⟨k + 1, _, _, _, _, by go_num, by omega, rfl, rfl, HF.out.1, HF.out.2⟩
            case measure => simp [intOf]; omega
        · as_aux_lemma =>
          have Cop := compact_log L w.heap.size fp s dA dc data.length data rfl (by omega) HI.out.fl (by have := HI.out.gb; omega) (wr.alloc (.cells #[.int .i64 4, .int .i64 on, .slice dA data.length dc, .slice rA recs.length rc, .slice kA keep.length kc] 52)) HCW.out.ls.ls (Rd.stable Hrd0.out (fun b hb => HCW.out.ls.f b (by simp [hb])) HCW.out.ls.t) (by omega)
          rw [down_compact Hld.out] at Cop
          have HC := Lib.hid Cop
          clear Cop
          go_wp2_with fail
          refine HC.out.mono ?_
          clear HC
          rintro e wx ⟨rfl, hs⟩
          obtain ⟨fp2, C2, T2⟩ := HCW.out.log hs
          have bB := T2.blk HB.out hob
          obtain ⟨y0, y1, y2, y3, y4, -⟩ := blk5 bB
          have HF := Lib.hid (And.intro C2 HI.out.succ)
          clear C2 T2 bB hs
          go_wp2_with fail
          go_roundw
          case rel => exact ⟨k + 1, _, _, _, _, by go_num, by omega, rfl, rfl, HF.out.1, HF.out.2⟩
          case measure => simp [intOf]; omega
      by_cases hk5 : kd = 5
      · subst hk5
        have Cop := arm_dk w.heap.size fp s.V s.r on (wr.alloc (.cells #[.int .i64 5, .int .i64 on, .slice dA data.length dc, .slice rA recs.length rc, .slice kA keep.length kc] 52)) HCW.out.ls.ls.dk hbn.2
        have HC := Lib.hid Cop
        clear Cop
        go_wp2_with fail
        refine HC.out.mono ?_
        clear HC
        rintro e wx ⟨rfl, hs⟩
        obtain ⟨fp2, C2, T2⟩ := HCW.out.log (HCW.out.ls.ls.step hs)
        have HF := Lib.hid (And.intro C2 (inv_arm HI.out (max on (-1))))
        clear C2 T2 hs
        go_wp2_with fail
        go_roundw
        case rel => exact ⟨k + 1, _, _, _, _, by go_num, by omega, rfl, rfl, HF.out.1, HF.out.2⟩
        case measure => simp [intOf]; omega
      by_cases hk6 : kd = 6
      · subst hk6
        obtain ⟨s2, B, c1, c2, c3, c4, c5⟩ := inv_crash HI.out (by omega) keep
        have Cop := crash_dk w.heap.size fp s.V s.r kA kc keep (wr.alloc (.cells #[.int .i64 6, .int .i64 on, .slice dA data.length dc, .slice rA recs.length rc, .slice kA keep.length kc] 52)) HCW.out.ls.ls.dk (Rd.stable Hrk0.out.1 (fun b hb => HCW.out.ls.f b (by simp [hb])) HCW.out.ls.t) Hrk0.out.2
        have HC := Lib.hid Cop
        have Hc := Lib.hid (And.intro c1 (And.intro c2 (And.intro c3 c4)))
        have Hc5 := Lib.hid c5
        clear Cop c1 c2 c3 c4 c5
        go_wp2_with fail
        refine HC.out.mono ?_
        clear HC
        rintro e wx ⟨rfl, hs⟩
        obtain ⟨fp2, C2, T2⟩ := HCW.out.log (HCW.out.ls.ls.step hs)
        have C6 := open_cap w.heap.size fp2 _ _ w wx C2.ls.dkS hh rfl Hc.out.2.2.1 Hc.out.2.2.2 (by show s.r.done + 5 ≤ _; omega) _ Hc.out.1 _ Hc.out.2.1
        have HC6 := Lib.hid C6
        have HC2 := Lib.hid C2
        clear C6 C2 T2 hs
        go_wp2_with fail
        refine HC6.out.mono ?_
        clear HC6
        rintro e w7 ⟨L7, fp7, Fc, fcc, Fg, fcg, rfl, hL7, hT7, hLg, hF7, hrf, hcf, haf, hgf, hgc⟩
        have C7 := HC2.out.opened hL7 hT7 hLg hF7
        have haf' : 0 < B.cp.length → ∀ x ∈ fpo Fc, x ∉ (w3.heap.size + 1) :: L7 :: fp7 := fun h0 x hx hm => by
          have h1 := haf h0 x hx
          rcases List.mem_cons.1 hm with e | e
          · have := HC2.out.lt; omega
          · exact h1.2 e
        have hgf' := hgf.mono (D' := fun x => x ∉ (w3.heap.size + 1) :: L7 :: fp7) (fun x _ hd hm => by
          rcases List.mem_cons.1 hm with e | e
          · have := HC2.out.lt; omega
          · exact hd.2 e)
        have HX := Lib.hid (And.intro C7 (And.intro hrf (And.intro haf' hgf')))
        clear C7 hrf hcf haf hgf haf' hgf' hL7 hT7 hF7 hLg HC2 Hc
        rcases Hc5.out with ⟨j, j1, j2, jc, jg, jI⟩ | ⟨cp2, jn, jl, jc, jg, jI⟩
        · as_aux_lemma =>
          obtain ⟨b_gen, b_c, b_g, b_e⟩ := B
          simp only at jc jg HX hgc
          have jc' := jc.symm
          subst jc'
          subst jg
          dsimp only
          have hjl : (gs.take j).length = j := by rw [List.length_take]; omega
          rw [hjl] at hgc ⊢
          have Hjl := Lib.hid hjl
          have HI2 := Lib.hid jI
          have tf : Touch [] w7 (w7.alloc (.cells #[.slice Fc cp.length fcc, .slice Fg j fcg] 34)) := (Touch.refl _ _).alloc _
          have bF := heap_alloc_new w7 (.cells #[.slice Fc cp.length fcc, .slice Fg j fcg] 34)
          have C8 := HX.out.1.touch0 tf
          have r8 : RdB (w7.alloc (.cells #[.slice Fc cp.length fcc, .slice Fg j fcg] 34)) Fc cp := Rd.touch0 HX.out.2.1 tf
          have g8 : GsD (fun x => x ∉ (w3.heap.size + 1) :: L7 :: fp7) (w7.alloc (.cells #[.slice Fc cp.length fcc, .slice Fg j fcg] 34)) Fg (gs.take j) := HX.out.2.2.2.touch0 tf
          obtain ⟨Nc, Ncc, Ng, Ncg, hnow⟩ := C8.now
          have n0 := cell_blk (i := 0) hnow.blk rfl
          have n1 := cell_blk (i := 1) hnow.blk rfl
          have n2 := cell_blk (i := 2) hnow.blk rfl
          have f0 := cell_blk (i := 0) bF rfl
          have f1 := cell_blk (i := 1) bF rfl
          have hft := fits_any Nc Ncc cp Ng Ncg gs sure Fc fcc cp Fg fcg (gs.take j) (w7.alloc (.cells #[.slice Fc cp.length fcc, .slice Fg j fcg] 34)) hnow.rc hnow.gd hnow.cap r8 g8 (by omega) (by rw [Hjl.out]; omega) (fun g hg => by have := HI.out.gr g (List.mem_of_mem_take hg); omega) (fun _ => by rw [Hjl.out])
          rw [Hjl.out, decide_eq_true rfl, decide_eq_true j1, decide_eq_true j2] at hft
          clear hjl
          simp only [Bool.and_self] at hft
          have Hnow := Lib.hid (And.intro hnow (And.intro C8 (And.intro r8 (And.intro g8 bF))))
          clear hnow C8 r8 g8 bF tf
          have Hft := Lib.hid hft
          clear hft
          go_wp2_with fail
          refine Hft.out.mono ?_
          rintro e w8 ⟨rfl, ht8⟩
          obtain ⟨m0, m1, m2, q0z, q1z, q2z⟩ : w8.cell? ⟨w3.heap.size + 1, 0, none⟩ = some (.slice Nc cp.length Ncc) ∧ w8.cell? ⟨w3.heap.size + 1, 1, none⟩ = some (.slice Ng gs.length Ncg) ∧ w8.cell? ⟨w3.heap.size + 1, 2, none⟩ = some (.int .i64 sure) ∧ w8.frozen? ⟨w3.heap.size + 1, 0, none⟩ = false ∧ w8.frozen? ⟨w3.heap.size + 1, 1, none⟩ = false ∧ w8.frozen? ⟨w3.heap.size + 1, 2, none⟩ = false :=
            ⟨ht8.cell n0 (by simp), ht8.cell n1 (by simp), ht8.cell n2 (by simp), free_blk (ht8.blk Hnow.out.1.blk (by simp)) 0, free_blk (ht8.blk Hnow.out.1.blk (by simp)) 1, free_blk (ht8.blk Hnow.out.1.blk (by simp)) 2⟩
          have k0 := ht8.cell f0 (by simp)
          have k1 := ht8.cell f1 (by simp)
          have nz := set_blk (set_blk (set_blk (ht8.blk Hnow.out.1.blk (by simp)) 0 (.slice Nc cp.length Ncc)) 1 (.slice Fg j fcg)) 2 (.int .i64 j)
          have hTN : Touch [(w3.heap.size + 1)] w8 (((w8.setCell ⟨w3.heap.size + 1, 0, none⟩ (.slice Nc cp.length Ncc)).setCell ⟨w3.heap.size + 1, 1, none⟩ (.slice Fg j fcg)).setCell ⟨w3.heap.size + 1, 2, none⟩ (.int .i64 j)) := (((Touch.refl [(w3.heap.size + 1)] w8).setCell (.inl (by simp)) _).setCell (.inl (by simp)) _).setCell (.inl (by simp)) _
          have Cz := (Hnow.out.2.1.touch0 ht8).put hh hTN (g2 := ⟨cp, (gs.take j), j, next, down⟩) rfl (Ac := Nc) (cc := Ncc) (Ag := Fg) (cg := fcg) (by rw [Hjl.out]; exact nz) (Rd.touch0 Hnow.out.1.rc ht8) Hnow.out.1.ac (Hnow.out.2.2.2.1.touch0 ht8) (by rw [Hjl.out]; exact hgc)
          have Cw : CrS w L7 w.heap.size (w3.heap.size + 1) fp7 s2 ⟨cp, (gs.take j), j, none, false⟩ (.pointer none) _ := ⟨Cz.ls, Cz.now, .inl ⟨rfl, rfl⟩, Cz.nN, Cz.wN⟩
          have HF := Lib.hid (And.intro Cw HI2.out)
          clear Cw Cz nz hTN n0 n1 n2 f0 f1 ht8
          go_wp2_with fail
          go_roundw
          case rel => exact ⟨k + 1, _, _, _, _, by go_num, by omega, rfl, rfl, HF.out.1, HF.out.2⟩
          case measure => simp [intOf]; omega
        · as_aux_lemma =>
          obtain ⟨b_gen, b_c, b_g, b_e⟩ := B
          simp only at jc jg HX hgc
          have jc' := jc.symm
          subst jc'
          subst jg
          dsimp only
          simp only [List.length_nil]
          have HI2 := Lib.hid jI
          have tf : Touch [] w7 (w7.alloc (.cells #[.slice Fc cp2.length fcc, .slice Fg 0 fcg] 34)) := (Touch.refl _ _).alloc _
          have bF := heap_alloc_new w7 (.cells #[.slice Fc cp2.length fcc, .slice Fg 0 fcg] 34)
          have C8 := HX.out.1.touch0 tf
          have r8 : RdB (w7.alloc (.cells #[.slice Fc cp2.length fcc, .slice Fg 0 fcg] 34)) Fc cp2 := Rd.touch0 HX.out.2.1 tf
          have g8 : GsD (fun x => x ∉ (w3.heap.size + 1) :: L7 :: fp7) (w7.alloc (.cells #[.slice Fc cp2.length fcc, .slice Fg 0 fcg] 34)) Fg ([] : List (List (List UInt8))) := HX.out.2.2.2.touch0 tf
          obtain ⟨Nc, Ncc, Ng, Ncg, hnow⟩ := C8.now
          have n0 := cell_blk (i := 0) hnow.blk rfl
          have n1 := cell_blk (i := 1) hnow.blk rfl
          have n2 := cell_blk (i := 2) hnow.blk rfl
          have f0 := cell_blk (i := 0) bF rfl
          have f1 := cell_blk (i := 1) bF rfl
          have hft := fits_any Nc Ncc cp Ng Ncg gs sure Fc fcc cp2 Fg fcg ([] : List (List (List UInt8))) (w7.alloc (.cells #[.slice Fc cp2.length fcc, .slice Fg 0 fcg] 34)) hnow.rc hnow.gd hnow.cap r8 g8 (by omega) (by simp) (fun g hg => by cases hg) (fun _ => by simp)
          simp only [List.length_nil] at hft
          have Hnow := Lib.hid (And.intro hnow (And.intro C8 (And.intro r8 (And.intro g8 bF))))
          clear hnow C8 r8 g8 bF tf
          obtain ⟨bq, hbq⟩ : ∃ b, b = (decide (cp2 = cp) && decide (sure ≤ 0) && decide (0 ≤ gs.length)) := ⟨_, rfl⟩
          rw [← hbq] at hft
          have Hft := Lib.hid hft
          clear hft
          rcases bq with _ | _
          · clear hbq
            go_wp2_with fail
            refine Hft.out.mono ?_
            rintro e w8 ⟨rfl, ht8⟩
            have C9 := Hnow.out.2.1.touch0 ht8
            rcases C9.next with ⟨h1, _⟩ | ⟨cp3, X, Xc, xcc, h1, rfl, hX, hXa, hXr, hXf⟩
            · exfalso
              simp only at h1
              rw [h1] at jn
              cases jn
            · obtain rfl : cp3 = cp2 := by
                simp only at h1
                rw [h1] at jn
                injection jn
              have x0 := TW.cell (cell_blk (i := 0) hX rfl)
              have x1 := TW.cell (cell_blk (i := 1) hX rfl)
              have x2 := TW.cell (cell_blk (i := 2) hX rfl)
              have k0 := TW.cell (ht8.cell f0 (by simp))
              have k1 := TW.cell (ht8.cell f1 (by simp))
              have Hfx := Lib.hid (fun x : TW w8 => (fits_any Xc xcc cp3 none 0 [] 0 Fc fcc cp3 Fg fcg [] x.w (Rd.touch0 hXr x.t) (GsD.nil (fun _ => True) _ _) (Nat.le_refl _) (Rd.touch0 (Rd.touch0 Hnow.out.2.2.1 ht8) x.t) (GsD.nil (fun _ => True) _ _) (by simp) (by simp) (fun g hg => by cases hg) (fun _ => rfl)))
              simp only [List.length_nil, decide_true, Nat.le_refl, Bool.and_self] at Hfx
              have HX9 := Lib.hid (And.intro C9 (And.intro hX (And.intro hXr hXf)))
              clear C9 hX hXa hXr hXf n0 n1 n2 f0 f1
              go_wp2_with fail
              refine wp_region_tw w8 (Touch.refl _ _) (by kernel_rfl) (by kernel_rfl) ?_
              repeat (go_big_quiet_step (((go_at_call 27; exact Calls.tw _ (Hfx.out _)))))
              refine wpQuiet_nil ?_
              rintro _ ⟨z, rfl⟩
              have C10 := HX9.out.1.touch0 z.t
              have hX10 := z.t.blk HX9.out.2.1 (by simp)
              obtain ⟨Nd, Ndd, Ne, Nee, hnw⟩ := C10.now
              have n0 := cell_blk (i := 0) hnw.blk rfl
              have n1 := cell_blk (i := 1) hnw.blk rfl
              have n2 := cell_blk (i := 2) hnw.blk rfl
              have z0 := free_blk hnw.blk 0
              have z1 := free_blk hnw.blk 1
              have z2 := free_blk hnw.blk 2
              have v0 := cell_blk (i := 0) hX10 rfl
              have v1 := cell_blk (i := 1) hX10 rfl
              have v2 := cell_blk (i := 2) hX10 rfl
              have nz := set_blk (set_blk (set_blk hnw.blk 0 (.slice Xc cp3.length xcc)) 1 (.slice none 0 0)) 2 (.int .i64 0)
              have hTN : Touch [(w3.heap.size + 1)] z.w (((z.w.setCell ⟨w3.heap.size + 1, 0, none⟩ (.slice Xc cp3.length xcc)).setCell ⟨w3.heap.size + 1, 1, none⟩ (.slice none 0 0)).setCell ⟨w3.heap.size + 1, 2, none⟩ (.int .i64 0)) := (((Touch.refl [(w3.heap.size + 1)] z.w).setCell (.inl (by simp)) _).setCell (.inl (by simp)) _).setCell (.inl (by simp)) _
              have Cz := C10.put hh hTN (g2 := ⟨cp3, [], 0, next, down⟩) rfl (Ac := Xc) (cc := xcc) (Ag := none) (cg := 0) nz (Rd.touch0 HX9.out.2.2.1 z.t) HX9.out.2.2.2 (GsD.nil _ _ _) (Nat.le_refl _)
              have Cw : CrS w L7 w.heap.size (w3.heap.size + 1) fp7 s2 ⟨cp3, [], 0, none, false⟩ (.pointer none) _ := ⟨Cz.ls, Cz.now, .inl ⟨rfl, rfl⟩, Cz.nN, Cz.wN⟩
              have HF := Lib.hid (And.intro Cw HI2.out)
              clear Cw Cz nz hTN hnw hX10 C10 x0 x1 x2 k0 k1 ht8
              go_wp2_with fail
              go_roundw
              case rel => exact ⟨k + 1, _, _, _, _, by go_num, by omega, rfl, rfl, HF.out.1, HF.out.2⟩
              case measure => simp [intOf]; omega
          · simp only [Bool.true_eq, Bool.and_eq_true, decide_eq_true_eq] at hbq
            obtain ⟨⟨e1, e2⟩, -⟩ := hbq
            obtain rfl : sure = 0 := by omega
            subst e1
            go_wp2_with fail
            refine Hft.out.mono ?_
            rintro e w8 ⟨rfl, ht8⟩
            obtain ⟨m0, m1, m2, q0z, q1z, q2z⟩ : w8.cell? ⟨w3.heap.size + 1, 0, none⟩ = some (.slice Nc cp2.length Ncc) ∧ w8.cell? ⟨w3.heap.size + 1, 1, none⟩ = some (.slice Ng gs.length Ncg) ∧ w8.cell? ⟨w3.heap.size + 1, 2, none⟩ = some (.int .i64 0) ∧ w8.frozen? ⟨w3.heap.size + 1, 0, none⟩ = false ∧ w8.frozen? ⟨w3.heap.size + 1, 1, none⟩ = false ∧ w8.frozen? ⟨w3.heap.size + 1, 2, none⟩ = false :=
              ⟨ht8.cell n0 (by simp), ht8.cell n1 (by simp), ht8.cell n2 (by simp), free_blk (ht8.blk Hnow.out.1.blk (by simp)) 0, free_blk (ht8.blk Hnow.out.1.blk (by simp)) 1, free_blk (ht8.blk Hnow.out.1.blk (by simp)) 2⟩
            have k0 := ht8.cell f0 (by simp)
            have k1 := ht8.cell f1 (by simp)
            have nz := set_blk (set_blk (set_blk (ht8.blk Hnow.out.1.blk (by simp)) 0 (.slice Nc cp2.length Ncc)) 1 (.slice Fg 0 fcg)) 2 (.int .i64 0)
            have hTN : Touch [(w3.heap.size + 1)] w8 (((w8.setCell ⟨w3.heap.size + 1, 0, none⟩ (.slice Nc cp2.length Ncc)).setCell ⟨w3.heap.size + 1, 1, none⟩ (.slice Fg 0 fcg)).setCell ⟨w3.heap.size + 1, 2, none⟩ (.int .i64 0)) := (((Touch.refl [(w3.heap.size + 1)] w8).setCell (.inl (by simp)) _).setCell (.inl (by simp)) _).setCell (.inl (by simp)) _
            have Cz := (Hnow.out.2.1.touch0 ht8).put hh hTN (g2 := ⟨cp2, ([] : List (List (List UInt8))), 0, next, down⟩) rfl (Ac := Nc) (cc := Ncc) (Ag := Fg) (cg := fcg) (by exact nz) (Rd.touch0 Hnow.out.1.rc ht8) Hnow.out.1.ac (Hnow.out.2.2.2.1.touch0 ht8) (by simp)
            have Cw : CrS w L7 w.heap.size (w3.heap.size + 1) fp7 s2 ⟨cp2, ([] : List (List (List UInt8))), 0, none, false⟩ (.pointer none) _ := ⟨Cz.ls, Cz.now, .inl ⟨rfl, rfl⟩, Cz.nN, Cz.wN⟩
            have HF := Lib.hid (And.intro Cw HI2.out)
            clear Cw Cz nz hTN n0 n1 n2 f0 f1 ht8
            go_wp2_with fail
            go_roundw
            case rel => exact ⟨k + 1, _, _, _, _, by go_num, by omega, rfl, rfl, HF.out.1, HF.out.2⟩
            case measure => simp [intOf]; omega
      have i1 : (kd == 1) = false := by rw [beq_eq_false_iff_ne]; exact hk1
      have i2 : (kd == 2) = false := by rw [beq_eq_false_iff_ne]; exact hk2
      have i3 : (kd == 3) = false := by rw [beq_eq_false_iff_ne]; exact hk3
      have i4 : (kd == 4) = false := by rw [beq_eq_false_iff_ne]; exact hk4
      have i5 : (kd == 5) = false := by rw [beq_eq_false_iff_ne]; exact hk5
      have i6 : (kd == 6) = false := by rw [beq_eq_false_iff_ne]; exact hk6
      have HF := Lib.hid (And.intro HCW.out HI.out.succ)
      go_wp2_with fail
      go_roundw
      case rel => exact ⟨k + 1, _, _, _, _, by go_num, by omega, rfl, rfl, HF.out.1, HF.out.2⟩
      case measure => simp [intOf]; omega
    · obtain rfl : k = l.length := by omega
      have hlt0 : ¬ ((l.length : Int) < (l.length : Int)) := by omega
      have HT := Lib.hid C.ls.t
      clear C I
      go_wp2_with fail
      refine (Haw.out _ HT.out).mono ?_
      rintro e w9 ⟨rfl, ht9⟩
      go_wp2
      go_ret
      exact ⟨rfl, HT.out.trans0 ht9⟩
end Go.Proofs.YtlcpljpeljoboaaDoor

/- A slice of bytes that came in, as the walks take it. -/
namespace Go.Proofs.YtlcpljpeljoboaaDoor
open Go.RowKit

theorem bytes_of_row {w : World} {x : Addr} {len : Nat} {zs : List Int} (hl : len ≤ zs.length) (hm : len ≤ maxLen)
    (hcell : ∀ i, i < zs.length → w.cell? (x.add i) = some (.int .u8 (zs.getD i 0))) (hw : ∀ n ∈ zs, (Lit.int .u8 n).wf = true) :
    ∃ l : List UInt8, l.length = len ∧ RdB w (some x) l ∧ l.length ≤ maxLen := by
  have hwz : ∀ n ∈ zs, 0 ≤ n ∧ n ≤ 255 := fun n hn => by
    have := hw n hn
    simpa [Lit.wf, IntKind.min, IntKind.max, IntKind.signed, IntKind.bits] using this
  refine ⟨(zs.take len).map fun n => UInt8.ofNat n.toNat, by simp; omega, fun _ => ⟨x, rfl, fun j u hu => ?_⟩, by simp; omega⟩
  have hj : j < len := by
    have := (List.getElem?_eq_some_iff.1 hu).1
    simp at this; omega
  rw [hcell j (by omega)]
  simp only [List.getElem?_map, List.getElem?_take, hj, if_true] at hu
  have hjz : j < zs.length := by omega
  rw [List.getElem?_eq_getElem hjz] at hu
  simp only [Option.map_some, Option.some.injEq] at hu
  subst hu
  have hb := hwz zs[j] (List.getElem_mem hjz)
  simp only [List.getD, List.getElem?_eq_getElem hjz, Option.getD_some, B]
  congr 2
  simp
  omega
end Go.Proofs.YtlcpljpeljoboaaDoor
