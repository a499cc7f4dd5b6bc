/- Part 8 of the texts of this proof, one behind the other; each begins with its own sentence. No condition beyond those that its theorems state. -/
import Derived.Test.YtlcpljpeljoboaaDoorSo7
import Derived.Deep.RegionWith
import Derived.Deep.QuietTactic
import Derived.BigQuiet
import Derived.OrdersHeld
import Derived.Deep.RegionHeld3
import Derived.Deep.DeepCutAuto
import Derived.Test.YtlcpljpeljoboaaDoorRows
import Derived.Deep.DeepHandedRow
import Derived.Lib.LaidTab
/- the fixed answer of the statements of layer 8: it stands. The table as the program's text lays it. -/
namespace Go.Proofs.YtlcpljpeljoboaaDoor
open Go.RowKit

def OpenJ (B : SG) (j : LS) (g : Nat) (fp : List Nat) (w : World) (e : Ending) (w' : World) : Prop :=
  ∃ L fp' Ac cc Ag cg, e = .returned (.tuple #[.pointer (some ⟨L, 0, none⟩), .agg #[.slice Ac B.cp.length cc, .slice Ag B.gs.length cg], .int .i64 0]) ∧ LsAt w' L g fp' j ∧ Touch fp w w' ∧
    (∀ b ∈ fp', b ∈ fp ∨ w.heap.size ≤ b) ∧ w.heap.size ≤ L ∧ RdB w' Ac B.cp ∧ B.cp.length ≤ cc ∧ (0 < B.cp.length → ∀ x ∈ fpo Ac, w.heap.size ≤ x ∧ x ∉ L :: fp') ∧ GsD (fun x => w.heap.size ≤ x ∧ x ∉ L :: fp') w' Ag B.gs
theorem open_j (g : Nat) (fp : List Nat) (V : Fl) (r : DR) (w : World) (hd : DkAt w g fp V r) (hf : HalfAt w) (nh : 0 ∉ fp) (hdn : r.down = false) (hl0 : (V.getD 0 ([], 0)).1.length ≤ 900000000) (hl1 : (V.getD 1 ([], 0)).1.length ≤ 900000000)
    (hdone : r.done + 5 ≤ 1073741824) (j : LS) (hj : lOpen V r = (0, j)) (B : SG) (hB : bestS V = B) :
    Calls Tryd.prog 11 #[.pointer (some ⟨g, 0, none⟩)] w fun e w' => OpenJ B j g fp w e w' := by
  subst hB
  refine (open_ok g fp V r w hd hf nh hdn hl0 hl1 hdone (by rw [hj])).mono ?_
  rintro e w' ⟨L, fp', Ac, cc, Ag, cg, h1, h2, h3, h4, h5, h6, h7, h8, h9⟩
  rw [hj] at h2
  exact ⟨L, fp', Ac, cc, Ag, cg, h1, h2, h3, h4, h5, h6, h7, h8, h9⟩

def aG : List (List UInt8) := [[120], [121]]
theorem aG_ok : gsOk [aG] := by
  intro r hr
  obtain rfl : r = aG := by simpa using hr
  have h1 := encI_length ((S [120]).size : Int)
  have h2 := encI_length ((S [121]).size : Int)
  have e : encR aG = encT (S [120]) ++ (encT (S [121]) ++ []) := by simp [encR, aG]
  refine ⟨by simp [aG], ?_⟩
  rw [e]
  simp only [List.length_append, encT_length, S_size, List.length_cons, List.length_nil] at h1 h2 ⊢
  omega
theorem aG_len : (gpB aG).length ≤ 100 := by
  have := gpB_len aG
  have e : encR aG = encT (S [120]) ++ (encT (S [121]) ++ []) := by simp [encR, aG]
  have h1 := encI_length (1 : Int)
  rw [e] at this
  simp only [List.length_append, encT_length, S_size, List.length_cons, List.length_nil] at this
  simp only [Nat.zero_add] at this
  have h2 : ((1 : Nat) : Int) = 1 := rfl
  rw [h2] at this
  omega
theorem bG_len : (gpB [[122]]).length ≤ 100 := by
  have := gpB_len [[122]]
  have e : encR [[122]] = encT (S [122]) ++ [] := by simp [encR]
  have h1 := encI_length (1 : Int)
  rw [e] at this
  simp only [List.length_append, encT_length, S_size, List.length_cons, List.length_nil] at this
  simp only [Nat.zero_add] at this
  have h2 : ((1 : Nat) : Int) = 1 := rfl
  rw [h2] at this
  omega

theorem add_at (n j : Nat) : (⟨n, 0, none⟩ : Addr).add j = ⟨n, j, none⟩ := by unfold Addr.add; split <;> simp_all
theorem two_bs (w : World) (F : Obj) : BsAt ((((w.alloc F).alloc (.cells #[.int .u8 120] 5 (1, 2))).alloc (.cells #[.int .u8 121] 5 (1, 2))).alloc (.cells #[.slice (some ⟨w.heap.size + 1, 0, none⟩) 1 1, .slice (some ⟨w.heap.size + 1 + 1, 0, none⟩) 1 1] 22)) (some ⟨w.heap.size + 1 + 1 + 1, 0, none⟩) aG := by
  intro _
  have e1 : (w.alloc F).heap.size = w.heap.size + 1 := by simp
  have e2 : ((w.alloc F).alloc (.cells #[.int .u8 120] 5 (1, 2))).heap.size = w.heap.size + 1 + 1 := by simp
  have e3 : (((w.alloc F).alloc (.cells #[.int .u8 120] 5 (1, 2))).alloc (.cells #[.int .u8 121] 5 (1, 2))).heap.size = w.heap.size + 1 + 1 + 1 := by simp
  have r1 := RdB.new' (w.alloc F) [120] (1, 2) #[.int .u8 120] rfl
  have r2 := RdB.new' ((w.alloc F).alloc (.cells #[.int .u8 120] 5 (1, 2))) [121] (1, 2) #[.int .u8 121] rfl
  have b3 := heap_alloc_new (((w.alloc F).alloc (.cells #[.int .u8 120] 5 (1, 2))).alloc (.cells #[.int .u8 121] 5 (1, 2))) (.cells #[.slice (some ⟨w.heap.size + 1, 0, none⟩) 1 1, .slice (some ⟨w.heap.size + 1 + 1, 0, none⟩) 1 1] 22)
  rw [e1] at r1
  rw [e2] at r2
  rw [e3] at b3
  refine ⟨_, rfl, fun j hj => ?_⟩
  rw [add_at]
  match j, hj with
  | 0, _ => exact ⟨_, _, cell_blk b3 rfl, Rd.touch0 r1 (((Touch.refl _ _).alloc _).alloc _), by simp [aG]⟩
  | 1, _ => exact ⟨_, _, cell_blk b3 rfl, Rd.touch0 r2 ((Touch.refl _ _).alloc _), by simp [aG]⟩
theorem one_bs (w : World) : BsAt ((w.alloc (.cells #[.int .u8 122] 5 (1, 2))).alloc (.cells #[.slice (some ⟨w.heap.size, 0, none⟩) 1 1] 22)) (some ⟨w.heap.size + 1, 0, none⟩) [[122]] := by
  intro _
  have e1 : (w.alloc (.cells #[.int .u8 122] 5 (1, 2))).heap.size = w.heap.size + 1 := by simp
  have r1 := RdB.new' w [122] (1, 2) #[.int .u8 122] rfl
  have b3 := heap_alloc_new (w.alloc (.cells #[.int .u8 122] 5 (1, 2))) (.cells #[.slice (some ⟨w.heap.size, 0, none⟩) 1 1] 22)
  rw [e1] at b3
  refine ⟨_, rfl, fun j hj => ?_⟩
  rw [add_at]
  match j, hj with
  | 0, _ => exact ⟨_, _, cell_blk b3 rfl, Rd.touch0 r1 ((Touch.refl _ _).alloc _), by simp⟩

set_option maxRecDepth 100000 in
set_option maxHeartbeats 6400000 in
theorem awake8_any (w : World) (hf : HalfAt w) : Calls Tryd.prog 7 #[] w fun e w' => e = .returned (.bool true) ∧ Touch [] w w' := by
  have hcc := fun (W : World) (C : Array Value) (n c : Nat) => Lib.run_convert_bytes_const (P := Tryd.prog) W 22 5 C n c Tryd.underlying22 Tryd.underlying5
  have calm0 : Calm ⟨1000, -1, 0, false⟩ := ⟨rfl, rfl⟩
  have hh1 := hdB_len 1 []
  simp only [List.length_nil] at hh1
  obtain ⟨d1, hd1, e1⟩ := open_fresh calm0 ([], 0) ([], 0) (by simp) (by simp) (by rw [sgOf_nil]) (by rw [sgOf_nil]) (by show ((hdB 1 []).length : Int) ≤ 1000; omega)
  have hfl : (fileB 1 [] []).length ≤ 40 := by unfold fileB; simpa using hh1
  have hal := aG_len
  have hbl := bG_len
  have e2 := lCommit_calm (k := 0) (gen := 1) (cp := []) (gs := []) (sf := (fileB 1 [] []).length) (lo := false) (by omega) (calm0.upc d1) (recs := aG) (by simp [aG]) (by rw [up_cap]; show _ ≤ (1000 : Int) - _; omega)
  have hfl2 : (fileB 1 [] ([] ++ [aG])).length ≤ 140 := by rw [fileB_snoc, List.length_append]; omega
  have e3 := lApp_calm (k := 0) (gen := 1) (cp := []) (gs := [] ++ [aG]) (sf := (fileB 1 [] ([] ++ [aG])).length) (lo := false) (by omega) ((calm0.upc d1).upc 2) (recs := [[122]]) (by simp) (by rw [up_cap, up_cap]; show _ ≤ (1000 : Int) - _; omega)
  rw [up_up] at e2 e3
  obtain ⟨d4, hd4, eb4, e4⟩ := open_whole (k := 0) (by omega) (((calm0.upc d1).upc (2 + 1))) (gen := 1) (by omega) (by omega) (cp := []) (by simp) (gs := [] ++ [aG]) aG_ok ([], 0) (by simp) (by rw [sgOf_nil]; simp) (fileB 1 [] ([] ++ [aG])).length (Nat.le_refl _)
  have ecr : crashK [] (mkV 0 (fileB 1 [] ([] ++ [aG] ++ [[[122]]]), (fileB 1 [] ([] ++ [aG])).length) ([], 0)) 4 = mkV 0 (fileB 1 [] ([] ++ [aG]), (fileB 1 [] ([] ++ [aG])).length) ([], 0) := by
    rw [crash_none (by omega)]
    have := fileB_take 1 [] ([] ++ [aG] ++ [[[122]]]) 1
    simp only [List.nil_append] at this ⊢
    have h9 : List.take 1 ([aG] ++ [[[(122 : UInt8)]]]) = [aG] := rfl
    rw [h9] at this
    rw [this]
    simp
  have hhl := hf.lt
  have EE := Lib.hid (And.intro e1 (And.intro e2 (And.intro e3 (And.intro e4 (And.intro eb4 (And.intro ecr (And.intro hfl hfl2)))))))
  have HCC := Lib.hid hcc
  clear e1 e2 e3 e4 eb4 ecr hfl hfl2 hal hbl hh1 calm0 hcc
  go_enter Tryd.func7, Tryd.ntmps7
  go_wp2_with fail
  refine (new_dk 1000 w (by omega)).mono ?_
  rintro e w1 ⟨rfl, hdk1, ht1⟩
  have hs1 := lt_of_block hdk1.choose_spec.1.blk
  have Op := open_j w.heap.size [w.heap.size] _ _ w1 hdk1 (hf.touch ht1 (by simp)) (by simp; omega) rfl (by simp) (by simp) (by simp) _ EE.out.1 ⟨0, [], [], 0⟩ (by
    have := (bestOf_mk (k := 0) (by omega) ([], 0) ([], 0) (.inr ⟨rfl, Nat.le_refl _⟩)).2
    rw [sgOf_nil] at this
    exact this)
  have HOp := Lib.hid Op
  clear Op
  go_wp2_with fail
  refine HOp.out.mono ?_
  clear HOp
  rintro e w2 ⟨L, fp2, Ac, cc, Ag, cg, rfl, hA2, hT2, hF2, hL2, -, -, -, -⟩
  simp only [List.length_nil]
  have hcc := HCC.out
  have hc1 := hcc (w2.alloc (.cells #[.slice Ac 0 cc, .slice Ag 0 cg] 34)) #[.int .u8 120] 1 1
  have hc2 := hcc ((w2.alloc (.cells #[.slice Ac 0 cc, .slice Ag 0 cg] 34)).alloc (.cells #[.int .u8 120] 5 (1, 2))) #[.int .u8 121] 1 1
  rw [show (w2.alloc (.cells #[.slice Ac 0 cc, .slice Ag 0 cg] 34)).heap.size = w2.heap.size + 1 by simp] at hc1
  rw [show ((w2.alloc (.cells #[.slice Ac 0 cc, .slice Ag 0 cg] 34)).alloc (.cells #[.int .u8 120] 5 (1, 2))).heap.size = w2.heap.size + 1 + 1 by simp] at hc2
  have hz : (#[.int .u8 120] : Array Value).size = 1 := rfl
  have hz2 : (#[.int .u8 121] : Array Value).size = 1 := rfl
  rw [hz] at hc1
  rw [hz2] at hc2
  clear hz hz2
  have T3 : Touch [] w2 ((((w2.alloc (.cells #[.slice Ac 0 cc, .slice Ag 0 cg] 34)).alloc (.cells #[.int .u8 120] 5 (1, 2))).alloc (.cells #[.int .u8 121] 5 (1, 2))).alloc (.cells #[.slice (some ⟨w2.heap.size + 1, 0, none⟩) 1 1, .slice (some ⟨w2.heap.size + 1 + 1, 0, none⟩) 1 1] 22)) := ((((Touch.refl _ _).alloc _).alloc _).alloc _).alloc _
  have hA3 := hA2.touch0 T3
  have C3 := commit_log L w.heap.size fp2 _ (some ⟨w2.heap.size + 1 + 1 + 1, 0, none⟩) 2 2 aG rfl (aG_ok aG (by simp)).2 (by omega) (by show (0 : Nat) < 4; omega) _ hA3 (two_bs w2 (.cells #[.slice Ac 0 cc, .slice Ag 0 cg] 34)) (by show (0 : Int) + d1 + 2 ≤ _; omega)
  rw [EE.out.2.1] at C3
  have HC3 := Lib.hid C3
  have hT2' := ht1.trans hT2 (fun b hb => .inr (by simp at hb; omega))
  have hF2' : ∀ b ∈ L :: fp2, w.heap.size ≤ b := fun b hb => by
    have := ht1.size
    rcases List.mem_cons.1 hb with h | h
    · omega
    · rcases hF2 b h with h | h
      · simp at h; omega
      · omega
  have HT := Lib.hid (And.intro (hT2'.trans0 T3) hF2')
  clear C3 hA2 hA3 hT2' hF2' hT2 hF2 T3
  go_wp2_with fail
  refine HC3.out.mono ?_
  clear HC3 hc1 hc2
  rintro e w3 ⟨rfl, fp3, hA3, hT3, hF3⟩
  have TW3 : Touch [] w w3 := HT.out.1.trans hT3 (fun b hb => .inr (HT.out.2 b hb))
  have F3 : ∀ b ∈ L :: fp3, w.heap.size ≤ b := fun b hb => by
    have h1 := HT.out.1.size
    rcases List.mem_cons.1 hb with h | h
    · omega
    · rcases hF3 b h with h | h
      · exact HT.out.2 b (by simp [h])
      · omega
  have hc3 := hcc w3 #[.int .u8 122] 1 1
  have hz : (#[.int .u8 122] : Array Value).size = 1 := rfl
  rw [hz] at hc3
  clear hz
  have T4 : Touch [] w3 ((w3.alloc (.cells #[.int .u8 122] 5 (1, 2))).alloc (.cells #[.slice (some ⟨w3.heap.size, 0, none⟩) 1 1] 22)) := ((Touch.refl _ _).alloc _).alloc _
  have C4 := append_log L w.heap.size fp3 _ (some ⟨w3.heap.size + 1, 0, none⟩) 1 1 [[122]] rfl (by have := bG_len; unfold gpB at this; rw [frm_length, List.length_append] at this; omega) (by omega) (by show (0 : Nat) < 4; omega) _ (hA3.touch0 T4) (one_bs w3) (by show (0 : Int) + d1 + 2 + 1 ≤ _; omega)
  rw [EE.out.2.2.1] at C4
  have HC4 := Lib.hid C4
  have HT4 := Lib.hid (And.intro (TW3.trans0 T4) F3)
  clear C4 hA3 hT3 hF3 T4 TW3 F3 HT
  go_wp2_with fail
  refine HC4.out.mono ?_
  clear HC4 hc3
  rintro e w4 ⟨rfl, fp4, hA4, hT4, hF4⟩
  have TW4 : Touch [] w w4 := HT4.out.1.trans hT4 (fun b hb => .inr (HT4.out.2 b hb))
  have F4 : ∀ b ∈ L :: fp4, w.heap.size ≤ b := fun b hb => by
    have h1 := HT4.out.1.size
    rcases List.mem_cons.1 hb with h | h
    · omega
    · rcases hF4 b h with h | h
      · exact HT4.out.2 b (by simp [h])
      · omega
  have C5 := crash_dk w.heap.size fp4 _ _ none 0 [] w4 hA4.dk (fun _ _ => Rd.nil _ _) (by simp)
  unfold jS at C5
  simp only [] at C5
  rw [EE.out.2.2.2.2.2.1] at C5
  have HC5 := Lib.hid C5
  have HA4 := Lib.hid (And.intro hA4 (And.intro TW4 F4))
  clear C5 hA4 TW4 F4 hT4 hF4 HT4
  go_wp2_with fail
  refine HC5.out.mono ?_
  clear HC5
  rintro e w5 ⟨rfl, hs5⟩
  obtain ⟨fp5, hA5, hT5, hF5⟩ := HA4.out.1.step hs5
  have TW5 : Touch [] w w5 := HA4.out.2.1.trans hT5 (fun b hb => .inr (HA4.out.2.2 b hb))
  have F5 : ∀ b ∈ L :: fp5, w.heap.size ≤ b := fun b hb => by
    have h1 := HA4.out.2.1.size
    rcases List.mem_cons.1 hb with h | h
    · exact HA4.out.2.2 b (by simp [h])
    · rcases hF5 b h with h | h
      · exact HA4.out.2.2 b (by simp [h])
      · omega
  have Op := open_j w.heap.size fp5 _ _ w5 hA5.dk hA5.hf hA5.nh rfl (by rw [mkV_get (by omega)]; have := EE.out.2.2.2.2.2.2.2; simp only; omega) (by simp [mkV]) (by show (0 : Int) + ((d1 + (2 + 1) : Nat) : Int) + 5 ≤ _; omega) _ EE.out.2.2.2.1 _ EE.out.2.2.2.2.1
  have HOp := Lib.hid Op
  have HA5 := Lib.hid (And.intro TW5 F5)
  clear Op hA5 hT5 hF5 TW5 F5 hs5 HA4
  go_wp2_with fail
  refine HOp.out.mono ?_
  clear HOp
  rintro e w6 ⟨L6, fp6, Ac6, cc6, Ag6, cg6, rfl, hA6, hT6, hF6, hL6, -, -, -, hg6⟩
  have TW6 : Touch [] w w6 := HA5.out.1.trans hT6 (fun b hb => .inr (HA5.out.2 b (by simp [hb])))
  simp only [List.length_nil, List.nil_append, List.length_cons] at hg6 ⊢
  obtain ⟨ag, rfl, -, hat⟩ := hg6 (by simp)
  obtain ⟨A7, c7, hc7, hb7⟩ := hat 0 (by simp)
  obtain ⟨ag2, rfl, -, hat2⟩ := hb7 (by simp [aG])
  obtain ⟨A8, c8, hc8, hr8, -⟩ := hat2 1 (by simp [aG])
  obtain ⟨A9, c9, hc9, -, -⟩ := hat2 0 (by simp [aG])
  rcases ag2 with ⟨b2, o2, sp⟩
  obtain rfl : sp = none := by
    have h := World.cell?_spot hc9
    rw [show (⟨b2, o2, sp⟩ : Addr).add 0 = ⟨b2, o2, sp⟩ by simp [Addr.add]] at h
    simpa using h
  rw [show (⟨b2, o2, none⟩ : Addr).add 1 = ⟨b2, o2 + 1, none⟩ by simp [Addr.add]] at hc8
  have T7 : Touch [] w6 (w6.alloc (.cells #[.slice Ac6 0 cc6, .slice (some ag) 1 cg6] 34)) := (Touch.refl _ _).alloc _
  have k7 : (w6.alloc (.cells #[.slice Ac6 0 cc6, .slice (some ag) 1 cg6] 34)).cell? ag = some (.slice (some ⟨b2, o2, none⟩) 2 c7) := by
    have h := T7.cell hc7 (by simp)
    rwa [show ag.add 0 = ag by simp [Addr.add]] at h
  have k8 : (w6.alloc (.cells #[.slice Ac6 0 cc6, .slice (some ag) 1 cg6] 34)).cell? ⟨b2, o2 + 1, none⟩ = some (.slice A8 1 c8) := T7.cell hc8 (by simp)
  have hcv : (convert 22 9 (.slice A8 1 c8)).run Tryd.prog (w6.alloc (.cells #[.slice Ac6 0 cc6, .slice (some ag) 1 cg6] 34)) = .ok (.string ⟨#[121]⟩) _ := run_str_of c8 (n := 1) (l := [121]) rfl (Rd.touch0 hr8 T7)
  have HT := Lib.hid (TW6.trans0 T7)
  clear T7 hc7 hc8 hc9 hr8 hat hat2 hb7 hg6 TW6
  go_wp2_with fail
  go_ret
  exact ⟨rfl, HT.out⟩
end Go.Proofs.YtlcpljpeljoboaaDoor

/- bywashlaw08.same, groups: true at two lists that are one. -/
namespace Go.Proofs.YtlcpljpeljoboaaDoor
open Go.RowKit

theorem BsD.at {D : Nat → Prop} {w : World} {A : Option Addr} {ls : List (List UInt8)} (h : BsD D w A ls) : BsAt w A ls := by
  intro h0
  obtain ⟨ad, e, _, h2⟩ := h h0
  exact ⟨ad, e, fun j hj => by obtain ⟨A', c', k1, k2, k3, _⟩ := h2 j hj; exact ⟨A', c', k1, k2, k3⟩⟩

set_option maxRecDepth 100000 in
set_option maxHeartbeats 1600000 in
theorem same_true (A B : Option Addr) (c d n : Nat) (ls : List (List UInt8)) (hn : ls.length = n) (hm : n ≤ 1000000000) (w : World) (ha : BsAt w A ls) (hb : BsAt w B ls) :
    Calls Tryd.prog 46 #[.slice A n c, .slice B n d] w fun e w' => e = .returned (.bool true) ∧ Touch [] w w' := by
  subst hn
  go_enter Tryd.func46, Tryd.ntmps46
  go_wp2_with fail
  go_loopw [13] (fun i wr => ∃ (k : Nat), i = .int .i64 k ∧ k ≤ ls.length ∧ Touch [] w wr) (fun i _ => ls.length - (intOf i).toNat)
  case atStart => exact ⟨0, rfl, by omega, Touch.refl _ _⟩
  case round =>
    obtain ⟨k, rfl, hk, T⟩ := hrel
    by_cases hlt : k < ls.length
    · have hltI : decide ((k : Int) < (ls.length : Int)) = true := by simpa using hlt
      obtain ⟨ad, Ax, cx, rfl, hcell, hrd, -⟩ := (ha.touch0 T).at_ k hlt
      obtain ⟨bd, Bx, dx, rfl, hcell2, hrd2, -⟩ := (hb.touch0 T).at_ k hlt
      obtain ⟨x, hx⟩ : ∃ x, x = ls[k] := ⟨_, rfl⟩
      rw [← hx] at hcell hrd hcell2 hrd2
      clear hx
      have hq := S_beq x x
      have hq2 := S_bne x x
      rw [show decide (x = x) = true from decide_eq_true rfl] at hq hq2
      have c1 := fun n => run_str_of cx rfl (Rd.touch0 hrd ((Touch.refl [] wr).drewN n))
      have c2 := fun n => run_str_of dx rfl (Rd.touch0 hrd2 ((Touch.refl [] wr).drewN n))
      go_wp2_with fail
      go_quiet (fail)
      clear c1 c2
      go_wp2_with fail
      go_roundw
      case rel => exact ⟨k + 1, by go_num, by omega, T.drewN _⟩
      case measure => simp [intOf]; omega
    · obtain rfl : k = ls.length := by omega
      have hltI : decide ((ls.length : Int) < (ls.length : Int)) = false := by simp
      go_wp2
      go_ret
      exact ⟨rfl, T⟩

set_option maxRecDepth 100000 in
set_option maxHeartbeats 3200000 in
theorem groups_true {D1 D2 : Nat → Prop} (A B : Option Addr) (c d n : Nat) (gs : List (List (List UInt8))) (hn : gs.length = n) (hm : n ≤ 1000000000) (hm2 : ∀ g ∈ gs, g.length ≤ 1000000000) (w : World) (ha : GsD D1 w A gs) (hb : GsD D2 w B gs) :
    Calls Tryd.prog 18 #[.slice A n c, .slice B n d] w fun e w' => e = .returned (.bool true) ∧ Touch [] w w' := by
  subst hn
  go_enter Tryd.func18, Tryd.ntmps18
  go_wp2_with fail
  go_loopw [13] (fun i wr => ∃ (k : Nat), i = .int .i64 k ∧ k ≤ gs.length ∧ Touch [] w wr) (fun i _ => gs.length - (intOf i).toNat)
  case atStart => exact ⟨0, rfl, by omega, Touch.refl _ _⟩
  case round =>
    obtain ⟨k, rfl, hk, T⟩ := hrel
    by_cases hlt : k < gs.length
    · have hltI : decide ((k : Int) < (gs.length : Int)) = true := by simpa using hlt
      obtain ⟨ad, rfl, -, hat⟩ := (ha.touch0 T.drew) (by omega)
      obtain ⟨bd, rfl, -, hbt⟩ := (hb.touch0 T.drew) (by omega)
      obtain ⟨Ax, cx, hcell, hrd⟩ := hat k hlt
      obtain ⟨Bx, dx, hcell2, hrd2⟩ := hbt k hlt
      have hml := hm2 _ (List.getElem_mem hlt)
      have hsame := same_true Ax Bx cx dx (gs[k]).length gs[k] rfl hml wr.drew hrd.at hrd2.at
      obtain ⟨m, hme⟩ : ∃ m, m = (gs[k]).length := ⟨_, rfl⟩
      rw [← hme] at hsame hcell hcell2
      have Hs := Lib.hid hsame
      clear hsame hat hbt hrd hrd2 hme hml
      go_wp2_with fail
      go_region_with (first
        | (go_at_call 46; refine Hs.out.mono ?_; rintro e w9 ⟨rfl, ht9⟩))
      all_goals
        have T9 : Touch [] w w9 := T.trans0 ht9.ofDrew
        go_wp2_with fail
        go_roundw
        case rel => exact ⟨k + 1, by go_num, by omega, T9⟩
        case measure => simp [intOf]; omega
    · obtain rfl : k = gs.length := by omega
      have hltI : decide ((gs.length : Int) < (gs.length : Int)) = false := by simp
      go_wp2
      go_ret
      exact ⟨rfl, T⟩
end Go.Proofs.YtlcpljpeljoboaaDoor

/- bywashref08.Group: a group's bytes. For every slice of records. -/
namespace Go.Proofs.YtlcpljpeljoboaaDoor
open Go.RowKit

set_option maxRecDepth 100000 in
set_option maxHeartbeats 1600000 in
theorem refGrp_any (A : Option Addr) (c n : Nat) (recs : List (List UInt8)) (hn : recs.length = n) (hb : (encR recs).length ≤ 800000000) (hn2 : n ≤ 100000000) (w : World) (h : BsAt w A recs) :
    Calls Tryd.prog 29 #[.slice A n c] w fun e w' => ∃ A' c', e = .returned (.slice A' (gpB recs).length c') ∧ OwnB w' A' c' (gpB recs) ∧ Touch [] w w' ∧ ∀ b ∈ fpo A', w.heap.size ≤ b := by
  subst hn
  have hl1 := (encI_length 2).2
  have hl2 := (encI_length recs.length).2
  go_enter Tryd.func29, Tryd.ntmps29
  go_wp2_with fail
  refine (refInt_any 2 (by omega) (by omega) w).mono ?_
  rintro e w1 ⟨A1, d1, rfl, hown1, ht1, hf1⟩
  go_wp2_with fail
  refine (refInt_any recs.length (by omega) (by omega) w1).mono ?_
  rintro e w2 ⟨A2, d2, rfl, hown2, ht2, hf2⟩
  have hown1b := hown1.touch0 ht2
  go_wp2_with (at_builtin; refine stop ?_)
  refine go ?_
  refine wpList_appB rfl (.tmp 5) (.tmp 8) rfl A1 (encI 2).length d1 (encI 2) rfl rfl hown1b A2 (encI recs.length).length d2 (encI recs.length) rfl rfl hown2.rd (by omega) ?_
  intro A3 d3 w3 hown3 ht3 hf3
  have hs1 := ht1.size
  have hs2 := ht2.size
  have T3 : Touch [] w w3 := (ht1.trans0 ht2).trans ht3 (fun x hx => .inr (hf1 x hx))
  have hf3' : ∀ b ∈ fpo A3, w.heap.size ≤ b := fun b hb => by
    rcases hf3 b hb with h | h
    · exact hf1 b h
    · omega
  obtain ⟨l3, hl3e⟩ : ∃ l3, l3 = encI 2 ++ encI recs.length := ⟨_, rfl⟩
  have hl3n : (encI 2).length + (encI recs.length).length = l3.length := by rw [hl3e, List.length_append]
  rw [← hl3e] at hown3
  rw [hl3n]
  have Hl3 := Lib.hid hl3e
  clear hl3e hl3n
  go_wp2_with fail
  go_loopw [3, 4] (fun v i wr => ∃ (k : Nat) (A' : Option Addr) (c' : Nat) (l : List UInt8), i = .int .i64 k ∧ v = .slice A' l.length c' ∧ k ≤ recs.length ∧ Hid (l = encI 2 ++ encI recs.length ++ encR (recs.take k)) ∧ OwnB wr A' c' l ∧ Touch [] w wr ∧ ∀ b ∈ fpo A', w.heap.size ≤ b) (fun _ i _ => recs.length - (intOf i).toNat)
  case atStart => exact ⟨0, A3, d3, l3, rfl, rfl, by omega, Lib.hid (by rw [Hl3.out]; simp [encR]), hown3, T3, hf3'⟩
  case round =>
    clear hown1 hown2 hown3 hown1b ht1 ht2 ht3 hf1 hf2 hf3 hf3' T3 hs1 hs2
    obtain ⟨k, A', c', l, rfl, rfl, hk, Hl, hown, T, F⟩ := hrel
    have hll : l.length ≤ 800000018 := by
      rw [Hl.out, List.length_append, List.length_append]
      have := encR_le recs k
      omega
    by_cases hlt : k < recs.length
    · have hltI : decide ((k : Int) < (recs.length : Int)) = true := by simpa using hlt
      obtain ⟨ad, Ax, cx, rfl, hcell, hrd, -⟩ := (h.touch0 T).at_ k hlt
      have hsn := encR_take recs k hlt
      have hle := encR_le recs (k + 1)
      have hT := encT_length (S recs[k])
      rw [S_size] at hT
      rw [hsn, List.length_append] at hle
      obtain ⟨x, hx⟩ : ∃ x, x = recs[k] := ⟨_, rfl⟩
      rw [← hx] at hcell hrd hsn hle hT
      have hxl : x.length ≤ 800000000 := by omega
      have Hsn := Lib.hid hsn
      have hTb : (encT (S x)).length ≤ 800000000 := by omega
      clear hsn hle hT hx
      have hcv := run_str_of cx rfl hrd
      go_wp2_with fail
      refine (refText_any (S x) (by rw [S_size]; omega) _).mono ?_
      rintro e w4 ⟨A4, d4, rfl, hown4, ht4, hf4⟩
      clear hcv
      go_wp2_with (at_builtin; refine stop ?_)
      refine go ?_
      refine wpList_appB rfl (.tmp 16) (.tmp 22) rfl A' l.length c' l rfl rfl (hown.touch0 ht4) A4 (encT (S x)).length d4 (encT (S x)) rfl rfl hown4.rd (by omega) ?_
      intro A5 d5 w5 hown5 ht5 hf5
      have hsz := (T.trans0 ht4).size
      have T5 := (T.trans0 ht4).trans ht5 (fun b hb => .inr (F b hb))
      have F5 : ∀ b ∈ fpo A5, w.heap.size ≤ b := fun b hb => by
        rcases hf5 b hb with h1 | h1
        · exact F b h1
        · omega
      go_wp2_with fail
      go_roundw
      case rel => exact ⟨k + 1, A5, d5, l ++ encT (S x), by go_num, by rw [List.length_append], by omega, Lib.hid (by rw [Hsn.out, Hl.out]; simp), hown5, T5, F5⟩
      case measure => simp [intOf]; omega
    · obtain rfl : k = recs.length := by omega
      have hltI : decide ((recs.length : Int) < (recs.length : Int)) = false := by simp
      have hl := Hl.out
      rw [List.take_length] at hl
      have HL := Lib.hid hl
      clear hl
      go_wp2_with fail
      refine (refFrame_any A' c' l.length l rfl (by omega) wr hown.rd).mono ?_
      rintro e w5 ⟨A5, c5, rfl, hown5, ht5, hf5⟩
      have hsz := T.size
      go_wp2
      go_ret
      unfold gpB
      rw [← HL.out]
      exact ⟨A5, c5, rfl, hown5, T.trans0 ht5, fun b hb => by have := hf5 b hb; omega⟩
end Go.Proofs.YtlcpljpeljoboaaDoor

/- A region that draws its order, reads old cells and calls what only makes memory: one walk in the order of the text. No condition. -/
namespace Go.Proofs.YtlcpljpeljoboaaDoor
open Go.RowKit

/-- a world in which all that lay in W lies as it lay -/
structure TW (W : World) where
  w : World
  t : Touch [] W w
instance (W : World) : Nonempty (TW W) := ⟨⟨W, Touch.refl _ _⟩⟩
theorem TW.cell {W : World} {a : Addr} {v : Value} (h : W.cell? a = some v) : ∀ x : TW W, x.w.cell? a = some v := fun x => x.t.cell h (by simp)
theorem Calls.tw {P : Program} {f : FuncId} {args : Array Value} {W : World} {v : Value} (x : TW W) (h : Calls P f args x.w fun e w' => e = .returned v ∧ Touch [] x.w w') :
    Calls P f args x.w fun e w' => e = .returned v ∧ ∃ y : TW W, w' = y.w :=
  h.mono fun _ w' ⟨he, ht⟩ => ⟨he, ⟨w', x.t.trans0 ht⟩, rfl⟩
theorem Calls.tw_same {P : Program} {f : FuncId} {args : Array Value} {W : World} {v : Value} (x : TW W) (h : Calls P f args x.w fun e w' => e = .returned v ∧ x.w = w') :
    Calls P f args x.w fun e w' => e = .returned v ∧ ∃ y : TW W, w' = y.w :=
  h.mono fun _ _ ⟨he, ht⟩ => ⟨he, x, ht.symm⟩
theorem wp_region_tw {P : Program} {id : Nat} {Q : Exit → Act → World → Prop} {a : Act} {w : World} {l : List Oper} (W : World) (hW : Touch [] W w) (hm : P.follows .mixedOrders = true) (hB : Region.lexB .any l.toArray = true)
    (h : wpQuiet P l.toArray (fun w' => ∃ x : TW W, w' = x.w) (fun a' => ∀ w', (∃ x : TW W, w' = x.w) → Q .normal a' w') l a) : (Code.region id l.toArray true).wp P Q a w :=
  wp_region_quiet (C := fun w' => ∃ x : TW W, w' = x.w) hm hB ⟨⟨_, hW.drew⟩, rfl⟩ (by simpa using h)
end Go.Proofs.YtlcpljpeljoboaaDoor

/- A disk and a journal that a law has made: what its walk carries along. -/
namespace Go.Proofs.YtlcpljpeljoboaaDoor
open Go.RowKit

structure DkS (w : World) (D : Nat) (fp : List Nat) (V : Fl) (r : DR) (wr : World) : Prop where
  dk : DkAt wr D fp V r
  t : Touch [] w wr
  f : ∀ b ∈ fp, w.heap.size ≤ b
structure LsS (w : World) (L D : Nat) (fp : List Nat) (s : LS) (wr : World) : Prop where
  ls : LsAt wr L D fp s
  t : Touch [] w wr
  f : ∀ b ∈ L :: fp, w.heap.size ≤ b
theorem DkS.touch0 {w wr w2 : World} {D : Nat} {fp : List Nat} {V : Fl} {r : DR} (h : DkS w D fp V r wr) (T : Touch [] wr w2) : DkS w D fp V r w2 := ⟨h.dk.step T (by simp), h.t.trans0 T, h.f⟩
theorem DkS.step {w wr w2 : World} {D : Nat} {fp : List Nat} {V V2 : Fl} {r r2 : DR} (h : DkS w D fp V r wr) (k : DkStep D fp V2 r2 wr w2) : ∃ fp2, DkS w D fp2 V2 r2 w2 ∧ Touch fp wr w2 ∧ ∀ b ∈ fp2, b ∈ fp ∨ wr.heap.size ≤ b := by
  obtain ⟨fp2, k1, k2, k3⟩ := k
  have hs := h.t.size
  refine ⟨fp2, ⟨k1, h.t.trans k2 (fun b hb => .inr (h.f b hb)), fun b hb => ?_⟩, k2, k3⟩
  rcases k3 b hb with e | e
  · exact h.f b e
  · omega
theorem LsS.touch0 {w wr w2 : World} {L D : Nat} {fp : List Nat} {s : LS} (h : LsS w L D fp s wr) (T : Touch [] wr w2) : LsS w L D fp s w2 := ⟨h.ls.touch0 T, h.t.trans0 T, h.f⟩
theorem LsS.step {w wr w2 : World} {L D : Nat} {fp : List Nat} {s s2 : LS} (h : LsS w L D fp s wr) (k : LsStep L D fp s2 wr w2) : ∃ fp2, LsS w L D fp2 s2 w2 ∧ Touch (L :: fp) wr w2 ∧ ∀ b ∈ fp2, b ∈ fp ∨ wr.heap.size ≤ b := by
  obtain ⟨fp2, k1, k2, k3⟩ := k
  have hs := h.t.size
  refine ⟨fp2, ⟨k1, h.t.trans k2 (fun b hb => .inr (h.f b hb)), fun b hb => ?_⟩, k2, k3⟩
  rcases List.mem_cons.1 hb with e | e
  · exact h.f b (by simp [e])
  · rcases k3 b e with e | e
    · exact h.f b (by simp [e])
    · omega
theorem LsS.dkS {w wr : World} {L D : Nat} {fp : List Nat} {s : LS} (h : LsS w L D fp s wr) : DkS w D fp s.V s.r wr := ⟨h.ls.dk, h.t, fun b hb => h.f b (by simp [hb])⟩
/-- a journal opened on a disk of the law's own: it, and what was found -/
def OpenS (B : SG) (j : LS) (D : Nat) (fp : List Nat) (w wr : World) (e : Ending) (w' : World) : Prop :=
  ∃ L fp' Ac cc Ag cg, e = .returned (.tuple #[.pointer (some ⟨L, 0, none⟩), .agg #[.slice Ac B.cp.length cc, .slice Ag B.gs.length cg], .int .i64 0]) ∧ LsS w L D fp' j w' ∧ Touch fp wr w' ∧ wr.heap.size ≤ L ∧ (∀ b ∈ fp', b ∈ fp ∨ wr.heap.size ≤ b) ∧
    RdB w' Ac B.cp ∧ B.cp.length ≤ cc ∧ (0 < B.cp.length → ∀ x ∈ fpo Ac, wr.heap.size ≤ x ∧ x ∉ L :: fp') ∧ GsD (fun x => wr.heap.size ≤ x ∧ x ∉ L :: fp') w' Ag B.gs
theorem open_s (D : Nat) (fp : List Nat) (V : Fl) (r : DR) (w wr : World) (h : DkS w D fp V r wr) (hf : HalfAt w) (hdn : r.down = false) (hl0 : (V.getD 0 ([], 0)).1.length ≤ 900000000) (hl1 : (V.getD 1 ([], 0)).1.length ≤ 900000000)
    (hdone : r.done + 5 ≤ 1073741824) (j : LS) (hj : lOpen V r = (0, j)) (B : SG) (hB : bestS V = B) :
    Calls Tryd.prog 11 #[.pointer (some ⟨D, 0, none⟩)] wr fun e w' => OpenS B j D fp w wr e w' := by
  refine (open_j D fp V r wr h.dk (hf.touch h.t (by simp)) (fun hm => by have := h.f _ hm; have := hf.lt; omega) hdn hl0 hl1 hdone j hj B hB).mono ?_
  rintro e w' ⟨L, fp', Ac, cc, Ag, cg, h1, h2, h3, h4, h5, h6, h7, h8, h9⟩
  have hs := h.t.size
  refine ⟨L, fp', Ac, cc, Ag, cg, h1, ⟨h2, h.t.trans h3 (fun b hb => .inr (h.f b hb)), fun b hb => ?_⟩, h3, h5, h4, h6, h7, h8, h9⟩
  rcases List.mem_cons.1 hb with e | e
  · omega
  · rcases h4 b e with e | e
    · exact h.f b e
    · omega
theorem segV_zero {ls : List (List UInt8)} (h : (segV ls).gen = 0) : segV ls = ⟨0, [], [], 0⟩ := by
  rcases ls with _ | ⟨f, fs⟩
  · rfl
  · rw [segV] at h ⊢
    split at h
    · rfl
    · rename_i g c hd
      simp only at h
      subst h
      unfold rdHd at hd
      split at hd
      · cases hd
      · split at hd
        · cases hd
        · split at hd
          · cases hd
          · split at hd
            · rename_i hx
              simp only [Option.some.injEq, Prod.mk.injEq] at hd
              omega
            · cases hd
theorem sgOf_take {b m : List UInt8} {ls : List (List UInt8)} (h : Steps b ls m) (hn : scan1 m = none) (hl : b.length ≤ 900000000) : (sgOf b).en ≤ b.length := by
  rw [sgOf_eq h hn]; exact (sg_bounds h hl).1
theorem grp_count (fs : List (List UInt8)) : (grpV fs).1.length ≤ fs.length ∧ ∀ g ∈ (grpV fs).1, ∃ f ∈ fs, rdGp f = some g := by
  induction fs with
  | nil => simp [grpV]
  | cons f fs ih =>
    rw [grpV]
    split
    · simp
    · rename_i ss hg
      simp only [List.length_cons]
      refine ⟨by have := ih.1; omega, fun g hm => ?_⟩
      rcases List.mem_cons.1 hm with rfl | hm
      · exact ⟨f, by simp, hg⟩
      · obtain ⟨f', h1, h2⟩ := ih.2 g hm
        exact ⟨f', by simp [h1], h2⟩
theorem rdGp_len {f : List UInt8} {ss : List (List UInt8)} (h : rdGp f = some ss) : ss.length ≤ f.length := by
  unfold rdGp at h
  split at h
  · cases h
  · rename_i k l1 hI
    split at h
    · split at h
      · cases h
      · rename_i n l2 hJ
        split at h
        · cases h
        · split at h
          · cases h
          · rename_i ss2 r hT
            split at h
            · simp only [Option.some.injEq] at h
              subst h
              have h1 := (rdTs_len hT)
              have h2 := (rdI_rest hI).1
              have h3 := (rdI_rest hJ).1
              omega
            · cases h
    · cases h
theorem segV_counts {b m : List UInt8} {ls : List (List UInt8)} (h : Steps b ls m) (hl : b.length ≤ 900000000) : (segV ls).gs.length ≤ b.length ∧ (∀ g ∈ (segV ls).gs, g.length ≤ b.length) ∧ (segV ls).cp.length ≤ b.length := by
  have hb := congrArg List.length (h.bytes hl)
  rw [List.length_append] at hb
  have hll := len_le_sum ls
  rcases ls with _ | ⟨f, fs⟩
  · simp [segV]
  · have hf := mem_le_sum (f :: fs) 0 (by simp)
    rw [segV]
    split
    · simp
    · rename_i g c hd
      simp only
      obtain ⟨h1, h2⟩ := grp_count fs
      simp only [List.length_cons] at hll
      refine ⟨by omega, fun g' hm => ?_, ?_⟩
      · obtain ⟨f', hf', hg⟩ := h2 g' hm
        have k1 := rdGp_len hg
        obtain ⟨i, hi, rfl⟩ := List.getElem_of_mem hf'
        have k2 := mem_le_sum (f :: fs) (i + 1) (by simpa using hi)
        simp only [List.getElem_cons_succ] at k2
        omega
      · simp only [List.getElem_cons_zero] at hf
        unfold rdHd at hd
        split at hd
        · cases hd
        · rename_i hI
          split at hd
          · cases hd
          · rename_i hJ
            split at hd
            · cases hd
            · rename_i hT
              split at hd
              · simp only [Option.some.injEq, Prod.mk.injEq] at hd
                obtain ⟨_, rfl⟩ := hd
                have k1 := (rdI_rest hI).1
                have k2 := (rdI_rest hJ).1
                have k3 := rdT_less hT
                omega
              · cases hd
end Go.Proofs.YtlcpljpeljoboaaDoor

/- A region that draws its order, walked by hand under a condition on the world that may change on the way. No program's function. -/
namespace Go.Proofs.YtlcpljpeljoboaaDoor
open Go.RowKit

section
variable {P : Program} {ops : Array Oper} {Q : Exit → Act → World → Prop} {md : Region.Mode} {S S' : World → Prop}
/-- a walk that holds more holds less -/
theorem wpAnyH_weak (hS : ∀ w, S w → S' w) : ∀ (fuel : Nat) (listed : Array Bool) (a : Act) (w : World), wpAnyH P md ops Q S fuel listed a w → wpAnyH P md ops Q S' fuel listed a w
  | 0, _, _, _, h => h
  | fuel + 1, _, _, _, h => ⟨h.1, fun i hi => wpOp_mono (fun a' w' h' => ⟨hS w' h'.1, wpAnyH_weak hS fuel _ a' w' h'.2⟩) (h.2 i hi)⟩
/-- 'wpAnyH_take', the operation's temporary told by its number -/
theorem take_d {i d : Nat} {oi : Oper} {v : Value} {fuel : Nat} {listed : Array Bool} {a : Act} {w : World} (hi : ops[i]? = some oi) (hd : oi.dst = some d)
    (hs : Region.noSelect ops = true) (hf : Region.free md ops listed i = true) (hr : (Region.ready md ops listed).contains i = true)
    (hQ : ∀ c a w, Q (.panic c) (a.put oi.dst v) w → Q (.panic c) a w) (hy : YieldsIf P ops S oi v a) (hS : S w)
    (h : wpAnyH P md ops Q S fuel (listed.setIfInBounds i true) (a.put (some d) v) w) : wpAnyH P md ops Q S (fuel + 1) listed a w :=
  wpAnyH_take hi hs hf hr hQ hy hS (by rw [hd]; exact h)
end
end Go.Proofs.YtlcpljpeljoboaaDoor

/- bywashlaw08.SegmentOpens: the walk of the law. For every two slices of bytes; the half bytes' table as the program's text lays it. -/
namespace Go.Proofs.YtlcpljpeljoboaaDoor
open Go.RowKit

theorem cnv0 (K : Nat) (x : List UInt8 × Nat) (y : List UInt8 × Nat) (hk : K < 2) : (mkV K x y).getD 0 ([], 0) = x ∨ (mkV K x y).getD 0 ([], 0) = y := by
  rcases mkV_01 hk x y with ⟨_, h, _⟩ | ⟨_, h, _⟩
  · exact .inl h
  · exact .inr h

set_option maxRecDepth 100000 in
set_option maxHeartbeats 25600000 in
theorem opens_law (A B : Option Addr) (ca cb : Nat) (a b : List UInt8) (hca : a.length ≤ ca) (hcb : b.length ≤ cb) (w : World) (hla : a.length ≤ maxLen) (hlb : b.length ≤ maxLen) (hra : RdB w A a) (hrb : RdB w B b) (hh : HalfAt w) :
    Calls Tryd.prog 3 #[.slice A a.length ca, .slice B b.length cb] w fun e w' => e = .returned (.bool true) ∧ Touch [] w w' := by
  unfold maxLen at hla hlb
  have Haw := Lib.hid fun w' (t : Touch [] w w') => awake8_any w' (hh.touch t (by simp))
  by_cases h2a : 2000 < a.length
  · go_enter Tryd.func3, Tryd.ntmps3
    go_wp2_with fail
    refine (Haw.out _ (Touch.refl _ _)).mono ?_
    rintro e w1 ⟨rfl, t1⟩
    go_wp2
    go_ret
    exact ⟨rfl, t1⟩
  have ha : a.length ≤ 2000 := by omega
  by_cases h2b : 2000 < b.length
  · go_enter Tryd.func3, Tryd.ntmps3
    go_wp2_with fail
    refine (Haw.out _ (Touch.refl _ _)).mono ?_
    rintro e w1 ⟨rfl, t1⟩
    go_wp2
    go_ret
    exact ⟨rfl, t1⟩
  have hb : b.length ≤ 2000 := by omega
  have calm0 : Calm ⟨1048576, -1, 0, false⟩ := ⟨rfl, rfl⟩
  have p1 := pApp_calm (k := 0) (by omega) calm0 ([], 0) ([], 0) a (by show (a.length : Int) ≤ 1048576 - 0; omega)
  have p2 := pApp_calm (k := 1) (by omega) (calm0.upc 1) ([], 0) (a, 0) b (by show (b.length : Int) ≤ 1048576 - ((0 + a.length : Nat) : Int); omega)
  rw [show ((0 : Nat) : Int) = 0 from rfl, show (([], 0) : List UInt8 × Nat).1 ++ a = a from rfl] at p1
  rw [show ((1 : Nat) : Int) = 1 from rfl, show (([], 0) : List UInt8 × Nat).1 ++ b = b from rfl, up_up] at p2
  have Hp1 := Lib.hid p1
  have Hp2 := Lib.hid p2
  have hhl := hh.lt
  clear p1 p2 h2a h2b hla hlb
  go_enter Tryd.func3, Tryd.ntmps3
  go_wp2_with fail
  refine (new_dk 1048576 w (by omega)).mono ?_
  rintro e w1 ⟨rfl, hd1, ht1⟩
  have K1 : DkS w w.heap.size [w.heap.size] (mkV 0 ([], 0) ([], 0)) ⟨1048576, -1, 0, false⟩ w1 := ⟨hd1, ht1, by simp⟩
  clear hd1
  have C2 := append_dk w.heap.size [w.heap.size] _ _ 0 A ca a w1 K1.dk (Rd.touch0 hra ht1) (by omega) (by show (0 : Int) < _; omega)
  rw [Hp1.out] at C2
  have HC2 := Lib.hid C2
  have HK1 := Lib.hid K1
  clear C2 K1
  go_wp2_with fail
  refine HC2.out.mono ?_
  clear HC2
  rintro e w2 ⟨rfl, hs2⟩
  obtain ⟨fp2, K2, -, -⟩ := HK1.out.step hs2
  have C3 := append_dk w.heap.size fp2 _ _ 1 B cb b w2 K2.dk (Rd.touch0 hrb K2.t) (by omega) (by show (0 : Int) + 1 < _; omega)
  rw [show mkV 0 (a, 0) ([], 0) = mkV 1 ([], 0) (a, 0) from rfl, show ((1 : Nat)) = 1 from rfl] at C3
  rw [Hp2.out] at C3
  have HC3 := Lib.hid C3
  have HK2 := Lib.hid K2
  clear C3 K2 hs2 HK1
  go_wp2_with fail
  refine HC3.out.mono ?_
  clear HC3
  rintro e w3 ⟨rfl, hs3⟩
  obtain ⟨fp3, K3, -, -⟩ := HK2.out.step hs3
  rw [show mkV 1 (b, 0) (a, 0) = mkV 0 (a, 0) (b, 0) from rfl] at K3
  have C4 := refSeg_any A ca a.length a rfl (by omega) hca w3 (Rd.touch0 hra K3.t)
  have HC4 := Lib.hid C4
  have HK3 := Lib.hid K3
  clear C4 K3 hs3 HK2
  go_wp2_with fail
  refine HC4.out.mono ?_
  clear HC4
  rintro e w4 ⟨lsa, ma, Ac, cc, Ag, cg, rfl, hsta, hsna, ht4, hrc, hcc, hfc, hgs⟩
  have C5 := refSeg_any B cb b.length b rfl (by omega) hcb w4 (Rd.touch0 hrb (HK3.out.t.trans0 ht4))
  have ca0 := segV_counts hsta (by omega)
  have ea := sg_bounds hsta (by omega)
  have sza := @segV_zero lsa
  have ha1 := sgOf_eq hsta hsna
  obtain ⟨sa, hsa⟩ : ∃ s, s = segV lsa := ⟨_, rfl⟩
  rw [← hsa] at ca0 ea sza ha1 hrc hcc hgs ⊢
  have HSA := Lib.hid (And.intro ha1 (And.intro sza (And.intro ca0 ea)))
  have HFA := Lib.hid (And.intro hrc (And.intro hcc (And.intro hfc hgs)))
  have HC5 := Lib.hid C5
  have HT4 := Lib.hid ht4
  clear C5 ca0 ea sza ha1 hsa hsta hsna hrc hcc hfc hgs ht4
  go_wp2_with fail
  refine HC5.out.mono ?_
  clear HC5
  rintro e w5 ⟨lsb, mb, Bc, bc, Bg, bg, rfl, hstb, hsnb, ht5, hrd, hdd, hfd, hgd⟩
  have cb0 := segV_counts hstb (by omega)
  have eb := sg_bounds hstb (by omega)
  have szb := @segV_zero lsb
  have hb1 := sgOf_eq hstb hsnb
  obtain ⟨sb, hsb⟩ : ∃ s, s = segV lsb := ⟨_, rfl⟩
  rw [← hsb] at cb0 eb szb hb1 hrd hdd hgd ⊢
  have HSB := Lib.hid (And.intro hb1 (And.intro szb (And.intro cb0 eb)))
  have HFB := Lib.hid (And.intro hrd (And.intro hdd (And.intro hfd hgd)))
  have h34 := HT4.out.size
  have T35 := HT4.out.trans0 ht5
  have K5 := HK3.out.touch0 T35
  have HK5 := Lib.hid K5
  have HT5 := Lib.hid ht5
  clear cb0 eb szb hb1 hsb hstb hsnb hrd hdd hfd hgd ht5 K5 ht1
  have calm2 : Calm (up ⟨1048576, -1, 0, false⟩ 2) := calm0.upc 2
  by_cases hbest : sa.gen < sb.gen
  · obtain ⟨W, hW⟩ : ∃ W, W = ((w5.alloc (.cells #[.int .i64 sb.gen, .int .i64 sb.en, .slice Bc sb.cp.length bc, .slice Bg sb.gs.length bg] 30)).alloc (.cells #[.int .i64 sb.gen, .int .i64 sb.en, .slice Bc sb.cp.length bc, .slice Bg sb.gs.length bg] 30)) := ⟨_, rfl⟩
    have b6' : W.heap[w5.heap.size]? = some (.cells #[.int .i64 sb.gen, .int .i64 sb.en, .slice Bc sb.cp.length bc, .slice Bg sb.gs.length bg] 30 (0, 0)) := by
      rw [hW]
      exact ((Touch.refl [] (w5.alloc (.cells #[.int .i64 sb.gen, .int .i64 sb.en, .slice Bc sb.cp.length bc, .slice Bg sb.gs.length bg] 30))).alloc _).blk (heap_alloc_new w5 _) (by simp)
    have T56 : Touch [] w5 W := by rw [hW]; exact ((Touch.refl [] w5).alloc _).alloc _
    have hgI : decide (sa.gen < sb.gen) = true := by simpa using hbest
    have hz : sb.gen ≠ 0 := by omega
    obtain ⟨d, hd, eo⟩ := open_calm (k := 1) (by omega) calm2 (b, 0) (a, 0) (by simp) (by simp) (.inl (by rw [HSA.out.1, HSB.out.1]; exact hbest)) (by rw [HSB.out.1]; exact hz) (by rw [HSB.out.1]; exact HSB.out.2.2.2.1)
    have hbs : bestS (mkV 1 (b, 0) (a, 0)) = sb := by rw [(bestOf_mk (k := 1) (by omega) (b, 0) (a, 0) (.inl (by rw [HSA.out.1, HSB.out.1]; exact hbest))).2, HSB.out.1]
    rw [HSB.out.1] at eo
    have ht := HSB.out.2.2.2.1
    have htl : (b.take sb.en).length = sb.en := by rw [List.length_take]; omega
    have C7 := open_s w.heap.size fp3 _ _ w W (HK5.out.touch0 T56) hh rfl (by show a.length ≤ 900000000; omega) (by show b.length ≤ 900000000; omega) (by show (0 : Int) + ((2 : Nat) : Int) + 5 ≤ _; omega) _ (show lOpen (mkV 0 (a, 0) (b, 0)) _ = _ from eo) _ (show bestS (mkV 0 (a, 0) (b, 0)) = _ from hbs)
    have HC7 := Lib.hid C7
    have HT56 := Lib.hid T56
    have HB6 := Lib.hid b6'
    have HW := Lib.hid hW
    have HZ := Lib.hid hz
    have h45 := HT5.out.size
    have h56 := T56.size
    clear C7 T56 b6' hW eo hbs hz 
    go_wp2_with fail
    rw [← HW.out]
    refine HC7.out.mono ?_
    clear HC7 HW hgI hbest
    rintro e w7 ⟨L, fp7, Fc, fcc, Fg, fcg, rfl, hL7, hT7, hLg, hF7, hrf, hcf, hff, hgf⟩
    have Ta : Touch [] w7 (w7.alloc (.cells #[.slice Fc (sb : SG).cp.length fcc, .slice Fg (sb : SG).gs.length fcg] 34)) := (Touch.refl _ _).alloc _
    have hL8 := hL7.touch0 Ta
    have bF := heap_alloc_new w7 (.cells #[.slice Fc (sb : SG).cp.length fcc, .slice Fg (sb : SG).gs.length fcg] 34)
    have hnfp : ∀ x, w3.heap.size ≤ x → x < W.heap.size → x ∉ fp3 := fun x h1 h2 hm => by have := HK3.out.dk.lt x hm; omega
    have b8 := Ta.blk (hT7.blk HB6.out (hnfp _ (by omega) (lt_of_block HB6.out))) (by simp)
    obtain ⟨W8, hW8⟩ : ∃ W8, W8 = w7.alloc (.cells #[.slice Fc (sb : SG).cp.length fcc, .slice Fg (sb : SG).gs.length fcg] 34) := ⟨_, rfl⟩
    rw [← hW8] at Ta hL8 bF b8
    have C8 := size_dk w.heap.size fp7 _ _ (0 : Nat) W8 hL8.dkS.dk
    rw [if_pos (by omega), Int.toNat_natCast] at C8
    have hv0 : (((⟨mkV 1 (b.take sb.en, sb.en) ([], 0), up (up ⟨1048576, -1, 0, false⟩ 2) d, ⟨1, sb.gen, false, false⟩⟩ : LS)).V.getD 0 ([], 0)).1.length = 0 := by
      show ((mkV 1 _ ([], 0)).getD (1 - 1) ([], 0)).1.length = 0
      rw [mkV_other (by omega)]
      rfl
    rw [hv0] at C8
    rw [show ((0 : Nat) : Int) = 0 from rfl] at C8
  
    have C9 := read_up w.heap.size fp7 _ _ 1 (by omega) rfl W8 hL8.dkS.dk
    have hv1 : (((⟨mkV 1 (b.take sb.en, sb.en) ([], 0), up (up ⟨1048576, -1, 0, false⟩ 2) d, ⟨1, sb.gen, false, false⟩⟩ : LS)).V.getD 1 ([], 0)).1 = b.take sb.en := by
      show ((mkV 1 _ ([], 0)).getD 1 ([], 0)).1 = _
      rw [mkV_get (by omega)]
    
    rw [hv1] at C9
    rw [show ((1 : Nat) : Int) = 1 from rfl] at C9
    have HC8 := Lib.hid C8
    have HC9 := Lib.hid C9
    have HL8 := Lib.hid hL8
    have HW8 := Lib.hid hW8
    have HTa := Lib.hid Ta
    have HBF := Lib.hid bF
    have HB8 := Lib.hid b8
    clear C8 C9 hv0 hv1 hL8 hW8 Ta bF b8 hL7
    simp only [List.length_nil] at HW8 HBF ⊢
    go_wp2_with fail
    rw [← HW8.out]
    refine HC8.out.mono ?_
    clear HC8
    rintro e w9 ⟨rfl, rfl⟩
    go_wp2_with fail
    refine HC9.out.mono ?_
    clear HC9
    rintro e w10 ⟨Ar, cr, rfl, hown, ht10, hfr⟩
    have L10 := HL8.out.touch0 ht10
    have b10 := ht10.blk HB8.out (by simp)
    have f10 := ht10.blk HBF.out (by simp)
    obtain ⟨y0, y1, y2, y3, -⟩ := blk4 b10
    have z0 := cell_blk (i := 0) f10 rfl
    have z1 := cell_blk (i := 1) f10 rfl
    have HL10 := Lib.hid L10
    clear b10 f10 L10
    have hgn : ((sb.gen : Int) == 0) = false := by have := HZ.out; rw [beq_eq_false_iff_ne]; omega
    have T710 := HTa.out.trans0 ht10
    have q1 : RdB w10 Fc sb.cp := Rd.touch0 hrf T710
    have q2 := hgf.touch0 T710
    have T5W : Touch fp3 w5 w10 := (HT56.out.mono (by simp)).trans (hT7.trans0 T710) (fun x hx => .inl hx)
    have hlt3 := HK3.out.dk.lt
    have q3 : RdB w10 Bc sb.cp := Rd.touch (HFB.out.1) T5W (fun x hx hm => by have h1 := HFB.out.2.2.1 x hx; have h2 := hlt3 x hm; have h3 := HT4.out.size; omega)
    have q4 := (HFB.out.2.2.2).touch T5W (fun x h1 _ hm => by have h2 := hlt3 x hm; have h3 := HT4.out.size; omega)
    have q5 : RdB w10 B b := Rd.touch0 hrb HL10.out.t
    have q6 : RdB w10 Ar (b.take sb.en) := hown.rd
    obtain ⟨W, hW⟩ : ∃ W, W = w10 := ⟨_, rfl⟩
    have g0 := TW.cell y0; have g1 := TW.cell y1; have g2 := TW.cell y2; have g3 := TW.cell y3; have g4 := TW.cell z0; have g5 := TW.cell z1
    have k1 : ∀ x : TW w10, (convert 22 9 (.slice Fc sb.cp.length fcc)).run Tryd.prog x.w = .ok (.string (S sb.cp)) x.w := fun x => run_str_of fcc rfl (Rd.touch0 q1 x.t)
    have k2 : ∀ x : TW w10, (convert 22 9 (.slice Bc sb.cp.length bc)).run Tryd.prog x.w = .ok (.string (S sb.cp)) x.w := fun x => run_str_of bc rfl (Rd.touch0 q3 x.t)
    have k3 : ∀ x : TW w10, (convert 22 9 (.slice Ar (b.take sb.en).length cr)).run Tryd.prog x.w = .ok (.string (S (b.take sb.en))) x.w := fun x => run_str_of cr rfl (Rd.touch0 q6 x.t)
    have q7 : RdB w10 B (b.take sb.en) := by
      have h := Rd.cut (k := 0) (n := sb.en) q5 (A' := B) (fun ad he _ => by rw [he]; simp [Addr.add])
      unfold RdB
      rwa [List.map_take]
    have k4 : ∀ x : TW w10, (convert 22 9 (.slice B sb.en cb)).run Tryd.prog x.w = .ok (.string (S (b.take sb.en))) x.w := fun x => run_str_of cb htl (Rd.touch0 q7 x.t)
    rw [htl] at k3 ⊢
    have cnt := HSB.out.2.2.1
    have Hgr := Lib.hid fun x : TW w10 => groups_true Fg Bg fcg bg sb.gs.length sb.gs rfl (by omega) (fun g hg => by have := cnt.2.1 g hg; omega) x.w (q2.touch0 x.t) (q4.touch0 x.t)
    have Hge := Lib.hid fun x : TW w10 => gen_log L w.heap.size fp7 _ x.w (HL10.out.touch0 x.t).ls
    have Hlo := Lib.hid fun x : TW w10 => loose_log L w.heap.size fp7 _ x.w (HL10.out.touch0 x.t).ls
    have hsf : ∀ x : TW w10, Calls Tryd.prog 16 #[.pointer (some ⟨w.heap.size, 0, none⟩), .int .i64 1] x.w fun e w' => e = .returned (.int .i64 sb.en) ∧ x.w = w' := by
      intro x
      have h := safe_dk w.heap.size fp7 _ _ (1 : Nat) x.w (HL10.out.touch0 x.t).dkS.dk
      rw [if_pos (by omega), Int.toNat_natCast] at h
      simp only [mkV_get (show 1 < 2 by omega)] at h
      exact h
    have Hsf := Lib.hid hsf
    have Haw2 := Lib.hid fun x : TW w10 => Haw.out x.w (HL10.out.touch0 x.t).t
    have hen1 : (0 : Int) ≤ (sb.en : Int) := by omega
    have hen2 : (sb.en : Int) ≤ (cb : Int) := by omega
    have hq1 := S_beq (b.take sb.en) (b.take sb.en)
    have hq2 := S_beq sb.cp sb.cp
    rw [show decide ((b.take sb.en) = (b.take sb.en)) = true from decide_eq_true rfl] at hq1
    rw [show decide (sb.cp = sb.cp) = true from decide_eq_true rfl] at hq2
    clear hsf q1 q2 q3 q4 q5 q6 q7 cnt htl hrf hcf hff hgf T710 T5W hown
    go_wp2_with fail
    refine wp_region_tw w10 (Touch.refl _ _) (by kernel_rfl) (by kernel_rfl) ?_
    repeat (go_big_quiet_step ((first
      | (go_at_call 18; exact Calls.tw _ (Hgr.out _))
      | (go_at_call 14; exact Calls.tw_same _ (Hge.out _))
      | (go_at_call 19; exact Calls.tw_same _ (Hlo.out _))
      | (go_at_call 16; exact Calls.tw_same _ (Hsf.out _))
      | (go_at_call 7; exact Calls.tw _ (Haw2.out _)))))
    refine wpQuiet_nil ?_
    rintro _ ⟨z, rfl⟩
    go_wp2
    go_ret
    exact ⟨rfl, HL10.out.t.trans0 z.t⟩
  · by_cases hzero : sa.gen = 0
    · obtain ⟨W, hW⟩ : ∃ W, W = ((w5.alloc (.cells #[.int .i64 sa.gen, .int .i64 sa.en, .slice Ac sa.cp.length cc, .slice Ag sa.gs.length cg] 30)).alloc (.cells #[.int .i64 sb.gen, .int .i64 sb.en, .slice Bc sb.cp.length bc, .slice Bg sb.gs.length bg] 30)) := ⟨_, rfl⟩
      have b6' : W.heap[w5.heap.size]? = some (.cells #[.int .i64 sa.gen, .int .i64 sa.en, .slice Ac sa.cp.length cc, .slice Ag sa.gs.length cg] 30 (0, 0)) := by
        rw [hW]
        exact ((Touch.refl [] (w5.alloc (.cells #[.int .i64 sa.gen, .int .i64 sa.en, .slice Ac sa.cp.length cc, .slice Ag sa.gs.length cg] 30))).alloc _).blk (heap_alloc_new w5 _) (by simp)
      have T56 : Touch [] w5 W := by rw [hW]; exact ((Touch.refl [] w5).alloc _).alloc _
      have hgI : decide (sa.gen < sb.gen) = false := by simpa using hbest
      have hz : sa.gen = 0 := hzero
      have hz2 : sb.gen = 0 := by omega
      obtain ⟨d, hd, eo⟩ := open_fresh calm2 (a, 0) (b, 0) (by simp) (by simp) (by rw [HSA.out.1]; exact hz) (by rw [HSB.out.1]; exact hz2) (by have := hdB_len 1 []; simp only [List.length_nil] at this; show _ ≤ (1048576 : Int); omega)
      have hbs : bestS (mkV 0 (a, 0) (b, 0)) = ⟨0, [], [], 0⟩ := by
        rw [(bestOf_mk (k := 0) (by omega) (a, 0) (b, 0) (.inr ⟨rfl, by rw [HSA.out.1, HSB.out.1]; omega⟩)).2, HSA.out.1]
        exact HSA.out.2.1 hz
      obtain ⟨F, hF⟩ : ∃ F, F = fileB 1 [] [] := ⟨_, rfl⟩
      have hFl : F.length ≤ 40 := by have := hdB_len 1 []; rw [hF]; unfold fileB; simpa using this
      rw [← hF] at eo
      have hFh : F = hdB 1 [] := by rw [hF]; unfold fileB; simp
      have HFE := Lib.hid (And.intro hF (And.intro hFl hFh))
      have C7 := open_s w.heap.size fp3 _ _ w W (HK5.out.touch0 T56) hh rfl (by show a.length ≤ 900000000; omega) (by show b.length ≤ 900000000; omega) (by show (0 : Int) + ((2 : Nat) : Int) + 5 ≤ _; omega) _ (show lOpen (mkV 0 (a, 0) (b, 0)) _ = _ from eo) _ (show bestS (mkV 0 (a, 0) (b, 0)) = _ from hbs)
      have HC7 := Lib.hid C7
      have HT56 := Lib.hid T56
      have HB6 := Lib.hid b6'
      have HW := Lib.hid hW
      have HZ := Lib.hid hz
      have h45 := HT5.out.size
      have h56 := T56.size
      clear C7 T56 b6' hW eo hbs hz hz2 hzero hF hFl hFh
      go_wp2_with fail
      rw [← HW.out]
      refine HC7.out.mono ?_
      clear HC7 HW hgI hbest
      rintro e w7 ⟨L, fp7, Fc, fcc, Fg, fcg, rfl, hL7, hT7, hLg, hF7, hrf, hcf, hff, hgf⟩
      have Ta : Touch [] w7 (w7.alloc (.cells #[.slice Fc (⟨0, [], [], 0⟩ : SG).cp.length fcc, .slice Fg (⟨0, [], [], 0⟩ : SG).gs.length fcg] 34)) := (Touch.refl _ _).alloc _
      have hL8 := hL7.touch0 Ta
      have bF := heap_alloc_new w7 (.cells #[.slice Fc (⟨0, [], [], 0⟩ : SG).cp.length fcc, .slice Fg (⟨0, [], [], 0⟩ : SG).gs.length fcg] 34)
      have hnfp : ∀ x, w3.heap.size ≤ x → x < W.heap.size → x ∉ fp3 := fun x h1 h2 hm => by have := HK3.out.dk.lt x hm; omega
      have b8 := Ta.blk (hT7.blk HB6.out (hnfp _ (by omega) (lt_of_block HB6.out))) (by simp)
      obtain ⟨W8, hW8⟩ : ∃ W8, W8 = w7.alloc (.cells #[.slice Fc (⟨0, [], [], 0⟩ : SG).cp.length fcc, .slice Fg (⟨0, [], [], 0⟩ : SG).gs.length fcg] 34) := ⟨_, rfl⟩
      rw [← hW8] at Ta hL8 bF b8
      have C8 := size_dk w.heap.size fp7 _ _ (1 : Nat) W8 hL8.dkS.dk
      rw [if_pos (by omega), Int.toNat_natCast] at C8
      have hv0 : (((jS 0 1 [] [] F.length (up (up ⟨1048576, -1, 0, false⟩ 2) d) false : LS)).V.getD 1 ([], 0)).1.length = 0 := by
        show ((mkV 0 _ ([], 0)).getD (1 - 0) ([], 0)).1.length = 0
        rw [mkV_other (by omega)]
        rfl
      rw [hv0] at C8
      rw [show ((0 : Nat) : Int) = 0 from rfl] at C8
      rw [show ((1 : Nat) : Int) = 1 from rfl] at C8
      have C9 := read_up w.heap.size fp7 _ _ 0 (by omega) rfl W8 hL8.dkS.dk
      have hv1 : (((jS 0 1 [] [] F.length (up (up ⟨1048576, -1, 0, false⟩ 2) d) false : LS)).V.getD 0 ([], 0)).1 = F := by
        show ((mkV 0 _ ([], 0)).getD 0 ([], 0)).1 = _
        rw [mkV_get (by omega)]
        exact HFE.out.1.symm
      rw [hv1] at C9
      rw [show ((0 : Nat) : Int) = 0 from rfl] at C9
      have HC8 := Lib.hid C8
      have HC9 := Lib.hid C9
      have HL8 := Lib.hid hL8
      have HW8 := Lib.hid hW8
      have HTa := Lib.hid Ta
      have HBF := Lib.hid bF
      have HB8 := Lib.hid b8
      clear C8 C9 hv0 hv1 hL8 hW8 Ta bF b8 hL7
      simp only [List.length_nil] at HW8 HBF ⊢
      go_wp2_with fail
      rw [← HW8.out]
      refine HC8.out.mono ?_
      clear HC8
      rintro e w9 ⟨rfl, rfl⟩
      go_wp2_with fail
      refine HC9.out.mono ?_
      clear HC9
      rintro e w10 ⟨Ar, cr, rfl, hown, ht10, hfr⟩
      have L10 := HL8.out.touch0 ht10
      have b10 := ht10.blk HB8.out (by simp)
      have f10 := ht10.blk HBF.out (by simp)
      obtain ⟨y0, y1, y2, y3, -⟩ := blk4 b10
      have z0 := cell_blk (i := 0) f10 rfl
      have z1 := cell_blk (i := 1) f10 rfl
      have HL10 := Lib.hid L10
      clear b10 f10 L10
      have hgn : ((sa.gen : Int) == 0) = true := by rw [HZ.out]; rfl
      have HL11 := Lib.hid (HL10.out.touch0 ((Touch.refl [] w10).drew))
      have z0d : w10.drew.cell? ⟨w7.heap.size, 0, none⟩ = some (.slice Fc 0 fcc) := z0
      have z1d : w10.drew.cell? ⟨w7.heap.size, 1, none⟩ = some (.slice Fg 0 fcg) := z1
      have HKis := Lib.hid (fun (w' : World) (T : Touch [] w10.drew w') => run_str_of cr (n := F.length) (l := F) rfl (Rd.touch0 (Rd.touch0 hown.rd ((Touch.refl [] w10).drew)) T))
      have kis := HKis.out _ (Touch.refl [] w10.drew)
      have Hge : Hid (Calls Tryd.prog 14 #[.pointer (some ⟨L, 0, none⟩)] w10.drew fun e w' => e = .returned (.int .i64 1) ∧ w10.drew = w') := Lib.hid (gen_log L w.heap.size fp7 _ w10.drew HL11.out.ls)
      have Hhd := Lib.hid (refHd_any 1 (by omega) (by omega) none 0 0 [] rfl (by omega) w10.drew (Rd.nil _ _))
      have Hsf := Lib.hid (fun (w' : World) (T : Touch [] w10.drew w') => (by
        have h := safe_dk w.heap.size fp7 _ _ (0 : Nat) w' (HL11.out.touch0 T).dkS.dk
        rw [if_pos (by omega), Int.toNat_natCast] at h
        unfold jS at h
        simp only [mkV_get (show 0 < 2 by omega)] at h
        exact h : Calls Tryd.prog 16 #[.pointer (some ⟨w.heap.size, 0, none⟩), .int .i64 0] w' fun e w2 => e = .returned (.int .i64 F.length) ∧ w' = w2))
      have Hsz := Lib.hid (fun (w' : World) (T : Touch [] w10.drew w') => (by
        have h := size_log L w.heap.size fp7 _ (by show 0 < 4; omega) w' (HL11.out.touch0 T).ls
        unfold jS at h
        simp only [mkV_get (show 0 < 2 by omega)] at h
        rw [← HFE.out.1] at h
        exact h : Calls Tryd.prog 17 #[.pointer (some ⟨L, 0, none⟩)] w' fun e w2 => e = .returned (.int .i64 F.length) ∧ Touch [] w' w2))
      have hq1 := S_beq F F
      rw [show decide (F = F) = true from decide_eq_true rfl] at hq1
      clear hown hrf hcf hff hgf
      go_wp2_with fail
      refine wp_region_held_drew (S := fun w' => w'.cell? ⟨w7.heap.size, 0, none⟩ = some (.slice Fc 0 fcc) ∧ w'.cell? ⟨w7.heap.size, 1, none⟩ = some (.slice Fg 0 fcg) ∧ (convert 22 9 (.slice Ar F.length cr)).run Tryd.prog w' = .ok (.string (S F)) w') (by kernel_rfl) ⟨z0d, z1d, kis⟩ (fun hHeld => ?_)
      refine take_d (i := 0) (d := 79) (v := ?_) rfl rfl (by kernel_rfl) (by kernel_rfl) (by kernel_rfl) (fun _ _ _ h => h) (Or.inl ⟨by rfl, ?_⟩) (by assumption) ?_
      rotate_left
      · intro w hSw; (try dsimp only at hSw); go_simp; (try with_reducible rfl)
      try simp only [Act.put, List.setIfInBounds_toArray, List.set_cons_zero, List.set_cons_succ]
      refine take_d (i := 1) (d := 80) (v := ?_) rfl rfl (by kernel_rfl) (by kernel_rfl) (by kernel_rfl) (fun _ _ _ h => h) (Or.inl ⟨by rfl, ?_⟩) (by assumption) ?_
      rotate_left
      · intro w hSw; (try dsimp only at hSw); go_simp; (try with_reducible rfl)
      try simp only [Act.put, List.setIfInBounds_toArray, List.set_cons_zero, List.set_cons_succ]
      refine take_d (i := 2) (d := 81) (v := ?_) rfl rfl (by kernel_rfl) (by kernel_rfl) (by kernel_rfl) (fun _ _ _ h => h) (Or.inl ⟨by rfl, ?_⟩) (by assumption) ?_
      rotate_left
      · intro w hSw; (try dsimp only at hSw); go_simp; (try with_reducible rfl)
      try simp only [Act.put, List.setIfInBounds_toArray, List.set_cons_zero, List.set_cons_succ]
      refine take_d (i := 3) (d := 82) (v := ?_) rfl rfl (by kernel_rfl) (by kernel_rfl) (by kernel_rfl) (fun _ _ _ h => h) (Or.inl ⟨by rfl, ?_⟩) (by assumption) ?_
      rotate_left
      · intro w hSw; (try dsimp only at hSw); go_simp; (try with_reducible rfl)
      try simp only [Act.put, List.setIfInBounds_toArray, List.set_cons_zero, List.set_cons_succ]
      refine take_d (i := 4) (d := 83) (v := ?_) rfl rfl (by kernel_rfl) (by kernel_rfl) (by kernel_rfl) (fun _ _ _ h => h) (Or.inl ⟨by rfl, ?_⟩) (by assumption) ?_
      rotate_left
      · intro w hSw; (try dsimp only at hSw); go_simp; (try with_reducible rfl)
      try simp only [Act.put, List.setIfInBounds_toArray, List.set_cons_zero, List.set_cons_succ]
      refine take_d (i := 5) (d := 84) (v := ?_) rfl rfl (by kernel_rfl) (by kernel_rfl) (by kernel_rfl) (fun _ _ _ h => h) (Or.inl ⟨by rfl, ?_⟩) (by assumption) ?_
      rotate_left
      · intro w hSw; (try dsimp only at hSw); go_simp; (try with_reducible rfl)
      try simp only [Act.put, List.setIfInBounds_toArray, List.set_cons_zero, List.set_cons_succ]
      refine take_d (i := 6) (d := 85) (v := ?_) rfl rfl (by kernel_rfl) (by kernel_rfl) (by kernel_rfl) (fun _ _ _ h => h) (Or.inl ⟨by rfl, ?_⟩) (by assumption) ?_
      rotate_left
      · intro w hSw; (try dsimp only at hSw); go_simp; (try with_reducible rfl)
      try simp only [Act.put, List.setIfInBounds_toArray, List.set_cons_zero, List.set_cons_succ]
      refine take_d (i := 7) (d := 86) (v := ?_) rfl rfl (by kernel_rfl) (by kernel_rfl) (by kernel_rfl) (fun _ _ _ h => h) (Or.inl ⟨by rfl, ?_⟩) (by assumption) ?_
      rotate_left
      · intro w hSw; (try dsimp only at hSw); go_simp; (try with_reducible rfl)
      try simp only [Act.put, List.setIfInBounds_toArray, List.set_cons_zero, List.set_cons_succ]
      refine take_d (i := 8) (d := 87) (v := ?_) rfl rfl (by kernel_rfl) (by kernel_rfl) (by kernel_rfl) (fun _ _ _ h => h) (Or.inl ⟨by rfl, ?_⟩) (by assumption) ?_
      rotate_left
      · intro w hSw; (try dsimp only at hSw); go_simp; (try with_reducible rfl)
      try simp only [Act.put, List.setIfInBounds_toArray, List.set_cons_zero, List.set_cons_succ]
      refine take_d (i := 9) (d := 88) (v := ?_) rfl rfl (by kernel_rfl) (by kernel_rfl) (by kernel_rfl) (fun _ _ _ h => h) (Or.inl ⟨by rfl, ?_⟩) (by assumption) ?_
      rotate_left
      · intro w hSw; (try dsimp only at hSw); go_simp; (try with_reducible rfl)
      try simp only [Act.put, List.setIfInBounds_toArray, List.set_cons_zero, List.set_cons_succ]
      refine take_d (i := 10) (d := 89) (v := ?_) rfl rfl (by kernel_rfl) (by kernel_rfl) (by kernel_rfl) (fun _ _ _ h => h) (Or.inl ⟨by rfl, ?_⟩) (by assumption) ?_
      rotate_left
      · intro w hSw; (try dsimp only at hSw); go_simp; (try with_reducible rfl)
      try simp only [Act.put, List.setIfInBounds_toArray, List.set_cons_zero, List.set_cons_succ]
      refine take_d (i := 11) (d := 90) (v := ?_) rfl rfl (by kernel_rfl) (by kernel_rfl) (by kernel_rfl) (fun _ _ _ h => h) (Or.inl ⟨by rfl, ?_⟩) (by assumption) ?_
      rotate_left
      · intro w hSw; (try dsimp only at hSw); go_simp; (try with_reducible rfl)
      try simp only [Act.put, List.setIfInBounds_toArray, List.set_cons_zero, List.set_cons_succ]
      refine wpAnyH_ready (rs := [12]) (by kernel_rfl) (by simp) ?_
      refine AllReadyH.cons rfl (fun K hK => ?_) AllReadyH.nil
      go_simp
      go_at_call 14
      refine Hge.out.mono ?_
      rintro e w' ⟨rfl, rfl⟩
      (try go_wp2_with fail)
      refine hK.out _ _ ⟨z0d, z1d, kis⟩ (fun _h1 => ?_)
      clear hK K
      try simp only [Act.put, List.setIfInBounds_toArray, List.set_cons_zero, List.set_cons_succ]
      refine take_d (i := 13) (d := 92) (v := ?_) rfl rfl (by kernel_rfl) (by kernel_rfl) (by kernel_rfl) (fun _ _ _ h => h) (Or.inl ⟨by rfl, ?_⟩) (by assumption) ?_
      rotate_left
      · intro w hSw; (try dsimp only at hSw); go_simp; (try with_reducible rfl)
      try simp only [Act.put, List.setIfInBounds_toArray, List.set_cons_zero, List.set_cons_succ]
      refine take_d (i := 14) (d := 93) (v := ?_) rfl rfl (by kernel_rfl) (by kernel_rfl) (by kernel_rfl) (fun _ _ _ h => h) (Or.inl ⟨by rfl, ?_⟩) (by assumption) ?_
      rotate_left
      · intro w hSw; (try dsimp only at hSw); go_simp; (try with_reducible rfl)
      try simp only [Act.put, List.setIfInBounds_toArray, List.set_cons_zero, List.set_cons_succ]
      refine take_d (i := 15) (d := 94) (v := ?_) rfl rfl (by kernel_rfl) (by kernel_rfl) (by kernel_rfl) (fun _ _ _ h => h) (Or.inl ⟨by rfl, ?_⟩) (by assumption) ?_
      rotate_left
      · intro w hSw; (try dsimp only at hSw); go_simp; (try with_reducible rfl)
      try simp only [Act.put, List.setIfInBounds_toArray, List.set_cons_zero, List.set_cons_succ]
      refine take_d (i := 16) (d := 95) (v := ?_) rfl rfl (by kernel_rfl) (by kernel_rfl) (by kernel_rfl) (fun _ _ _ h => h) (Or.inl ⟨by rfl, ?_⟩) (by assumption) ?_
      rotate_left
      · intro w hSw; (try dsimp only at hSw); go_simp; (try with_reducible rfl)
      try simp only [Act.put, List.setIfInBounds_toArray, List.set_cons_zero, List.set_cons_succ]
      refine take_d (i := 17) (d := 96) (v := ?_) rfl rfl (by kernel_rfl) (by kernel_rfl) (by kernel_rfl) (fun _ _ _ h => h) (Or.inl ⟨by rfl, ?_⟩) (by assumption) ?_
      rotate_left
      · intro w hSw; (try dsimp only at hSw); go_simp; (try with_reducible rfl)
      try simp only [Act.put, List.setIfInBounds_toArray, List.set_cons_zero, List.set_cons_succ]
      refine wpAnyH_ready (rs := [18]) (by kernel_rfl) (by simp) ?_
      refine AllReadyH.cons rfl (fun K hK => ?_) AllReadyH.nil
      go_simp
      go_at_call 15
      refine Hhd.out.mono ?_
      rintro e w14 ⟨A5, c5, rfl, own5, t14, f5⟩
      have z0e := t14.cell z0d (by simp)
      have z1e := t14.cell z1d (by simp)
      have kis2 := HKis.out _ t14
      have khd : (convert 22 9 (.slice A5 (hdB 1 []).length c5)).run Tryd.prog w14 = .ok (.string (S F)) w14 := run_str_of c5 (n := (hdB 1 []).length) (l := F) (by rw [HFE.out.2.2]) (by rw [HFE.out.2.2]; exact own5.rd)
      (try go_wp2_with fail)
      refine hK.out _ _ ⟨z0e, z1e, kis2⟩ (fun _h2 => ?_)
      clear hK K
      try simp only [Act.put, List.setIfInBounds_toArray, List.set_cons_zero, List.set_cons_succ]
      refine wpAnyH_weak (S := fun w' => (convert 22 9 (.slice A5 (hdB 1 []).length c5)).run Tryd.prog w' = .ok (.string (S F)) w' ∧ w'.cell? ⟨w7.heap.size, 0, none⟩ = some (.slice Fc 0 fcc) ∧ w'.cell? ⟨w7.heap.size, 1, none⟩ = some (.slice Fg 0 fcg) ∧ (convert 22 9 (.slice Ar F.length cr)).run Tryd.prog w' = .ok (.string (S F)) w') (fun _ h => h.2) _ _ _ _ ?_
      have hH5 : (fun w' : World => (convert 22 9 (.slice A5 (hdB 1 []).length c5)).run Tryd.prog w' = .ok (.string (S F)) w' ∧ w'.cell? ⟨w7.heap.size, 0, none⟩ = some (.slice Fc 0 fcc) ∧ w'.cell? ⟨w7.heap.size, 1, none⟩ = some (.slice Fg 0 fcg) ∧ (convert 22 9 (.slice Ar F.length cr)).run Tryd.prog w' = .ok (.string (S F)) w') w14 := ⟨khd, z0e, z1e, kis2⟩
      refine take_d (i := 19) (d := 98) (v := ?_) rfl rfl (by kernel_rfl) (by kernel_rfl) (by kernel_rfl) (fun _ _ _ h => h) (Or.inl ⟨by rfl, ?_⟩) (by assumption) ?_
      rotate_left
      · intro w hSw; (try dsimp only at hSw); go_simp; (try with_reducible rfl)
      try simp only [Act.put, List.setIfInBounds_toArray, List.set_cons_zero, List.set_cons_succ]
      refine take_d (i := 20) (d := 99) (v := ?_) rfl rfl (by kernel_rfl) (by kernel_rfl) (by kernel_rfl) (fun _ _ _ h => h) (Or.inl ⟨by rfl, ?_⟩) (by assumption) ?_
      rotate_left
      · intro w hSw; (try dsimp only at hSw); go_simp; (try with_reducible rfl)
      try simp only [Act.put, List.setIfInBounds_toArray, List.set_cons_zero, List.set_cons_succ]
      refine take_d (i := 21) (d := 100) (v := ?_) rfl rfl (by kernel_rfl) (by kernel_rfl) (by kernel_rfl) (fun _ _ _ h => h) (Or.inl ⟨by rfl, ?_⟩) (by assumption) ?_
      rotate_left
      · intro w hSw; (try dsimp only at hSw); go_simp; (try with_reducible rfl)
      try simp only [Act.put, List.setIfInBounds_toArray, List.set_cons_zero, List.set_cons_succ]
      refine take_d (i := 22) (d := 101) (v := ?_) rfl rfl (by kernel_rfl) (by kernel_rfl) (by kernel_rfl) (fun _ _ _ h => h) (Or.inl ⟨by rfl, ?_⟩) (by assumption) ?_
      rotate_left
      · intro w hSw; (try dsimp only at hSw); go_simp; (try with_reducible rfl)
      try simp only [Act.put, List.setIfInBounds_toArray, List.set_cons_zero, List.set_cons_succ]
      refine take_d (i := 23) (d := 102) (v := ?_) rfl rfl (by kernel_rfl) (by kernel_rfl) (by kernel_rfl) (fun _ _ _ h => h) (Or.inl ⟨by rfl, ?_⟩) (by assumption) ?_
      rotate_left
      · intro w hSw; (try dsimp only at hSw); go_simp; (try with_reducible rfl)
      try simp only [Act.put, List.setIfInBounds_toArray, List.set_cons_zero, List.set_cons_succ]
      refine take_d (i := 24) (d := 103) (v := ?_) rfl rfl (by kernel_rfl) (by kernel_rfl) (by kernel_rfl) (fun _ _ _ h => h) (Or.inl ⟨by rfl, ?_⟩) (by assumption) ?_
      rotate_left
      · intro w hSw; (try dsimp only at hSw); go_simp; (try with_reducible rfl)
      try simp only [Act.put, List.setIfInBounds_toArray, List.set_cons_zero, List.set_cons_succ]
      refine take_d (i := 26) (d := 105) (v := ?_) rfl rfl (by kernel_rfl) (by kernel_rfl) (by kernel_rfl) (fun _ _ _ h => h) (Or.inl ⟨by rfl, ?_⟩) (by assumption) ?_
      rotate_left
      · intro w hSw; (try dsimp only at hSw); go_simp; (try with_reducible rfl)
      try simp only [Act.put, List.setIfInBounds_toArray, List.set_cons_zero, List.set_cons_succ]
      refine take_d (i := 27) (d := 106) (v := ?_) rfl rfl (by kernel_rfl) (by kernel_rfl) (by kernel_rfl) (fun _ _ _ h => h) (Or.inl ⟨by rfl, ?_⟩) (by assumption) ?_
      rotate_left
      · intro w hSw; (try dsimp only at hSw); go_simp; (try with_reducible rfl)
      try simp only [Act.put, List.setIfInBounds_toArray, List.set_cons_zero, List.set_cons_succ]
      refine wpAnyH_ready (rs := [25]) (by kernel_rfl) (by simp) ?_
      refine AllReadyH.cons rfl (fun K hK => ?_) AllReadyH.nil
      go_simp
      go_at_call 16
      refine (Hsf.out _ t14).mono ?_
      rintro e w' ⟨rfl, rfl⟩
      (try go_wp2_with fail)
      refine hK.out _ _ ⟨khd, z0e, z1e, kis2⟩ (fun _h3 => ?_)
      clear hK K
      try simp only [Act.put, List.setIfInBounds_toArray, List.set_cons_zero, List.set_cons_succ]
      refine take_d (i := 28) (d := 107) (v := ?_) rfl rfl (by kernel_rfl) (by kernel_rfl) (by kernel_rfl) (fun _ _ _ h => h) (Or.inl ⟨by rfl, ?_⟩) (by assumption) ?_
      rotate_left
      · intro w hSw; (try dsimp only at hSw); go_simp; (try with_reducible rfl)
      try simp only [Act.put, List.setIfInBounds_toArray, List.set_cons_zero, List.set_cons_succ]
      refine take_d (i := 29) (d := 108) (v := ?_) rfl rfl (by kernel_rfl) (by kernel_rfl) (by kernel_rfl) (fun _ _ _ h => h) (Or.inl ⟨by rfl, ?_⟩) (by assumption) ?_
      rotate_left
      · intro w hSw; (try dsimp only at hSw); go_simp; (try with_reducible rfl)
      try simp only [Act.put, List.setIfInBounds_toArray, List.set_cons_zero, List.set_cons_succ]
      refine take_d (i := 30) (d := 109) (v := ?_) rfl rfl (by kernel_rfl) (by kernel_rfl) (by kernel_rfl) (fun _ _ _ h => h) (Or.inl ⟨by rfl, ?_⟩) (by assumption) ?_
      rotate_left
      · intro w hSw; (try dsimp only at hSw); go_simp; (try with_reducible rfl)
      try simp only [Act.put, List.setIfInBounds_toArray, List.set_cons_zero, List.set_cons_succ]
      refine take_d (i := 31) (d := 110) (v := ?_) rfl rfl (by kernel_rfl) (by kernel_rfl) (by kernel_rfl) (fun _ _ _ h => h) (Or.inl ⟨by rfl, ?_⟩) (by assumption) ?_
      rotate_left
      · intro w hSw; (try dsimp only at hSw); go_simp; (try with_reducible rfl)
      try simp only [Act.put, List.setIfInBounds_toArray, List.set_cons_zero, List.set_cons_succ]
      refine take_d (i := 33) (d := 112) (v := ?_) rfl rfl (by kernel_rfl) (by kernel_rfl) (by kernel_rfl) (fun _ _ _ h => h) (Or.inl ⟨by rfl, ?_⟩) (by assumption) ?_
      rotate_left
      · intro w hSw; (try dsimp only at hSw); go_simp; (try with_reducible rfl)
      try simp only [Act.put, List.setIfInBounds_toArray, List.set_cons_zero, List.set_cons_succ]
      refine take_d (i := 34) (d := 113) (v := ?_) rfl rfl (by kernel_rfl) (by kernel_rfl) (by kernel_rfl) (fun _ _ _ h => h) (Or.inl ⟨by rfl, ?_⟩) (by assumption) ?_
      rotate_left
      · intro w hSw; (try dsimp only at hSw); go_simp; (try with_reducible rfl)
      try simp only [Act.put, List.setIfInBounds_toArray, List.set_cons_zero, List.set_cons_succ]
      refine wpAnyH_ready (rs := [32]) (by kernel_rfl) (by simp) ?_
      refine AllReadyH.cons rfl (fun K hK => ?_) AllReadyH.nil
      go_simp
      go_at_call 17
      refine (Hsz.out _ t14).mono ?_
      rintro e w15 ⟨rfl, t15⟩
      have z0f := t15.cell z0e (by simp)
      have z1f := t15.cell z1e (by simp)
      have t15' := t14.trans0 t15
      have kis3 := HKis.out _ t15'
      have khd2 : (convert 22 9 (.slice A5 (hdB 1 []).length c5)).run Tryd.prog w15 = .ok (.string (S F)) w15 := run_str_of c5 (n := (hdB 1 []).length) (l := F) (by rw [HFE.out.2.2]) (by rw [HFE.out.2.2]; exact Rd.touch0 own5.rd t15)
      (try go_wp2_with fail)
      refine hK.out _ _ ⟨khd2, z0f, z1f, kis3⟩ (fun _h4 => ?_)
      clear hK K
      try simp only [Act.put, List.setIfInBounds_toArray, List.set_cons_zero, List.set_cons_succ]
      refine take_d (i := 35) (d := 114) (v := ?_) rfl rfl (by kernel_rfl) (by kernel_rfl) (by kernel_rfl) (fun _ _ _ h => h) (Or.inl ⟨by rfl, ?_⟩) (by assumption) ?_
      rotate_left
      · intro w hSw; (try dsimp only at hSw); go_simp; (try with_reducible rfl)
      try simp only [Act.put, List.setIfInBounds_toArray, List.set_cons_zero, List.set_cons_succ]
      refine take_d (i := 36) (d := 115) (v := ?_) rfl rfl (by kernel_rfl) (by kernel_rfl) (by kernel_rfl) (fun _ _ _ h => h) (Or.inl ⟨by rfl, ?_⟩) (by assumption) ?_
      rotate_left
      · intro w hSw; (try dsimp only at hSw); go_simp; (try with_reducible rfl)
      try simp only [Act.put, List.setIfInBounds_toArray, List.set_cons_zero, List.set_cons_succ]
      refine take_d (i := 37) (d := 116) (v := ?_) rfl rfl (by kernel_rfl) (by kernel_rfl) (by kernel_rfl) (fun _ _ _ h => h) (Or.inl ⟨by rfl, ?_⟩) (by assumption) ?_
      rotate_left
      · intro w hSw; (try dsimp only at hSw); go_simp; (try with_reducible rfl)
      try simp only [Act.put, List.setIfInBounds_toArray, List.set_cons_zero, List.set_cons_succ]
      refine wpAnyH_ready (rs := [38]) (by kernel_rfl) (by simp) ?_
      refine AllReadyH.cons rfl (fun K hK => ?_) AllReadyH.nil
      go_simp
      go_at_call 7
      refine (Haw.out _ (HL11.out.t.trans0 t15')).mono ?_
      rintro e w16 ⟨rfl, t16⟩
      have z0g := t16.cell z0f (by simp)
      have z1g := t16.cell z1f (by simp)
      have kis4 := HKis.out _ (t15'.trans0 t16)
      have khd3 : (convert 22 9 (.slice A5 (hdB 1 []).length c5)).run Tryd.prog w16 = .ok (.string (S F)) w16 := run_str_of c5 (n := (hdB 1 []).length) (l := F) (by rw [HFE.out.2.2]) (by rw [HFE.out.2.2]; exact Rd.touch0 own5.rd (t15.trans0 t16))
      (try go_wp2_with fail)
      refine hK.out _ _ ⟨khd3, z0g, z1g, kis4⟩ (fun _h5 => ?_)
      clear hK K
      try simp only [Act.put, List.setIfInBounds_toArray, List.set_cons_zero, List.set_cons_succ]
      refine take_d (i := 39) (d := 118) (v := ?_) rfl rfl (by kernel_rfl) (by kernel_rfl) (by kernel_rfl) (fun _ _ _ h => h) (Or.inl ⟨by rfl, ?_⟩) (by assumption) ?_
      rotate_left
      · intro w hSw; (try dsimp only at hSw); go_simp; (try with_reducible rfl)
      try simp only [Act.put, List.setIfInBounds_toArray, List.set_cons_zero, List.set_cons_succ]
      refine take_d (i := 40) (d := 4) (v := ?_) rfl rfl (by kernel_rfl) (by kernel_rfl) (by kernel_rfl) (fun _ _ _ h => h) (Or.inl ⟨by rfl, ?_⟩) (by assumption) ?_
      rotate_left
      · intro w hSw; (try dsimp only at hSw); go_simp; (try with_reducible rfl)
      try simp only [Act.put, List.setIfInBounds_toArray, List.set_cons_zero, List.set_cons_succ]
      refine wpAnyH_done (by kernel_rfl) ?_ _
      go_wp2
      go_ret
      exact ⟨rfl, HL11.out.t.trans0 (t15'.trans0 t16)⟩
    · obtain ⟨W, hW⟩ : ∃ W, W = ((w5.alloc (.cells #[.int .i64 sa.gen, .int .i64 sa.en, .slice Ac sa.cp.length cc, .slice Ag sa.gs.length cg] 30)).alloc (.cells #[.int .i64 sb.gen, .int .i64 sb.en, .slice Bc sb.cp.length bc, .slice Bg sb.gs.length bg] 30)) := ⟨_, rfl⟩
      have b6' : W.heap[w5.heap.size]? = some (.cells #[.int .i64 sa.gen, .int .i64 sa.en, .slice Ac sa.cp.length cc, .slice Ag sa.gs.length cg] 30 (0, 0)) := by
        rw [hW]
        exact ((Touch.refl [] (w5.alloc (.cells #[.int .i64 sa.gen, .int .i64 sa.en, .slice Ac sa.cp.length cc, .slice Ag sa.gs.length cg] 30))).alloc _).blk (heap_alloc_new w5 _) (by simp)
      have T56 : Touch [] w5 W := by rw [hW]; exact ((Touch.refl [] w5).alloc _).alloc _
      have hgI : decide (sa.gen < sb.gen) = false := by simpa using hbest
      have hz : sa.gen ≠ 0 := by omega
      obtain ⟨d, hd, eo⟩ := open_calm (k := 0) (by omega) calm2 (a, 0) (b, 0) (by simp) (by simp) (.inr ⟨rfl, by rw [HSA.out.1, HSB.out.1]; omega⟩) (by rw [HSA.out.1]; exact hz) (by rw [HSA.out.1]; exact HSA.out.2.2.2.1)
      have hbs : bestS (mkV 0 (a, 0) (b, 0)) = sa := by rw [(bestOf_mk (k := 0) (by omega) (a, 0) (b, 0) (.inr ⟨rfl, by rw [HSA.out.1, HSB.out.1]; omega⟩)).2, HSA.out.1]
      rw [HSA.out.1] at eo
      have ht := HSA.out.2.2.2.1
      have htl : (a.take sa.en).length = sa.en := by rw [List.length_take]; omega
      have C7 := open_s w.heap.size fp3 _ _ w W (HK5.out.touch0 T56) hh rfl (by show a.length ≤ 900000000; omega) (by show b.length ≤ 900000000; omega) (by show (0 : Int) + ((2 : Nat) : Int) + 5 ≤ _; omega) _ (show lOpen (mkV 0 (a, 0) (b, 0)) _ = _ from eo) _ (show bestS (mkV 0 (a, 0) (b, 0)) = _ from hbs)
      have HC7 := Lib.hid C7
      have HT56 := Lib.hid T56
      have HB6 := Lib.hid b6'
      have HW := Lib.hid hW
      have HZ := Lib.hid hz
      have h45 := HT5.out.size
      have h56 := T56.size
      clear C7 T56 b6' hW eo hbs hz hzero
      go_wp2_with fail
      rw [← HW.out]
      refine HC7.out.mono ?_
      clear HC7 HW hgI hbest
      rintro e w7 ⟨L, fp7, Fc, fcc, Fg, fcg, rfl, hL7, hT7, hLg, hF7, hrf, hcf, hff, hgf⟩
      have Ta : Touch [] w7 (w7.alloc (.cells #[.slice Fc (sa : SG).cp.length fcc, .slice Fg (sa : SG).gs.length fcg] 34)) := (Touch.refl _ _).alloc _
      have hL8 := hL7.touch0 Ta
      have bF := heap_alloc_new w7 (.cells #[.slice Fc (sa : SG).cp.length fcc, .slice Fg (sa : SG).gs.length fcg] 34)
      have hnfp : ∀ x, w3.heap.size ≤ x → x < W.heap.size → x ∉ fp3 := fun x h1 h2 hm => by have := HK3.out.dk.lt x hm; omega
      have b8 := Ta.blk (hT7.blk HB6.out (hnfp _ (by omega) (lt_of_block HB6.out))) (by simp)
      obtain ⟨W8, hW8⟩ : ∃ W8, W8 = w7.alloc (.cells #[.slice Fc (sa : SG).cp.length fcc, .slice Fg (sa : SG).gs.length fcg] 34) := ⟨_, rfl⟩
      rw [← hW8] at Ta hL8 bF b8
      have C8 := size_dk w.heap.size fp7 _ _ (1 : Nat) W8 hL8.dkS.dk
      rw [if_pos (by omega), Int.toNat_natCast] at C8
      have hv0 : (((⟨mkV 0 (a.take sa.en, sa.en) ([], 0), up (up ⟨1048576, -1, 0, false⟩ 2) d, ⟨0, sa.gen, false, false⟩⟩ : LS)).V.getD 1 ([], 0)).1.length = 0 := by
        show ((mkV 0 _ ([], 0)).getD (1 - 0) ([], 0)).1.length = 0
        rw [mkV_other (by omega)]
        rfl
      rw [hv0] at C8
      rw [show ((0 : Nat) : Int) = 0 from rfl] at C8
      rw [show ((1 : Nat) : Int) = 1 from rfl] at C8
      have C9 := read_up w.heap.size fp7 _ _ 0 (by omega) rfl W8 hL8.dkS.dk
      have hv1 : (((⟨mkV 0 (a.take sa.en, sa.en) ([], 0), up (up ⟨1048576, -1, 0, false⟩ 2) d, ⟨0, sa.gen, false, false⟩⟩ : LS)).V.getD 0 ([], 0)).1 = a.take sa.en := by
        show ((mkV 0 _ ([], 0)).getD 0 ([], 0)).1 = _
        rw [mkV_get (by omega)]
    
      rw [hv1] at C9
      rw [show ((0 : Nat) : Int) = 0 from rfl] at C9
      have HC8 := Lib.hid C8
      have HC9 := Lib.hid C9
      have HL8 := Lib.hid hL8
      have HW8 := Lib.hid hW8
      have HTa := Lib.hid Ta
      have HBF := Lib.hid bF
      have HB8 := Lib.hid b8
      clear C8 C9 hv0 hv1 hL8 hW8 Ta bF b8 hL7
      simp only [List.length_nil] at HW8 HBF ⊢
      go_wp2_with fail
      rw [← HW8.out]
      refine HC8.out.mono ?_
      clear HC8
      rintro e w9 ⟨rfl, rfl⟩
      go_wp2_with fail
      refine HC9.out.mono ?_
      clear HC9
      rintro e w10 ⟨Ar, cr, rfl, hown, ht10, hfr⟩
      have L10 := HL8.out.touch0 ht10
      have b10 := ht10.blk HB8.out (by simp)
      have f10 := ht10.blk HBF.out (by simp)
      obtain ⟨y0, y1, y2, y3, -⟩ := blk4 b10
      have z0 := cell_blk (i := 0) f10 rfl
      have z1 := cell_blk (i := 1) f10 rfl
      have HL10 := Lib.hid L10
      clear b10 f10 L10
      have hgn : ((sa.gen : Int) == 0) = false := by have := HZ.out; rw [beq_eq_false_iff_ne]; omega
      have T710 := HTa.out.trans0 ht10
      have q1 : RdB w10 Fc sa.cp := Rd.touch0 hrf T710
      have q2 := hgf.touch0 T710
      have T5W : Touch fp3 w5 w10 := (HT56.out.mono (by simp)).trans (hT7.trans0 T710) (fun x hx => .inl hx)
      have hlt3 := HK3.out.dk.lt
      have q3 : RdB w10 Ac sa.cp := Rd.touch (Rd.touch0 HFA.out.1 HT5.out) T5W (fun x hx hm => by have h1 := HFA.out.2.2.1 x hx; have h2 := hlt3 x hm; have h3 := HT4.out.size; omega)
      have q4 := ((HFA.out.2.2.2.touch0 HT5.out)).touch T5W (fun x h1 _ hm => by have h2 := hlt3 x hm; have h3 := HT4.out.size; omega)
      have q5 : RdB w10 A a := Rd.touch0 hra HL10.out.t
      have q6 : RdB w10 Ar (a.take sa.en) := hown.rd
      obtain ⟨W, hW⟩ : ∃ W, W = w10 := ⟨_, rfl⟩
      have g0 := TW.cell y0; have g1 := TW.cell y1; have g2 := TW.cell y2; have g3 := TW.cell y3; have g4 := TW.cell z0; have g5 := TW.cell z1
      have k1 : ∀ x : TW w10, (convert 22 9 (.slice Fc sa.cp.length fcc)).run Tryd.prog x.w = .ok (.string (S sa.cp)) x.w := fun x => run_str_of fcc rfl (Rd.touch0 q1 x.t)
      have k2 : ∀ x : TW w10, (convert 22 9 (.slice Ac sa.cp.length cc)).run Tryd.prog x.w = .ok (.string (S sa.cp)) x.w := fun x => run_str_of cc rfl (Rd.touch0 q3 x.t)
      have k3 : ∀ x : TW w10, (convert 22 9 (.slice Ar (a.take sa.en).length cr)).run Tryd.prog x.w = .ok (.string (S (a.take sa.en))) x.w := fun x => run_str_of cr rfl (Rd.touch0 q6 x.t)
      have q7 : RdB w10 A (a.take sa.en) := by
        have h := Rd.cut (k := 0) (n := sa.en) q5 (A' := A) (fun ad he _ => by rw [he]; simp [Addr.add])
        unfold RdB
        rwa [List.map_take]
      have k4 : ∀ x : TW w10, (convert 22 9 (.slice A sa.en ca)).run Tryd.prog x.w = .ok (.string (S (a.take sa.en))) x.w := fun x => run_str_of ca htl (Rd.touch0 q7 x.t)
      rw [htl] at k3 ⊢
      have cnt := HSA.out.2.2.1
      have Hgr := Lib.hid fun x : TW w10 => groups_true Fg Ag fcg cg sa.gs.length sa.gs rfl (by omega) (fun g hg => by have := cnt.2.1 g hg; omega) x.w (q2.touch0 x.t) (q4.touch0 x.t)
      have Hge := Lib.hid fun x : TW w10 => gen_log L w.heap.size fp7 _ x.w (HL10.out.touch0 x.t).ls
      have Hlo := Lib.hid fun x : TW w10 => loose_log L w.heap.size fp7 _ x.w (HL10.out.touch0 x.t).ls
      have hsf : ∀ x : TW w10, Calls Tryd.prog 16 #[.pointer (some ⟨w.heap.size, 0, none⟩), .int .i64 0] x.w fun e w' => e = .returned (.int .i64 sa.en) ∧ x.w = w' := by
        intro x
        have h := safe_dk w.heap.size fp7 _ _ (0 : Nat) x.w (HL10.out.touch0 x.t).dkS.dk
        rw [if_pos (by omega), Int.toNat_natCast] at h
        simp only [mkV_get (show 0 < 2 by omega)] at h
        exact h
      have Hsf := Lib.hid hsf
      have Haw2 := Lib.hid fun x : TW w10 => Haw.out x.w (HL10.out.touch0 x.t).t
      have hen1 : (0 : Int) ≤ (sa.en : Int) := by omega
      have hen2 : (sa.en : Int) ≤ (ca : Int) := by omega
      have hq1 := S_beq (a.take sa.en) (a.take sa.en)
      have hq2 := S_beq sa.cp sa.cp
      rw [show decide ((a.take sa.en) = (a.take sa.en)) = true from decide_eq_true rfl] at hq1
      rw [show decide (sa.cp = sa.cp) = true from decide_eq_true rfl] at hq2
      clear hsf q1 q2 q3 q4 q5 q6 q7 cnt htl hrf hcf hff hgf T710 T5W hown
      go_wp2_with fail
      refine wp_region_tw w10 (Touch.refl _ _) (by kernel_rfl) (by kernel_rfl) ?_
      repeat (go_big_quiet_step ((first
        | (go_at_call 18; exact Calls.tw _ (Hgr.out _))
        | (go_at_call 14; exact Calls.tw_same _ (Hge.out _))
        | (go_at_call 19; exact Calls.tw_same _ (Hlo.out _))
        | (go_at_call 16; exact Calls.tw_same _ (Hsf.out _))
        | (go_at_call 7; exact Calls.tw _ (Haw2.out _)))))
      refine wpQuiet_nil ?_
      rintro _ ⟨z, rfl⟩
      go_wp2
      go_ret
      exact ⟨rfl, HL10.out.t.trans0 z.t⟩
end Go.Proofs.YtlcpljpeljoboaaDoor

/- A slice of bytes that came in, as the walks take it. -/
namespace Go.Proofs.YtlcpljpeljoboaaDoor
open Go.RowKit

theorem bytes_of_row {w : World} {x : Addr} {len : Nat} {zs : List Int} (hl : len ≤ zs.length) (hm : len ≤ maxLen)
    (hcell : ∀ i, i < zs.length → w.cell? (x.add i) = some (.int .u8 (zs.getD i 0))) (hw : ∀ n ∈ zs, (Lit.int .u8 n).wf = true) :
    ∃ l : List UInt8, l.length = len ∧ RdB w (some x) l ∧ l.length ≤ maxLen := by
  have hwz : ∀ n ∈ zs, 0 ≤ n ∧ n ≤ 255 := fun n hn => by
    have := hw n hn
    simpa [Lit.wf, IntKind.min, IntKind.max, IntKind.signed, IntKind.bits] using this
  refine ⟨(zs.take len).map fun n => UInt8.ofNat n.toNat, by simp; omega, fun _ => ⟨x, rfl, fun j u hu => ?_⟩, by simp; omega⟩
  have hj : j < len := by
    have := (List.getElem?_eq_some_iff.1 hu).1
    simp at this; omega
  rw [hcell j (by omega)]
  simp only [List.getElem?_map, List.getElem?_take, hj, if_true] at hu
  have hjz : j < zs.length := by omega
  rw [List.getElem?_eq_getElem hjz] at hu
  simp only [Option.map_some, Option.some.injEq] at hu
  subst hu
  have hb := hwz zs[j] (List.getElem_mem hjz)
  simp only [List.getD, List.getElem?_eq_getElem hjz, Option.getD_some, B]
  congr 2
  simp
  omega
end Go.Proofs.YtlcpljpeljoboaaDoor

/- The table of frame.Sum as the rows list it: what it holds when a call begins; a world that holds it. -/
namespace Go.Proofs.YtlcpljpeljoboaaDoor
open Go.ChangeShapes Go.WideShapes Go.ChangeAt Go.RowKit

theorem gTab : Tryd.prog.globalNamed "bywash/frame.half" = some 0 := by kernel_rfl
theorem gTabType : (Tryd.prog.globals[0]?).map (·.type) = some 114 := by kernel_rfl
theorem cellsTab : Tryd.prog.cellsOf 114 = 16 := by kernel_rfl
theorem cellsU32 : Tryd.prog.cellsOf 96 = 1 := by kernel_rfl
theorem half_at {W : World} (h : laidMetH Tryd.prog [("bywash/frame.half", Rows.laid_bywash_frame_half)] W) : HalfAt W := by
  have hT : Lib.TabIs Tryd.prog W "bywash/frame.half" .u32 (half.map fun (n : Nat) => (n : Int)) :=
    Lib.tabIs_of_head (rest := []) gTab gTabType Tryd.underlying114 Tryd.underlying96 cellsU32 cellsTab h
  intro j hj
  have := hT.cell gTab j (by simpa [half] using hj)
  rw [this]
  congr 2
  have hjl : j < half.length := by simpa [half] using hj
  simp [List.getD, hjl]
/-- a world for the witness: the settled one, the table holding what its initialiser lays -/
noncomputable def laidWorld (os : Os) : World :=
  { World.holding Tryd.prog os ⟨#[], #[], []⟩ with heap := (World.holding Tryd.prog os ⟨#[], #[], []⟩).heap.modify 0 fun
      | .cells _ t frozen => .cells #[.int .u32 0, .int .u32 498536548, .int .u32 997073096, .int .u32 651767980, .int .u32 1994146192, .int .u32 1802195444, .int .u32 1303535960, .int .u32 1342533948, .int .u32 3988292384, .int .u32 4027552580, .int .u32 3604390888, .int .u32 3412177804, .int .u32 2607071920, .int .u32 2262029012, .int .u32 2685067896, .int .u32 3183342108] t frozen
      | o => o }
end Go.Proofs.YtlcpljpeljoboaaDoor
