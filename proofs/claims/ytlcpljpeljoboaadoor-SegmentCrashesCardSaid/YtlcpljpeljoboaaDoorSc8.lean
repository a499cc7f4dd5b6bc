/- Part 8 of the texts of this proof, one behind the other; each begins with its own sentence. No condition beyond those that its theorems state. -/
import Derived.Test.YtlcpljpeljoboaaDoorSc7
import Derived.Deep.RegionWith
import Derived.Deep.QuietTactic
import Derived.BigQuiet
import Derived.ArgAppend
import Derived.OrdersHeld
import Derived.Deep.RegionHeld3
/- the fixed answer of the statements of layer 8: it stands. The table as the program's text lays it. -/
namespace Go.Proofs.YtlcpljpeljoboaaDoor
open Go.RowKit

def OpenJ (B : SG) (j : LS) (g : Nat) (fp : List Nat) (w : World) (e : Ending) (w' : World) : Prop :=
  ∃ L fp' Ac cc Ag cg, e = .returned (.tuple #[.pointer (some ⟨L, 0, none⟩), .agg #[.slice Ac B.cp.length cc, .slice Ag B.gs.length cg], .int .i64 0]) ∧ LsAt w' L g fp' j ∧ Touch fp w w' ∧
    (∀ b ∈ fp', b ∈ fp ∨ w.heap.size ≤ b) ∧ w.heap.size ≤ L ∧ RdB w' Ac B.cp ∧ B.cp.length ≤ cc ∧ (0 < B.cp.length → ∀ x ∈ fpo Ac, w.heap.size ≤ x ∧ x ∉ L :: fp') ∧ GsD (fun x => w.heap.size ≤ x ∧ x ∉ L :: fp') w' Ag B.gs
theorem open_j (g : Nat) (fp : List Nat) (V : Fl) (r : DR) (w : World) (hd : DkAt w g fp V r) (hf : HalfAt w) (nh : 0 ∉ fp) (hdn : r.down = false) (hl0 : (V.getD 0 ([], 0)).1.length ≤ 900000000) (hl1 : (V.getD 1 ([], 0)).1.length ≤ 900000000)
    (hdone : r.done + 5 ≤ 1073741824) (j : LS) (hj : lOpen V r = (0, j)) (B : SG) (hB : bestS V = B) :
    Calls Tryd.prog 11 #[.pointer (some ⟨g, 0, none⟩)] w fun e w' => OpenJ B j g fp w e w' := by
  subst hB
  refine (open_ok g fp V r w hd hf nh hdn hl0 hl1 hdone (by rw [hj])).mono ?_
  rintro e w' ⟨L, fp', Ac, cc, Ag, cg, h1, h2, h3, h4, h5, h6, h7, h8, h9, -⟩
  rw [hj] at h2
  exact ⟨L, fp', Ac, cc, Ag, cg, h1, h2, h3, h4, h5, h6, h7, h8, h9⟩

def aG : List (List UInt8) := [[120], [121]]
theorem aG_ok : gsOk [aG] := by
  intro r hr
  obtain rfl : r = aG := by simpa using hr
  have h1 := encI_length ((S [120]).size : Int)
  have h2 := encI_length ((S [121]).size : Int)
  have e : encR aG = encT (S [120]) ++ (encT (S [121]) ++ []) := by simp [encR, aG]
  refine ⟨by simp [aG], ?_⟩
  rw [e]
  simp only [List.length_append, encT_length, S_size, List.length_cons, List.length_nil] at h1 h2 ⊢
  omega
theorem aG_len : (gpB aG).length ≤ 100 := by
  have := gpB_len aG
  have e : encR aG = encT (S [120]) ++ (encT (S [121]) ++ []) := by simp [encR, aG]
  have h1 := encI_length (1 : Int)
  rw [e] at this
  simp only [List.length_append, encT_length, S_size, List.length_cons, List.length_nil] at this
  simp only [Nat.zero_add] at this
  have h2 : ((1 : Nat) : Int) = 1 := rfl
  rw [h2] at this
  omega
theorem bG_len : (gpB [[122]]).length ≤ 100 := by
  have := gpB_len [[122]]
  have e : encR [[122]] = encT (S [122]) ++ [] := by simp [encR]
  have h1 := encI_length (1 : Int)
  rw [e] at this
  simp only [List.length_append, encT_length, S_size, List.length_cons, List.length_nil] at this
  simp only [Nat.zero_add] at this
  have h2 : ((1 : Nat) : Int) = 1 := rfl
  rw [h2] at this
  omega

theorem add_at (n j : Nat) : (⟨n, 0, none⟩ : Addr).add j = ⟨n, j, none⟩ := by unfold Addr.add; split <;> simp_all
theorem two_bs (w : World) (F : Obj) : BsAt ((((w.alloc F).alloc (.cells #[.int .u8 120] 5 (1, 2))).alloc (.cells #[.int .u8 121] 5 (1, 2))).alloc (.cells #[.slice (some ⟨w.heap.size + 1, 0, none⟩) 1 1, .slice (some ⟨w.heap.size + 1 + 1, 0, none⟩) 1 1] 22)) (some ⟨w.heap.size + 1 + 1 + 1, 0, none⟩) aG := by
  intro _
  have e1 : (w.alloc F).heap.size = w.heap.size + 1 := by simp
  have e2 : ((w.alloc F).alloc (.cells #[.int .u8 120] 5 (1, 2))).heap.size = w.heap.size + 1 + 1 := by simp
  have e3 : (((w.alloc F).alloc (.cells #[.int .u8 120] 5 (1, 2))).alloc (.cells #[.int .u8 121] 5 (1, 2))).heap.size = w.heap.size + 1 + 1 + 1 := by simp
  have r1 := RdB.new' (w.alloc F) [120] (1, 2) #[.int .u8 120] rfl
  have r2 := RdB.new' ((w.alloc F).alloc (.cells #[.int .u8 120] 5 (1, 2))) [121] (1, 2) #[.int .u8 121] rfl
  have b3 := heap_alloc_new (((w.alloc F).alloc (.cells #[.int .u8 120] 5 (1, 2))).alloc (.cells #[.int .u8 121] 5 (1, 2))) (.cells #[.slice (some ⟨w.heap.size + 1, 0, none⟩) 1 1, .slice (some ⟨w.heap.size + 1 + 1, 0, none⟩) 1 1] 22)
  rw [e1] at r1
  rw [e2] at r2
  rw [e3] at b3
  refine ⟨_, rfl, fun j hj => ?_⟩
  rw [add_at]
  match j, hj with
  | 0, _ => exact ⟨_, _, cell_blk b3 rfl, Rd.touch0 r1 (((Touch.refl _ _).alloc _).alloc _), by simp [aG]⟩
  | 1, _ => exact ⟨_, _, cell_blk b3 rfl, Rd.touch0 r2 ((Touch.refl _ _).alloc _), by simp [aG]⟩
theorem one_bs (w : World) : BsAt ((w.alloc (.cells #[.int .u8 122] 5 (1, 2))).alloc (.cells #[.slice (some ⟨w.heap.size, 0, none⟩) 1 1] 22)) (some ⟨w.heap.size + 1, 0, none⟩) [[122]] := by
  intro _
  have e1 : (w.alloc (.cells #[.int .u8 122] 5 (1, 2))).heap.size = w.heap.size + 1 := by simp
  have r1 := RdB.new' w [122] (1, 2) #[.int .u8 122] rfl
  have b3 := heap_alloc_new (w.alloc (.cells #[.int .u8 122] 5 (1, 2))) (.cells #[.slice (some ⟨w.heap.size, 0, none⟩) 1 1] 22)
  rw [e1] at b3
  refine ⟨_, rfl, fun j hj => ?_⟩
  rw [add_at]
  match j, hj with
  | 0, _ => exact ⟨_, _, cell_blk b3 rfl, Rd.touch0 r1 ((Touch.refl _ _).alloc _), by simp⟩

set_option maxRecDepth 100000 in
set_option maxHeartbeats 6400000 in
theorem awake8_any (w : World) (hf : HalfAt w) : Calls Tryd.prog 7 #[] w fun e w' => e = .returned (.bool true) ∧ Touch [] w w' := by
  have hcc := fun (W : World) (C : Array Value) (n c : Nat) => Lib.run_convert_bytes_const (P := Tryd.prog) W 22 5 C n c Tryd.underlying22 Tryd.underlying5
  have calm0 : Calm ⟨1000, -1, 0, false⟩ := ⟨rfl, rfl⟩
  have hh1 := hdB_len 1 []
  simp only [List.length_nil] at hh1
  obtain ⟨d1, hd1, e1⟩ := open_fresh calm0 ([], 0) ([], 0) (by simp) (by simp) (by rw [sgOf_nil]) (by rw [sgOf_nil]) (by show ((hdB 1 []).length : Int) ≤ 1000; omega)
  have hfl : (fileB 1 [] []).length ≤ 40 := by unfold fileB; simpa using hh1
  have hal := aG_len
  have hbl := bG_len
  have e2 := lCommit_calm (k := 0) (gen := 1) (cp := []) (gs := []) (sf := (fileB 1 [] []).length) (lo := false) (by omega) (calm0.upc d1) (recs := aG) (by simp [aG]) (by rw [up_cap]; show _ ≤ (1000 : Int) - _; omega)
  have hfl2 : (fileB 1 [] ([] ++ [aG])).length ≤ 140 := by rw [fileB_snoc, List.length_append]; omega
  have e3 := lApp_calm (k := 0) (gen := 1) (cp := []) (gs := [] ++ [aG]) (sf := (fileB 1 [] ([] ++ [aG])).length) (lo := false) (by omega) ((calm0.upc d1).upc 2) (recs := [[122]]) (by simp) (by rw [up_cap, up_cap]; show _ ≤ (1000 : Int) - _; omega)
  rw [up_up] at e2 e3
  obtain ⟨d4, hd4, eb4, e4⟩ := open_whole (k := 0) (by omega) (((calm0.upc d1).upc (2 + 1))) (gen := 1) (by omega) (by omega) (cp := []) (by simp) (gs := [] ++ [aG]) aG_ok ([], 0) (by simp) (by rw [sgOf_nil]; simp) (fileB 1 [] ([] ++ [aG])).length (Nat.le_refl _)
  have ecr : crashK [] (mkV 0 (fileB 1 [] ([] ++ [aG] ++ [[[122]]]), (fileB 1 [] ([] ++ [aG])).length) ([], 0)) 4 = mkV 0 (fileB 1 [] ([] ++ [aG]), (fileB 1 [] ([] ++ [aG])).length) ([], 0) := by
    rw [crash_none (by omega)]
    have := fileB_take 1 [] ([] ++ [aG] ++ [[[122]]]) 1
    simp only [List.nil_append] at this ⊢
    have h9 : List.take 1 ([aG] ++ [[[(122 : UInt8)]]]) = [aG] := rfl
    rw [h9] at this
    rw [this]
    simp
  have hhl := hf.lt
  have EE := Lib.hid (And.intro e1 (And.intro e2 (And.intro e3 (And.intro e4 (And.intro eb4 (And.intro ecr (And.intro hfl hfl2)))))))
  have HCC := Lib.hid hcc
  clear e1 e2 e3 e4 eb4 ecr hfl hfl2 hal hbl hh1 calm0 hcc
  go_enter Tryd.func7, Tryd.ntmps7
  go_wp2_with fail
  refine (new_dk 1000 w (by omega)).mono ?_
  rintro e w1 ⟨rfl, hdk1, ht1⟩
  have hs1 := lt_of_block hdk1.choose_spec.1.blk
  have Op := open_j w.heap.size [w.heap.size] _ _ w1 hdk1 (hf.touch ht1 (by simp)) (by simp; omega) rfl (by simp) (by simp) (by simp) _ EE.out.1 ⟨0, [], [], 0⟩ (by
    have := (bestOf_mk (k := 0) (by omega) ([], 0) ([], 0) (.inr ⟨rfl, Nat.le_refl _⟩)).2
    rw [sgOf_nil] at this
    exact this)
  have HOp := Lib.hid Op
  clear Op
  go_wp2_with fail
  refine HOp.out.mono ?_
  clear HOp
  rintro e w2 ⟨L, fp2, Ac, cc, Ag, cg, rfl, hA2, hT2, hF2, hL2, -, -, -, -⟩
  simp only [List.length_nil]
  have hcc := HCC.out
  have hc1 := hcc (w2.alloc (.cells #[.slice Ac 0 cc, .slice Ag 0 cg] 34)) #[.int .u8 120] 1 1
  have hc2 := hcc ((w2.alloc (.cells #[.slice Ac 0 cc, .slice Ag 0 cg] 34)).alloc (.cells #[.int .u8 120] 5 (1, 2))) #[.int .u8 121] 1 1
  rw [show (w2.alloc (.cells #[.slice Ac 0 cc, .slice Ag 0 cg] 34)).heap.size = w2.heap.size + 1 by simp] at hc1
  rw [show ((w2.alloc (.cells #[.slice Ac 0 cc, .slice Ag 0 cg] 34)).alloc (.cells #[.int .u8 120] 5 (1, 2))).heap.size = w2.heap.size + 1 + 1 by simp] at hc2
  have hz : (#[.int .u8 120] : Array Value).size = 1 := rfl
  have hz2 : (#[.int .u8 121] : Array Value).size = 1 := rfl
  rw [hz] at hc1
  rw [hz2] at hc2
  clear hz hz2
  have T3 : Touch [] w2 ((((w2.alloc (.cells #[.slice Ac 0 cc, .slice Ag 0 cg] 34)).alloc (.cells #[.int .u8 120] 5 (1, 2))).alloc (.cells #[.int .u8 121] 5 (1, 2))).alloc (.cells #[.slice (some ⟨w2.heap.size + 1, 0, none⟩) 1 1, .slice (some ⟨w2.heap.size + 1 + 1, 0, none⟩) 1 1] 22)) := ((((Touch.refl _ _).alloc _).alloc _).alloc _).alloc _
  have hA3 := hA2.touch0 T3
  have C3 := commit_log L w.heap.size fp2 _ (some ⟨w2.heap.size + 1 + 1 + 1, 0, none⟩) 2 2 aG rfl (aG_ok aG (by simp)).2 (by omega) (by show (0 : Nat) < 4; omega) _ hA3 (two_bs w2 (.cells #[.slice Ac 0 cc, .slice Ag 0 cg] 34)) (by show (0 : Int) + d1 + 2 ≤ _; omega)
  rw [EE.out.2.1] at C3
  have HC3 := Lib.hid C3
  have hT2' := ht1.trans hT2 (fun b hb => .inr (by simp at hb; omega))
  have hF2' : ∀ b ∈ L :: fp2, w.heap.size ≤ b := fun b hb => by
    have := ht1.size
    rcases List.mem_cons.1 hb with h | h
    · omega
    · rcases hF2 b h with h | h
      · simp at h; omega
      · omega
  have HT := Lib.hid (And.intro (hT2'.trans0 T3) hF2')
  clear C3 hA2 hA3 hT2' hF2' hT2 hF2 T3
  go_wp2_with fail
  refine HC3.out.mono ?_
  clear HC3 hc1 hc2
  rintro e w3 ⟨rfl, fp3, hA3, hT3, hF3⟩
  have TW3 : Touch [] w w3 := HT.out.1.trans hT3 (fun b hb => .inr (HT.out.2 b hb))
  have F3 : ∀ b ∈ L :: fp3, w.heap.size ≤ b := fun b hb => by
    have h1 := HT.out.1.size
    rcases List.mem_cons.1 hb with h | h
    · omega
    · rcases hF3 b h with h | h
      · exact HT.out.2 b (by simp [h])
      · omega
  have hc3 := hcc w3 #[.int .u8 122] 1 1
  have hz : (#[.int .u8 122] : Array Value).size = 1 := rfl
  rw [hz] at hc3
  clear hz
  have T4 : Touch [] w3 ((w3.alloc (.cells #[.int .u8 122] 5 (1, 2))).alloc (.cells #[.slice (some ⟨w3.heap.size, 0, none⟩) 1 1] 22)) := ((Touch.refl _ _).alloc _).alloc _
  have C4 := append_log L w.heap.size fp3 _ (some ⟨w3.heap.size + 1, 0, none⟩) 1 1 [[122]] rfl (by have := bG_len; unfold gpB at this; rw [frm_length, List.length_append] at this; omega) (by omega) (by show (0 : Nat) < 4; omega) _ (hA3.touch0 T4) (one_bs w3) (by show (0 : Int) + d1 + 2 + 1 ≤ _; omega)
  rw [EE.out.2.2.1] at C4
  have HC4 := Lib.hid C4
  have HT4 := Lib.hid (And.intro (TW3.trans0 T4) F3)
  clear C4 hA3 hT3 hF3 T4 TW3 F3 HT
  go_wp2_with fail
  refine HC4.out.mono ?_
  clear HC4 hc3
  rintro e w4 ⟨rfl, fp4, hA4, hT4, hF4⟩
  have TW4 : Touch [] w w4 := HT4.out.1.trans hT4 (fun b hb => .inr (HT4.out.2 b hb))
  have F4 : ∀ b ∈ L :: fp4, w.heap.size ≤ b := fun b hb => by
    have h1 := HT4.out.1.size
    rcases List.mem_cons.1 hb with h | h
    · omega
    · rcases hF4 b h with h | h
      · exact HT4.out.2 b (by simp [h])
      · omega
  have C5 := crash_dk w.heap.size fp4 _ _ none 0 [] w4 hA4.dk (fun _ _ => Rd.nil _ _) (by simp)
  unfold jS at C5
  simp only [] at C5
  rw [EE.out.2.2.2.2.2.1] at C5
  have HC5 := Lib.hid C5
  have HA4 := Lib.hid (And.intro hA4 (And.intro TW4 F4))
  clear C5 hA4 TW4 F4 hT4 hF4 HT4
  go_wp2_with fail
  refine HC5.out.mono ?_
  clear HC5
  rintro e w5 ⟨rfl, hs5⟩
  obtain ⟨fp5, hA5, hT5, hF5⟩ := HA4.out.1.step hs5
  have TW5 : Touch [] w w5 := HA4.out.2.1.trans hT5 (fun b hb => .inr (HA4.out.2.2 b hb))
  have F5 : ∀ b ∈ L :: fp5, w.heap.size ≤ b := fun b hb => by
    have h1 := HA4.out.2.1.size
    rcases List.mem_cons.1 hb with h | h
    · exact HA4.out.2.2 b (by simp [h])
    · rcases hF5 b h with h | h
      · exact HA4.out.2.2 b (by simp [h])
      · omega
  have Op := open_j w.heap.size fp5 _ _ w5 hA5.dk hA5.hf hA5.nh rfl (by rw [mkV_get (by omega)]; have := EE.out.2.2.2.2.2.2.2; simp only; omega) (by simp [mkV]) (by show (0 : Int) + ((d1 + (2 + 1) : Nat) : Int) + 5 ≤ _; omega) _ EE.out.2.2.2.1 _ EE.out.2.2.2.2.1
  have HOp := Lib.hid Op
  have HA5 := Lib.hid (And.intro TW5 F5)
  clear Op hA5 hT5 hF5 TW5 F5 hs5 HA4
  go_wp2_with fail
  refine HOp.out.mono ?_
  clear HOp
  rintro e w6 ⟨L6, fp6, Ac6, cc6, Ag6, cg6, rfl, hA6, hT6, hF6, hL6, -, -, -, hg6⟩
  have TW6 : Touch [] w w6 := HA5.out.1.trans hT6 (fun b hb => .inr (HA5.out.2 b (by simp [hb])))
  simp only [List.length_nil, List.nil_append, List.length_cons] at hg6 ⊢
  obtain ⟨ag, rfl, -, hat⟩ := hg6 (by simp)
  obtain ⟨A7, c7, hc7, hb7⟩ := hat 0 (by simp)
  obtain ⟨ag2, rfl, -, hat2⟩ := hb7 (by simp [aG])
  obtain ⟨A8, c8, hc8, hr8, -⟩ := hat2 1 (by simp [aG])
  obtain ⟨A9, c9, hc9, -, -⟩ := hat2 0 (by simp [aG])
  rcases ag2 with ⟨b2, o2, sp⟩
  obtain rfl : sp = none := by
    have h := World.cell?_spot hc9
    rw [show (⟨b2, o2, sp⟩ : Addr).add 0 = ⟨b2, o2, sp⟩ by simp [Addr.add]] at h
    simpa using h
  rw [show (⟨b2, o2, none⟩ : Addr).add 1 = ⟨b2, o2 + 1, none⟩ by simp [Addr.add]] at hc8
  have T7 : Touch [] w6 (w6.alloc (.cells #[.slice Ac6 0 cc6, .slice (some ag) 1 cg6] 34)) := (Touch.refl _ _).alloc _
  have k7 : (w6.alloc (.cells #[.slice Ac6 0 cc6, .slice (some ag) 1 cg6] 34)).cell? ag = some (.slice (some ⟨b2, o2, none⟩) 2 c7) := by
    have h := T7.cell hc7 (by simp)
    rwa [show ag.add 0 = ag by simp [Addr.add]] at h
  have k8 : (w6.alloc (.cells #[.slice Ac6 0 cc6, .slice (some ag) 1 cg6] 34)).cell? ⟨b2, o2 + 1, none⟩ = some (.slice A8 1 c8) := T7.cell hc8 (by simp)
  have hcv : (convert 22 9 (.slice A8 1 c8)).run Tryd.prog (w6.alloc (.cells #[.slice Ac6 0 cc6, .slice (some ag) 1 cg6] 34)) = .ok (.string ⟨#[121]⟩) _ := run_str_of c8 (n := 1) (l := [121]) rfl (Rd.touch0 hr8 T7)
  have HT := Lib.hid (TW6.trans0 T7)
  clear T7 hc7 hc8 hc9 hr8 hat hat2 hb7 hg6 TW6
  go_wp2_with fail
  go_ret
  exact ⟨rfl, HT.out⟩
end Go.Proofs.YtlcpljpeljoboaaDoor

/- bywashlaw08.same, groups: true at two lists that are one. -/
namespace Go.Proofs.YtlcpljpeljoboaaDoor
open Go.RowKit

theorem BsD.at {D : Nat → Prop} {w : World} {A : Option Addr} {ls : List (List UInt8)} (h : BsD D w A ls) : BsAt w A ls := by
  intro h0
  obtain ⟨ad, e, _, h2⟩ := h h0
  exact ⟨ad, e, fun j hj => by obtain ⟨A', c', k1, k2, k3, _⟩ := h2 j hj; exact ⟨A', c', k1, k2, k3⟩⟩

set_option maxRecDepth 100000 in
set_option maxHeartbeats 1600000 in
theorem same_true (A B : Option Addr) (c d n : Nat) (ls : List (List UInt8)) (hn : ls.length = n) (hm : n ≤ 1000000000) (w : World) (ha : BsAt w A ls) (hb : BsAt w B ls) :
    Calls Tryd.prog 46 #[.slice A n c, .slice B n d] w fun e w' => e = .returned (.bool true) ∧ Touch [] w w' := by
  subst hn
  go_enter Tryd.func46, Tryd.ntmps46
  go_wp2_with fail
  go_loopw [13] (fun i wr => ∃ (k : Nat), i = .int .i64 k ∧ k ≤ ls.length ∧ Touch [] w wr) (fun i _ => ls.length - (intOf i).toNat)
  case atStart => exact ⟨0, rfl, by omega, Touch.refl _ _⟩
  case round =>
    obtain ⟨k, rfl, hk, T⟩ := hrel
    by_cases hlt : k < ls.length
    · have hltI : decide ((k : Int) < (ls.length : Int)) = true := by simpa using hlt
      obtain ⟨ad, Ax, cx, rfl, hcell, hrd, -⟩ := (ha.touch0 T).at_ k hlt
      obtain ⟨bd, Bx, dx, rfl, hcell2, hrd2, -⟩ := (hb.touch0 T).at_ k hlt
      obtain ⟨x, hx⟩ : ∃ x, x = ls[k] := ⟨_, rfl⟩
      rw [← hx] at hcell hrd hcell2 hrd2
      clear hx
      have hq := S_beq x x
      have hq2 := S_bne x x
      rw [show decide (x = x) = true from decide_eq_true rfl] at hq hq2
      have c1 := fun n => run_str_of cx rfl (Rd.touch0 hrd ((Touch.refl [] wr).drewN n))
      have c2 := fun n => run_str_of dx rfl (Rd.touch0 hrd2 ((Touch.refl [] wr).drewN n))
      go_wp2_with fail
      go_quiet (fail)
      clear c1 c2
      go_wp2_with fail
      go_roundw
      case rel => exact ⟨k + 1, by go_num, by omega, T.drewN _⟩
      case measure => simp [intOf]; omega
    · obtain rfl : k = ls.length := by omega
      have hltI : decide ((ls.length : Int) < (ls.length : Int)) = false := by simp
      go_wp2
      go_ret
      exact ⟨rfl, T⟩

set_option maxRecDepth 100000 in
set_option maxHeartbeats 3200000 in
theorem groups_true {D1 D2 : Nat → Prop} (A B : Option Addr) (c d n : Nat) (gs : List (List (List UInt8))) (hn : gs.length = n) (hm : n ≤ 1000000000) (hm2 : ∀ g ∈ gs, g.length ≤ 1000000000) (w : World) (ha : GsD D1 w A gs) (hb : GsD D2 w B gs) :
    Calls Tryd.prog 18 #[.slice A n c, .slice B n d] w fun e w' => e = .returned (.bool true) ∧ Touch [] w w' := by
  subst hn
  go_enter Tryd.func18, Tryd.ntmps18
  go_wp2_with fail
  go_loopw [13] (fun i wr => ∃ (k : Nat), i = .int .i64 k ∧ k ≤ gs.length ∧ Touch [] w wr) (fun i _ => gs.length - (intOf i).toNat)
  case atStart => exact ⟨0, rfl, by omega, Touch.refl _ _⟩
  case round =>
    obtain ⟨k, rfl, hk, T⟩ := hrel
    by_cases hlt : k < gs.length
    · have hltI : decide ((k : Int) < (gs.length : Int)) = true := by simpa using hlt
      obtain ⟨ad, rfl, -, hat⟩ := (ha.touch0 T.drew) (by omega)
      obtain ⟨bd, rfl, -, hbt⟩ := (hb.touch0 T.drew) (by omega)
      obtain ⟨Ax, cx, hcell, hrd⟩ := hat k hlt
      obtain ⟨Bx, dx, hcell2, hrd2⟩ := hbt k hlt
      have hml := hm2 _ (List.getElem_mem hlt)
      have hsame := same_true Ax Bx cx dx (gs[k]).length gs[k] rfl hml wr.drew hrd.at hrd2.at
      obtain ⟨m, hme⟩ : ∃ m, m = (gs[k]).length := ⟨_, rfl⟩
      rw [← hme] at hsame hcell hcell2
      have Hs := Lib.hid hsame
      clear hsame hat hbt hrd hrd2 hme hml
      go_wp2_with fail
      go_region_with (first
        | (go_at_call 46; refine Hs.out.mono ?_; rintro e w9 ⟨rfl, ht9⟩))
      all_goals
        have T9 : Touch [] w w9 := T.trans0 ht9.ofDrew
        go_wp2_with fail
        go_roundw
        case rel => exact ⟨k + 1, by go_num, by omega, T9⟩
        case measure => simp [intOf]; omega
    · obtain rfl : k = gs.length := by omega
      have hltI : decide ((gs.length : Int) < (gs.length : Int)) = false := by simp
      go_wp2
      go_ret
      exact ⟨rfl, T⟩
end Go.Proofs.YtlcpljpeljoboaaDoor

/- bywashref08.Group: a group's bytes. For every slice of records. -/
namespace Go.Proofs.YtlcpljpeljoboaaDoor
open Go.RowKit

set_option maxRecDepth 100000 in
set_option maxHeartbeats 1600000 in
theorem refGrp_any (A : Option Addr) (c n : Nat) (recs : List (List UInt8)) (hn : recs.length = n) (hb : (encR recs).length ≤ 800000000) (hn2 : n ≤ 100000000) (w : World) (h : BsAt w A recs) :
    Calls Tryd.prog 29 #[.slice A n c] w fun e w' => ∃ A' c', e = .returned (.slice A' (gpB recs).length c') ∧ OwnB w' A' c' (gpB recs) ∧ Touch [] w w' ∧ ∀ b ∈ fpo A', w.heap.size ≤ b := by
  subst hn
  have hl1 := (encI_length 2).2
  have hl2 := (encI_length recs.length).2
  go_enter Tryd.func29, Tryd.ntmps29
  go_wp2_with fail
  refine (refInt_any 2 (by omega) (by omega) w).mono ?_
  rintro e w1 ⟨A1, d1, rfl, hown1, ht1, hf1⟩
  go_wp2_with fail
  refine (refInt_any recs.length (by omega) (by omega) w1).mono ?_
  rintro e w2 ⟨A2, d2, rfl, hown2, ht2, hf2⟩
  have hown1b := hown1.touch0 ht2
  go_wp2_with (at_builtin; refine stop ?_)
  refine go ?_
  refine wpList_appB rfl (.tmp 5) (.tmp 8) rfl A1 (encI 2).length d1 (encI 2) rfl rfl hown1b A2 (encI recs.length).length d2 (encI recs.length) rfl rfl hown2.rd (by omega) ?_
  intro A3 d3 w3 hown3 ht3 hf3
  have hs1 := ht1.size
  have hs2 := ht2.size
  have T3 : Touch [] w w3 := (ht1.trans0 ht2).trans ht3 (fun x hx => .inr (hf1 x hx))
  have hf3' : ∀ b ∈ fpo A3, w.heap.size ≤ b := fun b hb => by
    rcases hf3 b hb with h | h
    · exact hf1 b h
    · omega
  obtain ⟨l3, hl3e⟩ : ∃ l3, l3 = encI 2 ++ encI recs.length := ⟨_, rfl⟩
  have hl3n : (encI 2).length + (encI recs.length).length = l3.length := by rw [hl3e, List.length_append]
  rw [← hl3e] at hown3
  rw [hl3n]
  have Hl3 := Lib.hid hl3e
  clear hl3e hl3n
  go_wp2_with fail
  go_loopw [3, 4] (fun v i wr => ∃ (k : Nat) (A' : Option Addr) (c' : Nat) (l : List UInt8), i = .int .i64 k ∧ v = .slice A' l.length c' ∧ k ≤ recs.length ∧ Hid (l = encI 2 ++ encI recs.length ++ encR (recs.take k)) ∧ OwnB wr A' c' l ∧ Touch [] w wr ∧ ∀ b ∈ fpo A', w.heap.size ≤ b) (fun _ i _ => recs.length - (intOf i).toNat)
  case atStart => exact ⟨0, A3, d3, l3, rfl, rfl, by omega, Lib.hid (by rw [Hl3.out]; simp [encR]), hown3, T3, hf3'⟩
  case round =>
    clear hown1 hown2 hown3 hown1b ht1 ht2 ht3 hf1 hf2 hf3 hf3' T3 hs1 hs2
    obtain ⟨k, A', c', l, rfl, rfl, hk, Hl, hown, T, F⟩ := hrel
    have hll : l.length ≤ 800000018 := by
      rw [Hl.out, List.length_append, List.length_append]
      have := encR_le recs k
      omega
    by_cases hlt : k < recs.length
    · have hltI : decide ((k : Int) < (recs.length : Int)) = true := by simpa using hlt
      obtain ⟨ad, Ax, cx, rfl, hcell, hrd, -⟩ := (h.touch0 T).at_ k hlt
      have hsn := encR_take recs k hlt
      have hle := encR_le recs (k + 1)
      have hT := encT_length (S recs[k])
      rw [S_size] at hT
      rw [hsn, List.length_append] at hle
      obtain ⟨x, hx⟩ : ∃ x, x = recs[k] := ⟨_, rfl⟩
      rw [← hx] at hcell hrd hsn hle hT
      have hxl : x.length ≤ 800000000 := by omega
      have Hsn := Lib.hid hsn
      have hTb : (encT (S x)).length ≤ 800000000 := by omega
      clear hsn hle hT hx
      have hcv := run_str_of cx rfl hrd
      go_wp2_with fail
      refine (refText_any (S x) (by rw [S_size]; omega) _).mono ?_
      rintro e w4 ⟨A4, d4, rfl, hown4, ht4, hf4⟩
      clear hcv
      go_wp2_with (at_builtin; refine stop ?_)
      refine go ?_
      refine wpList_appB rfl (.tmp 16) (.tmp 22) rfl A' l.length c' l rfl rfl (hown.touch0 ht4) A4 (encT (S x)).length d4 (encT (S x)) rfl rfl hown4.rd (by omega) ?_
      intro A5 d5 w5 hown5 ht5 hf5
      have hsz := (T.trans0 ht4).size
      have T5 := (T.trans0 ht4).trans ht5 (fun b hb => .inr (F b hb))
      have F5 : ∀ b ∈ fpo A5, w.heap.size ≤ b := fun b hb => by
        rcases hf5 b hb with h1 | h1
        · exact F b h1
        · omega
      go_wp2_with fail
      go_roundw
      case rel => exact ⟨k + 1, A5, d5, l ++ encT (S x), by go_num, by rw [List.length_append], by omega, Lib.hid (by rw [Hsn.out, Hl.out]; simp), hown5, T5, F5⟩
      case measure => simp [intOf]; omega
    · obtain rfl : k = recs.length := by omega
      have hltI : decide ((recs.length : Int) < (recs.length : Int)) = false := by simp
      have hl := Hl.out
      rw [List.take_length] at hl
      have HL := Lib.hid hl
      clear hl
      go_wp2_with fail
      refine (refFrame_any A' c' l.length l rfl (by omega) wr hown.rd).mono ?_
      rintro e w5 ⟨A5, c5, rfl, hown5, ht5, hf5⟩
      have hsz := T.size
      go_wp2
      go_ret
      unfold gpB
      rw [← HL.out]
      exact ⟨A5, c5, rfl, hown5, T.trans0 ht5, fun b hb => by have := hf5 b hb; omega⟩
end Go.Proofs.YtlcpljpeljoboaaDoor

/- A region that draws its order, reads old cells and calls what only makes memory: one walk in the order of the text. No condition. -/
namespace Go.Proofs.YtlcpljpeljoboaaDoor
open Go.RowKit

/-- a world in which all that lay in W lies as it lay -/
structure TW (W : World) where
  w : World
  t : Touch [] W w
instance (W : World) : Nonempty (TW W) := ⟨⟨W, Touch.refl _ _⟩⟩
theorem TW.cell {W : World} {a : Addr} {v : Value} (h : W.cell? a = some v) : ∀ x : TW W, x.w.cell? a = some v := fun x => x.t.cell h (by simp)
theorem Calls.tw {P : Program} {f : FuncId} {args : Array Value} {W : World} {v : Value} (x : TW W) (h : Calls P f args x.w fun e w' => e = .returned v ∧ Touch [] x.w w') :
    Calls P f args x.w fun e w' => e = .returned v ∧ ∃ y : TW W, w' = y.w :=
  h.mono fun _ w' ⟨he, ht⟩ => ⟨he, ⟨w', x.t.trans0 ht⟩, rfl⟩
theorem Calls.tw_same {P : Program} {f : FuncId} {args : Array Value} {W : World} {v : Value} (x : TW W) (h : Calls P f args x.w fun e w' => e = .returned v ∧ x.w = w') :
    Calls P f args x.w fun e w' => e = .returned v ∧ ∃ y : TW W, w' = y.w :=
  h.mono fun _ _ ⟨he, ht⟩ => ⟨he, x, ht.symm⟩
theorem wp_region_tw {P : Program} {id : Nat} {Q : Exit → Act → World → Prop} {a : Act} {w : World} {l : List Oper} (W : World) (hW : Touch [] W w) (hm : P.follows .mixedOrders = true) (hB : Region.lexB .any l.toArray = true)
    (h : wpQuiet P l.toArray (fun w' => ∃ x : TW W, w' = x.w) (fun a' => ∀ w', (∃ x : TW W, w' = x.w) → Q .normal a' w') l a) : (Code.region id l.toArray true).wp P Q a w :=
  wp_region_quiet (C := fun w' => ∃ x : TW W, w' = x.w) hm hB ⟨⟨_, hW.drew⟩, rfl⟩ (by simpa using h)
end Go.Proofs.YtlcpljpeljoboaaDoor

/- A disk and a journal that a law has made: what its walk carries along. -/
namespace Go.Proofs.YtlcpljpeljoboaaDoor
open Go.RowKit

structure DkS (w : World) (D : Nat) (fp : List Nat) (V : Fl) (r : DR) (wr : World) : Prop where
  dk : DkAt wr D fp V r
  t : Touch [] w wr
  f : ∀ b ∈ fp, w.heap.size ≤ b
structure LsS (w : World) (L D : Nat) (fp : List Nat) (s : LS) (wr : World) : Prop where
  ls : LsAt wr L D fp s
  t : Touch [] w wr
  f : ∀ b ∈ L :: fp, w.heap.size ≤ b
theorem DkS.touch0 {w wr w2 : World} {D : Nat} {fp : List Nat} {V : Fl} {r : DR} (h : DkS w D fp V r wr) (T : Touch [] wr w2) : DkS w D fp V r w2 := ⟨h.dk.step T (by simp), h.t.trans0 T, h.f⟩
theorem DkS.step {w wr w2 : World} {D : Nat} {fp : List Nat} {V V2 : Fl} {r r2 : DR} (h : DkS w D fp V r wr) (k : DkStep D fp V2 r2 wr w2) : ∃ fp2, DkS w D fp2 V2 r2 w2 ∧ Touch fp wr w2 ∧ ∀ b ∈ fp2, b ∈ fp ∨ wr.heap.size ≤ b := by
  obtain ⟨fp2, k1, k2, k3⟩ := k
  have hs := h.t.size
  refine ⟨fp2, ⟨k1, h.t.trans k2 (fun b hb => .inr (h.f b hb)), fun b hb => ?_⟩, k2, k3⟩
  rcases k3 b hb with e | e
  · exact h.f b e
  · omega
theorem LsS.touch0 {w wr w2 : World} {L D : Nat} {fp : List Nat} {s : LS} (h : LsS w L D fp s wr) (T : Touch [] wr w2) : LsS w L D fp s w2 := ⟨h.ls.touch0 T, h.t.trans0 T, h.f⟩
theorem LsS.step {w wr w2 : World} {L D : Nat} {fp : List Nat} {s s2 : LS} (h : LsS w L D fp s wr) (k : LsStep L D fp s2 wr w2) : ∃ fp2, LsS w L D fp2 s2 w2 ∧ Touch (L :: fp) wr w2 ∧ ∀ b ∈ fp2, b ∈ fp ∨ wr.heap.size ≤ b := by
  obtain ⟨fp2, k1, k2, k3⟩ := k
  have hs := h.t.size
  refine ⟨fp2, ⟨k1, h.t.trans k2 (fun b hb => .inr (h.f b hb)), fun b hb => ?_⟩, k2, k3⟩
  rcases List.mem_cons.1 hb with e | e
  · exact h.f b (by simp [e])
  · rcases k3 b e with e | e
    · exact h.f b (by simp [e])
    · omega
theorem LsS.dkS {w wr : World} {L D : Nat} {fp : List Nat} {s : LS} (h : LsS w L D fp s wr) : DkS w D fp s.V s.r wr := ⟨h.ls.dk, h.t, fun b hb => h.f b (by simp [hb])⟩
/-- a journal opened on a disk of the law's own: it, and what was found -/
def OpenS (B : SG) (j : LS) (D : Nat) (fp : List Nat) (w wr : World) (e : Ending) (w' : World) : Prop :=
  ∃ L fp' Ac cc Ag cg, e = .returned (.tuple #[.pointer (some ⟨L, 0, none⟩), .agg #[.slice Ac B.cp.length cc, .slice Ag B.gs.length cg], .int .i64 0]) ∧ LsS w L D fp' j w' ∧ Touch fp wr w' ∧ wr.heap.size ≤ L ∧ (∀ b ∈ fp', b ∈ fp ∨ wr.heap.size ≤ b) ∧
    RdB w' Ac B.cp ∧ B.cp.length ≤ cc ∧ (0 < B.cp.length → ∀ x ∈ fpo Ac, wr.heap.size ≤ x ∧ x ∉ L :: fp') ∧ GsD (fun x => wr.heap.size ≤ x ∧ x ∉ L :: fp') w' Ag B.gs
theorem open_s (D : Nat) (fp : List Nat) (V : Fl) (r : DR) (w wr : World) (h : DkS w D fp V r wr) (hf : HalfAt w) (hdn : r.down = false) (hl0 : (V.getD 0 ([], 0)).1.length ≤ 900000000) (hl1 : (V.getD 1 ([], 0)).1.length ≤ 900000000)
    (hdone : r.done + 5 ≤ 1073741824) (j : LS) (hj : lOpen V r = (0, j)) (B : SG) (hB : bestS V = B) :
    Calls Tryd.prog 11 #[.pointer (some ⟨D, 0, none⟩)] wr fun e w' => OpenS B j D fp w wr e w' := by
  refine (open_j D fp V r wr h.dk (hf.touch h.t (by simp)) (fun hm => by have := h.f _ hm; have := hf.lt; omega) hdn hl0 hl1 hdone j hj B hB).mono ?_
  rintro e w' ⟨L, fp', Ac, cc, Ag, cg, h1, h2, h3, h4, h5, h6, h7, h8, h9⟩
  have hs := h.t.size
  refine ⟨L, fp', Ac, cc, Ag, cg, h1, ⟨h2, h.t.trans h3 (fun b hb => .inr (h.f b hb)), fun b hb => ?_⟩, h3, h5, h4, h6, h7, h8, h9⟩
  rcases List.mem_cons.1 hb with e | e
  · omega
  · rcases h4 b e with e | e
    · exact h.f b e
    · omega
theorem segV_zero {ls : List (List UInt8)} (h : (segV ls).gen = 0) : segV ls = ⟨0, [], [], 0⟩ := by
  rcases ls with _ | ⟨f, fs⟩
  · rfl
  · rw [segV] at h ⊢
    split at h
    · rfl
    · rename_i g c hd
      simp only at h
      subst h
      unfold rdHd at hd
      split at hd
      · cases hd
      · split at hd
        · cases hd
        · split at hd
          · cases hd
          · split at hd
            · rename_i hx
              simp only [Option.some.injEq, Prod.mk.injEq] at hd
              omega
            · cases hd
theorem sgOf_take {b m : List UInt8} {ls : List (List UInt8)} (h : Steps b ls m) (hn : scan1 m = none) (hl : b.length ≤ 900000000) : (sgOf b).en ≤ b.length := by
  rw [sgOf_eq h hn]; exact (sg_bounds h hl).1
theorem grp_count (fs : List (List UInt8)) : (grpV fs).1.length ≤ fs.length ∧ ∀ g ∈ (grpV fs).1, ∃ f ∈ fs, rdGp f = some g := by
  induction fs with
  | nil => simp [grpV]
  | cons f fs ih =>
    rw [grpV]
    split
    · simp
    · rename_i ss hg
      simp only [List.length_cons]
      refine ⟨by have := ih.1; omega, fun g hm => ?_⟩
      rcases List.mem_cons.1 hm with rfl | hm
      · exact ⟨f, by simp, hg⟩
      · obtain ⟨f', h1, h2⟩ := ih.2 g hm
        exact ⟨f', by simp [h1], h2⟩
theorem rdGp_len {f : List UInt8} {ss : List (List UInt8)} (h : rdGp f = some ss) : ss.length ≤ f.length := by
  unfold rdGp at h
  split at h
  · cases h
  · rename_i k l1 hI
    split at h
    · split at h
      · cases h
      · rename_i n l2 hJ
        split at h
        · cases h
        · split at h
          · cases h
          · rename_i ss2 r hT
            split at h
            · simp only [Option.some.injEq] at h
              subst h
              have h1 := (rdTs_len hT)
              have h2 := (rdI_rest hI).1
              have h3 := (rdI_rest hJ).1
              omega
            · cases h
    · cases h
theorem segV_counts {b m : List UInt8} {ls : List (List UInt8)} (h : Steps b ls m) (hl : b.length ≤ 900000000) : (segV ls).gs.length ≤ b.length ∧ (∀ g ∈ (segV ls).gs, g.length ≤ b.length) ∧ (segV ls).cp.length ≤ b.length := by
  have hb := congrArg List.length (h.bytes hl)
  rw [List.length_append] at hb
  have hll := len_le_sum ls
  rcases ls with _ | ⟨f, fs⟩
  · simp [segV]
  · have hf := mem_le_sum (f :: fs) 0 (by simp)
    rw [segV]
    split
    · simp
    · rename_i g c hd
      simp only
      obtain ⟨h1, h2⟩ := grp_count fs
      simp only [List.length_cons] at hll
      refine ⟨by omega, fun g' hm => ?_, ?_⟩
      · obtain ⟨f', hf', hg⟩ := h2 g' hm
        have k1 := rdGp_len hg
        obtain ⟨i, hi, rfl⟩ := List.getElem_of_mem hf'
        have k2 := mem_le_sum (f :: fs) (i + 1) (by simpa using hi)
        simp only [List.getElem_cons_succ] at k2
        omega
      · simp only [List.getElem_cons_zero] at hf
        unfold rdHd at hd
        split at hd
        · cases hd
        · rename_i hI
          split at hd
          · cases hd
          · rename_i hJ
            split at hd
            · cases hd
            · rename_i hT
              split at hd
              · simp only [Option.some.injEq, Prod.mk.injEq] at hd
                obtain ⟨_, rfl⟩ := hd
                have k1 := (rdI_rest hI).1
                have k2 := (rdI_rest hJ).1
                have k3 := rdT_less hT
                omega
              · cases hd
end Go.Proofs.YtlcpljpeljoboaaDoor

/- A script of a journal's calls as the memory holds it; bywashlaw08.small. -/
namespace Go.Proofs.YtlcpljpeljoboaaDoor
open Go.RowKit

/-- one call of a script -/
structure OpG where
  kind : Int
  n : Int
  dA : Option Addr
  dc : Nat
  data : List UInt8
  rA : Option Addr
  rc : Nat
  recs : List (List UInt8)
  kA : Option Addr
  kc : Nat
  keep : List Int
def I64 (n : Int) : Prop := -9223372036854775808 ≤ n ∧ n ≤ 9223372036854775807
structure OpG.ok (w : World) (b off : Nat) (o : OpG) : Prop where
  c0 : w.cell? ⟨b, off, none⟩ = some (.int .i64 o.kind)
  c1 : w.cell? ⟨b, off + 1, none⟩ = some (.int .i64 o.n)
  c2 : w.cell? ⟨b, off + 2, none⟩ = some (.slice o.dA o.data.length o.dc)
  c3 : w.cell? ⟨b, off + 3, none⟩ = some (.slice o.rA o.recs.length o.rc)
  c4 : w.cell? ⟨b, off + 4, none⟩ = some (.slice o.kA o.keep.length o.kc)
  rd : RdB w o.dA o.data
  rr : BsAt w o.rA o.recs
  rk : RdI w o.kA o.keep
  bk : I64 o.kind
  bn : I64 o.n
  bks : ∀ k ∈ o.keep, -9223372036854775808 ≤ k ∧ k ≤ 9223372036854775807
  dl : o.data.length ≤ 9223372036854775807
  rl : o.recs.length ≤ 9223372036854775807
  kl : o.keep.length ≤ 9223372036854775807
  rel : ∀ r ∈ o.recs, r.length ≤ 9223372036854775807
def OpsG (w : World) (A : Option Addr) (l : List OpG) : Prop := ∀ i, (h : i < l.length) → ∃ a b off, A = some a ∧ a.add (i * 5) = ⟨b, off, none⟩ ∧ l[i].ok w b off
theorem OpG.ok.touch0 {w w' : World} {b off : Nat} {o : OpG} (h : o.ok w b off) (T : Touch [] w w') : o.ok w' b off :=
  ⟨T.cell h.c0 (by simp), T.cell h.c1 (by simp), T.cell h.c2 (by simp), T.cell h.c3 (by simp), T.cell h.c4 (by simp), Rd.touch0 h.rd T, h.rr.touch0 T, Rd.touch0 h.rk T, h.bk, h.bn, h.bks, h.dl, h.rl, h.kl, h.rel⟩
theorem OpsG.touch0 {w w' : World} {A : Option Addr} {l : List OpG} (h : OpsG w A l) (T : Touch [] w w') : OpsG w' A l := fun i hi => by
  obtain ⟨a, b, off, e, e2, ho⟩ := h i hi
  exact ⟨a, b, off, e, e2, ho.touch0 T⟩

def smallG (o : OpG) : Bool := decide (o.data.length ≤ 300) && decide (o.recs.length ≤ 8) && decide (o.keep.length ≤ 20) && o.recs.all fun r => decide (r.length ≤ 200)
structure SmG (o : OpG) : Prop where
  d : o.data.length ≤ 300
  r : o.recs.length ≤ 8
  k : o.keep.length ≤ 20
  e : (encR o.recs).length ≤ 1700
  x : ∀ r ∈ o.recs, r.length ≤ 200
theorem encR_bound (recs : List (List UInt8)) (h : ∀ r ∈ recs, r.length ≤ 200) : (encR recs).length ≤ 210 * recs.length := by
  induction recs with
  | nil => simp [encR]
  | cons x xs ih =>
    have e : encR (x :: xs) = encT (S x) ++ encR xs := by unfold encR; rw [List.flatMap_cons]
    rw [e, List.length_append, encT_length, S_size, List.length_cons]
    have := encI_length (x.length : Int)
    have := h x (by simp)
    have := ih (fun r hr => h r (by simp [hr]))
    omega
theorem smallG_iff {o : OpG} (h : smallG o = true) : SmG o := by
  simp only [smallG, Bool.and_eq_true, decide_eq_true_eq, List.all_eq_true] at h
  obtain ⟨⟨⟨h1, h2⟩, h3⟩, h4⟩ := h
  have := encR_bound o.recs h4
  exact ⟨h1, h2, h3, by omega, h4⟩

set_option maxRecDepth 20000 in
set_option maxHeartbeats 3200000 in
theorem small8_any (A : Option Addr) (c : Nat) (l : List OpG) (m : Int) (w : World) (h : OpsG w A l) (hl : l.length ≤ 9223372036854775807) :
    Calls Tryd.prog 20 #[.slice A l.length c, .int .i64 m] w fun e w' => e = .returned (.bool (l.all smallG && decide ((l.length : Int) ≤ m))) ∧ Touch [] w w' := by
  go_enter Tryd.func20, Tryd.ntmps20
  go_wp2
  go_loopw [11] (fun i wr => ∃ k : Nat, k ≤ l.length ∧ i = .int .i64 k ∧ (l.take k).all smallG = true ∧ Touch [] w wr) (fun i _ => l.length - (intOf i).toNat)
  case atStart => exact ⟨0, by omega, rfl, by simp, Touch.refl _ _⟩
  case round =>
    obtain ⟨k, hk, rfl, hall, ht⟩ := hrel
    have Hall := Lib.hid hall; clear hall
    by_cases hlt : k < l.length
    · obtain ⟨ad, b, off, rfl, hadd, ho⟩ := h.touch0 ht k hlt
      obtain ⟨o, hoe⟩ : ∃ o, o = l[k] := ⟨_, rfl⟩
      rw [← hoe] at ho
      have Hoe := Lib.hid hoe; clear hoe
      have c0 := ho.c0
      have c1 := ho.c1
      have c2 := ho.c2
      have c3 := ho.c3
      have c4 := ho.c4
      have dl := ho.dl
      have rl := ho.rl
      have kl := ho.kl
      have Hrr := Lib.hid ho.rr
      have Hrel := Lib.hid ho.rel
      clear ho h
      have hbad : ¬ smallG o = true → (l.all smallG && decide ((l.length : Int) ≤ m)) = false := fun hb => by
        have : ¬ l.all smallG = true := fun ha => hb (by rw [Hoe.out]; exact List.all_eq_true.1 ha _ (List.getElem_mem hlt))
        simp only [Bool.not_eq_true] at this
        rw [this]; rfl
      have Hbad := Lib.hid hbad; clear hbad
      by_cases h1 : 300 < o.data.length
      · go_wp2
        go_ret
        exact ⟨ret_bool (Hbad.out (fun hs => by have := (smallG_iff hs).d; omega)).symm, ht.alloc _⟩
      by_cases h2 : 8 < o.recs.length
      · go_wp2
        go_ret
        exact ⟨ret_bool (Hbad.out (fun hs => by have := (smallG_iff hs).r; omega)).symm, ht.alloc _⟩
      by_cases h3 : 20 < o.keep.length
      · go_wp2
        go_ret
        exact ⟨ret_bool (Hbad.out (fun hs => by have := (smallG_iff hs).k; omega)).symm, ht.alloc _⟩
      have ta := ht.alloc (.cells #[.int .i64 o.kind, .int .i64 o.n, .slice o.dA o.data.length o.dc, .slice o.rA o.recs.length o.rc, .slice o.kA o.keep.length o.kc] 52)
      have Hra := Lib.hid (Hrr.out.touch0 ((Touch.refl [] wr).alloc (.cells #[.int .i64 o.kind, .int .i64 o.n, .slice o.dA o.data.length o.dc, .slice o.rA o.recs.length o.rc, .slice o.kA o.keep.length o.kc] 52)))
      go_wp2_with fail
      obtain ⟨W, hW⟩ : ∃ W, W = wr.alloc (.cells #[.int .i64 o.kind, .int .i64 o.n, .slice o.dA o.data.length o.dc, .slice o.rA o.recs.length o.rc, .slice o.kA o.keep.length o.kc] 52) := ⟨_, rfl⟩
      rw [← hW] at ta Hra ⊢
      clear hW
      go_loopw [34] (fun i wx => ∃ j : Nat, j ≤ o.recs.length ∧ i = .int .i64 j ∧ (∀ q, (hq : q < o.recs.length) → q < j → (o.recs[q]).length ≤ 200) ∧ Touch [] W wx) (fun i _ => o.recs.length - (intOf i).toNat)
      case atStart => exact ⟨0, by omega, rfl, by simp, Touch.refl _ _⟩
      case round =>
        obtain ⟨j, hj, rfl, hsm, tx⟩ := hrel
        have Hsm := Lib.hid hsm; clear hsm
        by_cases hjl : j < o.recs.length
        · obtain ⟨a2, A2, cc2, hra, hcell, -, -⟩ := (Hra.out.touch0 tx).at_ j hjl
          have hrl := Hrel.out _ (List.getElem_mem hjl)
          have hjI : ((j : Int) < (o.recs.length : Int)) := by omega
          obtain ⟨q, hq⟩ : ∃ q, q = (o.recs[j]).length := ⟨_, rfl⟩
          rw [← hq] at hcell hrl
          have Hq := Lib.hid hq
          clear hq
          by_cases h4 : 200 < q
          · go_wp2
            go_ret
            exact ⟨ret_bool (Hbad.out (fun hs => by have := (smallG_iff hs).x _ (List.getElem_mem hjl); have := Hq.out; omega)).symm, ta.trans0 tx⟩
          · go_wp2
            go_roundw
            case rel => exact ⟨j + 1, by omega, by go_num, fun q' hq' hlt' => by
              by_cases e : q' = j
              · subst e; have := Hq.out; omega
              · exact Hsm.out q' hq' (by omega), tx⟩
            case measure => simp [intOf]; omega
        · obtain rfl : j = o.recs.length := by omega
          have hjI : ¬ ((o.recs.length : Int) < (o.recs.length : Int)) := by omega
          have hgood := Lib.hid (show smallG o = true by
            simp only [smallG, Bool.and_eq_true, decide_eq_true_eq, List.all_eq_true]
            refine ⟨⟨⟨by omega, by omega⟩, by omega⟩, fun r hr => ?_⟩
            obtain ⟨q, hq, rfl⟩ := List.getElem_of_mem hr
            exact Hsm.out q hq hq)
          go_wp2
          go_roundw
          case rel => exact ⟨k + 1, by omega, by go_num, by
            rw [List.take_succ_eq_append_getElem hlt, List.all_append, Hall.out, ← Hoe.out]
            simp [hgood.out], ta.trans0 tx⟩
          case measure => simp [intOf]; omega
    · obtain rfl : k = l.length := by omega
      have hall := Hall.out
      rw [List.take_length] at hall
      have Hall2 := Lib.hid hall; clear hall Hall
      go_wp2
      go_ret
      exact ⟨ret_bool (by rw [Hall2.out, Bool.true_and]), ht⟩
end Go.Proofs.YtlcpljpeljoboaaDoor

/- What SegmentPlays carries through its rounds: the journal, and what the law keeps of it. No program's function. -/
namespace Go.Proofs.YtlcpljpeljoboaaDoor
open Go.RowKit

theorem OwnB.of_row {w : World} {base : Nat} {v : Value} {n : Nat} {l : List UInt8} (hn : l.length = n) (h0 : 0 < n) (h : w.ownsRow base 5 1 v n (l.map B)) : ∃ g c, v = .slice (some ⟨g, 0, none⟩) n c ∧ base ≤ g ∧ OwnB w (some ⟨g, 0, none⟩) c l := by
  subst hn
  rcases h.2 with ⟨_, h0'⟩ | ⟨g, cap, cur, rfl, hb, hg, hnc, hm, hs, ht⟩
  · omega
  · exact ⟨g, cap, rfl, hb, h.1, .inr ⟨g, cap, cur, rfl, Nat.zero_le _, hg, hnc, hm, hs, ht⟩⟩
set_option maxRecDepth 20000 in
/-- append behind a slice without room: a new row -/
theorem wpList_appF {w : World} {ops : Array Oper} {rest : List Oper} {o : Oper} {a : Act} {Q : Exit → Act → World → Prop} (hgd : o.guard = none) (s x : Operand)
    (ho : o.op = .call { callee := .builtin .append, args := #[s, x], argTypes := #[22, 22] })
    (A0 : Option Addr) (n : Nat) (l : List UInt8) (hn : l.length = n) (hn0 : 0 < n) (hs : a.eval s = .slice A0 n n) (hr0 : RdB w A0 l)
    (Ax : Option Addr) (m cx : Nat) (b : List UInt8) (hm : b.length = m) (hm0 : 0 < m) (hx : a.eval x = .slice Ax m cx) (hr : RdB w Ax b) (hbytes : n + m ≤ 2000000000)
    (h : ∀ A' c' w', OwnB w' A' c' (l ++ b) → Touch [] w w' → (∀ b ∈ fpo A', w.heap.size ≤ b) → wpList Tryd.prog ops Q rest (a.put o.dst (.slice A' (n + m) c')) w') :
    wpList Tryd.prog ops Q (o :: rest) a w := by
  obtain ⟨i0, hi0, hz0, hz1, hz2⟩ := info_parts info_u8
  obtain ⟨ad0, rfl, hc0⟩ := hr0 (by simp; omega)
  obtain ⟨ad, rfl, hc⟩ := hr (by simp; omega)
  refine wpList_append_grows w hgd s x _ ho 5 i0 _ 1 1 Tryd.underlying22 hi0 hz0 hz1 hz2 rfl (by omega) (some ad0) n n (l.map B) hs (by simp) (by simp [hn]) (fun b e j u hu => by injection e with e; subst e; exact hc0 j u hu)
    ad m cx (b.map B) hx (by simp [hm]) hc (oneCell_B b) (by omega) (by simp only [maxLen]; omega) (by omega) ?_
  intro v' w' hrow hgr
  rw [← List.map_append] at hrow
  obtain ⟨g, c, rfl, hg, hown⟩ := OwnB.of_row (by simp [hn, hm]) (by omega) hrow
  exact h _ c w' hown (Touch.of_grown hgr) (fun b hb => by have : b = g := by simpa [fpo] using hb
                                                           omega)

/-- what the law keeps: the bytes, the groups, the checkpoint -/
structure PlMem (w : World) (L : Nat) (fp : List Nat) (A9 : Option Addr) (cp : List UInt8) (A10 : Option Addr) (c10 : Nat) (gs : List (List (List UInt8))) (A13 : Option Addr) (c13 : Nat) (F : List UInt8) (wr : World) : Prop where
  o13 : OwnB wr A13 c13 F
  a13 : ∀ b ∈ fpo A13, w.heap.size ≤ b ∧ b ∉ L :: fp
  o10 : OwnGs (fun b => b < w.heap.size) wr A10 c10 gs
  a10 : ∀ b ∈ fpo A10, w.heap.size ≤ b ∧ b ∉ L :: fp
  r9 : RdB wr A9 cp
  a9 : 0 < cp.length → ∀ b ∈ fpo A9, w.heap.size ≤ b ∧ b ∉ L :: fp
  d1 : ∀ b ∈ fpo A13, b ∉ fpo A10
  d2 : 0 < cp.length → ∀ b ∈ fpo A9, b ∉ fpo A10
section
variable {w wr w2 : World} {L : Nat} {fp fp2 : List Nat} {A9 : Option Addr} {cp : List UInt8} {A10 : Option Addr} {c10 : Nat} {gs : List (List (List UInt8))} {A13 : Option Addr} {c13 : Nat} {F : List UInt8}
theorem PlMem.step (h : PlMem w L fp A9 cp A10 c10 gs A13 c13 F wr) (hL : ∀ b ∈ L :: fp, w.heap.size ≤ b) (hl : L < wr.heap.size) (T : Touch (L :: fp) wr w2) (hF : ∀ b ∈ fp2, b ∈ fp ∨ wr.heap.size ≤ b) : PlMem w L fp2 A9 cp A10 c10 gs A13 c13 F w2 := by
  have key : ∀ A : Option Addr, (∀ b ∈ fpo A, w.heap.size ≤ b ∧ b ∉ L :: fp) → (∀ b ∈ fpo A, b < wr.heap.size) → ∀ b ∈ fpo A, w.heap.size ≤ b ∧ b ∉ L :: fp2 := fun A h1 h2 b hb => by
    refine ⟨(h1 b hb).1, fun hm => ?_⟩
    rcases List.mem_cons.1 hm with e | e
    · exact (h1 b hb).2 (by simp [e])
    · rcases hF b e with e | e
      · exact (h1 b hb).2 (by simp [e])
      · have := h2 b hb; omega
  refine ⟨h.o13.touch T (fun b hb => (h.a13 b hb).2), key _ h.a13 h.o13.lt, h.o10.touch T (fun b hb => (h.a10 b hb).2) (fun b hd _ hm => by have := hL b hm; omega), key _ h.a10 h.o10.lt, h.r9.touch1 T (fun h0 b hb => (h.a9 h0 b hb).2), fun h0 => ?_, h.d1, h.d2⟩
  exact key _ (h.a9 h0) (Rd.lt h.r9 (by simpa using h0))
theorem PlMem.touch0 (h : PlMem w L fp A9 cp A10 c10 gs A13 c13 F wr) (T : Touch [] wr w2) : PlMem w L fp A9 cp A10 c10 gs A13 c13 F w2 :=
  ⟨h.o13.touch0 T, h.a13, h.o10.touch0 T, h.a10, Rd.touch0 h.r9 T, h.a9, h.d1, h.d2⟩
theorem OwnGs.weak {D D' : Nat → Prop} {w : World} {A : Option Addr} {c : Nat} {gs : List (List (List UInt8))} (h : OwnGs D w A c gs) (hD : ∀ b, D b → D' b) : OwnGs D' w A c gs := by
  obtain ⟨vs, h1, h2, h3⟩ := h.ex
  refine ⟨vs, h1, h2, fun j hj => ?_⟩
  obtain ⟨A', c', k1, k2⟩ := h3 j hj
  exact ⟨A', c', k1, k2.mono (fun b _ hb => ⟨hD b hb.1, hb.2⟩)⟩
theorem PlMem.gsD (h : PlMem w L fp A9 cp A10 c10 gs A13 c13 F wr) : GsD (fun _ => True) wr A10 gs := (h.o10.weak (D' := fun _ => True) (fun _ _ => trivial)).gsD (fun _ _ => trivial)
end
/-- records that came in lie in old blocks -/
theorem BsAt.old {w : World} {A : Option Addr} {ls : List (List UInt8)} (h : BsAt w A ls) : BsD (fun b => b < w.heap.size) w A ls := by
  intro h0
  obtain ⟨ad, e, h1⟩ := h h0
  obtain ⟨A0, c0, k0, -, -⟩ := h1 0 h0
  have hlt := World.block_lt_of_cell? w _ k0
  rw [block_of_add] at hlt
  refine ⟨ad, e, hlt, fun j hj => ?_⟩
  obtain ⟨A', c', k1, k2, k3⟩ := h1 j hj
  exact ⟨A', c', k1, k2, k3, fun he b hb => Rd.lt k2 (by simpa using he) b hb⟩
theorem LsAt.touch {w w' : World} {L g : Nat} {fp fpx : List Nat} {s : LS} (h : LsAt w L g fp s) (T : Touch fpx w w') (hn : ∀ b ∈ L :: fp, b ∉ fpx) (hh : 0 ∉ fpx) : LsAt w' L g fp s :=
  ⟨T.blk h.lg (hn L (by simp)), h.dk.step T (fun b hb => hn b (by simp [hb])), h.ap, h.hf.touch T hh, h.nh, h.nl⟩
theorem LsAt.lts {w : World} {L g : Nat} {fp : List Nat} {s : LS} (h : LsAt w L g fp s) : ∀ b ∈ L :: fp, b < w.heap.size := fun b hb => by
  rcases List.mem_cons.1 hb with e | e
  · subst e; exact h.lt
  · exact h.dk.lt b e
section
variable {w w2 w3 w3' w4 : World} {L D : Nat} {fp : List Nat} {s : LS} {A9 : Option Addr} {cp : List UInt8} {A10 A10' : Option Addr} {c10 c10' : Nat} {gs gs' : List (List (List UInt8))} {A13 A13' : Option Addr} {c13 c13' : Nat} {F F' : List UInt8}
/-- the bytes and the groups have grown -/
theorem PlMem.grow (hl : LsS w L D fp s w2) (hh : HalfAt w) (h : PlMem w L fp A9 cp A10 c10 gs A13 c13 F w2) (T3 : Touch [] w2 w3) (o13' : OwnB w3 A13' c13' F') (f13 : ∀ b ∈ fpo A13', w2.heap.size ≤ b) (T3' : Touch [] w3 w3')
    (o10' : OwnGs (fun b => b < w.heap.size) w4 A10' c10' gs') (T4 : Touch (fpo A10) w3' w4) (f10 : ∀ b ∈ fpo A10', b ∈ fpo A10 ∨ b = w3'.heap.size) :
    PlMem w L fp A9 cp A10' c10' gs' A13' c13' F' w4 ∧ LsS w L D fp s w4 := by
  have hs := hl.t.size
  have hs3 := T3.size
  have hs3' := T3'.size
  have hlt := hl.ls.lts
  have h10 := h.o10.lt
  have l13 := o13'.lt
  refine ⟨⟨(o13'.touch0 T3').touch T4 (fun b hb hm => ?_), fun b hb => ⟨?_, fun hm => ?_⟩, o10', fun b hb => ?_, RdB.touch1 (Rd.touch0 h.r9 (T3.trans0 T3')) T4 (fun h0 b hb => h.d2 h0 b hb), h.a9, fun b hb hm => ?_, fun h0 b hb hm => ?_⟩,
    ⟨(hl.ls.touch0 (T3.trans0 T3')).touch T4 (fun b hb hm => (h.a10 b hm).2 hb) (fun hm => ?_), (hl.t.trans0 (T3.trans0 T3')).trans T4 (fun b hb => .inr (h.a10 b hb).1), hl.f⟩⟩
  · have := f13 b hb; have := h10 b hm; omega
  · have := f13 b hb; omega
  · have := f13 b hb; have := hlt b hm; omega
  · rcases f10 b hb with e | e
    · exact h.a10 b e
    · refine ⟨by omega, fun hm => ?_⟩
      have := hlt b hm; omega
  · rcases f10 b hm with e | e
    · have := f13 b hb; have := h10 b e; omega
    · have := l13 b hb; omega
  · rcases f10 b hm with e | e
    · exact h.d2 h0 b hb e
    · have := Rd.lt h.r9 (by simpa using h0) b hb; omega
  · have := (h.a10 _ hm).1; have := hh.lt; omega
end

structure PS where
  fp : List Nat
  K : Nat
  gen : Nat
  cp : List UInt8
  gs : List (List (List UInt8))
  sf : Nat
  r : DR
  lo : Bool
  A9 : Option Addr
  c9 : Nat
  A10 : Option Addr
  c10 : Nat
  A13 : Option Addr
  c13 : Nat
def PS.V (p : PS) (v9 v10 v11 v12 v13 v14 : Value) : Prop := v9 = .slice p.A9 p.cp.length p.c9 ∧ v10 = .slice p.A10 p.gs.length p.c10 ∧ v11 = .int .i64 p.gen ∧ v12 = .int .i64 p.K ∧ v13 = .slice p.A13 (fileB p.gen p.cp p.gs).length p.c13 ∧ v14 = .bool p.lo
structure PlOk (w : World) (L D k : Nat) (p : PS) (wr : World) : Prop where
  ls : LsS w L D p.fp (jS p.K p.gen p.cp p.gs p.sf p.r p.lo) wr
  mem : PlMem w L p.fp p.A9 p.cp p.A10 p.c10 p.gs p.A13 p.c13 (fileB p.gen p.cp p.gs) wr
  calm : Calm p.r
  kk : p.K < 2
  g1 : 1 ≤ p.gen
  g2 : p.gen ≤ 1 + k
  sfl : p.sf ≤ (fileB p.gen p.cp p.gs).length
  gok : gsOk p.gs
  cpl : p.cp.length ≤ 300
  len : (fileB p.gen p.cp p.gs).length ≤ 400 + 2100 * k
  dn : p.r.done ≤ 10 + 10 * k
  cap : 0 ≤ p.r.cap ∧ p.r.cap ≤ 1073741824
  gl : p.gs.length ≤ k
  gr : ∀ g ∈ p.gs, g.length ≤ 8
section
variable {w wr w2 : World} {L D k : Nat} {p : PS}
theorem PlOk.stay (P : PlOk w L D k p wr) (T : Touch [] wr w2) : PlOk w L D (k + 1) p w2 :=
  ⟨P.ls.touch0 T, P.mem.touch0 T, P.calm, P.kk, P.g1, by have := P.g2; omega, P.sfl, P.gok, P.cpl, by have := P.len; omega, by have := P.dn; omega, P.cap, by have := P.gl; omega, P.gr⟩
theorem PlOk.touch0 (P : PlOk w L D k p wr) (T : Touch [] wr w2) : PlOk w L D k p w2 :=
  ⟨P.ls.touch0 T, P.mem.touch0 T, P.calm, P.kk, P.g1, P.g2, P.sfl, P.gok, P.cpl, P.len, P.dn, P.cap, P.gl, P.gr⟩
theorem PlOk.upd (P : PlOk w L D k p wr) {sf2 : Nat} {r2 : DR} {lo2 : Bool} (h : LsStep L D p.fp (jS p.K p.gen p.cp p.gs sf2 r2 lo2) wr w2) (hc : Calm r2) (hs : sf2 ≤ (fileB p.gen p.cp p.gs).length) (hd : r2.done ≤ p.r.done + 10) (hcap : 0 ≤ r2.cap ∧ r2.cap ≤ 1073741824) :
    ∃ fp2, PlOk w L D (k + 1) { p with fp := fp2, sf := sf2, r := r2, lo := lo2 } w2 := by
  obtain ⟨fp2, h1, h2, h3⟩ := P.ls.step h
  exact ⟨fp2, ⟨h1, P.mem.step P.ls.f P.ls.ls.lt h2 h3, hc, P.kk, P.g1, by have := P.g2; simp only; omega, hs, P.gok, P.cpl, by have := P.len; simp only; omega, by have := P.dn; simp only; omega, hcap, by have := P.gl; simp only; omega, P.gr⟩⟩
end
end Go.Proofs.YtlcpljpeljoboaaDoor

/- What may be found behind a crash: a journal and the law's own account of it, step by step. Plain. -/
namespace Go.Proofs.YtlcpljpeljoboaaDoor
open Go.RowKit

theorem cmd_cases (r : DR) : (cmdE r = 0 ∧ (cmdR r).down = r.down) ∨ cmdE r = 40 := by
  unfold cmdE cmdR
  by_cases h : r.left = 0
  · right; rw [if_pos h]
  · left; rw [if_neg h, if_neg h]; exact ⟨rfl, rfl⟩
theorem cmd_cap (r : DR) : (cmdR r).cap = r.cap := by unfold cmdR; split <;> rfl
theorem check_up {r : DR} (h : r.down = false) {k : Nat} (hk : k < 4) : checkI r.down k = 0 := by
  simp only [checkI, h]; simp; omega
theorem pApp_up {k : Nat} (hk : k < 2) {r : DR} (h : r.down = false) (x y : List UInt8 × Nat) (b : List UInt8) (hf : (b.length : Int) ≤ r.cap - (x.1.length + y.1.length : Nat)) : pApp (mkV k x y) r k b = (cmdE r, mkV k (x.1 ++ b, x.2) y, cmdR r) := by
  unfold pApp
  rw [if_neg (by simpa using check_up h (k := k) (by omega)), mkV_used, if_neg (by omega), Int.toNat_natCast, mkV_get hk, mkV_set hk]
theorem pSync_up {k : Nat} (hk : k < 2) {r : DR} (h : r.down = false) (x y : List UInt8 × Nat) : pSync (mkV k x y) r k = (cmdE r, if cmdE r = 0 then mkV k (x.1, x.1.length) y else mkV k x y, cmdR r) := by
  unfold pSync
  rw [if_neg (by simpa using check_up h (k := k) (by omega)), Int.toNat_natCast, mkV_get hk, mkV_set hk]
theorem pCut_up {k : Nat} (hk : k < 2) {r : DR} (h : r.down = false) (x y : List UInt8 × Nat) : pCut (mkV k x y) r k 0 = (cmdE r, if cmdE r = 0 then mkV k ([], 0) y else mkV k x y, cmdR r) := by
  unfold pCut
  rw [if_neg (by simpa using check_up h (k := k) (by omega)), Int.toNat_natCast, mkV_get hk, if_neg (by omega)]
  simp only [Int.toNat_zero, List.take_zero]
  rw [mkV_set hk]

theorem hd_le_file' (g : Nat) (cp : List UInt8) (gs : List (List (List UInt8))) : 0 < (hdB g cp).length ∧ (hdB g cp).length ≤ (fileB g cp gs).length := ⟨hdB_pos g cp, by unfold fileB; rw [List.length_append]; omega⟩
/-- the law's account: what may be found -/
structure GH where
  cp : List UInt8
  gs : List (List (List UInt8))
  sure : Nat
  next : Option (List UInt8)
  down : Bool
structure Inv (k : Nat) (s : LS) (g : GH) : Prop where
  st : (g.down = false ∧ g.next = none ∧ ∃ K gen sf r lo, s = jS K gen g.cp g.gs sf r lo ∧ K < 2 ∧ 1 ≤ gen ∧ gen ≤ 1 + k ∧ r.down = false ∧ (fileB gen g.cp (g.gs.take g.sure)).length ≤ sf ∧ sf ≤ (fileB gen g.cp g.gs).length ∧ (lo = false → sf = (fileB gen g.cp g.gs).length) ∧ (fileB gen g.cp g.gs).length ≤ 400 + 2100 * k) ∨
    (g.down = true ∧ s.l.down = true ∧ ∃ K gen sf y, s.V = mkV K (fileB gen g.cp g.gs, sf) y ∧ K < 2 ∧ 1 ≤ gen ∧ gen ≤ 1 + k ∧ (fileB gen g.cp (g.gs.take g.sure)).length ≤ sf ∧ sf ≤ (fileB gen g.cp g.gs).length ∧ (fileB gen g.cp g.gs).length ≤ 400 + 2100 * k ∧
      ((y = ([], 0) ∧ g.next = none) ∨ ∃ cp2 sy, g.next = some cp2 ∧ y = (hdB (gen + 1 : Nat) cp2, sy) ∧ sy ≤ (hdB (gen + 1 : Nat) cp2).length ∧ cp2.length ≤ 300))
  su : g.sure ≤ g.gs.length
  gok : gsOk g.gs
  cpl : g.cp.length ≤ 300
  dn : s.r.done ≤ 10 + 10 * k
  cap : s.r.cap = 1048576
  gl : g.gs.length ≤ k
  gr : ∀ x ∈ g.gs, x.length ≤ 8
  fl : s.l.file < 2
  gb : s.l.gen ≤ 2 + k
theorem Inv.succ {k : Nat} {s : LS} {g : GH} (h : Inv k s g) : Inv (k + 1) s g := by
  refine ⟨?_, h.su, h.gok, h.cpl, by have := h.dn; omega, h.cap, by have := h.gl; omega, h.gr, h.fl, by have := h.gb; omega⟩
  rcases h.st with ⟨a, b, K, gen, sf, r, lo, c1, c2, c3, c4, c5, c6, c7, c8, c9⟩ | ⟨a, b, K, gen, sf, y, c1, c2, c3, c4, c5, c6, c7, c8⟩
  · exact .inl ⟨a, b, K, gen, sf, r, lo, c1, c2, c3, by omega, c5, c6, c7, c8, by omega⟩
  · exact .inr ⟨a, b, K, gen, sf, y, c1, c2, c3, by omega, c5, c6, by omega, c8⟩
theorem fits_take (g : Nat) (cp : List UInt8) (gs : List (List (List UInt8))) (x : List (List UInt8)) (i : Nat) (h : i ≤ gs.length) : (gs ++ [x]).take i = gs.take i := by
  rw [List.take_append_of_le_length h]
theorem gsOk.add {gs : List (List (List UInt8))} (h : gsOk gs) {x : List (List UInt8)} (h1 : x.length ≤ 8) (h2 : (encR x).length ≤ 1700) : gsOk (gs ++ [x]) := fun r hr => by
  rcases List.mem_append.1 hr with e | e
  · exact h r e
  · obtain rfl : r = x := by simpa using e
    exact ⟨by omega, by omega⟩

/-- a group more -/
theorem inv_app {k : Nat} {s : LS} {g : GH} (h : Inv k s g) (hd : g.down = false) {recs : List (List UInt8)} (hr0 : recs.length ≠ 0) (hr : recs.length ≤ 8) (he : (encR recs).length ≤ 1700) (hk : k ≤ 40) :
    ∃ e s2, lApp s recs = (e, s2) ∧ (e = 0 ∨ e = 40) ∧ Inv (k + 1) s2 { g with gs := g.gs ++ [recs], down := decide (e = 40) } ∧ s2.r.done ≤ s.r.done + 1 := by
  have hm := gpB_len recs
  rcases h.st with ⟨_, hn, K, gen, sf, r, lo, rfl, hK, g1, g2, hrd, h1, h2, h3, h4⟩ | ⟨a, _⟩
  · have hcap : r.cap = 1048576 := h.cap
    have hdn : r.done ≤ 10 + 10 * k := h.dn
    have e := pApp_up hK hrd (fileB gen g.cp g.gs, sf) ([], 0) (gpB recs) (by rw [hcap]; simp; omega)
    have est := lApp_step (s := jS K gen g.cp g.gs sf r lo) rfl hr0 e.symm
    simp only at est
    have el : (fileB gen g.cp (g.gs ++ [recs])).length = (fileB gen g.cp g.gs).length + (gpB recs).length := by rw [fileB_snoc, List.length_append]
    have hdd := cmdR_done r
    have ht := fits_take gen g.cp g.gs recs g.sure h.su
    refine ⟨_, _, est, (cmd_cases r).imp (·.1) id, ?_, hdd⟩
    refine ⟨?_, by simp only [List.length_append]; have := h.su; omega, h.gok.add hr he, h.cpl, by show (cmdR r).done ≤ _; omega, by show (cmdR r).cap = _; rw [cmd_cap]; exact hcap, by have := h.gl; simp; omega, fun x hx => ?_, hK, by show gen ≤ _; omega⟩
    · rcases cmd_cases r with ⟨c0, c1⟩ | c0
      · refine .inl ⟨by simp [c0], hn, K, gen, sf, cmdR r, true, ?_, hK, g1, by omega, by rw [c1]; exact hrd, by simp only; rw [ht]; exact h1, by simp only; rw [el]; omega, by simp, by simp only; rw [el]; omega⟩
        unfold jS
        rw [c0, fileB_snoc]
        simp
      · refine .inr ⟨by simp [c0], by simp [c0], K, gen, sf, ([], 0), by simp only; rw [fileB_snoc], hK, g1, by omega, by simp only; rw [ht]; exact h1, by simp only; rw [el]; omega, by simp only; rw [el]; omega, .inl ⟨rfl, hn⟩⟩
    · rcases List.mem_append.1 hx with e | e
      · exact h.gr x e
      · obtain rfl : x = recs := by simpa using e
        exact hr
  · rw [hd] at a; cases a
/-- all is safe -/
theorem inv_sync {k : Nat} {s : LS} {g : GH} (h : Inv k s g) (hd : g.down = false) : ∃ e s2, lSync s = (e, s2) ∧ (e = 0 ∨ e = 40) ∧ Inv (k + 1) s2 { g with sure := if e = 0 then g.gs.length else g.sure, down := decide (e = 40) } ∧ s2.r.done ≤ s.r.done + 1 := by
  rcases h.st with ⟨_, hn, K, gen, sf, r, lo, rfl, hK, g1, g2, hrd, h1, h2, h3, h4⟩ | ⟨a, _⟩
  · have hcap : r.cap = 1048576 := h.cap
    have hdn : r.done ≤ 10 + 10 * k := h.dn
    rcases lo with _ | _
    · refine ⟨_, _, lSync_none, .inl rfl, ?_, by show r.done ≤ r.done + 1; omega⟩
      have hs := h3 rfl
      refine ⟨.inl ⟨rfl, hn, K, gen, sf, r, false, rfl, hK, g1, by omega, hrd, ?_, h2, h3, by simp only; omega⟩, by simp, h.gok, h.cpl, by show r.done ≤ _; omega, hcap, (by have := h.gl; show g.gs.length ≤ _; omega), h.gr, hK, by show gen ≤ _; omega⟩
      show (fileB gen g.cp (g.gs.take g.gs.length)).length ≤ sf
      rw [List.take_length]
      omega
    · have e := pSync_up hK hrd (fileB gen g.cp g.gs, sf) ([], 0)
      have est := lSync_step (s := jS K gen g.cp g.gs sf r true) rfl rfl e.symm
      have hdd := cmdR_done r
      refine ⟨_, _, est, (cmd_cases r).imp (·.1) id, ?_, hdd⟩
      refine ⟨?_, (by show (if cmdE r = 0 then g.gs.length else g.sure) ≤ g.gs.length; split; exact Nat.le_refl _; exact h.su), h.gok, h.cpl, by show (cmdR r).done ≤ _; omega, by show (cmdR r).cap = _; rw [cmd_cap]; exact hcap, (by have := h.gl; show g.gs.length ≤ _; omega), h.gr, hK, by show gen ≤ _; omega⟩
      rcases cmd_cases r with ⟨c0, c1⟩ | c0
      · refine .inl ⟨by simp [c0], hn, K, gen, (fileB gen g.cp g.gs).length, cmdR r, false, ?_, hK, g1, by omega, by rw [c1]; exact hrd, ?_, Nat.le_refl _, fun _ => rfl, by simp only; omega⟩
        · unfold jS
          rw [c0]
          simp
        · simp only [c0, if_true]
          rw [List.take_length]
          exact Nat.le_refl _
      · refine .inr ⟨by simp [c0], by simp [c0], K, gen, sf, ([], 0), by simp [c0], hK, g1, by omega, by simpa [c0] using h1, h2, by simp only; omega, .inl ⟨rfl, hn⟩⟩
  · rw [hd] at a; cases a
theorem down_app {s : LS} (h : s.l.down = true) (recs : List (List UInt8)) : lApp s recs = (40, s) := by unfold lApp; rw [if_pos h]
theorem down_sync {s : LS} (h : s.l.down = true) : lSync s = (40, s) := by unfold lSync; rw [if_pos h]
theorem down_commit {s : LS} (h : s.l.down = true) (recs : List (List UInt8)) : lCommit s recs = (40, s) := by unfold lCommit; rw [down_app h]; rfl
theorem down_compact {s : LS} (h : s.l.down = true) (cp : List UInt8) : lCompact s cp = (40, s) := by unfold lCompact; rw [if_pos h]
theorem Inv.ld {k : Nat} {s : LS} {g : GH} (h : Inv k s g) : s.l.down = g.down := by
  rcases h.st with ⟨a, _, K, gen, sf, r, lo, rfl, _⟩ | ⟨a, b, _⟩
  · rw [a]; rfl
  · rw [a, b]

/-- a group more, safe -/
theorem inv_commit {k : Nat} {s : LS} {g : GH} (h : Inv k s g) (hd : g.down = false) {recs : List (List UInt8)} (hr : recs.length ≤ 8) (he : (encR recs).length ≤ 1700) (hk : k ≤ 40) :
    ∃ e s2, lCommit s recs = (e, s2) ∧ (e = 0 ∨ e = 40) ∧ Inv (k + 1) s2 { g with gs := if recs.length = 0 then g.gs else g.gs ++ [recs], sure := if e = 0 then (if recs.length = 0 then g.gs else g.gs ++ [recs]).length else g.sure, down := decide (e = 40) } := by
  by_cases hr0 : recs.length = 0
  · obtain rfl : recs = [] := List.eq_nil_of_length_eq_zero hr0
    obtain ⟨e, s2, h1, h2, h3, -⟩ := inv_sync h hd
    have hl : lApp s [] = (0, s) := by unfold lApp; rw [h.ld, hd]; rfl
    refine ⟨e, s2, ?_, h2, by simpa using h3⟩
    unfold lCommit
    rw [hl]
    simpa using h1
  · obtain ⟨e, s2, h1, h2, h3, h4⟩ := inv_app h hd hr0 hr he hk
    rw [if_neg hr0]
    rcases h2 with rfl | rfl
    · rcases h3.st with ⟨_, hn, K, gen, sf, r, lo, rfl, hK, g1, g2, hrd, c1, c2, c3, c4⟩ | ⟨a, _⟩
      · -- the sync: from k again
        have hi : Inv k (jS K gen g.cp (g.gs ++ [recs]) sf r lo) { g with gs := g.gs ++ [recs], down := false } ∨ True := .inr trivial
        clear hi
        have hcap : r.cap = 1048576 := h3.cap
        have hdd := cmdR_done r
        have hs0 : lSync (jS K gen g.cp (g.gs ++ [recs]) sf r lo) = lSync (jS K gen g.cp (g.gs ++ [recs]) sf r lo) := rfl
        have hdn0 : r.done ≤ s.r.done + 1 := h4
        have hdn1 := h.dn
        rcases lo with _ | _
        · refine ⟨0, jS K gen g.cp (g.gs ++ [recs]) sf r false, by unfold lCommit; rw [h1]; simp only [ne_eq, not_true_eq_false, if_false]; exact lSync_none, .inl rfl, ?_⟩
          have hs := c3 rfl
          refine ⟨.inl ⟨rfl, hn, K, gen, sf, r, false, rfl, hK, g1, g2, hrd, ?_, c2, c3, c4⟩, Nat.le_refl _, h3.gok, h3.cpl, h3.dn, hcap, h3.gl, h3.gr, hK, h3.gb⟩
          show (fileB gen g.cp ((g.gs ++ [recs]).take (g.gs ++ [recs]).length)).length ≤ sf
          rw [List.take_length]
          simp only at hs
          omega
        · have e := pSync_up hK hrd (fileB gen g.cp (g.gs ++ [recs]), sf) ([], 0)
          have est := lSync_step (s := jS K gen g.cp (g.gs ++ [recs]) sf r true) rfl rfl e.symm
          refine ⟨_, _, by unfold lCommit; rw [h1]; simp only [ne_eq, not_true_eq_false, if_false]; exact est, (cmd_cases r).imp (·.1) id, ?_⟩
          refine ⟨?_, (by show (if cmdE r = 0 then (g.gs ++ [recs]).length else g.sure) ≤ (g.gs ++ [recs]).length; split; exact Nat.le_refl _; have := h.su; simp; omega), h3.gok, h3.cpl, by show (cmdR r).done ≤ _; omega, by show (cmdR r).cap = _; rw [cmd_cap]; exact hcap, h3.gl, h3.gr, hK, h3.gb⟩
          rcases cmd_cases r with ⟨c0, c1'⟩ | c0
          · refine .inl ⟨by simp [c0], hn, K, gen, (fileB gen g.cp (g.gs ++ [recs])).length, cmdR r, false, ?_, hK, g1, g2, by rw [c1']; exact hrd, ?_, Nat.le_refl _, fun _ => rfl, c4⟩
            · unfold jS
              rw [c0]
              simp
            · show (fileB gen g.cp ((g.gs ++ [recs]).take (if cmdE r = 0 then (g.gs ++ [recs]).length else g.sure))).length ≤ _
              rw [if_pos c0, List.take_length]
              exact Nat.le_refl _
          · refine .inr ⟨by simp [c0], by simp [c0], K, gen, sf, ([], 0), by simp [c0], hK, g1, g2, ?_, c2, c4, .inl ⟨rfl, hn⟩⟩
            show (fileB gen g.cp ((g.gs ++ [recs]).take (if cmdE r = 0 then (g.gs ++ [recs]).length else g.sure))).length ≤ _
            rw [if_neg (by omega)]
            exact c1
      · simp at a
    · refine ⟨40, s2, by unfold lCommit; rw [h1]; rfl, .inr rfl, ?_⟩
      simpa using h3
theorem lCompact_of {s : LS} (hd : s.l.down = false) {cp : List UInt8} {e : Int} {s1 : LS} (h : (e, s1) = lLay s (1 - s.l.file) (s.l.gen + 1) cp) :
    lCompact s cp = if e ≠ 0 then (e, s1.dn (decide (e = 40))) else
      match pClr s1.V s1.r s.l.file with
      | (e2, V, r) => (e2, ⟨V, r, { s1.l with down := decide (e2 = 40) }⟩) := by
  unfold lCompact
  rw [if_neg (by simp [hd]), ← h]
/-- a checkpoint in the groups' place -/
theorem inv_compact {k : Nat} {s : LS} {g : GH} (h : Inv k s g) (hd : g.down = false) {cp2 : List UInt8} (hc : cp2.length ≤ 300) (hk : k ≤ 40) :
    ∃ e s2, lCompact s cp2 = (e, s2) ∧ ((e = 0 ∧ Inv (k + 1) s2 ⟨cp2, [], 0, none, false⟩) ∨ (e = 40 ∧ Inv (k + 1) s2 { g with next := some cp2, down := true })) := by
  rcases h.st with ⟨_, hn, K, gen, sf, r, lo, rfl, hK, g1, g2, hrd, h1, h2, h3, h4⟩ | ⟨a, _⟩
  · have hcap : r.cap = 1048576 := h.cap
    have hdn : r.done ≤ 10 + 10 * k := h.dn
    have hm := hdB_len (gen + 1 : Nat) cp2
    obtain ⟨hb, hbe⟩ : ∃ hb, hb = hdB (gen + 1 : Nat) cp2 := ⟨_, rfl⟩
    rw [← hbe] at hm
    have k1 : 1 - K < 2 := by omega
    have hdd := cmdR_done r
    have e0 : pClr (mkV K (fileB gen g.cp g.gs, sf) ([], 0)) r (1 - K) = (0, mkV K (fileB gen g.cp g.gs, sf) ([], 0), r) := by
      unfold pClr; rw [mkV_other hK]; rfl
    have e1 := pApp_up k1 hrd ([], 0) (fileB gen g.cp g.gs, sf) hb (by rw [hcap]; simp; omega)
    rw [mkV_turn hK, mkV_turn hK] at e1
    simp only [List.nil_append] at e1
    have big : ∀ (s2 : LS) (sy : Nat), s2.V = mkV K (fileB gen g.cp g.gs, sf) (hb, sy) → sy ≤ hb.length → s2.l.down = true → s2.l.file < 2 → s2.l.gen ≤ gen + 1 → s2.r.done ≤ r.done + 10 → s2.r.cap = 1048576 → Inv (k + 1) s2 { g with next := some cp2, down := true } := by
      intro s2 sy hV hs hl hf hg hdo hca
      exact ⟨.inr ⟨rfl, hl, K, gen, sf, (hb, sy), hV, hK, g1, by omega, h1, h2, by simp only; omega, .inr ⟨cp2, sy, rfl, by rw [hbe], by rw [← hbe]; exact hs, hc⟩⟩, h.su, h.gok, h.cpl, by omega, hca, (by have := h.gl; show g.gs.length ≤ _; omega), h.gr, hf, by omega⟩
    have hlc : ∀ e s1, lLay (jS K gen g.cp g.gs sf r lo) (1 - K) (gen + 1) cp2 = (e, s1) → lCompact (jS K gen g.cp g.gs sf r lo) cp2 = if e ≠ 0 then (e, s1.dn (decide (e = 40))) else
        match pClr s1.V s1.r K with
        | (e2, V, r) => (e2, ⟨V, r, { s1.l with down := decide (e2 = 40) }⟩) := by
      intro e s1 he
      exact lCompact_of (s := jS K gen g.cp g.gs sf r lo) rfl he.symm
    rcases cmd_cases r with ⟨c0, c1⟩ | c0
    · rw [c0] at e1
      have hrd1 : (cmdR r).down = false := by rw [c1]; exact hrd
      have hcap1 : (cmdR r).cap = 1048576 := by rw [cmd_cap]; exact hcap
      have e2 := pSync_up k1 hrd1 (hb, 0) (fileB gen g.cp g.gs, sf)
      rw [mkV_turn hK, mkV_turn hK] at e2
      have hdd1 := cmdR_done (cmdR r)
      rw [hbe] at e1
      have el := lLay_syn (s := jS K gen g.cp g.gs sf r lo) (gen := gen + 1) (cp := cp2) e0.symm e1.symm (hbe ▸ e2.symm)
      rw [← hbe] at el
      rcases cmd_cases (cmdR r) with ⟨d0, d1⟩ | d0
      · rw [d0] at el
        simp only [if_true] at el
        have hrd2 : (cmdR (cmdR r)).down = false := by rw [d1]; exact hrd1
        have e3 := pCut_up hK hrd2 (fileB gen g.cp g.gs, sf) (hb, hb.length)
        have hdd2 := cmdR_done (cmdR (cmdR r))
        have e3' : pClr (mkV K (fileB gen g.cp g.gs, sf) (hb, hb.length)) (cmdR (cmdR r)) K = pCut (mkV K (fileB gen g.cp g.gs, sf) (hb, hb.length)) (cmdR (cmdR r)) K 0 := by
          unfold pClr
          rw [mkV_get hK, if_neg]
          have := hd_le_file' gen g.cp g.gs
          simp only; omega
        have hx := hlc _ _ el
        simp only [ne_eq, not_true_eq_false, if_false] at hx
        rw [e3', e3] at hx
        simp only at hx
        refine ⟨_, _, hx, ?_⟩
        rcases cmd_cases (cmdR (cmdR r)) with ⟨f0, f1⟩ | f0
        · left
          rw [f0]
          refine ⟨rfl, .inl ⟨rfl, rfl, 1 - K, gen + 1, hb.length, cmdR (cmdR (cmdR r)), false, ?_, k1, by omega, by omega, by rw [f1]; exact hrd2, ?_, ?_, fun _ => ?_, ?_⟩, Nat.le_refl _, (fun x hx => by cases hx), hc, ?_, ?_, by simp, (fun x hx => by cases hx), k1, by show gen + 1 ≤ _; omega⟩
          · have hn2 : fileB (gen + 1) cp2 [] = hb := by unfold fileB; rw [hbe]; simp
            unfold jS
            simp only [if_true]
            rw [hn2, mkV_turn (k := K) hK]
            simp
          · show (fileB (gen + 1) cp2 ([].take 0)).length ≤ hb.length
            unfold fileB; rw [hbe]; simp
          · show hb.length ≤ (fileB (gen + 1) cp2 []).length
            unfold fileB; rw [hbe]; simp
          · show hb.length = (fileB (gen + 1) cp2 []).length
            unfold fileB; rw [hbe]; simp
          · show (fileB (gen + 1) cp2 []).length ≤ _
            have : (fileB (gen + 1) cp2 []).length = hb.length := by unfold fileB; rw [hbe]; simp
            omega
          · show (cmdR (cmdR (cmdR r))).done ≤ _; omega
          · show (cmdR (cmdR (cmdR r))).cap = _; rw [cmd_cap, cmd_cap]; exact hcap1
        · right
          rw [f0]
          refine ⟨rfl, big _ hb.length (by simp) (Nat.le_refl _) rfl k1 (Nat.le_refl _) ?_ ?_⟩
          · show (cmdR (cmdR (cmdR r))).done ≤ _; omega
          · show (cmdR (cmdR (cmdR r))).cap = _; rw [cmd_cap, cmd_cap]; exact hcap1
      · rw [d0] at el
        simp only at el
        have hx := hlc _ _ el
        rw [if_pos (by omega)] at hx
        refine ⟨_, _, hx, .inr ⟨rfl, big _ 0 (by simp [LS.dn]) (by omega) (by simp [LS.dn]) (by simp [LS.dn, jS]; exact hK) (by simp [LS.dn, jS]) ?_ ?_⟩⟩
        · show (cmdR (cmdR r)).done ≤ _; omega
        · show (cmdR (cmdR r)).cap = _; rw [cmd_cap]; exact hcap1
    · rw [c0] at e1
      rw [hbe] at e1
      have el := lLay_app (s := jS K gen g.cp g.gs sf r lo) (gen := gen + 1) (cp := cp2) e0.symm e1.symm (by omega)
      rw [← hbe] at el
      have hx := hlc _ _ el
      rw [if_pos (by omega)] at hx
      refine ⟨_, _, hx, .inr ⟨rfl, big _ 0 rfl (by omega) (by simp [LS.dn]) hK (Nat.le_succ _) ?_ ?_⟩⟩
      · show (cmdR r).done ≤ _; omega
      · show (cmdR r).cap = _; rw [cmd_cap]; exact hcap
  · rw [hd] at a; cases a

theorem mk_len {K : Nat} (hK : K < 2) (x y : List UInt8 × Nat) (hx : x.1.length ≤ 900000000) (hy : y.1.length ≤ 900000000) : ((mkV K x y).getD 0 ([], 0)).1.length ≤ 900000000 ∧ ((mkV K x y).getD 1 ([], 0)).1.length ≤ 900000000 := by
  rcases mkV_01 hK x y with ⟨_, h0, h1⟩ | ⟨_, h0, h1⟩ <;> rw [h0, h1] <;> exact ⟨by assumption, by assumption⟩
theorem crash_core {K gen : Nat} (hK : K < 2) (g1 : 1 ≤ gen) (g2 : gen ≤ 1000) {cp : List UInt8} (hc : cp.length ≤ 300) {gs : List (List (List UInt8))} (hgs : gsOk gs) {sf sure : Nat} (h1 : (fileB gen cp (gs.take sure)).length ≤ sf) (h2 : sf ≤ (fileB gen cp gs).length) (hsu : sure ≤ gs.length)
    (hlen : (fileB gen cp gs).length ≤ 900000) (y : List UInt8 × Nat) (next : Option (List UInt8)) (hy : (y = ([], 0) ∧ next = none) ∨ ∃ cp2 sy, next = some cp2 ∧ y = (hdB (gen + 1 : Nat) cp2, sy) ∧ sy ≤ (hdB (gen + 1 : Nat) cp2).length ∧ cp2.length ≤ 300) (keep : List Int) {r : DR} (hr : Calm r) :
    ∃ d, d ≤ 2 ∧ ((crashK keep (mkV K (fileB gen cp gs, sf) y) 4).getD 0 ([], 0)).1.length ≤ 900000000 ∧ ((crashK keep (mkV K (fileB gen cp gs, sf) y) 4).getD 1 ([], 0)).1.length ≤ 900000000 ∧
      ((∃ j n, sure ≤ j ∧ j ≤ gs.length ∧ bestS (crashK keep (mkV K (fileB gen cp gs, sf) y) 4) = ⟨gen, cp, gs.take j, n⟩ ∧ lOpen (crashK keep (mkV K (fileB gen cp gs, sf) y) 4) r = (0, jS K gen cp (gs.take j) (fileB gen cp (gs.take j)).length (up r d) false)) ∨
       (∃ cp2 n, next = some cp2 ∧ cp2.length ≤ 300 ∧ bestS (crashK keep (mkV K (fileB gen cp gs, sf) y) 4) = ⟨gen + 1, cp2, [], n⟩ ∧ lOpen (crashK keep (mkV K (fileB gen cp gs, sf) y) 4) r = (0, jS (1 - K) (gen + 1) cp2 [] (fileB (gen + 1) cp2 []).length (up r d) false))) := by
  have hy2 : y.2 ≤ y.1.length ∧ y.1.length ≤ 400 := by
    rcases hy with ⟨rfl, _⟩ | ⟨cp2, sy, _, rfl, k1, k2⟩
    · simp
    · have := hdB_len (gen + 1 : Nat) cp2
      exact ⟨k1, by simp only; omega⟩
  obtain ⟨m, n, m1, m2, n1, n2, ec⟩ := crash_mk hK keep (fileB gen cp gs, sf) y h2 hy2.1
  simp only at m1 m2
  rw [ec]
  have hml : ((fileB gen cp gs).take m).length ≤ 900000000 := by rw [List.length_take]; omega
  have hnl : (y.1.take n).length ≤ 900000000 := by rw [List.length_take]; omega
  obtain ⟨b0, b1⟩ := mk_len hK ((fileB gen cp gs).take m, m) (y.1.take n, n) hml hnl
  have hhd : (hdB gen cp).length ≤ (fileB gen cp (gs.take sure)).length := (hd_le_file' gen cp (gs.take sure)).2
  have caseA : (sgOf (y.1.take n)).gen < gen → ∃ d, d ≤ 2 ∧ ∃ j n', sure ≤ j ∧ j ≤ gs.length ∧ bestS (mkV K ((fileB gen cp gs).take m, m) (y.1.take n, n)) = ⟨gen, cp, gs.take j, n'⟩ ∧ lOpen (mkV K ((fileB gen cp gs).take m, m) (y.1.take n, n)) r = (0, jS K gen cp (gs.take j) (fileB gen cp (gs.take j)).length (up r d) false) := by
    intro hg
    obtain ⟨j, d, hj, hd, e1, e2, e3⟩ := open_file hK hr g1 (by omega) (cp := cp) (by omega) hgs (m := m) (by omega) m2 (y.1.take n, n) (by simp only; rw [List.length_take]; omega) hg m (Nat.le_refl _)
    exact ⟨d, hd, j, _, cut_at_least hsu (by omega) e3, hj, e1, e2⟩
  rcases hy with ⟨rfl, hn⟩ | ⟨cp2, sy, hn, rfl, k1, k2⟩
  · obtain ⟨d, hd, hA⟩ := caseA (by simp only [List.take_nil]; rw [sgOf_nil]; exact g1)
    exact ⟨d, hd, b0, b1, .inl hA⟩
  · have hn0 : fileB (gen + 1) cp2 [] = hdB (gen + 1 : Nat) cp2 := by unfold fileB; simp
    simp only at n1 n2 caseA
    by_cases hlt : n < (hdB (gen + 1 : Nat) cp2).length
    · obtain ⟨d, hd, hA⟩ := caseA (by
        have := sgOf_part (g := gen + 1) (cp := cp2) (gs := []) (by omega) (fun g hg => by cases hg) (n := n) hlt
        rw [hn0] at this
        rw [this]
        exact g1)
      exact ⟨d, hd, b0, b1, .inl hA⟩
    · obtain rfl : n = (hdB (gen + 1 : Nat) cp2).length := by omega
      have hgx : (sgOf ((fileB gen cp gs).take m)).gen = gen := by
        obtain ⟨j, _, e, _⟩ := sgOf_cut g1 (by omega) (by omega : cp.length ≤ 800000000) hgs (n := m) (by omega) m2
        rw [e]
      obtain ⟨d, hd, e1, e2⟩ := open_whole (k := 1 - K) (by omega) hr (gen := gen + 1) (by omega) (by omega) (cp := cp2) (by omega) (gs := []) (fun g hg => by cases hg) ((fileB gen cp gs).take m, m) (by simp only; rw [List.length_take]; omega) (by simp only; rw [hgx]; omega) (fileB (gen + 1) cp2 []).length (Nat.le_refl _)
      rw [mkV_turn hK] at e1 e2
      rw [hn0] at e1 e2
      simp only [List.take_length] at b0 b1 ⊢
      exact ⟨d, hd, b0, b1, .inr ⟨cp2, _, hn, k2, e1, by rw [e2, hn0]⟩⟩
/-- a crash, and the journal is opened -/
theorem inv_crash {k : Nat} {s : LS} {g : GH} (h : Inv k s g) (hk : k ≤ 40) (keep : List Int) :
    ∃ s2 B, lOpen (crashK keep s.V 4) { s.r with left := -1, down := false } = (0, s2) ∧ bestS (crashK keep s.V 4) = B ∧ ((crashK keep s.V 4).getD 0 ([], 0)).1.length ≤ 900000000 ∧ ((crashK keep s.V 4).getD 1 ([], 0)).1.length ≤ 900000000 ∧
      ((∃ j, g.sure ≤ j ∧ j ≤ g.gs.length ∧ B.cp = g.cp ∧ B.gs = g.gs.take j ∧ Inv (k + 1) s2 ⟨g.cp, g.gs.take j, j, none, false⟩) ∨
       (∃ cp2, g.next = some cp2 ∧ cp2.length ≤ 300 ∧ B.cp = cp2 ∧ B.gs = [] ∧ Inv (k + 1) s2 ⟨cp2, [], 0, none, false⟩)) := by
  have hx : ∃ K gen sf y, s.V = mkV K (fileB gen g.cp g.gs, sf) y ∧ K < 2 ∧ 1 ≤ gen ∧ gen ≤ 1 + k ∧ (fileB gen g.cp (g.gs.take g.sure)).length ≤ sf ∧ sf ≤ (fileB gen g.cp g.gs).length ∧ (fileB gen g.cp g.gs).length ≤ 400 + 2100 * k ∧
      ((y = ([], 0) ∧ g.next = none) ∨ ∃ cp2 sy, g.next = some cp2 ∧ y = (hdB (gen + 1 : Nat) cp2, sy) ∧ sy ≤ (hdB (gen + 1 : Nat) cp2).length ∧ cp2.length ≤ 300) := by
    rcases h.st with ⟨a, b, K, gen, sf, r, lo, rfl, c2, c3, c4, c5, c6, c7, c8, c9⟩ | ⟨a, b, K, gen, sf, y, c1, c2, c3, c4, c5, c6, c7, c8⟩
    · exact ⟨K, gen, sf, ([], 0), rfl, c2, c3, c4, c6, c7, c9, .inl ⟨rfl, b⟩⟩
    · exact ⟨K, gen, sf, y, c1, c2, c3, c4, c5, c6, c7, c8⟩
  obtain ⟨K, gen, sf, y, hV, hK, g1, g2, h1, h2, hlen, hy⟩ := hx
  have hcalm : Calm { s.r with left := -1, down := false } := ⟨rfl, rfl⟩
  obtain ⟨d, hd, b0, b1, hc⟩ := crash_core hK g1 (by omega) h.cpl h.gok h1 h2 h.su (by omega) y g.next hy keep hcalm
  rw [← hV] at b0 b1 hc
  have hdn := h.dn
  rcases hc with ⟨j, n, hj1, hj2, e1, e2⟩ | ⟨cp2, n, hn, hcl, e1, e2⟩
  · refine ⟨_, _, e2, e1, b0, b1, .inl ⟨j, hj1, hj2, rfl, rfl, ⟨.inl ⟨rfl, rfl, K, gen, _, _, false, rfl, hK, g1, by omega, rfl, ?_, Nat.le_refl _, fun _ => rfl, ?_⟩, ?_, h.gok.take j, h.cpl, ?_, h.cap, ?_, ?_, hK, by show gen ≤ _; omega⟩⟩⟩
    · show (fileB gen g.cp ((g.gs.take j).take j)).length ≤ _
      rw [List.take_take, Nat.min_self]
      exact Nat.le_refl _
    · have := fileB_le gen g.cp g.gs j
      show (fileB gen g.cp (g.gs.take j)).length ≤ _
      omega
    · show j ≤ (g.gs.take j).length
      rw [List.length_take]; omega
    · show s.r.done + (d : Int) ≤ _; omega
    · show (g.gs.take j).length ≤ _
      have := h.gl
      rw [List.length_take]; omega
    · intro x hx
      exact h.gr x (List.mem_of_mem_take hx)
  · have hn0 : fileB (gen + 1) cp2 [] = hdB (gen + 1 : Nat) cp2 := by unfold fileB; simp
    have hm := hdB_len (gen + 1 : Nat) cp2
    refine ⟨_, _, e2, e1, b0, b1, .inr ⟨cp2, hn, hcl, rfl, rfl, ⟨.inl ⟨rfl, rfl, 1 - K, gen + 1, _, _, false, rfl, by omega, by omega, by omega, rfl, ?_, Nat.le_refl _, fun _ => rfl, ?_⟩, Nat.le_refl _, (fun x hx => by cases hx), hcl, ?_, h.cap, by simp, (fun x hx => by cases hx), by show 1 - K < 2; omega, by show gen + 1 ≤ _; omega⟩⟩⟩
    · show (fileB (gen + 1) cp2 ([].take 0)).length ≤ _
      exact Nat.le_refl _
    · show (fileB (gen + 1) cp2 []).length ≤ _
      rw [hn0]; omega
    · show s.r.done + (d : Int) ≤ _; omega
theorem inv_arm {k : Nat} {s : LS} {g : GH} (h : Inv k s g) (n : Int) : Inv (k + 1) ⟨s.V, { s.r with left := n }, s.l⟩ g := by
  have h2 := h.succ
  refine ⟨?_, h2.su, h2.gok, h2.cpl, h2.dn, h2.cap, h2.gl, h2.gr, h2.fl, h2.gb⟩
  rcases h2.st with ⟨a, b, K, gen, sf, r, lo, rfl, c2, c3, c4, c5, c6⟩ | h3
  · exact .inl ⟨a, b, K, gen, sf, { r with left := n }, lo, rfl, c2, c3, c4, c5, c6⟩
  · exact .inr h3
end Go.Proofs.YtlcpljpeljoboaaDoor

/- A region that draws its order, walked by hand under a condition on the world that may change on the way. No program's function. -/
namespace Go.Proofs.YtlcpljpeljoboaaDoor
open Go.RowKit

section
variable {P : Program} {ops : Array Oper} {Q : Exit → Act → World → Prop} {md : Region.Mode} {S S' : World → Prop}
/-- a walk that holds more holds less -/
theorem wpAnyH_weak (hS : ∀ w, S w → S' w) : ∀ (fuel : Nat) (listed : Array Bool) (a : Act) (w : World), wpAnyH P md ops Q S fuel listed a w → wpAnyH P md ops Q S' fuel listed a w
  | 0, _, _, _, h => h
  | fuel + 1, _, _, _, h => ⟨h.1, fun i hi => wpOp_mono (fun a' w' h' => ⟨hS w' h'.1, wpAnyH_weak hS fuel _ a' w' h'.2⟩) (h.2 i hi)⟩
/-- 'wpAnyH_take', the operation's temporary told by its number -/
theorem take_d {i d : Nat} {oi : Oper} {v : Value} {fuel : Nat} {listed : Array Bool} {a : Act} {w : World} (hi : ops[i]? = some oi) (hd : oi.dst = some d)
    (hs : Region.noSelect ops = true) (hf : Region.free md ops listed i = true) (hr : (Region.ready md ops listed).contains i = true)
    (hQ : ∀ c a w, Q (.panic c) (a.put oi.dst v) w → Q (.panic c) a w) (hy : YieldsIf P ops S oi v a) (hS : S w)
    (h : wpAnyH P md ops Q S fuel (listed.setIfInBounds i true) (a.put (some d) v) w) : wpAnyH P md ops Q S (fuel + 1) listed a w :=
  wpAnyH_take hi hs hf hr hQ hy hS (by rw [hd]; exact h)
end
end Go.Proofs.YtlcpljpeljoboaaDoor
