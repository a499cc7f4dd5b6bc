/- Part 9 of the texts of this proof, one behind the other; each begins with its own sentence. No condition beyond those that its theorems state. -/
import Derived.Test.YtafoklilkdnepaaGreatDoorRm8
import Derived.OrdersHeld
import Derived.Deep.RegionHeld3
import Derived.Deep.RegionWith
import Derived.Deep.DeepCutAuto
import Derived.Test.YtafoklilkdnepaaGreatDoorRows
import Derived.Deep.DeepHandedRow
import Derived.Lib.LaidTab
import Derived.Lib.LaidIn
import GoSem.PinnedTables
/- bywashlaw05.awake: yes. -/
namespace Go.Proofs.YtafoklilkdnepaaGreatDoor
open Go.RowKit

def zeroX : XC := ⟨⟨0, ⟨#[]⟩, ⟨0, 0, ⟨#[]⟩⟩, ⟨#[]⟩⟩, none, 0, 0⟩
def noS : SL := ⟨none, 0, 0⟩
/-- a scan's cells -/
def scanC (s : ByteArray) : PC := ⟨1, s, noS, zeroX, noS, noS, noS, noS, noS, 0⟩
def awkC (ga gp : Nat) : PC := ⟨6, ⟨#[]⟩, ⟨some ⟨gp, 0, none⟩, 1, 1⟩, zeroX, noS, noS, noS, ⟨some ⟨ga, 0, none⟩, 1, 1⟩, noS, 0⟩
def awkL : List SrcD := [⟨⟨#[120]⟩, [⟨⟨#[97]⟩, 1⟩], []⟩]
theorem awk_scanV : scanV awkL ⟨#[120]⟩ = (0, [⟨⟨#[97]⟩, 1⟩]) := by
  have h1 : srcI awkL ⟨#[120]⟩ = some 0 := srcI_some (l := awkL) (k := 0) (by simp [awkL]) rfl (fun j hj => absurd hj (by omega))
  unfold scanV
  rw [h1]
  have h2 : checkT [⟨⟨#[97]⟩, 1⟩] [] = 0 := by decide +kernel
  simp only [awkL, List.getElem?_cons_zero]
  exact if_pos h2
theorem awk_group : groupV [⟨⟨#[97]⟩, 1⟩] [] [⟨⟨#[99, 111, 117, 110, 116]⟩, ⟨#[]⟩, ⟨#[110]⟩⟩] = (0, [⟨⟨#[110]⟩, 1⟩]) := by
  have h : aggV [⟨⟨#[97]⟩, 1⟩] ⟨⟨#[99, 111, 117, 110, 116]⟩, ⟨#[]⟩, ⟨#[110]⟩⟩ = (1, 0) := by
    unfold aggV
    rw [if_neg (by decide +kernel), if_pos rfl]
    exact if_pos rfl
  unfold groupV
  simp only [gnL, gaL, h]
  rfl
theorem fitC_num (c : CD) (n : Int) (h : c.typ = 1) : fitC c ⟨1, n, ⟨#[]⟩⟩ = true := by
  have hr : VD.right ⟨1, n, ⟨#[]⟩⟩ = true := by unfold VD.right; rw [toList_B]; rfl
  unfold fitC
  rw [hr, h]; rfl
theorem nodeV_ok {vs : List (Int × List CD)} {v : Int × List CD} (h1 : errL vs = 0) (h2 : v.1 = 0) (h3 : checkV v.2 = 0) : nodeV vs v = (0, v.2) := by
  unfold nodeV
  rw [if_pos h1, if_pos h2, if_pos h3]
theorem nodeE_ok {vs : List (Int × List CD × List (List VD))} {cs : List CD} {rv : Int × List (List VD)} (h1 : errL (vs.map fun v => (v.1, v.2.1)) = 0) (h2 : rv.1 = 0) (h3 : fitV cs rv.2 = 0) : nodeE vs cs rv = (0, cs, sortR rv.2) := by
  unfold nodeE
  rw [if_pos h1, if_pos h2, if_pos h3]
theorem awk_check : checkV [⟨⟨#[110]⟩, 1⟩] = 0 := by decide +kernel
theorem awk_fit : fitV [⟨⟨#[110]⟩, 1⟩] [[⟨1, 0, ⟨#[]⟩⟩]] = 0 := by
  unfold fitV
  rw [if_pos awk_check, if_neg (by simp)]
  have : [[(⟨1, 0, ⟨#[]⟩⟩ : VD)]].all (fitR [⟨⟨#[110]⟩, 1⟩]) = true := by
    have h := fitC_num ⟨⟨#[110]⟩, 1⟩ 0 rfl
    unfold fitR
    simp [h]
  rw [if_pos this]

set_option maxRecDepth 100000 in
set_option maxHeartbeats 6400000 in
theorem awake5_any (w : World) (hG : NeedsAt w) : Calls Tryz.prog 9 #[] w fun e w' => e = .returned (.bool true) ∧ Touch [] w w' := by
  obtain ⟨W, hW⟩ : ∃ W, W = (((((w.alloc (.cells #[.string ⟨#[97]⟩, .int .i64 1] 29)).alloc (.cells #[.string ⟨#[120]⟩, .slice (some ⟨w.heap.size, 0, none⟩) 1 1, .slice none 0 0] 36)).alloc (.cells #[.string ⟨#[99, 111, 117, 110, 116]⟩, .string ⟨#[]⟩, .string ⟨#[110]⟩] 79)).alloc (.cells #[.int .i64 1, .string ⟨#[120]⟩, .slice none 0 0, .int .i64 0, .string ⟨#[]⟩, .int .i64 0, .int .i64 0, .string ⟨#[]⟩, .string ⟨#[]⟩, .slice none 0 0, .slice none 0 0, .slice none 0 0, .slice none 0 0, .slice none 0 0, .slice none 0 0, .int .i64 0] 49)).alloc (.cells #[.int .i64 6, .string ⟨#[]⟩, .slice (some ⟨w.heap.size + 1 + 1 + 1, 0, none⟩) 1 1, .int .i64 0, .string ⟨#[]⟩, .int .i64 0, .int .i64 0, .string ⟨#[]⟩, .string ⟨#[]⟩, .slice none 0 0, .slice none 0 0, .slice none 0 0, .slice none 0 0, .slice (some ⟨w.heap.size + 1 + 1, 0, none⟩) 1 1, .slice none 0 0, .int .i64 0] 49)) := ⟨_, rfl⟩
  have t0 : Touch [] w W := hW ▸ (((((Touch.refl [] w).alloc _).alloc _).alloc _).alloc _).alloc _
  have hc : ColsAt W (some ⟨w.heap.size, 0, none⟩) [⟨⟨#[97]⟩, 1⟩] := hW ▸ RdK.touch0 (RdK.one (enc := cdE) w 29 ⟨⟨#[97]⟩, 1⟩ _ rfl) (((((Touch.refl [] _).alloc _).alloc _).alloc _).alloc _)
  have hs : RdK srE W (some ⟨w.heap.size + 1, 0, none⟩) [⟨⟨#[120]⟩, ⟨some ⟨w.heap.size, 0, none⟩, 1, 1⟩, noS⟩] := by
    have h1 := RdK.touch0 (RdK.one (enc := srE) (w.alloc (.cells #[.string ⟨#[97]⟩, .int .i64 1] 29)) 36 ⟨⟨#[120]⟩, ⟨some ⟨w.heap.size, 0, none⟩, 1, 1⟩, noS⟩ #[.string ⟨#[120]⟩, .slice (some ⟨w.heap.size, 0, none⟩) 1 1, .slice none 0 0] rfl) ((((Touch.refl [] _).alloc (.cells #[.string ⟨#[99, 111, 117, 110, 116]⟩, .string ⟨#[]⟩, .string ⟨#[110]⟩] 79)).alloc (.cells #[.int .i64 1, .string ⟨#[120]⟩, .slice none 0 0, .int .i64 0, .string ⟨#[]⟩, .int .i64 0, .int .i64 0, .string ⟨#[]⟩, .string ⟨#[]⟩, .slice none 0 0, .slice none 0 0, .slice none 0 0, .slice none 0 0, .slice none 0 0, .slice none 0 0, .int .i64 0] 49)).alloc (.cells #[.int .i64 6, .string ⟨#[]⟩, .slice (some ⟨w.heap.size + 1 + 1 + 1, 0, none⟩) 1 1, .int .i64 0, .string ⟨#[]⟩, .int .i64 0, .int .i64 0, .string ⟨#[]⟩, .string ⟨#[]⟩, .slice none 0 0, .slice none 0 0, .slice none 0 0, .slice none 0 0, .slice (some ⟨w.heap.size + 1 + 1, 0, none⟩) 1 1, .slice none 0 0, .int .i64 0] 49))
    rw [World.size_alloc] at h1
    exact hW ▸ h1
  have ha : RdK agE W (some ⟨w.heap.size + 1 + 1, 0, none⟩) [⟨⟨#[99, 111, 117, 110, 116]⟩, ⟨#[]⟩, ⟨#[110]⟩⟩] := by
    have h1 := RdK.touch0 (RdK.one (enc := agE) ((w.alloc (.cells #[.string ⟨#[97]⟩, .int .i64 1] 29)).alloc (.cells #[.string ⟨#[120]⟩, .slice (some ⟨w.heap.size, 0, none⟩) 1 1, .slice none 0 0] 36)) 79 ⟨⟨#[99, 111, 117, 110, 116]⟩, ⟨#[]⟩, ⟨#[110]⟩⟩ #[.string ⟨#[99, 111, 117, 110, 116]⟩, .string ⟨#[]⟩, .string ⟨#[110]⟩] rfl) (((Touch.refl [] _).alloc (.cells #[.int .i64 1, .string ⟨#[120]⟩, .slice none 0 0, .int .i64 0, .string ⟨#[]⟩, .int .i64 0, .int .i64 0, .string ⟨#[]⟩, .string ⟨#[]⟩, .slice none 0 0, .slice none 0 0, .slice none 0 0, .slice none 0 0, .slice none 0 0, .slice none 0 0, .int .i64 0] 49)).alloc (.cells #[.int .i64 6, .string ⟨#[]⟩, .slice (some ⟨w.heap.size + 1 + 1 + 1, 0, none⟩) 1 1, .int .i64 0, .string ⟨#[]⟩, .int .i64 0, .int .i64 0, .string ⟨#[]⟩, .string ⟨#[]⟩, .slice none 0 0, .slice none 0 0, .slice none 0 0, .slice none 0 0, .slice (some ⟨w.heap.size + 1 + 1, 0, none⟩) 1 1, .slice none 0 0, .int .i64 0] 49))
    rw [World.size_alloc, World.size_alloc] at h1
    exact hW ▸ h1
  have hp : RdK pcE W (some ⟨w.heap.size + 1 + 1 + 1, 0, none⟩) [scanC ⟨#[120]⟩] := by
    have h1 := RdK.touch0 (RdK.one (enc := pcE) (((w.alloc (.cells #[.string ⟨#[97]⟩, .int .i64 1] 29)).alloc (.cells #[.string ⟨#[120]⟩, .slice (some ⟨w.heap.size, 0, none⟩) 1 1, .slice none 0 0] 36)).alloc (.cells #[.string ⟨#[99, 111, 117, 110, 116]⟩, .string ⟨#[]⟩, .string ⟨#[110]⟩] 79)) 49 (scanC ⟨#[120]⟩) #[.int .i64 1, .string ⟨#[120]⟩, .slice none 0 0, .int .i64 0, .string ⟨#[]⟩, .int .i64 0, .int .i64 0, .string ⟨#[]⟩, .string ⟨#[]⟩, .slice none 0 0, .slice none 0 0, .slice none 0 0, .slice none 0 0, .slice none 0 0, .slice none 0 0, .int .i64 0] rfl) ((Touch.refl [] _).alloc (.cells #[.int .i64 6, .string ⟨#[]⟩, .slice (some ⟨w.heap.size + 1 + 1 + 1, 0, none⟩) 1 1, .int .i64 0, .string ⟨#[]⟩, .int .i64 0, .int .i64 0, .string ⟨#[]⟩, .string ⟨#[]⟩, .slice none 0 0, .slice none 0 0, .slice none 0 0, .slice none 0 0, .slice (some ⟨w.heap.size + 1 + 1, 0, none⟩) 1 1, .slice none 0 0, .int .i64 0] 49))
    rw [World.size_alloc, World.size_alloc, World.size_alloc] at h1
    exact hW ▸ h1
  have hS : SrcsAt W (some ⟨w.heap.size + 1, 0, none⟩) awkL := ⟨_, rfl, hs, fun i a b => by
    obtain rfl : i = 0 := by simp at a; omega
    exact ⟨rfl, rfl, Nat.le_refl _, hc, rfl, [], ⟨rfl, fun i h => absurd h (by simp)⟩, RdK.nil _ _ _⟩⟩
  have hok : ∀ d ∈ awkL, d.Ok := fun d hd => by
    simp only [awkL, List.mem_singleton] at hd
    subst hd
    exact ⟨fun c hc => by simp only [List.mem_singleton] at hc; subst hc; exact ⟨by show 1 ≤ _; omega, by constructor <;> (dsimp only; omega)⟩, by simp, fun r hr => by simp at hr, by simp⟩
  have hcok : ∀ c ∈ [(⟨⟨#[110]⟩, 1⟩ : CD)], c.Ok := fun c hc => by simp only [List.mem_singleton] at hc; subst hc; exact ⟨by show 1 ≤ _; omega, by constructor <;> (dsimp only; omega)⟩
  have hszL : ∀ W', SizeC W' (scanC ⟨#[120]⟩) 1 := fun W' => sizeC_leaf _ rfl W'
  have hsz : SizeC W (awkC (w.heap.size + 1 + 1) (w.heap.size + 1 + 1 + 1)) 2 := sizeC_node _ [scanC ⟨#[120]⟩] [1] W rfl rfl hp (fun i a b => by
    obtain rfl : i = 0 := by simp at a; omega
    exact hszL W) (by simp) (by show 1 ≤ _; omega)
  have hty : TypedC W (some ⟨w.heap.size + 1, 0, none⟩) 1 1 (awkC (w.heap.size + 1 + 1) (w.heap.size + 1 + 1 + 1)) 1 (0, [⟨⟨#[110]⟩, 1⟩]) := by
    have h1 := typedC_node (awkC (w.heap.size + 1 + 1) (w.heap.size + 1 + 1 + 1)) 6 1 rfl (by omega) (by omega) rfl rfl 1 (by omega) (by omega) (some ⟨w.heap.size + 1, 0, none⟩) 1 1 W (hG.touch0 t0) [scanC ⟨#[120]⟩] [(0, [⟨⟨#[97]⟩, 1⟩])] rfl rfl hp (fun i a b => by
      obtain rfl : i = 0 := by simp at a; omega
      have := typedC_scan (scanC ⟨#[120]⟩) rfl rfl (1 + 1) (by omega) (some ⟨w.heap.size + 1, 0, none⟩) 1 1 awkL rfl (by omega) hok W (hG.touch0 t0) hS
      rw [show (scanC ⟨#[120]⟩).name = ⟨#[120]⟩ from rfl, awk_scanV] at this
      exact this) (0, [⟨⟨#[110]⟩, 1⟩]) (fun _ => by
      have := schemaC_group (awkC (w.heap.size + 1 + 1) (w.heap.size + 1 + 1 + 1)) rfl [] [⟨⟨#[99, 111, 117, 110, 116]⟩, ⟨#[]⟩, ⟨#[110]⟩⟩] rfl rfl (by simp) (by simp) [⟨⟨#[97]⟩, 1⟩] (by simp) W (RdK.nil _ _ _) ha
      rw [awk_group] at this
      exact this) hcok (by simp)
    have h2 : nodeV [(0, [⟨⟨#[97]⟩, 1⟩])] (0, [⟨⟨#[110]⟩, 1⟩]) = (0, [⟨⟨#[110]⟩, 1⟩]) := by
      exact nodeV_ok rfl rfl awk_check
    rw [h2] at h1
    exact h1
  have hev : EvalC W (some ⟨w.heap.size + 1, 0, none⟩) 1 1 (awkC (w.heap.size + 1 + 1) (w.heap.size + 1 + 1 + 1)) (0, [⟨⟨#[110]⟩, 1⟩], [[⟨1, 0, ⟨#[]⟩⟩]]) := by
    have h1 := evalC_node (awkC (w.heap.size + 1 + 1) (w.heap.size + 1 + 1 + 1)) 6 1 rfl (by omega) rfl (by omega) (some ⟨w.heap.size + 1, 0, none⟩) 1 1 W [scanC ⟨#[120]⟩] [(0, [⟨⟨#[97]⟩, 1⟩], [])] rfl rfl hp (fun i a b => by
      obtain rfl : i = 0 := by simp at a; omega
      exact evalC_scan (scanC ⟨#[120]⟩) rfl rfl (some ⟨w.heap.size + 1, 0, none⟩) 1 1 awkL rfl (by omega) 0 (by simp [awkL]) (srcI_some (l := awkL) (k := 0) (by simp [awkL]) rfl (fun j hj => absurd hj (by omega))) (by simp [awkL]) (by simp [awkL]) (fun r hr => by simp [awkL] at hr) W hS) 0 [⟨⟨#[110]⟩, 1⟩] (fun _ => by
      have := schemaC_group (awkC (w.heap.size + 1 + 1) (w.heap.size + 1 + 1 + 1)) rfl [] [⟨⟨#[99, 111, 117, 110, 116]⟩, ⟨#[]⟩, ⟨#[110]⟩⟩] rfl rfl (by simp) (by simp) [⟨⟨#[97]⟩, 1⟩] (by simp) W (RdK.nil _ _ _) ha
      rw [awk_group] at this
      exact this) (0, [[⟨1, 0, ⟨#[]⟩⟩]]) (fun _ => rowsC_group0 _ rfl rfl rfl _ _ _ (by simp) W ha) hcok (by simp)
      (fun r hr => by simp only [List.mem_singleton] at hr; subst hr; exact ⟨by simp, fun v hv => by simp only [List.mem_singleton] at hv; subst hv; exact ⟨by constructor <;> (dsimp only; omega), by constructor <;> (dsimp only; omega), Nat.zero_le _⟩⟩)
      (fun r hr => by simp only [List.mem_singleton] at hr; subst hr; simp) (by simp)
    have h2 : nodeE [(0, [⟨⟨#[97]⟩, 1⟩], [])] [⟨⟨#[110]⟩, 1⟩] (0, [[⟨1, 0, ⟨#[]⟩⟩]]) = (0, [⟨⟨#[110]⟩, 1⟩], [[⟨1, 0, ⟨#[]⟩⟩]]) := by
      rw [nodeE_ok rfl rfl awk_fit, sortR_one]
    rw [h2] at h1
    exact h1
  have hT := evalTop (awkC (w.heap.size + 1 + 1) (w.heap.size + 1 + 1 + 1)) 2 (by omega) (some ⟨w.heap.size + 1, 0, none⟩) 1 1 (0, [⟨⟨#[110]⟩, 1⟩]) (0, [⟨⟨#[110]⟩, 1⟩], [[⟨1, 0, ⟨#[]⟩⟩]]) W hsz hty (fun _ => hev)
  rw [show topV (0, [⟨⟨#[110]⟩, 1⟩]) (0, [⟨⟨#[110]⟩, 1⟩], [[⟨1, 0, ⟨#[]⟩⟩]]) = (0, [⟨⟨#[110]⟩, 1⟩], [[⟨1, 0, ⟨#[]⟩⟩]]) from by unfold topV; rw [if_pos rfl]] at hT
  have hT' : Calls Tryz.prog 12 #[(awkC (w.heap.size + 1 + 1) (w.heap.size + 1 + 1 + 1)).val, .slice (some ⟨w.heap.size + 1, 0, none⟩) 1 1] W fun e w' => ∃ SA sc RA rc, e = .returned (.tuple #[.agg #[.slice SA 1 sc, .slice RA 1 rc], .int .i64 0]) ∧ NewTab W.heap.size w' ⟨SA, 1, sc⟩ ⟨RA, 1, rc⟩ [⟨⟨#[110]⟩, 1⟩] [[⟨1, 0, ⟨#[]⟩⟩]] ∧ Touch [] W w' := by
    refine hT.mono ?_
    rintro e w' ⟨⟨SA, sn, sc⟩, ⟨RA, rn, rc⟩, he, hn, ht⟩
    have h1 : sn = 1 := hn.n
    have h4 : rn = 1 := hn.m
    subst h1 h4
    exact ⟨SA, sc, RA, rc, he, hn, ht⟩
  have HT := Lib.hid hT'
  have HW := Lib.hid hW
  have H0 := Lib.hid t0
  have Hof := Lib.hid fun w' => of_num 0 w'
  clear hT hT' hev hty hsz hszL hcok hok hS hp ha hs hc t0 hW
  go_enter Tryz.func9, Tryz.ntmps9
  go_wp2_with fail
  rw [← HW.out]
  refine HT.out.mono ?_
  rintro e w1 ⟨SA, sc, RA, rc, rfl, hnt, t1⟩
  have hT2 := hnt.tab
  obtain ⟨h1, h2, h3, h4, h5⟩ := hT2
  clear h1 h4
  dsimp only at h2 h3 h5
  have t2 := (Touch.refl [] w1).alloc (.cells #[.slice SA 1 sc, .slice RA 1 rc] 27)
  have hb2 := heap_alloc_new w1 (.cells #[.slice SA 1 sc, .slice RA 1 rc] 27)
  obtain ⟨ad, b1, o1, rfl, hadd, c0, c1⟩ := h3.at_ 0 (by simp)
  obtain ⟨bd, A9, c9, rfl, e0, hv⟩ := h5.at_ 0 (by simp)
  obtain ⟨ad9, b9, o9, rfl, hadd9, v0, v1, v2⟩ := hv.at_ 0 (by simp)
  have ha0 : ∀ x : Addr, x.add 0 = x := fun x => by cases x; simp [Addr.add]
  rw [Nat.zero_mul, ha0] at hadd hadd9
  subst hadd hadd9
  simp only [List.getElem_cons_zero] at c0 c1 e0 v0 v1 v2
  obtain ⟨W2, hW2⟩ : ∃ W2, W2 = w1.alloc (.cells #[.slice (some ⟨b1, o1, none⟩) 1 sc, .slice (some bd) 1 rc] 27) := ⟨_, rfl⟩
  rw [← hW2] at t2 hb2
  have e0' := e0
  rw [ha0] at e0'
  have HT1 := Lib.hid (t1.trans0 t2)
  have HG := Lib.hid (And.intro t2 (And.intro hb2 (And.intro c0 (And.intro c1 (And.intro e0' (And.intro v0 (And.intro v1 v2)))))))
  have HW2 := Lib.hid hW2
  clear ha0 hnt h3 h5 hv e0 e0' c0 c1 v0 v1 v2 t1 t2 hb2 hW2
  go_wp2_with fail
  rw [← HW2.out]
  obtain ⟨t2, hb2, c0, c1, e0', v0, v1, v2⟩ := HG.out
  obtain ⟨q0, q1, _, _⟩ := blk2 hb2
  have g0 := TW.cell q0
  have g1 := TW.cell q1
  have g2 := TW.cell (t2.cell c0 (by simp))
  have g3 := TW.cell (t2.cell c1 (by simp))
  have g4' := TW.cell (t2.cell e0' (by simp))
  have g5 := TW.cell (t2.cell v0 (by simp))
  have g6 := TW.cell (t2.cell v1 (by simp))
  have g7 := TW.cell (t2.cell v2 (by simp))
  clear t2 hb2 c0 c1 e0' v0 v1 v2 q0 q1
  have heq := fun w' => eqIn_val ⟨1, 0, ⟨#[]⟩⟩ ⟨1, 0, ⟨#[]⟩⟩ w'
  have heqv : eqV ⟨1, 0, ⟨#[]⟩⟩ ⟨1, 0, ⟨#[]⟩⟩ = true := (eqV_iff _ _).2 rfl
  rw [heqv] at heq
  dsimp only at heq
  have hgd := guard_val
  have hlit : ((⟨#[110]⟩ : ByteArray).toList == [110]) = true := by rw [toList_B]; rfl
  clear heqv
  refine wp_region_tw W2 (Touch.refl _ _) (by kernel_rfl) (by kernel_rfl) ?_
  repeat (go_big_quiet_step (((go_at_call 11; exact Calls.tw _ (Hof.out _)))))
  refine wpQuiet_nil ?_
  rintro _ ⟨x9, rfl⟩
  go_wp2
  go_ret
  exact ⟨rfl, (H0.out.trans0 HT1.out).trans0 x9.t⟩
end Go.Proofs.YtafoklilkdnepaaGreatDoor

/- A region that draws its order, walked by hand under a condition on the world that may change on the way. No program's function. -/
namespace Go.Proofs.YtafoklilkdnepaaGreatDoor
open Go.RowKit

section
variable {P : Program} {ops : Array Oper} {Q : Exit → Act → World → Prop} {md : Region.Mode} {S S' : World → Prop}
/-- a walk that holds more holds less -/
theorem wpAnyH_weak (hS : ∀ w, S w → S' w) : ∀ (fuel : Nat) (listed : Array Bool) (a : Act) (w : World), wpAnyH P md ops Q S fuel listed a w → wpAnyH P md ops Q S' fuel listed a w
  | 0, _, _, _, h => h
  | fuel + 1, _, _, _, h => ⟨h.1, fun i hi => wpOp_mono (fun a' w' h' => ⟨hS w' h'.1, wpAnyH_weak hS fuel _ a' w' h'.2⟩) (h.2 i hi)⟩
/-- 'wpAnyH_take', the operation's temporary told by its number -/
theorem take_d {i d : Nat} {oi : Oper} {v : Value} {fuel : Nat} {listed : Array Bool} {a : Act} {w : World} (hi : ops[i]? = some oi) (hd : oi.dst = some d)
    (hs : Region.noSelect ops = true) (hf : Region.free md ops listed i = true) (hr : (Region.ready md ops listed).contains i = true)
    (hQ : ∀ c a w, Q (.panic c) (a.put oi.dst v) w → Q (.panic c) a w) (hy : YieldsIf P ops S oi v a) (hS : S w)
    (h : wpAnyH P md ops Q S fuel (listed.setIfInBounds i true) (a.put (some d) v) w) : wpAnyH P md ops Q S (fuel + 1) listed a w :=
  wpAnyH_take hi hs hf hr hQ hy hS (by rw [hd]; exact h)
end
end Go.Proofs.YtafoklilkdnepaaGreatDoor

/- A region that draws its order, walked by hand under a condition on the world that holds UNTIL a last operation (a store) comes up. No program's function. -/
namespace Go.Proofs.YtafoklilkdnepaaGreatDoor
open Go.RowKit

section
variable {P : Program} {ops : Array Oper} {Q : Exit → Act → World → Prop} {md : Region.Mode} {S : World → Prop} {m : Nat}
def wpAnyU (P : Program) (md : Region.Mode) (ops : Array Oper) (Q : Exit → Act → World → Prop) (S : World → Prop) (m : Nat) : Nat → Array Bool → Act → World → Prop
  | 0, listed, a, w => Region.ready md ops listed = [] ∧ Q .normal a w
  | fuel + 1, listed, a, w =>
    (Region.ready md ops listed = [] → Q .normal a w) ∧
    ∀ i ∈ Region.ready md ops listed, wpOp P ops Q i (fun a' w' => ((listed.setIfInBounds i true).getD m true = false → S w') ∧ wpAnyU P md ops Q S m fuel (listed.setIfInBounds i true) a' w') a w
theorem wpAny_of_until : ∀ (fuel : Nat) (listed : Array Bool) (a : Act) (w : World), wpAnyU P md ops Q S m fuel listed a w → wpAny P md ops Q fuel listed a w
  | 0, _, _, _, h => h
  | fuel + 1, _, _, _, h => ⟨h.1, fun i hi => wpOp_mono (fun a' w' h' => wpAny_of_until fuel _ a' w' h'.2) (h.2 i hi)⟩
theorem wpAnyU_first {i : Nat} {oi om : Oper} {v : Value} (hi : ops[i]? = some oi) (hsel : ∀ (j : Nat) (o : Oper) cs b, ops[j]? = some o → o.op ≠ .select cs b)
    (hQ : ∀ c a w, Q (.panic c) (a.put oi.dst v) w → Q (.panic c) a w) (hmi : m ≠ i) (hom : ops[m]? = some om) (hwait : ∃ e ∈ om.after, Region.binds md e = true ∧ e.on = i) :
    ∀ (fuel : Nat) (listed : Array Bool) (a : Act) (w : World), listed.getD m true = false →
      (∀ j oj, ops[j]? = some oj → j ≠ i → listed.getD j true = false → (∀ e ∈ oj.after, Region.binds md e = true → e.on ≠ i) → oi.apart ops oj = true) →
      i ∈ Region.ready md ops listed → YieldsIf P ops S oi v a → S w →
      wpAnyU P md ops Q S m fuel (listed.setIfInBounds i true) (a.put oi.dst v) w → wpAnyU P md ops Q S m (fuel + 1) listed a w := by
  intro fuel
  induction fuel with
  | zero =>
    intro listed a w _ _ hr hy hS H
    refine ⟨fun h => (by rw [h] at hr; cases hr), fun j hj => ?_⟩
    by_cases hji : j = i
    · subst hji; exact hy.wpOp hi hS ⟨fun _ => hS, H⟩
    · have := ready_mono hj hji
      rw [H.1] at this
      cases this
  | succ fuel ih =>
    intro listed a w hml hfree hr hy hS H
    refine ⟨fun h => (by rw [h] at hr; cases hr), fun j hj => ?_⟩
    by_cases hji : j = i
    · subst hji; exact hy.wpOp hi hS ⟨fun _ => hS, H⟩
    · have h1 := H.2 j (ready_mono hj hji)
      obtain ⟨hjun, oj, hoj, hall⟩ := mem_ready.1 hj
      have hnot : ∀ e ∈ oj.after, Region.binds md e = true → e.on ≠ i := fun e he hb heq => by
        have h1 := hall e he hb
        have h0 := (mem_ready.1 hr).1
        rw [heq] at h1
        rcases Nat.lt_or_ge i listed.size with h' | h'
        · simp [h'] at h0 h1; rw [h0] at h1; cases h1
        · simp [Array.getElem?_eq_none h'] at h1
      have hjm : j ≠ m := fun e => by
        subst e
        rw [hoj] at hom
        injection hom with hom
        subst hom
        obtain ⟨e, he, hb, heq⟩ := hwait
        exact hnot e he hb heq
      have hml' : (listed.setIfInBounds j true).getD m true = false := by rw [getD_set_ne true hjm]; exact hml
      have hml2 : ((listed.setIfInBounds i true).setIfInBounds j true).getD m true = false := by rw [getD_set_ne true hjm, getD_set_ne true (Ne.symm hmi)]; exact hml
      have h2 := wpOp_putIf hoj (hfree j oj hoj hji hjun hnot) (fun cs b => hsel i oi cs b hi) (fun cs b => hsel j oj cs b hoj) hQ hy h1
      have hfree' : ∀ k ok, ops[k]? = some ok → k ≠ i → (listed.setIfInBounds j true).getD k true = false →
          (∀ e ∈ ok.after, Region.binds md e = true → e.on ≠ i) → oi.apart ops ok = true := fun k ok hk hki hun hno => by
        refine hfree k ok hk hki ?_ hno
        by_cases hjk : j = k
        · subst hjk; exact hjun
        · rw [getD_set_ne true hjk] at hun; exact hun
      refine wpOp_mono (fun a' w' h3 => ⟨fun _ => h3.2.1 hml2, ih (listed.setIfInBounds j true) a' w' hml' hfree' (ready_mono hr (Ne.symm hji)) h3.1 (h3.2.1 hml2) ?_⟩) h2
      rw [Array.setIfInBounds_comm _ _ hji]
      exact h3.2.2
/-- take number i first, its temporary told by its number -/
theorem takeU {i d : Nat} {oi om : Oper} {v : Value} {fuel : Nat} {listed : Array Bool} {a : Act} {w : World} (hi : ops[i]? = some oi) (hd : oi.dst = some d)
    (hs : Region.noSelect ops = true) (hf : Region.free md ops listed i = true) (hr : (Region.ready md ops listed).contains i = true)
    (hQ : ∀ c a w, Q (.panic c) (a.put oi.dst v) w → Q (.panic c) a w) (hmi : m ≠ i) (hom : ops[m]? = some om) (hwait : (om.after.any fun e => Region.binds md e && e.on == i) = true) (hml : listed.getD m true = false) (hy : YieldsIf P ops S oi v a) (hS : S w)
    (h : wpAnyU P md ops Q S m fuel (listed.setIfInBounds i true) (a.put (some d) v) w) : wpAnyU P md ops Q S m (fuel + 1) listed a w := by
  refine wpAnyU_first hi (Region.noSelect_spec hs) hQ hmi hom ?_ fuel listed a w hml (Region.free_spec hi hf) (by simpa using hr) hy hS (by rw [hd]; exact h)
  obtain ⟨k, hk, hb⟩ := Array.any_eq_true.1 hwait
  simp only [Bool.and_eq_true, beq_iff_eq] at hb
  exact ⟨_, Array.getElem_mem _, hb.1, hb.2⟩
/-- one operation alone may come up -/
theorem oneU {i : Nat} {oi : Oper} {fuel : Nat} {listed : Array Bool} {a : Act} {w : World} (hr : Region.ready md ops listed = [i]) (hi : ops[i]? = some oi)
    (h : ∀ K : Act → World → Prop, (∀ a' w', ((listed.setIfInBounds i true).getD m true = false → S w') → wpAnyU P md ops Q S m fuel (listed.setIfInBounds i true) a' w' → K a' w') → if Region.wanted oi (yielded ops a.tmps) = true then Oper.wp P oi a w K Q else K (a.put oi.dst undef) w) : wpAnyU P md ops Q S m (fuel + 1) listed a w := by
  refine ⟨fun h0 => absurd (hr ▸ h0) (by simp), fun j hj => ?_⟩
  rw [hr] at hj
  obtain rfl : j = i := by simpa using hj
  have h1 := h (fun a' w' => ((listed.setIfInBounds j true).getD m true = false → S w') ∧ wpAnyU P md ops Q S m fuel (listed.setIfInBounds j true) a' w') (fun a' w' h1 h2 => ⟨h1, h2⟩)
  unfold wpOp
  simp only [hi]
  split
  · rename_i hw
    rw [if_pos hw] at h1
    exact .inl h1
  · rename_i hw
    rw [if_neg hw] at h1
    exact h1
theorem doneU {listed : Array Bool} {a : Act} {w : World} (hr : Region.ready md ops listed = []) (h : Q .normal a w) : ∀ fuel, wpAnyU P md ops Q S m fuel listed a w
  | 0 => ⟨hr, h⟩
  | _ + 1 => ⟨fun _ => h, by rw [hr]; simp⟩
theorem wp_region_until (m : Nat) (S : World → Prop) {id : Nat} {a : Act} {w : World} (hm : P.follows .mixedOrders = true)
    (h : wpAnyU P .any ops Q S m ops.size (Array.replicate ops.size false) a w.drew) : (Code.region id ops true).wp P Q a w :=
  wp_region_any hm (wpAny_of_until _ _ _ _ h)
end
end Go.Proofs.YtafoklilkdnepaaGreatDoor

/- bywashlaw05.RelopMany's own tables: so many rows of one. -/
namespace Go.Proofs.YtafoklilkdnepaaGreatDoor
open Go.RowKit

/-- append of one more row, as one step of a region that draws its order -/
theorem step_appR {w : World} {ops : Array Oper} {o : Oper} {a : Act} {K : Act → World → Prop} {Q : Exit → Act → World → Prop} {E : Prop} (hgd : o.guard = none) (s x : Operand) (t : TypeId)
    (ho : o.op = .call { callee := .builtin .append, args := #[s, x], argTypes := #[t, t] })
    (e : TypeId) (hinfo : (Tryz.prog.info? e).map (fun i => (i.zero, i.size, i.bytes)) = some (some (.slice none 0 0), 1, 24)) (ht : Tryz.prog.underlying t = some (.slice e))
    (base : Nat) (B : Option Addr) (m c : Nat) (rows : List (List VD)) (hm : rows.length = m) (hs : a.eval s = .slice B m c) (hown : OwnR e base w B c rows)
    (A : Option Addr) (ca : Nat) (r : List VD) (hr : ValsAt w A r) (hA : ∀ b ∈ fpo A, b ∉ fpo B ∧ b < w.heap.size ∧ base ≤ b)
    (g : Nat) (g1 : Nat) (hg1 : g1 = w.heap.size) (hx : a.eval x = .slice (some ⟨g1, 0, none⟩) 1 g) (h63 : m + 1 ≤ 1000000000) {cs : Array Value} (hcs : cs.toList = [.slice A r.length ca])
    (h : ∀ B' c' w', OwnR e base w' B' c' (rows ++ [r]) → Touch (fpo B) (w.alloc (.cells cs e)) w' → (∀ b ∈ fpo B', b ∈ fpo B ∨ b = w.heap.size + 1) → K (a.put o.dst (.slice B' (m + 1) c')) w') :
    if Region.wanted o (yielded ops a.tmps) = true then Oper.wp Tryz.prog o a (w.alloc (.cells cs e)) K Q else E := by
  subst hg1
  obtain ⟨sl, h1, h2, h3⟩ := hown
  have ta := (Touch.refl [] w).alloc (.cells cs e)
  refine step_appK (enc := slE) hgd s x t ho e (.slice none 0 0) 1 24 hinfo ht rfl (by omega) slE_length slE_one B m c sl (by rw [h1.1, hm]) hs (h2.touch0 ta)
    (some ⟨w.heap.size, 0, none⟩) 1 g [⟨A, r.length, ca⟩] rfl hx (RdK.one (enc := slE) w e ⟨A, r.length, ca⟩ cs hcs) h63 (by omega) ?_
  intro B' c' w' hown' t' hf'
  rw [World.size_alloc] at hf'
  have hw := ta.size
  refine h B' c' w' ⟨sl ++ [⟨A, r.length, ca⟩], ⟨by rw [List.length_append, List.length_append, h1.1]; rfl, fun i a1 b1 => ?_⟩, hown', fun s' hs' b hb => ?_⟩ t' hf'
  · by_cases hi : i < sl.length
    · have hi2 : i < rows.length := by rw [← h1.1]; exact hi
      rw [List.getElem_append_left hi, List.getElem_append_left hi2]
      have := h1.2 i hi hi2
      exact ⟨this.1, RdK.touch (RdK.touch0 this.2 ta) t' (fun b hb => (h3 _ (List.getElem_mem hi) b hb).1)⟩
    · have hi' : i = sl.length := by rw [List.length_append] at a1; simp at a1; omega
      subst hi'
      have e1 : (sl ++ [(⟨A, r.length, ca⟩ : SL)])[sl.length] = ⟨A, r.length, ca⟩ := by rw [List.getElem_append_right (Nat.le_refl _)]; simp
      have e2 : (rows ++ [r])[sl.length] = r := by rw [List.getElem_append_right (by rw [h1.1]; exact Nat.le_refl _)]; simp [h1.1]
      rw [e1, e2]
      exact ⟨rfl, RdK.touch (RdK.touch0 hr ta) t' (fun b hb => (hA b hb).1)⟩
  · have key : b ∉ fpo B ∧ b < w.heap.size ∧ base ≤ b := by
      rcases List.mem_append.1 hs' with q | q
      · exact h3 s' q b hb
      · simp only [List.mem_singleton] at q
        subst q
        exact hA b hb
    refine ⟨fun hm' => ?_, Nat.lt_of_lt_of_le key.2.1 (Nat.le_trans hw t'.size), key.2.2⟩
    rcases hf' b hm' with q | q
    · exact key.1 q
    · have := key.2.1; omega

def oneV : VD := ⟨1, 1, ⟨#[]⟩⟩
set_option maxRecDepth 40000 in
set_option maxHeartbeats 6400000 in
theorem mkOnes_any (nm : ByteArray) (k : Nat) (hk : k ≤ 80) (w : World) :
    Calls Tryz.prog 10 #[.string nm, .int .i64 k] w fun e w' => ∃ s r : SL, e = .returned (.agg #[.slice s.A s.n s.c, .slice r.A r.n r.c]) ∧ TabAt w' s r [⟨nm, 1⟩] (List.replicate k [oneV]) ∧ Touch [] w w' := by
  obtain ⟨W, hW⟩ : ∃ W, W = ((w.alloc (.cells #[.slice none 0 0, .slice none 0 0] 27)).alloc (.cells #[.string nm, .int .i64 1] 29)).alloc (.cells #[.slice (some ⟨w.heap.size + 1, 0, none⟩) 1 1, .slice none 0 0] 27) := ⟨_, rfl⟩
  have t0 : Touch [] w W := hW ▸ (((Touch.refl [] w).alloc _).alloc _).alloc _
  have hbr : W.heap[w.heap.size]? = some (.cells #[.slice none 0 0, .slice none 0 0] 27 (0, 0)) := hW ▸ (((Touch.refl [] (w.alloc (.cells #[.slice none 0 0, .slice none 0 0] 27))).alloc (.cells #[.string nm, .int .i64 1] 29)).alloc (.cells #[.slice (some ⟨w.heap.size + 1, 0, none⟩) 1 1, .slice none 0 0] 27)).blk (heap_alloc_new w _) (by simp)
  have hbv : W.heap[w.heap.size + 1 + 1]? = some (.cells #[.slice (some ⟨w.heap.size + 1, 0, none⟩) 1 1, .slice none 0 0] 27 (0, 0)) := by
    have h1 := heap_alloc_new ((w.alloc (.cells #[.slice none 0 0, .slice none 0 0] 27)).alloc (.cells #[.string nm, .int .i64 1] 29)) (.cells #[.slice (some ⟨w.heap.size + 1, 0, none⟩) 1 1, .slice none 0 0] 27)
    rw [World.size_alloc, World.size_alloc] at h1
    exact hW ▸ h1
  have hcs : ColsAt W (some ⟨w.heap.size + 1, 0, none⟩) [⟨nm, 1⟩] := by
    have h1 := RdK.one (enc := cdE) (w.alloc (.cells #[.slice none 0 0, .slice none 0 0] 27)) 29 ⟨nm, 1⟩ #[.string nm, .int .i64 1] rfl
    rw [World.size_alloc] at h1
    exact hW ▸ RdK.touch0 h1 ((Touch.refl [] _).alloc _)
  have hWs : W.heap.size = w.heap.size + 3 := by rw [hW]; simp
  have HW := Lib.hid hW
  have HT0 := Lib.hid (And.intro t0 (And.intro hbr (And.intro hcs hWs)))
  have HB0 := Lib.hid hbv
  have Hof := Lib.hid fun w' => of_num 1 w'
  clear hW t0 hbr hbv hcs hWs
  go_enter Tryz.func10, Tryz.ntmps10
  go_wp2_with fail
  rw [← HW.out]
  go_loopw [11] (fun i wr => ∃ (j : Nat) (B : Option Addr) (c : Nat), j ≤ k ∧ i = .int .i64 j ∧ Hid (OwnR 33 W.heap.size wr B c (List.replicate j [oneV])) ∧ Hid (∀ b ∈ fpo B, W.heap.size ≤ b) ∧ Hid (wr.heap[w.heap.size + 1 + 1]? = some (.cells #[.slice (some ⟨w.heap.size + 1, 0, none⟩) 1 1, .slice B j c] 27 (0, 0))) ∧ Hid (Touch [w.heap.size + 1 + 1] W wr)) (fun i _ => k - (intOf i).toNat)
  case atStart => exact ⟨0, none, 0, by omega, rfl, Lib.hid (OwnR.nil _ _ _), Lib.hid (by simp [fpo]), HB0, Lib.hid (Touch.refl _ _)⟩
  case round =>
    obtain ⟨j, B, c, hj, rfl, HO, HF, HB, HT⟩ := hrel
    have hWs := HT0.out.2.2.2
    have HWs := Lib.hid hWs
    by_cases hlt : j < k
    · have td := (Touch.refl [] wr).drew
      obtain ⟨c0, c1, y0, y1⟩ := blk2 (td.blk HB.out (by simp))
      have HD := Lib.hid (And.intro td (td.blk HB.out (by simp)))
      have hjn : (j : Int) < (k : Int) := by omega
      clear td hWs y0 y1
      go_wp2_with fail
      obtain ⟨wd, hwd⟩ : ∃ wd, wd = wr.drew := ⟨_, rfl⟩
      rw [← hwd] at HD c0 c1
      have HWD := Lib.hid hwd
      refine wp_region_until 7 (fun w' : World => w'.cell? ⟨w.heap.size + 1 + 1, 1, none⟩ = some (.slice B j c)) (by kernel_rfl) ?_
      rw [← hwd]
      clear hwd
      have hHd : (fun w' : World => w'.cell? ⟨w.heap.size + 1 + 1, 1, none⟩ = some (.slice B j c)) wd := c1
      refine takeU (i := 0) (d := 13) (v := ?_) rfl rfl (by kernel_rfl) (by kernel_rfl) (by kernel_rfl) (fun _ _ _ h => h) (by decide) rfl (by kernel_rfl) (by kernel_rfl) (Or.inl ⟨by rfl, ?_⟩) hHd ?_
      rotate_left
      · intro w hSw; (try dsimp only at hSw); go_simp; (try with_reducible rfl)
      try simp only [Act.put, List.setIfInBounds_toArray, List.set_cons_zero, List.set_cons_succ]
      refine takeU (i := 1) (d := 14) (v := ?_) rfl rfl (by kernel_rfl) (by kernel_rfl) (by kernel_rfl) (fun _ _ _ h => h) (by decide) rfl (by kernel_rfl) (by kernel_rfl) (Or.inl ⟨by rfl, ?_⟩) hHd ?_
      rotate_left
      · intro w hSw; (try dsimp only at hSw); go_simp; (try with_reducible rfl)
      try simp only [Act.put, List.setIfInBounds_toArray, List.set_cons_zero, List.set_cons_succ]
      refine oneU (i := 2) (by kernel_rfl) rfl (fun K hK => ?_)
      go_simp
      refine (Hof.out _).mono ?_
      rintro e w1 ⟨rfl, t1⟩
      go_simp
      have hH1 : (fun w' : World => w'.cell? ⟨w.heap.size + 1 + 1, 1, none⟩ = some (.slice B j c)) w1 := t1.cell c1 (by simp)
      refine hK _ _ (fun _ => hH1) ?_
      clear hK K
      try simp only [Act.put, List.setIfInBounds_toArray, List.set_cons_zero, List.set_cons_succ]
      refine oneU (i := 3) (by kernel_rfl) rfl (fun K hK => ?_)
      go_simp
      have tz := (Touch.refl [] w1).alloc (.cells #[.int .i64 1, .int .i64 1, .string ⟨#[]⟩] 31)
      have hH2 : (fun w' : World => w'.cell? ⟨w.heap.size + 1 + 1, 1, none⟩ = some (.slice B j c)) (w1.alloc (.cells #[.int .i64 1, .int .i64 1, .string ⟨#[]⟩] 31)) := tz.cell hH1 (by simp)
      refine hK _ _ (fun _ => hH2) ?_
      clear hK K
      try simp only [Act.put, List.setIfInBounds_toArray, List.set_cons_zero, List.set_cons_succ]
      refine oneU (i := 4) (by kernel_rfl) rfl (fun K hK => ?_)
      go_simp
      have tz2 := tz.alloc (.cells #[.slice (some ⟨w1.heap.size, 0, none⟩) 1 1] 33)
      have hH3 : (fun w' : World => w'.cell? ⟨w.heap.size + 1 + 1, 1, none⟩ = some (.slice B j c)) ((w1.alloc (.cells #[.int .i64 1, .int .i64 1, .string ⟨#[]⟩] 31)).alloc (.cells #[.slice (some ⟨w1.heap.size, 0, none⟩) 1 1] 33)) := tz2.cell hH1 (by simp)
      refine hK _ _ (fun _ => hH3) ?_
      clear hK K
      try simp only [Act.put, List.setIfInBounds_toArray, List.set_cons_zero, List.set_cons_succ]
      refine oneU (i := 5) (by kernel_rfl) rfl (fun K hK => ?_)
      have hrow := RdK.one (enc := vdE) w1 31 oneV #[.int .i64 1, .int .i64 1, .string ⟨#[]⟩] rfl
      have hBlt := HO.out.lt
      have hs1 := (HD.out.1.trans0 t1).size
      refine step_appR rfl (.tmp 14) (.tmp 17) 25 rfl 33 info_r5 Tryz.underlying25 W.heap.size B j c (List.replicate j [oneV]) (by rw [List.length_replicate]) rfl (HO.out.touch0 ((HD.out.1.trans0 t1).trans0 tz)) (some ⟨w1.heap.size, 0, none⟩) 1 [oneV] hrow
        (fun b hb => ⟨fun q => by have := hBlt b q; simp [fpo] at hb; omega, by simp [fpo] at hb; rw [World.size_alloc]; omega, by simp [fpo] at hb; have := HT.out.size; omega⟩) 1 _ (by rw [World.size_alloc]) rfl (by omega) rfl ?_
      intro B' c' w2 hown ht hf
      have hg5 : w.heap.size + 1 + 1 ∉ fpo B := fun q => by have := HF.out _ q; have := HWs.out; omega
      have hH4 : (fun w' : World => w'.cell? ⟨w.heap.size + 1 + 1, 1, none⟩ = some (.slice B j c)) w2 := ht.cell hH3 hg5
      refine hK _ _ (fun _ => hH4) ?_
      clear hK K
      try simp only [Act.put, List.setIfInBounds_toArray]
      refine takeU (i := 6) (d := 19) (v := ?_) rfl rfl (by kernel_rfl) (by kernel_rfl) (by kernel_rfl) (fun _ _ _ h => h) (by decide) rfl (by kernel_rfl) (by kernel_rfl) (Or.inl ⟨by rfl, ?_⟩) hH4 ?_
      rotate_left
      · intro w hSw; (try dsimp only at hSw); go_simp; (try with_reducible rfl)
      try simp only [Act.put]
      have hb2 := ht.blk ((((HD.out.1.trans0 t1).trans0 tz2).blk HB.out (by simp))) hg5
      obtain ⟨z0, z1, f0, f1⟩ := blk2 hb2
      refine oneU (i := 7) (by kernel_rfl) rfl (fun K hK => ?_)
      go_simp
      refine hK _ _ (fun h => by cases h) ?_
      clear hK K
      refine doneU (by kernel_rfl) ?_ _
      have hT2 := ((HT.out.trans (HD.out.1.trans0 t1) (by simp)).trans tz2 (by simp)).trans ht (fun b hb => .inr (HF.out b hb))
      have HX := Lib.hid (And.intro hown (And.intro hT2 (And.intro hf (And.intro hb2 (Nat.le_trans HT.out.size hs1)))))
      clear hown hT2 hf hb2 ht tz tz2 hH1 hH2 hH3 hH4 hHd hrow hBlt hs1
      go_wp2_with fail
      go_roundw
      case rel =>
        obtain ⟨hown, hT2, hf, hb2, hs⟩ := HX.out
        have tq : Touch [w.heap.size + 1 + 1] w2 (w2.setCell ⟨w.heap.size + 1 + 1, 1, none⟩ (.slice B' (j + 1) c')) := (Touch.refl [w.heap.size + 1 + 1] w2).setCell (p := ⟨w.heap.size + 1 + 1, 1, none⟩) (.inl (by simp)) _
        have hF' : ∀ b ∈ fpo B', W.heap.size ≤ b := fun b hb => by
          rcases hf b hb with q | q
          · exact HF.out b q
          · rw [World.size_alloc] at q; omega
        exact ⟨j + 1, B', c', by omega, by go_num, Lib.hid (by rw [List.replicate_succ']; exact hown.touch tq (fun b hb => by have := HWs.out; simp at hb; omega) hF'), Lib.hid hF', Lib.hid (set_blk hb2 1 _), Lib.hid (hT2.trans tq (fun b hb => .inl hb))⟩
      case measure => simp [intOf]; omega
    · obtain rfl : j = k := by omega
      obtain ⟨c0, c1, _, _⟩ := blk2 HB.out
      obtain ⟨z0, z1, y0, y1⟩ := blk2 (HT.out.blk HT0.out.2.1 (by simp; omega))
      clear hWs
      go_wp2_with fail
      have hr2 := HT.out.blk HT0.out.2.1 (by simp; omega)
      have tq := touch2 wr w.heap.size (.slice (some ⟨w.heap.size + 1, 0, none⟩) 1 1) (.slice B j c)
      have hWs := HWs.out
      refine bodyPost_ret (results_cell_row rfl _ _ w.heap.size _ _ _ _ rfl (set2 hr2 rfl _ _) Tryz.underlying27 rfl rfl) rfl ⟨⟨some ⟨w.heap.size + 1, 0, none⟩, 1, 1⟩, ⟨B, j, c⟩, rfl, ⟨rfl, Nat.le_refl _, ?_, by rw [List.length_replicate], ?_⟩, ?_⟩
      · exact RdK.touch (RdK.touch HT0.out.2.2.1 HT.out (fun b hb hm => by simp [fpo] at hb hm; omega)) tq (fun b hb hm => by simp [fpo] at hb hm; omega)
      · exact (HO.out.touch tq (fun b hb => by simp at hb; omega) HF.out).rowsAt
      · exact (HT0.out.1.trans HT.out (fun b hb => .inr (by simp at hb; omega))).trans tq (fun b hb => .inr (by simp at hb; omega))
end Go.Proofs.YtafoklilkdnepaaGreatDoor

/- value.Value.Show at small numbers. -/
namespace Go.Proofs.YtafoklilkdnepaaGreatDoor
open Go.RowKit

set_option maxRecDepth 20000 in
set_option maxHeartbeats 1600000 in
theorem show_small (n : Nat) (hn : n < 100) (w : World) : Calls Tryz.prog 170 #[.agg #[.int .i64 1, .int .i64 n, .string ⟨#[]⟩]] w fun e w' => e = .returned (.string ⟨(Lib.decDigits n).toArray⟩) ∧ Touch [] w w' := by
  have t0 := (Touch.refl [] w).alloc (.cells #[.int .i64 1, .int .i64 n, .string ⟨#[]⟩] 31)
  have hb := heap_alloc_new w (.cells #[.int .i64 1, .int .i64 n, .string ⟨#[]⟩] 31)
  have Hr := Lib.hid (right_any ⟨1, n, ⟨#[]⟩⟩ (by show 0 ≤ _; omega) (w.alloc (.cells #[.int .i64 1, .int .i64 n, .string ⟨#[]⟩] 31)))
  have hrr : VD.right ⟨1, (n : Int), ⟨#[]⟩⟩ = true := by unfold VD.right; rw [toList_B]; rfl
  rw [hrr] at Hr
  have Hi := Lib.hid fun w' => Tryz.strconv_Itoa_small n hn w'
  have HB := Lib.hid (And.intro t0 hb)
  simp only [VD.val] at Hr
  clear t0 hb hrr
  go_enter Tryz.func170, Tryz.ntmps170
  go_wp2_with fail
  refine Hr.out.mono ?_
  rintro e w1 ⟨rfl, t1⟩
  obtain ⟨z0, z1, z2, _, _, _⟩ := blk3 (t1.blk HB.out.2 (by simp))
  have HT := Lib.hid (HB.out.1.trans0 t1)
  clear t1
  go_wp2_with fail
  refine (Hi.out _).mono ?_
  rintro e w2 ⟨rfl, hw⟩
  have HW := Lib.hid hw
  clear hw
  go_wp2_with fail
  go_ret
  exact ⟨rfl, by rw [HW.out]; exact HT.out⟩
theorem showAt_one (w : World) : ShowAt w ⟨1, 1, ⟨#[]⟩⟩ := fun w' _ => by
  have h := show_small 1 (by omega) w'
  have e : S (showL ⟨1, 1, ⟨#[]⟩⟩) = ⟨(Lib.decDigits 1).toArray⟩ := by
    have hr : VD.right ⟨1, 1, ⟨#[]⟩⟩ = true := by unfold VD.right; rw [toList_B]; rfl
    unfold showL
    rw [if_neg (by rw [hr]; simp), if_neg (by simp), if_pos rfl]
    rfl
  rw [e]
  exact h
end Go.Proofs.YtafoklilkdnepaaGreatDoor

/- A join of so many rows of one with so many: what it tells. -/
namespace Go.Proofs.YtafoklilkdnepaaGreatDoor
open Go.RowKit

def aN : ByteArray := ⟨#[97]⟩
def bN : ByteArray := ⟨#[98]⟩
def xN : ByteArray := ⟨#[120]⟩
def yN : ByteArray := ⟨#[121]⟩
def ones (k : Nat) : List (List VD) := List.replicate k [oneV]
def manyL (n m : Nat) : List SrcD := [⟨⟨#[120]⟩, [⟨⟨#[97]⟩, 1⟩], ones n⟩, ⟨⟨#[121]⟩, [⟨⟨#[98]⟩, 1⟩], ones m⟩]
def manyC (go_ gp : Nat) : PC := ⟨4, ⟨#[]⟩, ⟨some ⟨gp, 0, none⟩, 2, 2⟩, zeroX, noS, noS, ⟨some ⟨go_, 0, none⟩, 1, 1⟩, noS, noS, 0⟩
theorem cmpR_self (r : List VD) : cmpRV r r = 0 := by have := cmpRV_neg r r; omega
theorem rep_sorted (k : Nat) (r : List VD) : sortedV (List.replicate k r) = true := sorted_yes fun p hp => by
  rw [List.getElem_replicate, List.getElem_replicate, cmpR_self]; omega
theorem rep_sortR (k : Nat) (r : List VD) : sortR (List.replicate k r) = List.replicate k r := (sortR_of (rows := List.replicate k r) ⟨.refl _, List.pairwise_replicate.2 (.inr (by rw [cmpR_self]; omega))⟩).symm
theorem rep_fit (k : Nat) (cs : List CD) (r : List VD) (hk : k ≤ 4096) (h1 : checkV cs = 0) (h2 : fitR cs r = true) : fitV cs (List.replicate k r) = 0 := by
  unfold fitV
  rw [if_pos h1, if_neg (by rw [List.length_replicate]; omega), if_pos]
  rw [List.all_eq_true]
  intro x hx
  rw [(List.mem_replicate.1 hx).2]; exact h2
theorem fit_one (c : CD) (h : c.typ = 1) : fitR [c] [oneV] = true := by
  have := fitC_num c 1 h
  unfold fitR oneV
  simp [this]
theorem fit_two (c d : CD) (h : c.typ = 1) (h2 : d.typ = 1) : fitR [c, d] [oneV, oneV] = true := by
  have h3 := fitC_num c 1 h
  have h4 := fitC_num d 1 h2
  unfold fitR oneV
  simp [h3, h4]
theorem check_a : checkV [⟨⟨#[97]⟩, 1⟩] = 0 := by decide +kernel
theorem check_b : checkV [⟨⟨#[98]⟩, 1⟩] = 0 := by decide +kernel
theorem check_ab : checkV [⟨⟨#[97]⟩, 1⟩, ⟨⟨#[98]⟩, 1⟩] = 0 := by decide +kernel
theorem ones_check (c : CD) (k : Nat) (hk : k ≤ 4096) (h : checkV [c] = 0) (h1 : c.typ = 1) : checkT [c] (ones k) = 0 := by
  unfold checkT ones
  rw [if_pos (rep_fit k [c] [oneV] hk h (fit_one c h1)), if_pos (rep_sorted _ _)]
theorem srcI_x (n m : Nat) : srcI (manyL n m) ⟨#[120]⟩ = some 0 := srcI_some (l := manyL n m) (k := 0) (by simp [manyL]) rfl (fun j hj => absurd hj (by omega))
theorem srcI_y (n m : Nat) : srcI (manyL n m) ⟨#[121]⟩ = some 1 := srcI_some (l := manyL n m) (k := 1) (by simp [manyL]) rfl (fun j hj => by
  obtain rfl : j = 0 := by omega
  show (⟨#[120]⟩ : ByteArray) ≠ ⟨#[121]⟩
  decide)
theorem scan_x (n m : Nat) (hn : n ≤ 4096) : scanV (manyL n m) ⟨#[120]⟩ = (0, [⟨⟨#[97]⟩, 1⟩]) := by
  unfold scanV
  rw [srcI_x]
  simp only [manyL, List.getElem?_cons_zero]
  exact if_pos (ones_check _ n hn check_a rfl)
theorem scan_y (n m : Nat) (hm : m ≤ 4096) : scanV (manyL n m) ⟨#[121]⟩ = (0, [⟨⟨#[98]⟩, 1⟩]) := by
  unfold scanV
  rw [srcI_y]
  simp only [manyL, List.getElem?_cons_succ, List.getElem?_cons_zero]
  exact if_pos (ones_check _ m hm check_b rfl)
theorem place_a : placeV [⟨⟨#[97]⟩, 1⟩] ⟨#[97]⟩ = some 0 := placeV_some (cs := [⟨⟨#[97]⟩, 1⟩]) (k := 0) (by simp) rfl (fun j hj => absurd hj (by omega))
theorem place_b : placeV [⟨⟨#[98]⟩, 1⟩] ⟨#[98]⟩ = some 0 := placeV_some (cs := [⟨⟨#[98]⟩, 1⟩]) (k := 0) (by simp) rfl (fun j hj => absurd hj (by omega))
theorem on_ab : onV [⟨⟨#[97]⟩, 1⟩] [⟨⟨#[98]⟩, 1⟩] [(⟨#[97]⟩, ⟨#[98]⟩)] = 0 := by
  have h1 : typO [⟨⟨#[97]⟩, 1⟩] ⟨#[97]⟩ = some 1 := by unfold typO; rw [place_a]; rfl
  have h2 : typO [⟨⟨#[98]⟩, 1⟩] ⟨#[98]⟩ = some 1 := by unfold typO; rw [place_b]; rfl
  unfold onV
  rw [if_neg (by simp)]
  simp only [onL, h1, h2]
  rfl
theorem place1 : placesV [⟨⟨#[97]⟩, 1⟩] ([((⟨#[97]⟩ : ByteArray), (⟨#[98]⟩ : ByteArray))].map (·.1)) = [0] := by
  unfold placesV; simp [place_a]
theorem place2 : placesV [⟨⟨#[98]⟩, 1⟩] ([((⟨#[97]⟩ : ByteArray), (⟨#[98]⟩ : ByteArray))].map (·.2)) = [0] := by
  unfold placesV; simp [place_b]
theorem found_ones (m : Nat) : foundR false 1 (ones m) [0] [0] [oneV] = ones m := by
  have hp : pickV [oneV] [0] = [oneV] := rfl
  have hn : nullV [oneV] = false := rfl
  have hg : ∀ i, i < m → (ones m).getD i [] = [oneV] := fun i hi => by unfold ones; simp [hi]
  have hs : selK (okI (ones m) [0]) (keyI (ones m) [0]) (ones m).length (keyL [oneV]) = List.range m := by
    unfold selK
    have hl : (ones m).length = m := by unfold ones; rw [List.length_replicate]
    rw [hl, List.filter_eq_self]
    intro i hi
    have hi := List.mem_range.1 hi
    unfold okI keyI
    rw [hg i hi, hp, hn]
    simp
  have hf : foundI (ones m) [0] [0] [oneV] = List.range m := by
    unfold foundI
    rw [hp, hn, if_neg (by simp), hs]
  unfold foundR
  rw [hf, if_neg (fun q => by cases q.2)]
  apply List.ext_getElem
  · unfold ones; simp
  · intro i h1 h2
    have hi : i < m := by simpa using h1
    rw [List.getElem_map, List.getElem_range, hg i hi]
    simp [ones]
theorem join_ones (n m : Nat) : joinL false 1 (ones n) (ones m) [0] [0] = List.replicate (n * m) [oneV, oneV] := by
  have hr : (foundR false 1 (ones m) [0] [0] [oneV]).map (fun o => [oneV] ++ o) = List.replicate m [oneV, oneV] := by
    rw [found_ones]; unfold ones; rw [List.map_replicate]; rfl
  unfold joinL
  induction n with
  | zero => simp [ones]
  | succ n ih =>
    have e : ones (n + 1) = [oneV] :: ones n := rfl
    rw [e, List.flatMap_cons, ih, hr, List.replicate_append_replicate, Nat.succ_mul, Nat.add_comm]
theorem goodOnes (w : World) (k : Nat) : GoodR w (ones k) 1 := fun r hr => by
  have := (List.mem_replicate.1 hr).2
  subst this
  exact ⟨rfl, fun v hv => by
    simp only [List.mem_singleton] at hv
    subst hv
    exact ⟨showAt_one w, ⟨by constructor <;> (dsimp only [oneV]; omega), by constructor <;> (dsimp only [oneV]; omega), Nat.zero_le _⟩⟩⟩
theorem ones_ok (k : Nat) : RowsOk (ones k) := fun r hr => by
  have := (List.mem_replicate.1 hr).2
  subst this
  exact ⟨by simp, fun v hv => by
    simp only [List.mem_singleton] at hv
    subst hv
    exact ⟨by constructor <;> (dsimp only [oneV]; omega), by constructor <;> (dsimp only [oneV]; omega), Nat.zero_le _⟩⟩
theorem ones2_ok (k : Nat) : RowsOk (List.replicate k [oneV, oneV]) ∧ RowsLe (List.replicate k [oneV, oneV]) := by
  constructor
  · intro r hr
    have := (List.mem_replicate.1 hr).2
    subst this
    exact ⟨by simp, fun v hv => by
      simp only [List.mem_cons, List.not_mem_nil, or_false, or_self] at hv
      subst hv
      exact ⟨by constructor <;> (dsimp only [oneV]; omega), by constructor <;> (dsimp only [oneV]; omega), Nat.zero_le _⟩⟩
  · intro r hr
    have := (List.mem_replicate.1 hr).2
    subst this
    simp
theorem many_ok (n m : Nat) (hn : n ≤ 4096) (hm : m ≤ 4096) : ∀ d ∈ manyL n m, d.Ok := fun d hd => by
  have hc : ∀ b : ByteArray, b.size ≤ 100 → ∀ c ∈ [(⟨b, 1⟩ : CD)], c.Ok := fun b hb c hc => by
    simp only [List.mem_singleton] at hc
    subst hc
    exact ⟨by dsimp only; omega, by constructor <;> (dsimp only; omega)⟩
  simp only [manyL, List.mem_cons, List.not_mem_nil, or_false] at hd
  rcases hd with rfl | rfl
  · exact ⟨hc _ (by decide), by simp, ones_ok n, by simp [ones]; omega⟩
  · exact ⟨hc _ (by decide), by simp, ones_ok m, by simp [ones]; omega⟩

theorem nodeE_err {vs : List (Int × List CD × List (List VD))} {cs : List CD} {rv : Int × List (List VD)} (h1 : errL (vs.map fun v => (v.1, v.2.1)) = 0) (h2 : rv.1 ≠ 0) : nodeE vs cs rv = (rv.1, [], []) := by
  unfold nodeE
  rw [if_pos h1, if_neg h2]
theorem many_eval (n m : Nat) (hn : n ≤ 80) (hm : m ≤ 80) (go_ gp gi : Nat) (W : World) (hG : NeedsAt W) (hS : SrcsAt W (some ⟨gi, 0, none⟩) (manyL n m)) (hp : RdK pcE W (some ⟨gp, 0, none⟩) [scanC ⟨#[120]⟩, scanC ⟨#[121]⟩]) (ho : RdK prE W (some ⟨go_, 0, none⟩) [(⟨#[97]⟩, ⟨#[98]⟩)]) :
    Calls Tryz.prog 12 #[(manyC go_ gp).val, .slice (some ⟨gi, 0, none⟩) 2 2] W fun e w' => Touch [] W w' ∧ (4096 < n * m → ∃ SA sc RA rc, e = .returned (.tuple #[.agg #[.slice SA 0 sc, .slice RA 0 rc], .int .i64 31])) ∧ (n * m ≤ 4096 → ∃ SA sc RA rc, e = .returned (.tuple #[.agg #[.slice SA 2 sc, .slice RA (n * m) rc], .int .i64 0])) := by
  have hok := many_ok n m (by omega) (by omega)
  have hcab : ∀ c ∈ [(⟨⟨#[97]⟩, 1⟩ : CD), ⟨⟨#[98]⟩, 1⟩], c.Ok := fun c hc => by
    simp only [List.mem_cons, List.not_mem_nil, or_false] at hc
    rcases hc with rfl | rfl
    · exact ⟨by show 1 ≤ _; omega, by constructor <;> (dsimp only; omega)⟩
    · exact ⟨by show 1 ≤ _; omega, by constructor <;> (dsimp only; omega)⟩
  have hszL : ∀ s W', SizeC W' (scanC s) 1 := fun s W' => sizeC_leaf _ rfl W'
  have hsz : SizeC W (manyC go_ gp) 3 := sizeC_node _ [scanC ⟨#[120]⟩, scanC ⟨#[121]⟩] [1, 1] W rfl rfl hp (fun i a b => by
    have : i = 0 ∨ i = 1 := by simp at a; omega
    rcases this with rfl | rfl
    · exact hszL _ W
    · exact hszL _ W) (by simp) (by show 2 ≤ _; omega)
  have hsch : SchemaC W (manyC go_ gp) [[⟨⟨#[97]⟩, 1⟩], [⟨⟨#[98]⟩, 1⟩]] (0, [⟨⟨#[97]⟩, 1⟩, ⟨⟨#[98]⟩, 1⟩]) := by
    have := schemaC_join (manyC go_ gp) rfl [(⟨#[97]⟩, ⟨#[98]⟩)] rfl (by simp) [⟨⟨#[97]⟩, 1⟩] [⟨⟨#[98]⟩, 1⟩] (by simp) (by simp) W ho
    rw [on_ab] at this
    exact this
  have hty : TypedC W (some ⟨gi, 0, none⟩) 2 2 (manyC go_ gp) 1 (0, [⟨⟨#[97]⟩, 1⟩, ⟨⟨#[98]⟩, 1⟩]) := by
    have h1 := typedC_node (manyC go_ gp) 4 2 rfl (by omega) (by omega) rfl rfl 1 (by omega) (by omega) (some ⟨gi, 0, none⟩) 2 2 W hG [scanC ⟨#[120]⟩, scanC ⟨#[121]⟩] [(0, [⟨⟨#[97]⟩, 1⟩]), (0, [⟨⟨#[98]⟩, 1⟩])] rfl rfl hp (fun i a b => by
      have : i = 0 ∨ i = 1 := by simp at a; omega
      rcases this with rfl | rfl
      · have := typedC_scan (scanC ⟨#[120]⟩) rfl rfl (1 + 1) (by omega) (some ⟨gi, 0, none⟩) 2 2 (manyL n m) rfl (by omega) hok W hG hS
        rw [show (scanC ⟨#[120]⟩).name = ⟨#[120]⟩ from rfl, scan_x n m (by omega)] at this
        exact this
      · have := typedC_scan (scanC ⟨#[121]⟩) rfl rfl (1 + 1) (by omega) (some ⟨gi, 0, none⟩) 2 2 (manyL n m) rfl (by omega) hok W hG hS
        rw [show (scanC ⟨#[121]⟩).name = ⟨#[121]⟩ from rfl, scan_y n m (by omega)] at this
        exact this) (0, [⟨⟨#[97]⟩, 1⟩, ⟨⟨#[98]⟩, 1⟩]) (fun _ => hsch) hcab (by simp)
    rw [nodeV_ok rfl rfl check_ab] at h1
    exact h1
  have hq : n * m ≤ 80 * 80 := Nat.mul_le_mul hn hm
  have hrw : RowsC W (manyC go_ gp) [([⟨⟨#[97]⟩, 1⟩], ones n), ([⟨⟨#[98]⟩, 1⟩], ones m)] (if 4096 < n * m then (31, []) else (0, List.replicate (n * m) [oneV, oneV])) := by
    have := rowsC_join (manyC go_ gp) rfl [(⟨#[97]⟩, ⟨#[98]⟩)] rfl (by simp) [⟨⟨#[97]⟩, 1⟩] [⟨⟨#[98]⟩, 1⟩] (ones n) (ones m) W ho (goodOnes W n) (goodOnes W m) (by simp) (by simp) (by simp) (by simp) (by simp [ones]; omega) (by simp [ones]; omega)
    rw [place1, place2] at this
    unfold joinV at this
    rw [show ([⟨⟨#[98]⟩, 1⟩] : List CD).length = 1 from rfl, join_ones, List.length_replicate] at this
    exact this
  have hev : EvalC W (some ⟨gi, 0, none⟩) 2 2 (manyC go_ gp) (nodeE [(0, [⟨⟨#[97]⟩, 1⟩], ones n), (0, [⟨⟨#[98]⟩, 1⟩], ones m)] [⟨⟨#[97]⟩, 1⟩, ⟨⟨#[98]⟩, 1⟩] (if 4096 < n * m then (31, []) else (0, List.replicate (n * m) [oneV, oneV]))) := by
    have hon : ∀ k : Nat, k ≤ 80 → (ones k).length ≤ 1000000 ∧ RowsLe (ones k) := fun k hk => ⟨by simp [ones]; omega, fun r hr => by
      have := (List.mem_replicate.1 hr).2
      subst this; simp⟩
    refine evalC_node (manyC go_ gp) 4 2 rfl (by omega) rfl (by omega) (some ⟨gi, 0, none⟩) 2 2 W [scanC ⟨#[120]⟩, scanC ⟨#[121]⟩] [(0, [⟨⟨#[97]⟩, 1⟩], ones n), (0, [⟨⟨#[98]⟩, 1⟩], ones m)] rfl rfl hp (fun i a b => ?_) 0 [⟨⟨#[97]⟩, 1⟩, ⟨⟨#[98]⟩, 1⟩] (fun _ => hsch) (if 4096 < n * m then (31, []) else (0, List.replicate (n * m) [oneV, oneV])) (fun _ => hrw) hcab (by simp) ?_ ?_ ?_
    · have : i = 0 ∨ i = 1 := by simp at a; omega
      rcases this with rfl | rfl
      · exact evalC_scan (scanC ⟨#[120]⟩) rfl rfl (some ⟨gi, 0, none⟩) 2 2 (manyL n m) rfl (by omega) 0 (by simp [manyL]) (srcI_x n m) (by simp [manyL]) (hon n hn).1 (hon n hn).2 W hS
      · exact evalC_scan (scanC ⟨#[121]⟩) rfl rfl (some ⟨gi, 0, none⟩) 2 2 (manyL n m) rfl (by omega) 1 (by simp [manyL]) (srcI_y n m) (by simp [manyL]) (hon m hm).1 (hon m hm).2 W hS
    · split
      · intro r hr; simp at hr
      · exact (ones2_ok _).1
    · split
      · intro r hr; simp at hr
      · exact (ones2_ok _).2
    · split
      · simp
      · simp; omega
  refine (evalTop (manyC go_ gp) 3 (by omega) (some ⟨gi, 0, none⟩) 2 2 (0, [⟨⟨#[97]⟩, 1⟩, ⟨⟨#[98]⟩, 1⟩]) _ W hsz hty (fun _ => hev)).mono ?_
  intro e w' h
  have htop : ∀ ev, topV (0, [⟨⟨#[97]⟩, 1⟩, ⟨⟨#[98]⟩, 1⟩]) ev = ev := fun ev => by unfold topV; rw [if_pos rfl]
  rw [htop] at h
  by_cases hb : 4096 < n * m
  · have hv : nodeE [(0, [⟨⟨#[97]⟩, 1⟩], ones n), (0, [⟨⟨#[98]⟩, 1⟩], ones m)] [⟨⟨#[97]⟩, 1⟩, ⟨⟨#[98]⟩, 1⟩] (if 4096 < n * m then (31, []) else (0, List.replicate (n * m) [oneV, oneV])) = (31, [], []) := by
      rw [if_pos hb, nodeE_err rfl (by decide)]
    rw [hv] at h
    obtain ⟨⟨SA, sn, sc⟩, ⟨RA, rn, rc⟩, he, hn', ht⟩ := h
    have h1 : sn = 0 := hn'.n
    have h2 : rn = 0 := hn'.m
    subst h1 h2
    exact ⟨ht, fun _ => ⟨SA, sc, RA, rc, he⟩, fun q => absurd hb (by omega)⟩
  · have hv : nodeE [(0, [⟨⟨#[97]⟩, 1⟩], ones n), (0, [⟨⟨#[98]⟩, 1⟩], ones m)] [⟨⟨#[97]⟩, 1⟩, ⟨⟨#[98]⟩, 1⟩] (if 4096 < n * m then (31, []) else (0, List.replicate (n * m) [oneV, oneV])) = (0, [⟨⟨#[97]⟩, 1⟩, ⟨⟨#[98]⟩, 1⟩], List.replicate (n * m) [oneV, oneV]) := by
      rw [if_neg hb, nodeE_ok rfl rfl (rep_fit (n * m) _ _ (by omega) check_ab (fit_two _ _ rfl rfl)), rep_sortR]
    rw [hv] at h
    obtain ⟨⟨SA, sn, sc⟩, ⟨RA, rn, rc⟩, he, hn', ht⟩ := h
    have h1 : sn = 2 := hn'.n
    have h2 : rn = n * m := by have := hn'.m; simpa using this
    subst h1 h2
    exact ⟨ht, fun q => absurd q hb, fun _ => ⟨SA, sc, RA, rc, he⟩⟩
end Go.Proofs.YtafoklilkdnepaaGreatDoor

/- bywashlaw05.RelopMany: true, whatever the input. -/
namespace Go.Proofs.YtafoklilkdnepaaGreatDoor
open Go.RowKit

set_option maxRecDepth 100000 in
set_option maxHeartbeats 12800000 in
theorem many_in (n m : Nat) (hn : n ≤ 80) (hm : m ≤ 80) (w : World) (hG : NeedsAt w) : Calls Tryz.prog 3 #[.int .i64 n, .int .i64 m] w fun e w' => e = .returned (.bool true) ∧ Touch [] w w' := by
  have h1 : ((n : Int) < 0) = False := by simp
  have h2 : ((m : Int) < 0) = False := by simp
  have h3 : (80 < (n : Int)) = False := by simp; omega
  have h4 : (80 < (m : Int)) = False := by simp; omega
  have Ha := Lib.hid (mkOnes_any ⟨#[97]⟩ n hn w)
  have Hb := Lib.hid fun w' => mkOnes_any ⟨#[98]⟩ m hm w'
  have HGn := Lib.hid hG
  clear hG
  go_enter Tryz.func3, Tryz.ntmps3
  go_wp2_with fail
  refine Ha.out.mono ?_
  rintro e w1 ⟨⟨A1, a1, c1⟩, ⟨R1, r1, d1⟩, rfl, hT1, t1⟩
  have HT1 := Lib.hid (And.intro hT1 t1)
  clear hT1 t1 Ha
  go_wp2_with fail
  refine (Hb.out _).mono ?_
  rintro e w2 ⟨⟨A2, a2, c2⟩, ⟨R2, r2, d2⟩, rfl, hT2, t2⟩
  have HT2 := Lib.hid (And.intro hT2 t2)
  clear hT2 t2 Hb
  obtain ⟨W, hW⟩ : ∃ W, W = (((w2.alloc (.cells #[.string ⟨#[120]⟩, .slice A1 a1 c1, .slice R1 r1 d1, .string ⟨#[121]⟩, .slice A2 a2 c2, .slice R2 r2 d2] 36)).alloc (.cells #[.string ⟨#[97]⟩, .string ⟨#[98]⟩] 39)).alloc (.cells #[.int .i64 1, .string ⟨#[120]⟩, .slice none 0 0, .int .i64 0, .string ⟨#[]⟩, .int .i64 0, .int .i64 0, .string ⟨#[]⟩, .string ⟨#[]⟩, .slice none 0 0, .slice none 0 0, .slice none 0 0, .slice none 0 0, .slice none 0 0, .slice none 0 0, .int .i64 0, .int .i64 1, .string ⟨#[121]⟩, .slice none 0 0, .int .i64 0, .string ⟨#[]⟩, .int .i64 0, .int .i64 0, .string ⟨#[]⟩, .string ⟨#[]⟩, .slice none 0 0, .slice none 0 0, .slice none 0 0, .slice none 0 0, .slice none 0 0, .slice none 0 0, .int .i64 0] 49)).alloc (.cells #[.int .i64 4, .string ⟨#[]⟩, .slice (some ⟨w2.heap.size + 1 + 1, 0, none⟩) 2 2, .int .i64 0, .string ⟨#[]⟩, .int .i64 0, .int .i64 0, .string ⟨#[]⟩, .string ⟨#[]⟩, .slice none 0 0, .slice none 0 0, .slice none 0 0, .slice (some ⟨w2.heap.size + 1, 0, none⟩) 1 1, .slice none 0 0, .slice none 0 0, .int .i64 0] 49) := ⟨_, rfl⟩
  have t0 : Touch [] w2 W := hW ▸ ((((Touch.refl [] w2).alloc _).alloc _).alloc _).alloc _
  have hs : RdK srE W (some ⟨w2.heap.size, 0, none⟩) [⟨⟨#[120]⟩, ⟨A1, a1, c1⟩, ⟨R1, r1, d1⟩⟩, ⟨⟨#[121]⟩, ⟨A2, a2, c2⟩, ⟨R2, r2, d2⟩⟩] := by
    have h1 := RdK.touch0 (RdK.row (enc := srE) w2 36 [⟨⟨#[120]⟩, ⟨A1, a1, c1⟩, ⟨R1, r1, d1⟩⟩, ⟨⟨#[121]⟩, ⟨A2, a2, c2⟩, ⟨R2, r2, d2⟩⟩] #[.string ⟨#[120]⟩, .slice A1 a1 c1, .slice R1 r1 d1, .string ⟨#[121]⟩, .slice A2 a2 c2, .slice R2 r2 d2] rfl) ((((Touch.refl [] _).alloc (.cells #[.string ⟨#[97]⟩, .string ⟨#[98]⟩] 39)).alloc (.cells #[.int .i64 1, .string ⟨#[120]⟩, .slice none 0 0, .int .i64 0, .string ⟨#[]⟩, .int .i64 0, .int .i64 0, .string ⟨#[]⟩, .string ⟨#[]⟩, .slice none 0 0, .slice none 0 0, .slice none 0 0, .slice none 0 0, .slice none 0 0, .slice none 0 0, .int .i64 0, .int .i64 1, .string ⟨#[121]⟩, .slice none 0 0, .int .i64 0, .string ⟨#[]⟩, .int .i64 0, .int .i64 0, .string ⟨#[]⟩, .string ⟨#[]⟩, .slice none 0 0, .slice none 0 0, .slice none 0 0, .slice none 0 0, .slice none 0 0, .slice none 0 0, .int .i64 0] 49)).alloc (.cells #[.int .i64 4, .string ⟨#[]⟩, .slice (some ⟨w2.heap.size + 1 + 1, 0, none⟩) 2 2, .int .i64 0, .string ⟨#[]⟩, .int .i64 0, .int .i64 0, .string ⟨#[]⟩, .string ⟨#[]⟩, .slice none 0 0, .slice none 0 0, .slice none 0 0, .slice (some ⟨w2.heap.size + 1, 0, none⟩) 1 1, .slice none 0 0, .slice none 0 0, .int .i64 0] 49))
    exact hW ▸ h1
  have ho : RdK prE W (some ⟨w2.heap.size + 1, 0, none⟩) [(⟨#[97]⟩, ⟨#[98]⟩)] := by
    have h1 := RdK.touch0 (RdK.one (enc := prE) (w2.alloc (.cells #[.string ⟨#[120]⟩, .slice A1 a1 c1, .slice R1 r1 d1, .string ⟨#[121]⟩, .slice A2 a2 c2, .slice R2 r2 d2] 36)) 39 (⟨#[97]⟩, ⟨#[98]⟩) #[.string ⟨#[97]⟩, .string ⟨#[98]⟩] rfl) (((Touch.refl [] _).alloc (.cells #[.int .i64 1, .string ⟨#[120]⟩, .slice none 0 0, .int .i64 0, .string ⟨#[]⟩, .int .i64 0, .int .i64 0, .string ⟨#[]⟩, .string ⟨#[]⟩, .slice none 0 0, .slice none 0 0, .slice none 0 0, .slice none 0 0, .slice none 0 0, .slice none 0 0, .int .i64 0, .int .i64 1, .string ⟨#[121]⟩, .slice none 0 0, .int .i64 0, .string ⟨#[]⟩, .int .i64 0, .int .i64 0, .string ⟨#[]⟩, .string ⟨#[]⟩, .slice none 0 0, .slice none 0 0, .slice none 0 0, .slice none 0 0, .slice none 0 0, .slice none 0 0, .int .i64 0] 49)).alloc (.cells #[.int .i64 4, .string ⟨#[]⟩, .slice (some ⟨w2.heap.size + 1 + 1, 0, none⟩) 2 2, .int .i64 0, .string ⟨#[]⟩, .int .i64 0, .int .i64 0, .string ⟨#[]⟩, .string ⟨#[]⟩, .slice none 0 0, .slice none 0 0, .slice none 0 0, .slice (some ⟨w2.heap.size + 1, 0, none⟩) 1 1, .slice none 0 0, .slice none 0 0, .int .i64 0] 49))
    rw [World.size_alloc] at h1
    exact hW ▸ h1
  have hp : RdK pcE W (some ⟨w2.heap.size + 1 + 1, 0, none⟩) [scanC ⟨#[120]⟩, scanC ⟨#[121]⟩] := by
    have h1 := RdK.touch0 (RdK.row (enc := pcE) ((w2.alloc (.cells #[.string ⟨#[120]⟩, .slice A1 a1 c1, .slice R1 r1 d1, .string ⟨#[121]⟩, .slice A2 a2 c2, .slice R2 r2 d2] 36)).alloc (.cells #[.string ⟨#[97]⟩, .string ⟨#[98]⟩] 39)) 49 [scanC ⟨#[120]⟩, scanC ⟨#[121]⟩] #[.int .i64 1, .string ⟨#[120]⟩, .slice none 0 0, .int .i64 0, .string ⟨#[]⟩, .int .i64 0, .int .i64 0, .string ⟨#[]⟩, .string ⟨#[]⟩, .slice none 0 0, .slice none 0 0, .slice none 0 0, .slice none 0 0, .slice none 0 0, .slice none 0 0, .int .i64 0, .int .i64 1, .string ⟨#[121]⟩, .slice none 0 0, .int .i64 0, .string ⟨#[]⟩, .int .i64 0, .int .i64 0, .string ⟨#[]⟩, .string ⟨#[]⟩, .slice none 0 0, .slice none 0 0, .slice none 0 0, .slice none 0 0, .slice none 0 0, .slice none 0 0, .int .i64 0] rfl) ((Touch.refl [] _).alloc (.cells #[.int .i64 4, .string ⟨#[]⟩, .slice (some ⟨w2.heap.size + 1 + 1, 0, none⟩) 2 2, .int .i64 0, .string ⟨#[]⟩, .int .i64 0, .int .i64 0, .string ⟨#[]⟩, .string ⟨#[]⟩, .slice none 0 0, .slice none 0 0, .slice none 0 0, .slice (some ⟨w2.heap.size + 1, 0, none⟩) 1 1, .slice none 0 0, .slice none 0 0, .int .i64 0] 49))
    rw [World.size_alloc, World.size_alloc] at h1
    exact hW ▸ h1
  have hS : SrcsAt W (some ⟨w2.heap.size, 0, none⟩) (manyL n m) := ⟨_, rfl, hs, fun i a b => by
    have : i = 0 ∨ i = 1 := by simp at a; omega
    rcases this with rfl | rfl
    · exact ⟨rfl, HT1.out.1.touch0 (HT2.out.2.trans0 t0)⟩
    · exact ⟨rfl, HT2.out.1.touch0 t0⟩⟩
  have hTT := (HT1.out.2.trans0 HT2.out.2).trans0 t0
  have hev := many_eval n m hn hm (w2.heap.size + 1) (w2.heap.size + 1 + 1) w2.heap.size W (HGn.out.touch0 hTT) hS hp ho
  have hq : n * m ≤ 80 * 80 := Nat.mul_le_mul hn hm
  obtain ⟨q, hqe⟩ : ∃ q, q = n * m := ⟨_, rfl⟩
  rw [← hqe] at hev hq
  have hmul : (n : Int) * (m : Int) = (q : Int) := by rw [hqe, Int.natCast_mul]
  have HE := Lib.hid hev
  have HTT := Lib.hid hTT
  have HW := Lib.hid hW
  have Hawk := Lib.hid fun w' (t : Touch [] w w') => awake5_any w' (HGn.out.touch0 t)
  clear hev hTT hS hp ho hs t0 hW hqe
  go_wp2_with fail
  rw [← HW.out]
  refine HE.out.mono ?_
  by_cases hb : 4096 < q
  · have hbi : 4096 < (q : Int) := by omega
    intro e w3 h
    obtain ⟨t3, h31, _⟩ := h
    obtain ⟨SA, sc, RA, rc, rfl⟩ := h31 hb
    have HT3 := Lib.hid (HTT.out.trans0 t3)
    clear t3 h31 HE
    go_wp2_with fail
    refine (Hawk.out _ (HT3.out.alloc _)).mono ?_
    rintro e w4 ⟨rfl, t4⟩
    have HT4 := Lib.hid ((HT3.out.alloc _).trans0 t4)
    clear t4
    go_wp2_with fail
    go_ret
    exact ⟨rfl, HT4.out⟩
  · have hbi : (4096 < (q : Int)) = False := by simp; omega
    intro e w3 h
    obtain ⟨t3, _, h32⟩ := h
    obtain ⟨SA, sc, RA, rc, rfl⟩ := h32 (by omega)
    have HT3 := Lib.hid (HTT.out.trans0 t3)
    clear t3 h32 HE
    go_wp2_with fail
    refine (Hawk.out _ (HT3.out.alloc _)).mono ?_
    rintro e w4 ⟨rfl, t4⟩
    have HT4 := Lib.hid ((HT3.out.alloc _).trans0 t4)
    clear t4
    go_wp2_with fail
    go_ret
    exact ⟨rfl, HT4.out⟩

set_option maxRecDepth 40000 in
set_option maxHeartbeats 3200000 in
theorem many_law (n m : Int) (w : World) (hG : NeedsAt w) : Calls Tryz.prog 3 #[.int .i64 n, .int .i64 m] w fun e w' => e = .returned (.bool true) ∧ Touch [] w w' := by
  by_cases hin : 0 ≤ n ∧ n ≤ 80 ∧ 0 ≤ m ∧ m ≤ 80
  · obtain ⟨n', rfl⟩ := Int.eq_ofNat_of_zero_le hin.1
    obtain ⟨m', rfl⟩ := Int.eq_ofNat_of_zero_le hin.2.2.1
    exact many_in n' m' (by omega) (by omega) w hG
  · have Hawk := Lib.hid (awake5_any w hG)
    by_cases h1 : n < 0
    · go_enter Tryz.func3, Tryz.ntmps3
      go_wp2_with fail
      refine Hawk.out.mono ?_
      rintro e w1 ⟨rfl, t1⟩
      go_wp2_with fail
      go_ret
      exact ⟨rfl, t1⟩
    · have h1' : (n < 0) = False := eq_false h1
      by_cases h2 : m < 0
      · go_enter Tryz.func3, Tryz.ntmps3
        go_wp2_with fail
        refine Hawk.out.mono ?_
        rintro e w1 ⟨rfl, t1⟩
        go_wp2_with fail
        go_ret
        exact ⟨rfl, t1⟩
      · have h2' : (m < 0) = False := eq_false h2
        by_cases h3 : 80 < n
        · go_enter Tryz.func3, Tryz.ntmps3
          go_wp2_with fail
          refine Hawk.out.mono ?_
          rintro e w1 ⟨rfl, t1⟩
          go_wp2_with fail
          go_ret
          exact ⟨rfl, t1⟩
        · have h3' : (80 < n) = False := eq_false h3
          have h4 : 80 < m := by omega
          go_enter Tryz.func3, Tryz.ntmps3
          go_wp2_with fail
          refine Hawk.out.mono ?_
          rintro e w1 ⟨rfl, t1⟩
          go_wp2_with fail
          go_ret
          exact ⟨rfl, t1⟩
end Go.Proofs.YtafoklilkdnepaaGreatDoor

/- The package variables of layer 5 as the rows list them: what they hold when a call begins; a world that holds them. -/
namespace Go.Proofs.YtafoklilkdnepaaGreatDoor
open Go.ChangeShapes Go.WideShapes Go.ChangeAt Go.RowKit

theorem gNd : Tryz.prog.globalNamed "bywash/relop.needs" = some 0 := by kernel_rfl
theorem gNdType : (Tryz.prog.globals[0]?).map (·.type) = some 124 := by kernel_rfl
theorem cellsN : Tryz.prog.cellsOf 124 = 10 := by kernel_rfl
theorem cellsI : Tryz.prog.cellsOf 3 = 1 := by kernel_rfl
theorem needs_at {W : World} (h : laidMetH Tryz.prog [("math/bits.deBruijn32tab", Rows.laid_math_bits_deBruijn32tab), ("math/bits.deBruijn64tab", Rows.laid_math_bits_deBruijn64tab), ("internal/strconv.uint64pow10", Rows.laid_internal_strconv_uint64pow10), ("bywash/relop.needs", Rows.laid_bywash_relop_needs)] W) : NeedsAt W := by
  have h' : laidMet Tryz.prog [("math/bits.deBruijn32tab", Rows.laid_math_bits_deBruijn32tab), ("math/bits.deBruijn64tab", Rows.laid_math_bits_deBruijn64tab), ("internal/strconv.uint64pow10", Rows.laid_internal_strconv_uint64pow10), ("bywash/relop.needs", Rows.laid_bywash_relop_needs)] W := h
  obtain ⟨ps, ⟨g0, t0, cs0, fuel0, p0, q0, _, _, _, _, ⟨g1, t1, cs1, fuel1, p1, q1, _, _, _, _, ⟨g2, t2, cs2, fuel2, p2, q2, _, _, _, _, ⟨g3, t3, cs3, fuel3, p3, q3, hg, hty, hvar, hd, _⟩, _⟩, _⟩, _⟩, _⟩ := h'
  obtain rfl := Option.some.inj (gNd.symm.trans hg)
  obtain rfl := Option.some.inj (gNdType.symm.trans hty)
  have hc := Lib.cells_of_tab (k := .i64) (zs := [0, 0, 1, 1, 2, 2, 1, 2, 1, 1]) Tryz.underlying124 Tryz.underlying3 cellsI cellsN hd
  have hcell := World.var?_cell gNd hvar
  intro k hk
  rw [hcell]
  have hc' : cs3[k]? = (([0, 0, 1, 1, 2, 2, 1, 2, 1, 1] : List Int).map fun z => Value.int .i64 z)[k]? := by rw [← hc]; simp
  have hk' : k = 0 ∨ k = 1 ∨ k = 2 ∨ k = 3 ∨ k = 4 ∨ k = 5 ∨ k = 6 ∨ k = 7 ∨ k = 8 ∨ k = 9 := by omega
  rcases hk' with rfl | rfl | rfl | rfl | rfl | rfl | rfl | rfl | rfl | rfl <;> simpa [needV] using hc'

/-- a listed table's cells -/
def cellsOfData : DataW Unit → List Value
  | .agg l => l.flatMap fun d => match d with
    | .lit (.int k z) => [.int k z]
    | _ => []
  | _ => []
/-- a row of cells gets these values -/
def setRow (h : Array Obj) (g : Nat) (cs : List Value) : Array Obj := h.modify g fun o => match o with
  | .cells _ t frozen => .cells cs.toArray t frozen
  | o => o
/-- a world for the witness: the settled one, the variables holding what their initialisers lay -/
noncomputable def laidWorld (os : Os) : World :=
  { World.holding Tryz.prog os ⟨#[], #[], []⟩ with
    heap := setRow (setRow (setRow (setRow (World.holding Tryz.prog os ⟨#[], #[], []⟩).heap 3 (cellsOfData Rows.laid_math_bits_deBruijn32tab)) 4 (cellsOfData Rows.laid_math_bits_deBruijn64tab)) 2 (cellsOfData Rows.laid_internal_strconv_uint64pow10)) 0 (cellsOfData Rows.laid_bywash_relop_needs) }
end Go.Proofs.YtafoklilkdnepaaGreatDoor
