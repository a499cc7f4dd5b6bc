/- slices.stableCmpFunc and SortStableFunc, of a rising row of less than forty. -/
import Derived.Test.YtmehdlflhllhdaaGrIn
namespace Go.Proofs.Ytmehdlflhllhdaa
open Go.RowKit

theorem seg_two {D f g1 g2 : Nat → Nat} {a m b : Nat} (ha : a ≤ m) (hb : m ≤ b) (h1 : SM D f a m g1) (h2 : SM D g1 m b g2) (x : Nat) : Seg g2 a b x ↔ Seg f a b x := by
  constructor
  · rintro ⟨i, q1, q2, rfl⟩
    by_cases q : i < m
    · rw [h2.out i (.inl q)]
      obtain ⟨j, z1, z2, z3⟩ := (h1.seg (g1 i)).1 ⟨i, q1, q, rfl⟩
      exact ⟨j, z1, by omega, z3⟩
    · obtain ⟨j, z1, z2, z3⟩ := (h2.seg (g2 i)).1 ⟨i, by omega, q2, rfl⟩
      exact ⟨j, by omega, z2, by rw [← z3]; exact (h1.out j (.inr z1)).symm⟩
  · rintro ⟨i, q1, q2, rfl⟩
    by_cases q : i < m
    · obtain ⟨j, z1, z2, z3⟩ := (h1.seg (f i)).2 ⟨i, q1, q, rfl⟩
      exact ⟨j, z1, by omega, by rw [h2.out j (.inl z2)]; exact z3⟩
    · have e1 : g1 i = f i := h1.out i (.inr (by omega))
      obtain ⟨j, z1, z2, z3⟩ := (h2.seg (g1 i)).2 ⟨i, by omega, q2, rfl⟩
      exact ⟨j, by omega, z2, by rw [z3, e1]⟩
theorem lr_two {D f g1 g2 : Nat → Nat} {a m b : Nat} (hup : Up f a b) (h1 : SM D f a m g1) (h2 : SM D g1 m b g2) : Lr g2 a m b := by
  intro i j q1 q2 q3 q4
  rw [h2.out i (.inl q2)]
  obtain ⟨i', y1, y2, y3⟩ := (h1.seg (g1 i)).1 ⟨i, q1, q2, rfl⟩
  obtain ⟨j', x1, x2, x3⟩ := (h2.seg (g2 j)).1 ⟨j, q3, q4, rfl⟩
  rw [← y3, ← x3, h1.out j' (.inr x1)]
  exact hup _ _ y1 (by omega) x2

/-- what a sorting call gives -/
def InP (G c n : Nat) (D f : Nat → Nat) (a b : Nat) (w : World) (e : Ending) (w' : World) : Prop := e = .returned (.tuple #[]) ∧ ∃ g, RowF w' G c n g ∧ SM D f a b g ∧ Touch [G] w w'

set_option maxRecDepth 20000 in
set_option maxHeartbeats 3200000 in
theorem in_none (G c n B : Nat) (hn : n ≤ 100000) (D : Nat → Nat) (a : Nat) (ha : a ≤ n) (f : Nat → Nat) (w : World) (hR : RowF w G c n f) :
    Calls Try.prog 46 #[.slice (some ⟨G, 0, none⟩) n c, .int .i64 a, .int .i64 a, .func (.func 34) #[] #[.pointer (some ⟨B, 0, none⟩)]] w (InP G c n D f a a w) := by
  have HP : Hid (InP G c n D f a a w (.returned (.tuple #[])) w) := Lib.hid ⟨rfl, f, hR, SM.self (fun i j h1 h2 h3 => absurd h1 (by omega)), Touch.refl _ _⟩
  generalize InP G c n D f a a w = P at HP ⊢
  clear hR
  go_enter Try.func46, Try.ntmps46
  go_wp2_with fail
  go_loop [8] (fun y => y = .int .i64 (a + 1 : Nat)) (fun _ => 0)
  case atStart => go_num
  case round =>
    obtain rfl := hrel
    have : (((a + 1 : Nat) : Int) < (a : Int)) = False := by simp; omega
    go_wp2
    go_end0
    exact HP.out

set_option maxRecDepth 20000 in
set_option maxHeartbeats 3200000 in
theorem stable_any (G c n B : Nat) (h0 : 0 < n) (h40 : n < 40) (D : Nat → Nat) (w0 : World) (hC : CmpOk G B n D w0) (f : Nat → Nat) (w : World) (hR : RowF w G c n f) (hT : Touch [G] w0 w) (hup : Up f 0 n) (hfn : ∀ k, k < n → f k < n) :
    Calls Try.prog 41 #[.slice (some ⟨G, 0, none⟩) n c, .int .i64 n, .func (.func 34) #[] #[.pointer (some ⟨B, 0, none⟩)]] w (InP G c n D f 0 n w) := by
  by_cases h20 : n < 20
  · have hi := in_one G c n B (by omega) D w0 hC 0 n h0 (Nat.le_refl _) f w hR hT hup hfn
    have Hi := Lib.hid hi
    have hl : ((20 : Int) ≤ (n : Int)) = False := by simp; omega
    have hl2 : ((20 : Int) < (n : Int)) = False := by simp; omega
    clear hi hR hT hup hfn hC
    go_enter Try.func41, Try.ntmps41
    go_wp2
    go_loop [7, 8] (fun a b => a = .int .i64 0 ∧ b = .int .i64 20) (fun _ _ => 0)
    case atStart => exact ⟨rfl, rfl⟩
    case round =>
      obtain ⟨rfl, rfl⟩ := hrel
      go_wp2_with fail
      refine Hi.out.mono ?_
      rintro e w1 ⟨rfl, g, hg⟩
      have Hg := Lib.hid hg
      clear hg
      go_wp2_with fail
      go_loop [6, 7, 8, 9] (fun a _ _ _ => a = .int .i64 20) (fun _ _ _ _ => 0)
      case atStart => rfl
      case round =>
        obtain rfl := hrel
        go_wp2_with fail
        go_end0
        exact ⟨rfl, g, Hg.out⟩
  · have hl : (20 : Int) ≤ (n : Int) := by omega
    have hl2 : ((40 : Int) ≤ (n : Int)) = False := by simp; omega
    have hup1 : Up f 0 20 := fun i j h1 h2 h3 => hup i j h1 h2 (by omega)
    have HUP := Lib.hid hup
    have HFN := Lib.hid hfn
    have HT := Lib.hid hT
    have HC := Lib.hid hC
    have hi := in_one G c n B (by omega) D w0 hC 0 20 (by omega) (by omega) f w hR hT hup1 hfn
    have Hi := Lib.hid hi
    clear hi hR hT hup hfn hC hup1
    go_enter Try.func41, Try.ntmps41
    go_wp2
    go_loopw [7, 8] (fun a b w1 => (a = .int .i64 0 ∧ b = .int .i64 20 ∧ w1 = w) ∨ (a = .int .i64 20 ∧ b = .int .i64 40 ∧ Hid (∃ g, RowF w1 G c n g ∧ SM D f 0 20 g ∧ Touch [G] w w1))) (fun a _ _ => 20 - (intOf a).toNat)
    case atStart => exact .inl ⟨rfl, rfl, rfl⟩
    case round =>
      rcases hrel with ⟨rfl, rfl, rfl⟩ | ⟨rfl, rfl, HG⟩
      · go_wp2_with fail
        refine Hi.out.mono ?_
        rintro e w1 ⟨rfl, hg⟩
        have Hg := Lib.hid hg
        clear hg Hi
        go_wp2_with fail
        go_roundw
        case rel => exact .inr ⟨rfl, rfl, Hg⟩
        case measure => simp [intOf]
      · clear Hi
        obtain ⟨g1, hr1, hm1, ht1⟩ := HG.out
        have hT1 : Touch [G] w0 wr := HT.out.trans ht1 (fun b hb => .inl hb)
        have hi2 : Calls Try.prog 46 #[.slice (some ⟨G, 0, none⟩) n c, .int .i64 20, .int .i64 n, .func (.func 34) #[] #[.pointer (some ⟨B, 0, none⟩)]] wr (InP G c n D g1 20 n wr) := by
          by_cases q : n = 20
          · have := in_none G c n B (by omega) D n (Nat.le_refl _) g1 wr hr1
            rw [q] at this ⊢; exact this
          · exact in_one G c n B (by omega) D w0 HC.out 20 n (by omega) (Nat.le_refl _) g1 wr hr1 hT1 (fun i j h1 h2 h3 => by rw [hm1.out i (.inr h1), hm1.out j (.inr (by omega))]; exact HUP.out i j (by omega) h2 h3) (hm1.lt (by omega) HFN.out)
        have Hi2 := Lib.hid hi2
        have HR1 := Lib.hid hr1
        have HM1 := Lib.hid hm1
        have HT1 := Lib.hid ht1
        clear hi2 hr1 hm1 ht1 HG hT1
        go_wp2_with fail
        refine Hi2.out.mono ?_
        rintro e w2 ⟨rfl, g2, hr2, hm2, ht2⟩
        have HR2 := Lib.hid hr2
        have HM2 := Lib.hid hm2
        have HT2 := Lib.hid (HT1.out.trans ht2 (fun b hb => .inl hb))
        clear hr2 hm2 ht2 Hi2
        go_wp2_with fail
        go_loopw [6, 7, 8, 9] (fun a _ _ _ w1 => (a = .int .i64 20 ∧ w1 = w2) ∨ (a = .int .i64 40 ∧ Hid (∃ g, RowF w1 G c n g ∧ SM D f 0 n g ∧ Touch [G] w w1))) (fun a _ _ _ _ => 40 - (intOf a).toNat)
        case atStart => exact .inl ⟨rfl, rfl⟩
        case round =>
          rcases hrel with ⟨rfl, rfl⟩ | ⟨rfl, HG⟩
          · by_cases q : n = 20
            · have hl3 : ((20 : Int) < (n : Int)) = False := by simp; omega
              go_wp2_with fail
              go_end0
              refine ⟨rfl, g2, HR2.out, ?_, HT2.out⟩
              have z := HM1.out
              have z2 := HM2.out
              rw [← q] at z z2
              exact ⟨fun k hk => by rw [z2.out k (by omega), z.out k hk], seg_two (by omega) (Nat.le_refl _) z z2, fun i j h1 h2 h3 => by rw [z2.out i (by omega), z2.out j (by omega)]; exact z.srt i j h1 h2 h3⟩
            · have hl3 : (20 : Int) < (n : Int) := by omega
              have hs1 : Srt D g2 0 20 := fun i j h1 h2 h3 => by rw [HM2.out.out i (.inl (by omega)), HM2.out.out j (.inl (by omega))]; exact HM1.out.srt i j h1 h2 h3
              have hsm := sm_any G c n B (by omega) D w0 HC.out n 0 20 n (by omega) (by omega) (by omega) (Nat.le_refl _) g2 wr HR2.out (HT.out.trans HT2.out (fun b hb => .inl hb)) hs1 HM2.out.srt (lr_two HUP.out HM1.out HM2.out) (HM2.out.lt (Nat.le_refl _) (HM1.out.lt (by omega) HFN.out))
              have HSM := Lib.hid hsm
              clear hsm hs1
              go_wp2_with fail
              go_loop [7, 8] (fun a b => a = .int .i64 0 ∧ b = .int .i64 40) (fun _ _ => 0)
              case atStart => exact ⟨rfl, rfl⟩
              case round =>
                obtain ⟨rfl, rfl⟩ := hrel
                go_wp2_with fail
                refine HSM.out.mono ?_
                rintro e w3 ⟨rfl, g3, hr3, hm3, ht3⟩
                have hmm : SM D f 0 n g3 := ⟨fun k hk => by rw [hm3.out k hk, HM2.out.out k (by omega), HM1.out.out k (by omega)], fun x => (hm3.seg x).trans (seg_two (by omega) (by omega) HM1.out HM2.out x), hm3.srt⟩
                have HZ : Hid (∃ g, RowF w3 G c n g ∧ SM D f 0 n g ∧ Touch [G] w w3) := Lib.hid ⟨g3, hr3, hmm, HT2.out.trans ht3 (fun b hb => .inl hb)⟩
                clear hr3 hm3 ht3 HSM hmm
                go_wp2_with fail
                go_roundw
                case rel => exact .inr ⟨rfl, HZ⟩
                case measure => simp [intOf]
          · have hl3 : ((40 : Int) < (n : Int)) = False := by simp; omega
            obtain ⟨g, hg⟩ := HG.out
            have Hg := Lib.hid hg
            clear hg HG
            go_wp2_with fail
            go_end0
            exact ⟨rfl, g, Hg.out⟩

set_option maxHeartbeats 800000 in
theorem sortStable_any (G c n B : Nat) (h0 : 0 < n) (h40 : n < 40) (D : Nat → Nat) (w0 : World) (hC : CmpOk G B n D w0) (f : Nat → Nat) (w : World) (hR : RowF w G c n f) (hT : Touch [G] w0 w) (hup : Up f 0 n) (hfn : ∀ k, k < n → f k < n) :
    Calls Try.prog 33 #[.slice (some ⟨G, 0, none⟩) n c, .func (.func 34) #[] #[.pointer (some ⟨B, 0, none⟩)]] w (InP G c n D f 0 n w) := by
  have Hi := Lib.hid (stable_any G c n B h0 h40 D w0 hC f w hR hT hup hfn)
  clear hR hT hup hfn hC
  go_enter Try.func33, Try.ntmps33
  go_wp2_with fail
  refine Hi.out.mono ?_
  rintro e w1 ⟨rfl, g, hg⟩
  have Hg := Lib.hid hg
  clear hg
  go_wp2_with fail
  go_end0
  exact ⟨rfl, g, Hg.out⟩
end Go.Proofs.Ytmehdlflhllhdaa
