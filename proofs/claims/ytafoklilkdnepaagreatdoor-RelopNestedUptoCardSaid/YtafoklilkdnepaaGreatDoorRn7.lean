/- Part 7 of the texts of this proof, one behind the other. No condition beyond those that its theorems state. -/
import Derived.Test.YtafoklilkdnepaaGreatDoorRn6
set_option maxRecDepth 40000
set_option maxHeartbeats 25600000
namespace Go.Proofs.YtafoklilkdnepaaGreatDoor
section
def Good (D f : Nat -> Nat) (a b : Nat) : Prop := Srt D f a b /\ ∀ x, Seg f a b x ↔ a <= x /\ x < b
theorem Good.cong {D f g : Nat -> Nat} {a b : Nat} (h : Good D f a b) (e : ∀ k, a <= k -> k < b -> g k = f k) : Good D g a b := by
 refine ⟨fun i j h1 h2 h3 => by rw [e i h1 (by omega), e j (by omega) h3]; exact h.1 i j h1 h2 h3, fun x => ?_⟩
 rw [<- h.2 x]
 constructor
 ·rintro ⟨i, h1, h2, h3⟩; exact ⟨i, h1, h2, by rw [<- e i h1 h2]; exact h3⟩
 ·rintro ⟨i, h1, h2, h3⟩; exact ⟨i, h1, h2, by rw [e i h1 h2]; exact h3⟩
theorem Good.same {D f : Nat -> Nat} {a b b' : Nat} (h : Good D f a b) (e : b = b') : Good D f a b' := e ▸ h
theorem Good.lr {D f : Nat -> Nat} {a m b : Nat} (h1 : Good D f a m) (h2 : Good D f m b) : Lr f a m b := fun i j q1 q2 q3 q4 => by
 have := (h1.2 (f i)).1 ⟨i, q1, q2, rfl⟩
 have := (h2.2 (f j)).1 ⟨j, q3, q4, rfl⟩
 omega
theorem Good.join {D f g : Nat -> Nat} {a m b : Nat} (ham : a <= m) (hmb : m <= b) (h1 : Good D f a m) (h2 : Good D f m b) (h : SM D f a b g) : Good D g a b := by
 refine ⟨h.srt, fun x => ?_⟩
 rw [h.seg x]
 constructor
 ·rintro ⟨i, q1, q2, rfl⟩
  by_cases q : i < m
  ·have := (h1.2 (f i)).1 ⟨i, q1, q, rfl⟩; omega
  ·have := (h2.2 (f i)).1 ⟨i, by omega, q2, rfl⟩; omega
 ·rintro ⟨q1, q2⟩
  by_cases q : x < m
  ·obtain ⟨i, z1, z2, z3⟩ := (h1.2 x).2 ⟨q1, q⟩; exact ⟨i, z1, by omega, z3⟩
  ·obtain ⟨i, z1, z2, z3⟩ := (h2.2 x).2 ⟨by omega, q2⟩; exact ⟨i, by omega, z2, z3⟩
theorem Good.ins {D f g : Nat -> Nat} {a b : Nat} (hid : ∀ k, a <= k -> f k = k) (h : SM D f a b g) : Good D g a b := by
 refine ⟨h.srt, fun x => ?_⟩
 rw [h.seg x]
 constructor
 ·rintro ⟨i, q1, q2, rfl⟩; rw [hid i q1]; exact ⟨q1, q2⟩
 ·rintro ⟨q1, q2⟩; exact ⟨x, q1, q2, hid x q1⟩
def Til (D f : Nat -> Nat) (bs n : Nat) : Prop := ∀ q, q * bs < n -> Good D f (q * bs) (min (q * bs + bs) n)
structure Ph1 (D f : Nat -> Nat) (n q : Nat) : Prop where
 done : ∀ p, p < q -> Good D f (p * 20) (p * 20 + 20)
 rest : ∀ k, q * 20 <= k -> f k = k
theorem Ph1.zero (D : Nat -> Nat) (n : Nat) : Ph1 D (fun k => k) n 0 := ⟨fun p h => absurd h (by omega), fun _ _ => rfl⟩
theorem Ph1.next {D f g : Nat -> Nat} {n q : Nat} (h : Ph1 D f n q) (hs : SM D f (q * 20) (q * 20 + 20) g) : Ph1 D g n (q + 1) where
 done := fun p hp => by
  by_cases e : p = q
  ·subst e; exact Good.ins h.rest hs
  ·exact (h.done p (by omega)).cong fun k k1 k2 => hs.out k (by omega)
 rest := fun k hk => by rw [hs.out k (by omega)]; exact h.rest k (by omega)
theorem Ph1.last {D f g : Nat -> Nat} {n q : Nat} (h : Ph1 D f n q) (hq : q * 20 <= n) (hn : n < q * 20 + 20) (hs : SM D f (q * 20) n g) : Til D g 20 n := fun p hp => by
 by_cases e : p = q
 ·subst e; exact (Good.ins h.rest hs).same (by omega)
 ·exact ((h.done p (by omega)).cong fun k k1 k2 => hs.out k (by omega)).same (by omega)
theorem Ph1.up {D f : Nat -> Nat} {n q b : Nat} (h : Ph1 D f n q) : Up f (q * 20) b := fun i j h1 h2 _ => by rw [h.rest i h1, h.rest j (by omega)]; exact h2
structure Ph2 (D f : Nat -> Nat) (bs n q : Nat) : Prop where
 done : ∀ p, p < q -> Good D f (p * (2 * bs)) (p * (2 * bs) + 2 * bs)
 rest : ∀ p, 2 * q <= p -> p * bs < n -> Good D f (p * bs) (min (p * bs + bs) n)
theorem Ph2.zero {D f : Nat -> Nat} {bs n : Nat} (h : Til D f bs n) : Ph2 D f bs n 0 := ⟨fun p h => absurd h (by omega), fun p _ hp => h p hp⟩
theorem two_mul' (q bs : Nat) : 2 * q * bs = q * (2 * bs) := by rw [Nat.mul_comm 2 q, Nat.mul_assoc]
theorem Ph2.two {D f : Nat -> Nat} {bs n q : Nat} (h : Ph2 D f bs n q) (hb : 0 < bs) (hn : q * (2 * bs) + bs < n) : Good D f (q * (2 * bs)) (q * (2 * bs) + bs) /\ Good D f (q * (2 * bs) + bs) (min (q * (2 * bs) + 2 * bs) n) := by
 have e := two_mul' q bs
 have e2 : (2 * q + 1) * bs = q * (2 * bs) + bs := by rw [Nat.add_mul, e, Nat.one_mul]
 have h1 := h.rest (2 * q) (Nat.le_refl _) (by rw [e]; omega)
 have h2 := h.rest (2 * q + 1) (by omega) (by rw [e2]; omega)
 rw [e] at h1
 rw [e2] at h2
 exact ⟨h1.same (by omega), h2.same (by omega)⟩
theorem Ph2.next {D f g : Nat -> Nat} {bs n q : Nat} (h : Ph2 D f bs n q) (hb : 0 < bs) (hn : q * (2 * bs) + 2 * bs <= n) (hs : SM D f (q * (2 * bs)) (q * (2 * bs) + 2 * bs) g) : Ph2 D g bs n (q + 1) where
 done := fun p hp => by
  by_cases e : p = q
  ·subst e
   obtain ⟨h1, h2⟩ := h.two hb (by omega)
   exact Good.join (m := p * (2 * bs) + bs) (by omega) (by omega) h1 (h2.same (by omega)) hs
  ·have h1 : p * (2 * bs) + 2 * bs <= q * (2 * bs) := by
    have : (p + 1) * (2 * bs) <= q * (2 * bs) := Nat.mul_le_mul_right _ (by omega)
    rw [Nat.add_mul, Nat.one_mul] at this
    exact this
   exact (h.done p (by omega)).cong fun k k1 k2 => hs.out k (by omega)
 rest := fun p hp hpn => by
  have h1 : q * (2 * bs) + 2 * bs <= p * bs := by
   have : (2 * (q + 1)) * bs <= p * bs := Nat.mul_le_mul_right _ hp
   rw [two_mul', Nat.add_mul, Nat.one_mul] at this
   exact this
  exact (h.rest p (by omega) hpn).cong fun k k1 k2 => hs.out k (by omega)
theorem Ph2.last {D f g : Nat -> Nat} {bs n q : Nat} (h : Ph2 D f bs n q) (hb : 0 < bs) (hm : q * (2 * bs) + bs < n) (hn : n < q * (2 * bs) + 2 * bs) (hs : SM D f (q * (2 * bs)) n g) : Til D g (2 * bs) n := fun p hp => by
 by_cases e : p = q
 ·subst e
  obtain ⟨h1, h2⟩ := h.two hb hm
  have := Good.join (m := p * (2 * bs) + bs) (by omega) (by omega) h1 (h2.same (b' := n) (by omega)) hs
  exact this.same (by omega)
 ·have hpq : p < q := by
   rcases Nat.lt_or_ge p q with z | z
   ·exact z
   ·have : (q + 1) * (2 * bs) <= p * (2 * bs) := Nat.mul_le_mul_right _ (by omega)
    rw [Nat.add_mul, Nat.one_mul] at this
    omega
  have h1 : p * (2 * bs) + 2 * bs <= q * (2 * bs) := by
   have : (p + 1) * (2 * bs) <= q * (2 * bs) := Nat.mul_le_mul_right _ (by omega)
   rw [Nat.add_mul, Nat.one_mul] at this
   exact this
  exact ((h.done p hpq).cong fun k k1 k2 => hs.out k (by omega)).same (by omega)
theorem Ph2.quit {D f : Nat -> Nat} {bs n q : Nat} (h : Ph2 D f bs n q) (hb : 0 < bs) (hq : q * (2 * bs) <= n) (hm : n <= q * (2 * bs) + bs) : Til D f (2 * bs) n := fun p hp => by
 by_cases hpq : p < q
 ·by_cases z : p * (2 * bs) + 2 * bs <= n
  ·exact (h.done p hpq).same (by omega)
  ·exfalso
   have : (p + 1) * (2 * bs) <= q * (2 * bs) := Nat.mul_le_mul_right _ (by omega)
   rw [Nat.add_mul, Nat.one_mul] at this
   omega
 ·have e : p = q := by
   rcases Nat.lt_or_ge q p with z | z
   ·have : (q + 1) * (2 * bs) <= p * (2 * bs) := Nat.mul_le_mul_right _ (by omega)
    rw [Nat.add_mul, Nat.one_mul] at this
    omega
   ·omega
  subst e
  have e2 := two_mul' p bs
  have h1 := h.rest (2 * p) (Nat.le_refl _) (by rw [e2]; exact hp)
  rw [e2] at h1
  exact h1.same (by omega)
theorem Til.all {D f : Nat -> Nat} {bs n : Nat} (h : Til D f bs n) (hn : 0 < n) (hb : n <= bs) : Good D f 0 n := by
 have := h 0 (by omega)
 rw [Nat.zero_mul] at this
 exact this.same (by omega)
end
section
open Go.RowKit
variable (FN : Nat) (CL : List Value)
def InPV (S : Nat -> SL) (G c n : Nat) (D f : Nat -> Nat) (a b : Nat) (w : World) (e : Ending) (w' : World) : Prop := e = .returned (.tuple #[]) /\ ∃ g, RowV S w' G c n g /\ SM D f a b g /\ Touch [G] w w'
theorem ing_none (hFN : ∀ (args : Array Value) (wk : World), (callFunc FN args).run Tryz.prog wk = .ok (.enter FN args) wk) (G c n : Nat) (hn : n <= 100000) (S : Nat -> SL) (D : Nat -> Nat) (a : Nat) (ha : a <= n) (f : Nat -> Nat) (w : World) (hR : RowV S w G c n f) :
  Calls Tryz.prog 177 #[.slice (some ⟨G, 0, none⟩) n c, .int .i64 a, .int .i64 a, .func (.func FN) #[] CL.toArray] w (InPV S G c n D f a a w) := by
 have HP : Hid (InPV S G c n D f a a w (.returned (.tuple #[])) w) := lh ⟨rfl, f, hR, SM.self (fun i j h1 h2 h3 => absurd h1 (by omega)), Touch.refl _ _⟩
 generalize InPV S G c n D f a a w = P at HP ⊢
 clear hR
 go_enter Tryz.func177, Tryz.ntmps177
 go_wp2_with fail
 go_loop [8] (fun y => y = .int .i64 (a + 1 : Nat)) (fun _ => 0)
 case atStart => go_num
 case round =>
  obtain rfl := hrel
  have : (((a + 1 : Nat) : Int) < (a : Int)) = False := by simp; omega
  go_wp2
  go_end0
  exact HP.out
theorem stableg_any (hFN : ∀ (args : Array Value) (wk : World), (callFunc FN args).run Tryz.prog wk = .ok (.enter FN args) wk) (G c n : Nat) (h0 : 0 < n) (hn : n <= 100000) (S : Nat -> SL) (R : Nat -> Nat -> Int) (D : Nat -> Nat) (hRD : ∀ x y, R x y < 0 ↔ D x < D y) (w0 : World) (hC : CmpOkG FN CL S R G n w0) (w : World) (hR : RowV S w G c n (fun k => k)) (hT : Touch [G] w0 w) :
  Calls Tryz.prog 143 #[.slice (some ⟨G, 0, none⟩) n c, .int .i64 n, .func (.func FN) #[] CL.toArray] w fun e w' => e = .returned (.tuple #[]) /\ ∃ g, RowV S w' G c n g /\ Good D g 0 n /\ Touch [G] w w' := by
 have HT := lh hT
 have HC := lh hC
 have HR := lh hR
 clear hR hT hC
 go_enter Tryz.func143, Tryz.ntmps143
 go_wp2
 go_loopw [7, 8] (fun a b w1 => ∃ (q : Nat) (p : Nat) (f : Nat -> Nat), p = q * 20 /\ p <= n /\ a = .int .i64 p /\ b = .int .i64 ((p : Int) + 20) /\ Hid (RowV S w1 G c n f) /\ Hid (Ph1 D f n q) /\ Hid (∀ k, k < n -> f k < n) /\ Hid (Touch [G] w w1)) (fun a _ _ => n - (intOf a).toNat)
 case atStart => exact ⟨0, 0, fun k => k, by omega, by omega, rfl, rfl, HR, lh (Ph1.zero D n), lh (fun _ h => h), lh (Touch.refl _ _)⟩
 case round =>
  clear HR
  obtain ⟨q, p, f, hp, hpn, rfl, rfl, HR, HP, HF, HTw⟩ := hrel
  have Hp := lh hp
  have HT1 : Hid (Touch [G] w0 wr) := lh (HT.out.trans HTw.out (fun b hb => .inl hb))
  clear hp
  by_cases hb : p + 20 <= n
  ·have hl : (p : Int) + 20 <= (n : Int) := by omega
   have hi := ing_one FN CL hFN G c n hn S R D hRD w0 HC.out p (p + 20) (by omega) hb f wr HR.out HT1.out (by rw [Hp.out]; exact HP.out.up) HF.out
   rw [show ((p + 20 : Nat) : Int) = (p : Int) + 20 by omega] at hi
   have Hi := lh hi
   clear hi
   go_wp2_with fail
   refine Hi.out.mono ?_
   rintro e w1 ⟨rfl, g, hr1, hm1, ht1⟩
   have HR1 := lh hr1
   have HM1 := lh hm1
   have HT2 := lh (HTw.out.trans ht1 (fun b hb => .inl hb))
   clear hr1 hm1 ht1 Hi
   go_wp2_with fail
   go_roundw
   case rel => exact ⟨q + 1, p + 20, g, by have := Hp.out; omega, hb, by go_num, by go_num, HR1, lh (HP.out.next (by rw [<- Hp.out]; exact HM1.out)), lh (HM1.out.lt hb HF.out), HT2⟩
   case measure => simp [intOf]; omega
  ·have hl : ((p : Int) + 20 <= (n : Int)) = False := by simp; omega
   have hi : Calls Tryz.prog 177 #[.slice (some ⟨G, 0, none⟩) n c, .int .i64 p, .int .i64 n, .func (.func FN) #[] CL.toArray] wr (InPV S G c n D f p n wr) := by
    by_cases e : p = n
    ·rw [e]; exact ing_none FN CL hFN G c n hn S D n (Nat.le_refl _) f wr HR.out
    ·exact ing_one FN CL hFN G c n hn S R D hRD w0 HC.out p n (by omega) (Nat.le_refl _) f wr HR.out HT1.out (by rw [Hp.out]; exact HP.out.up) HF.out
   have Hi := lh hi
   clear hi
   go_wp2_with fail
   refine Hi.out.mono ?_
   rintro e w2 ⟨rfl, g, hr1, hm1, ht1⟩
   have HR1 := lh hr1
   have HT2 := lh (HTw.out.trans ht1 (fun b hb => .inl hb))
   have HL : Hid (Til D g 20 n) := lh (HP.out.last (by rw [<- Hp.out]; exact hpn) (by rw [<- Hp.out]; omega) (by rw [<- Hp.out]; exact hm1))
   have HF1 := lh (hm1.lt (Nat.le_refl _) HF.out)
   clear hr1 hm1 ht1 Hi HR HP HF HTw HT1 Hp
   go_wp2_with fail
   go_loopw [6, 7, 8, 9] (fun a _ _ _ w1 => ∃ (bs : Nat) (f : Nat -> Nat), 20 <= bs /\ bs <= 200000 /\ a = .int .i64 bs /\ Hid (RowV S w1 G c n f) /\ Hid (Til D f bs n) /\ Hid (∀ k, k < n -> f k < n) /\ Hid (Touch [G] w w1)) (fun a _ _ _ _ => n - (intOf a).toNat)
   case atStart => exact ⟨20, g, by omega, by omega, rfl, HR1, HL, HF1, HT2⟩
   case round =>
    clear HR1 HL HF1 HT2
    obtain ⟨bs, f, hbs, hbs2, rfl, HR, HL, HF, HTw⟩ := hrel
    by_cases hbn : bs < n
    ·obtain ⟨tb, htb⟩ : ∃ tb, tb = 2 * bs := ⟨_, rfl⟩
     have e2 : 2 * (bs : Int) = (tb : Int) := by omega
     have e3 : (bs : Int) * 2 = (tb : Int) := by omega
     have hlt : (bs : Int) < (n : Int) := by omega
     have htb1 : bs < tb := by omega
     have htb2 : tb <= 200000 := by omega
     have htb3 : tb <= bs + bs := by omega
     have htb4 : bs + bs <= tb := by omega
     have HTB := lh htb
     have HP0 : Hid (Ph2 D f bs n 0) := lh (Ph2.zero HL.out)
     clear htb
     go_wp2_with fail
     go_loopw [7, 8] (fun a b w1 => ∃ (q : Nat) (p : Nat) (f : Nat -> Nat), p <= n /\ a = .int .i64 p /\ b = .int .i64 ((p : Int) + (tb : Int)) /\ Hid (p = q * (2 * bs)) /\ Hid (RowV S w1 G c n f) /\ Hid (Ph2 D f bs n q) /\ Hid (∀ k, k < n -> f k < n) /\ Hid (Touch [G] w w1)) (fun a _ _ => n - (intOf a).toNat)
     case atStart => exact ⟨0, 0, f, by omega, rfl, by go_num, lh (by omega), HR, HP0, HF, HTw⟩
     case round =>
      clear HR HP0 HF HTw HL
      obtain ⟨q, p, f, hpn, rfl, rfl, Hp, HR, HP, HF, HTw⟩ := hrel
      have HT1 : Hid (Touch [G] w0 wr) := lh (HT.out.trans HTw.out (fun b hb => .inl hb))
      by_cases hb : p + tb <= n
      ·have hl : (p : Int) + (tb : Int) <= (n : Int) := by omega
       have hpq : q * (2 * bs) + 2 * bs <= n := by rw [<- Hp.out, <- HTB.out]; exact hb
       obtain ⟨g1, g2⟩ := HP.out.two (by omega) (by omega)
       have g2' := g2.same (b' := p + tb) (by rw [<- Hp.out, <- HTB.out]; omega)
       rw [<- Hp.out] at g1 g2'
       have hsm := smg_any FN CL hFN G c n hn S R D hRD w0 HC.out n p (p + bs) (p + tb) (by omega) (by omega) (by omega) hb f wr HR.out HT1.out g1.1 g2'.1 (g1.lr g2') HF.out
       rw [show ((p + bs : Nat) : Int) = (p : Int) + (bs : Int) by omega, show ((p + tb : Nat) : Int) = (p : Int) + (tb : Int) by omega] at hsm
       have HS := lh hsm
       have Hpq := lh hpq
       clear hsm hpq g1 g2 g2'
       go_wp2_with fail
       refine HS.out.mono ?_
       rintro e w1 ⟨rfl, g, hr1, hm1, ht1⟩
       have HR1 := lh hr1
       have HM1 := lh hm1
       have HT2 := lh (HTw.out.trans ht1 (fun b hb => .inl hb))
       clear hr1 hm1 ht1 HS
       go_wp2_with fail
       go_roundw
       case rel => exact ⟨q + 1, p + tb, g, hb, by go_num, by go_num, lh (by rw [Nat.add_mul, Nat.one_mul, <- Hp.out, <- HTB.out]), HR1, lh (HP.out.next (by omega) Hpq.out (by rw [<- Hp.out, <- HTB.out]; exact HM1.out)), lh (HM1.out.lt hb HF.out), HT2⟩
       case measure => simp [intOf]; omega
      ·have hl : ((p : Int) + (tb : Int) <= (n : Int)) = False := by simp; omega
       by_cases hm : p + bs < n
       ·have hl2 : (p : Int) + (bs : Int) < (n : Int) := by omega
        obtain ⟨g1, g2⟩ := HP.out.two (by omega) (by rw [<- Hp.out]; exact hm)
        have g2' := g2.same (b' := n) (by rw [<- Hp.out, <- HTB.out]; omega)
        rw [<- Hp.out] at g1 g2'
        have hsm := smg_any FN CL hFN G c n hn S R D hRD w0 HC.out n p (p + bs) n (by omega) (by omega) hm (Nat.le_refl _) f wr HR.out HT1.out g1.1 g2'.1 (g1.lr g2') HF.out
        rw [show ((p + bs : Nat) : Int) = (p : Int) + (bs : Int) by omega] at hsm
        have HS := lh hsm
        clear hsm g1 g2 g2'
        go_wp2_with fail
        refine HS.out.mono ?_
        rintro e w1 ⟨rfl, g, hr1, hm1, ht1⟩
        have HR1 := lh hr1
        have HM1 := lh hm1
        have HT2 := lh (HTw.out.trans ht1 (fun b hb => .inl hb))
        have HZ : Hid (Til D g tb n) := lh (by
         have := HP.out.last (by omega) (by rw [<- Hp.out]; exact hm) (by rw [<- Hp.out, <- HTB.out]; omega) (by rw [<- Hp.out]; exact hm1)
         rw [<- HTB.out] at this
         exact this)
        clear hr1 hm1 ht1 HS
        go_wp2_with fail
        go_roundw
        case rel => exact ⟨tb, g, by omega, by omega, by go_num, HR1, HZ, lh (HM1.out.lt (Nat.le_refl _) HF.out), HT2⟩
        case measure => simp [intOf]; omega
       ·have hl2 : ((p : Int) + (bs : Int) < (n : Int)) = False := by simp; omega
        have HZ : Hid (Til D f tb n) := lh (by
         have := HP.out.quit (by omega) (by rw [<- Hp.out]; exact hpn) (by rw [<- Hp.out]; omega)
         rw [<- HTB.out] at this
         exact this)
        go_wp2_with fail
        go_roundw
        case rel => exact ⟨tb, f, by omega, by omega, by go_num, HR, HZ, HF, HTw⟩
        case measure => simp [intOf]; omega
    ·have hlt : ((bs : Int) < (n : Int)) = False := by simp; omega
     go_wp2_with fail
     go_end0
     exact ⟨rfl, f, HR.out, HL.out.all h0 (by omega), HTw.out⟩
theorem sortStableg_any (hFN : ∀ (args : Array Value) (wk : World), (callFunc FN args).run Tryz.prog wk = .ok (.enter FN args) wk) (G c n : Nat) (h0 : 0 < n) (hn : n <= 100000) (S : Nat -> SL) (R : Nat -> Nat -> Int) (D : Nat -> Nat) (hRD : ∀ x y, R x y < 0 ↔ D x < D y) (w0 : World) (hC : CmpOkG FN CL S R G n w0) (w : World) (hR : RowV S w G c n (fun k => k)) (hT : Touch [G] w0 w) :
  Calls Tryz.prog 102 #[.slice (some ⟨G, 0, none⟩) n c, .func (.func FN) #[] CL.toArray] w fun e w' => e = .returned (.tuple #[]) /\ ∃ g, RowV S w' G c n g /\ Good D g 0 n /\ Touch [G] w w' := by
 have Hi := lh (stableg_any FN CL hFN G c n h0 hn S R D hRD w0 hC w hR hT)
 clear hR hT hC
 go_enter Tryz.func102, Tryz.ntmps102
 go_wp2_with fail
 refine Hi.out.mono ?_
 rintro e w1 ⟨rfl, g, hg⟩
 have Hg := lh hg
 clear hg
 go_wp2_with fail
 go_end0
 exact ⟨rfl, g, Hg.out⟩
end
section
def Tr (x y z : Int) : Prop := x <= 0 -> y <= 0 -> z <= 0 /\ (z = 0 ↔ x = 0 /\ y = 0)
theorem Tr.lex {x1 y1 z1 x2 y2 z2 : Int} (h1 : Tr x1 y1 z1) (h2 : Tr x2 y2 z2) : Tr (if x1 = 0 then x2 else x1) (if y1 = 0 then y2 else y1) (if z1 = 0 then z2 else z1) := by
 intro h3 h4
 unfold Tr at h1 h2
 by_cases a : x1 = 0 <;> by_cases b : y1 = 0 <;> by_cases c : z1 = 0
 all_goals
  first | rw [if_pos a] at h3 ⊢ | rw [if_neg a] at h3 ⊢
  first | rw [if_pos b] at h4 ⊢ | rw [if_neg b] at h4 ⊢
  first | rw [if_pos c] | rw [if_neg c]
  have q1 := h1 (by omega) (by omega)
  first
   | (have q2 := h2 (by omega) (by omega); omega)
   | omega
theorem tr_int (a b c : Int) : Tr (Lib.compareInt a b) (Lib.compareInt b c) (Lib.compareInt a c) := by
 intro h1 h2
 have q : ∀ x y : Int, Lib.compareInt x y = if x < y then -1 else if y < x then 1 else 0 := fun x y => by
  unfold Lib.compareInt
  split
  ·rfl
  ·split <;> first | rfl | (exfalso; omega) | (rename_i h1 h2; rw [if_pos (by omega)]) | (rename_i h1 h2; rw [if_neg (by omega)])
 rw [q] at h1 h2 ⊢
 rw [q a b, q b c]
 by_cases a1 : a < b <;> by_cases a2 : b < a <;> by_cases a3 : b < c <;> by_cases a4 : c < b <;> by_cases a5 : a < c <;> by_cases a6 : c < a <;> simp only [a1, a2, a3, a4, a5, a6, if_true, if_false] at h1 h2 ⊢ <;> first | omega | (simp; omega) | simp
theorem tr_bytes : ∀ (a b c : List UInt8), Tr (Lib.compareBytes a b) (Lib.compareBytes b c) (Lib.compareBytes a c)
 | [], [], [] => fun _ _ => by decide
 | [], [], _ :: _ => fun _ _ => by simp [Lib.compareBytes]
 | [], _ :: _, [] => fun _ h => by simp [Lib.compareBytes] at h
 | [], _ :: _, _ :: _ => fun _ _ => by simp [Lib.compareBytes]
 | _ :: _, [], _ => fun h _ => by simp [Lib.compareBytes] at h
 | _ :: _, _ :: _, [] => fun _ h => by simp [Lib.compareBytes] at h
 | x :: a, y :: b, z :: c => by
  have e : ∀ (x y : UInt8) (a b : List UInt8), Lib.compareBytes (x :: a) (y :: b) = if Lib.compareInt x.toNat y.toNat = 0 then Lib.compareBytes a b else Lib.compareInt x.toNat y.toNat := fun x y a b => by
   rw [Lib.compareBytes]
   unfold Lib.compareInt
   by_cases h1 : x < y
   ·have := UInt8.lt_iff_toNat_lt.1 h1
    rw [if_pos h1]
    simp (discharger := omega) [show ((x.toNat : Int) < (y.toNat : Int)) by omega]
   ·have n1 : ¬ x.toNat < y.toNat := fun q => h1 (UInt8.lt_iff_toNat_lt.2 q)
    rw [if_neg h1]
    by_cases h2 : y < x
    ·have := UInt8.lt_iff_toNat_lt.1 h2
     rw [if_pos h2]
     simp [show ¬ ((x.toNat : Int) < (y.toNat : Int)) by omega, show ((y.toNat : Int) < (x.toNat : Int)) by omega]
    ·have n2 : ¬ y.toNat < x.toNat := fun q => h2 (UInt8.lt_iff_toNat_lt.2 q)
     rw [if_neg h2]
     simp [show ¬ ((x.toNat : Int) < (y.toNat : Int)) by omega, show ¬ ((y.toNat : Int) < (x.toNat : Int)) by omega]
  rw [e, e, e]
  exact (tr_int _ _ _).lex (tr_bytes a b c)
theorem tr_val (a b c : VD) : Tr (cmpVV a b) (cmpVV b c) (cmpVV a c) := by
 have e : ∀ a b : VD, cmpVV a b = if Lib.compareInt a.kind b.kind = 0 then (if Lib.compareInt a.num b.num = 0 then Lib.compareBytes a.text.data.toList b.text.data.toList else Lib.compareInt a.num b.num) else Lib.compareInt a.kind b.kind := fun a b => by
  unfold cmpVV
  simp only [orV]
  split
  ·split
   ·by_cases h : Lib.compareBytes a.text.data.toList b.text.data.toList = 0
    ·rw [if_pos h, h]
    ·rw [if_neg h]
   ·rfl
  ·rfl
 rw [e, e, e]
 exact (tr_int _ _ _).lex ((tr_int _ _ _).lex (tr_bytes _ _ _))
theorem tr_row : ∀ (a b c : List VD), Tr (cmpRV a b) (cmpRV b c) (cmpRV a c)
 | [], [], [] => fun _ _ => by decide
 | [], [], _ :: _ => fun _ _ => by simp [cmpRV]
 | [], _ :: _, [] => fun _ h => by simp [cmpRV] at h
 | [], _ :: _, _ :: _ => fun _ _ => by simp [cmpRV]
 | _ :: _, [], _ => fun h _ => by simp [cmpRV] at h
 | _ :: _, _ :: _, [] => fun _ h => by simp [cmpRV] at h
 | x :: a, y :: b, z :: c => by
  have e : ∀ (x y : VD) (a b : List VD), cmpRV (x :: a) (y :: b) = if cmpVV x y = 0 then cmpRV a b else cmpVV x y := fun x y a b => by rw [cmpRV]
  rw [e, e, e]
  exact (tr_val _ _ _).lex (tr_row a b c)
def rankN (R : Nat -> Nat -> Int) (M x : Nat) : Nat := ((List.range M).filter fun z => decide (R z x < 0)).length
theorem filter_le {p q : Nat -> Bool} : ∀ (l : List Nat), (∀ a ∈ l, p a = true -> q a = true) -> (l.filter p).length <= (l.filter q).length
 | [], _ => Nat.le_refl _
 | a :: l, h => by
  have ih := filter_le l fun b hb => h b (List.mem_cons_of_mem _ hb)
  have ha := h a List.mem_cons_self
  rw [List.filter_cons, List.filter_cons]
  by_cases hp : p a = true
  ·rw [if_pos hp, if_pos (ha hp)]; simp only [List.length_cons]; omega
  ·rw [if_neg hp]
   split
   ·simp only [List.length_cons]; omega
   ·exact ih
theorem filter_lt {p q : Nat -> Bool} : ∀ (l : List Nat), (∀ a ∈ l, p a = true -> q a = true) -> ∀ a ∈ l, p a = false -> q a = true -> (l.filter p).length < (l.filter q).length
 | b :: l, h, a, ha, hp, hq => by
  have hl : ∀ c ∈ l, p c = true -> q c = true := fun c hc => h c (List.mem_cons_of_mem _ hc)
  rw [List.filter_cons, List.filter_cons]
  rcases List.mem_cons.1 ha with rfl | hm
  ·rw [if_neg (by rw [hp]; simp), if_pos hq]
   have := filter_le l hl
   simp only [List.length_cons]; omega
  ·have ih := filter_lt l hl a hm hp hq
   by_cases hpb : p b = true
   ·rw [if_pos hpb, if_pos (h b List.mem_cons_self hpb)]; simp only [List.length_cons]; omega
   ·rw [if_neg hpb]
    split
    ·simp only [List.length_cons]; omega
    ·exact ih
theorem rank_iff {R : Nat -> Nat -> Int} {M : Nat} (hn : ∀ x y, R y x = -R x y) (ht : ∀ x y z, Tr (R x y) (R y z) (R x z)) (hr : ∀ x, ∃ x', x' < M /\ ∀ y, R x' y = R x y) (x y : Nat) : R x y < 0 ↔ rankN R M x < rankN R M y := by
 have h0 : ∀ x, R x x = 0 := fun x => by have := hn x x; omega
 have up : ∀ x y z, R z x < 0 -> R x y <= 0 -> R z y < 0 := fun x y z h1 h2 => by
  have := ht z x y (by omega) h2
  omega
 constructor
 ·intro h
  obtain ⟨x', hx', he⟩ := hr x
  refine filter_lt _ (fun a _ ha => ?_) x' (List.mem_range.2 hx') ?_ ?_
  ·exact decide_eq_true (up x y a (of_decide_eq_true ha) (by omega))
  ·have := h0 x
   have := he x
   exact decide_eq_false (by omega)
  ·have := he y
   exact decide_eq_true (by omega)
 ·intro h
  rcases Int.lt_or_le (R x y) 0 with q | q
  ·exact q
  ·have h1 : R y x <= 0 := by have := hn x y; omega
   have : rankN R M y <= rankN R M x := filter_le _ fun a _ ha => decide_eq_true (up y x a (of_decide_eq_true ha) h1)
   omega
def SortedOf (rows out : List (List VD)) : Prop := out.Perm rows /\ out.Pairwise fun a b => cmpRV a b <= 0
def rowR (rows : List (List VD)) (x y : Nat) : Int := cmpRV (rows.getD x []) (rows.getD y [])
def rowD (rows : List (List VD)) (x : Nat) : Nat := rankN (rowR rows) (rows.length + 1) x
theorem rowD_iff (rows : List (List VD)) (x y : Nat) : rowR rows x y < 0 ↔ rowD rows x < rowD rows y := by
 refine rank_iff (R := rowR rows) (fun x y => cmpRV_neg _ _) (fun x y z => tr_row _ _ _) (fun x => ?_) x y
 by_cases h : x < rows.length
 ·exact ⟨x, by omega, fun _ => rfl⟩
 ·refine ⟨rows.length, by omega, fun y => ?_⟩
  unfold rowR
  rw [List.getD_eq_getElem?_getD, List.getElem?_eq_none (Nat.le_refl _), List.getD_eq_getElem?_getD (l := rows) (i := x), List.getElem?_eq_none (by omega)]
theorem good_sorted {rows : List (List VD)} {g : Nat -> Nat} (h : Good (rowD rows) g 0 rows.length) : SortedOf rows ((List.range rows.length).map fun k => rows.getD (g k) []) := by
 constructor
 ·have e : rows = (List.range rows.length).map fun k => rows.getD k [] := by
   apply List.ext_getElem
   ·simp
   ·intro i h1 h2; simp [h1]
  have h1 : ((List.range rows.length).map g).Perm (List.range rows.length) := by
   refine (List.perm_ext_iff_of_nodup ?_ List.nodup_range).2 fun a => ?_
   ·rw [List.Nodup, List.pairwise_map]
    refine (List.Pairwise.and_mem.1 List.pairwise_lt_range).imp fun {x y} hxy e => ?_
    have := h.1 x y (Nat.zero_le _) hxy.2.2 (List.mem_range.1 hxy.2.1)
    rw [e] at this
    exact ltL_irrefl _ _ this
   ·rw [List.mem_range, List.mem_map]
    constructor
    ·rintro ⟨i, hi, rfl⟩
     exact ((h.2 (g i)).1 ⟨i, Nat.zero_le _, List.mem_range.1 hi, rfl⟩).2
    ·intro ha
     obtain ⟨i, _, hi, hg⟩ := (h.2 a).2 ⟨Nat.zero_le _, ha⟩
     exact ⟨i, List.mem_range.2 hi, hg⟩
  have h2 := h1.map fun k => rows.getD k []
  rw [List.map_map, <- e] at h2
  exact h2
 ·rw [List.pairwise_map]
  refine (List.Pairwise.and_mem.1 List.pairwise_lt_range).imp fun {x y} hxy => ?_
  have h1 := h.1 x y (Nat.zero_le _) hxy.2.2 (List.mem_range.1 hxy.2.1)
  have h2 : ¬ rowD rows (g y) < rowD rows (g x) := by unfold ltL at h1; omega
  have h3 := mt (rowD_iff rows (g y) (g x)).1 h2
  have h4 := cmpRV_neg (rows.getD (g x) []) (rows.getD (g y) [])
  unfold rowR at h3
  omega
end
section
open Go.RowKit
theorem inR_nil (A : Option Addr) (c : Nat) (fv : Value) (w : World) : Calls Tryz.prog 177 #[.slice A 0 c, .int .i64 0, .int .i64 0, fv] w fun e w' => e = .returned (.tuple #[]) /\ w' = w := by
 go_enter Tryz.func177, Tryz.ntmps177
 go_wp2_with fail
 go_loop [8] (fun y => y = .int .i64 1) (fun _ => 0)
 case atStart => rfl
 case round =>
  obtain rfl := hrel
  go_wp2
  go_end0
  exact ⟨rfl, rfl⟩
theorem stableR_nil (A : Option Addr) (c : Nat) (fv : Value) (w : World) : Calls Tryz.prog 143 #[.slice A 0 c, .int .i64 0, fv] w fun e w' => e = .returned (.tuple #[]) /\ w' = w := by
 have Hi := lh (inR_nil A c fv)
 go_enter Tryz.func143, Tryz.ntmps143
 go_wp2
 go_loop [7, 8] (fun a b => a = .int .i64 0 /\ b = .int .i64 20) (fun _ _ => 0)
 case atStart => exact ⟨rfl, rfl⟩
 case round =>
  obtain ⟨rfl, rfl⟩ := hrel
  go_wp2_with fail
  refine (Hi.out _).mono ?_
  rintro e w1 ⟨rfl, hw⟩
  have HW := lh hw
  clear hw
  go_wp2_with fail
  go_loop [6, 7, 8, 9] (fun a _ _ _ => a = .int .i64 20) (fun _ _ _ _ => 0)
  case atStart => rfl
  case round =>
   obtain rfl := hrel
   go_wp2_with fail
   go_end0
   exact ⟨rfl, HW.out⟩
theorem sortR_nil (A : Option Addr) (c : Nat) (fv : Value) (w : World) : Calls Tryz.prog 102 #[.slice A 0 c, fv] w fun e w' => e = .returned (.tuple #[]) /\ w' = w := by
 have Hi := lh (stableR_nil A c fv)
 go_enter Tryz.func102, Tryz.ntmps102
 go_wp2_with fail
 refine (Hi.out _).mono ?_
 rintro e w1 ⟨rfl, hw⟩
 have HW := lh hw
 clear hw
 go_wp2_with fail
 go_end0
 exact ⟨rfl, HW.out⟩
theorem range_getD {α : Type} (l : List α) (z : α) (n : Nat) (hn : l.length = n) : (List.range n).map (fun k => l.getD k z) = l := by
 subst hn
 apply List.ext_getElem
 ·simp
 ·intro i h1 h2; simp [h2]
theorem enter_cmp (args : Array Value) (wk : World) : (callFunc 81 args).run Tryz.prog wk = .ok (.enter 81 args) wk := by kernel_rfl
theorem sortRows_any (B : Option Addr) (c n : Nat) (rows : List (List VD)) (hn : rows.length = n) (hl : n <= 100000) (hok : RowsOk rows) (base : Nat) (w : World) (h : OwnR 33 base w B c rows) :
  Calls Tryz.prog 102 #[.slice B n c, .func (.func 81) #[] #[]] w fun e w' =>
   e = .returned (.tuple #[]) /\ ∃ out, SortedOf rows out /\ OwnR 33 base w' B c out /\ Touch (fpo B) w w' := by
 subst hn
 obtain ⟨sl, ⟨h1, h1'⟩, h2, h3⟩ := h
 by_cases h0 : rows.length = 0
 ·obtain rfl : rows = [] := List.eq_nil_of_length_eq_zero h0
  obtain rfl : sl = [] := List.eq_nil_of_length_eq_zero h1
  refine (sortR_nil B c _ w).mono ?_
  rintro e w1 ⟨rfl, rfl⟩
  exact ⟨rfl, [], ⟨.refl _, .nil⟩, ⟨[], ⟨rfl, h1'⟩, h2, h3⟩, Touch.refl _ _⟩
 ·rcases h2.head with ⟨q1, q2, q3⟩ | ⟨G, rfl⟩
  ·exact absurd (by rw [<- h1, q2]; rfl) h0
  ·have hget : ∀ x (hx : x < sl.length), sl.getD x ⟨none, 0, 0⟩ = sl[x] := fun x hx => by simp [hx]
   have hgr : ∀ x (hx : x < rows.length), rows.getD x [] = rows[x] := fun x hx => by simp [hx]
   have hat : ∀ wr, Touch [G] w wr -> ∀ x (hx : x < rows.length), (sl.getD x ⟨none, 0, 0⟩).n = (rows.getD x []).length /\ ValsAt wr (sl.getD x ⟨none, 0, 0⟩).A (rows.getD x []) := fun wr ht x hx => by
    have hx1 : x < sl.length := by omega
    rw [hget x hx1, hgr x hx]
    exact ⟨(h1' x hx1 hx).1, RdK.touch (h1' x hx1 hx).2 ht (fun b hb => by have := (h3 _ (List.getElem_mem hx1) b hb).1; simpa [fpo] using this)⟩
   have hC : CmpOkG 81 [] (fun x => sl.getD x ⟨none, 0, 0⟩) (rowR rows) G rows.length w := by
    intro wr ht x y hx hy
    obtain ⟨a1, a2⟩ := hat wr ht x hx
    obtain ⟨b1, b2⟩ := hat wr ht y hy
    have k1 := hok _ (List.getElem_mem hx)
    have k2 := hok _ (List.getElem_mem hy)
    rw [<- hgr x hx] at k1
    rw [<- hgr y hy] at k2
    exact cmpRows_any _ _ _ _ _ _ _ _ a1.symm b1.symm wr a2 b2 (by rw [a1]; exact k1.1) (by rw [b1]; exact k2.1)
   have hR : RowV (fun x => sl.getD x ⟨none, 0, 0⟩) w G c rows.length (fun k => k) := by
    unfold RowV
    rw [range_getD sl _ _ h1]
    exact h2
   refine (sortStableg_any 81 [] enter_cmp G c rows.length (by omega) hl _ _ _ (rowD_iff rows) w hC w hR (Touch.refl _ _)).mono ?_
   rintro e w1 ⟨rfl, g, hr, hg, ht⟩
   have hgn : ∀ i, i < rows.length -> g i < rows.length := fun i hi => ((hg.2 (g i)).1 ⟨i, Nat.zero_le _, hi, rfl⟩).2
   refine ⟨rfl, _, good_sorted hg, ⟨_, ⟨by simp, fun i a b => ?_⟩, hr, fun s hs b hb => ?_⟩, ht⟩
   ·have hi : i < rows.length := by simpa using a
    have := hat w1 ht (g i) (hgn i hi)
    simpa using this
   ·obtain ⟨i, hi, rfl⟩ := List.mem_map.1 hs
    have hi := hgn i (List.mem_range.1 hi)
    have hi1 : g i < sl.length := by omega
    have hb : b ∈ fpo (sl.getD (g i) ⟨none, 0, 0⟩).A := hb
    rw [hget _ hi1] at hb
    obtain ⟨c1, c2, c3⟩ := h3 _ (List.getElem_mem hi1) b hb
    exact ⟨c1, Nat.lt_of_lt_of_le c2 ht.size, c3⟩
end
end Go.Proofs.YtafoklilkdnepaaGreatDoor
