/- The reference's disk and the real one, step by step alike. -/
import Derived.Test.YtgpadejkmpfafaaRCrash
import Derived.Test.YtgpadejkmpfafaaDiskFullLaw
namespace Go.Proofs.Ytgpadejkmpfafaa
open Go.RowKit

def sb (x : List UInt8 × Nat) : List Bool := List.replicate x.2 true ++ List.replicate (x.1.length - x.2) false
def toR (V : Fl) : RFl := V.map fun x => (x.1, sb x)
structure SameR (r : DR) (rr : RR) : Prop where
  cap : rr.cap = r.cap
  done : rr.done = r.done
  down : rr.down = r.down
  armed : rr.armed = decide (0 ≤ r.left)
  left : 0 ≤ r.left → rr.left = r.left
  b1 : -9223372036854775808 ≤ rr.left
  b2 : rr.left ≤ 9223372036854775807

theorem trues_rep (s m : Nat) : trues (List.replicate s true ++ List.replicate m false) = s := by
  induction s with
  | zero => cases m <;> rfl
  | succ s ih => rw [List.replicate_succ, List.cons_append]; simp [trues, ih]
theorem trues_sb (x : List UInt8 × Nat) : trues (sb x) = x.2 := trues_rep _ _
theorem sb_len (x : List UInt8 × Nat) (h : x.2 ≤ x.1.length) : (sb x).length = x.1.length := by simp [sb]; omega
theorem toR_len (V : Fl) : (toR V).length = V.length := by simp [toR]
theorem toR_get (V : Fl) (n : Nat) (hn : n < V.length) (hn2 : n < (toR V).length) : (toR V)[n] = ((V[n]).1, sb V[n]) := by simp [toR]
theorem toR_set (V : Fl) (n : Nat) (x : List UInt8 × Nat) : (toR V).set n (x.1, sb x) = toR (V.set n x) := by simp [toR, List.map_set]
theorem rused_toR (V : Fl) : rused (toR V) = usedV V := by simp [rused, usedV, toR, Function.comp_def]
theorem usedV_le {V : Fl} (n : Nat) (hn : n < V.length) : (V[n]).1.length ≤ usedV V := usedV_ge V n hn

theorem SameR.ok {r : DR} {rr : RR} (h : SameR r rr) (hr : r.ok) : rr.ok := by
  obtain ⟨k1, k2, k3, k4, k5, k6⟩ := hr
  refine ⟨by rw [h.cap]; exact k1, by rw [h.cap]; exact k2, fun ha => ?_, h.b1, h.b2, by rw [h.done]; exact k5, by rw [h.done]; exact k6⟩
  rw [h.armed] at ha
  have := of_decide_eq_true ha
  rw [h.left this]; exact this
theorem SameR.cmd {r : DR} {rr : RR} (h : SameR r rr) (hr : r.ok) : cmdE r = rcmdE rr ∧ SameR (cmdR r) (rcmdR rr) := by
  obtain ⟨k1, k2, k3, k4, k5, k6⟩ := hr
  by_cases h0 : r.left = 0
  · have ha : rr.armed = true := by rw [h.armed]; simp; omega
    have hl : rr.left = 0 := by rw [h.left (by omega)]; exact h0
    refine ⟨by unfold cmdE rcmdE; rw [if_pos h0, if_pos ⟨ha, hl⟩], ?_⟩
    unfold cmdR rcmdR
    rw [if_pos h0, if_pos ⟨ha, hl⟩]
    exact ⟨h.cap, h.done, rfl, h.armed, h.left, h.b1, h.b2⟩
  · have hn : ¬ (rr.armed = true ∧ rr.left = 0) := by
      rintro ⟨ha, hl⟩
      rw [h.armed] at ha
      have := of_decide_eq_true ha
      exact h0 (by rw [← h.left this]; exact hl)
    refine ⟨by unfold cmdE rcmdE; rw [if_neg h0, if_neg hn], ?_⟩
    unfold cmdR rcmdR
    rw [if_neg h0, if_neg hn]
    have hb1 := h.b1
    have hb2 := h.b2
    by_cases hp : 0 ≤ r.left
    · have ha : rr.armed = true := by rw [h.armed]; simp; exact hp
      have hl := h.left hp
      refine ⟨h.cap, ?_, h.down, ?_, fun _ => ?_, ?_, ?_⟩
      · show rr.done + 1 = r.done + 1
        rw [h.done]
      · show rr.armed = decide (0 ≤ max (r.left - 1) (-1))
        rw [ha]; simp; omega
      · show (if rr.armed = true then rr.left - 1 else rr.left) = max (r.left - 1) (-1)
        rw [if_pos ha, hl]; omega
      · show -9223372036854775808 ≤ (if rr.armed = true then rr.left - 1 else rr.left)
        rw [if_pos ha, hl]; omega
      · show (if rr.armed = true then rr.left - 1 else rr.left) ≤ 9223372036854775807
        rw [if_pos ha]; omega
    · have ha : rr.armed = false := by rw [h.armed]; simp; omega
      refine ⟨h.cap, ?_, h.down, ?_, fun hx => ?_, ?_, ?_⟩
      · show rr.done + 1 = r.done + 1
        rw [h.done]
      · show rr.armed = decide (0 ≤ max (r.left - 1) (-1))
        rw [ha]; simp; omega
      · have : 0 ≤ max (r.left - 1) (-1) := hx
        omega
      · show -9223372036854775808 ≤ (if rr.armed = true then rr.left - 1 else rr.left)
        rw [ha]; exact hb1
      · show (if rr.armed = true then rr.left - 1 else rr.left) ≤ 9223372036854775807
        rw [ha]; exact hb2

structure FOk (V : Fl) (r : DR) : Prop where
  len : V.length = 4
  used : usedV V ≤ 1073741824
  rok : r.ok
  safe : ∀ i, (hi : i < V.length) → (V[i]).2 ≤ (V[i]).1.length
theorem DkAt.fok {w : World} {g : Nat} {fp : List Nat} {V : Fl} {r : DR} (h : DkAt w g fp V r) : FOk V r := ⟨h.facts.1, h.facts.2.1, h.facts.2.2.1, h.facts.2.2.2⟩

theorem rappend_tw (g : Nat) (fp : List Nat) (V : Fl) (r : DR) (rr : RR) (n : Int) (A : Option Addr) (c m : Nat) (b : List UInt8) (hm : b.length = m) (w : World) (hd : RdAt w g fp (toR V) rr) (hs : SameR r rr) (hf : FOk V r) (hr : ∀ w', Touch fp w w' → RdB w' A b) (hb : m ≤ 1073741824) (x : Int × Fl × DR) (hx : pApp V r n b = x) :
    Calls Try.prog 38 #[.pointer (some ⟨g, 0, none⟩), .int .i64 n, .slice A m c] w fun e w' => e = .returned (.int .i64 x.1) ∧ ∃ rr', RdStep g fp (toR x.2.1) rr' w w' ∧ SameR x.2.2 rr' := by
  subst hm hx
  obtain ⟨c8, c9, c10, c11, c12⟩ := hd.cells
  have hdn := hs.down
  by_cases hck : checkI r.down n = 0
  · obtain ⟨hdd, h0, h4⟩ := check_zero hck
    obtain ⟨k, rfl⟩ : ∃ k : Nat, n = k := ⟨n.toNat, by omega⟩
    have hl4 := hf.len
    have hk : k < V.length := by omega
    have hk2 : k < (toR V).length := by rw [toR_len]; exact hk
    have hu : rused (toR V) ≤ 1073741824 := by rw [rused_toR]; exact hf.used
    by_cases hfull : r.cap - usedV V < (b.length : Int)
    · have e : pApp V r k b = (41, V, r) := by unfold pApp; rw [if_neg (by simpa using hck), if_pos hfull]
      rw [e]
      refine (rappend_full g fp (toR V) rr k A c b w hd (hs.ok hf.rok) hk2 (by rw [hdn, hdd]) hu hb (by rw [hs.cap, rused_toR]; omega)).mono ?_
      rintro e w' ⟨rfl, ht⟩
      exact ⟨rfl, rr, hd.keep ht, hs⟩
    · have hg : V.getD k ([], 0) = V[k] := by simp [List.getD, hk]
      have e : pApp V r k b = (cmdE r, V.set k ((V[k]).1 ++ b, (V[k]).2), cmdR r) := by unfold pApp; rw [if_neg (by simpa using hck), if_neg hfull, Int.toNat_natCast, hg]
      rw [e]
      refine (rappend_ok g fp (toR V) rr k A c b w hd hr (hs.ok hf.rok) hk2 (by rw [hdn, hdd]) hu hb (by rw [hs.cap, rused_toR]; omega) (fun i hi => ?_)).mono ?_
      · have hi' : i < V.length := by rw [toR_len] at hi; exact hi
        rw [toR_get V i hi' hi]
        show (sb V[i]).length ≤ _
        rw [sb_len _ (hf.safe i hi')]
        exact Nat.le_trans (usedV_le i hi') hf.used
      · rintro e w' ⟨rfl, hst⟩
        obtain ⟨h1, h2⟩ := hs.cmd hf.rok
        refine ⟨by rw [h1], rcmdR rr, ?_, h2⟩
        have hsafe := hf.safe k hk
        have e2 : (toR V).set k (((toR V)[k]).1 ++ b, ((toR V)[k]).2 ++ List.replicate b.length false) = toR (V.set k ((V[k]).1 ++ b, (V[k]).2)) := by
          rw [toR_get V k hk hk2, ← toR_set]
          congr 2
          simp only [sb, List.length_append, List.append_assoc, List.replicate_append_replicate]
          congr 2
          omega
        rw [e2] at hst
        exact hst
  · have e : pApp V r n b = (checkI r.down n, V, r) := by unfold pApp; rw [if_pos (by simpa using hck)]
    rw [e]
    rw [hdn] at c12
    refine (rappend_bad g r.down n _ w c12 hck).mono ?_
    rintro e w' ⟨rfl, rfl⟩
    exact ⟨rfl, rr, hd.keep (Touch.refl _ _), hs⟩

theorem rsync_tw (g : Nat) (fp : List Nat) (V : Fl) (r : DR) (rr : RR) (n : Int) (w : World) (hd : RdAt w g fp (toR V) rr) (hs : SameR r rr) (hf : FOk V r) (x : Int × Fl × DR) (hx : pSync V r n = x) :
    Calls Try.prog 39 #[.pointer (some ⟨g, 0, none⟩), .int .i64 n] w fun e w' => e = .returned (.int .i64 x.1) ∧ ∃ rr', RdStep g fp (toR x.2.1) rr' w w' ∧ SameR x.2.2 rr' := by
  subst hx
  obtain ⟨c8, c9, c10, c11, c12⟩ := hd.cells
  have hdn := hs.down
  by_cases hck : checkI r.down n = 0
  · obtain ⟨hdd, h0, h4⟩ := check_zero hck
    obtain ⟨k, rfl⟩ : ∃ k : Nat, n = k := ⟨n.toNat, by omega⟩
    have hl4 := hf.len
    have hk : k < V.length := by omega
    have hk2 : k < (toR V).length := by rw [toR_len]; exact hk
    have hg : V.getD k ([], 0) = V[k] := by simp [List.getD, hk]
    have e : pSync V r k = (cmdE r, if cmdE r = 0 then V.set k ((V[k]).1, (V[k]).1.length) else V, cmdR r) := by unfold pSync; rw [if_neg (by simpa using hck), Int.toNat_natCast, hg]
    rw [e]
    refine (rsync_ok g fp (toR V) rr k w hd (hs.ok hf.rok) hk2 (by rw [hdn, hdd]) (fun i hi => ?_)).mono ?_
    · have hi' : i < V.length := by rw [toR_len] at hi; exact hi
      rw [toR_get V i hi' hi]
      show (sb V[i]).length ≤ _
      rw [sb_len _ (hf.safe i hi')]
      exact Nat.le_trans (usedV_le i hi') hf.used
    · rintro e w' ⟨rfl, hst⟩
      obtain ⟨h1, h2⟩ := hs.cmd hf.rok
      refine ⟨by rw [h1], rcmdR rr, ?_, h2⟩
      rw [← h1] at hst
      dsimp only
      by_cases hc : cmdE r = 0
      · rw [if_pos hc] at hst ⊢
        have e2 : (toR V).set k (((toR V)[k]).1, List.replicate ((toR V)[k]).2.length true) = toR (V.set k ((V[k]).1, (V[k]).1.length)) := by
          rw [toR_get V k hk hk2, ← toR_set]
          congr 2
          rw [sb_len _ (hf.safe k hk)]
          simp [sb]
        rw [e2] at hst
        exact hst
      · rw [if_neg hc] at hst ⊢
        exact hst
  · have e : pSync V r n = (checkI r.down n, V, r) := by unfold pSync; rw [if_pos (by simpa using hck)]
    rw [e]
    rw [hdn] at c12
    refine (rsync_bad g r.down n w c12 hck).mono ?_
    rintro e w' ⟨rfl, rfl⟩
    exact ⟨rfl, rr, hd.keep (Touch.refl _ _), hs⟩

theorem rcut_tw (g : Nat) (fp : List Nat) (V : Fl) (r : DR) (rr : RR) (n size : Int) (w : World) (hd : RdAt w g fp (toR V) rr) (hs : SameR r rr) (hf : FOk V r) (x : Int × Fl × DR) (hx : pCut V r n size = x) :
    Calls Try.prog 40 #[.pointer (some ⟨g, 0, none⟩), .int .i64 n, .int .i64 size] w fun e w' => e = .returned (.int .i64 x.1) ∧ ∃ rr', RdStep g fp (toR x.2.1) rr' w w' ∧ SameR x.2.2 rr' := by
  subst hx
  obtain ⟨c8, c9, c10, c11, c12⟩ := hd.cells
  have hdn := hs.down
  by_cases hck : checkI r.down n = 0
  · obtain ⟨hdd, h0, h4⟩ := check_zero hck
    obtain ⟨k, rfl⟩ : ∃ k : Nat, n = k := ⟨n.toNat, by omega⟩
    have hl4 := hf.len
    have hk : k < V.length := by omega
    have hk2 : k < (toR V).length := by rw [toR_len]; exact hk
    have hg : V.getD k ([], 0) = V[k] := by simp [List.getD, hk]
    have hg1 : ((toR V)[k]).1 = (V[k]).1 := by rw [toR_get V k hk hk2]
    by_cases hrg : size < 0 ∨ ((V[k]).1.length : Int) < size
    · have e : pCut V r k size = (30, V, r) := by unfold pCut; rw [if_neg (by simpa using hck), Int.toNat_natCast, hg, if_pos hrg]
      rw [e]
      refine (rcut_range g fp (toR V) rr k size w hd hk2 (by rw [hdn, hdd]) (by rw [hg1]; exact hrg)).mono ?_
      rintro e w' ⟨rfl, rfl⟩
      exact ⟨rfl, rr, hd.keep (Touch.refl _ _), hs⟩
    · obtain ⟨s, rfl⟩ : ∃ s : Nat, size = s := ⟨size.toNat, by omega⟩
      have e : pCut V r k s = (cmdE r, if cmdE r = 0 then V.set k ((V[k]).1.take s, s) else V, cmdR r) := by unfold pCut; rw [if_neg (by simpa using hck), Int.toNat_natCast, hg, if_neg hrg, Int.toNat_natCast]
      rw [e]
      refine (rcut_ok g fp (toR V) rr k s w hd (hs.ok hf.rok) hk2 (by rw [hdn, hdd]) (by rw [hg1]; exact Nat.le_trans (usedV_le k hk) hf.used) (by rw [hg1]; omega)).mono ?_
      rintro e w' ⟨rfl, hst⟩
      obtain ⟨h1, h2⟩ := hs.cmd hf.rok
      refine ⟨by rw [h1], rcmdR rr, ?_, h2⟩
      rw [← h1] at hst
      dsimp only
      by_cases hc : cmdE r = 0
      · rw [if_pos hc] at hst ⊢
        have e2 : (toR V).set k (((toR V)[k]).1.take s, List.replicate s true) = toR (V.set k ((V[k]).1.take s, s)) := by
          rw [hg1, ← toR_set]
          congr 2
          have : (List.take s (V[k]).1).length - s = 0 := by rw [List.length_take]; omega
          simp only [sb, this, List.replicate_zero, List.append_nil]
        rw [e2] at hst
        exact hst
      · rw [if_neg hc] at hst ⊢
        exact hst
  · have e : pCut V r n size = (checkI r.down n, V, r) := by unfold pCut; rw [if_pos (by simpa using hck)]
    rw [e]
    rw [hdn] at c12
    refine (rcut_bad g r.down n size w c12 hck).mono ?_
    rintro e w' ⟨rfl, rfl⟩
    exact ⟨rfl, rr, hd.keep (Touch.refl _ _), hs⟩

theorem rcr_sb (ks : List Int) (i : Nat) (x : List UInt8 × Nat) (h : x.2 ≤ x.1.length) : rcr ks i (x.1, sb x) = ((crashF ks i x).1, sb (crashF ks i x)) := by
  unfold rcr crashF
  simp only [trues_sb]
  congr 1
  have hst : stays ks i (x.1.length - x.2) ≤ x.1.length - x.2 := by unfold stays; split <;> omega
  simp only [sb, List.length_take]
  have : min (x.2 + stays ks i (x.1.length - x.2)) x.1.length - (x.2 + stays ks i (x.1.length - x.2)) = 0 := by omega
  rw [this]; simp
theorem rcrK_toR (ks : List Int) (V : Fl) (h : ∀ i, (hi : i < V.length) → (V[i]).2 ≤ (V[i]).1.length) : rcrK ks (toR V) 4 = toR (crashK ks V 4) := by
  apply List.ext_getElem
  · simp [rcrK, toR, crashK]
  · intro i h1 h2
    have hi : i < V.length := by simpa [rcrK, toR] using h1
    simp only [rcrK, toR, crashK, List.getElem_mapIdx, List.getElem_map]
    split
    · exact rcr_sb ks i V[i] (h i hi)
    · rfl
theorem rcrash_tw (g : Nat) (fp : List Nat) (V : Fl) (r : DR) (rr : RR) (A : Option Addr) (c : Nat) (ks : List Int) (w : World) (hd : RdAt w g fp (toR V) rr) (hs : SameR r rr) (hf : FOk V r) (hr : ∀ w', Touch fp w w' → RdI w' A ks)
    (hks : ∀ k ∈ ks, -9223372036854775808 ≤ k ∧ k ≤ 9223372036854775807) :
    Calls Try.prog 41 #[.pointer (some ⟨g, 0, none⟩), .slice A ks.length c] w fun e w' => e = .returned (.tuple #[]) ∧ ∃ rr', RdStep g fp (toR (crashK ks V 4)) rr' w w' ∧ SameR { r with left := -1, down := false } rr' := by
  refine (rcrash_any g fp (toR V) rr A c ks w hd hr hks (fun i hi => ?_)).mono ?_
  · have hi' : i < V.length := by rw [toR_len] at hi; exact hi
    rw [toR_get V i hi' hi]
    have h1 := usedV_le i hi'
    have h2 := hf.used
    have h3 := hf.safe i hi'
    dsimp only
    rw [sb_len _ h3, trues_sb]
    omega
  · rintro e w' ⟨rfl, hst⟩
    rw [rcrK_toR ks V hf.safe] at hst
    exact ⟨rfl, _, hst, ⟨hs.cap, hs.done, rfl, rfl, fun h => by have h2 : (0 : Int) ≤ -1 := h; omega, hs.b1, hs.b2⟩⟩
end Go.Proofs.Ytgpadejkmpfafaa
