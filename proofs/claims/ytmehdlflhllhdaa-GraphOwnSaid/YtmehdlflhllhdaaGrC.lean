/- slices.Clone at ints; graph.Needs and Needed. For every graph. -/
import Derived.Test.YtmehdlflhllhdaaGrG
import Derived.Test.YtmehdlflhllhdaaGrU
namespace Go.Proofs.Ytmehdlflhllhdaa
open Go.RowKit

set_option maxRecDepth 20000 in
/-- slices.Clone: of a slice that is nil, or whose cells lie in a block -/
theorem clone_any (A : Option Addr) (c n : Nat) (l : List Int) (hn : l.length = n) (hl : n ≤ 1000000000) (w : World) (hA : A = none ∨ ∃ b o, A = some ⟨b, o, none⟩) (h : RdI w A l) :
    Calls Try.prog 32 #[.slice A n c] w fun e w' => ∃ A' c', e = .returned (.slice A' n c') ∧ OwnK 3 1 iE w' A' c' l ∧ Touch [] w w' ∧ ∀ b ∈ fpo A', w.heap.size ≤ b := by
  subst hn
  obtain ⟨i0, hi0, hz0, hz1, hz2⟩ := info_parts info_int
  rcases hA with rfl | ⟨G, o, rfl⟩
  · have hl0 : l = [] := by
      rcases l with _ | ⟨x, l⟩
      · rfl
      · obtain ⟨ad, e, _⟩ := h.at_ 0 (by simp)
        cases e
    subst hl0
    refine (Try.slices_Clone_nil 0 c w).mono ?_
    rintro e w' ⟨rfl, rfl⟩
    exact ⟨none, 0, rfl, OwnK.nil _ _ _ _, Touch.refl _ _, by simp [fpo]⟩
  · have hcon := Try.slices_Clone i0 (.int .i64 0) 1 8 hi0 hz0 hz1 hz2 rfl (by omega) (fun w => Try.sizeOf3 w) G o l.length c (l.map iV) w (by simp) (by unfold maxLen; omega) (by omega)
      (fun j u hu => by
        have hj : j < l.length := by have := (List.getElem?_eq_some_iff.1 hu).1; simpa using this
        obtain ⟨ad, e, hc⟩ := h.at_ j hj
        obtain rfl : (⟨G, o, none⟩ : Addr) = ad := by injection e
        rw [show (⟨G, o, none⟩ : Addr).add j = ⟨G, o + j, none⟩ by unfold Addr.add; split <;> simp_all] at hc
        rw [hc]
        simpa [hj] using hu)
      (fun u hu => by obtain ⟨y, _, rfl⟩ := List.mem_map.1 hu; rfl)
    refine hcon.mono ?_
    rintro e w' ⟨v', rfl, ho, _, hb⟩
    obtain ⟨A', c', rfl, hown, hf⟩ := own_of ho
    exact ⟨A', c', rfl, hown, Touch.of_below hb [], hf⟩

set_option maxRecDepth 20000 in
set_option maxHeartbeats 1000000 in
/-- slices.Clone: of whatever slice -/
theorem clone_all (A : Option Addr) (c n : Nat) (l : List Int) (hn : l.length = n) (hl : n ≤ 1000000000) (w : World) (h : RdI w A l) :
    Calls Try.prog 32 #[.slice A n c] w fun e w' => ∃ A' c', e = .returned (.slice A' n c') ∧ OwnK 3 1 iE w' A' c' l ∧ Touch [] w w' ∧ ∀ b ∈ fpo A', w.heap.size ≤ b := by
  rcases A with _ | ad
  · exact clone_any none c n l hn hl w (.inl rfl) h
  · subst hn
    have ho := OwnK.empty_new 3 1 iE w
    have tb := (Touch.refl [] w).alloc (.cells #[] 3)
    have hrd : RdK iE (w.alloc (.cells #[] 3)) (some ad) l := by
      unfold RdK
      rw [flat_one]
      exact Rd.touch0 h tb
    have HO := Lib.hid (And.intro ho (And.intro hrd tb))
    clear ho hrd tb
    go_enter Try.func32, Try.ntmps32
    have hnil := run_eql_slice_nil (P := Try.prog) w 31 3 (some ad) l.length c Try.underlying31
    go_wp2_with (at_builtin; refine stop ?_)
    refine go ?_
    refine wpList_appK (enc := iE) rfl (.tmp 5) (.tmp 6) 31 rfl 3 (.int .i64 0) 1 8 info_int Try.underlying31 rfl (by omega) (fun _ => rfl) (fun x u hu => by simp only [List.mem_singleton] at hu; subst hu; rfl) (some ⟨w.heap.size, 0, none⟩) 0 0 [] rfl rfl HO.out.1 (some ad) l.length c l rfl rfl HO.out.2.1 (by omega) (by omega) ?_
    intro A3 c3 w3 hown3 ht3 hf3
    have H3 := Lib.hid (And.intro hown3 (And.intro ht3 hf3))
    clear hown3 ht3 hf3
    go_wp2
    go_ret
    obtain ⟨hown3, ht3, hf3⟩ := H3.out
    refine ⟨A3, c3, by first | rfl | (simp; rfl) | simp, by simpa using hown3, HO.out.2.2.trans ht3 (fun b hb => by simp [fpo] at hb; subst hb; exact .inr (Nat.le_refl _)), fun b hb => ?_⟩
    rcases hf3 b hb with e | e
    · simp [fpo] at e; omega
    · rw [World.size_alloc] at e; omega

/-- a row of a graph: what it is, nil or in a block -/
structure RowIs (w : World) (s : SL) (l : List Int) : Prop where
  n : s.n = l.length
  le : s.n ≤ s.c
  A : s.A = none ∨ ∃ b, s.A = some ⟨b, 0, none⟩
  rd : RdI w s.A l
theorem RowIs.touch {w w' : World} {s : SL} {l : List Int} {fp : List Nat} (h : RowIs w s l) (ht : Touch fp w w') (hn : ∀ b ∈ fpo s.A, b ∉ fp) : RowIs w' s l := ⟨h.n, h.le, h.A, Rd.touch h.rd ht hn⟩
theorem RowIs.zero (w : World) : RowIs w ⟨none, 0, 0⟩ [] := ⟨rfl, Nat.le_refl _, .inl rfl, Rd.nil _ _⟩

/-- the numbers, as ints -/
abbrev iN (l : List Nat) : List Int := l.map fun k : Nat => (k : Int)

/-- a graph in memory: ns: the needs; nd: who needs it; ds: the depths; all its blocks lie in [lo, hi) -/
structure GAt (lo hi : Nat) (w : World) (g : Nat) (X : GX) (ns nd : List (List Nat)) (ds : List Nat) : Prop where
  hd : HdAt w g X ns.length
  nl : nd.length = ns.length
  dl : ds.length = ns.length
  sn : OwnK 31 1 sE w (some ⟨X.N, 0, none⟩) ns.length X.sn
  sm : OwnK 31 1 sE w (some ⟨X.M, 0, none⟩) ns.length X.sm
  dp : OwnK 3 1 nE w (some ⟨X.P, 0, none⟩) ns.length ds
  snl : X.sn.length = ns.length
  sml : X.sm.length = ns.length
  rn : ∀ i (h1 : i < X.sn.length) (h2 : i < ns.length), RowIs w X.sn[i] (iN ns[i])
  rm : ∀ i (h1 : i < X.sm.length) (h2 : i < nd.length), RowIs w X.sm[i] (iN nd[i])
  bg : lo ≤ g ∧ g < hi ∧ lo ≤ X.N ∧ X.N < hi ∧ lo ≤ X.M ∧ X.M < hi ∧ lo ≤ X.P ∧ X.P < hi
  bn : ∀ s ∈ X.sn, ∀ b ∈ fpo s.A, lo ≤ b ∧ b < hi
  bm : ∀ s ∈ X.sm, ∀ b ∈ fpo s.A, lo ≤ b ∧ b < hi
  lt : ns.length ≤ 2000
theorem GAt.touch {lo hi : Nat} {w w' : World} {g : Nat} {X : GX} {ns nd : List (List Nat)} {ds : List Nat} {fp : List Nat} (h : GAt lo hi w g X ns nd ds) (ht : Touch fp w w') (hf : ∀ b ∈ fp, b < lo ∨ hi ≤ b) : GAt lo hi w' g X ns nd ds := by
  obtain ⟨b1, b2, b3, b4, b5, b6, b7, b8⟩ := h.bg
  have key : ∀ b, lo ≤ b → b < hi → b ∉ fp := fun b h1 h2 hm => by have := hf b hm; omega
  exact ⟨ht.blk h.hd (key g b1 b2), h.nl, h.dl, h.sn.touch ht (fun b hb => by simp [fpo] at hb; subst hb; exact key _ b3 b4), h.sm.touch ht (fun b hb => by simp [fpo] at hb; subst hb; exact key _ b5 b6),
    h.dp.touch ht (fun b hb => by simp [fpo] at hb; subst hb; exact key _ b7 b8), h.snl, h.sml, fun i h1 h2 => (h.rn i h1 h2).touch ht (fun b hb => by have := h.bn _ (List.getElem_mem h1) b hb; exact key b this.1 this.2),
    fun i h1 h2 => (h.rm i h1 h2).touch ht (fun b hb => by have := h.bm _ (List.getElem_mem h1) b hb; exact key b this.1 this.2), h.bg, h.bn, h.bm, h.lt⟩
theorem GAt.touch0 {lo hi : Nat} {w w' : World} {g : Nat} {X : GX} {ns nd : List (List Nat)} {ds : List Nat} (h : GAt lo hi w g X ns nd ds) (ht : Touch [] w w') : GAt lo hi w' g X ns nd ds := h.touch ht (by simp)

/-- what a call that hands out a list gives -/
def OutI (l : List Int) (w : World) (e : Ending) (w' : World) : Prop := ∃ A c, e = .returned (.slice A l.length c) ∧ OwnK 3 1 iE w' A c l ∧ Touch [] w w' ∧ ∀ b ∈ fpo A, w.heap.size ≤ b

/-- the row of a node; none: no node -/
def rowOf (ns : List (List Nat)) (i : Int) : List Int := if 0 ≤ i ∧ i < ns.length then iN (ns.getD i.toNat []) else []

set_option maxHeartbeats 1000000 in
theorem needs_any (lo hi g : Nat) (X : GX) (ns nd : List (List Nat)) (ds : List Nat) (i : Int) (w : World) (h : GAt lo hi w g X ns nd ds) (hb : ∀ l ∈ ns, l.length ≤ 2000) :
    Calls Try.prog 16 #[gP g, .int .i64 i] w fun e w' => OutI (rowOf ns i) w e w' := by
  obtain ⟨c0, _, _⟩ := h.hd.cells
  have hh := has_any g X ns.length i w h.hd
  have hlt := h.lt
  by_cases h0 : 0 ≤ i ∧ i < ns.length
  · obtain ⟨k, rfl⟩ : ∃ k : Nat, i = k := ⟨i.toNat, by omega⟩
    have hk : k < ns.length := by omega
    have hks : k < X.sn.length := by rw [h.snl]; exact hk
    have ck := h.sn.cell1 k hks
    have hr := h.rn k hks hk
    have hlen := hb _ (List.getElem_mem hk)
    have e1 : decide (0 ≤ (k : Int) ∧ (k : Int) < (ns.length : Int)) = true := by simpa using h0
    rw [e1] at hh
    have hq : rowOf ns k = iN ns[k] := by unfold rowOf; rw [if_pos h0]; simp [hk]
    rw [hq]
    obtain ⟨l, hl⟩ : ∃ l, l = iN ns[k] := ⟨_, rfl⟩
    have hll : l.length ≤ 2000 := by rw [hl]; simpa using hlen
    rw [← hl] at hr ⊢
    clear h0 e1 hq hl
    obtain ⟨⟨A, q, c⟩, hs⟩ : ∃ s, s = X.sn[k] := ⟨_, rfl⟩
    rw [← hs] at ck hr
    have ha := hr.A
    have hn := hr.n
    have hrd := hr.rd
    dsimp only [SL.val] at ck ha hn hrd
    have hcl := clone_any A c q l hn.symm (by omega) w (by rcases ha with ha | ⟨b, ha⟩; exact .inl ha; exact .inr ⟨b, 0, ha⟩) hrd
    have Hcl := Lib.hid hcl
    have Hn := Lib.hid hn
    clear hcl hs ha hr hn
    go_enter Try.func16, Try.ntmps16
    go_wp2_with fail
    refine hh.mono ?_
    rintro e w1 ⟨rfl, rfl⟩
    clear hh
    go_wp2_with fail
    refine Hcl.out.mono ?_
    rintro e w2 ⟨A2, c2, rfl, ho, ht, hf⟩
    go_wp2
    go_ret
    exact ⟨A2, c2, by rw [← Hn.out]; rfl, ho, ht, hf⟩
  · have e1 : decide (0 ≤ i ∧ i < (ns.length : Int)) = false := by simpa using h0
    rw [e1] at hh
    have hq : rowOf ns i = [] := by unfold rowOf; rw [if_neg h0]
    rw [hq]
    clear h0 e1 hq
    go_enter Try.func16, Try.ntmps16
    go_wp2_with fail
    refine hh.mono ?_
    rintro e w1 ⟨rfl, rfl⟩
    go_wp2
    go_ret
    exact ⟨none, 0, rfl, OwnK.nil _ _ _ _, Touch.refl _ _, by simp [fpo]⟩

set_option maxHeartbeats 1000000 in
theorem needed_any (lo hi g : Nat) (X : GX) (ns nd : List (List Nat)) (ds : List Nat) (i : Int) (w : World) (h : GAt lo hi w g X ns nd ds) (hb : ∀ l ∈ nd, l.length ≤ 2000) :
    Calls Try.prog 17 #[gP g, .int .i64 i] w fun e w' => OutI (rowOf nd i) w e w' := by
  obtain ⟨_, c0, _⟩ := h.hd.cells
  have hh := has_any g X ns.length i w h.hd
  have hlt := h.lt
  have hnl := h.nl
  by_cases h0 : 0 ≤ i ∧ i < ns.length
  · obtain ⟨k, rfl⟩ : ∃ k : Nat, i = k := ⟨i.toNat, by omega⟩
    have hk : k < nd.length := by omega
    have hks : k < X.sm.length := by rw [h.sml]; omega
    have ck := h.sm.cell1 k hks
    have hr := h.rm k hks hk
    have hlen := hb _ (List.getElem_mem hk)
    have e1 : decide (0 ≤ (k : Int) ∧ (k : Int) < (ns.length : Int)) = true := by simpa using h0
    rw [e1] at hh
    have hq : rowOf nd k = iN nd[k] := by unfold rowOf; rw [hnl, if_pos h0]; simp [hk]
    rw [hq]
    obtain ⟨l, hl⟩ : ∃ l, l = iN nd[k] := ⟨_, rfl⟩
    have hll : l.length ≤ 2000 := by rw [hl]; simpa using hlen
    rw [← hl] at hr ⊢
    have hkn : (k : Int) < (ns.length : Int) := h0.2
    clear h0 e1 hq hl
    obtain ⟨⟨A, q, c⟩, hs⟩ : ∃ s, s = X.sm[k] := ⟨_, rfl⟩
    rw [← hs] at ck hr
    have ha := hr.A
    have hn := hr.n
    have hrd := hr.rd
    dsimp only [SL.val] at ck ha hn hrd
    have hcl := clone_any A c q l hn.symm (by omega) w (by rcases ha with ha | ⟨b, ha⟩; exact .inl ha; exact .inr ⟨b, 0, ha⟩) hrd
    have Hcl := Lib.hid hcl
    have Hn := Lib.hid hn
    clear hcl hs ha hr hn hnl
    go_enter Try.func17, Try.ntmps17
    go_wp2_with fail
    refine hh.mono ?_
    rintro e w1 ⟨rfl, rfl⟩
    clear hh
    go_wp2_with fail
    refine Hcl.out.mono ?_
    rintro e w2 ⟨A2, c2, rfl, ho, ht, hf⟩
    go_wp2
    go_ret
    exact ⟨A2, c2, by rw [← Hn.out]; rfl, ho, ht, hf⟩
  · have e1 : decide (0 ≤ i ∧ i < (ns.length : Int)) = false := by simpa using h0
    rw [e1] at hh
    have hq : rowOf nd i = [] := by unfold rowOf; rw [hnl, if_neg h0]
    rw [hq]
    clear h0 e1 hq hnl
    go_enter Try.func17, Try.ntmps17
    go_wp2_with fail
    refine hh.mono ?_
    rintro e w1 ⟨rfl, rfl⟩
    go_wp2
    go_ret
    exact ⟨none, 0, rfl, OwnK.nil _ _ _ _, Touch.refl _ _, by simp [fpo]⟩
end Go.Proofs.Ytmehdlflhllhdaa
