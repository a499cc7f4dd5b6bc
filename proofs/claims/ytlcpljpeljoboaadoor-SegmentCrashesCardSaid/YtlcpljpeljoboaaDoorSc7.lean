/- Part 7 of the texts of this proof, one behind the other; each begins with its own sentence. No condition beyond those that its theorems state. -/
import Derived.Test.YtlcpljpeljoboaaDoorSc6
import Derived.Deep.RegionHeld3
/- segment.Open: the journal on a disk whose power is there. -/
namespace Go.Proofs.YtlcpljpeljoboaaDoor
open Go.RowKit

theorem settle_any (L g : Nat) (fp : List Nat) (s : LS) (k gen en : Nat) (hgb : gen ≤ 9223372036854775807) (hen : en ≤ 9223372036854775807) (hk : k < 2) (vc vg : Value) (w : World) (h : LsAt w L g fp s) (hdone : s.r.done + 5 ≤ 1073741824) :
    Calls Tryd.prog 41 #[.pointer (some ⟨L, 0, none⟩), .agg #[.int .i64 gen, vc, vg, .int .i64 en], .int .i64 k] w fun e w' => e = .returned (.int .i64 (lSettle s gen en k).1) ∧ LsStep L g fp (lSettle s gen en k).2 w w' := by
  by_cases hg : gen = 0
  · subst hg; exact settle_none L g fp s k en hk vc vg w h hdone
  · exact settle_some L g fp s k gen en hg hgb hen hk vc vg w h hdone

/-- the segment that stands in a file's bytes -/
noncomputable def sgOf (b : List UInt8) : SG := by
  classical
  exact if h : ∃ ls m, Steps b ls m ∧ scan1 m = none then segV h.choose else ⟨0, [], [], 0⟩
theorem sgOf_eq {b m : List UInt8} {ls : List (List UInt8)} (h : Steps b ls m) (hn : scan1 m = none) : sgOf b = segV ls := by
  have hx : ∃ ls m, Steps b ls m ∧ scan1 m = none := ⟨ls, m, h, hn⟩
  unfold sgOf
  rw [dif_pos hx]
  obtain ⟨m', h1, h2⟩ := hx.choose_spec
  rw [(Steps.unique h1 h2 h hn).1]

noncomputable def bestOf (V : Fl) : Nat := if (sgOf (V.getD 0 ([], 0)).1).gen < (sgOf (V.getD 1 ([], 0)).1).gen then 1 else 0
noncomputable def bestS (V : Fl) : SG := sgOf (V.getD (bestOf V) ([], 0)).1
noncomputable def lOpen (V : Fl) (r : DR) : Int × LS := lSettle ⟨V, r, ⟨0, 0, false, false⟩⟩ (bestS V).gen (bestS V).en (bestOf V)

def OpenPost (V : Fl) (r : DR) (g : Nat) (fp : List Nat) (w : World) (e : Ending) (w' : World) : Prop :=
  ∃ L fp' Ac cc Ag cg, e = .returned (.tuple #[.pointer (some ⟨L, 0, none⟩), .agg #[.slice Ac (bestS V).cp.length cc, .slice Ag (bestS V).gs.length cg], .int .i64 0]) ∧ LsAt w' L g fp' (lOpen V r).2 ∧ Touch fp w w' ∧
    (∀ b ∈ fp', b ∈ fp ∨ w.heap.size ≤ b) ∧ w.heap.size ≤ L ∧ RdB w' Ac (bestS V).cp ∧ (bestS V).cp.length ≤ cc ∧ (0 < (bestS V).cp.length → ∀ x ∈ fpo Ac, w.heap.size ≤ x ∧ x ∉ L :: fp') ∧ GsD (fun x => w.heap.size ≤ x ∧ x ∉ L :: fp') w' Ag (bestS V).gs ∧ (bestS V).gs.length ≤ cg

theorem blk8 {w : World} {R : Nat} {a b c d e f g h : Value} {t : TypeId} (hb : w.heap[R]? = some (.cells #[a, b, c, d, e, f, g, h] t (0, 0))) :
    (w.cell? ⟨R, 0, none⟩ = some a ∧ w.cell? ⟨R, 1, none⟩ = some b ∧ w.cell? ⟨R, 2, none⟩ = some c ∧ w.cell? ⟨R, 3, none⟩ = some d ∧ w.cell? ⟨R, 4, none⟩ = some e ∧ w.cell? ⟨R, 5, none⟩ = some f ∧ w.cell? ⟨R, 6, none⟩ = some g ∧ w.cell? ⟨R, 7, none⟩ = some h) ∧
    (w.frozen? ⟨R, 0, none⟩ = false ∧ w.frozen? ⟨R, 1, none⟩ = false ∧ w.frozen? ⟨R, 2, none⟩ = false ∧ w.frozen? ⟨R, 3, none⟩ = false ∧ w.frozen? ⟨R, 4, none⟩ = false ∧ w.frozen? ⟨R, 5, none⟩ = false ∧ w.frozen? ⟨R, 6, none⟩ = false ∧ w.frozen? ⟨R, 7, none⟩ = false) ∧ R < w.heap.size :=
  ⟨⟨cell_blk hb rfl, cell_blk hb rfl, cell_blk hb rfl, cell_blk hb rfl, cell_blk hb rfl, cell_blk hb rfl, cell_blk hb rfl, cell_blk hb rfl⟩, by simp [World.frozen?, hb], lt_of_block hb⟩

theorem grpV_en (ls : List (List UInt8)) : (grpV ls).2 ≤ (ls.flatMap frm).length := by
  induction ls with
  | nil => simp [grpV]
  | cons f fs ih =>
    rw [grpV, List.flatMap_cons, List.length_append]
    split
    · simp
    · simp only; omega
theorem segV_en (ls : List (List UInt8)) : (segV ls).en ≤ (ls.flatMap frm).length := by
  rcases ls with _ | ⟨f, fs⟩
  · simp [segV]
  · rw [segV, List.flatMap_cons, List.length_append]
    have := grpV_en fs
    split
    · simp
    · simp only; omega
theorem segV_gen (ls : List (List UInt8)) : (segV ls).gen ≤ 9223372036854775807 := by
  rcases ls with _ | ⟨f, fs⟩
  · simp [segV]
  · rw [segV]
    split
    · simp
    · rename_i g c h
      simp only
      unfold rdHd at h
      split at h
      · cases h
      · split at h
        · cases h
        · rename_i hI
          have := rdI_bounds hI
          split at h
          · cases h
          · split at h
            · simp only [Option.some.injEq, Prod.mk.injEq] at h
              omega
            · cases h
theorem sg_bounds {b m : List UInt8} {ls : List (List UInt8)} (h : Steps b ls m) (hl : b.length ≤ 900000000) : (segV ls).en ≤ b.length ∧ (segV ls).gen ≤ 9223372036854775807 := by
  have := congrArg List.length (h.bytes hl)
  rw [List.length_append] at this
  exact ⟨Nat.le_trans (segV_en ls) (by omega), segV_gen ls⟩
theorem results_tct {P : Program} {fn : Func} {p u v : Tmp} {ty : TypeId} (h : fn.results = #[.tmp v, .cell p ty, .tmp u]) (tmps : Array Value) (w : World) (g : Nat) (t : TypeId) (cs : Array Value) (fr : Nat × Nat) (d : TypeDesc)
    (hp : tmps.getD p undef = .pointer (some ⟨g, 0, none⟩)) (hg : w.heap[g]? = some (.cells cs t fr))
    (hu : P.underlying ty = some d) (hd : (match d with | .struct _ | .array _ _ => true | _ => false) = true) (hi : (P.info? ty).map (·.size) = some cs.size) :
    (results fn tmps).run P w = .ok (.tuple #[tmps.getD v undef, .agg cs, tmps.getD u undef]) w := by
  have hp' : tmps[p]?.getD undef = .pointer (some ⟨g, 0, none⟩) := by simpa using hp
  simp [results, h, hp', asAddr, run_loadVar_row w g t ty cs fr d hg hu hd hi]
/-- four cells of a block are set -/
theorem put4 {w : World} {g : Nat} {cs : Array Value} {t : TypeId} (h : w.heap[g]? = some (.cells cs t (0, 0))) (i0 i1 i2 i3 : Nat) (a b c d : Value) :
    ((((w.setCell ⟨g, i0, none⟩ a).setCell ⟨g, i1, none⟩ b).setCell ⟨g, i2, none⟩ c).setCell ⟨g, i3, none⟩ d).heap[g]? = some (.cells ((((cs.setIfInBounds i0 a).setIfInBounds i1 b).setIfInBounds i2 c).setIfInBounds i3 d) t (0, 0)) :=
  set_blk (set_blk (set_blk (set_blk h i0 a) i1 b) i2 c) i3 d
theorem touch4 (w : World) (g i0 i1 i2 i3 : Nat) (a b c d : Value) : Touch [g] w ((((w.setCell ⟨g, i0, none⟩ a).setCell ⟨g, i1, none⟩ b).setCell ⟨g, i2, none⟩ c).setCell ⟨g, i3, none⟩ d) :=
  ((((Touch.refl [g] w).setCell (.inl (by simp)) _).setCell (.inl (by simp)) _).setCell (.inl (by simp)) _).setCell (.inl (by simp)) _

theorem read_up (g : Nat) (fp : List Nat) (V : Fl) (r : DR) (k : Nat) (hk : k < 4) (hdn : r.down = false) (w : World) (hd : DkAt w g fp V r) :
    Calls Tryd.prog 13 #[.pointer (some ⟨g, 0, none⟩), .int .i64 k] w fun e w' => ∃ A c, e = .returned (.tuple #[.slice A (V.getD k ([], 0)).1.length c, .int .i64 0]) ∧ CloneAt (V.getD k ([], 0)).1 w w' A c := by
  have hck : checkI r.down k = 0 := by simp only [checkI, hdn]; simp; omega
  refine (read_dk g fp V r k w hd).mono ?_
  rintro e w' ⟨A, c, l, hl, rfl, h⟩
  rw [if_pos hck, Int.toNat_natCast] at hl
  subst hl
  exact ⟨A, c, by rw [hck], h⟩

set_option maxRecDepth 100000 in
set_option maxHeartbeats 6400000 in
theorem open_ok (g : Nat) (fp : List Nat) (V : Fl) (r : DR) (w : World) (hd : DkAt w g fp V r) (hf : HalfAt w) (nh : 0 ∉ fp) (hdn : r.down = false) (hl0 : (V.getD 0 ([], 0)).1.length ≤ 900000000) (hl1 : (V.getD 1 ([], 0)).1.length ≤ 900000000)
    (hdone : r.done + 5 ≤ 1073741824) (hok : (lOpen V r).1 = 0) :
    Calls Tryd.prog 11 #[.pointer (some ⟨g, 0, none⟩)] w fun e w' => OpenPost V r g fp w e w' := by
  have T0 : Touch [] w (((w.alloc (.cells #[.slice none 0 0, .slice none 0 0] 34)).alloc (.cells #[.pointer (some ⟨g, 0, none⟩), .int .i64 0, .int .i64 0, .bool false, .bool false] 79)).alloc (.cells #[.int .i64 0, .slice none 0 0, .slice none 0 0, .int .i64 0, .int .i64 0, .slice none 0 0, .slice none 0 0, .int .i64 0] 82)) := (((Touch.refl _ _).alloc _).alloc _).alloc _
  have bR : (((w.alloc (.cells #[.slice none 0 0, .slice none 0 0] 34)).alloc (.cells #[.pointer (some ⟨g, 0, none⟩), .int .i64 0, .int .i64 0, .bool false, .bool false] 79)).alloc (.cells #[.int .i64 0, .slice none 0 0, .slice none 0 0, .int .i64 0, .int .i64 0, .slice none 0 0, .slice none 0 0, .int .i64 0] 82)).heap[w.heap.size]? = some (.cells #[.slice none 0 0, .slice none 0 0] 34 (0, 0)) := (((Touch.refl [] (w.alloc (.cells #[.slice none 0 0, .slice none 0 0] 34))).alloc _).alloc _).blk (heap_alloc_new w _) (by simp)
  have bL : (((w.alloc (.cells #[.slice none 0 0, .slice none 0 0] 34)).alloc (.cells #[.pointer (some ⟨g, 0, none⟩), .int .i64 0, .int .i64 0, .bool false, .bool false] 79)).alloc (.cells #[.int .i64 0, .slice none 0 0, .slice none 0 0, .int .i64 0, .int .i64 0, .slice none 0 0, .slice none 0 0, .int .i64 0] 82)).heap[w.heap.size + 1]? = some (.cells #[.pointer (some ⟨g, 0, none⟩), .int .i64 0, .int .i64 0, .bool false, .bool false] 79 (0, 0)) := ((Touch.refl [] ((w.alloc (.cells #[.slice none 0 0, .slice none 0 0] 34)).alloc (.cells #[.pointer (some ⟨g, 0, none⟩), .int .i64 0, .int .i64 0, .bool false, .bool false] 79))).alloc _).blk (heap_alloc2_new w _ _) (by simp)
  have bS : (((w.alloc (.cells #[.slice none 0 0, .slice none 0 0] 34)).alloc (.cells #[.pointer (some ⟨g, 0, none⟩), .int .i64 0, .int .i64 0, .bool false, .bool false] 79)).alloc (.cells #[.int .i64 0, .slice none 0 0, .slice none 0 0, .int .i64 0, .int .i64 0, .slice none 0 0, .slice none 0 0, .int .i64 0] 82)).heap[w.heap.size + 1 + 1]? = some (.cells #[.int .i64 0, .slice none 0 0, .slice none 0 0, .int .i64 0, .int .i64 0, .slice none 0 0, .slice none 0 0, .int .i64 0] 82 (0, 0)) := by
    have h := heap_alloc2_new (w.alloc (.cells #[.slice none 0 0, .slice none 0 0] 34)) (.cells #[.pointer (some ⟨g, 0, none⟩), .int .i64 0, .int .i64 0, .bool false, .bool false] 79) (.cells #[.int .i64 0, .slice none 0 0, .slice none 0 0, .int .i64 0, .int .i64 0, .slice none 0 0, .slice none 0 0, .int .i64 0] 82)
    rwa [show (w.alloc (.cells #[.slice none 0 0, .slice none 0 0] 34)).heap.size = w.heap.size + 1 by simp] at h
  have hsz : (((w.alloc (.cells #[.slice none 0 0, .slice none 0 0] 34)).alloc (.cells #[.pointer (some ⟨g, 0, none⟩), .int .i64 0, .int .i64 0, .bool false, .bool false] 79)).alloc (.cells #[.int .i64 0, .slice none 0 0, .slice none 0 0, .int .i64 0, .int .i64 0, .slice none 0 0, .slice none 0 0, .int .i64 0] 82)).heap.size = w.heap.size + 3 := by simp
  obtain ⟨W0, hW0⟩ : ∃ W0, W0 = (((w.alloc (.cells #[.slice none 0 0, .slice none 0 0] 34)).alloc (.cells #[.pointer (some ⟨g, 0, none⟩), .int .i64 0, .int .i64 0, .bool false, .bool false] 79)).alloc (.cells #[.int .i64 0, .slice none 0 0, .slice none 0 0, .int .i64 0, .int .i64 0, .slice none 0 0, .slice none 0 0, .int .i64 0] 82)) := ⟨_, rfl⟩
  rw [← hW0] at T0 bR bL bS hsz
  have hd0 := hd.step T0 (by simp)
  have R0 := read_up g fp V r 0 (by omega) hdn W0 hd0
  rw [show ((0 : Nat) : Int) = 0 from rfl] at R0
  obtain ⟨b0, hb0⟩ : ∃ b0, b0 = (V.getD 0 ([], 0)).1 := ⟨_, rfl⟩
  rw [← hb0] at R0 hl0
  have HR0 := Lib.hid R0
  have HW := Lib.hid hW0
  have HB0 := Lib.hid hb0
  clear R0 hW0 hb0
  go_enter Tryd.func11, Tryd.ntmps11
  go_wp2_with fail
  refine wp_loop_rounds 3 ?_
  rw [rounds_succ]
  go_wp2_with fail
  rw [← HW.out]
  clear HW
  refine HR0.out.mono ?_
  clear HR0
  rintro e w1 ⟨A0, c0, rfl, hown0, ht0, hf0⟩
  go_wp2_with fail
  refine (read_any A0 c0 b0.length b0 rfl hl0 w1 hown0.rd ((hf.touch T0 (by simp)).touch ht0 (by simp))).mono ?_
  rintro e w2 ⟨ls0, m0, Ac0, cc0, Ag0, cg0, rfl, hst0, hsn0, ht2, hrc0, hcc0, hfc0, hgs0, hcg0⟩
  have hs0 := sgOf_eq hst0 hsn0
  obtain ⟨s0, hs0e⟩ : ∃ s0, s0 = segV ls0 := ⟨_, rfl⟩
  rw [← hs0e] at hrc0 hcc0 hfc0 hgs0 hcg0 hs0 ⊢
  have HCap0 := Lib.hid hcg0
  clear hcg0
  have hB0 := sg_bounds hst0 hl0
  rw [← hs0e] at hB0
  have HS0 := Lib.hid (And.intro hs0 hs0e)
  have T2 := ht0.trans0 ht2
  have bS2 := T2.blk bS (by simp)
  obtain ⟨⟨k0, k1, k2, k3, k4, k5, k6, k7⟩, ⟨z0, z1, z2, z3, z4, z5, z6, z7⟩, hSl⟩ := blk8 bS2
  have bS3 := put4 bS2 0 1 2 3 (.int .i64 s0.gen) (.slice Ac0 s0.cp.length cc0) (.slice Ag0 s0.gs.length cg0) (.int .i64 s0.en)
  have T3 := touch4 w2 (w.heap.size + 1 + 1) 0 1 2 3 (.int .i64 s0.gen) (.slice Ac0 s0.cp.length cc0) (.slice Ag0 s0.gs.length cg0) (.int .i64 s0.en)
  obtain ⟨W3, hW3⟩ : ∃ W3, W3 = ((((w2.setCell ⟨w.heap.size + 1 + 1, 0, none⟩ (.int .i64 s0.gen)).setCell ⟨w.heap.size + 1 + 1, 1, none⟩ (.slice Ac0 s0.cp.length cc0)).setCell ⟨w.heap.size + 1 + 1, 2, none⟩ (.slice Ag0 s0.gs.length cg0)).setCell ⟨w.heap.size + 1 + 1, 3, none⟩ (.int .i64 s0.en)) := ⟨_, rfl⟩
  rw [← hW3] at bS3 T3
  have HW3 := Lib.hid hW3
  have bS3' : W3.heap[w.heap.size + 1 + 1]? = some (.cells #[.int .i64 s0.gen, .slice Ac0 s0.cp.length cc0, .slice Ag0 s0.gs.length cg0, .int .i64 s0.en, .int .i64 0, .slice none 0 0, .slice none 0 0, .int .i64 0] 82 (0, 0)) := bS3
  have h01 := ht0.size
  have h12 := ht2.size
  have T03 : Touch [w.heap.size + 1 + 1] W0 W3 := (T2.mono (by simp)).trans T3 (fun b hb => .inl hb)
  have hlt := hd.lt
  have hnS : ∀ b ∈ fp, b ∉ [w.heap.size + 1 + 1] := fun b hb hm => by have := hlt b hb; simp at hm; omega
  have R1 := read_up g fp V r 1 (by omega) hdn W3 (hd0.step T03 hnS)
  rw [show ((1 : Nat) : Int) = 1 from rfl] at R1
  obtain ⟨b1, hb1⟩ : ∃ b1, b1 = (V.getD 1 ([], 0)).1 := ⟨_, rfl⟩
  rw [← hb1] at R1 hl1
  have HR1 := Lib.hid R1
  have HB1 := Lib.hid hb1
  have hrc3 : RdB W3 Ac0 s0.cp := RdB.touch1 hrc0 T3 (fun h0 x hx hm => by have := hfc0 h0 x hx; simp at hm; omega)
  have hgs3 : GsD (fun x => w.heap.size + 3 ≤ x) W3 Ag0 s0.gs := (hgs0.mono (D' := fun x => w.heap.size + 3 ≤ x) (fun b _ h => by omega)).touch T3 (fun b h _ hm => by simp at hm; omega)
  have hfc3 : 0 < s0.cp.length → ∀ x ∈ fpo Ac0, w.heap.size + 3 ≤ x := fun h0 x hx => by have := hfc0 h0 x hx; omega
  have HA0 := Lib.hid (And.intro hrc3 (And.intro hcc0 (And.intro hfc3 (And.intro hgs3 (And.intro hB0 T03)))))
  clear hs0 hs0e hW3 bS3 T3 R1 hb1 hrc0 hfc0 hgs0 hrc3 hcc0 hfc3 hgs3 hB0 T2
  go_wp2_with fail
  rw [rounds_succ]
  go_wp2_with fail
  rw [← HW3.out]
  clear HW3 bS2 k0 k1 k2 k3 k4 k5 k6 k7 z0 z1 z2 z3 z4 z5 z6 z7 hSl
  refine HR1.out.mono ?_
  clear HR1
  rintro e w4 ⟨A1, c1, rfl, hown1, ht4, hf4⟩
  go_wp2_with fail
  refine (read_any A1 c1 b1.length b1 rfl hl1 w4 hown1.rd (((hf.touch T0 (by simp)).touch HA0.out.2.2.2.2.2 (by have := hf.lt; simp)).touch ht4 (by simp))).mono ?_
  rintro e w5 ⟨ls1, m1, Ac1, cc1, Ag1, cg1, rfl, hst1, hsn1, ht5, hrc1, hcc1, hfc1, hgs1, hcg1⟩
  have hs1 := sgOf_eq hst1 hsn1
  obtain ⟨s1, hs1e⟩ : ∃ s1, s1 = segV ls1 := ⟨_, rfl⟩
  rw [← hs1e] at hrc1 hcc1 hfc1 hgs1 hcg1 hs1 ⊢
  have HCap1 := Lib.hid hcg1
  clear hcg1
  have hB1 := sg_bounds hst1 hl1
  rw [← hs1e] at hB1
  have HS1 := Lib.hid (And.intro hs1 hs1e)
  have T5 := ht4.trans0 ht5
  have bS5 := T5.blk bS3' (by simp)
  obtain ⟨⟨k0, k1, k2, k3, k4, k5, k6, k7⟩, ⟨z0, z1, z2, z3, z4, z5, z6, z7⟩, hSl⟩ := blk8 bS5
  have bS6 := put4 bS5 4 5 6 7 (.int .i64 s1.gen) (.slice Ac1 s1.cp.length cc1) (.slice Ag1 s1.gs.length cg1) (.int .i64 s1.en)
  have T6 := touch4 w5 (w.heap.size + 1 + 1) 4 5 6 7 (.int .i64 s1.gen) (.slice Ac1 s1.cp.length cc1) (.slice Ag1 s1.gs.length cg1) (.int .i64 s1.en)
  obtain ⟨W6, hW6⟩ : ∃ W6, W6 = ((((w5.setCell ⟨w.heap.size + 1 + 1, 4, none⟩ (.int .i64 s1.gen)).setCell ⟨w.heap.size + 1 + 1, 5, none⟩ (.slice Ac1 s1.cp.length cc1)).setCell ⟨w.heap.size + 1 + 1, 6, none⟩ (.slice Ag1 s1.gs.length cg1)).setCell ⟨w.heap.size + 1 + 1, 7, none⟩ (.int .i64 s1.en)) := ⟨_, rfl⟩
  rw [← hW6] at bS6 T6
  have HW6 := Lib.hid hW6
  have bS6' : W6.heap[w.heap.size + 1 + 1]? = some (.cells #[.int .i64 s0.gen, .slice Ac0 s0.cp.length cc0, .slice Ag0 s0.gs.length cg0, .int .i64 s0.en, .int .i64 s1.gen, .slice Ac1 s1.cp.length cc1, .slice Ag1 s1.gs.length cg1, .int .i64 s1.en] 82 (0, 0)) := bS6
  have h34 := ht4.size
  have h45 := ht5.size
  have h03 := HA0.out.2.2.2.2.2.size
  have T36 : Touch [w.heap.size + 1 + 1] W3 W6 := (T5.mono (by simp)).trans T6 (fun b hb => .inl hb)
  have T06 : Touch [w.heap.size + 1 + 1] W0 W6 := HA0.out.2.2.2.2.2.trans T36 (fun b hb => .inl hb)
  have h06 := T06.size
  have hrc6 : RdB W6 Ac1 s1.cp := RdB.touch1 hrc1 T6 (fun h0 x hx hm => by have := hfc1 h0 x hx; simp at hm; omega)
  have hgs6 : GsD (fun x => w.heap.size + 3 ≤ x) W6 Ag1 s1.gs := (hgs1.mono (D' := fun x => w.heap.size + 3 ≤ x) (fun b _ h => by omega)).touch T6 (fun b h _ hm => by simp at hm; omega)
  have hfc6 : 0 < s1.cp.length → ∀ x ∈ fpo Ac1, w.heap.size + 3 ≤ x := fun h0 x hx => by have := hfc1 h0 x hx; omega
  have hrc60 : RdB W6 Ac0 s0.cp := RdB.touch1 HA0.out.1 T36 (fun h0 x hx hm => by have := HA0.out.2.2.1 h0 x hx; simp at hm; omega)
  have hgs60 : GsD (fun x => w.heap.size + 3 ≤ x) W6 Ag0 s0.gs := HA0.out.2.2.2.1.touch T36 (fun b h _ hm => by simp at hm; omega)
  have hL6 : LsAt W6 (w.heap.size + 1) g fp ⟨V, r, ⟨0, 0, false, false⟩⟩ :=
    ⟨T06.blk bL (by simp), hd0.step T06 hnS, fun hm => by have := hlt _ hm; omega, (hf.touch T0 (by simp)).touch T06 (by have := hf.lt; simp <;> omega), nh, by have := hf.lt; omega⟩
  have bR6 := T06.blk bR (by simp; omega)
  have TW6 : Touch [] w W6 := T0.trans T06 (fun b hb => .inr (by simp at hb; omega))
  have HA1 := Lib.hid (And.intro hrc6 (And.intro hcc1 (And.intro hfc6 (And.intro hgs6 hB1))))
  have HA2 := Lib.hid (And.intro hrc60 (And.intro HA0.out.2.1 (And.intro HA0.out.2.2.1 (And.intro hgs60 HA0.out.2.2.2.2.1))))
  have HL6 := Lib.hid (And.intro hL6 TW6)
  have hd6 := hB1
  clear hs1 hs1e hW6 bS6 T6 hrc1 hfc1 hgs1 hrc6 hcc1 hfc6 hgs6 hB1 T5 hrc60 hgs60 hL6 T06 T36 HA0 bS3' TW6 ht0 ht2 ht4 ht5 hown0 hown1 hf0 hf4 hst0 hst1 hsn0 hsn1 T03
  -- ENDS
  by_cases hbest : s0.gen < s1.gen
  · have hbo : bestOf V = 1 := by
      unfold bestOf
      rw [← HB0.out, ← HB1.out, HS0.out.1, HS1.out.1]
      exact if_pos hbest
    have hbs : bestS V = s1 := by
      unfold bestS
      rw [hbo, ← HB1.out]
      exact HS1.out.1
    have hok' := hok
    unfold lOpen at hok'
    rw [hbo, hbs] at hok'
    have C := settle_any (w.heap.size + 1) g fp ⟨V, r, ⟨0, 0, false, false⟩⟩ 1 s1.gen s1.en HA1.out.2.2.2.2.2 (by have := HA1.out.2.2.2.2.1; omega) (by omega) (.slice Ac1 s1.cp.length cc1) (.slice Ag1 s1.gs.length cg1) W6 HL6.out.1 hdone
    rw [hok', show ((1 : Nat) : Int) = 1 from rfl] at C
    have hlO : lOpen V r = lSettle ⟨V, r, ⟨0, 0, false, false⟩⟩ s1.gen s1.en 1 := by unfold lOpen; rw [hbo, hbs]
    have HC := Lib.hid C
    have HO := Lib.hid (And.intro hlO hbs)
    have hbI : decide (s0.gen < s1.gen) = true := by simpa using hbest
    clear hok' C hbo hbs hlO
    go_wp2_with fail
    rw [rounds_succ]
    go_wp2_with fail
    rw [← HW6.out]
    refine HC.out.mono ?_
    clear HC k0 k1 k2 k3 k4 k5 k6 k7 z0 z1 z2 z3 z4 z5 z6 z7 hSl
    rintro e w7 ⟨rfl, fp7, hA7, hT7, hF7⟩
    have hSn : w.heap.size + 1 + 1 ∉ (w.heap.size + 1) :: fp := fun hm => by
      rcases List.mem_cons.1 hm with h | h
      · omega
      · have := hlt _ h; omega
    have hRn : w.heap.size ∉ (w.heap.size + 1) :: fp := fun hm => by
      rcases List.mem_cons.1 hm with h | h
      · omega
      · have := hlt _ h; omega
    have bS7 := hT7.blk bS6' hSn
    have bR7 := hT7.blk bR6 hRn
    obtain ⟨⟨k0, k1, k2, k3, k4, k5, k6, k7⟩, -, hSl⟩ := blk8 (show w7.drew.heap[w.heap.size + 1 + 1]? = _ from bS7)
    obtain ⟨⟨j0, j1, j2, j3, j4, j5, j6, j7⟩, -, -⟩ := blk8 bS7
    have r0 := cell_blk (i := 0) bR7 rfl
    have r1 := cell_blk (i := 1) bR7 rfl
    have r0' := cell_blk (i := 0) (show w7.drew.heap[w.heap.size]? = _ from bR7) rfl
    have r1' := cell_blk (i := 1) (show w7.drew.heap[w.heap.size]? = _ from bR7) rfl
    have y0 := free_blk bR7 0
    have y1 := free_blk bR7 1
    have y0' := free_blk (show w7.drew.heap[w.heap.size]? = _ from bR7) 0
    have y1' := free_blk (show w7.drew.heap[w.heap.size]? = _ from bR7) 1
    have bR8 := set_blk (set_blk bR7 0 (.slice Ac1 s1.cp.length cc1)) 1 (.slice Ag1 s1.gs.length cg1)
    have T8 : Touch [w.heap.size] w7 (((w7.setCell ⟨w.heap.size, 0, none⟩ (.slice Ac1 s1.cp.length cc1)).setCell ⟨w.heap.size, 1, none⟩ (.slice Ag1 s1.gs.length cg1)).drew) := (((Touch.refl [w.heap.size] w7).setCell (p := ⟨w.heap.size, 0, none⟩) (.inl (by simp)) _).setCell (p := ⟨w.heap.size, 1, none⟩) (.inl (by simp)) _).drew
    have hF7' : ∀ b ∈ fp7, b ∈ fp ∨ w.heap.size + 3 ≤ b := fun b hb => by
      rcases hF7 b hb with h | h
      · exact .inl h
      · exact .inr (by omega)
    have hA8 : LsAt (((w7.setCell ⟨w.heap.size, 0, none⟩ (.slice Ac1 s1.cp.length cc1)).setCell ⟨w.heap.size, 1, none⟩ (.slice Ag1 s1.gs.length cg1)).drew) (w.heap.size + 1) g fp7 (lSettle ⟨V, r, ⟨0, 0, false, false⟩⟩ s1.gen s1.en 1).2 :=
      ⟨T8.blk hA7.lg (by simp), hA7.dk.step T8 (fun b hb hm => by
        have h2 : b = w.heap.size := by simpa using hm
        rcases hF7' b hb with h | h
        · have := hlt _ h; omega
        · omega), hA7.ap, hA7.hf.touch T8 (by have := hf.lt; simp; omega), hA7.nh, hA7.nl⟩
    have T68 : Touch (w.heap.size :: (w.heap.size + 1) :: fp) W6 (((w7.setCell ⟨w.heap.size, 0, none⟩ (.slice Ac1 s1.cp.length cc1)).setCell ⟨w.heap.size, 1, none⟩ (.slice Ag1 s1.gs.length cg1)).drew) := (hT7.mono (fun b hb => .inl (by simp [List.mem_cons.1 hb]))).trans T8 (by simp)
    have hD : ∀ x, w.heap.size + 3 ≤ x → x ∉ w.heap.size :: (w.heap.size + 1) :: fp := fun x hx hm => by
      rcases List.mem_cons.1 hm with h | h
      · omega
      · rcases List.mem_cons.1 h with h | h
        · omega
        · have := hlt _ h; omega
    have hsz6 := HL6.out.2.size
    have hD2 : ∀ x, x < W6.heap.size → w.heap.size + 3 ≤ x → w.heap.size ≤ x ∧ x ∉ (w.heap.size + 1) :: fp7 := fun x hx h3 => ⟨by omega, fun hm => by
      rcases List.mem_cons.1 hm with h | h
      · omega
      · rcases hF7 x h with h | h
        · have := hlt _ h; omega
        · omega⟩
    have hrc8 := RdB.touch1 HA1.out.1 T68 (fun h0 x hx => hD x (HA1.out.2.2.1 h0 x hx))
    have hgs8 := (HA1.out.2.2.2.1.mono (D' := fun x => (w.heap.size ≤ x ∧ x ∉ (w.heap.size + 1) :: fp7) ∧ w.heap.size + 3 ≤ x) (fun x hx h3 => ⟨hD2 x hx h3, h3⟩)).touch T68 (fun x h _ => hD x h.2)
    have hfc8 : 0 < s1.cp.length → ∀ x ∈ fpo Ac1, w.heap.size ≤ x ∧ x ∉ (w.heap.size + 1) :: fp7 := fun h0 x hx => hD2 x (by
      have h9 := HA1.out.1
      exact Rd.lt h9 (by simpa using h0) x hx) (HA1.out.2.2.1 h0 x hx)
    have TW : Touch fp w (((w7.setCell ⟨w.heap.size, 0, none⟩ (.slice Ac1 s1.cp.length cc1)).setCell ⟨w.heap.size, 1, none⟩ (.slice Ag1 s1.gs.length cg1)).drew) := (HL6.out.2.mono (by simp)).trans T68 (fun b hb => by
      rcases List.mem_cons.1 hb with h | h
      · exact .inr (by omega)
      · rcases List.mem_cons.1 h with h | h
        · exact .inr (by omega)
        · exact .inl h)
    have HF := Lib.hid (And.intro hA8 (And.intro TW (And.intro hF7' (And.intro hrc8 (And.intro hfc8 hgs8)))))
    clear hA8 TW hF7 hF7' hrc8 hfc8 hgs8 hD hD2 hsz6 T68 T8 hA7 hT7 bS7 hSn hRn bR7
    go_wp2_with fail
    go_region
    all_goals
      (try go_wp2)
      (try simp only [Exit.inBlock, Exit.then])
      refine bodyPost_ret (results_tct rfl _ _ w.heap.size _ _ _ _ rfl (show (((w7.setCell ⟨w.heap.size, 0, none⟩ (.slice Ac1 s1.cp.length cc1)).setCell ⟨w.heap.size, 1, none⟩ (.slice Ag1 s1.gs.length cg1)).drew).heap[w.heap.size]? = _ from bR8) Tryd.underlying34 rfl rfl) rfl ?_
      refine ⟨w.heap.size + 1, fp7, Ac1, cc1, Ag1, cg1, ?_, ?_, HF.out.2.1, fun b hb => ?_, by omega, ?_, ?_, ?_, ?_, ?_⟩
      · rw [HO.out.2]; rfl
      · rw [HO.out.1]; exact HF.out.1
      · rcases HF.out.2.2.1 b hb with h | h
        · exact .inl h
        · exact .inr (by omega)
      · rw [HO.out.2]; exact HF.out.2.2.2.1
      · rw [HO.out.2]; exact HA1.out.2.1
      · rw [HO.out.2]; exact HF.out.2.2.2.2.1
      · rw [HO.out.2]; exact HF.out.2.2.2.2.2.mono (fun x _ h => h.1)
      · rw [HO.out.2]; exact HCap1.out
  · have hbo : bestOf V = 0 := by
      unfold bestOf
      rw [← HB0.out, ← HB1.out, HS0.out.1, HS1.out.1]
      exact if_neg hbest
    have hbs : bestS V = s0 := by
      unfold bestS
      rw [hbo, ← HB0.out]
      exact HS0.out.1
    have hok' := hok
    unfold lOpen at hok'
    rw [hbo, hbs] at hok'
    have C := settle_any (w.heap.size + 1) g fp ⟨V, r, ⟨0, 0, false, false⟩⟩ 0 s0.gen s0.en HA2.out.2.2.2.2.2 (by have := HA2.out.2.2.2.2.1; omega) (by omega) (.slice Ac0 s0.cp.length cc0) (.slice Ag0 s0.gs.length cg0) W6 HL6.out.1 hdone
    rw [hok', show ((0 : Nat) : Int) = 0 from rfl] at C
    have hlO : lOpen V r = lSettle ⟨V, r, ⟨0, 0, false, false⟩⟩ s0.gen s0.en 0 := by unfold lOpen; rw [hbo, hbs]
    have HC := Lib.hid C
    have HO := Lib.hid (And.intro hlO hbs)
    have hbI : decide (s0.gen < s1.gen) = false := by simpa using hbest
    clear hok' C hbo hbs hlO
    go_wp2_with fail
    rw [rounds_succ]
    go_wp2_with fail
    rw [← HW6.out]
    refine HC.out.mono ?_
    clear HC k0 k1 k2 k3 k4 k5 k6 k7 z0 z1 z2 z3 z4 z5 z6 z7 hSl
    rintro e w7 ⟨rfl, fp7, hA7, hT7, hF7⟩
    have hSn : w.heap.size + 1 + 1 ∉ (w.heap.size + 1) :: fp := fun hm => by
      rcases List.mem_cons.1 hm with h | h
      · omega
      · have := hlt _ h; omega
    have hRn : w.heap.size ∉ (w.heap.size + 1) :: fp := fun hm => by
      rcases List.mem_cons.1 hm with h | h
      · omega
      · have := hlt _ h; omega
    have bS7 := hT7.blk bS6' hSn
    have bR7 := hT7.blk bR6 hRn
    obtain ⟨⟨k0, k1, k2, k3, k4, k5, k6, k7⟩, -, hSl⟩ := blk8 (show w7.drew.heap[w.heap.size + 1 + 1]? = _ from bS7)
    obtain ⟨⟨j0, j1, j2, j3, j4, j5, j6, j7⟩, -, -⟩ := blk8 bS7
    have r0 := cell_blk (i := 0) bR7 rfl
    have r1 := cell_blk (i := 1) bR7 rfl
    have r0' := cell_blk (i := 0) (show w7.drew.heap[w.heap.size]? = _ from bR7) rfl
    have r1' := cell_blk (i := 1) (show w7.drew.heap[w.heap.size]? = _ from bR7) rfl
    have y0 := free_blk bR7 0
    have y1 := free_blk bR7 1
    have y0' := free_blk (show w7.drew.heap[w.heap.size]? = _ from bR7) 0
    have y1' := free_blk (show w7.drew.heap[w.heap.size]? = _ from bR7) 1
    have bR8 := set_blk (set_blk bR7 0 (.slice Ac0 s0.cp.length cc0)) 1 (.slice Ag0 s0.gs.length cg0)
    have T8 : Touch [w.heap.size] w7 (((w7.setCell ⟨w.heap.size, 0, none⟩ (.slice Ac0 s0.cp.length cc0)).setCell ⟨w.heap.size, 1, none⟩ (.slice Ag0 s0.gs.length cg0)).drew) := (((Touch.refl [w.heap.size] w7).setCell (p := ⟨w.heap.size, 0, none⟩) (.inl (by simp)) _).setCell (p := ⟨w.heap.size, 1, none⟩) (.inl (by simp)) _).drew
    have hF7' : ∀ b ∈ fp7, b ∈ fp ∨ w.heap.size + 3 ≤ b := fun b hb => by
      rcases hF7 b hb with h | h
      · exact .inl h
      · exact .inr (by omega)
    have hA8 : LsAt (((w7.setCell ⟨w.heap.size, 0, none⟩ (.slice Ac0 s0.cp.length cc0)).setCell ⟨w.heap.size, 1, none⟩ (.slice Ag0 s0.gs.length cg0)).drew) (w.heap.size + 1) g fp7 (lSettle ⟨V, r, ⟨0, 0, false, false⟩⟩ s0.gen s0.en 0).2 :=
      ⟨T8.blk hA7.lg (by simp), hA7.dk.step T8 (fun b hb hm => by
        have h2 : b = w.heap.size := by simpa using hm
        rcases hF7' b hb with h | h
        · have := hlt _ h; omega
        · omega), hA7.ap, hA7.hf.touch T8 (by have := hf.lt; simp; omega), hA7.nh, hA7.nl⟩
    have T68 : Touch (w.heap.size :: (w.heap.size + 1) :: fp) W6 (((w7.setCell ⟨w.heap.size, 0, none⟩ (.slice Ac0 s0.cp.length cc0)).setCell ⟨w.heap.size, 1, none⟩ (.slice Ag0 s0.gs.length cg0)).drew) := (hT7.mono (fun b hb => .inl (by simp [List.mem_cons.1 hb]))).trans T8 (by simp)
    have hD : ∀ x, w.heap.size + 3 ≤ x → x ∉ w.heap.size :: (w.heap.size + 1) :: fp := fun x hx hm => by
      rcases List.mem_cons.1 hm with h | h
      · omega
      · rcases List.mem_cons.1 h with h | h
        · omega
        · have := hlt _ h; omega
    have hsz6 := HL6.out.2.size
    have hD2 : ∀ x, x < W6.heap.size → w.heap.size + 3 ≤ x → w.heap.size ≤ x ∧ x ∉ (w.heap.size + 1) :: fp7 := fun x hx h3 => ⟨by omega, fun hm => by
      rcases List.mem_cons.1 hm with h | h
      · omega
      · rcases hF7 x h with h | h
        · have := hlt _ h; omega
        · omega⟩
    have hrc8 := RdB.touch1 HA2.out.1 T68 (fun h0 x hx => hD x (HA2.out.2.2.1 h0 x hx))
    have hgs8 := (HA2.out.2.2.2.1.mono (D' := fun x => (w.heap.size ≤ x ∧ x ∉ (w.heap.size + 1) :: fp7) ∧ w.heap.size + 3 ≤ x) (fun x hx h3 => ⟨hD2 x hx h3, h3⟩)).touch T68 (fun x h _ => hD x h.2)
    have hfc8 : 0 < s0.cp.length → ∀ x ∈ fpo Ac0, w.heap.size ≤ x ∧ x ∉ (w.heap.size + 1) :: fp7 := fun h0 x hx => hD2 x (by
      have h9 := HA2.out.1
      exact Rd.lt h9 (by simpa using h0) x hx) (HA2.out.2.2.1 h0 x hx)
    have TW : Touch fp w (((w7.setCell ⟨w.heap.size, 0, none⟩ (.slice Ac0 s0.cp.length cc0)).setCell ⟨w.heap.size, 1, none⟩ (.slice Ag0 s0.gs.length cg0)).drew) := (HL6.out.2.mono (by simp)).trans T68 (fun b hb => by
      rcases List.mem_cons.1 hb with h | h
      · exact .inr (by omega)
      · rcases List.mem_cons.1 h with h | h
        · exact .inr (by omega)
        · exact .inl h)
    have HF := Lib.hid (And.intro hA8 (And.intro TW (And.intro hF7' (And.intro hrc8 (And.intro hfc8 hgs8)))))
    clear hA8 TW hF7 hF7' hrc8 hfc8 hgs8 hD hD2 hsz6 T68 T8 hA7 hT7 bS7 hSn hRn bR7
    go_wp2_with fail
    go_region
    all_goals
      (try go_wp2)
      (try simp only [Exit.inBlock, Exit.then])
      refine bodyPost_ret (results_tct rfl _ _ w.heap.size _ _ _ _ rfl (show (((w7.setCell ⟨w.heap.size, 0, none⟩ (.slice Ac0 s0.cp.length cc0)).setCell ⟨w.heap.size, 1, none⟩ (.slice Ag0 s0.gs.length cg0)).drew).heap[w.heap.size]? = _ from bR8) Tryd.underlying34 rfl rfl) rfl ?_
      refine ⟨w.heap.size + 1, fp7, Ac0, cc0, Ag0, cg0, ?_, ?_, HF.out.2.1, fun b hb => ?_, by omega, ?_, ?_, ?_, ?_, ?_⟩
      · rw [HO.out.2]; rfl
      · rw [HO.out.1]; exact HF.out.1
      · rcases HF.out.2.2.1 b hb with h | h
        · exact .inl h
        · exact .inr (by omega)
      · rw [HO.out.2]; exact HF.out.2.2.2.1
      · rw [HO.out.2]; exact HA2.out.2.1
      · rw [HO.out.2]; exact HF.out.2.2.2.2.1
      · rw [HO.out.2]; exact HF.out.2.2.2.2.2.mono (fun x _ h => h.1)
      · rw [HO.out.2]; exact HCap0.out
end Go.Proofs.YtlcpljpeljoboaaDoor

/- segment.Need: how many bytes a group has. -/
namespace Go.Proofs.YtlcpljpeljoboaaDoor
open Go.RowKit

set_option maxHeartbeats 800000 in
theorem need_any (A : Option Addr) (c n : Nat) (recs : List (List UInt8)) (hn : recs.length = n) (hb : (encR recs).length ≤ 800000000) (hn2 : n ≤ 100000000) (w : World) (h : BsAt w A recs) (hh : HalfAt w) :
    Calls Tryd.prog 30 #[.slice A n c] w fun e w' => e = .returned (.int .i64 (if n = 0 then 0 else (gpB recs).length : Nat)) ∧ Touch [] w w' := by
  have Hbody := Lib.hid (body_any A c n recs hn hb hn2 w h hh)
  clear h hh hb
  go_enter Tryd.func30, Tryd.ntmps30
  by_cases h0 : n = 0
  · subst h0
    go_wp2
    go_ret
    exact ⟨rfl, Touch.refl _ _⟩
  · have hne : ((n : Int) == 0) = false := by rw [beq_eq_false_iff_ne]; omega
    rw [if_neg h0]
    go_wp2_with fail
    refine Hbody.out.mono ?_
    rintro e w1 ⟨A1, c1, rfl, -, ht, -⟩
    go_wp2
    go_ret
    exact ⟨rfl, ht⟩
end Go.Proofs.YtlcpljpeljoboaaDoor

/- Log.Append, Sync, Commit, Compact, Generation, Size, Loose: a journal's calls as steps of plain data. -/
namespace Go.Proofs.YtlcpljpeljoboaaDoor
open Go.RowKit

def lApp (s : LS) (recs : List (List UInt8)) : Int × LS :=
  if s.l.down then (40, s) else if recs.length = 0 then (0, s) else
  match pApp s.V s.r s.l.file (gpB recs) with
  | (e, V, r) => (e, ⟨V, r, { s.l with down := decide (e = 40), loose := s.l.loose || decide (e = 0) }⟩)
def lSync (s : LS) : Int × LS :=
  if s.l.down then (40, s) else if s.l.loose = false then (0, s) else
  match pSync s.V s.r s.l.file with
  | (e, V, r) => (e, ⟨V, r, { s.l with down := decide (e = 40), loose := decide (e ≠ 0) }⟩)
def lCommit (s : LS) (recs : List (List UInt8)) : Int × LS := if (lApp s recs).1 ≠ 0 then lApp s recs else lSync (lApp s recs).2
def LS.dn (s : LS) (b : Bool) : LS := ⟨s.V, s.r, { s.l with down := b }⟩
def lCompact (s : LS) (cp : List UInt8) : Int × LS :=
  if s.l.down then (40, s) else
  match lLay s (1 - s.l.file) (s.l.gen + 1) cp with
  | (e, s1) => if e ≠ 0 then (e, s1.dn (decide (e = 40))) else
    match pClr s1.V s1.r s.l.file with
    | (e2, V, r) => (e2, ⟨V, r, { s1.l with down := decide (e2 = 40) }⟩)
theorem lApp_step {s : LS} {recs : List (List UInt8)} {e : Int} {V : Fl} {r : DR} (hd : s.l.down = false) (hr : recs.length ≠ 0) (h : (e, V, r) = pApp s.V s.r s.l.file (gpB recs)) :
    lApp s recs = (e, ⟨V, r, { s.l with down := decide (e = 40), loose := s.l.loose || decide (e = 0) }⟩) := by
  unfold lApp; rw [hd, if_neg (by simp), if_neg hr, ← h]
theorem lSync_step {s : LS} {e : Int} {V : Fl} {r : DR} (hd : s.l.down = false) (hl : s.l.loose = true) (h : (e, V, r) = pSync s.V s.r s.l.file) :
    lSync s = (e, ⟨V, r, { s.l with down := decide (e = 40), loose := decide (e ≠ 0) }⟩) := by
  unfold lSync; rw [hd, if_neg (by simp), if_neg (by simp [hl]), ← h]
theorem gpB_len (recs : List (List UInt8)) : (gpB recs).length ≤ (encR recs).length + 40 := by
  unfold gpB
  rw [frm_length, List.length_append, List.length_append]
  have h1 := encI_length 2
  have h2 := encI_length recs.length
  have h4 := encI_length (((encI 2).length + (encI recs.length).length + (encR recs).length : Nat) : Int)
  omega

set_option maxRecDepth 100000 in
set_option maxHeartbeats 6400000 in
theorem append_log (L g : Nat) (fp : List Nat) (s : LS) (A : Option Addr) (c n : Nat) (recs : List (List UInt8)) (hn : recs.length = n) (hb : (encR recs).length ≤ 800000000) (hn2 : n ≤ 100000000) (hfl : s.l.file < 4) (w : World) (h : LsAt w L g fp s) (hr : BsAt w A recs) (hdone : s.r.done + 1 ≤ 1073741824) :
    Calls Tryd.prog 21 #[.pointer (some ⟨L, 0, none⟩), .slice A n c] w fun e w' => e = .returned (.int .i64 (lApp s recs).1) ∧ LsStep L g fp (lApp s recs).2 w w' := by
  subst hn
  obtain ⟨s0, s1, s2, s3, s4, z0, z1, z2, z3, z4, hl⟩ := blk5 h.lg
  by_cases hd : s.l.down = true
  · rw [hd] at s4
    have H := Lib.hid h
    clear h hr
    go_enter Tryd.func21, Tryd.ntmps21
    go_wp2
    go_ret
    unfold lApp
    rw [if_pos hd]
    exact ⟨rfl, H.out.keep (Touch.refl _ _)⟩
  · have hdf : s.l.down = false := by simpa using hd
    rw [hdf] at s4
    by_cases h0 : recs.length = 0
    · have h0I : ((recs.length : Int) == 0) = true := by rw [h0]; rfl
      have h0J : ((recs.length : Int) = 0) := by omega
      have H := Lib.hid h
      have H0 := Lib.hid h0
      clear h hr h0
      go_enter Tryd.func21, Tryd.ntmps21
      go_wp2
      go_ret
      unfold lApp
      rw [if_neg hd, if_pos H0.out]
      exact ⟨rfl, H.out.keep (Touch.refl _ _)⟩
    · have h0I : ((recs.length : Int) == 0) = false := by rw [beq_eq_false_iff_ne]; omega
      obtain ⟨yy, hy⟩ : ∃ yy, yy = pApp s.V s.r s.l.file (gpB recs) := ⟨_, rfl⟩
      have hbl := gpB_len recs
      have hdr := h.touch0 ((Touch.refl [] w).drew)
      have C1 := Lib.hid (body_any A c recs.length recs rfl hb hn2 w.drew (hr.touch0 ((Touch.refl [] w).drew)) hdr.hf)
      have C2 := Lib.hid (fun (A' : Option Addr) (c' : Nat) (W : World) (T : Touch [] w.drew W) (hW : OwnB W A' c' (gpB recs)) => append_dk g fp s.V s.r s.l.file A' c' (gpB recs) W (hdr.touch0 T).dk hW.rd (by omega) (by omega))
      rw [← hy] at C2
      obtain ⟨e2, V2, r2⟩ := yy
      obtain ⟨b, hbe⟩ : ∃ b, b = gpB recs := ⟨_, rfl⟩
      rw [← hbe] at C1 C2
      have Hy := Lib.hid hy
      have Hdr := Lib.hid hdr
      have H0 := Lib.hid h0
      have Hd := Lib.hid hdf
      have s0d : w.drew.cell? ⟨L, 0, none⟩ = some (.pointer (some ⟨g, 0, none⟩)) := s0
      have s1d : w.drew.cell? ⟨L, 1, none⟩ = some (.int .i64 s.l.file) := s1
      have hnL := h.ap
      clear h hr hy hdr hbe hbl
      go_enter Tryd.func21, Tryd.ntmps21
      go_wp2_with fail
      go_region_held3 (fun w' => w'.cell? ⟨L, 0, none⟩ = some (.pointer (some ⟨g, 0, none⟩)) ∧ w'.cell? ⟨L, 1, none⟩ = some (.int .i64 s.l.file)) (first | exact ⟨s0d, s1d⟩ | exact ⟨p0, p1⟩ | exact ⟨q0, q1⟩ | exact ⟨t0, t1⟩) (first
        | (go_at_call 48; refine C1.out.mono ?_; rintro e w2 ⟨A2, c2, rfl, hown2, ht2, hf2⟩; have p0 := ht2.cell s0d (by simp); have p1 := ht2.cell s1d (by simp); have H2 := Lib.hid (And.intro hown2 ht2); clear hown2 ht2 hf2)
        | (go_at_call 47; refine (note_any L g s.l e2 _ hlg3).mono ?_; rintro e w4 ⟨rfl, hl4, ht4⟩; obtain ⟨t0, t1, t2, t3, t4, v0, v1, v2, v3, v4, -⟩ := blk5 hl4; have H4 := Lib.hid (And.intro hl4 ht4); clear hl4 ht4 hlg3)
        | (go_at_call 9; refine (C2.out A2 c2 _ H2.out.2 H2.out.1).mono ?_; rintro e w3 ⟨rfl, hs3⟩; have q0 := hs3.cell p0 hnL; have q1 := hs3.cell p1 hnL; have H3 := Lib.hid ((((Hdr.out.touch0 H2.out.2).step hs3).pre0 H2.out.2).ofDrew); have hlg3 : LogAt w3 L g s.l := (by obtain ⟨_, k1, _, _⟩ := H3.out; exact k1.lg); clear hs3))
      have S4 : LsStep L g fp ⟨V2, r2, { s.l with down := decide (e2 = 40) }⟩ w w4 := by
        obtain ⟨fp3, k1, k2, k3⟩ := H3.out
        have k4 := H4.out.1
        rw [Hd.out, Bool.false_or] at k4
        exact LsStep.trans k2 k3 (k1.setL k4 H4.out.2)
      have HS := Lib.hid S4
      clear S4 s0 s1 s2 s3 s4 z0 z1 z2 z3 z4 s0d s1d p0 p1 q0 q1 t0 t1 t2 t4 v0 v1 v2 v4
      have hend : ∀ v : Bool, v = (s.l.loose || decide (e2 = 0)) → LsStep L g fp ⟨V2, r2, { s.l with down := decide (e2 = 40), loose := s.l.loose || decide (e2 = 0) }⟩ w (w4.setCell ⟨L, 3, none⟩ (.bool v)) := by
        rintro v rfl
        obtain ⟨fp4, k1, k2, k3⟩ := HS.out
        exact LsStep.trans k2 k3 (k1.setL (set_blk k1.lg 3 _) ((Touch.refl [L] w4).setCell (.inl (by simp)) _))
      have HE := Lib.hid hend
      clear hend
      have hst := lApp_step Hd.out H0.out Hy.out
      have Hst := Lib.hid hst
      clear hst
      cases hlo : s.l.loose
      · rw [hlo] at t3
        by_cases he : e2 = 0
        · subst he
          go_wp2
          go_ret
          rw [Hst.out]
          exact ⟨rfl, HE.out true (by simp)⟩
        · have heb : (e2 == 0) = false := by rw [beq_eq_false_iff_ne]; exact he
          go_wp2
          go_ret
          rw [Hst.out]
          exact ⟨rfl, HE.out false (by simp [hlo, he])⟩
      · rw [hlo] at t3
        go_wp2
        go_ret
        rw [Hst.out]
        exact ⟨rfl, HE.out true (by simp [hlo])⟩

set_option maxRecDepth 100000 in
set_option maxHeartbeats 6400000 in
theorem sync_log (L g : Nat) (fp : List Nat) (s : LS) (hfl : s.l.file < 4) (w : World) (h : LsAt w L g fp s) (hdone : s.r.done + 1 ≤ 1073741824) :
    Calls Tryd.prog 23 #[.pointer (some ⟨L, 0, none⟩)] w fun e w' => e = .returned (.int .i64 (lSync s).1) ∧ LsStep L g fp (lSync s).2 w w' := by
  obtain ⟨s0, s1, s2, s3, s4, z0, z1, z2, z3, z4, hl⟩ := blk5 h.lg
  by_cases hd : s.l.down = true
  · rw [hd] at s4
    have H := Lib.hid h
    clear h
    go_enter Tryd.func23, Tryd.ntmps23
    go_wp2
    go_ret
    unfold lSync
    rw [if_pos hd]
    exact ⟨rfl, H.out.keep (Touch.refl _ _)⟩
  · have hdf : s.l.down = false := by simpa using hd
    rw [hdf] at s4
    cases hlo : s.l.loose
    · rw [hlo] at s3
      have H := Lib.hid h
      have H0 := Lib.hid hlo
      clear h hlo
      go_enter Tryd.func23, Tryd.ntmps23
      go_wp2
      go_ret
      unfold lSync
      rw [if_neg hd, if_pos H0.out]
      exact ⟨rfl, H.out.keep (Touch.refl _ _)⟩
    · rw [hlo] at s3
      obtain ⟨yy, hy⟩ : ∃ yy, yy = pSync s.V s.r s.l.file := ⟨_, rfl⟩
      have hdr := h.touch0 ((Touch.refl [] w).drew)
      have C2 := sync_dk g fp s.V s.r s.l.file w.drew hdr.dk (by omega)
      rw [← hy] at C2
      obtain ⟨e2, V2, r2⟩ := yy
      simp only at C2
      have HC2 := Lib.hid C2
      have Hy := Lib.hid hy
      have Hdr := Lib.hid hdr
      have H0 := Lib.hid hlo
      have Hd := Lib.hid hdf
      have s0d : w.drew.cell? ⟨L, 0, none⟩ = some (.pointer (some ⟨g, 0, none⟩)) := s0
      have s1d : w.drew.cell? ⟨L, 1, none⟩ = some (.int .i64 s.l.file) := s1
      have hnL := h.ap
      clear h hy hdr C2 hlo
      go_enter Tryd.func23, Tryd.ntmps23
      go_wp2_with fail
      go_region_held3 (fun w' => w'.cell? ⟨L, 0, none⟩ = some (.pointer (some ⟨g, 0, none⟩)) ∧ w'.cell? ⟨L, 1, none⟩ = some (.int .i64 s.l.file)) (first | exact ⟨s0d, s1d⟩ | exact ⟨q0, q1⟩ | exact ⟨t0, t1⟩) (first
        | (go_at_call 47; refine (note_any L g s.l e2 _ hlg3).mono ?_; rintro e w4 ⟨rfl, hl4, ht4⟩; obtain ⟨t0, t1, t2, t3, t4, v0, v1, v2, v3, v4, -⟩ := blk5 hl4; have H4 := Lib.hid (And.intro hl4 ht4); clear hl4 ht4 hlg3)
        | (go_at_call 49; refine HC2.out.mono ?_; rintro e w3 ⟨rfl, hs3⟩; have q0 := hs3.cell s0d hnL; have q1 := hs3.cell s1d hnL; have H3 := Lib.hid ((Hdr.out.step hs3).ofDrew); have hlg3 : LogAt w3 L g s.l := (by obtain ⟨_, k1, _, _⟩ := H3.out; exact k1.lg); clear hs3))
      have S4 : LsStep L g fp ⟨V2, r2, { s.l with down := decide (e2 = 40) }⟩ w w4 := by
        obtain ⟨fp3, k1, k2, k3⟩ := H3.out
        have k4 := H4.out.1
        rw [Hd.out, Bool.false_or] at k4
        exact LsStep.trans k2 k3 (k1.setL k4 H4.out.2)
      have HS := Lib.hid S4
      clear S4 s0 s1 s2 s3 s4 z0 z1 z2 z3 z4 s0d s1d q0 q1 t0 t1 t2 t4 v0 v1 v2 v4
      have hend : ∀ v : Bool, v = decide (e2 ≠ 0) → LsStep L g fp ⟨V2, r2, { s.l with down := decide (e2 = 40), loose := decide (e2 ≠ 0) }⟩ w (w4.setCell ⟨L, 3, none⟩ (.bool v)) := by
        rintro v rfl
        obtain ⟨fp4, k1, k2, k3⟩ := HS.out
        exact LsStep.trans k2 k3 (k1.setL (set_blk k1.lg 3 _) ((Touch.refl [L] w4).setCell (.inl (by simp)) _))
      have HE := Lib.hid hend
      clear hend
      have hst := lSync_step Hd.out H0.out Hy.out
      have Hst := Lib.hid hst
      clear hst
      by_cases he : e2 = 0
      · subst he
        go_wp2
        go_ret
        rw [Hst.out]
        exact ⟨rfl, HE.out false (by simp)⟩
      · have heb : (e2 != 0) = true := by rw [bne_iff_ne]; exact he
        go_wp2
        go_ret
        rw [Hst.out]
        exact ⟨rfl, HE.out true (by simp [he])⟩

theorem pApp_file_done (s : LS) (recs : List (List UInt8)) : (lApp s recs).2.r.done ≤ s.r.done + 1 ∧ (lApp s recs).2.l.file = s.l.file := by
  unfold lApp
  split
  · exact ⟨by simp only; omega, rfl⟩
  · split
    · exact ⟨by simp only; omega, rfl⟩
    · have := pApp_done s.V s.r s.l.file (gpB recs)
      split
      rename_i h
      rw [h] at this
      exact ⟨this, rfl⟩

set_option maxRecDepth 100000 in
set_option maxHeartbeats 3200000 in
theorem commit_log (L g : Nat) (fp : List Nat) (s : LS) (A : Option Addr) (c n : Nat) (recs : List (List UInt8)) (hn : recs.length = n) (hb : (encR recs).length ≤ 800000000) (hn2 : n ≤ 100000000) (hfl : s.l.file < 4) (w : World) (h : LsAt w L g fp s) (hr : BsAt w A recs) (hdone : s.r.done + 2 ≤ 1073741824) :
    Calls Tryd.prog 22 #[.pointer (some ⟨L, 0, none⟩), .slice A n c] w fun e w' => e = .returned (.int .i64 (lCommit s recs).1) ∧ LsStep L g fp (lCommit s recs).2 w w' := by
  have C1 := append_log L g fp s A c n recs hn hb hn2 hfl w h hr (by omega)
  have hfd := pApp_file_done s recs
  obtain ⟨yy, hy⟩ : ∃ yy, yy = lApp s recs := ⟨_, rfl⟩
  rw [← hy] at C1 hfd
  obtain ⟨e1, s1⟩ := yy
  simp only at C1 hfd
  have H1 := Lib.hid C1
  have Hy := Lib.hid hy
  have Hd := Lib.hid hfd
  clear C1 hy hfd h hr hb
  go_enter Tryd.func22, Tryd.ntmps22
  go_wp2_with fail
  refine H1.out.mono ?_
  clear H1
  rintro e w1 ⟨rfl, hs1⟩
  by_cases he : e1 = 0
  · subst he
    obtain ⟨fp1, k1, k2, k3⟩ := hs1
    have C2 := Lib.hid (sync_log L g fp1 s1 (by rw [Hd.out.2]; exact hfl) w1 k1 (by have := Hd.out.1; omega))
    have HK := Lib.hid (And.intro k2 k3)
    clear k1 k2 k3
    go_wp2_with fail
    refine C2.out.mono ?_
    rintro e w2 ⟨rfl, hs2⟩
    go_wp2
    go_ret
    unfold lCommit
    rw [← Hy.out, if_neg (by simp)]
    exact ⟨rfl, LsStep.trans HK.out.1 HK.out.2 hs2⟩
  · have heb : (e1 != 0) = true := by rw [bne_iff_ne]; exact he
    go_wp2
    go_ret
    unfold lCommit
    rw [← Hy.out, if_pos he]
    exact ⟨rfl, hs1⟩

theorem lLay_keeps (s : LS) (k gen : Nat) (cp : List UInt8) : (lLay s k gen cp).2.l.down = s.l.down ∧ (lLay s k gen cp).2.r.done ≤ s.r.done + 3 := by
  have h1 := pClr_done s.V s.r k
  have h2 := pApp_done (pClr s.V s.r k).2.1 (pClr s.V s.r k).2.2 k (hdB gen cp)
  have h3 := pSync_done (pApp (pClr s.V s.r k).2.1 (pClr s.V s.r k).2.2 k (hdB gen cp)).2.1 (pApp (pClr s.V s.r k).2.1 (pClr s.V s.r k).2.2 k (hdB gen cp)).2.2 k
  unfold lLay
  split
  · exact ⟨rfl, by simp only; omega⟩
  · split
    · exact ⟨rfl, by simp only; omega⟩
    · split
      · exact ⟨rfl, by simp only; omega⟩
      · exact ⟨rfl, by simp only; omega⟩

set_option maxRecDepth 100000 in
set_option maxHeartbeats 6400000 in
theorem compact_log (L g : Nat) (fp : List Nat) (s : LS) (A : Option Addr) (c n : Nat) (cp : List UInt8) (hn : cp.length = n) (hm : n ≤ 800000000) (hfl : s.l.file < 2) (hgb : s.l.gen < 9223372036854775807) (w : World) (h : LsAt w L g fp s) (hr : ∀ w', Touch fp w w' → RdB w' A cp) (hdone : s.r.done + 4 ≤ 1073741824) :
    Calls Tryd.prog 24 #[.pointer (some ⟨L, 0, none⟩), .slice A n c] w fun e w' => e = .returned (.int .i64 (lCompact s cp).1) ∧ LsStep L g fp (lCompact s cp).2 w w' := by
  obtain ⟨s0, s1, s2, s3, s4, z0, z1, z2, z3, z4, hl⟩ := blk5 h.lg
  by_cases hd : s.l.down = true
  · rw [hd] at s4
    have H := Lib.hid h
    clear h hr
    go_enter Tryd.func24, Tryd.ntmps24
    go_wp2
    go_ret
    unfold lCompact
    rw [if_pos hd]
    exact ⟨rfl, H.out.keep (Touch.refl _ _)⟩
  · have hdf : s.l.down = false := by simpa using hd
    rw [hdf] at s4
    have C1 := lay_any L g fp s (1 - s.l.file) (s.l.gen + 1) (by omega) (by omega) A c n cp hn hm w h hr (by omega)
    have hk := lLay_keeps s (1 - s.l.file) (s.l.gen + 1) cp
    obtain ⟨yy, hy⟩ : ∃ yy, yy = lLay s (1 - s.l.file) (s.l.gen + 1) cp := ⟨_, rfl⟩
    rw [← hy] at C1 hk
    obtain ⟨e1, s1'⟩ := yy
    simp only at C1 hk
    rw [hdf] at hk
    have hfk2 : ((1 : Int) - (s.l.file : Int)) = ((1 - s.l.file : Nat) : Int) := by omega
    have hgk2 : ((s.l.gen : Int) + 1) = ((s.l.gen + 1 : Nat) : Int) := by omega
    rw [← hgk2] at C1
    have H1 := Lib.hid C1
    have Hy := Lib.hid hy
    have Hk := Lib.hid hk
    have Hd := Lib.hid hdf
    have Hdd := Lib.hid hd
    clear C1 hy hk h hr hdf hd hgk2
    go_enter Tryd.func24, Tryd.ntmps24
    go_wp2_with fail
    refine H1.out.mono ?_
    clear H1 hfk2
    rintro e w1 ⟨rfl, fp1, k1, k2, k3⟩
    have C2 := note_any L g s1'.l e1 w1 k1.lg
    rw [Hk.out.1, Bool.false_or] at C2
    have HK := Lib.hid (And.intro k1 (And.intro k2 k3))
    have HC2 := Lib.hid C2
    clear C2 k1 k2 k3 s0 s1 s2 s3 s4
    go_wp2_with fail
    refine HC2.out.mono ?_
    clear HC2
    rintro e w2 ⟨rfl, hl2, ht2⟩
    have S2 : LsAt w2 L g fp1 (s1'.dn (decide (e1 = 40))) := HK.out.1.setA hl2 ht2
    have T2 : Touch (L :: fp) w w2 := HK.out.2.1.trans ht2 (fun b hb => .inl (by simp at hb; simp [hb]))
    by_cases he : e1 = 0
    · subst he
      obtain ⟨s0, s1, s2, s3, s4, -⟩ := blk5 S2.lg
      have C3 := clear_any g fp1 s1'.V s1'.r s.l.file (by omega) w2 S2.dk (by have := Hk.out.2; omega)
      obtain ⟨z, hz⟩ : ∃ z, z = pClr s1'.V s1'.r s.l.file := ⟨_, rfl⟩
      rw [← hz] at C3
      obtain ⟨e3, V3, r3⟩ := z
      simp only at C3
      have HC3 := Lib.hid C3
      have Hz := Lib.hid hz
      have H2 := Lib.hid (And.intro S2 T2)
      clear C3 hz S2 T2 hl2 ht2
      go_wp2_with fail
      refine HC3.out.mono ?_
      rintro e w3 ⟨rfl, hs3⟩
      obtain ⟨fp3, j1, j2, j3⟩ := LsStep.trans H2.out.2 HK.out.2.2 (H2.out.1.step hs3)
      have C4 := note_any L g (s1'.dn (decide ((0 : Int) = 40))).l e3 w3 j1.lg
      have HC4 := Lib.hid C4
      have H3 := Lib.hid (And.intro j1 (And.intro j2 j3))
      clear C4 j1 j2 j3 hs3 s0 s1 s2 s3 s4
      go_wp2_with fail
      refine HC4.out.mono ?_
      rintro e w4 ⟨rfl, hl4, ht4⟩
      go_wp2
      go_ret
      unfold lCompact
      rw [if_neg Hdd.out, ← Hy.out]
      simp only [ne_eq, not_true_eq_false, if_false]
      rw [← Hz.out]
      refine ⟨rfl, LsStep.trans H3.out.2.1 H3.out.2.2 (H3.out.1.setL ?_ ht4)⟩
      simpa [LS.dn] using hl4
    · have heb : (e1 != 0) = true := by rw [bne_iff_ne]; exact he
      have H2 := Lib.hid (And.intro S2 T2)
      clear S2 T2 hl2 ht2
      go_wp2
      go_ret
      unfold lCompact
      rw [if_neg Hdd.out, ← Hy.out]
      simp only
      rw [if_pos he]
      exact ⟨rfl, fp1, H2.out.1, H2.out.2, HK.out.2.2⟩

set_option maxHeartbeats 800000 in
theorem gen_log (L g : Nat) (fp : List Nat) (s : LS) (w : World) (h : LsAt w L g fp s) :
    Calls Tryd.prog 14 #[.pointer (some ⟨L, 0, none⟩)] w fun e w' => e = .returned (.int .i64 s.l.gen) ∧ w = w' := by
  obtain ⟨s0, s1, s2, s3, s4, -⟩ := blk5 h.lg
  clear h
  go_enter Tryd.func14, Tryd.ntmps14
  go_wp2
  go_ret
  exact ⟨rfl, rfl⟩
set_option maxHeartbeats 800000 in
theorem loose_log (L g : Nat) (fp : List Nat) (s : LS) (w : World) (h : LsAt w L g fp s) :
    Calls Tryd.prog 19 #[.pointer (some ⟨L, 0, none⟩)] w fun e w' => e = .returned (.bool s.l.loose) ∧ w = w' := by
  obtain ⟨s0, s1, s2, s3, s4, -⟩ := blk5 h.lg
  clear h
  go_enter Tryd.func19, Tryd.ntmps19
  go_wp2
  go_ret
  exact ⟨rfl, rfl⟩
set_option maxHeartbeats 800000 in
theorem size_log (L g : Nat) (fp : List Nat) (s : LS) (hfl : s.l.file < 4) (w : World) (h : LsAt w L g fp s) :
    Calls Tryd.prog 17 #[.pointer (some ⟨L, 0, none⟩)] w fun e w' => e = .returned (.int .i64 (s.V.getD s.l.file ([], 0)).1.length) ∧ Touch [] w w' := by
  obtain ⟨s0, s1, s2, s3, s4, -⟩ := blk5 h.lg
  have s0d : w.drew.cell? ⟨L, 0, none⟩ = some (.pointer (some ⟨g, 0, none⟩)) := s0
  have s1d : w.drew.cell? ⟨L, 1, none⟩ = some (.int .i64 s.l.file) := s1
  have C := size_dk g fp s.V s.r s.l.file w h.dk
  have Cd := size_dk g fp s.V s.r s.l.file w.drew (h.touch0 ((Touch.refl [] w).drew)).dk
  rw [if_pos (by omega), Int.toNat_natCast] at C Cd
  have HC := Lib.hid C
  have HCd := Lib.hid Cd
  clear C Cd h
  go_enter Tryd.func17, Tryd.ntmps17
  go_wp2_with fail
  first
  | (refine HC.out.mono ?_
     rintro e w1 ⟨rfl, rfl⟩
     go_wp2
     go_ret
     exact ⟨rfl, Touch.refl _ _⟩)
  | (go_region_held3 (fun w' => w'.cell? ⟨L, 0, none⟩ = some (.pointer (some ⟨g, 0, none⟩)) ∧ w'.cell? ⟨L, 1, none⟩ = some (.int .i64 s.l.file)) (exact ⟨s0d, s1d⟩) ((go_at_call 12; refine HCd.out.mono ?_; rintro e w1 ⟨rfl, rfl⟩))
     go_wp2
     go_ret
     exact ⟨rfl, (Touch.refl _ _).drew⟩)
end Go.Proofs.YtlcpljpeljoboaaDoor

/- A journal's file, plain: what is read of its bytes, cut off anywhere. -/
namespace Go.Proofs.YtlcpljpeljoboaaDoor
open Go.RowKit

def hdF (g : Nat) (cp : List UInt8) : List UInt8 := encI 1 ++ encI g ++ encT (S cp)
def gpF (recs : List (List UInt8)) : List UInt8 := encI 2 ++ encI recs.length ++ encR recs
theorem hdB_frm (g : Nat) (cp : List UInt8) : hdB g cp = frm (hdF g cp) := rfl
theorem gpB_frm (recs : List (List UInt8)) : gpB recs = frm (gpF recs) := rfl
theorem rdHd_hdF {g : Nat} {cp : List UInt8} (h1 : 1 ≤ g) (h2 : g ≤ 9223372036854775807) (hc : cp.length ≤ 9223372036854775807) : rdHd (hdF g cp) = some (g, cp) := by
  have e1 := rdI_enc (n := 1) (by omega) (by omega) (encI g ++ encT (S cp))
  have e2 := rdI_enc (n := (g : Int)) (by omega) (by omega) (encT (S cp))
  have e3 := rdT_enc (S cp) (by rw [S_size]; exact hc) []
  rw [List.append_nil, S_toList] at e3
  unfold rdHd hdF
  rw [List.append_assoc, e1]
  dsimp only
  rw [e2]
  dsimp only
  rw [e3]
  dsimp only
  rw [if_pos ⟨rfl, by omega, rfl⟩, Int.toNat_natCast]
theorem rdTs_encR (recs : List (List UInt8)) (h : ∀ r ∈ recs, r.length ≤ 9223372036854775807) : rdTs recs.length (encR recs) = some (recs, []) := by
  induction recs with
  | nil => rfl
  | cons r rs ih =>
    have e : encR (r :: rs) = encT (S r) ++ encR rs := by unfold encR; rw [List.flatMap_cons]
    rw [e, List.length_cons, rdTs, rdT_enc (S r) (by rw [S_size]; exact h r (by simp)), S_toList]
    dsimp only
    rw [ih (fun x hx => h x (by simp [hx]))]
theorem rdGp_gpF {recs : List (List UInt8)} (hn : recs.length ≤ 1073741824) (h : ∀ r ∈ recs, r.length ≤ 9223372036854775807) : rdGp (gpF recs) = some recs := by
  have e1 := rdI_enc (n := 2) (by omega) (by omega) (encI recs.length ++ encR recs)
  have e2 := rdI_enc (n := (recs.length : Int)) (by omega) (by omega) (encR recs)
  unfold rdGp gpF
  rw [List.append_assoc, e1]
  dsimp only
  rw [if_pos rfl, e2]
  dsimp only
  rw [if_neg (by omega), Int.toNat_natCast, rdTs_encR recs h]
  dsimp only
  rw [if_pos rfl]

/-- groups of a right size -/
def gsOk (gs : List (List (List UInt8))) : Prop := ∀ recs ∈ gs, recs.length ≤ 1073741824 ∧ (encR recs).length ≤ 800000000
theorem encR_mem {recs : List (List UInt8)} {r : List UInt8} (h : r ∈ recs) : r.length ≤ (encR recs).length := by
  induction recs with
  | nil => cases h
  | cons x xs ih =>
    have e : encR (x :: xs) = encT (S x) ++ encR xs := by unfold encR; rw [List.flatMap_cons]
    rw [e, List.length_append, encT_length, S_size]
    rcases List.mem_cons.1 h with rfl | h
    · omega
    · have := ih h; omega
theorem rdGp_ok {gs : List (List (List UInt8))} (h : gsOk gs) {recs : List (List UInt8)} (hr : recs ∈ gs) : rdGp (gpF recs) = some recs :=
  rdGp_gpF (h recs hr).1 (fun r hm => by have := encR_mem hm; have := (h recs hr).2; omega)
theorem grpV_gs {gs : List (List (List UInt8))} (h : gsOk gs) : grpV (gs.map gpF) = (gs, ((gs.map gpF).flatMap frm).length) := by
  induction gs with
  | nil => rfl
  | cons x xs ih =>
    rw [List.map_cons, grpV, rdGp_ok h (by simp)]
    dsimp only
    rw [ih (fun r hr => h r (by simp [hr])), List.flatMap_cons, List.length_append]

/-- a file's bytes -/
def fileB (g : Nat) (cp : List UInt8) (gs : List (List (List UInt8))) : List UInt8 := hdB g cp ++ gs.flatMap gpB
theorem fileB_frames (g : Nat) (cp : List UInt8) (gs : List (List (List UInt8))) : fileB g cp gs = frames (hdF g cp :: gs.map gpF) := by
  unfold fileB frames
  rw [List.flatMap_cons, hdB_frm, List.flatMap_map]
  rfl
theorem fileB_snoc (g : Nat) (cp : List UInt8) (gs : List (List (List UInt8))) (x : List (List UInt8)) : fileB g cp (gs ++ [x]) = fileB g cp gs ++ gpB x := by
  unfold fileB; rw [List.flatMap_append, List.append_assoc]; simp
theorem fileB_take (g : Nat) (cp : List UInt8) (gs : List (List (List UInt8))) (j : Nat) : (fileB g cp gs).take (fileB g cp (gs.take j)).length = fileB g cp (gs.take j) := by
  have e : fileB g cp gs = fileB g cp (gs.take j) ++ (gs.drop j).flatMap gpB := by
    unfold fileB
    rw [List.append_assoc, ← List.flatMap_append, List.take_append_drop]
  rw [e, List.take_left]
theorem fileB_mono (g : Nat) (cp : List UInt8) (gs : List (List (List UInt8))) {i j : Nat} (h : i ≤ j) : (fileB g cp (gs.take i)).length ≤ (fileB g cp (gs.take j)).length := by
  have e : gs.take i = (gs.take j).take i := by rw [List.take_take, Nat.min_eq_left h]
  have := fileB_take g cp (gs.take j) i
  rw [← e] at this
  have := congrArg List.length this
  rw [List.length_take] at this
  omega
theorem fileB_le (g : Nat) (cp : List UInt8) (gs : List (List (List UInt8))) (i : Nat) : (fileB g cp (gs.take i)).length ≤ (fileB g cp gs).length := by
  have := congrArg List.length (fileB_take g cp gs i)
  rw [List.length_take] at this
  omega
theorem gpB_pos (x : List (List UInt8)) : 0 < (gpB x).length := (frm_pos _).1
theorem hdB_pos (g : Nat) (cp : List UInt8) : 0 < (hdB g cp).length := (frm_pos _).1
theorem fileB_strict (g : Nat) (cp : List UInt8) (gs : List (List (List UInt8))) {i j : Nat} (h : i < j) (hj : j ≤ gs.length) : (fileB g cp (gs.take i)).length < (fileB g cp (gs.take j)).length := by
  have h1 := fileB_mono g cp gs (show i + 1 ≤ j from h)
  have h2 : gs.take (i + 1) = gs.take i ++ [gs[i]'(by omega)] := List.take_succ_eq_append_getElem (by omega)
  rw [h2, fileB_snoc, List.length_append] at h1
  have := gpB_pos (gs[i]'(by omega))
  omega
theorem endN_file (g : Nat) (cp : List UInt8) (gs : List (List (List UInt8))) (j : Nat) : endN (hdF g cp :: gs.map gpF) (j + 1) = (fileB g cp (gs.take j)).length := by
  unfold endN
  rw [List.take_succ_cons, ← List.map_take, ← fileB_frames]
theorem hdF_len (g : Nat) (cp : List UInt8) : (hdF g cp).length ≤ cp.length + 40 := by
  have := (frm_pos (hdF g cp)).2
  have h := hdB_len g cp
  rw [hdB_frm] at h
  omega
theorem gpF_len (recs : List (List UInt8)) : (gpF recs).length ≤ (encR recs).length + 40 := by
  have := (frm_pos (gpF recs)).2
  have h := gpB_len recs
  rw [gpB_frm] at h
  omega
theorem frames_ok {g : Nat} {cp : List UInt8} {gs : List (List (List UInt8))} (hc : cp.length ≤ 800000000) (h : gsOk gs) : ∀ s ∈ hdF g cp :: gs.map gpF, s.length ≤ 9223372036854775807 := by
  intro s hs
  rcases List.mem_cons.1 hs with rfl | hs
  · have := hdF_len g cp; omega
  · obtain ⟨r, hr, rfl⟩ := List.mem_map.1 hs
    have := gpF_len r
    have := (h r hr).2
    omega
theorem segV_file {g : Nat} {cp : List UInt8} {gs : List (List (List UInt8))} (h1 : 1 ≤ g) (h2 : g ≤ 9223372036854775807) (hc : cp.length ≤ 800000000) (h : gsOk gs) :
    segV (hdF g cp :: gs.map gpF) = ⟨g, cp, gs, (fileB g cp gs).length⟩ := by
  rw [segV, rdHd_hdF h1 h2 (by omega)]
  dsimp only
  rw [grpV_gs h]
  dsimp only
  rw [fileB_frames, frames, List.flatMap_cons, List.length_append]
theorem gsOk.take {gs : List (List (List UInt8))} (h : gsOk gs) (j : Nat) : gsOk (gs.take j) := fun r hr => h r (List.mem_of_mem_take hr)
/-- a file that is cut off behind its head -/
theorem sgOf_cut {g : Nat} {cp : List UInt8} {gs : List (List (List UInt8))} (h1 : 1 ≤ g) (h2 : g ≤ 9223372036854775807) (hc : cp.length ≤ 800000000) (h : gsOk gs) {n : Nat} (hn : (hdB g cp).length ≤ n) (hle : n ≤ (fileB g cp gs).length) :
    ∃ j, j ≤ gs.length ∧ sgOf ((fileB g cp gs).take n) = ⟨g, cp, gs.take j, (fileB g cp (gs.take j)).length⟩ ∧ (fileB g cp (gs.take j)).length ≤ n ∧ (j = gs.length ∨ n < (fileB g cp (gs.take (j + 1))).length) := by
  have ex : ∀ m, m ≤ gs.length → (∃ j, j ≤ m ∧ (fileB g cp (gs.take j)).length ≤ n ∧ (j = m ∨ n < (fileB g cp (gs.take (j + 1))).length)) := by
    intro m
    induction m with
    | zero => exact fun _ => ⟨0, by omega, by simpa [fileB] using hn, .inl rfl⟩
    | succ m ih =>
      intro hm
      obtain ⟨j, k1, k2, k3⟩ := ih (by omega)
      rcases k3 with rfl | k3
      · by_cases hj : n < (fileB g cp (gs.take (j + 1))).length
        · exact ⟨j, by omega, k2, .inr hj⟩
        · exact ⟨j + 1, by omega, by omega, .inl rfl⟩
      · exact ⟨j, by omega, k2, .inr k3⟩
  obtain ⟨j, hj, k2, k3⟩ := ex gs.length (Nat.le_refl _)
  refine ⟨j, hj, ?_, k2, k3⟩
  obtain ⟨rest, r1, r2, -⟩ := scan_cut (j + 1) (hdF g cp :: gs.map gpF) n (frames_ok hc h) (by simp; omega) (by rw [endN_file]; exact k2) (by rw [← fileB_frames]; exact hle) (by
    rcases k3 with k3 | k3
    · left; simp [k3]
    · right; rw [endN_file]; exact k3)
  rw [fileB_frames, sgOf_eq r1 r2, List.take_succ_cons, ← List.map_take, segV_file h1 h2 hc (h.take j)]
theorem sgOf_file {g : Nat} {cp : List UInt8} {gs : List (List (List UInt8))} (h1 : 1 ≤ g) (h2 : g ≤ 9223372036854775807) (hc : cp.length ≤ 800000000) (h : gsOk gs) : sgOf (fileB g cp gs) = ⟨g, cp, gs, (fileB g cp gs).length⟩ := by
  obtain ⟨j, hj, e, k1, k2⟩ := sgOf_cut h1 h2 hc h (n := (fileB g cp gs).length) (by unfold fileB; simp) (Nat.le_refl _)
  rw [List.take_length] at e
  have : j = gs.length := by
    rcases k2 with k2 | k2
    · exact k2
    · have := fileB_le g cp gs (j + 1); omega
  subst this
  rw [List.take_length] at e
  exact e
/-- a file whose head is not whole -/
theorem sgOf_part {g : Nat} {cp : List UInt8} {gs : List (List (List UInt8))} (hc : cp.length ≤ 800000000) (h : gsOk gs) {n : Nat} (hn : n < (hdB g cp).length) : sgOf ((fileB g cp gs).take n) = ⟨0, [], [], 0⟩ := by
  have hle : (hdB g cp).length ≤ (fileB g cp gs).length := by unfold fileB; simp
  obtain ⟨rest, r1, r2, -⟩ := scan_cut 0 (hdF g cp :: gs.map gpF) n (frames_ok hc h) (by simp) (by simp [endN, frames]) (by rw [← fileB_frames]; omega) (by
    right
    rw [endN_file]
    simpa [fileB] using hn)
  rw [fileB_frames, sgOf_eq r1 r2]
  rfl
theorem sgOf_nil : sgOf [] = ⟨0, [], [], 0⟩ := sgOf_eq (ls := []) (m := []) rfl scan1_nil
/-- what is synced stays: at least so many groups -/
theorem cut_at_least {g : Nat} {cp : List UInt8} {gs : List (List (List UInt8))} {i j n : Nat} (hi : i ≤ gs.length) (hin : (fileB g cp (gs.take i)).length ≤ n) (h : j = gs.length ∨ n < (fileB g cp (gs.take (j + 1))).length) : i ≤ j := by
  rcases h with h | h
  · omega
  · rcases Nat.lt_or_ge j i with hlt | hge
    · have := fileB_mono g cp gs (show j + 1 ≤ i from hlt); omega
    · exact hge
end Go.Proofs.YtlcpljpeljoboaaDoor

/- A journal's steps on a disk whose power stays: plain. -/
namespace Go.Proofs.YtlcpljpeljoboaaDoor
open Go.RowKit

def mkV (k : Nat) (x y : List UInt8 × Nat) : Fl := if k = 0 then [x, y, ([], 0), ([], 0)] else [y, x, ([], 0), ([], 0)]
theorem mkV_get {k : Nat} (hk : k < 2) (x y : List UInt8 × Nat) : (mkV k x y).getD k ([], 0) = x := by
  rcases (show k = 0 ∨ k = 1 by omega) with rfl | rfl <;> rfl
theorem mkV_other {k : Nat} (hk : k < 2) (x y : List UInt8 × Nat) : (mkV k x y).getD (1 - k) ([], 0) = y := by
  rcases (show k = 0 ∨ k = 1 by omega) with rfl | rfl <;> rfl
theorem mkV_set {k : Nat} (hk : k < 2) (x y v : List UInt8 × Nat) : (mkV k x y).set k v = mkV k v y := by
  rcases (show k = 0 ∨ k = 1 by omega) with rfl | rfl <;> rfl
theorem mkV_turn {k : Nat} (hk : k < 2) (x y : List UInt8 × Nat) : mkV (1 - k) y x = mkV k x y := by
  rcases (show k = 0 ∨ k = 1 by omega) with rfl | rfl <;> rfl
theorem mkV_used (k : Nat) (x y : List UInt8 × Nat) : usedV (mkV k x y) = x.1.length + y.1.length := by
  unfold mkV usedV
  split <;> simp <;> omega
theorem mkV_01 {k : Nat} (hk : k < 2) (x y : List UInt8 × Nat) : (k = 0 ∧ (mkV k x y).getD 0 ([], 0) = x ∧ (mkV k x y).getD 1 ([], 0) = y) ∨ (k = 1 ∧ (mkV k x y).getD 0 ([], 0) = y ∧ (mkV k x y).getD 1 ([], 0) = x) := by
  rcases (show k = 0 ∨ k = 1 by omega) with rfl | rfl
  · exact .inl ⟨rfl, rfl, rfl⟩
  · exact .inr ⟨rfl, rfl, rfl⟩

def up (r : DR) (n : Nat) : DR := { r with done := r.done + n }
structure Calm (r : DR) : Prop where
  left : r.left = -1
  down : r.down = false
theorem Calm.upc {r : DR} (h : Calm r) (n : Nat) : Calm (up r n) := ⟨h.left, h.down⟩
theorem up_up (r : DR) (m n : Nat) : up (up r m) n = up r (m + n) := by unfold up; simp [Int.add_assoc]
theorem up_zero (r : DR) : up r 0 = r := by unfold up; simp
theorem up_cap (r : DR) (n : Nat) : (up r n).cap = r.cap := rfl
theorem Calm.cmd {r : DR} (h : Calm r) : cmdE r = 0 ∧ cmdR r = up r 1 := by
  have hl := h.left
  constructor
  · unfold cmdE; rw [if_neg (by omega)]
  · unfold cmdR up
    rw [if_neg (by omega), hl]
    rfl
theorem Calm.check {r : DR} (h : Calm r) {k : Nat} (hk : k < 4) : checkI r.down k = 0 := by
  simp only [checkI, h.down]; simp; omega
theorem pCut_calm {k : Nat} (hk : k < 2) {r : DR} (h : Calm r) (x y : List UInt8 × Nat) (m : Nat) (hm : m ≤ x.1.length) : pCut (mkV k x y) r k m = (0, mkV k (x.1.take m, m) y, up r 1) := by
  unfold pCut
  rw [if_neg (by simpa using h.check (k := k) (by omega)), Int.toNat_natCast, mkV_get hk, if_neg (by omega), h.cmd.1, h.cmd.2, if_pos rfl, mkV_set hk, Int.toNat_natCast]
theorem pSync_calm {k : Nat} (hk : k < 2) {r : DR} (h : Calm r) (x y : List UInt8 × Nat) : pSync (mkV k x y) r k = (0, mkV k (x.1, x.1.length) y, up r 1) := by
  unfold pSync
  rw [if_neg (by simpa using h.check (k := k) (by omega)), Int.toNat_natCast, mkV_get hk, h.cmd.1, h.cmd.2, if_pos rfl, mkV_set hk]
theorem pApp_full {k : Nat} (hk : k < 2) {r : DR} (h : Calm r) (x y : List UInt8 × Nat) (b : List UInt8) (hf : r.cap - (x.1.length + y.1.length : Nat) < (b.length : Int)) : pApp (mkV k x y) r k b = (41, mkV k x y, r) := by
  unfold pApp
  rw [if_neg (by simpa using h.check (k := k) (by omega)), mkV_used, if_pos hf]
theorem pApp_calm {k : Nat} (hk : k < 2) {r : DR} (h : Calm r) (x y : List UInt8 × Nat) (b : List UInt8) (hf : (b.length : Int) ≤ r.cap - (x.1.length + y.1.length : Nat)) : pApp (mkV k x y) r k b = (0, mkV k (x.1 ++ b, x.2) y, up r 1) := by
  unfold pApp
  rw [if_neg (by simpa using h.check (k := k) (by omega)), mkV_used, if_neg (by omega), Int.toNat_natCast, mkV_get hk, h.cmd.1, h.cmd.2, mkV_set hk]
theorem pClr_calm {k : Nat} (hk : k < 2) {r : DR} (h : Calm r) (x y : List UInt8 × Nat) (hx : x.2 ≤ x.1.length) : ∃ d, d ≤ 1 ∧ pClr (mkV k x y) r k = (0, mkV k ([], 0) y, up r d) := by
  unfold pClr
  rw [mkV_get hk]
  by_cases h0 : x.1.length = 0
  · obtain ⟨a, s⟩ := x
    obtain rfl : a = [] := List.eq_nil_of_length_eq_zero h0
    obtain rfl : s = 0 := by simpa using hx
    exact ⟨0, by omega, by rw [if_pos (by rfl), up_zero]⟩
  · have e := pCut_calm hk h x y 0 (by omega)
    rw [if_neg h0]
    exact ⟨1, by omega, by rw [show ((0 : Nat) : Int) = 0 from rfl] at e; rw [e]; simp⟩
theorem lLay_calm {k : Nat} (hk : k < 2) {r : DR} (h : Calm r) (x y : List UInt8 × Nat) (hx : x.2 ≤ x.1.length) (l : LG) (gen : Nat) (cp : List UInt8) (hf : ((hdB gen cp).length : Int) ≤ r.cap - (y.1.length : Nat)) :
    ∃ d, d ≤ 3 ∧ lLay ⟨mkV k x y, r, l⟩ k gen cp = (0, ⟨mkV k (hdB gen cp, (hdB gen cp).length) y, up r d, { l with file := k, gen := gen, loose := false }⟩) := by
  obtain ⟨d, hd, e1⟩ := pClr_calm hk h x y hx
  have e2 := pApp_calm hk (h.upc d) ([], 0) y (hdB gen cp) (by simpa [up_cap] using hf)
  have e3 := pSync_calm hk ((h.upc d).upc 1) (([] : List UInt8) ++ hdB gen cp, 0) y
  refine ⟨d + 1 + 1, by omega, ?_⟩
  rw [lLay_syn (s := ⟨mkV k x y, r, l⟩) e1.symm e2.symm e3.symm, if_pos rfl, up_up, up_up]
  rfl
theorem lLay_full {k : Nat} (hk : k < 2) {r : DR} (h : Calm r) (y : List UInt8 × Nat) (l : LG) (gen : Nat) (cp : List UInt8) (hf : r.cap - (y.1.length : Nat) < ((hdB gen cp).length : Int)) :
    lLay ⟨mkV k ([], 0) y, r, l⟩ k gen cp = (41, ⟨mkV k ([], 0) y, r, l⟩) := by
  have e1 : pClr (mkV k ([], 0) y) r k = (0, mkV k ([], 0) y, r) := by unfold pClr; rw [mkV_get hk]; rfl
  have e2 := pApp_full hk h ([], 0) y (hdB gen cp) (by simpa using hf)
  rw [lLay_app (s := ⟨mkV k ([], 0) y, r, l⟩) e1.symm e2.symm (by omega)]
theorem lSettle_calm {k : Nat} (hk : k < 2) {r : DR} (h : Calm r) (x y : List UInt8 × Nat) (hx : x.2 ≤ x.1.length) (hy : y.2 ≤ y.1.length) (l : LG) (gen en : Nat) (hg : gen ≠ 0) (hen : en ≤ x.1.length) :
    ∃ d, d ≤ 2 ∧ lSettle ⟨mkV k x y, r, l⟩ gen en k = (0, ⟨mkV k (x.1.take en, en) ([], 0), up r d, { l with file := k, gen := gen }⟩) := by
  have h1 : ∃ d, d ≤ 1 ∧ trimV (mkV k x y) r k en = (0, mkV k (x.1.take en, en) y, up r d) := by
    unfold trimV
    rw [mkV_get hk]
    by_cases hc : en < x.1.length
    · rw [if_pos hc]; exact ⟨1, by omega, pCut_calm hk h x y en hen⟩
    · obtain rfl : en = x.1.length := by omega
      rw [if_neg hc, List.take_length]
      by_cases hs : x.2 < x.1.length
      · rw [if_pos hs]; exact ⟨1, by omega, pSync_calm hk h x y⟩
      · rw [if_neg hs]
        refine ⟨0, by omega, ?_⟩
        rw [up_zero, show (x.1, x.1.length) = x from by obtain ⟨a, s⟩ := x; simp at hs hx ⊢; omega]
  obtain ⟨d, hd, e1⟩ := h1
  obtain ⟨d2, hd2, e2⟩ := pClr_calm (k := 1 - k) (by omega) (h.upc d) y (x.1.take en, en) hy
  rw [mkV_turn hk] at e2
  refine ⟨d + d2, by omega, ?_⟩
  rw [lSettle_end (s := ⟨mkV k x y, r, l⟩) hg e1.symm e2.symm, up_up, mkV_turn hk]
theorem lSettle_new {k : Nat} (hk : k < 2) {r : DR} (h : Calm r) (x y : List UInt8 × Nat) (hx : x.2 ≤ x.1.length) (hy : y.2 ≤ y.1.length) (l : LG) (en : Nat) (hf : ((hdB 1 []).length : Int) ≤ r.cap) :
    ∃ d, d ≤ 4 ∧ lSettle ⟨mkV k x y, r, l⟩ 0 en k = (0, ⟨mkV k (hdB 1 [], (hdB 1 []).length) ([], 0), up r d, { l with file := k, gen := 1, loose := false }⟩) := by
  obtain ⟨d, hd, e1⟩ := pClr_calm (k := 1 - k) (by omega) h y x hy
  rw [mkV_turn hk, mkV_turn hk] at e1
  obtain ⟨d2, hd2, e2⟩ := lLay_calm hk (h.upc d) x ([], 0) hx l 1 [] (by simpa [up_cap] using hf)
  refine ⟨d + d2, by omega, ?_⟩
  rw [lSettle_lay (s := ⟨mkV k x y, r, l⟩) e1.symm]
  simp only
  rw [e2, up_up]
  rfl
theorem bestOf_mk {k : Nat} (hk : k < 2) (x y : List UInt8 × Nat) (h : (sgOf y.1).gen < (sgOf x.1).gen ∨ (k = 0 ∧ (sgOf y.1).gen ≤ (sgOf x.1).gen)) : bestOf (mkV k x y) = k ∧ bestS (mkV k x y) = sgOf x.1 := by
  have hb : bestOf (mkV k x y) = k := by
    unfold bestOf
    rcases mkV_01 hk x y with ⟨rfl, h0, h1⟩ | ⟨rfl, h0, h1⟩
    · rw [h0, h1, if_neg (by omega)]
    · rw [h0, h1, if_pos (by omega)]
  exact ⟨hb, by unfold bestS; rw [hb, mkV_get hk]⟩
theorem open_calm {k : Nat} (hk : k < 2) {r : DR} (h : Calm r) (x y : List UInt8 × Nat) (hx : x.2 ≤ x.1.length) (hy : y.2 ≤ y.1.length) (hb : (sgOf y.1).gen < (sgOf x.1).gen ∨ (k = 0 ∧ (sgOf y.1).gen ≤ (sgOf x.1).gen)) (hg : (sgOf x.1).gen ≠ 0) (hen : (sgOf x.1).en ≤ x.1.length) :
    ∃ d, d ≤ 2 ∧ lOpen (mkV k x y) r = (0, ⟨mkV k (x.1.take (sgOf x.1).en, (sgOf x.1).en) ([], 0), up r d, ⟨k, (sgOf x.1).gen, false, false⟩⟩) := by
  obtain ⟨h1, h2⟩ := bestOf_mk hk x y hb
  unfold lOpen
  rw [h1, h2]
  exact lSettle_calm hk h x y hx hy _ _ _ hg hen
theorem open_new {r : DR} (h : Calm r) (x y : List UInt8 × Nat) (hx : x.2 ≤ x.1.length) (hy : y.2 ≤ y.1.length) (h1 : (sgOf x.1).gen = 0) (h2 : (sgOf y.1).gen = 0) (hf : ((hdB 1 []).length : Int) ≤ r.cap) :
    ∃ d, d ≤ 4 ∧ lOpen (mkV 0 x y) r = (0, ⟨mkV 0 (hdB 1 [], (hdB 1 []).length) ([], 0), up r d, ⟨0, 1, false, false⟩⟩) := by
  obtain ⟨h3, h4⟩ := bestOf_mk (k := 0) (by omega) x y (.inr ⟨rfl, by omega⟩)
  unfold lOpen
  rw [h3, h4, h1]
  exact lSettle_new (by omega) h x y hx hy _ _ hf
end Go.Proofs.YtlcpljpeljoboaaDoor

/- A journal as checkpoint and groups; its calls on a disk whose power stays: plain. -/
namespace Go.Proofs.YtlcpljpeljoboaaDoor
open Go.RowKit

def jS (k gen : Nat) (cp : List UInt8) (gs : List (List (List UInt8))) (sf : Nat) (r : DR) (lo : Bool) : LS := ⟨mkV k (fileB gen cp gs, sf) ([], 0), r, ⟨k, gen, lo, false⟩⟩
section
variable {k gen : Nat} {cp : List UInt8} {gs : List (List (List UInt8))} {sf : Nat} {r : DR} {lo : Bool}
theorem lApp_none : lApp (jS k gen cp gs sf r lo) [] = (0, jS k gen cp gs sf r lo) := by unfold lApp jS; rfl
theorem lApp_calm (hk : k < 2) (h : Calm r) {recs : List (List UInt8)} (hr : recs.length ≠ 0) (hf : ((gpB recs).length : Int) ≤ r.cap - ((fileB gen cp gs).length : Nat)) :
    lApp (jS k gen cp gs sf r lo) recs = (0, jS k gen cp (gs ++ [recs]) sf (up r 1) true) := by
  have e := pApp_calm hk h (fileB gen cp gs, sf) ([], 0) (gpB recs) (by simpa using hf)
  rw [lApp_step (s := jS k gen cp gs sf r lo) rfl hr e.symm]
  unfold jS
  rw [fileB_snoc]
  simp
theorem lApp_full (hk : k < 2) (h : Calm r) {recs : List (List UInt8)} (hr : recs.length ≠ 0) (hf : r.cap - ((fileB gen cp gs).length : Nat) < ((gpB recs).length : Int)) :
    lApp (jS k gen cp gs sf r lo) recs = (41, jS k gen cp gs sf r lo) := by
  have e := pApp_full hk h (fileB gen cp gs, sf) ([], 0) (gpB recs) (by simpa using hf)
  rw [lApp_step (s := jS k gen cp gs sf r lo) rfl hr e.symm]
  unfold jS
  simp
theorem lSync_none : lSync (jS k gen cp gs sf r false) = (0, jS k gen cp gs sf r false) := by unfold lSync jS; rfl
theorem lSync_calm (hk : k < 2) (h : Calm r) : lSync (jS k gen cp gs sf r true) = (0, jS k gen cp gs (fileB gen cp gs).length (up r 1) false) := by
  have e := pSync_calm hk h (fileB gen cp gs, sf) ([], 0)
  rw [lSync_step (s := jS k gen cp gs sf r true) rfl rfl e.symm]
  unfold jS
  simp
theorem lCommit_full (hk : k < 2) (h : Calm r) {recs : List (List UInt8)} (hr : recs.length ≠ 0) (hf : r.cap - ((fileB gen cp gs).length : Nat) < ((gpB recs).length : Int)) :
    lCommit (jS k gen cp gs sf r lo) recs = (41, jS k gen cp gs sf r lo) := by
  unfold lCommit
  rw [lApp_full hk h hr hf]
  rfl
theorem lCommit_calm (hk : k < 2) (h : Calm r) {recs : List (List UInt8)} (hr : recs.length ≠ 0) (hf : ((gpB recs).length : Int) ≤ r.cap - ((fileB gen cp gs).length : Nat)) :
    lCommit (jS k gen cp gs sf r lo) recs = (0, jS k gen cp (gs ++ [recs]) (fileB gen cp (gs ++ [recs])).length (up r 2) false) := by
  unfold lCommit
  rw [lApp_calm hk h hr hf]
  simp only [ne_eq, not_true_eq_false, if_false]
  rw [lSync_calm hk (h.upc 1), up_up]
theorem lCommit_none : lCommit (jS k gen cp gs sf r lo) [] = lSync (jS k gen cp gs sf r lo) := by
  unfold lCommit
  rw [lApp_none]
  rfl
theorem lCompact_full (hk : k < 2) (h : Calm r) (cp2 : List UInt8) (hf : r.cap - ((fileB gen cp gs).length : Nat) < ((hdB (gen + 1 : Nat) cp2).length : Int)) :
    lCompact (jS k gen cp gs sf r lo) cp2 = (41, jS k gen cp gs sf r lo) := by
  have e := lLay_full (k := 1 - k) (by omega) h (fileB gen cp gs, sf) ⟨k, gen, lo, false⟩ (gen + 1) cp2 hf
  rw [mkV_turn hk] at e
  unfold lCompact jS
  simp only
  rw [e]
  simp [LS.dn]
theorem lCompact_calm (hk : k < 2) (h : Calm r) (cp2 : List UInt8) (hsf : sf ≤ (fileB gen cp gs).length) (hf : ((hdB (gen + 1 : Nat) cp2).length : Int) ≤ r.cap - ((fileB gen cp gs).length : Nat)) :
    ∃ d, d ≤ 4 ∧ lCompact (jS k gen cp gs sf r lo) cp2 = (0, jS (1 - k) (gen + 1) cp2 [] (fileB (gen + 1) cp2 []).length (up r d) false) := by
  obtain ⟨d, hd, e⟩ := lLay_calm (k := 1 - k) (by omega) h ([], 0) (fileB gen cp gs, sf) (by simp) ⟨k, gen, lo, false⟩ (gen + 1) cp2 hf
  obtain ⟨d2, hd2, e2⟩ := pClr_calm hk (h.upc d) (fileB gen cp gs, sf) (hdB (gen + 1 : Nat) cp2, (hdB (gen + 1 : Nat) cp2).length) hsf
  rw [mkV_turn hk, mkV_turn hk] at e
  refine ⟨d + d2, by omega, ?_⟩
  unfold lCompact jS
  simp only
  rw [e]
  simp only [ne_eq, not_true_eq_false, if_false, Bool.false_eq_true]
  rw [e2, up_up]
  have hn : fileB (gen + 1) cp2 [] = hdB (gen + 1 : Nat) cp2 := by unfold fileB; simp
  rw [hn, mkV_turn (k := k) hk]
  simp
/-- how many bytes stay in each of the two files -/
theorem crash_mk (hk : k < 2) (ks : List Int) (x y : List UInt8 × Nat) (hx : x.2 ≤ x.1.length) (hy : y.2 ≤ y.1.length) : ∃ m n, x.2 ≤ m ∧ m ≤ x.1.length ∧ y.2 ≤ n ∧ n ≤ y.1.length ∧ crashK ks (mkV k x y) 4 = mkV k (x.1.take m, m) (y.1.take n, n) := by
  have key : ∀ i (z : List UInt8 × Nat), z.2 ≤ z.1.length → ∃ m, z.2 ≤ m ∧ m ≤ z.1.length ∧ crashF ks i z = (z.1.take m, m) := by
    intro i z hz
    have hs : stays ks i (z.1.length - z.2) ≤ z.1.length - z.2 := by unfold stays; split <;> omega
    exact ⟨z.2 + stays ks i (z.1.length - z.2), by omega, by omega, rfl⟩
  have hz : ∀ i, crashF ks i ([], 0) = ([], 0) := by
    intro i
    obtain ⟨m, h1, h2, h3⟩ := key i ([], 0) (by simp)
    rw [h3]
    simp at h2
    subst h2
    rfl
  rcases (show k = 0 ∨ k = 1 by omega) with rfl | rfl
  · obtain ⟨m, h1, h2, h3⟩ := key 0 x hx
    obtain ⟨n, g1, g2, g3⟩ := key 1 y hy
    refine ⟨m, n, h1, h2, g1, g2, ?_⟩
    rw [← h3, ← g3]
    unfold mkV crashK
    simp [hz]
  · obtain ⟨m, h1, h2, h3⟩ := key 1 x hx
    obtain ⟨n, g1, g2, g3⟩ := key 0 y hy
    refine ⟨m, n, h1, h2, g1, g2, ?_⟩
    rw [← h3, ← g3]
    unfold mkV crashK
    simp [hz]
theorem open_fresh {r : DR} (h : Calm r) (x y : List UInt8 × Nat) (hx : x.2 ≤ x.1.length) (hy : y.2 ≤ y.1.length) (h1 : (sgOf x.1).gen = 0) (h2 : (sgOf y.1).gen = 0) (hf : ((hdB 1 []).length : Int) ≤ r.cap) :
    ∃ d, d ≤ 4 ∧ lOpen (mkV 0 x y) r = (0, jS 0 1 [] [] (fileB 1 [] []).length (up r d) false) := by
  obtain ⟨d, hd, e⟩ := open_new h x y hx hy h1 h2 hf
  refine ⟨d, hd, ?_⟩
  rw [e]
  unfold jS fileB
  simp
theorem open_file {k gen : Nat} (hk : k < 2) {cp : List UInt8} {gs : List (List (List UInt8))} {r : DR} (h : Calm r) (h1 : 1 ≤ gen) (h2 : gen ≤ 9223372036854775807) (hc : cp.length ≤ 800000000) (hgs : gsOk gs) {m : Nat} (hn : (hdB gen cp).length ≤ m) (hle : m ≤ (fileB gen cp gs).length)
    (y : List UInt8 × Nat) (hy : y.2 ≤ y.1.length) (hyg : (sgOf y.1).gen < gen) (sf : Nat) (hsf : sf ≤ m) :
    ∃ j d, j ≤ gs.length ∧ d ≤ 2 ∧ bestS (mkV k ((fileB gen cp gs).take m, sf) y) = ⟨gen, cp, gs.take j, (fileB gen cp (gs.take j)).length⟩ ∧
      lOpen (mkV k ((fileB gen cp gs).take m, sf) y) r = (0, jS k gen cp (gs.take j) (fileB gen cp (gs.take j)).length (up r d) false) ∧ (j = gs.length ∨ m < (fileB gen cp (gs.take (j + 1))).length) := by
  obtain ⟨j, hj, e, k1, k2⟩ := sgOf_cut h1 h2 hc hgs hn hle
  have hlen : ((fileB gen cp gs).take m).length = m := by rw [List.length_take]; omega
  obtain ⟨b1, b2⟩ := bestOf_mk hk ((fileB gen cp gs).take m, sf) y (.inl (by rw [e]; exact hyg))
  obtain ⟨d, hd, eo⟩ := open_calm hk h ((fileB gen cp gs).take m, sf) y (by simp only [hlen]; exact hsf) hy (.inl (by rw [e]; exact hyg)) (by rw [e]; simp only; omega) (by rw [e]; simp only [hlen]; exact k1)
  refine ⟨j, d, hj, hd, by rw [b2, e], ?_, k2⟩
  rw [eo, e]
  simp only
  have ht : ((fileB gen cp gs).take m).take (fileB gen cp (gs.take j)).length = fileB gen cp (gs.take j) := by
    rw [List.take_take, Nat.min_eq_left k1, fileB_take]
  rw [ht]
  rfl
theorem crash_none {k : Nat} (hk : k < 2) (x y : List UInt8 × Nat) : crashK [] (mkV k x y) 4 = mkV k (x.1.take x.2, x.2) (y.1.take y.2, y.2) := by
  have key : ∀ i (z : List UInt8 × Nat), crashF [] i z = (z.1.take z.2, z.2) := by
    intro i z
    unfold crashF stays
    simp
  rcases (show k = 0 ∨ k = 1 by omega) with rfl | rfl
  · unfold mkV crashK; simp [key]
  · unfold mkV crashK; simp [key]
theorem open_whole {k gen : Nat} (hk : k < 2) {cp : List UInt8} {gs : List (List (List UInt8))} {r : DR} (h : Calm r) (h1 : 1 ≤ gen) (h2 : gen ≤ 9223372036854775807) (hc : cp.length ≤ 800000000) (hgs : gsOk gs)
    (y : List UInt8 × Nat) (hy : y.2 ≤ y.1.length) (hyg : (sgOf y.1).gen < gen) (sf : Nat) (hsf : sf ≤ (fileB gen cp gs).length) :
    ∃ d, d ≤ 2 ∧ bestS (mkV k (fileB gen cp gs, sf) y) = ⟨gen, cp, gs, (fileB gen cp gs).length⟩ ∧ lOpen (mkV k (fileB gen cp gs, sf) y) r = (0, jS k gen cp gs (fileB gen cp gs).length (up r d) false) := by
  obtain ⟨j, d, hj, hd, e1, e2, e3⟩ := open_file hk h h1 h2 hc hgs (m := (fileB gen cp gs).length) (by unfold fileB; simp) (Nat.le_refl _) y hy hyg sf hsf
  have : j = gs.length := by
    rcases e3 with e3 | e3
    · exact e3
    · have := fileB_le gen cp gs (j + 1); omega
  subst this
  rw [List.take_length, List.take_length] at e1 e2
  exact ⟨d, hd, e1, e2⟩
end
end Go.Proofs.YtlcpljpeljoboaaDoor
