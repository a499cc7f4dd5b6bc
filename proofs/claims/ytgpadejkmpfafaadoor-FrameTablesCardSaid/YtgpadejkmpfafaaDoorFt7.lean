/- Part 7 of the texts of this proof, one behind the other; each begins with its own sentence. No condition beyond those that its theorems state. -/
import Derived.Test.YtgpadejkmpfafaaDoorFt6
import Derived.OrdersHeld
import Derived.Deep.RegionHeld3
import Derived.ProofKit
import Derived.Deep.Slices
import Derived.Deep.Fields
import Derived.ChangeSame
import Derived.ChangeArms
import Derived.Lib.SmallJoins
import Derived.Test.YtgpadejkmpfafaaDoorRows
import Derived.Deep.DeepHandedRow
import Derived.Lib.LaidTab
/- frame.In.Table: a table is read. For every In. (Under way.) -/
namespace Go.Proofs.YtgpadejkmpfafaaDoor
open Go.RowKit

theorem info_col' : (Tryd.prog.info? 83).map (fun i => (i.zero, i.size, i.bytes)) = some (some (.agg #[.string ⟨#[]⟩, .int .i64 0]), 2, 24) := by kernel_rfl
theorem blk2 {w : World} {R : Nat} {a b : Value} {t : TypeId} (h : w.heap[R]? = some (.cells #[a, b] t (0, 0))) : w.cell? ⟨R, 0, none⟩ = some a ∧ w.cell? ⟨R, 1, none⟩ = some b ∧ w.frozen? ⟨R, 0, none⟩ = false ∧ w.frozen? ⟨R, 1, none⟩ = false ∧ R < w.heap.size :=
  ⟨cell_blk h rfl, cell_blk h rfl, by simp [World.frozen?, h], by simp [World.frozen?, h], lt_of_block h⟩
/-- what stands where so many columns were to be read -/
def CX (k : Nat) (l : List UInt8) (bad0 : Bool) (cs : List CD) (l' : List UInt8) (bad : Bool) : Prop :=
  (bad = true ∧ (bad0 = true ∨ rdCs k l = none)) ∨ (bad0 = false ∧ bad = false ∧ rdCs k l = some (cs, l'))
theorem CX.step {k : Nat} {l : List UInt8} {bad0 bad bad1 bad2 : Bool} {cs : List CD} {l' m1 m2 s : List UInt8} {t : Int} (h : CX k l bad0 cs l' bad) (h1 : RX (rdT l') bad s m1 bad1) (h2 : RX (rdI m1) bad1 t m2 bad2) : CX (k + 1) l bad0 (cs ++ [⟨S s, t⟩]) m2 bad2 := by
  have hun : rdCs (k + 1) l = match rdCs k l with | none => none | some (cs, m) => match rdT m with | none => none | some (s, m1) => match rdI m1 with | none => none | some (t, m2) => some (cs ++ [⟨S s, t⟩], m2) := rfl
  rcases h with ⟨rfl, h⟩ | ⟨rfl, rfl, h⟩
  · rcases h1 with ⟨rfl, _⟩ | ⟨e, _⟩
    · rcases h2 with ⟨rfl, _⟩ | ⟨e, _⟩
      · refine .inl ⟨rfl, ?_⟩
        rcases h with h | h
        · exact .inl h
        · right; rw [hun, h]
      · cases e
    · cases e
  · rcases h1 with ⟨rfl, h1⟩ | ⟨_, rfl, h1⟩
    · rcases h2 with ⟨rfl, _⟩ | ⟨e, _⟩
      · refine .inl ⟨rfl, .inr ?_⟩
        rcases h1 with h1 | h1
        · cases h1
        · rw [hun, h]; simp only [h1]
      · cases e
    · rcases h2 with ⟨rfl, h2⟩ | ⟨_, rfl, h2⟩
      · refine .inl ⟨rfl, .inr ?_⟩
        rcases h2 with h2 | h2
        · cases h2
        · rw [hun, h]; simp only [h1, h2]
      · exact .inr ⟨rfl, rfl, by rw [hun, h]; simp only [h1, h2]⟩
theorem RX.len {α : Type} {r : Option (α × List UInt8)} {bad bad' : Bool} {x : α} {l' : List UInt8} (h : RX r bad x l' bad') : bad' = false → r = some (x, l') := fun e => by
  rcases h with ⟨h, _⟩ | ⟨_, _, h⟩
  · rw [h] at e; cases e
  · exact h

/-- values of a row; rows: what stands where so many were to be read -/
def VX (k : Nat) (l : List UInt8) (bad0 : Bool) (vs : List VD) (l' : List UInt8) (bad : Bool) : Prop :=
  (bad = true ∧ (bad0 = true ∨ rdVs k l = none)) ∨ (bad0 = false ∧ bad = false ∧ rdVs k l = some (vs, l'))
def RSX (n k : Nat) (l : List UInt8) (bad0 : Bool) (rows : List (List VD)) (l' : List UInt8) (bad : Bool) : Prop :=
  (bad = true ∧ (bad0 = true ∨ rdRs n k l = none)) ∨ (bad0 = false ∧ bad = false ∧ rdRs n k l = some (rows, l'))
theorem VX.step {k : Nat} {l : List UInt8} {bad0 bad bad1 : Bool} {vs : List VD} {l' m1 : List UInt8} {v : VD} (h : VX k l bad0 vs l' bad) (h1 : RX (rdV l') bad v m1 bad1) : VX (k + 1) l bad0 (vs ++ [v]) m1 bad1 := by
  have hun : rdVs (k + 1) l = match rdVs k l with | none => none | some (vs, m) => match rdV m with | none => none | some (v, m1) => some (vs ++ [v], m1) := rfl
  rcases h with ⟨rfl, h⟩ | ⟨rfl, rfl, h⟩
  · rcases h1 with ⟨rfl, _⟩ | ⟨e, _⟩
    · refine .inl ⟨rfl, ?_⟩
      rcases h with h | h
      · exact .inl h
      · right; rw [hun, h]
    · cases e
  · rcases h1 with ⟨rfl, h1⟩ | ⟨_, rfl, h1⟩
    · refine .inl ⟨rfl, .inr ?_⟩
      rcases h1 with h1 | h1
      · cases h1
      · rw [hun, h]; simp only [h1]
    · exact .inr ⟨rfl, rfl, by rw [hun, h]; simp only [h1]⟩
theorem RSX.step {n k : Nat} {l : List UInt8} {bad0 bad bad1 : Bool} {rows : List (List VD)} {l' m1 : List UInt8} {r : List VD} (h : RSX n k l bad0 rows l' bad) (h1 : VX n l' bad r m1 bad1) : RSX n (k + 1) l bad0 (rows ++ [r]) m1 bad1 := by
  have hun : rdRs n (k + 1) l = match rdRs n k l with | none => none | some (rows, m) => match rdVs n m with | none => none | some (r, m1) => some (rows ++ [r], m1) := rfl
  rcases h with ⟨rfl, h⟩ | ⟨rfl, rfl, h⟩
  · rcases h1 with ⟨rfl, _⟩ | ⟨e, _⟩
    · refine .inl ⟨rfl, ?_⟩
      rcases h with h | h
      · exact .inl h
      · right; rw [hun, h]
    · cases e
  · rcases h1 with ⟨rfl, h1⟩ | ⟨_, rfl, h1⟩
    · refine .inl ⟨rfl, .inr ?_⟩
      rcases h1 with h1 | h1
      · cases h1
      · rw [hun, h]; simp only [h1]
    · exact .inr ⟨rfl, rfl, by rw [hun, h]; simp only [h1]⟩
theorem rdRs_mono {n k k' : Nat} {l : List UInt8} (h : rdRs n k l = none) (hk : k ≤ k') : rdRs n k' l = none := by
  induction hk with
  | refl => exact h
  | step _ ih => unfold rdRs; rw [ih]
/-- the outcome of In.Table -/
def TablePost (g : Nat) (A : Option Addr) (l : List UInt8) (bad0 : Bool) (w : World) (e : Ending) (w' : World) : Prop :=
  (e = .returned (.agg #[.slice none 0 0, .slice none 0 0]) ∧ (∃ l', InPost g A l' true w w') ∧ (bad0 = true ∨ rdTab l = none)) ∨
  (bad0 = false ∧ ∃ cs rows l' SA c1 B c2, rdTab l = some ((cs, rows), l') ∧ e = .returned (.agg #[.slice SA cs.length c1, .slice B rows.length c2]) ∧ ColsAt w' SA cs ∧ RowsAt w' B rows ∧ InPost g A l' false w w')
theorem tab_none {l l1 l2 l3 l4 : List UInt8} {bad0 bad1 bad2 bad3 bad4 : Bool} {N M k : Nat} {cs : List CD} {rows : List (List VD)} (h1 : RX (rdC 16 l) bad0 (N : Int) l1 bad1) (h2 : CX N l1 bad1 cs l2 bad2) (h3 : RX (rdC 4096 l2) bad2 (M : Int) l3 bad3) (h4 : RSX N k l3 bad3 rows l4 bad4)
    (hk : k ≤ M) (hb : bad4 = true) : bad0 = true ∨ rdTab l = none := by
  unfold rdTab
  rcases h1 with ⟨e1, h1⟩ | ⟨e0, e1, h1⟩
  · rcases h1 with h1 | h1
    · exact .inl h1
    · right; rw [h1]
  · right
    rw [h1]
    dsimp only
    rw [Int.toNat_natCast]
    rcases h2 with ⟨e2, h2⟩ | ⟨_, e2, h2⟩
    · rcases h2 with h2 | h2
      · rw [e1] at h2; cases h2
      · rw [h2]
    · rw [h2]
      dsimp only
      rcases h3 with ⟨e3, h3⟩ | ⟨_, e3, h3⟩
      · rcases h3 with h3 | h3
        · rw [e2] at h3; cases h3
        · rw [h3]
      · rw [h3]
        dsimp only
        rw [Int.toNat_natCast]
        rcases h4 with ⟨e4, h4⟩ | ⟨_, e4, h4⟩
        · rcases h4 with h4 | h4
          · rw [e3] at h4; cases h4
          · rw [rdRs_mono h4 hk]
        · rw [e4] at hb; cases hb
theorem tab_some {l l1 l2 l3 l4 : List UInt8} {bad0 bad1 bad2 bad3 : Bool} {N M : Nat} {cs : List CD} {rows : List (List VD)} (hl : l.length ≤ 140737000000000) (hN : N ≤ 16) (h1 : RX (rdC 16 l) bad0 (N : Int) l1 bad1) (h2 : CX N l1 bad1 cs l2 bad2) (h3 : RX (rdC 4096 l2) bad2 (M : Int) l3 bad3) (h4 : RSX N M l3 bad3 rows l4 false) :
    bad0 = false ∧ cs.length = N ∧ (∀ c ∈ cs, c.Ok) ∧ rows.length = M ∧ RowsOk rows ∧ rdTab l = if checkT cs rows = 0 then some ((cs, rows), l4) else none := by
  rcases h4 with ⟨e4, _⟩ | ⟨e3, _, h4⟩
  · cases e4
  rcases h3 with ⟨e, _⟩ | ⟨e2, _, h3⟩
  · rw [e3] at e; cases e
  rcases h2 with ⟨e, _⟩ | ⟨e1, _, h2⟩
  · rw [e2] at e; cases e
  rcases h1 with ⟨e, _⟩ | ⟨e0, _, h1⟩
  · rw [e1] at e; cases e
  have q1 := rdC_le h1
  have q2 := rdCs_ok h2 (by omega)
  have q3 := rdC_le h3
  have q4 := rdRs_ok h4 (by omega) (by omega)
  refine ⟨e0, q2.1, q2.2.1, q4.1, q4.2.1, ?_⟩
  unfold rdTab
  rw [h1]
  dsimp only
  rw [Int.toNat_natCast, h2]
  dsimp only
  rw [h3]
  dsimp only
  rw [Int.toNat_natCast, h4]
theorem tab_len {l l1 l2 l3 l4 : List UInt8} {bad0 bad1 bad2 bad3 : Bool} {N M k : Nat} {cs : List CD} {rows : List (List VD)} (hl : l.length ≤ 140737000000000) (hN : N ≤ 16) (h1 : RX (rdC 16 l) bad0 (N : Int) l1 bad1) (h2 : CX N l1 bad1 cs l2 bad2) (h3 : RX (rdC 4096 l2) bad2 (M : Int) l3 bad3) (h4 : RSX N k l3 bad3 rows l4 false) : l4.length ≤ 140737000000000 := by
  rcases h4 with ⟨e4, _⟩ | ⟨e3, _, h4⟩
  · cases e4
  rcases h3 with ⟨e, _⟩ | ⟨e2, _, h3⟩
  · rw [e3] at e; cases e
  rcases h2 with ⟨e, _⟩ | ⟨e1, _, h2⟩
  · rw [e2] at e; cases e
  rcases h1 with ⟨e, _⟩ | ⟨e0, _, h1⟩
  · rw [e1] at e; cases e
  have q1 := rdC_le h1
  have q2 := rdCs_ok h2 (by omega)
  have q3 := rdC_le h3
  have q4 := rdRs_ok h4 (by omega) (by omega)
  omega
theorem RXV_len {l l' : List UInt8} {bad bad' : Bool} {v : VD} (h : RX (rdV l) bad v l' bad') (hl : bad = false → l.length ≤ 140737000000000) : bad' = false → l'.length ≤ 140737000000000 := fun e => by
  rcases h with ⟨h, _⟩ | ⟨h1, _, h⟩
  · rw [h] at e; cases e
  · have := hl h1
    have := (rdV_ok h this).2
    omega
theorem out2 {X : World} {R : Nat} {a b : Value} (v0 v1 : Value) (h : X.heap[R]? = some (.cells #[a, b] 56 (0, 0))) :
    ((X.setCell ⟨R, 0, none⟩ v0).setCell ⟨R, 1, none⟩ v1).heap[R]? = some (.cells #[v0, v1] 56 (0, 0)) ∧ Touch [R] X ((X.setCell ⟨R, 0, none⟩ v0).setCell ⟨R, 1, none⟩ v1) :=
  ⟨set_blk (set_blk h 0 v0) 1 v1, ((Touch.refl [R] X).setCell (p := ⟨R, 0, none⟩) (.inl (by simp)) v0).setCell (p := ⟨R, 1, none⟩) (.inl (by simp)) v1⟩
theorem info_vval : (Tryd.prog.info? 59).map (fun i => (i.zero, i.size, i.bytes)) = some (some (.agg #[.int .i64 0, .int .i64 0, .string ⟨#[]⟩]), 3, 32) := by kernel_rfl
theorem info_rows : (Tryd.prog.info? 67).map (fun i => (i.zero, i.size, i.bytes)) = some (some (.slice none 0 0), 1, 24) := by kernel_rfl

set_option maxRecDepth 20000 in
set_option maxHeartbeats 6400000 in
theorem inTable_any (g : Nat) (A : Option Addr) (l : List UInt8) (bad0 : Bool) (w : World) (hi : InAt w g A l bad0) (hA : ∀ b ∈ fpo A, b < w.heap.size) (hsm : l.length ≤ 140737000000000) :
    Calls Tryd.prog 28 #[.pointer (some ⟨g, 0, none⟩)] w fun e w' => TablePost g A l bad0 w e w' := by
  have hgl : g < w.heap.size := by obtain ⟨c, hc, hg, hgl, _⟩ := hi.mk'; exact hgl
  have t0 := ((Touch.refl [] w).alloc (.cells #[.slice none 0 0, .slice none 0 0] 56)).alloc (.cells #[.slice none 0 0, .slice none 0 0] 56)
  have hbR := heap_alloc_new w (.cells #[.slice none 0 0, .slice none 0 0] 56)
  have hbT := heap_alloc_new (w.alloc (.cells #[.slice none 0 0, .slice none 0 0] 56)) (.cells #[.slice none 0 0, .slice none 0 0] 56)
  have hbR' := ((Touch.refl [] (w.alloc (.cells #[.slice none 0 0, .slice none 0 0] 56))).alloc (.cells #[.slice none 0 0, .slice none 0 0] 56)).blk hbR (by simp)
  rw [World.size_alloc] at hbT
  have hfpR : ∀ b ∈ [w.heap.size], w.heap.size ≤ b := fun b hb => by
    have : b = w.heap.size := by simpa using hb
    omega
  have hi0 := hi.touch t0 (by simp) (fun _ _ => by simp)
  have Hcnt := Lib.hid (inCount_x g A l bad0 16 (by omega) _ hi0)
  go_enter Tryd.func28, Tryd.ntmps28
  go_wp2_with fail
  refine Hcnt.out.mono ?_
  rintro e w1 ⟨n, l1, bad1, rfl, ⟨A1, hi1, ht1, hf1⟩, hx1, hn0, hn16⟩
  obtain ⟨N, rfl⟩ : ∃ N : Nat, n = (N : Int) := ⟨n.toNat, by omega⟩
  have hT1 := ht1.blk hbT (by simp; omega)
  have hR1 := ht1.blk hbR' (by simp; omega)
  have T1 : Touch [g] w w1 := (t0.mono (fp2 := [g]) (fun _ hb => by simp at hb)).up ht1
  have Hx1 := Lib.hid hx1
  clear hx1 hbR hbR' hbT hi0 Hcnt
  go_wp2
  go_loopw [8] (fun i wr => ∃ (k : Nat) (A' : Option Addr) (c' : Nat) (cs : List CD) (A2 : Option Addr) (l2 : List UInt8) (bad : Bool), k ≤ N ∧ i = .int .i64 k ∧ cs.length = k ∧
      wr.heap[w.heap.size + 1]? = some (.cells #[.slice A' k c', .slice none 0 0] 56 (0, 0)) ∧ wr.heap[w.heap.size]? = some (.cells #[.slice none 0 0, .slice none 0 0] 56 (0, 0)) ∧
      OwnK 83 2 cdE wr A' c' cs ∧ (∀ b ∈ fpo A', w.heap.size + 2 ≤ b) ∧ InAt wr g A2 l2 bad ∧ (∀ b ∈ fpo A2, b ∈ fpo A) ∧ Touch [g] w wr ∧ Hid (CX k l1 bad1 cs l2 bad)) (fun i _ => N - (intOf i).toNat)
  case atStart => exact ⟨0, none, 0, [], A1, l1, bad1, by omega, rfl, rfl, hT1, hR1, OwnK.nil _ _ _ _, by simp [fpo], hi1, hf1, T1, Lib.hid (by cases bad1; exact .inr ⟨rfl, rfl, rfl⟩; exact .inl ⟨rfl, .inl rfl⟩)⟩
  case round =>
    obtain ⟨k, A', c', cs, A2, l2, bad, hk, rfl, hlen, hT, hR, hown, hfresh, hin, hf2, ht, Hcx⟩ := hrel
    by_cases hlt : k < N
    · clear hT1 hR1 T1 hi1 hf1 ht1
      have hwsz := ht.size
      have Hlen := Lib.hid hlen
      clear hlen
      go_wp2_with fail
      refine (inText_x g A2 l2 bad wr hin).mono ?_
      rintro e w2 ⟨s, m1, bad2, rfl, ⟨A3, hi3, ht3, hf3⟩, hx3⟩
      have hT2 := ht3.blk hT (by simp; omega)
      have hR2 := ht3.blk hR (by simp; omega)
      have own2 := hown.touch ht3 (fun b hb => by have := hfresh b hb; simp; omega)
      have hl2 := lt_of_block hT2
      have tbx := (Touch.refl [] w2).alloc (.cells #[.string (S s), .int .i64 0] 83)
      have hbx := heap_alloc_new w2 (.cells #[.string (S s), .int .i64 0] 83)
      have hi3x := hi3.touch tbx (by simp) (fun _ _ => by simp)
      have T3 := (ht.up ht3).up0 tbx
      go_wp2_with fail
      refine (inInt_x g A3 m1 bad2 _ hi3x).mono ?_
      rintro e w4 ⟨nn, m2, bad4, rfl, ⟨A4, hi4, ht4, hf4⟩, hx4, hnn⟩
      have hT4 := ht4.blk (tbx.blk hT2 (by simp)) (by simp; omega)
      have hR4 := ht4.blk (tbx.blk hR2 (by simp)) (by simp; omega)
      have hbx4 := ht4.blk hbx (by simp; omega)
      have own4 := (own2.touch0 tbx).touch ht4 (fun b hb => by have := hfresh b hb; simp; omega)
      obtain ⟨d0, d1, fr0, fr1, hl4⟩ := blk2 hT4
      obtain ⟨x0, x1, y0, y1, hxl⟩ := blk2 hbx4
      have T4 := T3.up ht4
      have ne1 : (w2.heap.size = w.heap.size + 1) = False := eq_false (by omega)
      have ne2 : (w.heap.size + 1 = w2.heap.size) = False := eq_false (by omega)
      have hbne : ∀ b ∈ fpo A', b < w2.heap.size := own2.lt
      have t5 := ((Touch.refl [w2.heap.size] w4).setCell (p := ⟨w2.heap.size, 1, none⟩) (.inl (by simp)) (.int .i64 nn))
      have own5 := (own4.touch t5 (fun b hb => by have := hbne b hb; simp; omega))
      have t6 := (Touch.refl [] (w4.setCell ⟨w2.heap.size, 1, none⟩ (.int .i64 nn))).alloc (.cells #[.string (S s), .int .i64 nn] 83)
      have own6 := own5.touch0 t6
      go_wp2_with (at_builtin; refine stop ?_)
      refine go ?_
      have hA4 : ∀ b ∈ fpo A4, b ∈ fpo A := fun b hb => hf2 b (hf3 b (hf4 b hb))
      have e4 : (w4.setCell ⟨w2.heap.size, 1, none⟩ (.int .i64 nn)).heap.size = w4.heap.size := by simp [World.setCell]
      refine wpList_appK rfl (.tmp 17) (.tmp 19) 53 rfl 83 _ 2 24 info_col' Tryd.underlying53 rfl (by omega) cdE_length cdE_one A' k c' cs Hlen.out rfl own6
        (some ⟨w4.heap.size, 0, none⟩) 1 1 [⟨S s, nn⟩] rfl rfl (by have := RdK.one (enc := cdE) (w4.setCell ⟨w2.heap.size, 1, none⟩ (.int .i64 nn)) 83 ⟨S s, nn⟩ #[.string (S s), .int .i64 nn] rfl; rwa [e4] at this) (by omega) (by omega) ?_
      intro A5 c5 w5 hown5 ht5 hf5
      have hsz6 := t6.size
      rw [e4] at hsz6
      have hT5 := ht5.blk (t6.blk (t5.blk hT4 (by simp; omega)) (by simp)) (fun hm => by have := hfresh _ hm; omega)
      have hR5 := ht5.blk (t6.blk (t5.blk hR4 (by simp; omega)) (by simp)) (fun hm => by have := hfresh _ hm; omega)
      have hi5 := ((hi4.touch t5 (by simp; omega) (fun b hb => by have := hA b (hA4 b hb); simp; omega)).touch t6 (by simp) (fun _ _ => by simp)).touch ht5 (fun hm => by have := hfresh _ hm; omega) (fun b hb hm => by have := hA b (hA4 b hb); have := hfresh b hm; omega)
      have T5 := ((T4.trans t5 (fun b hb => .inr (by have : b = w2.heap.size := by simpa using hb
                                                     omega))).up0 t6).trans ht5 (fun b hb => .inr (by have := hfresh b hb; omega))
      have fresh5 : ∀ b ∈ fpo A5, w.heap.size + 2 ≤ b := fun b hb => by
        rcases hf5 b hb with e | e
        · exact hfresh b e
        · omega
      clear d0 d1 fr0 fr1 hl4
      obtain ⟨d0, d1, fr0, fr1, hl5⟩ := blk2 hT5
      have t7 := (Touch.refl [w.heap.size + 1] w5).setCell (p := ⟨w.heap.size + 1, 0, none⟩) (.inl (by simp)) (.slice A5 (k + 1) c5)
      go_wp2
      go_roundw
      case rel => exact ⟨k + 1, A5, c5, cs ++ [⟨S s, nn⟩], A4, m2, bad4, by omega, by go_num, by rw [List.length_append, Hlen.out]; rfl, set_blk hT5 0 _, t7.blk hR5 (by simp),
          hown5.touch t7 (fun b hb => by have := fresh5 b hb; simp; omega), fresh5, hi5.touch t7 (by simp; omega) (fun b hb => by have := hA b (hA4 b hb); simp; omega), hA4,
          T5.setCell (p := ⟨w.heap.size + 1, 0, none⟩) (.inr (by simp)) _, Lib.hid (Hcx.out.step hx3 hx4)⟩
      case measure => simp [intOf]; omega
    · obtain rfl : k = N := by omega
      clear hT1 hR1 T1 hi1 hf1 ht1
      have hwsz := ht.size
      have Hlen := Lib.hid hlen
      clear hlen
      go_wp2_with fail
      refine (inCount_x g A2 l2 bad 4096 (by omega) wr hin).mono ?_
      rintro e w2 ⟨mm, l3, bad3, rfl, ⟨A3, hi3, ht3, hf3⟩, hx3, hm0, hmx⟩
      obtain ⟨M, rfl⟩ : ∃ M : Nat, mm = (M : Int) := ⟨mm.toNat, by omega⟩
      have hT2 := ht3.blk hT (by simp; omega)
      have hR2 := ht3.blk hR (by simp; omega)
      have own2 := hown.touch ht3 (fun b hb => by have := hfresh b hb; simp; omega)
      have T2 := ht.up ht3
      have hA3 : ∀ b ∈ fpo A3, b ∈ fpo A := fun b hb => hf2 b (hf3 b hb)
      have Hx3 := Lib.hid hx3
      clear hx3 hin hT hR hown ht ht3 hf3
      go_wp2
      go_loopw [25] (fun i wr2 => ∃ (q : Nat) (B : Option Addr) (cB : Nat) (rows : List (List VD)) (A6 : Option Addr) (l6 : List UInt8) (bad6 : Bool), q ≤ M ∧ i = .int .i64 q ∧ rows.length = q ∧
          wr2.heap[w.heap.size + 1]? = some (.cells #[.slice A' k c', .slice B q cB] 56 (0, 0)) ∧ wr2.heap[w.heap.size]? = some (.cells #[.slice none 0 0, .slice none 0 0] 56 (0, 0)) ∧
          OwnK 83 2 cdE wr2 A' c' cs ∧ OwnR 67 (w.heap.size + 2) wr2 B cB rows ∧ (∀ b ∈ fpo B, w.heap.size + 2 ≤ b) ∧ (∀ b ∈ fpo B, b ∉ fpo A') ∧ InAt wr2 g A6 l6 bad6 ∧ (∀ b ∈ fpo A6, b ∈ fpo A) ∧ Touch [g] w wr2 ∧ Hid (RSX k q l3 bad3 rows l6 bad6)) (fun i _ => M - (intOf i).toNat)
      case atStart => exact ⟨0, none, 0, [], A3, l3, bad3, by omega, rfl, rfl, hT2, hR2, own2, OwnR.nil _ _ _, by simp [fpo], by simp [fpo], hi3, hA3, T2, Lib.hid (by cases bad3; exact .inr ⟨rfl, rfl, rfl⟩; exact .inl ⟨rfl, .inl rfl⟩)⟩
      case round =>
        obtain ⟨q, B, cB, rows, A6, l6, bad6, hq, rfl, hrl, hT, hR, hown, hownR, hBf, hBA, hin, hA6, ht, Hrs⟩ := hrel
        clear hT2 hR2 own2 T2 hi3 hA3
        have hwsz2 := ht.size
        by_cases hltq : q < M
        · obtain ⟨d0, d1, fr0, fr1, hlT⟩ := blk2 hT
          have hl6 := fun e : bad6 = false => tab_len hsm (by omega) Hx1.out Hcx.out Hx3.out (by have := Hrs.out; rwa [e] at this)
          have Hrl := Lib.hid hrl
          clear hrl
          go_wp2
          clear d0 d1 fr0 fr1
          go_loopw [5, 30] (fun v i w3 => ∃ (j : Nat) (C : Option Addr) (cC : Nat) (vs : List VD) (A7 : Option Addr) (l7 : List UInt8) (bad7 : Bool), j ≤ k ∧ i = .int .i64 j ∧ v = .slice C j cC ∧ vs.length = j ∧
              OwnK 59 3 vdE w3 C cC vs ∧ (∀ b ∈ fpo C, wr.heap.size ≤ b) ∧ InAt w3 g A7 l7 bad7 ∧ (∀ b ∈ fpo A7, b ∈ fpo A) ∧ Touch [g] wr w3 ∧ Hid (bad7 = false → l7.length ≤ 140737000000000) ∧ Hid (VX j l6 bad6 vs l7 bad7)) (fun _ i _ => k - (intOf i).toNat)
          case atStart => exact ⟨0, none, 0, [], A6, l6, bad6, by omega, rfl, rfl, rfl, OwnK.nil _ _ _ _, by simp [fpo], hin, hA6, Touch.refl _ _, Lib.hid hl6, Lib.hid (by cases bad6; exact .inr ⟨rfl, rfl, rfl⟩; exact .inl ⟨rfl, .inl rfl⟩)⟩
          case round =>
            obtain ⟨j, C, cC, vs, A7, l7, bad7, hj, rfl, rfl, hvl, hownC, hCf, hin7, hA7, ht7, Hl7, Hvx⟩ := hrel
            have hwsz3 := ht7.size
            have Hvl := Lib.hid hvl
            clear hvl
            by_cases hltj : j < k
            · go_wp2_with fail
              refine (inValue_x g A7 l7 bad7 _ hin7 (fun b hb => by have := hA b (hA7 b hb); omega) Hl7.out).mono ?_
              rintro e w8 ⟨v, m1, bad8, rfl, ⟨A8, hi8, ht8, hf8⟩, hx8⟩
              obtain ⟨k1, n1, s1⟩ := v
              dsimp only [VD.val]
              have Hx8 := Lib.hid hx8
              clear hx8
              have own8 := hownC.touch ht8 (fun b hb => by have := hCf b hb; simp; omega)
              have t9 := (Touch.refl [] w8).alloc (.cells #[.int .i64 k1, .int .i64 n1, .string s1] 59)
              have hsz8 := ht8.size
              have hsz9 := t9.size
              go_wp2_with (at_builtin; refine stop ?_)
              refine go ?_
              refine wpList_appK rfl (.tmp 32) (.tmp 35) 67 rfl 59 _ 3 32 info_vval Tryd.underlying67 rfl (by omega) vdE_length vdE_one C j cC vs Hvl.out rfl (own8.touch0 t9)
                (some ⟨w8.heap.size, 0, none⟩) 1 1 [⟨k1, n1, s1⟩] rfl rfl (RdK.one (enc := vdE) w8 59 ⟨k1, n1, s1⟩ #[.int .i64 k1, .int .i64 n1, .string s1] rfl) (by omega) (by omega) ?_
              intro C5 cC5 w9 hown9 ht9 hf9
              have hA8 : ∀ b ∈ fpo A8, b ∈ fpo A := fun b hb => hA7 b (hf8 b hb)
              have hi9 := (hi8.touch t9 (by simp) (fun _ _ => by simp)).touch ht9 (fun hm => by have := hCf _ hm; omega) (fun b hb hm => by have := hA b (hA8 b hb); have := hCf b hm; omega)
              have T9 := ((ht7.up ht8).up0 t9).trans ht9 (fun b hb => .inr (hCf b hb))
              go_wp2
              go_roundw
              case rel => exact ⟨j + 1, C5, cC5, vs ++ [⟨k1, n1, s1⟩], A8, m1, bad8, by omega, by go_num, rfl, by rw [List.length_append, Hvl.out]; rfl, hown9, fun b hb => by
                  rcases hf9 b hb with e | e
                  · exact hCf b e
                  · omega, hi9, hA8, T9, Lib.hid (RXV_len Hx8.out Hl7.out), Lib.hid (Hvx.out.step Hx8.out)⟩
              case measure => simp [intOf]; omega
            · obtain rfl : j = k := by omega
              have hT3 := ht7.blk hT (by simp; omega)
              have hR3 := ht7.blk hR (by simp; omega)
              have T3 := ht.up ht7
              have Hrs3 := Lib.hid (Hrs.out.step Hvx.out)
              have hne : (w.heap.size = g) = False := eq_false (by omega)
              have hne' : (g = w.heap.size) = False := eq_false (by omega)
              cases bad7
              · have hvals : ValsAt wr C vs := hownC.rd
                have own3 := hown.touch ht7 (fun b hb => by have := hfresh b hb; simp; omega)
                have ownR3 := hownR.touch ht7 (fun b hb => by
                  have : b = g := by simpa using hb
                  omega) hBf
                obtain ⟨c7, hc7, hg7, hgl7, hc07, hc17, hfr7, hfr17⟩ := hin7.mk'
                obtain ⟨d0, d1, fr0, fr1, hl3⟩ := blk2 hT3
                have ta := (Touch.refl [] wr).alloc (.cells #[.slice C j cC] 67)
                go_wp2_with (at_builtin; refine stop ?_)
                refine go ?_
                refine wpList_appR rfl (.tmp 43) (.tmp 45) 54 rfl 67 info_rows Tryd.underlying54 (w.heap.size + 2) B q cB rows Hrl.out rfl ownR3 C cC vs hvals
                  (fun b hb => ⟨fun hm => by have := hownR.lt b hm; have := hCf b hb; omega, hownC.lt b hb, by have := hCf b hb; omega⟩) 1 rfl (by omega) (by rw [Hvl.out]) ?_
                intro B5 cB5 w9 hown9 ht9 hf9
                have hT9 := ht9.blk (ta.blk hT3 (by simp)) (fun hm => by have := hBf _ hm; omega)
                have hR9 := ht9.blk (ta.blk hR3 (by simp)) (fun hm => by have := hBf _ hm; omega)
                have own9 := (own3.touch0 ta).touch ht9 (fun b hb hm => hBA b hm hb)
                have hi9 := (hin7.touch ta (by simp) (fun _ _ => by simp)).touch ht9 (fun hm => by have := hBf _ hm; omega) (fun b hb hm => by have := hA b (hA7 b hb); have := hBf b hm; omega)
                have T9 := (T3.up0 ta).trans ht9 (fun b hb => .inr (by have := hBf b hb; omega))
                have fresh9 : ∀ b ∈ fpo B5, w.heap.size + 2 ≤ b := fun b hb => by
                  rcases hf9 b hb with e | e
                  · exact hBf b e
                  · omega
                have notA9 : ∀ b ∈ fpo B5, b ∉ fpo A' := fun b hb hm => by
                  rcases hf9 b hb with e | e
                  · exact hBA b e hm
                  · have := hown.lt b hm; omega
                clear d0 d1 fr0 fr1 hl3
                obtain ⟨d0, d1, fr0, fr1, hl9⟩ := blk2 hT9
                have t10 := (Touch.refl [w.heap.size + 1] w9).setCell (p := ⟨w.heap.size + 1, 1, none⟩) (.inl (by simp)) (.slice B5 (q + 1) cB5)
                go_wp2
                go_roundw
                case rel => exact ⟨q + 1, B5, cB5, rows ++ [vs], A7, l7, false, by omega, by go_num, by rw [List.length_append, Hrl.out]; rfl, set_blk hT9 1 _, t10.blk hR9 (by simp),
                    own9.touch t10 (fun b hb => by have := hfresh b hb; simp; omega), hown9.touch t10 (fun b hb => by
                      have : b = w.heap.size + 1 := by simpa using hb
                      omega) fresh9, fresh9, notA9, hi9.touch t10 (by simp; omega) (fun b hb => by have := hA b (hA7 b hb); simp; omega), hA7,
                    T9.setCell (p := ⟨w.heap.size + 1, 1, none⟩) (.inr (by simp)) _, Hrs3⟩
                case measure => simp [intOf]; omega
              · skip
                obtain ⟨c6, hc6, hg6, hgl6, hc06, hc16, hfr6, hfr16⟩ := hin7.mk'
                obtain ⟨e0, e1, er0, er1, hlR⟩ := blk2 hR3
                have Hno := Lib.hid (tab_none Hx1.out Hcx.out Hx3.out Hrs3.out (by omega) rfl)
                go_wp2_with fail
                obtain ⟨q1, q2⟩ := out2 (.slice none 0 0) (.slice none 0 0) (((Touch.refl [g] wr).setCell (p := ⟨g, 1, none⟩) (.inl (by simp)) (.bool true)).blk hR3 (by simp; omega))
                (try simp only [Exit.inBlock, Exit.then])
                refine bodyPost_ret (results_cell_row rfl _ _ w.heap.size _ _ _ _ rfl q1 Tryd.underlying56 rfl rfl) rfl ?_
                exact .inl ⟨rfl, ⟨_, In_fin hgl hA hA7 (T3.setCell (p := ⟨g, 1, none⟩) (.inl (by simp)) (.bool true)) hin7.spoilt [w.heap.size] q2 hfpR⟩, Hno.out⟩
        · obtain rfl : q = M := by omega
          have hne : (w.heap.size = g) = False := eq_false (by omega)
          have hne' : (g = w.heap.size) = False := eq_false (by omega)
          cases bad6
          · obtain ⟨h0, hcl, hcok, hrl2, hrok, htab⟩ := tab_some hsm (by omega) Hx1.out Hcx.out Hx3.out Hrs.out
            have Hck := Lib.hid (checkT_any A' c' k cs Hlen.out hcok B cB q rows hrl hrok wr hown.rd hownR.rowsAt (by omega) (by omega))
            have Htab := Lib.hid htab
            have Hrl := Lib.hid hrl
            have H0 := Lib.hid h0
            obtain ⟨c7, hc7, hg7, hgl7, hc07, hc17, hfr7, hfr17⟩ := hin.mk'
            obtain ⟨d0, d1, fr0, fr1, hlT⟩ := blk2 hT
            clear h0 hcl hcok hrl2 hrok htab hrl
            by_cases hk0 : checkT cs rows = 0
            · rw [hk0] at Hck
              have Hsome := Lib.hid (show rdTab l = some ((cs, rows), l6) by rw [Htab.out, if_pos hk0])
              clear hk0
              go_wp2_with fail
              refine Hck.out.mono ?_
              rintro e w7 ⟨rfl, t7⟩
              have hT7 := t7.blk hT (by simp)
              have hR7 := t7.blk hR (by simp)
              have hi7 := hin.touch t7 (by simp) (fun _ _ => by simp)
              clear d0 d1 fr0 fr1 hc07 hc17 hfr7 hfr17
              obtain ⟨d0, d1, fr0, fr1, hlT7⟩ := blk2 hT7
              obtain ⟨e0, e1, er0, er1, hlR7⟩ := blk2 hR7
              go_wp2_with fail
              obtain ⟨q1, q2⟩ := out2 (.slice A' k c') (.slice B q cB) hR7
              (try simp only [Exit.inBlock, Exit.then])
              refine bodyPost_ret (results_cell_row rfl _ _ w.heap.size _ _ _ _ rfl q1 Tryd.underlying56 rfl rfl) rfl ?_
              have hcT : ColsAt _ A' cs := RdK.touch (RdK.touch0 hown.rd t7) q2 (fun b hb => by have := hfresh b hb; simp; omega)
              have hrT := ((hownR.touch0 t7).touch q2 (fun b hb => by
                have : b = w.heap.size := by simpa using hb
                omega) hBf).rowsAt
              exact .inr ⟨H0.out, cs, rows, l6, A', c', B, cB, Hsome.out, by rw [Hlen.out, Hrl.out], hcT, hrT, In_fin hgl hA hA6 (ht.up0 t7) hi7 [w.heap.size] q2 hfpR⟩
            · have Hnone := Lib.hid (show rdTab l = none by rw [Htab.out, if_neg hk0])
              obtain ⟨kk, hkk⟩ : ∃ kk, kk = checkT cs rows := ⟨_, rfl⟩
              rw [← hkk] at Hck hk0
              have hq0 : (kk == 0) = false := by rw [beq_eq_false_iff_ne]; exact hk0
              have hq1 : (kk != 0) = true := by rw [bne, hq0]; rfl
              clear hkk
              go_wp2_with fail
              refine Hck.out.mono ?_
              rintro e w7 ⟨rfl, t7⟩
              have hR7 := t7.blk hR (by simp)
              have hi7 := hin.touch t7 (by simp) (fun _ _ => by simp)
              clear d0 d1 fr0 fr1 hc07 hc17 hfr7 hfr17
              obtain ⟨c8, hc8, hg8, hgl8, hc08, hc18, hfr8, hfr18⟩ := hi7.mk'
              obtain ⟨e0, e1, er0, er1, hlR7⟩ := blk2 hR7
              go_wp2_with fail
              obtain ⟨q1, q2⟩ := out2 (.slice none 0 0) (.slice none 0 0) (((Touch.refl [g] w7).setCell (p := ⟨g, 1, none⟩) (.inl (by simp)) (.bool true)).blk hR7 (by simp; omega))
              (try simp only [Exit.inBlock, Exit.then])
              refine bodyPost_ret (results_cell_row rfl _ _ w.heap.size _ _ _ _ rfl q1 Tryd.underlying56 rfl rfl) rfl ?_
              exact .inl ⟨rfl, ⟨_, In_fin hgl hA hA6 ((ht.up0 t7).setCell (p := ⟨g, 1, none⟩) (.inl (by simp)) (.bool true)) hi7.spoilt [w.heap.size] q2 hfpR⟩, .inr Hnone.out⟩
          · skip
            obtain ⟨c6, hc6, hg6, hgl6, hc06, hc16, hfr6, hfr16⟩ := hin.mk'
            obtain ⟨e0, e1, er0, er1, hlR⟩ := blk2 hR
            have Hno := Lib.hid (tab_none Hx1.out Hcx.out Hx3.out Hrs.out (Nat.le_refl _) rfl)
            go_wp2_with fail
            obtain ⟨q1, q2⟩ := out2 (.slice none 0 0) (.slice none 0 0) (((Touch.refl [g] wr).setCell (p := ⟨g, 1, none⟩) (.inl (by simp)) (.bool true)).blk hR (by simp; omega))
            (try simp only [Exit.inBlock, Exit.then])
            refine bodyPost_ret (results_cell_row rfl _ _ w.heap.size _ _ _ _ rfl q1 Tryd.underlying56 rfl rfl) rfl ?_
            exact .inl ⟨rfl, ⟨_, In_fin hgl hA hA6 (ht.setCell (p := ⟨g, 1, none⟩) (.inl (by simp)) (.bool true)) hin.spoilt [w.heap.size] q2 hfpR⟩, Hno.out⟩
end Go.Proofs.YtgpadejkmpfafaaDoor

/- frame.NewIn: where the bytes of what it makes lie. For every slice of bytes. -/
namespace Go.Proofs.YtgpadejkmpfafaaDoor
open Go.RowKit

set_option maxHeartbeats 400000 in
theorem newIn2_any (A : Option Addr) (n c : Nat) (l : List UInt8) (hn : l.length = n) (hl : n ≤ 140737488000000) (w : World) (h : RdB w A l) :
    Calls Tryd.prog 17 #[.slice A n c] w fun e w' => ∃ g A', e = .returned (.pointer (some ⟨g, 0, none⟩)) ∧ InAt w' g A' l false ∧ Touch [] w w' ∧ w.heap.size ≤ g ∧ ∀ b ∈ fpo A', w.heap.size ≤ b ∧ b < w'.heap.size := by
  subst hn
  go_enter Tryd.func17, Tryd.ntmps17
  go_wp2_with (go_at_call 40; refine (clone_any A c l w h hl).mono ?_; rintro e w1 ⟨A1, c1, rfl, h1⟩)
  obtain ⟨hown1, ht1, hf1⟩ := h1
  go_ret
  exact ⟨w1.heap.size, A1, rfl, ⟨⟨c1, hown1.le, heap_alloc_new w1 _⟩, hown1.rd.touch0 ((Touch.refl [] w1).alloc _), fun hm => by have := hown1.lt _ hm; omega, hl⟩, ht1.alloc _, ht1.size, fun b hb => ⟨hf1 b hb, by have := hown1.lt b hb; simp; omega⟩⟩
end Go.Proofs.YtgpadejkmpfafaaDoor

/- A region that draws its order, walked by hand under a condition on the world that may change on the way. No program's function. -/
namespace Go.Proofs.YtgpadejkmpfafaaDoor
open Go.RowKit

section
variable {P : Program} {ops : Array Oper} {Q : Exit → Act → World → Prop} {md : Region.Mode} {S S' : World → Prop}
/-- a walk that holds more holds less -/
theorem wpAnyH_weak (hS : ∀ w, S w → S' w) : ∀ (fuel : Nat) (listed : Array Bool) (a : Act) (w : World), wpAnyH P md ops Q S fuel listed a w → wpAnyH P md ops Q S' fuel listed a w
  | 0, _, _, _, h => h
  | fuel + 1, _, _, _, h => ⟨h.1, fun i hi => wpOp_mono (fun a' w' h' => ⟨hS w' h'.1, wpAnyH_weak hS fuel _ a' w' h'.2⟩) (h.2 i hi)⟩
/-- 'wpAnyH_take', the operation's temporary told by its number -/
theorem take_d {i d : Nat} {oi : Oper} {v : Value} {fuel : Nat} {listed : Array Bool} {a : Act} {w : World} (hi : ops[i]? = some oi) (hd : oi.dst = some d)
    (hs : Region.noSelect ops = true) (hf : Region.free md ops listed i = true) (hr : (Region.ready md ops listed).contains i = true)
    (hQ : ∀ c a w, Q (.panic c) (a.put oi.dst v) w → Q (.panic c) a w) (hy : YieldsIf P ops S oi v a) (hS : S w)
    (h : wpAnyH P md ops Q S fuel (listed.setIfInBounds i true) (a.put (some d) v) w) : wpAnyH P md ops Q S (fuel + 1) listed a w :=
  wpAnyH_take hi hs hf hr hQ hy hS (by rw [hd]; exact h)
end
end Go.Proofs.YtgpadejkmpfafaaDoor

/- bywashlaw07.FrameTables: the walk of the law. For every slice of values and every table; the half bytes' table as the program's text lays it. -/
namespace Go.Proofs.YtgpadejkmpfafaaDoor
open Go.RowKit
attribute [local go_sem ↓] Go.wp_at_zero Go.wp_at_succ

def encVs (l : List VD) : List UInt8 := l.flatMap encV
theorem encVs_snoc (l : List VD) (k : Nat) (h : k < l.length) : encVs (l.take (k + 1)) = encVs (l.take k) ++ encV l[k] := by
  unfold encVs
  rw [List.take_succ_eq_append_getElem h, List.flatMap_append]; simp
theorem encVs_drop (l : List VD) (k : Nat) (h : k < l.length) : encVs (l.drop k) = encV l[k] ++ encVs (l.drop (k + 1)) := by
  unfold encVs
  rw [List.drop_eq_getElem_cons h]; rfl
theorem encVs_drop_len (l : List VD) (k : Nat) : (encVs (l.drop k)).length ≤ (encVs l).length := by
  have h : encVs l = encVs (l.take k) ++ encVs (l.drop k) := by
    unfold encVs
    rw [← List.flatMap_append, List.take_append_drop]
  rw [h, List.length_append]
  omega
theorem table_back {g n m : Nat} {A : Option Addr} {l r : List UInt8} {cs : List CD} {rows : List (List VD)} {w w' : World} {e : Ending} (h : TablePost g A l false w e w') (hr : rdTab l = some ((cs, rows), r)) (hn : cs.length = n) (hm : rows.length = m) :
    ∃ SA d1 SB d2, e = .returned (.agg #[.slice SA n d1, .slice SB m d2]) ∧ ColsAt w' SA cs ∧ RowsAt w' SB rows ∧ InPost g A r false w w' := by
  subst hn hm
  rcases h with ⟨_, _, h1 | h1⟩ | ⟨_, cs', rows', l', SA, d1, SB, d2, h1, rfl, hC, hR, hp⟩
  · cases h1
  · rw [hr] at h1; cases h1
  · rw [hr] at h1
    cases h1
    exact ⟨SA, d1, SB, d2, rfl, hC, hR, hp⟩

set_option maxRecDepth 100000 in
set_option maxHeartbeats 6400000 in
theorem tables_law (L : Option Addr) (cl nl : Nat) (vs : List VD) (hvn : vs.length = nl) (hvok : ∀ v ∈ vs, v.Ok 9223372036854775807) (hl : nl ≤ 9223372036854775807)
    (A B : Option Addr) (c1 c2 n m : Nat) (cs : List CD) (rows : List (List VD)) (hn : cs.length = n) (hm : rows.length = m) (hc : n ≤ 9223372036854775807 ∧ ∀ c ∈ cs, c.name.size ≤ 9223372036854775807 ∧ -9223372036854775808 ≤ c.typ ∧ c.typ ≤ 9223372036854775807)
    (hr : m ≤ 9223372036854775807 ∧ ∀ r ∈ rows, r.length ≤ 9223372036854775807 ∧ ∀ v ∈ r, v.Ok 9223372036854775807) (w : World) (hv : ValsAt w L vs) (h : ColsAt w A cs) (h2 : RowsAt w B rows) (hh : HalfAt w) :
    Calls Tryd.prog 8 #[.slice L nl cl, .agg #[.slice A n c1, .slice B m c2]] w fun e w' => e = .returned (.bool true) ∧ Touch [] w w' := by
  subst hvn
  have Haw := Lib.hid fun w' (t : Touch [] w w') => awake_any w' (hh.touch t (by simp))
  have t0 := (Touch.refl [] w).alloc (.cells #[.slice A n c1, .slice B m c2] 56)
  have hbx := heap_alloc_new w (.cells #[.slice A n c1, .slice B m c2] 56)
  have hsz0 : (w.alloc (.cells #[.slice A n c1, .slice B m c2] 56)).heap.size = w.heap.size + 1 := by simp
  by_cases h40 : 40 < vs.length
  · clear hbx hsz0
    go_enter Tryd.func8, Tryd.ntmps8
    go_wp2_with fail
    refine (Haw.out _ t0).mono ?_
    rintro e w1 ⟨rfl, t1⟩
    go_wp2
    go_ret
    exact ⟨rfl, t0.trans0 t1⟩
  have hS := smallTable_any A B c1 c2 n m cs rows hn hm hc hr _ (h.touch0 t0) (h2.touch0 t0)
  rcases hs : smallT cs rows with _ | _
  · rw [hs] at hS
    have HS := Lib.hid hS
    clear hS hbx hsz0
    go_enter Tryd.func8, Tryd.ntmps8
    go_wp2_with fail
    refine HS.out.mono ?_
    rintro e w1 ⟨rfl, t1⟩
    have T1 := t0.trans0 t1
    go_wp2_with fail
    refine (Haw.out _ T1).mono ?_
    rintro e w2 ⟨rfl, t2⟩
    go_wp2
    go_ret
    exact ⟨rfl, T1.trans0 t2⟩
  rw [hs] at hS
  have HS := Lib.hid hS
  obtain ⟨sm1, sm2, sm3, sm4⟩ := smallT_true hs
  rw [hn] at sm3
  rw [hm] at sm4
  have hrok : RowsOk rows := fun r hrm => ⟨by have := (sm2 r hrm).1; omega, fun v hvm => ⟨((hr.2 r hrm).2 v hvm).k, ((hr.2 r hrm).2 v hvm).n, by have := (sm2 r hrm).2 v hvm; omega⟩⟩
  have hcok : ∀ c ∈ cs, c.Ok ∧ c.name.size ≤ 1000 := fun c hcm => ⟨⟨by have := sm1 c hcm; omega, (hc.2 c hcm).2⟩, by have := sm1 c hcm; omega⟩
  have hC := Lib.hid fun w' (t : Touch [] w w') => checkT_any A c1 n cs hn (fun c hcm => (hcok c hcm).1) B c2 m rows hm hrok w' (h.touch0 t) (h2.touch0 t) (by omega) (by omega)
  clear hS hs
  rcases Decidable.em (checkT cs rows = 0) with hk0 | hk0
  rotate_left
  · obtain ⟨kk, hkk⟩ : ∃ kk, kk = checkT cs rows := ⟨_, rfl⟩
    rw [← hkk] at hC hk0
    have hq0 : (kk == 0) = false := by rw [beq_eq_false_iff_ne]; exact hk0
    have hq1 : (kk != 0) = true := by rw [bne, hq0]; rfl
    have B0 := t0
    have x0 := cell_blk hbx (i := 0) rfl
    have x1 := cell_blk hbx (i := 1) rfl
    clear hbx hsz0 hkk
    go_enter Tryd.func8, Tryd.ntmps8
    go_wp2_with fail
    refine HS.out.mono ?_
    rintro e w1 ⟨rfl, t1⟩
    have T1 := t0.trans0 t1
    have y0 := t1.cell x0 (by simp)
    have y1 := t1.cell x1 (by simp)
    go_wp2_with fail
    refine (hC.out _ T1).mono ?_
    rintro e w2 ⟨rfl, t2⟩
    have T2 := T1.trans0 t2
    go_wp2_with fail
    refine (Haw.out _ T2).mono ?_
    rintro e w3 ⟨rfl, t3⟩
    go_wp2
    go_ret
    exact ⟨rfl, T2.trans0 t3⟩
  rw [hk0] at hC
  have Hk0 := Lib.hid hk0
  have hr2 : m ≤ 4096 ∧ ∀ r ∈ rows, r.length ≤ 20 ∧ ∀ v ∈ r, v.Ok 140737000000000 ∧ v.text.size ≤ 1000 := ⟨by omega, fun r hrm => ⟨(sm2 r hrm).1, fun v hvm => ⟨(hrok r hrm).2 v hvm, by have := (sm2 r hrm).2 v hvm; omega⟩⟩⟩
  have Hb := Lib.hid fun w' (t : Touch [] w w') => tableBytes_any A B c1 c2 n m cs rows hn hm ⟨sm3, hcok⟩ hr2 w' (h.touch0 t) (h2.touch0 t)
  have Hot := Lib.hid fun (g : Nat) (A0 : Option Addr) (l : List UInt8) (hll : l.length ≤ 1000000000) w' (t : Touch [] w w') hg hA ho => outTable_any w g A0 l hll A B c1 c2 n m cs rows hn hm ⟨sm3, hcok⟩ hr2 w' t hg hA ho h h2
  have Heq := Lib.hid fun A1 B1 d1 d2 w' (t : Touch [] w w') r1 r2 => tabEqual_same A1 B1 A B d1 d2 c1 c2 n m cs rows hn hm (fun r hrm => by have := (sm2 r hrm).1; omega) w' r1 (h.touch0 t) r2 (h2.touch0 t) (by omega) (by omega)
  have Hrd := Lib.hid fun r => rdTab_write hk0 (fun c hcm => (hcok c hcm).1) (fun r hrm => (hrok r hrm).2) r
  have htl : (encTab cs rows).length ≤ 84000000 := by
    have e1 := encI_length cs.length
    have e2 := encI_length rows.length
    have e3 := flat_len encC 1018 cs (fun c hcm => encC_len c (hcok c hcm).2)
    have e4 := flat_len (fun r : List VD => r.flatMap encV) 20360 rows (fun r hrm => by
      have q := flat_len encV 1018 r (fun v hvm => encV_len v ((hr2.2 r hrm).2 v hvm).2)
      have := (hr2.2 r hrm).1
      have := Nat.mul_le_mul_right 1018 this
      show (r.flatMap encV).length ≤ 20360
      omega)
    have e5 : cs.length * 1018 ≤ 20 * 1018 := Nat.mul_le_mul_right 1018 (by omega)
    have e6 : rows.length * 20360 ≤ 4096 * 20360 := Nat.mul_le_mul_right 20360 (by omega)
    unfold encTab
    simp only [List.length_append]
    omega
  clear hrok hcok sm1 sm2 hk0 hr2 hr hc h h2 hh
  have x0 := cell_blk hbx (i := 0) rfl
  have x1 := cell_blk hbx (i := 1) rfl
  have Hbx := Lib.hid hbx
  have Hsz0 := Lib.hid hsz0
  clear hbx hsz0
  go_enter Tryd.func8, Tryd.ntmps8
  go_wp2_with fail
  refine HS.out.mono ?_
  rintro e w1 ⟨rfl, t1⟩
  have T1 := t0.trans0 t1
  have y0 := t1.cell x0 (by simp)
  have y1 := t1.cell x1 (by simp)
  go_wp2_with fail
  refine (hC.out _ T1).mono ?_
  rintro e w2 ⟨rfl, t2⟩
  have T2 := T1.trans0 t2
  have hbx2 := (t1.trans0 t2).blk Hbx.out (by simp)
  have hgw' : w.heap.size + 1 ≤ w2.heap.size := by have := (t1.trans0 t2).size; rw [Hsz0.out] at this; exact this
  have Hbx2 := Lib.hid hbx2
  have ta := (Touch.refl [] w2).alloc (.cells #[.slice none 0 0] 31)
  have H0 := Lib.hid (show OutAt (w2.alloc (.cells #[.slice none 0 0] 31)) w2.heap.size none [] from ⟨0, heap_alloc_new w2 _, OwnB.nil _, by simp [fpo]⟩)
  clear y0 y1 x0 x1 hbx2 HS hC t1 t2 T1 Hbx Hsz0
  go_wp2
  go_loopw [6, 29] (fun v i wr => ∃ (k : Nat) (A2 : Option Addr) (n2 d2 : Nat), k ≤ vs.length ∧ i = .int .i64 k ∧ v = .slice A2 n2 d2 ∧ Both w2 w2.heap.size (encVs (vs.take k)) A2 n2 d2 wr ∧ w2.heap.size < wr.heap.size ∧ Hid ((encVs (vs.take k)).length ≤ 100 * k ∧ ∀ v ∈ vs.take k, v.right = true)) (fun _ i _ => vs.length - (intOf i).toNat)
  case atStart => exact ⟨0, none, 0, 0, by omega, rfl, rfl, ⟨⟨none, H0.out, by simp [fpo], by simp [fpo]⟩, rfl, OwnB.nil _, by simp [fpo], by simp [fpo], ta⟩, by simp, Lib.hid ⟨by simp [encVs], by simp⟩⟩
  case round =>
    obtain ⟨k, A2, n2, d2, hk, rfl, rfl, hb, hgw, Hlen⟩ := hrel
    clear H0 ta
    by_cases hlt : k < vs.length
    · obtain ⟨ad, b, off, rfl, hadd, f0, f1, f2⟩ := (hv.touch0 (T2.trans0 hb.t)).at_ k hlt
      have hok := hvok _ (List.getElem_mem hlt)
      have hsn := encVs_snoc vs k hlt
      have htk := List.take_succ_eq_append_getElem hlt
      obtain ⟨v, hve⟩ : ∃ v, v = vs[k] := ⟨_, rfl⟩
      rw [← hve] at f0 f1 f2 hok hsn htk
      have hR := fun w' => rightW_any v hok.t w'
      have tv := (Touch.refl [] wr).alloc (.cells #[.int .i64 v.kind, .int .i64 v.num, .string v.text] 59)
      have hbv := heap_alloc_new wr (.cells #[.int .i64 v.kind, .int .i64 v.num, .string v.text] 59)
      have Hsn := Lib.hid hsn; have Htk := Lib.hid htk
      clear hve hsn htk
      rcases hrt : v.right with _ | _
      · rw [hrt] at hR
        have HR := Lib.hid hR
        have T4 := (T2.trans0 hb.t).trans0 tv
        clear hR hok hrt hbv tv
        obtain ⟨k1, n1, s1⟩ := v
        simp only [VD.val] at HR f0 f1 f2
        go_wp2_with fail
        refine (HR.out _).mono ?_
        rintro e w5 ⟨rfl, t5⟩
        have T5 := T4.trans0 t5
        go_wp2_with fail
        refine (Haw.out _ T5).mono ?_
        rintro e w6 ⟨rfl, t6⟩
        go_wp2
        go_ret
        exact ⟨rfl, T5.trans0 t6⟩
      rw [hrt] at hR
      have HR := Lib.hid hR
      obtain ⟨hok1, hok2⟩ := right_ok hrt hok
      have Hrt := Lib.hid hrt
      have hvl := encV_len v (by omega)
      have hvl2 : (encV v).length ≤ 100 := by
        have a1 := encI_length v.kind
        have a2 := encI_length v.num
        have a3 := encT_length v.text
        have a4 := encI_length v.text.size
        unfold encV
        rw [List.length_append]
        split
        · omega
        · split
          · omega
          · simp; omega
      obtain ⟨⟨A1, ho, hfA, hap⟩, hn2, hown, hg2, hf2, ht⟩ := hb
      obtain ⟨xs, hxs⟩ : ∃ xs, xs = encVs (vs.take k) := ⟨_, rfl⟩
      rw [← hxs] at Hsn Hlen ho hn2 hown
      subst hn2
      obtain ⟨hol, hAl⟩ := ho.lt
      have hbn : wr.heap.size ∉ w2.heap.size :: fpo A1 := fun hm => by
        rcases List.mem_cons.1 hm with h | h
        · omega
        · have := hAl _ h; omega
      have hlen := Hlen.out.1
      have Hval := Lib.hid fun w' (ho' : OutAt w' w2.heap.size A1 xs) => outValue_any w2.heap.size A1 xs v hok1 (by omega) w' ho'
      have Href := Lib.hid fun w' => ref07_any v w'
      have Hrv := Lib.hid fun w' => refValue_any v hok1 w'
      have z0 := cell_blk hbv (i := 0) rfl
      have z1 := cell_blk hbv (i := 1) rfl
      have z2 := cell_blk hbv (i := 2) rfl
      have Htv := Lib.hid tv
      clear hR hok hrt hbv tv hxs hvl
      obtain ⟨k1, n1, s1⟩ := v
      simp only [VD.val] at HR Hval Href f0 f1 f2
      simp only [VD.val] at Hrv
      go_wp2_with fail
      refine (HR.out _).mono ?_
      rintro e w5 ⟨rfl, t5⟩
      have y0 := t5.cell z0 (by simp)
      have y1 := t5.cell z1 (by simp)
      have y2 := t5.cell z2 (by simp)
      have t5' := Htv.out.trans0 t5
      clear z0 z1 z2
      go_wp2_with fail
      refine (Hval.out _ (ho.touch t5' (by simp) (fun _ _ => by simp))).mono ?_
      rintro e w6 ⟨rfl, hp⟩
      have hp2 := hp
      obtain ⟨A6, ho6, ht6, hf6⟩ := hp2
      have z0 := ht6.cell y0 hbn
      have z1 := ht6.cell y1 hbn
      have z2 := ht6.cell y2 hbn
      have hA2lt := hown.lt
      have hs5 := t5'.size
      have hs6 := ht6.size
      have hrd6 : OwnB w6 A2 d2 xs := (hown.touch0 t5').touch ht6 (fun b hb hm => by
        rcases List.mem_cons.1 hm with h | h
        · exact hg2 (h ▸ hb)
        · exact hap b hb h)
      clear y0 y1 y2
      go_wp2_with fail
      refine (Href.out _).mono ?_
      rintro e w7 ⟨rfl, t7⟩
      go_wp2_with fail
      refine (Hrv.out _).mono ?_
      rintro e w8 ⟨A8, c8, rfl, hown8, t8, hf8⟩
      go_wp2_with (at_builtin; refine stop ?_)
      refine go ?_
      refine wpList_appB rfl (.tmp 39) (.tmp 42) rfl A2 xs.length d2 xs rfl rfl ((hrd6.touch0 t7).touch0 t8) A8 _ c8 _ rfl rfl hown8.rd (by omega) ?_
      intro A9 c9 w9 hown9 ht9 hf9
      have hs9 := ht9.size
      have hs78 := (t7.trans0 t8).size
      go_wp2
      go_roundw
      case rel => exact ⟨k + 1, A9, _, c9, by omega, by go_num, rfl, by
        rw [Hsn.out]
        exact Both.next (A1 := none) (A3 := none) (n := 0) (Nat.le_refl _) (fun b hb => by have := hA2lt b hb; omega) hg2 hfA hap hf2 (ht.trans0 t5') hp (t7.trans0 t8) (by omega) ht9 hf9 hown9 (by simp) ⟨rfl, rfl⟩, by omega, Lib.hid ⟨by rw [Hsn.out, List.length_append]; omega, fun v hv => by
          rw [Htk.out] at hv
          rcases List.mem_append.1 hv with q | q
          · exact Hlen.out.2 v q
          · rw [List.mem_singleton] at q; rw [q]; exact Hrt.out⟩⟩
      case measure => simp [intOf]; omega
    · obtain rfl : k = vs.length := by omega
      rw [List.take_length] at hb Hlen
      obtain ⟨⟨A1, ho, hfA, hap⟩, hn2, hown, hg2, hf2, ht⟩ := hb
      have hlen := Hlen.out.1
      have Hright := Lib.hid Hlen.out.2
      obtain ⟨xs, hxs⟩ : ∃ xs, xs = encVs vs := ⟨_, rfl⟩
      rw [← hxs] at hlen ho hn2 hown
      have Hxs := Lib.hid hxs
      subst hn2
      have hbxr := ht.blk Hbx2.out (by simp)
      have x0 := cell_blk hbxr (i := 0) rfl
      have x1 := cell_blk hbxr (i := 1) rfl
      have hA2lt := hown.lt
      clear hxs Hlen
      go_wp2_with fail
      refine (Hot.out w2.heap.size A1 xs (by omega) _ (T2.trans0 ht) (by omega) (fun b hb => by have := hfA b hb; omega) ho).mono ?_
      rintro e w3 ⟨rfl, A3, ho3, ht3, hf3⟩
      have hl3 : (xs ++ encTab cs rows).length = xs.length + (encTab cs rows).length := List.length_append
      obtain ⟨zs, hzs⟩ : ∃ zs, zs = xs ++ encTab cs rows := ⟨_, rfl⟩
      rw [← hzs] at ho3 hl3
      have hl3' : zs.length ≤ 85000000 := by omega
      have Hzs := Lib.hid hzs; have Hl3 := Lib.hid hl3
      have s3 := ht3.size
      clear hzs hl3
      have own3 : OwnB w3 A2 d2 xs := hown.touch ht3 (fun b hb hm => by
        rcases List.mem_cons.1 hm with h | h
        · exact hg2 (h ▸ hb)
        · exact hap b hb h)
      have hbx3 := ht3.blk hbxr (fun hm => by
        rcases List.mem_cons.1 hm with h | h
        · omega
        · have := hfA _ h; omega)
      have T3 : Touch [] w w3 := (T2.trans0 ht).trans ht3 (fun b hb => .inr (by
        rcases List.mem_cons.1 hb with h | h
        · omega
        · have := hfA _ h; omega))
      clear x0 x1 hbxr
      go_wp2_with fail
      refine (outBytes_any w2.heap.size A3 zs (by omega) w3 ho3).mono ?_
      rintro e w4 ⟨A4, c4, rfl, hown4, ht4, hf4⟩
      have td := (Touch.refl [] w4).drew
      have hbx4 := (ht4.trans0 td).blk hbx3 (by simp)
      have k0 := cell_blk hbx4 (i := 0) rfl
      have k1 := cell_blk hbx4 (i := 1) rfl
      have kc := run_str_of c4 rfl (hown4.touch0 td).rd
      have Ho4 := Lib.hid (hown4.touch0 td)
      have Own4 := Lib.hid ((own3.touch0 ht4).touch0 td)
      have T4 := (T3.trans0 ht4).trans0 td
      have HT := Lib.hid (Hb.out _ T4)
      have hf4s : ∀ b ∈ fpo A4, b ∉ fpo A2 := fun b hb hm => by have := hf4 b hb; have := hA2lt b hm; omega
      have hbn : w.heap.size ∉ fpo A2 := fun hm => by have := hf2 _ hm; omega
      clear hbx4 hbx3 own3 hown ho3 ho td
      have s4 := ht4.size
      go_wp2
      refine wp_region_held_drew (S := fun w' => w'.cell? ⟨w.heap.size, 0, none⟩ = some (.slice A n c1) ∧ w'.cell? ⟨w.heap.size, 1, none⟩ = some (.slice B m c2) ∧ (convert 22 9 (.slice A4 zs.length c4)).run Tryd.prog w' = .ok (.string (S zs)) w') (by kernel_rfl) ⟨k0, k1, kc⟩ (fun hHeld => ?_)
      refine take_d (i := 0) (d := 48) (v := ?_) rfl rfl (by kernel_rfl) (by kernel_rfl) (by kernel_rfl) (fun _ _ _ h => h) (Or.inl ⟨by rfl, ?_⟩) (by assumption) ?_
      rotate_left
      · intro w hSw; (try dsimp only at hSw); go_simp; (try with_reducible rfl)
      try simp only [Act.put, List.setIfInBounds_toArray, List.set_cons_zero, List.set_cons_succ]
      refine take_d (i := 1) (d := 49) (v := ?_) rfl rfl (by kernel_rfl) (by kernel_rfl) (by kernel_rfl) (fun _ _ _ h => h) (Or.inl ⟨by rfl, ?_⟩) (by assumption) ?_
      rotate_left
      · intro w hSw; (try dsimp only at hSw); go_simp; (try with_reducible rfl)
      try simp only [Act.put, List.setIfInBounds_toArray, List.set_cons_zero, List.set_cons_succ]
      refine take_d (i := 2) (d := 50) (v := ?_) rfl rfl (by kernel_rfl) (by kernel_rfl) (by kernel_rfl) (fun _ _ _ h => h) (Or.inl ⟨by rfl, ?_⟩) (by assumption) ?_
      rotate_left
      · intro w hSw; (try dsimp only at hSw); go_simp; (try with_reducible rfl)
      try simp only [Act.put, List.setIfInBounds_toArray, List.set_cons_zero, List.set_cons_succ]
      refine take_d (i := 3) (d := 51) (v := ?_) rfl rfl (by kernel_rfl) (by kernel_rfl) (by kernel_rfl) (fun _ _ _ h => h) (Or.inl ⟨by rfl, ?_⟩) (by assumption) ?_
      rotate_left
      · intro w hSw; (try dsimp only at hSw); go_simp; (try with_reducible rfl)
      try simp only [Act.put, List.setIfInBounds_toArray, List.set_cons_zero, List.set_cons_succ]
      refine wpAnyH_ready (rs := [4]) (by kernel_rfl) (by simp) ?_
      refine AllReadyH.cons rfl (fun K hK => ?_) AllReadyH.nil
      go_simp
      go_at_call 31
      refine (HT.out).mono ?_
      rintro e w5 ⟨A5, c5, rfl, mb5⟩
      have m0 := mb5.t.cell k0 (by simp)
      have m1 := mb5.t.cell k1 (by simp)
      have own5 := Own4.out.touch0 mb5.t
      have mc := run_str_of c4 rfl (Ho4.out.touch0 mb5.t).rd
      (try go_wp2_with fail)
      refine hK.out _ _ ⟨m0, m1, mc⟩ (fun _hH => ?_)
      clear hK K
      try simp only [Act.put, List.setIfInBounds_toArray, List.set_cons_zero, List.set_cons_succ]
      refine wpAnyH_ready (rs := [5]) (by kernel_rfl) (by simp) ?_
      refine AllReadyH.cons rfl (fun K hK => ?_) AllReadyH.nil
      refine step_appB rfl (.tmp 50) (.tmp 52) (by rfl) A2 xs.length d2 xs rfl (by rfl) own5 A5 (encTab cs rows).length c5 (encTab cs rows) rfl (by rfl) mb5.own.rd (by omega) ?_
      intro A6 c6 w6 hown6 ht6 hf6
      have p0 := ht6.cell m0 hbn
      have p1 := ht6.cell m1 hbn
      have pc := run_str_of c4 rfl ((Ho4.out.touch0 mb5.t).touch ht6 hf4s).rd
      rw [← Hzs.out] at hown6
      have pcv := run_str_of c6 Hl3.out hown6.rd
      refine hK.out _ _ ⟨p0, p1, pc⟩ (fun _hH => ?_)
      clear hK K
      try simp only [Act.put, List.setIfInBounds_toArray, List.set_cons_zero, List.set_cons_succ]
      refine wpAnyH_weak (S := fun w' => (convert 22 9 (.slice A6 (xs.length + (encTab cs rows).length) c6)).run Tryd.prog w' = .ok (.string (S zs)) w' ∧ w'.cell? ⟨w.heap.size, 0, none⟩ = some (.slice A n c1) ∧ w'.cell? ⟨w.heap.size, 1, none⟩ = some (.slice B m c2) ∧ (convert 22 9 (.slice A4 zs.length c4)).run Tryd.prog w' = .ok (.string (S zs)) w') (fun _ h => h.2) _ _ _ _ ?_
      have hH2 : (fun w' : World => (convert 22 9 (.slice A6 (xs.length + (encTab cs rows).length) c6)).run Tryd.prog w' = .ok (.string (S zs)) w' ∧ w'.cell? ⟨w.heap.size, 0, none⟩ = some (.slice A n c1) ∧ w'.cell? ⟨w.heap.size, 1, none⟩ = some (.slice B m c2) ∧ (convert 22 9 (.slice A4 zs.length c4)).run Tryd.prog w' = .ok (.string (S zs)) w') w6 := ⟨pcv, p0, p1, pc⟩
      refine take_d (i := 6) (d := 54) (v := ?_) rfl rfl (by kernel_rfl) (by kernel_rfl) (by kernel_rfl) (fun _ _ _ h => h) (Or.inl ⟨by rfl, ?_⟩) (by assumption) ?_
      rotate_left
      · intro w hSw; (try dsimp only at hSw); go_simp; (try with_reducible rfl)
      try simp only [Act.put, List.setIfInBounds_toArray, List.set_cons_zero, List.set_cons_succ]
      refine take_d (i := 7) (d := 55) (v := ?_) rfl rfl (by kernel_rfl) (by kernel_rfl) (by kernel_rfl) (fun _ _ _ h => h) (Or.inl ⟨by rfl, ?_⟩) (by assumption) ?_
      rotate_left
      · intro w hSw; (try dsimp only at hSw); go_simp; (try with_reducible rfl)
      try simp only [Act.put, List.setIfInBounds_toArray, List.set_cons_zero, List.set_cons_succ]
      refine wpAnyH_done (by kernel_rfl) ?_ _
      have hown6' : OwnB w6 A4 c4 zs := (Ho4.out.touch0 mb5.t).touch ht6 hf4s
      have T6 : Touch [] w w6 := (T4.trans0 mb5.t).trans ht6 (fun b hb => .inr (by have := hf2 b hb; omega))
      have s6 : w4.heap.size ≤ w6.heap.size := Nat.le_trans mb5.t.size ht6.size
      clear pc pcv m0 m1 mc k0 k1 kc own5 hHeld _hH hH2 Ho4 Own4 HT mb5 ht6 hf6 hown6 hown4 hf4s hbn
      go_wp2_with fail
      refine (newIn2_any A4 zs.length c4 zs rfl (by omega) w6 hown6'.rd).mono ?_
      rintro e w7 ⟨g, A7, rfl, hi7, t7, hg7, hf7⟩
      have hz0 : zs = encVs (vs.drop 0) ++ encTab cs rows := by rw [Hzs.out, Hxs.out]; rfl
      rw [hz0] at hi7
      have hwg : w.heap.size ≤ g := by have := T6.size; omega
      clear hz0 hown6'
      go_wp2
      go_loopw [60] (fun i wr => ∃ (k : Nat) (A8 : Option Addr), k ≤ vs.length ∧ i = .int .i64 k ∧ InAt wr g A8 (encVs (vs.drop k) ++ encTab cs rows) false ∧ Touch [] w6 wr ∧ ∀ b ∈ fpo A8, w6.heap.size ≤ b ∧ b < wr.heap.size) (fun i _ => vs.length - (intOf i).toNat)
      case atStart => exact ⟨0, A7, by omega, rfl, hi7, t7, hf7⟩
      case round =>
        clear hi7 t7 hf7
        obtain ⟨k, A8, hk, rfl, hi8, t8, hf8⟩ := hrel
        have TW8 := T6.trans0 t8
        by_cases hlt : k < vs.length
        · obtain ⟨ad, b, off, rfl, hadd, f0, f1, f2⟩ := (hv.touch0 TW8).at_ k hlt
          have hok := hvok _ (List.getElem_mem hlt)
          have hrt := Hright.out _ (List.getElem_mem hlt)
          have hdr := encVs_drop vs k hlt
          obtain ⟨v, hve⟩ : ∃ v, v = vs[k] := ⟨_, rfl⟩
          rw [← hve] at f0 f1 f2 hok hrt hdr
          rw [hdr, List.append_assoc] at hi8
          obtain ⟨hok1, hok2⟩ := right_ok hrt hok
          have hlz : (encV v ++ (encVs (vs.drop (k + 1)) ++ encTab cs rows)).length ≤ 140737488000000 := hi8.sm
          have tv := ((Touch.refl [] wr).alloc (.cells #[.int .i64 v.kind, .int .i64 v.num, .string v.text] 59)).drew
          have hbv := heap_alloc_new wr (.cells #[.int .i64 v.kind, .int .i64 v.num, .string v.text] 59)
          have z0 : (wr.alloc (.cells #[.int .i64 v.kind, .int .i64 v.num, .string v.text] 59)).drew.cell? ⟨wr.heap.size, 0, none⟩ = some (.int .i64 v.kind) := cell_blk hbv rfl
          have z1 : (wr.alloc (.cells #[.int .i64 v.kind, .int .i64 v.num, .string v.text] 59)).drew.cell? ⟨wr.heap.size, 1, none⟩ = some (.int .i64 v.num) := cell_blk hbv rfl
          have z2 : (wr.alloc (.cells #[.int .i64 v.kind, .int .i64 v.num, .string v.text] 59)).drew.cell? ⟨wr.heap.size, 2, none⟩ = some (.string v.text) := cell_blk hbv rfl
          have hdl : (encVs (vs.drop (k + 1)) ++ encTab cs rows).length ≤ 84010000 := by
            have q := encVs_drop_len vs (k + 1)
            rw [← Hxs.out] at q
            rw [List.length_append]
            omega
          have hel : (encV v).length ≤ 1018 := encV_len v (by omega)
          have hgl : g < wr.heap.size := by obtain ⟨c, hc, hg, hgl, _⟩ := hi8.mk'; exact hgl
          have hV := inValue_ok g A8 _ _ (hi8.touch tv (by simp) (fun _ _ => by simp)) (fun b hb => by have := hf8 b hb; have := tv.size; omega) (by rw [List.length_append]; omega)
          unfold ValuePost at hV
          rw [rdV_write hrt hok1] at hV
          simp only [VD.val] at hV
          have HV := Lib.hid hV
          have heq := eqIn_val v v
          rw [(eqV_iff v v).2 rfl] at heq
          have hgd := guard_val
          have Ttv := Lib.hid tv
          clear hV hok hrt hdr hve hbv hlz tv hok1 hi8
          go_wp2
          refine wp_region_held_drew (S := fun w' => w'.cell? ⟨wr.heap.size, 0, none⟩ = some (.int .i64 v.kind) ∧ w'.cell? ⟨wr.heap.size, 1, none⟩ = some (.int .i64 v.num) ∧ w'.cell? ⟨wr.heap.size, 2, none⟩ = some (.string v.text)) (by kernel_rfl) ⟨z0, z1, z2⟩ (fun hHeld => ?_)
          refine take_d (i := 0) (d := 64) (v := ?_) rfl rfl (by kernel_rfl) (by kernel_rfl) (by kernel_rfl) (fun _ _ _ h => h) (Or.inl ⟨by rfl, ?_⟩) (by assumption) ?_
          rotate_left
          · intro w hSw; (try dsimp only at hSw); go_simp; (try with_reducible rfl)
          try simp only [Act.put, List.setIfInBounds_toArray, List.set_cons_zero, List.set_cons_succ]
          refine take_d (i := 2) (d := 66) (v := ?_) rfl rfl (by kernel_rfl) (by kernel_rfl) (by kernel_rfl) (fun _ _ _ h => h) (Or.inl ⟨by rfl, ?_⟩) (by assumption) ?_
          rotate_left
          · intro w hSw; (try dsimp only at hSw); go_simp; (try with_reducible rfl)
          try simp only [Act.put, List.setIfInBounds_toArray, List.set_cons_zero, List.set_cons_succ]
          refine wpAnyH_ready (rs := [1]) (by kernel_rfl) (by simp) ?_
          refine AllReadyH.cons rfl (fun K hK => ?_) AllReadyH.nil
          go_simp
          go_at_call 29
          refine (HV.out).mono ?_
          rintro e w9 ⟨rfl, A9, hi9, ht9, hf9⟩
          have y0 := ht9.cell z0 (by simp; omega)
          have y1 := ht9.cell z1 (by simp; omega)
          have y2 := ht9.cell z2 (by simp; omega)
          (try go_wp2_with fail)
          refine hK.out _ _ ⟨y0, y1, y2⟩ (fun _hH => ?_)
          clear hK K
          try simp only [Act.put, List.setIfInBounds_toArray, List.set_cons_zero, List.set_cons_succ]
          refine take_d (i := 3) (d := 67) (v := ?_) rfl rfl (by kernel_rfl) (by kernel_rfl) (by kernel_rfl) (fun _ _ _ h => h) (Or.inl ⟨by rfl, ?_⟩) (by assumption) ?_
          rotate_left
          · intro w hSw; (try dsimp only at hSw); go_simp; (try with_reducible rfl)
          try simp only [Act.put, List.setIfInBounds_toArray, List.set_cons_zero, List.set_cons_succ]
          refine wpAnyH_done (by kernel_rfl) ?_ _
          go_wp2_with fail
          go_roundw
          case rel => exact ⟨k + 1, A9, by omega, by go_num, hi9, (t8.trans0 Ttv.out).trans ht9 (fun b hb => .inr (by simp at hb; omega)), fun b hb => by
            have := hf8 b (hf9 b hb)
            have := Ttv.out.size
            have := ht9.size
            omega⟩
          case measure => simp [intOf]; omega
        · obtain rfl : k = vs.length := by omega
          have hi8' : InAt wr g A8 (encTab cs rows ++ []) false := by
            rw [List.drop_length] at hi8
            simpa [encVs] using hi8
          have Hrt2 := Lib.hid (Hrd.out [])
          have td := (Touch.refl [] wr).drew
          have z0 := (t8.trans0 td).cell p0 (by simp)
          have z1 := (t8.trans0 td).cell p1 (by simp)
          have hgl : g < wr.heap.size := by obtain ⟨c, hc, hg, hgl, _⟩ := hi8.mk'; exact hgl
          have HT2 := Lib.hid (inTable_any g A8 _ false _ (hi8'.touch td (by simp) (fun _ _ => by simp)) (fun b hb => by have := hf8 b hb; have := td.size; omega) (by rw [List.append_nil]; omega))
          have TW8 := TW8.trans0 td
          clear hi8 hi8' td p0 p1
          have hwg2 : w.heap.size < g := by omega
          go_wp2
          refine wp_region_held_drew (S := fun w' => w'.cell? ⟨w.heap.size, 0, none⟩ = some (.slice A n c1) ∧ w'.cell? ⟨w.heap.size, 1, none⟩ = some (.slice B m c2)) (by kernel_rfl) ⟨z0, z1⟩ (fun hHeld => ?_)
          refine take_d (i := 0) (d := 69) (v := ?_) rfl rfl (by kernel_rfl) (by kernel_rfl) (by kernel_rfl) (fun _ _ _ h => h) (Or.inl ⟨by rfl, ?_⟩) (by assumption) ?_
          rotate_left
          · intro w hSw; (try dsimp only at hSw); go_simp; (try with_reducible rfl)
          try simp only [Act.put, List.setIfInBounds_toArray, List.set_cons_zero, List.set_cons_succ]
          refine take_d (i := 2) (d := 71) (v := ?_) rfl rfl (by kernel_rfl) (by kernel_rfl) (by kernel_rfl) (fun _ _ _ h => h) (Or.inl ⟨by rfl, ?_⟩) (by assumption) ?_
          rotate_left
          · intro w hSw; (try dsimp only at hSw); go_simp; (try with_reducible rfl)
          try simp only [Act.put, List.setIfInBounds_toArray, List.set_cons_zero, List.set_cons_succ]
          refine wpAnyH_ready (rs := [1]) (by kernel_rfl) (by simp) ?_
          refine AllReadyH.cons rfl (fun K hK => ?_) AllReadyH.nil
          go_simp
          go_at_call 28
          refine (HT2.out).mono ?_
          rintro e w9 hp
          obtain ⟨SA, d1, SB, d2', rfl, hC9, hR9, A9, hi9, ht9, hf9⟩ := table_back hp Hrt2.out hn hm
          have y0 := ht9.cell z0 (by simp; omega)
          have y1 := ht9.cell z1 (by simp; omega)
          have T9 : Touch [] w w9 := TW8.trans ht9 (fun b hb => .inr (by simp at hb; omega))
          (try go_wp2_with fail)
          refine hK.out _ _ ⟨y0, y1⟩ (fun _hH => ?_)
          clear hK K
          try simp only [Act.put, List.setIfInBounds_toArray, List.set_cons_zero, List.set_cons_succ]
          refine wpAnyH_ready (rs := [3]) (by kernel_rfl) (by simp) ?_
          refine AllReadyH.cons rfl (fun K hK => ?_) AllReadyH.nil
          go_simp
          go_at_call 38
          refine (Heq.out SA SB d1 d2' _ T9 hC9 hR9).mono ?_
          rintro e w10 ⟨rfl, t10⟩
          have x0 := t10.cell y0 (by simp)
          have x1 := t10.cell y1 (by simp)
          have hi10 := hi9.touch t10 (by simp) (fun _ _ => by simp)
          have T10 := T9.trans0 t10
          (try go_wp2_with fail)
          refine hK.out _ _ ⟨x0, x1⟩ (fun _hH => ?_)
          clear hK K
          try simp only [Act.put, List.setIfInBounds_toArray, List.set_cons_zero, List.set_cons_succ]
          refine take_d (i := 4) (d := 73) (v := ?_) rfl rfl (by kernel_rfl) (by kernel_rfl) (by kernel_rfl) (fun _ _ _ h => h) (Or.inl ⟨by rfl, ?_⟩) (by assumption) ?_
          rotate_left
          · intro w hSw; (try dsimp only at hSw); go_simp; (try with_reducible rfl)
          try simp only [Act.put, List.setIfInBounds_toArray, List.set_cons_zero, List.set_cons_succ]
          refine take_d (i := 5) (d := 74) (v := ?_) rfl rfl (by kernel_rfl) (by kernel_rfl) (by kernel_rfl) (fun _ _ _ h => h) (Or.inl ⟨by rfl, ?_⟩) (by assumption) ?_
          rotate_left
          · intro w hSw; (try dsimp only at hSw); go_simp; (try with_reducible rfl)
          try simp only [Act.put, List.setIfInBounds_toArray, List.set_cons_zero, List.set_cons_succ]
          refine wpAnyH_ready (rs := [6]) (by kernel_rfl) (by simp) ?_
          refine AllReadyH.cons rfl (fun K hK => ?_) AllReadyH.nil
          go_simp
          go_at_call 20
          refine (done_any g A9 [] false w10 hi10).mono ?_
          rintro e w11 ⟨rfl, rfl⟩
          (try go_wp2_with fail)
          refine hK.out _ _ ⟨x0, x1⟩ (fun _hH => ?_)
          clear hK K
          try simp only [Act.put, List.setIfInBounds_toArray, List.set_cons_zero, List.set_cons_succ]
          refine take_d (i := 7) (d := 76) (v := ?_) rfl rfl (by kernel_rfl) (by kernel_rfl) (by kernel_rfl) (fun _ _ _ h => h) (Or.inl ⟨by rfl, ?_⟩) (by assumption) ?_
          rotate_left
          · intro w hSw; (try dsimp only at hSw); go_simp; (try with_reducible rfl)
          try simp only [Act.put, List.setIfInBounds_toArray, List.set_cons_zero, List.set_cons_succ]
          refine take_d (i := 8) (d := 77) (v := ?_) rfl rfl (by kernel_rfl) (by kernel_rfl) (by kernel_rfl) (fun _ _ _ h => h) (Or.inl ⟨by rfl, ?_⟩) (by assumption) ?_
          rotate_left
          · intro w hSw; (try dsimp only at hSw); go_simp; (try with_reducible rfl)
          try simp only [Act.put, List.setIfInBounds_toArray, List.set_cons_zero, List.set_cons_succ]
          refine wpAnyH_ready (rs := [9]) (by kernel_rfl) (by simp) ?_
          refine AllReadyH.cons rfl (fun K hK => ?_) AllReadyH.nil
          go_simp
          go_at_call 9
          refine (Haw.out _ T10).mono ?_
          rintro e w12 ⟨rfl, t12⟩
          have v0 := t12.cell x0 (by simp)
          have v1 := t12.cell x1 (by simp)
          (try go_wp2_with fail)
          refine hK.out _ _ ⟨v0, v1⟩ (fun _hH => ?_)
          clear hK K
          try simp only [Act.put, List.setIfInBounds_toArray, List.set_cons_zero, List.set_cons_succ]
          refine take_d (i := 10) (d := 79) (v := ?_) rfl rfl (by kernel_rfl) (by kernel_rfl) (by kernel_rfl) (fun _ _ _ h => h) (Or.inl ⟨by rfl, ?_⟩) (by assumption) ?_
          rotate_left
          · intro w hSw; (try dsimp only at hSw); go_simp; (try with_reducible rfl)
          try simp only [Act.put, List.setIfInBounds_toArray, List.set_cons_zero, List.set_cons_succ]
          refine take_d (i := 11) (d := 4) (v := ?_) rfl rfl (by kernel_rfl) (by kernel_rfl) (by kernel_rfl) (fun _ _ _ h => h) (Or.inl ⟨by rfl, ?_⟩) (by assumption) ?_
          rotate_left
          · intro w hSw; (try dsimp only at hSw); go_simp; (try with_reducible rfl)
          try simp only [Act.put, List.setIfInBounds_toArray, List.set_cons_zero, List.set_cons_succ]
          refine wpAnyH_done (by kernel_rfl) ?_ _
          go_wp2_with fail
          go_ret
          exact ⟨rfl, T10.trans0 t12⟩
end Go.Proofs.YtgpadejkmpfafaaDoor

/- Slices of columns, of values, of rows, tables that came in, as the walks take them. -/
namespace Go.Proofs.YtgpadejkmpfafaaDoor
open Go.RowKit Go.ChangeShapes Go.WideShapes Go.Deep

section
variable {H : Type} {enc : TypeId × Value → H} {P : Program} {w : World} {base : Nat} {spare : Nat → Bool} {held : Bool}
theorem open_slice_rows {t e : TypeId} {fs : Array Field} {fuel : Nat} {cs : List Value} {x : DataW H × List MemPlace} (ht : P.underlying t = some (.slice e)) (he : P.underlying e = some (.struct fs))
    (hone : oneCellFields P fs = true) (hC : P.cellsOf e = fs.size) (h : DataW.trod enc P w base spare held fuel t cs = some x) :
    cs = [.slice none 0 0] ∨
    ∃ (a : Addr) (len cap : Nat), cs = [.slice (some a) len cap] ∧ len ≤ cap ∧ cap ≤ maxLen ∧
      ∀ i, i < len → ∃ n : Nat, ∀ (j : Nat) (f : Field), fs[j]? = some f → ∃ (v : Value) (y : DataW H × List MemPlace), w.cell? (a.add (i * fs.size + j)) = some v ∧ DataW.trod enc P w base spare held n f.type [v] = some y := by
  rcases open_slice ht h with h0 | ⟨a, len, cap, m, n, D, Pl, hcs, hb, hl, hm, hmm, hx, hi⟩
  · exact .inl h0.1
  · refine .inr ⟨a, len, cap, hcs, hl, hm, fun i him => ?_⟩
    have hlm : len ≤ m := by rw [hmm]; split <;> omega
    obtain ⟨cs', hc, ht'⟩ := hi i (by omega)
    rw [hC] at hc
    obtain ⟨ys, n', hn', hy, hlen, hyl, hf⟩ := DataW.trod_struct he ht'
    obtain ⟨_, hcl, hat⟩ := World.cells?_some hc
    refine ⟨n', fun j f hj => ?_⟩
    obtain ⟨ho, hk⟩ := hone_of hone j f hj
    have hjl : j < fs.size := (Array.getElem?_eq_some_iff.1 hj).1
    have hcell := hat j hjl
    have hv : cs'[j]? = some (cs'[j]'(by omega)) := List.getElem?_eq_getElem (by omega)
    have h1 := hf j f hj
    rw [ho, hk] at h1
    have hone' : (cs'.drop j).take 1 = [cs'[j]'(by omega)] := by
      rw [List.drop_eq_getElem_cons (by omega)]
      rfl
    rw [hone'] at h1
    have hys : ys[j]? = some (ys[j]'(by omega)) := List.getElem?_eq_getElem (by omega)
    refine ⟨_, _, ?_, h1.trans hys⟩
    rw [← Go.Deep.add_add, hcell, hv]
end

theorem trod_i64 {H : Type} {enc : TypeId × Value → H} {w : World} {base : Nat} {spare : Nat → Bool} {held : Bool} {n : Nat} {v : Value} {y : DataW H × List MemPlace}
    (h : DataW.trod enc Tryd.prog w base spare held n 3 [v] = some y) : ∃ k, v = .int .i64 k ∧ -9223372036854775808 ≤ k ∧ k ≤ 9223372036854775807 := by
  obtain ⟨k, e, _, hw⟩ := DataW.trod_int Tryd.underlying3 h
  simp at e
  exact ⟨k, e, by simpa [Lit.wf, IntKind.min, IntKind.max, IntKind.signed, IntKind.bits] using hw⟩
theorem trod_str {H : Type} {enc : TypeId × Value → H} {w : World} {base : Nat} {spare : Nat → Bool} {held : Bool} {n : Nat} {v : Value} {y : DataW H × List MemPlace}
    (h : DataW.trod enc Tryd.prog w base spare held n 9 [v] = some y) : ∃ s, v = .string s ∧ s.size ≤ 9223372036854775807 := by
  obtain ⟨s, e, _, hw⟩ := DataW.trod_string Tryd.underlying9 h
  simp at e
  exact ⟨s, e, by simpa [maxLen] using hw⟩

theorem rdK_of_rows {α : Type} (enc : α → List Value) (k : Nat) (hk : ∀ x, (enc x).length = k) (h0 : 0 < k) (w : World) (a : Addr) (len : Nat) (P : α → Prop)
    (key : ∀ i, i < len → ∃ x : α, P x ∧ ∀ r u, (enc x)[r]? = some u → w.cell? (a.add (i * k + r)) = some u) : ∃ l : List α, l.length = len ∧ RdK enc w (some a) l ∧ ∀ x ∈ l, P x := by
  refine ⟨(List.range len).attach.map fun i => (key i.1 (by simpa using i.2)).choose, by simp, fun _ => ⟨a, rfl, fun j u hu => ?_⟩, fun x hx => ?_⟩
  · have hj := (List.getElem?_eq_some_iff.1 hu).1
    rw [flat_length enc k hk] at hj
    have hi : j / k < ((List.range len).attach.map fun i => (key i.1 (by simpa using i.2)).choose).length := Nat.div_lt_of_lt_mul (by rwa [Nat.mul_comm] at hj)
    have hr : j % k < k := Nat.mod_lt _ h0
    have hjk : j / k * k + j % k = j := Nat.div_add_mod' j k
    rw [← hjk, flat_get enc k hk _ _ _ hi hr] at hu
    have hil : j / k < len := by simpa using hi
    have hs := (key _ hil).choose_spec.2
    rw [← hjk]
    exact hs _ _ (by simpa using hu)
  · simp only [List.mem_map, List.mem_attach, true_and, Subtype.exists] at hx
    obtain ⟨i, hi', rfl⟩ := hx
    exact (key i (by simpa using hi')).choose_spec.1

theorem open_cols {H : Type} {enc : TypeId × Value → H} {w : World} {base : Nat} {spare : Nat → Bool} {held : Bool} {fuel : Nat} {A : Option Addr} {len cap : Nat} {y : DataW H × List MemPlace}
    (h : DataW.trod enc Tryd.prog w base spare held fuel 53 [.slice A len cap] = some y) : ∃ l : List CD, l.length = len ∧ ColsAt w A l ∧ (∀ c ∈ l, c.name.size ≤ 9223372036854775807 ∧ -9223372036854775808 ≤ c.typ ∧ c.typ ≤ 9223372036854775807) ∧ l.length ≤ 9223372036854775807 ∧ len ≤ cap := by
  rcases open_slice_rows (P := Tryd.prog) Tryd.underlying53 Tryd.underlying83 (by kernel_rfl) (by kernel_rfl) h with hcs | ⟨a, l, c, hcs, hl, hm, hi⟩
  · simp at hcs
    obtain ⟨rfl, rfl, rfl⟩ := hcs
    exact ⟨[], rfl, RdK.nil _ _ _, by simp, Nat.zero_le _, Nat.zero_le _⟩
  · simp at hcs
    obtain ⟨rfl, rfl, rfl⟩ := hcs
    obtain ⟨l, h1, h2, h3⟩ := rdK_of_rows cdE 2 cdE_length (by omega) w a len (fun c : CD => c.name.size ≤ 9223372036854775807 ∧ -9223372036854775808 ≤ c.typ ∧ c.typ ≤ 9223372036854775807) fun i hil => by
      obtain ⟨n, hf⟩ := hi i hil
      obtain ⟨v0, y0, g0, t0⟩ := hf 0 _ rfl
      obtain ⟨v1, y1, g1, t1⟩ := hf 1 _ rfl
      obtain ⟨s, rfl, hs⟩ := trod_str t0
      obtain ⟨k, rfl, hk⟩ := trod_i64 t1
      refine ⟨⟨s, k⟩, ⟨hs, hk⟩, fun r u hu => ?_⟩
      match r, hu with
      | 0, hu => obtain rfl := Option.some.inj hu; exact g0
      | 1, hu => obtain rfl := Option.some.inj hu; exact g1
    exact ⟨l, h1, h2, h3, by rw [h1]; unfold maxLen at hm; omega, hl⟩

theorem open_vals {H : Type} {enc : TypeId × Value → H} {w : World} {base : Nat} {spare : Nat → Bool} {held : Bool} {fuel : Nat} {A : Option Addr} {len cap : Nat} {y : DataW H × List MemPlace}
    (h : DataW.trod enc Tryd.prog w base spare held fuel 67 [.slice A len cap] = some y) : ∃ l : List VD, l.length = len ∧ ValsAt w A l ∧ (∀ c ∈ l, c.Ok 9223372036854775807) ∧ l.length ≤ 9223372036854775807 ∧ len ≤ cap := by
  rcases open_slice_rows (P := Tryd.prog) Tryd.underlying67 Tryd.underlying59 (by kernel_rfl) (by kernel_rfl) h with hcs | ⟨a, l, c, hcs, hl, hm, hi⟩
  · simp at hcs
    obtain ⟨rfl, rfl, rfl⟩ := hcs
    exact ⟨[], rfl, RdK.nil _ _ _, by simp, Nat.zero_le _, Nat.zero_le _⟩
  · simp at hcs
    obtain ⟨rfl, rfl, rfl⟩ := hcs
    obtain ⟨l, h1, h2, h3⟩ := rdK_of_rows vdE 3 vdE_length (by omega) w a len (fun v => v.Ok 9223372036854775807) fun i hil => by
      obtain ⟨n, hf⟩ := hi i hil
      obtain ⟨v0, y0, g0, t0⟩ := hf 0 _ rfl
      obtain ⟨v1, y1, g1, t1⟩ := hf 1 _ rfl
      obtain ⟨v2, y2, g2, t2⟩ := hf 2 _ rfl
      obtain ⟨k, rfl, hk⟩ := trod_i64 t0
      obtain ⟨m, rfl, hm'⟩ := trod_i64 t1
      obtain ⟨s, rfl, hs⟩ := trod_str t2
      refine ⟨⟨k, m, s⟩, ⟨hk, hm', hs⟩, fun r u hu => ?_⟩
      match r, hu with
      | 0, hu => obtain rfl := Option.some.inj hu; exact g0
      | 1, hu => obtain rfl := Option.some.inj hu; exact g1
      | 2, hu => obtain rfl := Option.some.inj hu; exact g2
    exact ⟨l, h1, h2, h3, by rw [h1]; unfold maxLen at hm; omega, hl⟩

theorem open_rows {H : Type} {enc : TypeId × Value → H} {w : World} {base : Nat} {spare : Nat → Bool} {held : Bool} {fuel : Nat} {A : Option Addr} {len cap : Nat} {y : DataW H × List MemPlace}
    (h : DataW.trod enc Tryd.prog w base spare held fuel 54 [.slice A len cap] = some y) : ∃ l : List (List VD), l.length = len ∧ RowsAt w A l ∧ (∀ r ∈ l, r.length ≤ 9223372036854775807 ∧ ∀ v ∈ r, v.Ok 9223372036854775807) ∧ l.length ≤ 9223372036854775807 := by
  rcases open_slice Tryd.underlying54 h with ⟨hcs, _⟩ | ⟨a, l, c, m, n, D, Pl, hcs, hb, hl, hm, hmm, hx, hi⟩
  · simp at hcs
    obtain ⟨rfl, rfl, rfl⟩ := hcs
    exact ⟨[], rfl, ⟨[], ⟨rfl, fun i h => by simp at h⟩, RdK.nil _ _ _⟩, by simp, Nat.zero_le _⟩
  · simp at hcs
    obtain ⟨rfl, rfl, rfl⟩ := hcs
    have hlm : len ≤ m := by rw [hmm]; split <;> omega
    have hC : Tryd.prog.cellsOf 67 = 1 := by kernel_rfl
    have key : ∀ i, i < len → ∃ p : SL × List VD, w.cell? (a.add i) = some (.slice p.1.A p.1.n p.1.c) ∧ p.1.n = p.2.length ∧ ValsAt w p.1.A p.2 ∧ p.2.length ≤ 9223372036854775807 ∧ ∀ v ∈ p.2, v.Ok 9223372036854775807 := by
      intro i hil
      obtain ⟨cs', hc, ht'⟩ := hi i (by omega)
      rw [hC] at hc
      obtain ⟨_, hcl, hat⟩ := World.cells?_some hc
      have h0 := hat 0 (by omega)
      match cs', hcl, ht', h0 with
      | [v], _, ht', h0 =>
        obtain ⟨A', n', c', hv⟩ := Go.Joins.slice_form Tryd.underlying67 ht'
        obtain rfl : v = .slice A' n' c' := by simpa using hv
        obtain ⟨l', e1, e2, e3, e4, _⟩ := open_vals ht'
        rw [add_of_add, Nat.mul_one, Nat.add_zero] at h0
        exact ⟨(⟨A', n', c'⟩, l'), h0, e1.symm, e2, e4, e3⟩
    obtain ⟨ps, hps, hkey⟩ : ∃ ps : List (SL × List VD), ps.length = len ∧ ∀ i (h : i < ps.length), w.cell? (a.add i) = some (.slice ps[i].1.A ps[i].1.n ps[i].1.c) ∧ ps[i].1.n = ps[i].2.length ∧ ValsAt w ps[i].1.A ps[i].2 ∧ ps[i].2.length ≤ 9223372036854775807 ∧ ∀ v ∈ ps[i].2, v.Ok 9223372036854775807 :=
      ⟨(List.range len).attach.map fun i => (key i.1 (by simpa using i.2)).choose, by simp, fun i h => by
        have hil : i < len := by simpa using h
        have := (key i hil).choose_spec
        simpa using this⟩
    refine ⟨ps.map Prod.snd, by simpa using hps, ⟨ps.map Prod.fst, ⟨by simp, fun i h1 h2 => ?_⟩, fun _ => ⟨a, rfl, fun j u hu => ?_⟩⟩, fun r hr => ?_, by simp; unfold maxLen at hm; omega⟩
    · have hi' : i < ps.length := by simpa using h1
      have := hkey i hi'
      simp only [List.getElem_map]
      exact ⟨this.2.1, this.2.2.1⟩
    · have hj := (List.getElem?_eq_some_iff.1 hu).1
      rw [flat_length slE 1 slE_length] at hj
      have hj' : j < ps.length := by simpa using hj
      have e := flat_get slE 1 slE_length (ps.map Prod.fst) j 0 (by simpa using hj') (by omega)
      rw [Nat.mul_one, Nat.add_zero] at e
      rw [e] at hu
      have := (hkey j hj').1
      rw [this]
      simpa [slE] using hu
    · obtain ⟨p, hp, rfl⟩ := List.mem_map.1 hr
      obtain ⟨i, hi', rfl⟩ := List.mem_iff_getElem.1 hp
      exact ⟨(hkey i hi').2.2.2.1, (hkey i hi').2.2.2.2⟩

theorem cells_tab : Tryd.prog.cellsOf 56 = 2 := by kernel_rfl
set_option maxRecDepth 20000 in
theorem open_tab {H : Type} {enc : TypeId × Value → H} {w : World} {base : Nat} {spare : Nat → Bool} {held : Bool} {r : Reach} {b0 : Nat} {v : Value} {d : DataW H} {p : List MemPlace}
    (hv : Value.okWide Tryd.prog w r b0 56 v) (h : DataW.Trod enc Tryd.prog w base spare held 56 v d p) :
    ∃ (A B : Option Addr) (c1 c2 : Nat) (cs : List CD) (rows : List (List VD)), v = .agg #[.slice A cs.length c1, .slice B rows.length c2] ∧ ColsAt w A cs ∧ RowsAt w B rows ∧
      (cs.length ≤ 9223372036854775807 ∧ ∀ c ∈ cs, c.name.size ≤ 9223372036854775807 ∧ -9223372036854775808 ≤ c.typ ∧ c.typ ≤ 9223372036854775807) ∧ (rows.length ≤ 9223372036854775807 ∧ ∀ r ∈ rows, r.length ≤ 9223372036854775807 ∧ ∀ v ∈ r, v.Ok 9223372036854775807) := by
  obtain ⟨c0, c1, y0, y1, m, rfl, rfl, rfl, hy0, hy1⟩ := Go.Joins.open_agg2 Tryd.underlying56 (by kernel_rfl) cells_tab hv h
  obtain ⟨A, n, c, e0⟩ := Go.Joins.slice_form Tryd.underlying53 hy0
  obtain ⟨B, k, d, e1⟩ := Go.Joins.slice_form Tryd.underlying54 hy1
  obtain rfl : c0 = .slice A n c := by simpa using e0
  obtain rfl : c1 = .slice B k d := by simpa using e1
  obtain ⟨cs, rfl, h1, h2, h3, _⟩ := open_cols hy0
  obtain ⟨rows, rfl, g1, g2, g3⟩ := open_rows hy1
  exact ⟨A, B, c, d, cs, rows, rfl, h1, g1, ⟨h3, h2⟩, ⟨g3, g2⟩⟩
end Go.Proofs.YtgpadejkmpfafaaDoor

/- The table of frame.Sum as the rows list it: what it holds when a call begins; a world that holds it. -/
namespace Go.Proofs.YtgpadejkmpfafaaDoor
open Go.ChangeShapes Go.WideShapes Go.ChangeAt Go.RowKit

theorem gTab : Tryd.prog.globalNamed "bywash/frame.half" = some 0 := by kernel_rfl
theorem gTabType : (Tryd.prog.globals[0]?).map (·.type) = some 72 := by kernel_rfl
theorem cellsTab : Tryd.prog.cellsOf 72 = 16 := by kernel_rfl
theorem cellsU32 : Tryd.prog.cellsOf 24 = 1 := by kernel_rfl
theorem half_at {W : World} (h : laidMetH Tryd.prog [("bywash/frame.half", Rows.laid_bywash_frame_half)] W) : HalfAt W := by
  have hT : Lib.TabIs Tryd.prog W "bywash/frame.half" .u32 (half.map fun (n : Nat) => (n : Int)) :=
    Lib.tabIs_of_head (rest := []) gTab gTabType Tryd.underlying72 Tryd.underlying24 cellsU32 cellsTab h
  intro j hj
  have := hT.cell gTab j (by simpa [half] using hj)
  rw [this]
  congr 2
  have hjl : j < half.length := by simpa [half] using hj
  simp [List.getD, hjl]
/-- a world for the witness: the settled one, the table holding what its initialiser lays -/
noncomputable def laidWorld (os : Os) : World :=
  { World.holding Tryd.prog os ⟨#[], #[], []⟩ with heap := (World.holding Tryd.prog os ⟨#[], #[], []⟩).heap.modify 0 fun
      | .cells _ t frozen => .cells #[.int .u32 0, .int .u32 498536548, .int .u32 997073096, .int .u32 651767980, .int .u32 1994146192, .int .u32 1802195444, .int .u32 1303535960, .int .u32 1342533948, .int .u32 3988292384, .int .u32 4027552580, .int .u32 3604390888, .int .u32 3412177804, .int .u32 2607071920, .int .u32 2262029012, .int .u32 2685067896, .int .u32 3183342108] t frozen
      | o => o }
end Go.Proofs.YtgpadejkmpfafaaDoor
