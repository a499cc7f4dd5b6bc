/- entries' Push and Pop, heap.Push and heap.Remove: the walks. For every heap. -/
import Derived.Test.YthhjioeipjnjmaaQueD
import Derived.Lib.OwnBridge
import Derived.Shelf.SlicesE.Delete
namespace Go.Proofs.Ythhjioeipjnjmaa
open Go.RowKit

/-- a place of the row: an entry, or none -/
def peO (o : Option Nat) : Value := match o with | some b => ptrV b | none => .pointer none
theorem peO_map (es : ES) : es.flatMap peE = (es.map fun e => some e.1).map peO := by
  induction es with
  | nil => rfl
  | cons e es ih => rw [List.flatMap_cons, ih]; rfl
theorem touch_putRow {α : Type} [Inhabited α] (enc : α → Value) (w : World) (q g : Nat) (d : Array α) : Touch [g] w (Go.Sort.putRow enc (Go.Sort.ahead w q) g 0 d) :=
  ⟨rfl, rfl, rfl, by simp [Go.Sort.putRow, Go.Sort.mapBlock, Go.Sort.ahead], fun k hk hn => by
    have : ¬ g = k := fun e => hn (by simp [e])
    simp [Go.Sort.putRow, Go.Sort.mapBlock, Go.Sort.ahead, Array.getElem?_modify, this]⟩
theorem info_ptr : (Try.prog.info? 57).map (fun i => (i.zero, i.size, i.bytes)) = some (some (.pointer none), 1, 8) := by kernel_rfl

set_option maxRecDepth 100000 in
/-- the last one goes -/
theorem delLast_any (G c : Nat) (es : ES) (n : Nat) (hn : es.length = n + 1) (w : World) (h : EsAt w (some ⟨G, 0, none⟩) c es) :
    Calls Try.prog 74 #[.slice (some ⟨G, 0, none⟩) (n + 1 : Nat) c, .int .i64 n, .int .i64 (n + 1 : Nat)] w fun e w' => e = .returned (.slice (some ⟨G, 0, none⟩) n c) ∧ EsAt w' (some ⟨G, 0, none⟩) c es.dropLast ∧ Touch [G] w w' := by
  obtain ⟨i0, hi0, hz0, hz1, hz2⟩ := info_parts info_ptr
  have hown := h.own
  unfold OwnK at hown
  rw [peO_map] at hown
  have hds : ((es.map fun e => some e.1).toArray : Array (Option Nat)).size = n + 1 := by simp [hn]
  have hH : Go.Sort.Holds peO w G 0 (es.map fun e => some e.1).toArray := by
    intro j hj
    rw [hds] at hj
    have hj' : j < es.length := by omega
    obtain ⟨G2, e, c1, c2⟩ := h.at_ j hj'
    obtain rfl : G = G2 := by injection e with e; injection e
    rw [Nat.zero_add]
    refine ⟨?_, c2⟩
    rw [c1]
    simp [hj', peO]
  have hle := h.own.le
  have hcap : c ≤ 9223372036854775807 := by
    rcases h.own.2 with ⟨hv, _⟩ | ⟨g, cap, cur, hv, _, _, _, hm, _⟩
    · injection hv with _ _ h3; omega
    · injection hv with _ _ h3; unfold maxLen at hm; omega
  have hcon := AnyE.slices_Delete Try.layDel peO (fun o => by cases o <;> rfl) none (fun w => Try.zeroValue57 w) i0 hi0 hz1 G 0 c n (n + 1) (es.map fun e => some e.1).toArray w hH (by rw [hds]; omega) hcap (by omega) (by rw [hds]; omega)
  rw [hds] at hcon
  change Calls Try.prog 74 _ _ _ at hcon
  refine hcon.mono ?_
  rintro e w' ⟨rfl, q, rfl⟩
  have hy : ((es.map fun e => some e.1).take n ++ (es.map fun e => some e.1).drop (n + 1) ++ List.replicate (n + 1 - n) none : List (Option Nat)).length = es.length := by
    simp [hn]
  have ho := Go.Lib.ownsRow_putRow (q := q) (k := n) hown hy (by omega)
  have T := touch_putRow peO w q G ((es.map fun e => some e.1).take n ++ (es.map fun e => some e.1).drop (n + 1) ++ List.replicate (n + 1 - n) none : List (Option Nat)).toArray
  have hdl : es.dropLast = es.take n := by rw [List.dropLast_eq_take, hn]; rfl
  have htk : ((es.map fun e => some e.1).take n ++ (es.map fun e => some e.1).drop (n + 1) ++ List.replicate (n + 1 - n) none : List (Option Nat)).take n = es.dropLast.map fun e => some e.1 := by
    rw [hdl, List.append_assoc, List.take_append_of_le_length (by simp [hn]), List.take_take, Nat.min_self, List.map_take]
  rw [htk, ← peO_map] at ho
  have hdn : es.dropLast.length = n := by simp [hn]
  refine ⟨by simp, ⟨?_, fun i hi => ?_, ?_, fun e he => h.nA e (List.dropLast_subset _ he)⟩, T⟩
  · unfold OwnK
    rw [hdn]
    exact ho
  · have hi' : i < es.length := by omega
    have := T.blk (h.ent i hi') (by simp only [List.mem_singleton]; exact fun e => h.nA _ (List.getElem_mem hi') (by simp [fpo, e]))
    rw [List.getElem_dropLast]
    exact this
  · rw [hdl, List.map_take]
    exact h.nd.sublist (List.take_sublist _ _)
theorem HpAt.set0 {w w1 : World} {g : Nat} {A A' : Option Addr} {c c' : Nat} {es es' : ES} {m p : Value} {fp : List Nat} (h : HpAt w g A c es m p) (T : Touch fp w w1) (hg : g ∉ fp) (he : EsAt w1 A' c' es') (hng : g ∉ efp A' es') (n : Nat) (hn : es'.length = n) :
    HpAt (w1.setCell ⟨g, 0, none⟩ (.slice A' n c')) g A' c' es' m p := by
  subst hn
  have hb := set_blk (T.blk h.blk hg) 0 (.slice A' es'.length c')
  have T2 := (Touch.refl [g] w1).setCell (p := ⟨g, 0, none⟩) (.inl (by simp)) (.slice A' es'.length c')
  exact ⟨hb, he.touch T2 (fun x hx hm => hng ((by simpa using hm : x = g) ▸ hx)), hng⟩
theorem HpAt.free {w : World} {g : Nat} {A : Option Addr} {c : Nat} {es : ES} {m p : Value} (h : HpAt w g A c es m p) (i : Nat) : w.frozen? ⟨g, i, none⟩ = false := by
  simp [World.frozen?, h.blk]

set_option maxRecDepth 20000 in
set_option maxHeartbeats 1600000 in
/-- Pop: the last entry is handed out -/
theorem popM_any (g : Nat) (A : Option Addr) (c : Nat) (es : ES) (m p : Value) (n : Nat) (hn : es.length = n + 1) (hl : es.length ≤ 1000000) (w : World) (h : HpAt w g A c es m p) :
    Calls Try.prog 72 #[.pointer (some ⟨g, 0, none⟩)] w fun e w' => (∃ v, e = .returned v) ∧ HpAt w' g A c es.dropLast m p ∧ Touch (g :: fpo A) w w' := by
  obtain ⟨G, rfl, cl, zl⟩ := h.es_.at_ n (by omega)
  have c0 := h.cell0
  have z0 := h.free 0
  rw [hn] at c0
  have hgl := lt_of_block h.blk
  have hgG : g ≠ G := fun e => h.ng (mem_efp.2 (.inl (by simp [fpo, e])))
  have hdl := delLast_any G c es n hn w h.es_
  have hdn : es.dropLast.length = n := by simp [hn]
  have hcast : ((n + 1 : Nat) : Int) = (n : Int) + 1 := by omega
  rw [hcast] at hdl
  have Hdl := Lib.hid hdl
  have Hdn := Lib.hid hdn
  have Hh := Lib.hid h
  obtain ⟨v0, hv0⟩ : ∃ v0, v0 = ptrV (es[n]'(by omega)).1 := ⟨_, rfl⟩
  rw [← hv0] at cl
  have hvp : ∃ b, v0 = .pointer (some ⟨b, 0, none⟩) := ⟨_, hv0⟩
  obtain ⟨b0, rfl⟩ := hvp
  have hn1 : n + 1 ≤ 1000000 := by omega
  clear hdl hdn h hv0 hn hl
  go_enter Try.func72, Try.ntmps72
  go_wp2_with fail
  refine Hdl.out.mono ?_
  rintro e w1 ⟨rfl, he, t1⟩
  have hh := Hh.out
  have hng1 : g ∉ [G] := by simp; exact hgG
  have hb1 := t1.blk hh.blk hng1
  have c1 := cell_blk (i := 0) hb1 rfl
  have z1 : w1.frozen? ⟨g, 0, none⟩ = false := by simp [World.frozen?, hb1]
  have hset := hh.set0 t1 hng1 he (fun hm => hh.ng (by
    rcases mem_efp.1 hm with h1 | ⟨x, hx, h1⟩
    · exact mem_efp.2 (.inl h1)
    · exact mem_efp.2 (.inr ⟨x, List.dropLast_subset _ hx, h1⟩))) n Hdn.out
  have T := (t1.mono (fp2 := [g, G]) (fun b hb => .inl (by simp at hb; simp [hb]))).setCell (p := ⟨g, 0, none⟩) (.inl (by simp)) (.slice (some ⟨G, 0, none⟩) n c)
  have Hs := Lib.hid (And.intro hset T)
  clear hset T hh hb1
  go_wp2_with fail
  go_ret
  exact ⟨⟨_, rfl⟩, Hs.out.1, Hs.out.2⟩
end Go.Proofs.Ythhjioeipjnjmaa
