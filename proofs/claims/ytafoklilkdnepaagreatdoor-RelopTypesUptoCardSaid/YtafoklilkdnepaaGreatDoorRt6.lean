/- Part 6 of the texts of this proof, one behind the other; each begins with its own sentence. No condition beyond those that its theorems state. -/
import Derived.Test.YtafoklilkdnepaaGreatDoorRt5
import Derived.WalkSpells
import Derived.Lib.AppendZerosOnto
import Derived.Lib.AppendZeros
/- Rows of values of the calls' own, in a slice of slices: how one more row comes to them. No program's function. -/
namespace Go.Proofs.YtafoklilkdnepaaGreatDoor
open Go.RowKit

/-- slices of the calls' own that lead to rows -/
def OwnR (t : TypeId) (base : Nat) (w : World) (B : Option Addr) (c : Nat) (rows : List (List VD)) : Prop :=
  ∃ sl, SlsAt w sl rows ∧ OwnK t 1 slE w B c sl ∧ ∀ s ∈ sl, ∀ b ∈ fpo s.A, b ∉ fpo B ∧ b < w.heap.size ∧ base ≤ b
theorem OwnR.nil (t : TypeId) (base : Nat) (w : World) : OwnR t base w none 0 [] := ⟨[], ⟨rfl, fun i h => absurd h (by simp)⟩, OwnK.nil _ _ _ _, by simp⟩
theorem OwnR.rowsAt {t base : Nat} {w : World} {B : Option Addr} {c : Nat} {rows : List (List VD)} (h : OwnR t base w B c rows) : RowsAt w B rows := by
  obtain ⟨sl, h1, h2, _⟩ := h
  exact ⟨sl, h1, h2.rd⟩
theorem OwnR.lt {t base : Nat} {w : World} {B : Option Addr} {c : Nat} {rows : List (List VD)} (h : OwnR t base w B c rows) : ∀ b ∈ fpo B, b < w.heap.size := by
  obtain ⟨sl, h1, h2, _⟩ := h
  exact h2.lt
theorem SlsAt.touch {w w' : World} {sl : List SL} {rows : List (List VD)} {fp : List Nat} (h : SlsAt w sl rows) (ht : Touch fp w w') (hn : ∀ s ∈ sl, ∀ b ∈ fpo s.A, b ∉ fp) : SlsAt w' sl rows :=
  ⟨h.1, fun i a b => ⟨(h.2 i a b).1, RdK.touch (h.2 i a b).2 ht (hn _ (List.getElem_mem a))⟩⟩
theorem OwnR.touch {t base : Nat} {w w' : World} {B : Option Addr} {c : Nat} {rows : List (List VD)} {fp : List Nat} (h : OwnR t base w B c rows) (ht : Touch fp w w') (hfp : ∀ b ∈ fp, b < base) (hB : ∀ b ∈ fpo B, base ≤ b) : OwnR t base w' B c rows := by
  obtain ⟨sl, h1, h2, h3⟩ := h
  exact ⟨sl, h1.touch ht (fun s hs b hb hm => by have := hfp b hm; have := (h3 s hs b hb).2.2; omega), h2.touch ht (fun b hb hm => by have := hfp b hm; have := hB b hb; omega), fun s hs b hb => ⟨(h3 s hs b hb).1, Nat.lt_of_lt_of_le (h3 s hs b hb).2.1 ht.size, (h3 s hs b hb).2.2⟩⟩
theorem OwnR.touch0 {t base : Nat} {w w' : World} {B : Option Addr} {c : Nat} {rows : List (List VD)} (h : OwnR t base w B c rows) (ht : Touch [] w w') : OwnR t base w' B c rows := by
  obtain ⟨sl, h1, h2, h3⟩ := h
  exact ⟨sl, h1.touch ht (fun _ _ _ _ => by simp), h2.touch0 ht, fun s hs b hb => ⟨(h3 s hs b hb).1, Nat.lt_of_lt_of_le (h3 s hs b hb).2.1 ht.size, (h3 s hs b hb).2.2⟩⟩

/-- append of one more row -/
theorem wpList_appR {w : World} {ops : Array Oper} {rest : List Oper} {o : Oper} {a : Act} {Q : Exit → Act → World → Prop} (hgd : o.guard = none) (s x : Operand) (t : TypeId)
    (ho : o.op = .call { callee := .builtin .append, args := #[s, x], argTypes := #[t, t] })
    (e : TypeId) (hinfo : (Tryz.prog.info? e).map (fun i => (i.zero, i.size, i.bytes)) = some (some (.slice none 0 0), 1, 24)) (ht : Tryz.prog.underlying t = some (.slice e))
    (base : Nat) (B : Option Addr) (m c : Nat) (rows : List (List VD)) (hm : rows.length = m) (hs : a.eval s = .slice B m c) (hown : OwnR e base w B c rows)
    (A : Option Addr) (ca : Nat) (r : List VD) (hr : ValsAt w A r) (hA : ∀ b ∈ fpo A, b ∉ fpo B ∧ b < w.heap.size ∧ base ≤ b)
    (g : Nat) (hx : a.eval x = .slice (some ⟨w.heap.size, 0, none⟩) 1 g) (h63 : m + 1 ≤ 1000000000) {cs : Array Value} (hcs : cs.toList = [.slice A r.length ca])
    (h : ∀ B' c' w', OwnR e base w' B' c' (rows ++ [r]) → Touch (fpo B) (w.alloc (.cells cs e)) w' → (∀ b ∈ fpo B', b ∈ fpo B ∨ b = w.heap.size + 1) → wpList Tryz.prog ops Q rest (a.put o.dst (.slice B' (m + 1) c')) w') :
    wpList Tryz.prog ops Q (o :: rest) a (w.alloc (.cells cs e)) := by
  obtain ⟨sl, h1, h2, h3⟩ := hown
  have ta := (Touch.refl [] w).alloc (.cells cs e)
  refine wpList_appK (enc := slE) hgd s x t ho e (.slice none 0 0) 1 24 hinfo ht rfl (by omega) slE_length slE_one B m c sl (by rw [h1.1, hm]) hs (h2.touch0 ta)
    (some ⟨w.heap.size, 0, none⟩) 1 g [⟨A, r.length, ca⟩] rfl hx (RdK.one (enc := slE) w e ⟨A, r.length, ca⟩ cs hcs) h63 (by omega) ?_
  intro B' c' w' hown' t' hf'
  rw [World.size_alloc] at hf'
  have hw := ta.size
  refine h B' c' w' ⟨sl ++ [⟨A, r.length, ca⟩], ⟨by rw [List.length_append, List.length_append, h1.1]; rfl, fun i a1 b1 => ?_⟩, hown', fun s' hs' b hb => ?_⟩ t' hf'
  · by_cases hi : i < sl.length
    · have hi2 : i < rows.length := by rw [← h1.1]; exact hi
      rw [List.getElem_append_left hi, List.getElem_append_left hi2]
      have := h1.2 i hi hi2
      exact ⟨this.1, RdK.touch (RdK.touch0 this.2 ta) t' (fun b hb => (h3 _ (List.getElem_mem hi) b hb).1)⟩
    · have hi' : i = sl.length := by rw [List.length_append] at a1; simp at a1; omega
      subst hi'
      have e1 : (sl ++ [(⟨A, r.length, ca⟩ : SL)])[sl.length] = ⟨A, r.length, ca⟩ := by rw [List.getElem_append_right (Nat.le_refl _)]; simp
      have e2 : (rows ++ [r])[sl.length] = r := by rw [List.getElem_append_right (by rw [h1.1]; exact Nat.le_refl _)]; simp [h1.1]
      rw [e1, e2]
      exact ⟨rfl, RdK.touch (RdK.touch0 hr ta) t' (fun b hb => (hA b hb).1)⟩
  · have key : b ∉ fpo B ∧ b < w.heap.size ∧ base ≤ b := by
      rcases List.mem_append.1 hs' with q | q
      · exact h3 s' q b hb
      · simp only [List.mem_singleton] at q
        subst q
        exact hA b hb
    refine ⟨fun hm' => ?_, Nat.lt_of_lt_of_le key.2.1 (Nat.le_trans hw t'.size), key.2.2⟩
    rcases hf' b hm' with q | q
    · exact key.1 q
    · have := key.2.1; omega
end Go.Proofs.YtafoklilkdnepaaGreatDoor

/- Rows of the calls' own: one cell read, one cell set, a row just made. No program's function. -/
namespace Go.Proofs.YtafoklilkdnepaaGreatDoor
open Go.RowKit

theorem frozen_blk {w : World} {g : Nat} {cs : Array Value} {t : TypeId} (h : w.heap[g]? = some (.cells cs t (0, 0))) (i : Nat) : w.frozen? ⟨g, i, none⟩ = false := by simp [World.frozen?, h]
theorem lt_blk {w : World} {g : Nat} {o : Obj} (h : w.heap[g]? = some o) : g < w.heap.size := (Array.getElem?_eq_some_iff.1 h).1
theorem add_blk (g j : Nat) : (⟨g, 0, none⟩ : Addr).add j = ⟨g, j, none⟩ := by unfold Addr.add; split <;> simp_all

theorem OwnK.free_ {α : Type} {t k : Nat} {enc : α → List Value} {w : World} {G c : Nat} {xs : List α} (h : OwnK t k enc w (some ⟨G, 0, none⟩) c xs) (i : Nat) : w.frozen? ⟨G, i, none⟩ = false := by
  rcases h.2 with ⟨hv, _⟩ | ⟨g, cap, cur, hv, _, hg, _, _, _, _⟩
  · injection hv with hA; cases hA
  · have hA : (some ⟨G, 0, none⟩ : Option Addr) = some ⟨g, 0, none⟩ := by injection hv
    injection hA with hA; injection hA with hG; subst hG
    simp [World.frozen?, hg]
theorem flat_set {α β : Type} (enc : α → List β) (k : Nat) (hk : ∀ x, (enc x).length = k) (v : β) (o : Nat) (ho : o < k) : ∀ (xs : List α) (i : Nat) (hi : i < xs.length) (y : α), enc y = (enc xs[i]).set o v → (xs.set i y).flatMap enc = (xs.flatMap enc).set (i * k + o) v
  | [], i => fun hi => absurd hi (by simp)
  | x :: xs, 0 => fun _ y hy => by
    rw [List.set_cons_zero, List.flatMap_cons, List.flatMap_cons, hy, List.getElem_cons_zero, Nat.zero_mul, Nat.zero_add, List.set_append_left _ _ (by rw [hk]; exact ho)]
  | x :: xs, i + 1 => fun hi y hy => by
    have ih := flat_set enc k hk v o ho xs i (by simpa using hi) y (by simpa using hy)
    have e1 : (i + 1) * k + o = k + (i * k + o) := by rw [Nat.add_mul]; omega
    rw [List.set_cons_succ, List.flatMap_cons, List.flatMap_cons, ih, List.set_append_right _ _ (by rw [hk, e1]; omega), hk, e1, Nat.add_sub_cancel_left]
theorem OwnK.set {α : Type} {t k : Nat} {enc : α → List Value} {w : World} {G c : Nat} {xs : List α} (h : OwnK t k enc w (some ⟨G, 0, none⟩) c xs) (hk : ∀ x, (enc x).length = k) (i : Nat) (hi : i < xs.length) (o : Nat) (ho : o < k) (v : Value) (y : α)
    (hy : enc y = (enc xs[i]).set o v) : OwnK t k enc (w.setCell ⟨G, i * k + o, none⟩ v) (some ⟨G, 0, none⟩) c (xs.set i y) := by
  have := (World.ownsRow.stored h (i * k + o) v).1
  unfold OwnK
  rw [List.length_set, flat_set enc k hk v o ho xs i hi y hy]
  exact this
/-- a store into a row whose elements have one cell -/
theorem OwnK.set1 {α : Type} {t : Nat} {val : α → Value} {w : World} {G c : Nat} {xs : List α} (h : OwnK t 1 (fun x => [val x]) w (some ⟨G, 0, none⟩) c xs) (i : Nat) (hi : i < xs.length) (y : α) : OwnK t 1 (fun x => [val x]) (w.setCell ⟨G, i, none⟩ (val y)) (some ⟨G, 0, none⟩) c (xs.set i y) := by
  have := h.set (fun _ => rfl) i hi 0 (by omega) (val y) y rfl
  rwa [Nat.mul_one] at this
theorem flat_one {α : Type} {val : α → Value} (xs : List α) : (xs.flatMap fun x => [val x]) = xs.map val := by
  induction xs with
  | nil => rfl
  | cons x xs ih => rw [List.flatMap_cons, ih]; rfl
/-- what a cell of such a row holds -/
theorem OwnK.cell1 {α : Type} {t : Nat} {val : α → Value} {w : World} {G c : Nat} {xs : List α} (h : OwnK t 1 (fun x => [val x]) w (some ⟨G, 0, none⟩) c xs) (i : Nat) (hi : i < xs.length) : w.cell? ⟨G, i, none⟩ = some (val xs[i]) := by
  have := World.ownsRow.cells h (g := G) rfl i (val xs[i]) (by rw [flat_one]; simp [hi])
  rwa [add_blk] at this
/-- a row just made -/
theorem OwnK.made {α : Type} (t : Nat) (val : α → Value) (w : World) (n : Nat) (z : α) (hn : n ≤ maxLen) : OwnK t 1 (fun x => [val x]) (w.alloc (.cells (madeCells #[val z] n) t)) (some ⟨w.heap.size, 0, none⟩) n (List.replicate n z) := by
  refine ⟨by simp, .inr ⟨w.heap.size, n, madeCells #[val z] n, by simp, Nat.zero_le _, heap_alloc_new w _, by simp, hn, ?_, ?_⟩⟩
  · rw [madeCells_one]; simp
  · rw [madeCells_one, flat_one]; simp
theorem OwnK.mono {α : Type} {t k : Nat} {enc : α → List Value} {w : World} {A : Option Addr} {c : Nat} {xs : List α} (h : OwnK t k enc w A c xs) {w' : World} (hb : ∀ b ∈ fpo A, w'.heap[b]? = w.heap[b]?) : OwnK t k enc w' A c xs := by
  refine ⟨h.1, ?_⟩
  rcases h.2 with hv | ⟨g, cap, cur, hv, hb', hg, rest⟩
  · exact .inl hv
  · have hA : A = some ⟨g, 0, none⟩ := by injection hv
    subst hA
    exact .inr ⟨g, cap, cur, hv, hb', by rw [hb g (by simp [fpo])]; exact hg, rest⟩

end Go.Proofs.YtafoklilkdnepaaGreatDoor

/- slices.Clone at values, at columns, at slices of values: of whatever slice. (gen_clone.py) -/
namespace Go.Proofs.YtafoklilkdnepaaGreatDoor
open Go.RowKit

theorem info_v5 : (Tryz.prog.info? 31).map (fun i => (i.zero, i.size, i.bytes)) = some (some (.agg #[.int .i64 0, .int .i64 0, .string ⟨#[]⟩]), 3, 32) := by kernel_rfl
theorem info_c5 : (Tryz.prog.info? 29).map (fun i => (i.zero, i.size, i.bytes)) = some (some (.agg #[.string ⟨#[]⟩, .int .i64 0]), 2, 24) := by kernel_rfl
theorem info_r5 : (Tryz.prog.info? 33).map (fun i => (i.zero, i.size, i.bytes)) = some (some (.slice none 0 0), 1, 24) := by kernel_rfl
theorem RdK.none_nil {α : Type} {enc : α → List Value} (k : Nat) (hk : ∀ x, (enc x).length = k) (h0 : 0 < k) {w : World} {l : List α} (h : RdK enc w none l) : l = [] := by
  rcases l with _ | ⟨x, l⟩
  · rfl
  · obtain ⟨ad, b, off, e, _⟩ := RdK.at_ h k hk h0 0 (by simp)
    cases e

set_option maxRecDepth 20000 in
set_option maxHeartbeats 1000000 in
theorem cloneV_any (A : Option Addr) (c n : Nat) (l : List VD) (hn : l.length = n) (hl : n ≤ 1000000) (w : World) (h : RdK vdE w A l) :
    Calls Tryz.prog 126 #[.slice A n c] w fun e w' => ∃ A' c', e = .returned (.slice A' n c') ∧ Made 31 3 vdE l A' c' w w' := by
  rcases A with _ | ad
  · have hl0 := RdK.none_nil 3 vdE_length (by omega) h
    subst hl0
    obtain rfl : n = 0 := by simpa using hn.symm
    go_enter Tryz.func126, Tryz.ntmps126
    have hnil := run_eql_slice_nil (P := Tryz.prog) w 33 31 none 0 c Tryz.underlying33
    go_wp2
    go_ret
    exact ⟨none, 0, rfl, Made.nil _ _ _ _⟩
  · subst hn
    have ho := OwnK.empty_new 31 3 vdE w
    have tb := (Touch.refl [] w).alloc (.cells #[] 31)
    have HO := Lib.hid (And.intro ho (And.intro (RdK.touch0 h tb) tb))
    clear ho tb
    go_enter Tryz.func126, Tryz.ntmps126
    have hnil := run_eql_slice_nil (P := Tryz.prog) w 33 31 (some ad) l.length c Tryz.underlying33
    go_wp2_with (at_builtin; refine stop ?_)
    refine go ?_
    refine wpList_appK (enc := vdE) rfl (.tmp 5) (.tmp 6) 33 rfl 31 (.agg #[.int .i64 0, .int .i64 0, .string ⟨#[]⟩]) 3 32 info_v5 Tryz.underlying33 rfl (by omega) vdE_length vdE_one (some ⟨w.heap.size, 0, none⟩) 0 0 [] rfl rfl HO.out.1 (some ad) l.length c l rfl rfl HO.out.2.1 (by omega) (by omega) ?_
    intro A3 c3 w3 hown3 ht3 hf3
    have H3 := Lib.hid (And.intro hown3 (And.intro ht3 hf3))
    clear hown3 ht3 hf3
    go_wp2
    go_ret
    obtain ⟨hown3, ht3, hf3⟩ := H3.out
    refine ⟨A3, c3, by first | rfl | (simp; rfl) | simp, by simpa using hown3, HO.out.2.2.trans ht3 (fun b hb => by simp [fpo] at hb; subst hb; exact .inr (Nat.le_refl _)), fun b hb => ?_⟩
    rcases hf3 b hb with e | e
    · simp [fpo] at e; omega
    · rw [World.size_alloc] at e; omega

set_option maxRecDepth 20000 in
set_option maxHeartbeats 1000000 in
theorem cloneC_any (A : Option Addr) (c n : Nat) (l : List CD) (hn : l.length = n) (hl : n ≤ 1000000) (w : World) (h : RdK cdE w A l) :
    Calls Tryz.prog 67 #[.slice A n c] w fun e w' => ∃ A' c', e = .returned (.slice A' n c') ∧ Made 29 2 cdE l A' c' w w' := by
  rcases A with _ | ad
  · have hl0 := RdK.none_nil 2 cdE_length (by omega) h
    subst hl0
    obtain rfl : n = 0 := by simpa using hn.symm
    go_enter Tryz.func67, Tryz.ntmps67
    have hnil := run_eql_slice_nil (P := Tryz.prog) w 24 29 none 0 c Tryz.underlying24
    go_wp2
    go_ret
    exact ⟨none, 0, rfl, Made.nil _ _ _ _⟩
  · subst hn
    have ho := OwnK.empty_new 29 2 cdE w
    have tb := (Touch.refl [] w).alloc (.cells #[] 29)
    have HO := Lib.hid (And.intro ho (And.intro (RdK.touch0 h tb) tb))
    clear ho tb
    go_enter Tryz.func67, Tryz.ntmps67
    have hnil := run_eql_slice_nil (P := Tryz.prog) w 24 29 (some ad) l.length c Tryz.underlying24
    go_wp2_with (at_builtin; refine stop ?_)
    refine go ?_
    refine wpList_appK (enc := cdE) rfl (.tmp 5) (.tmp 6) 24 rfl 29 (.agg #[.string ⟨#[]⟩, .int .i64 0]) 2 24 info_c5 Tryz.underlying24 rfl (by omega) cdE_length cdE_one (some ⟨w.heap.size, 0, none⟩) 0 0 [] rfl rfl HO.out.1 (some ad) l.length c l rfl rfl HO.out.2.1 (by omega) (by omega) ?_
    intro A3 c3 w3 hown3 ht3 hf3
    have H3 := Lib.hid (And.intro hown3 (And.intro ht3 hf3))
    clear hown3 ht3 hf3
    go_wp2
    go_ret
    obtain ⟨hown3, ht3, hf3⟩ := H3.out
    refine ⟨A3, c3, by first | rfl | (simp; rfl) | simp, by simpa using hown3, HO.out.2.2.trans ht3 (fun b hb => by simp [fpo] at hb; subst hb; exact .inr (Nat.le_refl _)), fun b hb => ?_⟩
    rcases hf3 b hb with e | e
    · simp [fpo] at e; omega
    · rw [World.size_alloc] at e; omega

set_option maxRecDepth 20000 in
set_option maxHeartbeats 1000000 in
theorem cloneR_any (A : Option Addr) (c n : Nat) (l : List SL) (hn : l.length = n) (hl : n ≤ 1000000) (w : World) (h : RdK slE w A l) :
    Calls Tryz.prog 141 #[.slice A n c] w fun e w' => ∃ A' c', e = .returned (.slice A' n c') ∧ Made 33 1 slE l A' c' w w' := by
  rcases A with _ | ad
  · have hl0 := RdK.none_nil 1 slE_length (by omega) h
    subst hl0
    obtain rfl : n = 0 := by simpa using hn.symm
    go_enter Tryz.func141, Tryz.ntmps141
    have hnil := run_eql_slice_nil (P := Tryz.prog) w 25 33 none 0 c Tryz.underlying25
    go_wp2
    go_ret
    exact ⟨none, 0, rfl, Made.nil _ _ _ _⟩
  · subst hn
    have ho := OwnK.empty_new 33 1 slE w
    have tb := (Touch.refl [] w).alloc (.cells #[] 33)
    have HO := Lib.hid (And.intro ho (And.intro (RdK.touch0 h tb) tb))
    clear ho tb
    go_enter Tryz.func141, Tryz.ntmps141
    have hnil := run_eql_slice_nil (P := Tryz.prog) w 25 33 (some ad) l.length c Tryz.underlying25
    go_wp2_with (at_builtin; refine stop ?_)
    refine go ?_
    refine wpList_appK (enc := slE) rfl (.tmp 5) (.tmp 6) 25 rfl 33 (.slice none 0 0) 1 24 info_r5 Tryz.underlying25 rfl (by omega) slE_length slE_one (some ⟨w.heap.size, 0, none⟩) 0 0 [] rfl rfl HO.out.1 (some ad) l.length c l rfl rfl HO.out.2.1 (by omega) (by omega) ?_
    intro A3 c3 w3 hown3 ht3 hf3
    have H3 := Lib.hid (And.intro hown3 (And.intro ht3 hf3))
    clear hown3 ht3 hf3
    go_wp2
    go_ret
    obtain ⟨hown3, ht3, hf3⟩ := H3.out
    refine ⟨A3, c3, by first | rfl | (simp; rfl) | simp, by simpa using hown3, HO.out.2.2.trans ht3 (fun b hb => by simp [fpo] at hb; subst hb; exact .inr (Nat.le_refl _)), fun b hb => ?_⟩
    rcases hf3 b hb with e | e
    · simp [fpo] at e; omega
    · rw [World.size_alloc] at e; omega
end Go.Proofs.YtafoklilkdnepaaGreatDoor

/- relop.Plan.groupSchema: the schema of a group. For every plan and schema. -/
namespace Go.Proofs.YtafoklilkdnepaaGreatDoor
open Go.RowKit

/-- columns picked by names; none: one is not there -/
def gnL (cs acc : List CD) : List ByteArray → Option (List CD)
  | [] => some acc
  | n :: r => match placeV cs n with
    | none => none
    | some i => gnL cs (acc ++ [cs.getD i ⟨⟨#[]⟩, 0⟩]) r
/-- .. and what is reckoned -/
def gaL (cs acc : List CD) : List AG → Int × List CD
  | [] => (0, acc)
  | a :: r => if (aggV cs a).2 = 0 then gaL cs (acc ++ [⟨a.name, (aggV cs a).1⟩]) r else ((aggV cs a).2, [])
def groupV (cs : List CD) (names : List ByteArray) (aggs : List AG) : Int × List CD := match gnL cs [] names with
  | none => (13, [])
  | some l => gaL cs l aggs
theorem gnL_step (cs acc : List CD) (l : List ByteArray) (k : Nat) (h : k < l.length) : gnL cs acc (l.drop k) = match placeV cs l[k] with
    | none => none
    | some i => gnL cs (acc ++ [cs.getD i ⟨⟨#[]⟩, 0⟩]) (l.drop (k + 1)) := by
  rw [List.drop_eq_getElem_cons h]; rfl
theorem gaL_step (cs acc : List CD) (l : List AG) (k : Nat) (h : k < l.length) : gaL cs acc (l.drop k) = if (aggV cs l[k]).2 = 0 then gaL cs (acc ++ [⟨l[k].name, (aggV cs l[k]).1⟩]) (l.drop (k + 1)) else ((aggV cs l[k]).2, []) := by
  rw [List.drop_eq_getElem_cons h]; rfl
/-- a schema in new memory and an error -/
def SchPost (v : Int × List CD) (w : World) (e : Ending) (w' : World) : Prop := ∃ A c, e = .returned (.tuple #[.slice A v.2.length c, .int .i64 v.1]) ∧ Made 29 2 cdE v.2 A c w w'
theorem SchPost.err {w w' : World} (k : Int) (ht : Touch [] w w') : SchPost (k, []) w (.returned (.tuple #[.slice none 0 0, .int .i64 k])) w' := ⟨none, 0, rfl, (Made.nil _ _ _ _).touch0 ht⟩

set_option maxRecDepth 20000 in
set_option maxHeartbeats 6400000 in
theorem groupSchema_any (x : PC) (names : List ByteArray) (aggs : List AG) (hnn : x.names.n = names.length) (han : x.aggs.n = aggs.length) (SA : Option Addr) (c1 n1 : Nat) (a : List CD) (h1 : a.length = n1) (hl1 : n1 ≤ 1000000) (hln : names.length ≤ 100000) (hla : aggs.length ≤ 100000) (w : World)
    (hr : RdK btE w x.names.A names) (hg : RdK agE w x.aggs.A aggs) (ha : ColsAt w SA a) :
    Calls Tryz.prog 92 #[x.val, .slice SA n1 c1] w (SchPost (groupV a names aggs) w) := by
  subst h1
  have Hv := Lib.hid (show groupV a names aggs = match gnL a [] names with | none => (13, []) | some l => gaL a l aggs from rfl)
  obtain ⟨V, hV⟩ : ∃ V, V = groupV a names aggs := ⟨_, rfl⟩
  rw [← hV] at Hv ⊢
  clear hV
  have HRD := Lib.hid (And.intro hr (And.intro hg ha))
  obtain ⟨k0, k1, ⟨A2, n2, c2'⟩, ⟨⟨ck, cn, ⟨cvk, cvn, cvt⟩, cop⟩, CA, cnn, cc⟩, ⟨NA, nn, nc⟩, ⟨EA, en, ec⟩, ⟨OA, ol, oc⟩, ⟨GA, gn, gc⟩, ⟨BA, bn, bc⟩, count⟩ := x
  simp only [PC.val] at *
  subst hnn han
  obtain ⟨W, hW⟩ : ∃ W, W = w.alloc (.cells #[.int .i64 k0, .string k1, .slice A2 n2 c2', .int .i64 ck, .string cn, .int .i64 cvk, .int .i64 cvn, .string cvt, .string cop, .slice CA cnn cc, .slice NA names.length nc, .slice EA en ec, .slice OA ol oc, .slice GA aggs.length gc, .slice BA bn bc, .int .i64 count] 49) := ⟨_, rfl⟩
  have t0 : Touch [] w W := hW ▸ (Touch.refl [] w).alloc _
  have hb0 := hW ▸ heap_alloc_new w (.cells #[.int .i64 k0, .string k1, .slice A2 n2 c2', .int .i64 ck, .string cn, .int .i64 cvk, .int .i64 cvn, .string cvt, .string cop, .slice CA cnn cc, .slice NA names.length nc, .slice EA en ec, .slice OA ol oc, .slice GA aggs.length gc, .slice BA bn bc, .int .i64 count] 49)
  have c10 : W.cell? ⟨w.heap.size, 10, none⟩ = some (.slice NA names.length nc) := cell_blk hb0 rfl
  have c13 : W.cell? ⟨w.heap.size, 13, none⟩ = some (.slice GA aggs.length gc) := cell_blk hb0 rfl
  have HW := Lib.hid hW
  have HT0 := Lib.hid (And.intro t0 c13)
  have HRW := Lib.hid (And.intro (hr.touch0 t0) (And.intro (hg.touch0 t0) (ha.touch0 t0)))
  clear t0 hb0 hW c13 hr hg ha
  go_enter Tryz.func92, Tryz.ntmps92
  go_wp2_with fail
  rw [← HW.out]
  go_loopw [6, 18] (fun o i wr => ∃ (k : Nat) (A : Option Addr) (c : Nat) (acc : List CD), k ≤ names.length ∧ i = .int .i64 k ∧ o = .slice A k c ∧ Hid (acc.length = k) ∧ Hid (gnL a [] names = gnL a acc (names.drop k)) ∧ Hid (Made 29 2 cdE acc A c W wr)) (fun _ i _ => names.length - (intOf i).toNat)
  case atStart => exact ⟨0, none, 0, [], by omega, rfl, rfl, Lib.hid rfl, Lib.hid (by rw [List.drop_zero]), Lib.hid (Made.nil _ _ _ _)⟩
  case round =>
    obtain ⟨k, A, c, acc, hk, rfl, rfl, HL, Hd, HM⟩ := hrel
    by_cases hlt : k < names.length
    · obtain ⟨ad, b1, o1, rfl, hadd, hc⟩ := RdK.cells (HRW.out.1.touch0 HM.out.t) 1 btE_length (by omega) k hlt
      rw [Nat.mul_one] at hadd
      have e0 := hc 0 _ rfl
      rw [Nat.add_zero] at e0
      have hst := gnL_step a acc names k hlt
      obtain ⟨p, hp⟩ : ∃ p, p = names[k] := ⟨_, rfl⟩
      rw [← hp] at hst e0
      have hfa := fun w' (t : Touch [] W w') => findC_any SA c1 a.length a rfl p w' (HRW.out.2.2.touch0 t) (by omega)
      have hkn : (k : Int) < (names.length : Int) := by omega
      rcases hpa : placeV a p with _ | i
      · rw [hpa] at hfa
        have Hq2 := Lib.hid (show V = (13, []) by rw [Hv.out, Hd.out, hst, hpa])
        have Hfa := Lib.hid (hfa _ HM.out.t)
        clear hfa hpa hst hc hp
        go_wp2_with fail
        refine Hfa.out.mono ?_
        rintro e w1 ⟨rfl, t1⟩
        go_wp2
        go_ret2
        rw [Hq2.out]
        exact SchPost.err 13 ((HT0.out.1.trans0 HM.out.t).trans0 t1)
      · rw [hpa] at hfa
        have hil := placeV_lt hpa
        obtain ⟨ad2, b2, o2, rfl, hadd2, e2, e3⟩ := (HRW.out.2.2.touch0 HM.out.t).at_ i hil
        have hts : gnL a acc (names.drop k) = gnL a (acc ++ [a[i]]) (names.drop (k + 1)) := by
          rw [hst, hpa]; simp [hil]
        obtain ⟨cd, hcd⟩ : ∃ cd, cd = a[i] := ⟨_, rfl⟩
        rw [← hcd] at e2 e3 hts
        obtain ⟨cnm, cty⟩ := cd
        have hi0 : (0 : Int) ≤ (i : Int) := by omega
        have hin : (i : Int) < (a.length : Int) := by omega
        have Hn := Lib.hid (show gnL a [] names = gnL a (acc ++ [⟨cnm, cty⟩]) (names.drop (k + 1)) by rw [Hd.out, hts])
        have Hfa := Lib.hid (hfa _ HM.out.t)
        clear hfa hpa hst hc hp hts hcd
        go_wp2_with fail
        refine Hfa.out.mono ?_
        rintro e w1 ⟨rfl, t1⟩
        have e2' := t1.cell e2 (by simp)
        have e3' := t1.cell e3 (by simp)
        have HM1 := Lib.hid (HM.out.touch0 t1)
        clear t1 HM
        go_wp2_with (at_builtin; refine stop ?_)
        refine go ?_
        have ta := (Touch.refl [] w1).alloc (.cells #[.string cnm, .int .i64 cty] 29)
        refine wpList_appK (enc := cdE) rfl (.tmp 30) (.tmp 35) 24 rfl 29 _ 2 24 info_c5 Tryz.underlying24 rfl (by omega) cdE_length cdE_one A k c acc HL.out rfl (HM1.out.touch0 ta).own
          (some ⟨w1.heap.size, 0, none⟩) 1 1 [⟨cnm, cty⟩] rfl rfl (RdK.one (enc := cdE) w1 29 ⟨cnm, cty⟩ _ rfl) (by omega) (by omega) ?_
        intro A' c' w' hown ht hf
        have HX := Lib.hid ((HM1.out.touch0 ta).step hown ht hf)
        clear hown ht hf ta
        go_wp2_with fail
        go_roundw
        case rel => exact ⟨k + 1, A', c', acc ++ [⟨cnm, cty⟩], by omega, by go_num, rfl, Lib.hid (by rw [List.length_append, HL.out]; rfl), Hn, HX⟩
        case measure => simp [intOf]; omega
    · obtain rfl : k = names.length := by omega
      have Hl := Lib.hid (show V = gaL a acc (aggs.drop 0) by rw [Hv.out, Hd.out, List.drop_length, List.drop_zero]; rfl)
      have d13 := HM.out.t.cell HT0.out.2 (by simp)
      clear Hd Hv
      go_wp2_with fail
      go_loopw [6, 41] (fun o i w1 => ∃ (j m : Nat) (A : Option Addr) (c : Nat) (acc : List CD), j ≤ aggs.length ∧ m ≤ 200000 ∧ i = .int .i64 j ∧ o = .slice A m c ∧ Hid (acc.length = m ∧ m = names.length + j) ∧ Hid (V = gaL a acc (aggs.drop j)) ∧ Hid (Made 29 2 cdE acc A c W w1)) (fun _ i _ => aggs.length - (intOf i).toNat)
      case atStart => exact ⟨0, names.length, A, c, acc, by omega, by omega, rfl, rfl, Lib.hid ⟨HL.out, rfl⟩, Hl, HM⟩
      case round =>
        clear Hl HM HL hlt d13
        obtain ⟨j, m, A, c, acc, hj, hmb, rfl, rfl, HL, Hd, HM⟩ := hrel
        by_cases hlt : j < aggs.length
        · obtain ⟨ad, b1, o1, rfl, hadd, hc⟩ := RdK.cells (HRW.out.2.1.touch0 HM.out.t) 3 agE_length (by omega) j hlt
          have hst := gaL_step a acc aggs j hlt
          obtain ⟨p, hp⟩ : ∃ p, p = aggs[j] := ⟨_, rfl⟩
          rw [← hp] at hst hc
          have e0 := hc 0 _ rfl
          have e1 := hc 1 _ rfl
          have e2 := hc 2 _ rfl
          rw [Nat.add_zero] at e0
          have hag := fun w' (t : Touch [] W w') => agg_any p SA c1 a.length a rfl (by omega) w' (HRW.out.2.2.touch0 t)
          obtain ⟨op, col, nm⟩ := p
          dsimp only at e0 e1 e2 hag hst
          have ta := (Touch.refl [] wr).alloc (.cells #[.string op, .string col, .string nm] 79)
          have hbl := heap_alloc_new wr (.cells #[.string op, .string col, .string nm] 79)
          obtain ⟨g, hg⟩ : ∃ g, g = aggV a ⟨op, col, nm⟩ := ⟨_, rfl⟩
          rw [← hg] at hag hst
          obtain ⟨ty, er⟩ := g
          dsimp only at hag hst
          have hkn : (j : Int) < (aggs.length : Int) := by omega
          have Hag := Lib.hid (hag _ (HM.out.t.trans0 ta))
          have HTa := Lib.hid (And.intro ta hbl)
          by_cases her : er = 0
          · subst her
            have Hn := Lib.hid (show V = gaL a (acc ++ [⟨nm, ty⟩]) (aggs.drop (j + 1)) by rw [Hd.out, hst, if_pos rfl])
            clear hag hst hc hp hg ta hbl
            go_wp2_with fail
            refine Hag.out.mono ?_
            rintro e w1 ⟨rfl, t1⟩
            obtain ⟨g0, g1, g2, _, _, _⟩ := blk3 (t1.blk HTa.out.2 (by simp))
            have HM1 := Lib.hid ((HM.out.touch0 HTa.out.1).touch0 t1)
            clear t1 HM
            go_wp2_with (at_builtin; refine stop ?_)
            refine go ?_
            have ta := (Touch.refl [] w1).alloc (.cells #[.string nm, .int .i64 ty] 29)
            refine wpList_appK (enc := cdE) rfl (.tmp 54) (.tmp 59) 24 rfl 29 _ 2 24 info_c5 Tryz.underlying24 rfl (by omega) cdE_length cdE_one A m c acc HL.out.1 rfl (HM1.out.touch0 ta).own
              (some ⟨w1.heap.size, 0, none⟩) 1 1 [⟨nm, ty⟩] rfl rfl (RdK.one (enc := cdE) w1 29 ⟨nm, ty⟩ _ rfl) (by omega) (by omega) ?_
            intro A' c' w' hown ht hf
            have HX := Lib.hid ((HM1.out.touch0 ta).step hown ht hf)
            clear hown ht hf ta
            go_wp2_with fail
            go_roundw
            case rel => exact ⟨j + 1, m + 1, A', c', acc ++ [⟨nm, ty⟩], by omega, by have := HL.out.2; omega, by go_num, rfl, Lib.hid ⟨by rw [List.length_append, HL.out.1]; rfl, by rw [HL.out.2]; omega⟩, Hn, HX⟩
            case measure => simp [intOf]; omega
          · have Hn := Lib.hid (show V = (er, []) by rw [Hd.out, hst, if_neg her])
            have hq : (er == 0) = false := by rw [beq_eq_false_iff_ne]; exact her
            have hq' : (er != 0) = true := by rw [bne, hq]; rfl
            clear hag hst hc hp hg ta hbl
            go_wp2_with fail
            refine Hag.out.mono ?_
            rintro e w1 ⟨rfl, t1⟩
            go_wp2
            go_ret2
            rw [Hn.out]
            exact SchPost.err er (((HT0.out.1.trans0 HM.out.t).trans0 HTa.out.1).trans0 t1)
        · obtain rfl : j = aggs.length := by omega
          have Hn := Lib.hid (show V = (0, acc) by rw [Hd.out, List.drop_length]; rfl)
          clear Hd
          go_wp2
          go_ret2
          rw [Hn.out]
          obtain ⟨hm1, _⟩ := HL.out
          subst hm1
          exact ⟨A, c, rfl, HM.out.own, HT0.out.1.trans0 HM.out.t, fun b hb => Nat.le_trans HT0.out.1.size (HM.out.f b hb)⟩
end Go.Proofs.YtafoklilkdnepaaGreatDoor

/- slices.Grow, slices.Concat over columns. For every two schemas. -/
namespace Go.Proofs.YtafoklilkdnepaaGreatDoor
open Go.RowKit

theorem info_col : (Tryz.prog.info? 29).map (fun i => (i.zero, i.size, i.bytes)) = some (some (.agg #[.string ⟨#[]⟩, .int .i64 0]), 2, 24) := info_c5
/-- an owned slice without elements, with room -/
theorem OwnK.room {α : Type} (t k : Nat) (enc : α → List Value) (w : World) (c : Nat) (cells : Array Value) (hm : c ≤ maxLen) (hr : cells.size = c * k) : OwnK t k enc (w.alloc (.cells cells t)) (some ⟨w.heap.size, 0, none⟩) c [] :=
  ⟨by simp, .inr ⟨w.heap.size, c, cells, rfl, Nat.zero_le _, heap_alloc_new w _, Nat.zero_le _, hm, by rw [hr], by simp⟩⟩

set_option maxRecDepth 100000 in
set_option maxHeartbeats 800000 in
theorem growC_any (n : Nat) (hn : n ≤ 1000000) (w : World) :
    Calls Tryz.prog 129 #[.slice none 0 0, .int .i64 n] w fun e w' => ∃ A c, e = .returned (.slice A 0 c) ∧ Made 29 2 cdE [] A c w w' := by
  obtain ⟨i0, hi0, hz0, hz1, hz2⟩ := info_parts info_col
  go_enter Tryz.func129, Tryz.ntmps129
  by_cases h0 : n = 0
  · subst h0
    go_wp2
    go_ret
    exact ⟨none, 0, rfl, Made.nil _ _ _ _⟩
  · have hn0 : 0 < n := by omega
    have hge := grownCap_ge w n 0 29
    have hle := grownCap_le_maxLen w n 0 29 (by simp only [maxLen]; omega)
    have hold : (Builtin.firstCells i0.size 0 (.slice none 0 0)).run Tryz.prog w.drew = .ok ([] : List Value).toArray w.drew := run_firstCells_none w.drew i0.size 0 0 0
    have hrz : ∀ ty, (Builtin.append_ #[24, 3] ty #[.slice none 0 0, .int .i64 (n : Int)]).run Tryz.prog w = _ := fun ty =>
      Lib.run_append_grow_zeros w 24 3 ty 29 i0 (.agg #[.string ⟨#[]⟩, .int .i64 0]) .i64 .i64 Tryz.underlying24 Tryz.underlying3 hi0 hz0 none 0 0 [] hold n hn0 (by omega) (by omega) (by omega)
        (by rw [hz2]; omega) (by rw [hz2]; exact growslice_fits (by omega) (by omega))
    simp only [Nat.zero_add] at hrz
    have hsz : (([] : List Value).toArray ++ Builtin.zeroCells (Value.agg #[.string ⟨#[]⟩, .int .i64 0]).cells n ++ Builtin.zeroCells (Value.agg #[.string ⟨#[]⟩, .int .i64 0]).cells (grownCap w n 0 29 - n)).size = grownCap w n 0 29 * 2 := by
      rw [Array.size_append, Array.size_append, size_zeroCells, size_zeroCells]
      simp [Value.cells]
      omega
    have hcut := OwnK.room 29 2 cdE w.drew (grownCap w n 0 29) _ hle hsz
    obtain ⟨W, hW⟩ : ∃ W, W = w.drew.alloc (.cells (([] : List Value).toArray ++ Builtin.zeroCells (Value.agg #[.string ⟨#[]⟩, .int .i64 0]).cells n ++ Builtin.zeroCells (Value.agg #[.string ⟨#[]⟩, .int .i64 0]).cells (grownCap w n 0 29 - n)) 29) := ⟨_, rfl⟩
    obtain ⟨G, hG⟩ : ∃ G, G = grownCap w n 0 29 := ⟨_, rfl⟩
    have tW : Touch [] w W := by rw [hW]; exact ((Touch.refl [] w).drew).alloc _
    rw [← hW] at hrz hcut
    rw [← hG] at hrz hcut hge hle
    have hws : w.drew.heap.size = w.heap.size := rfl
    rw [hws] at hcut
    unfold maxLen at hle
    clear hW hG hold hsz hws
    go_wp2_with (at_builtin; refine Lib.wpList_append_run _ rfl _ _ _ _ rfl _ _ rfl rfl _ _ (hrz _) ?_)
    go_ret
    exact ⟨_, G, rfl, hcut, tW, by simp [fpo]⟩

set_option maxRecDepth 20000 in
set_option maxHeartbeats 3200000 in
/-- two schemas, one behind the other -/
theorem concatC_any (A1 A2 : Option Addr) (n1 n2 c1 c2 : Nat) (l1 l2 : List CD) (e1 : l1.length = n1) (e2 : l2.length = n2) (h1 : n1 ≤ 1000) (h2 : n2 ≤ 1000) (k1 : n1 ≤ c1) (k2 : n2 ≤ c2) (w : World) (r1 : ColsAt w A1 l1) (r2 : ColsAt w A2 l2) :
    Calls Tryz.prog 90 #[.slice (some ⟨w.heap.size, 0, none⟩) 2 2] (w.alloc (.cells #[.slice A1 n1 c1, .slice A2 n2 c2] 24)) fun e w' =>
      ∃ A c, e = .returned (.slice A (l1 ++ l2).length c) ∧ Made 29 2 cdE (l1 ++ l2) A c w w' := by
  subst e1 e2
  have t0 := (Touch.refl [] w).alloc (.cells #[.slice A1 l1.length c1, .slice A2 l2.length c2] 24)
  have hb := heap_alloc_new w (.cells #[.slice A1 l1.length c1, .slice A2 l2.length c2] 24)
  obtain ⟨W, hW⟩ : ∃ W, W = w.alloc (.cells #[.slice A1 l1.length c1, .slice A2 l2.length c2] 24) := ⟨_, rfl⟩
  have hWs : w.heap.size < W.heap.size := by rw [hW, World.size_alloc]; omega
  rw [← hW] at t0 hb ⊢
  have d0 := cell_blk hb (i := 0) rfl
  have d1 := cell_blk hb (i := 1) rfl
  have hlen : (l1 ++ l2).length = l1.length + l2.length := List.length_append
  have Hlen := Lib.hid hlen
  clear hW hlen
  go_enter Tryz.func90, Tryz.ntmps90
  go_wp2
  refine wp_loop_rounds 3 ?_
  rw [rounds_succ]
  go_wp2
  rw [rounds_succ]
  go_wp2
  rw [rounds_succ]
  go_wp2_with fail
  have hgr := growC_any (l1.length + l2.length) (by omega) W
  rw [Int.natCast_add] at hgr
  refine hgr.mono ?_
  rintro e w1 ⟨A3, c3, rfl, hm3⟩
  have b1 := hm3.t.blk hb (by simp)
  have f0 := cell_blk b1 (i := 0) rfl
  have f1 := cell_blk b1 (i := 1) rfl
  have T1 := t0.trans0 hm3.t
  go_wp2_with fail
  refine wp_loop_rounds 3 ?_
  rw [rounds_succ]
  go_wp2_with (at_builtin; refine stop ?_)
  refine go ?_
  refine wpList_appK rfl (.tmp 31) (.tmp 32) 24 rfl 29 _ 2 24 info_col Tryz.underlying24 rfl (by omega) cdE_length cdE_one A3 0 c3 [] rfl rfl hm3.own
    A1 l1.length c1 l1 rfl rfl (r1.touch0 T1) (by omega) (by omega) ?_
  intro A4 c4 w4 hown4 ht4 hf4
  have hm4 := hm3.step hown4 ht4 hf4
  have b4 := hm4.t.blk hb (by simp)
  have g0 := cell_blk b4 (i := 0) rfl
  have g1 := cell_blk b4 (i := 1) rfl
  rw [List.nil_append] at hm4
  go_wp2_with fail
  rw [rounds_succ]
  go_wp2_with (at_builtin; refine stop ?_)
  refine go ?_
  refine wpList_appK rfl (.tmp 31) (.tmp 32) 24 rfl 29 _ 2 24 info_col Tryz.underlying24 rfl (by omega) cdE_length cdE_one A4 l1.length c4 l1 rfl rfl hm4.own
    A2 l2.length c2 l2 rfl rfl (r2.touch0 (t0.trans0 hm4.t)) (by omega) (by omega) ?_
  intro A5 c5 w5 hown5 ht5 hf5
  have hm5 := hm4.step hown5 ht5 hf5
  go_wp2_with fail
  rw [rounds_succ]
  go_wp2
  go_ret
  exact ⟨A5, c5, ret_slice Hlen.out.symm, hm5.own, t0.trans0 hm5.t, fun b hb => by have := hm5.f b hb; omega⟩

end Go.Proofs.YtafoklilkdnepaaGreatDoor
