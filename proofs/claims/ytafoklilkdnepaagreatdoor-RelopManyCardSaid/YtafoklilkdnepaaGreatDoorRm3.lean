/- Part 3 of the texts of this proof, one behind the other; each begins with its own sentence. No condition beyond those that its theorems state. -/
import Derived.Test.YtafoklilkdnepaaGreatDoorRm2
import Derived.WalkSpells
import Derived.Lib.ItoaLen
import Derived.BigRegion
import Derived.BigQuiet
import Derived.IntWalk
/- slices.Index, slices.Contains at strings; value.Of. For all. -/
namespace Go.Proofs.YtafoklilkdnepaaGreatDoor
open Go.RowKit

def strO (l : List ByteArray) (s : ByteArray) : Option Nat := l.findIdx? fun x => decide (s = x)
def strN (l : List ByteArray) (s : ByteArray) : Int := match strO l s with | some k => (k : Int) | none => -1
theorem strO_some {l : List ByteArray} {s : ByteArray} {k : Nat} (h : k < l.length) (hk : s = l[k]) (hno : ∀ j (hj : j < k), s ≠ l[j]) : strO l s = some k := by
  unfold strO
  rw [List.findIdx?_eq_some_iff_getElem]
  exact ⟨h, by simpa using hk, fun j hj => by simpa using hno j hj⟩
theorem strO_none {l : List ByteArray} {s : ByteArray} (hno : ∀ j (hj : j < l.length), s ≠ l[j]) : strO l s = none := by
  unfold strO
  rw [List.findIdx?_eq_none_iff]
  intro c hc
  obtain ⟨j, hj, rfl⟩ := List.mem_iff_getElem.1 hc
  simpa using hno j hj
def memS (l : List ByteArray) (s : ByteArray) : Bool := l.any fun x => decide (s = x)
theorem strN_mem (l : List ByteArray) (s : ByteArray) : decide (0 ≤ strN l s) = memS l s := by
  by_cases h : s ∈ l
  · have h2 : memS l s = true := List.any_eq_true.2 ⟨s, h, decide_eq_true rfl⟩
    have : strO l s ≠ none := by
      unfold strO
      rw [Ne, List.findIdx?_eq_none_iff]
      intro hn
      have := hn s h
      simp at this
    unfold strN
    rw [h2]
    rcases hs : strO l s with _ | k
    · exact absurd hs this
    · simp
  · have : strO l s = none := strO_none fun j hj e => h (e ▸ List.getElem_mem hj)
    have h2 : memS l s = false := List.any_eq_false.2 fun x hx => by
      have : s ≠ x := fun e => h (e ▸ hx)
      simpa using this
    unfold strN
    rw [this, h2]
    simp
theorem strN_b (l : List ByteArray) (s : ByteArray) : -1 ≤ strN l s ∧ strN l s ≤ l.length := by
  unfold strN
  rcases hs : strO l s with _ | k
  · dsimp only; omega
  · have := (List.findIdx?_eq_some_iff_getElem.1 hs).1
    dsimp only; omega

set_option maxRecDepth 20000 in
set_option maxHeartbeats 1600000 in
theorem indexS_any (A : Option Addr) (c n : Nat) (l : List ByteArray) (hn : l.length = n) (s : ByteArray) (w : World) (h : RdK btE w A l) (hl : n ≤ 140737000000000) :
    Calls Tryz.prog 184 #[.slice A n c, .string s] w fun e w' => e = .returned (.int .i64 (strN l s)) ∧ Touch [] w w' := by
  subst hn
  go_enter Tryz.func184, Tryz.ntmps184
  go_wp2
  go_loopw [8] (fun i wr => ∃ k : Nat, k ≤ l.length ∧ i = .int .i64 k ∧ Hid (∀ j (hj : j < k) (hl : j < l.length), s ≠ l[j]) ∧ Touch [] w wr) (fun i _ => l.length - (intOf i).toNat)
  case atStart => exact ⟨0, by omega, rfl, Lib.hid (fun j hj => absurd hj (by omega)), Touch.refl _ _⟩
  case round =>
    obtain ⟨k, hk, rfl, Hno, ht⟩ := hrel
    by_cases hlt : k < l.length
    · obtain ⟨ad, b, off, rfl, hadd, hc⟩ := RdK.cells (h.touch0 ht) 1 btE_length (by omega) k hlt
      rw [Nat.mul_one] at hadd
      have c0 := hc 0 _ rfl
      rw [Nat.add_zero] at c0
      have hyes := strO_some (s := s) hlt
      obtain ⟨x, hx⟩ : ∃ x, x = l[k] := ⟨_, rfl⟩
      rw [← hx] at c0 hyes
      have Hx := Lib.hid hx; have Hyes := Lib.hid hyes
      clear hx hyes hc
      by_cases hcs : s = x
      · have Hp := Lib.hid (Hyes.out hcs (fun j hj => Hno.out j hj (by omega)))
        have hb : (s.toList == x.toList) = true := by rw [bs_beq]; exact decide_eq_true hcs
        clear hcs
        go_wp2
        go_ret
        exact ⟨ret_int (by unfold strN; rw [Hp.out]), ht⟩
      · have hb : (s.toList == x.toList) = false := by rw [bs_beq]; exact decide_eq_false hcs
        have Hcs := Lib.hid hcs
        clear hcs
        go_wp2
        go_roundw
        case rel => exact ⟨k + 1, by omega, by go_num, Lib.hid (fun j hj hl => by
          by_cases hjk : j = k
          · subst hjk; rw [← Hx.out]; exact Hcs.out
          · exact Hno.out j (by omega) hl), ht⟩
        case measure => simp [intOf]; omega
    · obtain rfl : k = l.length := by omega
      have Hp := Lib.hid (strO_none (l := l) (s := s) (fun j hj => Hno.out j hj hj))
      go_wp2
      go_ret
      exact ⟨ret_int (by unfold strN; rw [Hp.out]), ht⟩

set_option maxHeartbeats 800000 in
theorem containsS_any (A : Option Addr) (c n : Nat) (l : List ByteArray) (hn : l.length = n) (s : ByteArray) (w : World) (h : RdK btE w A l) (hl : n ≤ 140737000000000) :
    Calls Tryz.prog 167 #[.slice A n c, .string s] w fun e w' => e = .returned (.bool (memS l s)) ∧ Touch [] w w' := by
  have hi := indexS_any A c n l hn s w h hl
  have hm := strN_mem l s
  have hb := strN_b l s
  obtain ⟨i, hie⟩ : ∃ i, i = strN l s := ⟨_, rfl⟩
  rw [← hie] at hi hm hb
  have Hi := Lib.hid hi
  have Hm := Lib.hid hm
  clear hi hm hie
  go_enter Tryz.func167, Tryz.ntmps167
  go_wp2_with fail
  refine Hi.out.mono ?_
  rintro e w1 ⟨rfl, t1⟩
  go_wp2
  go_ret
  exact ⟨ret_bool (by rw [← Hm.out]), t1⟩

set_option maxRecDepth 20000 in
set_option maxHeartbeats 800000 in
theorem of_num (n : Int) (w : World) : Calls Tryz.prog 11 #[.int .i64 n] w fun e w' => e = .returned (.agg #[.int .i64 1, .int .i64 n, .string ⟨#[]⟩]) ∧ Touch [] w w' := by
  go_enter Tryz.func11, Tryz.ntmps11
  go_wp2_with fail
  refine bodyPost_ret (results_cell_row rfl _ _ w.heap.size _ _ _ _ rfl (heap_alloc_new w _) Tryz.underlying31 rfl rfl) rfl ⟨rfl, (Touch.refl _ _).alloc _⟩
end Go.Proofs.YtafoklilkdnepaaGreatDoor

/- Rows of values of the calls' own, in a slice of slices: how one more row comes to them. No program's function. -/
namespace Go.Proofs.YtafoklilkdnepaaGreatDoor
open Go.RowKit

/-- slices of the calls' own that lead to rows -/
def OwnR (t : TypeId) (base : Nat) (w : World) (B : Option Addr) (c : Nat) (rows : List (List VD)) : Prop :=
  ∃ sl, SlsAt w sl rows ∧ OwnK t 1 slE w B c sl ∧ ∀ s ∈ sl, ∀ b ∈ fpo s.A, b ∉ fpo B ∧ b < w.heap.size ∧ base ≤ b
theorem OwnR.nil (t : TypeId) (base : Nat) (w : World) : OwnR t base w none 0 [] := ⟨[], ⟨rfl, fun i h => absurd h (by simp)⟩, OwnK.nil _ _ _ _, by simp⟩
theorem OwnR.rowsAt {t base : Nat} {w : World} {B : Option Addr} {c : Nat} {rows : List (List VD)} (h : OwnR t base w B c rows) : RowsAt w B rows := by
  obtain ⟨sl, h1, h2, _⟩ := h
  exact ⟨sl, h1, h2.rd⟩
theorem OwnR.lt {t base : Nat} {w : World} {B : Option Addr} {c : Nat} {rows : List (List VD)} (h : OwnR t base w B c rows) : ∀ b ∈ fpo B, b < w.heap.size := by
  obtain ⟨sl, h1, h2, _⟩ := h
  exact h2.lt
theorem SlsAt.touch {w w' : World} {sl : List SL} {rows : List (List VD)} {fp : List Nat} (h : SlsAt w sl rows) (ht : Touch fp w w') (hn : ∀ s ∈ sl, ∀ b ∈ fpo s.A, b ∉ fp) : SlsAt w' sl rows :=
  ⟨h.1, fun i a b => ⟨(h.2 i a b).1, RdK.touch (h.2 i a b).2 ht (hn _ (List.getElem_mem a))⟩⟩
theorem OwnR.touch {t base : Nat} {w w' : World} {B : Option Addr} {c : Nat} {rows : List (List VD)} {fp : List Nat} (h : OwnR t base w B c rows) (ht : Touch fp w w') (hfp : ∀ b ∈ fp, b < base) (hB : ∀ b ∈ fpo B, base ≤ b) : OwnR t base w' B c rows := by
  obtain ⟨sl, h1, h2, h3⟩ := h
  exact ⟨sl, h1.touch ht (fun s hs b hb hm => by have := hfp b hm; have := (h3 s hs b hb).2.2; omega), h2.touch ht (fun b hb hm => by have := hfp b hm; have := hB b hb; omega), fun s hs b hb => ⟨(h3 s hs b hb).1, Nat.lt_of_lt_of_le (h3 s hs b hb).2.1 ht.size, (h3 s hs b hb).2.2⟩⟩
theorem OwnR.touch0 {t base : Nat} {w w' : World} {B : Option Addr} {c : Nat} {rows : List (List VD)} (h : OwnR t base w B c rows) (ht : Touch [] w w') : OwnR t base w' B c rows := by
  obtain ⟨sl, h1, h2, h3⟩ := h
  exact ⟨sl, h1.touch ht (fun _ _ _ _ => by simp), h2.touch0 ht, fun s hs b hb => ⟨(h3 s hs b hb).1, Nat.lt_of_lt_of_le (h3 s hs b hb).2.1 ht.size, (h3 s hs b hb).2.2⟩⟩

/-- append of one more row -/
theorem wpList_appR {w : World} {ops : Array Oper} {rest : List Oper} {o : Oper} {a : Act} {Q : Exit → Act → World → Prop} (hgd : o.guard = none) (s x : Operand) (t : TypeId)
    (ho : o.op = .call { callee := .builtin .append, args := #[s, x], argTypes := #[t, t] })
    (e : TypeId) (hinfo : (Tryz.prog.info? e).map (fun i => (i.zero, i.size, i.bytes)) = some (some (.slice none 0 0), 1, 24)) (ht : Tryz.prog.underlying t = some (.slice e))
    (base : Nat) (B : Option Addr) (m c : Nat) (rows : List (List VD)) (hm : rows.length = m) (hs : a.eval s = .slice B m c) (hown : OwnR e base w B c rows)
    (A : Option Addr) (ca : Nat) (r : List VD) (hr : ValsAt w A r) (hA : ∀ b ∈ fpo A, b ∉ fpo B ∧ b < w.heap.size ∧ base ≤ b)
    (g : Nat) (hx : a.eval x = .slice (some ⟨w.heap.size, 0, none⟩) 1 g) (h63 : m + 1 ≤ 1000000000) {cs : Array Value} (hcs : cs.toList = [.slice A r.length ca])
    (h : ∀ B' c' w', OwnR e base w' B' c' (rows ++ [r]) → Touch (fpo B) (w.alloc (.cells cs e)) w' → (∀ b ∈ fpo B', b ∈ fpo B ∨ b = w.heap.size + 1) → wpList Tryz.prog ops Q rest (a.put o.dst (.slice B' (m + 1) c')) w') :
    wpList Tryz.prog ops Q (o :: rest) a (w.alloc (.cells cs e)) := by
  obtain ⟨sl, h1, h2, h3⟩ := hown
  have ta := (Touch.refl [] w).alloc (.cells cs e)
  refine wpList_appK (enc := slE) hgd s x t ho e (.slice none 0 0) 1 24 hinfo ht rfl (by omega) slE_length slE_one B m c sl (by rw [h1.1, hm]) hs (h2.touch0 ta)
    (some ⟨w.heap.size, 0, none⟩) 1 g [⟨A, r.length, ca⟩] rfl hx (RdK.one (enc := slE) w e ⟨A, r.length, ca⟩ cs hcs) h63 (by omega) ?_
  intro B' c' w' hown' t' hf'
  rw [World.size_alloc] at hf'
  have hw := ta.size
  refine h B' c' w' ⟨sl ++ [⟨A, r.length, ca⟩], ⟨by rw [List.length_append, List.length_append, h1.1]; rfl, fun i a1 b1 => ?_⟩, hown', fun s' hs' b hb => ?_⟩ t' hf'
  · by_cases hi : i < sl.length
    · have hi2 : i < rows.length := by rw [← h1.1]; exact hi
      rw [List.getElem_append_left hi, List.getElem_append_left hi2]
      have := h1.2 i hi hi2
      exact ⟨this.1, RdK.touch (RdK.touch0 this.2 ta) t' (fun b hb => (h3 _ (List.getElem_mem hi) b hb).1)⟩
    · have hi' : i = sl.length := by rw [List.length_append] at a1; simp at a1; omega
      subst hi'
      have e1 : (sl ++ [(⟨A, r.length, ca⟩ : SL)])[sl.length] = ⟨A, r.length, ca⟩ := by rw [List.getElem_append_right (Nat.le_refl _)]; simp
      have e2 : (rows ++ [r])[sl.length] = r := by rw [List.getElem_append_right (by rw [h1.1]; exact Nat.le_refl _)]; simp [h1.1]
      rw [e1, e2]
      exact ⟨rfl, RdK.touch (RdK.touch0 hr ta) t' (fun b hb => (hA b hb).1)⟩
  · have key : b ∉ fpo B ∧ b < w.heap.size ∧ base ≤ b := by
      rcases List.mem_append.1 hs' with q | q
      · exact h3 s' q b hb
      · simp only [List.mem_singleton] at q
        subst q
        exact hA b hb
    refine ⟨fun hm' => ?_, Nat.lt_of_lt_of_le key.2.1 (Nat.le_trans hw t'.size), key.2.2⟩
    rcases hf' b hm' with q | q
    · exact key.1 q
    · have := key.2.1; omega
end Go.Proofs.YtafoklilkdnepaaGreatDoor

/- Rows of the calls' own: one cell read, one cell set, a row just made. No program's function. -/
namespace Go.Proofs.YtafoklilkdnepaaGreatDoor
open Go.RowKit

theorem frozen_blk {w : World} {g : Nat} {cs : Array Value} {t : TypeId} (h : w.heap[g]? = some (.cells cs t (0, 0))) (i : Nat) : w.frozen? ⟨g, i, none⟩ = false := by simp [World.frozen?, h]
theorem lt_blk {w : World} {g : Nat} {o : Obj} (h : w.heap[g]? = some o) : g < w.heap.size := (Array.getElem?_eq_some_iff.1 h).1
theorem add_blk (g j : Nat) : (⟨g, 0, none⟩ : Addr).add j = ⟨g, j, none⟩ := by unfold Addr.add; split <;> simp_all

theorem OwnK.free_ {α : Type} {t k : Nat} {enc : α → List Value} {w : World} {G c : Nat} {xs : List α} (h : OwnK t k enc w (some ⟨G, 0, none⟩) c xs) (i : Nat) : w.frozen? ⟨G, i, none⟩ = false := by
  rcases h.2 with ⟨hv, _⟩ | ⟨g, cap, cur, hv, _, hg, _, _, _, _⟩
  · injection hv with hA; cases hA
  · have hA : (some ⟨G, 0, none⟩ : Option Addr) = some ⟨g, 0, none⟩ := by injection hv
    injection hA with hA; injection hA with hG; subst hG
    simp [World.frozen?, hg]
theorem flat_set {α β : Type} (enc : α → List β) (k : Nat) (hk : ∀ x, (enc x).length = k) (v : β) (o : Nat) (ho : o < k) : ∀ (xs : List α) (i : Nat) (hi : i < xs.length) (y : α), enc y = (enc xs[i]).set o v → (xs.set i y).flatMap enc = (xs.flatMap enc).set (i * k + o) v
  | [], i => fun hi => absurd hi (by simp)
  | x :: xs, 0 => fun _ y hy => by
    rw [List.set_cons_zero, List.flatMap_cons, List.flatMap_cons, hy, List.getElem_cons_zero, Nat.zero_mul, Nat.zero_add, List.set_append_left _ _ (by rw [hk]; exact ho)]
  | x :: xs, i + 1 => fun hi y hy => by
    have ih := flat_set enc k hk v o ho xs i (by simpa using hi) y (by simpa using hy)
    have e1 : (i + 1) * k + o = k + (i * k + o) := by rw [Nat.add_mul]; omega
    rw [List.set_cons_succ, List.flatMap_cons, List.flatMap_cons, ih, List.set_append_right _ _ (by rw [hk, e1]; omega), hk, e1, Nat.add_sub_cancel_left]
theorem OwnK.set {α : Type} {t k : Nat} {enc : α → List Value} {w : World} {G c : Nat} {xs : List α} (h : OwnK t k enc w (some ⟨G, 0, none⟩) c xs) (hk : ∀ x, (enc x).length = k) (i : Nat) (hi : i < xs.length) (o : Nat) (ho : o < k) (v : Value) (y : α)
    (hy : enc y = (enc xs[i]).set o v) : OwnK t k enc (w.setCell ⟨G, i * k + o, none⟩ v) (some ⟨G, 0, none⟩) c (xs.set i y) := by
  have := (World.ownsRow.stored h (i * k + o) v).1
  unfold OwnK
  rw [List.length_set, flat_set enc k hk v o ho xs i hi y hy]
  exact this
/-- a store into a row whose elements have one cell -/
theorem OwnK.set1 {α : Type} {t : Nat} {val : α → Value} {w : World} {G c : Nat} {xs : List α} (h : OwnK t 1 (fun x => [val x]) w (some ⟨G, 0, none⟩) c xs) (i : Nat) (hi : i < xs.length) (y : α) : OwnK t 1 (fun x => [val x]) (w.setCell ⟨G, i, none⟩ (val y)) (some ⟨G, 0, none⟩) c (xs.set i y) := by
  have := h.set (fun _ => rfl) i hi 0 (by omega) (val y) y rfl
  rwa [Nat.mul_one] at this
theorem flat_one {α : Type} {val : α → Value} (xs : List α) : (xs.flatMap fun x => [val x]) = xs.map val := by
  induction xs with
  | nil => rfl
  | cons x xs ih => rw [List.flatMap_cons, ih]; rfl
/-- what a cell of such a row holds -/
theorem OwnK.cell1 {α : Type} {t : Nat} {val : α → Value} {w : World} {G c : Nat} {xs : List α} (h : OwnK t 1 (fun x => [val x]) w (some ⟨G, 0, none⟩) c xs) (i : Nat) (hi : i < xs.length) : w.cell? ⟨G, i, none⟩ = some (val xs[i]) := by
  have := World.ownsRow.cells h (g := G) rfl i (val xs[i]) (by rw [flat_one]; simp [hi])
  rwa [add_blk] at this
/-- a row just made -/
theorem OwnK.made {α : Type} (t : Nat) (val : α → Value) (w : World) (n : Nat) (z : α) (hn : n ≤ maxLen) : OwnK t 1 (fun x => [val x]) (w.alloc (.cells (madeCells #[val z] n) t)) (some ⟨w.heap.size, 0, none⟩) n (List.replicate n z) := by
  refine ⟨by simp, .inr ⟨w.heap.size, n, madeCells #[val z] n, by simp, Nat.zero_le _, heap_alloc_new w _, by simp, hn, ?_, ?_⟩⟩
  · rw [madeCells_one]; simp
  · rw [madeCells_one, flat_one]; simp
theorem OwnK.mono {α : Type} {t k : Nat} {enc : α → List Value} {w : World} {A : Option Addr} {c : Nat} {xs : List α} (h : OwnK t k enc w A c xs) {w' : World} (hb : ∀ b ∈ fpo A, w'.heap[b]? = w.heap[b]?) : OwnK t k enc w' A c xs := by
  refine ⟨h.1, ?_⟩
  rcases h.2 with hv | ⟨g, cap, cur, hv, hb', hg, rest⟩
  · exact .inl hv
  · have hA : A = some ⟨g, 0, none⟩ := by injection hv
    subst hA
    exact .inr ⟨g, cap, cur, hv, hb', by rw [hb g (by simp [fpo])]; exact hg, rest⟩

end Go.Proofs.YtafoklilkdnepaaGreatDoor

/- slices.Clone at values, at columns, at slices of values: of whatever slice. (gen_clone.py) -/
namespace Go.Proofs.YtafoklilkdnepaaGreatDoor
open Go.RowKit

theorem info_v5 : (Tryz.prog.info? 31).map (fun i => (i.zero, i.size, i.bytes)) = some (some (.agg #[.int .i64 0, .int .i64 0, .string ⟨#[]⟩]), 3, 32) := by kernel_rfl
theorem info_c5 : (Tryz.prog.info? 29).map (fun i => (i.zero, i.size, i.bytes)) = some (some (.agg #[.string ⟨#[]⟩, .int .i64 0]), 2, 24) := by kernel_rfl
theorem info_r5 : (Tryz.prog.info? 33).map (fun i => (i.zero, i.size, i.bytes)) = some (some (.slice none 0 0), 1, 24) := by kernel_rfl
theorem RdK.none_nil {α : Type} {enc : α → List Value} (k : Nat) (hk : ∀ x, (enc x).length = k) (h0 : 0 < k) {w : World} {l : List α} (h : RdK enc w none l) : l = [] := by
  rcases l with _ | ⟨x, l⟩
  · rfl
  · obtain ⟨ad, b, off, e, _⟩ := RdK.at_ h k hk h0 0 (by simp)
    cases e

set_option maxRecDepth 20000 in
set_option maxHeartbeats 1000000 in
theorem cloneV_any (A : Option Addr) (c n : Nat) (l : List VD) (hn : l.length = n) (hl : n ≤ 1000000) (w : World) (h : RdK vdE w A l) :
    Calls Tryz.prog 126 #[.slice A n c] w fun e w' => ∃ A' c', e = .returned (.slice A' n c') ∧ Made 31 3 vdE l A' c' w w' := by
  rcases A with _ | ad
  · have hl0 := RdK.none_nil 3 vdE_length (by omega) h
    subst hl0
    obtain rfl : n = 0 := by simpa using hn.symm
    go_enter Tryz.func126, Tryz.ntmps126
    have hnil := run_eql_slice_nil (P := Tryz.prog) w 33 31 none 0 c Tryz.underlying33
    go_wp2
    go_ret
    exact ⟨none, 0, rfl, Made.nil _ _ _ _⟩
  · subst hn
    have ho := OwnK.empty_new 31 3 vdE w
    have tb := (Touch.refl [] w).alloc (.cells #[] 31)
    have HO := Lib.hid (And.intro ho (And.intro (RdK.touch0 h tb) tb))
    clear ho tb
    go_enter Tryz.func126, Tryz.ntmps126
    have hnil := run_eql_slice_nil (P := Tryz.prog) w 33 31 (some ad) l.length c Tryz.underlying33
    go_wp2_with (at_builtin; refine stop ?_)
    refine go ?_
    refine wpList_appK (enc := vdE) rfl (.tmp 5) (.tmp 6) 33 rfl 31 (.agg #[.int .i64 0, .int .i64 0, .string ⟨#[]⟩]) 3 32 info_v5 Tryz.underlying33 rfl (by omega) vdE_length vdE_one (some ⟨w.heap.size, 0, none⟩) 0 0 [] rfl rfl HO.out.1 (some ad) l.length c l rfl rfl HO.out.2.1 (by omega) (by omega) ?_
    intro A3 c3 w3 hown3 ht3 hf3
    have H3 := Lib.hid (And.intro hown3 (And.intro ht3 hf3))
    clear hown3 ht3 hf3
    go_wp2
    go_ret
    obtain ⟨hown3, ht3, hf3⟩ := H3.out
    refine ⟨A3, c3, by first | rfl | (simp; rfl) | simp, by simpa using hown3, HO.out.2.2.trans ht3 (fun b hb => by simp [fpo] at hb; subst hb; exact .inr (Nat.le_refl _)), fun b hb => ?_⟩
    rcases hf3 b hb with e | e
    · simp [fpo] at e; omega
    · rw [World.size_alloc] at e; omega

set_option maxRecDepth 20000 in
set_option maxHeartbeats 1000000 in
theorem cloneC_any (A : Option Addr) (c n : Nat) (l : List CD) (hn : l.length = n) (hl : n ≤ 1000000) (w : World) (h : RdK cdE w A l) :
    Calls Tryz.prog 67 #[.slice A n c] w fun e w' => ∃ A' c', e = .returned (.slice A' n c') ∧ Made 29 2 cdE l A' c' w w' := by
  rcases A with _ | ad
  · have hl0 := RdK.none_nil 2 cdE_length (by omega) h
    subst hl0
    obtain rfl : n = 0 := by simpa using hn.symm
    go_enter Tryz.func67, Tryz.ntmps67
    have hnil := run_eql_slice_nil (P := Tryz.prog) w 24 29 none 0 c Tryz.underlying24
    go_wp2
    go_ret
    exact ⟨none, 0, rfl, Made.nil _ _ _ _⟩
  · subst hn
    have ho := OwnK.empty_new 29 2 cdE w
    have tb := (Touch.refl [] w).alloc (.cells #[] 29)
    have HO := Lib.hid (And.intro ho (And.intro (RdK.touch0 h tb) tb))
    clear ho tb
    go_enter Tryz.func67, Tryz.ntmps67
    have hnil := run_eql_slice_nil (P := Tryz.prog) w 24 29 (some ad) l.length c Tryz.underlying24
    go_wp2_with (at_builtin; refine stop ?_)
    refine go ?_
    refine wpList_appK (enc := cdE) rfl (.tmp 5) (.tmp 6) 24 rfl 29 (.agg #[.string ⟨#[]⟩, .int .i64 0]) 2 24 info_c5 Tryz.underlying24 rfl (by omega) cdE_length cdE_one (some ⟨w.heap.size, 0, none⟩) 0 0 [] rfl rfl HO.out.1 (some ad) l.length c l rfl rfl HO.out.2.1 (by omega) (by omega) ?_
    intro A3 c3 w3 hown3 ht3 hf3
    have H3 := Lib.hid (And.intro hown3 (And.intro ht3 hf3))
    clear hown3 ht3 hf3
    go_wp2
    go_ret
    obtain ⟨hown3, ht3, hf3⟩ := H3.out
    refine ⟨A3, c3, by first | rfl | (simp; rfl) | simp, by simpa using hown3, HO.out.2.2.trans ht3 (fun b hb => by simp [fpo] at hb; subst hb; exact .inr (Nat.le_refl _)), fun b hb => ?_⟩
    rcases hf3 b hb with e | e
    · simp [fpo] at e; omega
    · rw [World.size_alloc] at e; omega

set_option maxRecDepth 20000 in
set_option maxHeartbeats 1000000 in
theorem cloneR_any (A : Option Addr) (c n : Nat) (l : List SL) (hn : l.length = n) (hl : n ≤ 1000000) (w : World) (h : RdK slE w A l) :
    Calls Tryz.prog 141 #[.slice A n c] w fun e w' => ∃ A' c', e = .returned (.slice A' n c') ∧ Made 33 1 slE l A' c' w w' := by
  rcases A with _ | ad
  · have hl0 := RdK.none_nil 1 slE_length (by omega) h
    subst hl0
    obtain rfl : n = 0 := by simpa using hn.symm
    go_enter Tryz.func141, Tryz.ntmps141
    have hnil := run_eql_slice_nil (P := Tryz.prog) w 25 33 none 0 c Tryz.underlying25
    go_wp2
    go_ret
    exact ⟨none, 0, rfl, Made.nil _ _ _ _⟩
  · subst hn
    have ho := OwnK.empty_new 33 1 slE w
    have tb := (Touch.refl [] w).alloc (.cells #[] 33)
    have HO := Lib.hid (And.intro ho (And.intro (RdK.touch0 h tb) tb))
    clear ho tb
    go_enter Tryz.func141, Tryz.ntmps141
    have hnil := run_eql_slice_nil (P := Tryz.prog) w 25 33 (some ad) l.length c Tryz.underlying25
    go_wp2_with (at_builtin; refine stop ?_)
    refine go ?_
    refine wpList_appK (enc := slE) rfl (.tmp 5) (.tmp 6) 25 rfl 33 (.slice none 0 0) 1 24 info_r5 Tryz.underlying25 rfl (by omega) slE_length slE_one (some ⟨w.heap.size, 0, none⟩) 0 0 [] rfl rfl HO.out.1 (some ad) l.length c l rfl rfl HO.out.2.1 (by omega) (by omega) ?_
    intro A3 c3 w3 hown3 ht3 hf3
    have H3 := Lib.hid (And.intro hown3 (And.intro ht3 hf3))
    clear hown3 ht3 hf3
    go_wp2
    go_ret
    obtain ⟨hown3, ht3, hf3⟩ := H3.out
    refine ⟨A3, c3, by first | rfl | (simp; rfl) | simp, by simpa using hown3, HO.out.2.2.trans ht3 (fun b hb => by simp [fpo] at hb; subst hb; exact .inr (Nat.le_refl _)), fun b hb => ?_⟩
    rcases hf3 b hb with e | e
    · simp [fpo] at e; omega
    · rw [World.size_alloc] at e; omega
end Go.Proofs.YtafoklilkdnepaaGreatDoor

/- relop.places, picked, null, keyOf. For every rows and names. -/
namespace Go.Proofs.YtafoklilkdnepaaGreatDoor
open Go.RowKit

def naE (n : Nat) : List Value := [.int .i64 n]
theorem naE_length (n : Nat) : (naE n).length = 1 := rfl
theorem naE_one (n : Nat) : ∀ u ∈ naE n, u.oneCell' = true := by
  intro u hu
  simp only [naE, List.mem_cons, List.not_mem_nil, or_false] at hu
  subst hu; rfl
theorem info_i5 : (Tryz.prog.info? 3).map (fun i => (i.zero, i.size, i.bytes)) = some (some (.int .i64 0), 1, 8) := by kernel_rfl
/-- where columns are -/
def placesV (cs : List CD) (names : List ByteArray) : List Nat := names.map fun n => (placeV cs n).getD 0
/-- a row's values at some places -/
def pickV (r : List VD) (at_ : List Nat) : List VD := at_.map fun i => r.getD i ⟨0, 0, ⟨#[]⟩⟩
def nullV (l : List VD) : Bool := l.any fun v => decide (v.kind = 0)

set_option maxRecDepth 20000 in
set_option maxHeartbeats 6400000 in
theorem places_any (SA : Option Addr) (c1 n1 : Nat) (a : List CD) (h1 : a.length = n1) (hl1 : n1 ≤ 1000000) (NA : Option Addr) (nc n2 : Nat) (names : List ByteArray) (h2 : names.length = n2) (hl2 : n2 ≤ 1000000) (w : World) (ha : ColsAt w SA a) (hr : RdK btE w NA names) :
    Calls Tryz.prog 133 #[.slice SA n1 c1, .slice NA n2 nc] w fun e w' => ∃ A c, e = .returned (.slice A n2 c) ∧ Made 3 1 naE (placesV a names) A c w w' := by
  subst h1 h2
  have HRD := Lib.hid (And.intro ha hr)
  clear ha hr
  go_enter Tryz.func133, Tryz.ntmps133
  go_wp2_with fail
  go_loopw [5, 12] (fun o i wr => ∃ (k : Nat) (A : Option Addr) (c : Nat), k ≤ names.length ∧ i = .int .i64 k ∧ o = .slice A k c ∧ Hid (Made 3 1 naE (placesV a (names.take k)) A c w wr)) (fun _ i _ => names.length - (intOf i).toNat)
  case atStart => exact ⟨0, none, 0, by omega, rfl, rfl, Lib.hid (Made.nil _ _ _ _)⟩
  case round =>
    obtain ⟨k, A, c, hk, rfl, rfl, HM⟩ := hrel
    by_cases hlt : k < names.length
    · obtain ⟨ad, b1, o1, rfl, hadd, hc⟩ := RdK.cells (HRD.out.2.touch0 HM.out.t) 1 btE_length (by omega) k hlt
      rw [Nat.mul_one] at hadd
      have e0 := hc 0 _ rfl
      rw [Nat.add_zero] at e0
      have htk := List.take_succ_eq_append_getElem hlt
      obtain ⟨p, hp⟩ : ∃ p, p = names[k] := ⟨_, rfl⟩
      rw [← hp] at e0 htk
      have hfa := findC_any SA c1 a.length a rfl p wr (HRD.out.1.touch0 HM.out.t) (by omega)
      have hnx : placesV a (names.take (k + 1)) = placesV a (names.take k) ++ [(placeV a p).getD 0] := by
        rw [htk]; unfold placesV; rw [List.map_append]; rfl
      have hln : Hid ((placesV a (names.take k)).length = k) := Lib.hid (by unfold placesV; rw [List.length_map, List.length_take]; omega)
      obtain ⟨i, hi⟩ : ∃ i, i = (placeV a p).getD 0 := ⟨_, rfl⟩
      obtain ⟨b, hb⟩ : ∃ b, b = (placeV a p).isSome := ⟨_, rfl⟩
      rw [← hi, ← hb] at hfa
      rw [← hi] at hnx
      have Hfa := Lib.hid hfa
      have Hnx := Lib.hid hnx
      have hkn : (k : Int) < (names.length : Int) := by omega
      clear hfa hnx htk hc hp hi hb
      go_wp2_with fail
      refine Hfa.out.mono ?_
      rintro e w1 ⟨rfl, t1⟩
      have HM1 := Lib.hid (HM.out.touch0 t1)
      clear t1 HM
      go_wp2_with (at_builtin; refine stop ?_)
      refine go ?_
      have ta := (Touch.refl [] w1).alloc (.cells #[.int .i64 i] 3)
      refine wpList_appK (enc := naE) rfl (.tmp 22) (.tmp 24) 97 rfl 3 _ 1 8 info_i5 Tryz.underlying97 rfl (by omega) naE_length naE_one A k c _ hln.out rfl (HM1.out.touch0 ta).own
        (some ⟨w1.heap.size, 0, none⟩) 1 1 [i] rfl rfl (RdK.one (enc := naE) w1 3 i _ rfl) (by omega) (by omega) ?_
      intro A' c' w' hown ht hf
      have HX := Lib.hid ((HM1.out.touch0 ta).step hown ht hf)
      clear hown ht hf ta
      go_wp2_with fail
      go_roundw
      case rel => exact ⟨k + 1, A', c', by omega, by go_num, rfl, Lib.hid (by rw [Hnx.out]; exact HX.out)⟩
      case measure => simp [intOf]; omega
    · obtain rfl : k = names.length := by omega
      have HM2 : Hid (Made 3 1 naE (placesV a names) A c w wr) := Lib.hid (by have := HM.out; rwa [List.take_length] at this)
      clear HM
      go_wp2
      go_ret
      exact ⟨A, c, rfl, HM2.out⟩

set_option maxRecDepth 20000 in
set_option maxHeartbeats 6400000 in
theorem picked_any (RA : Option Addr) (rc n1 : Nat) (r : List VD) (h1 : r.length = n1) (hl1 : n1 ≤ 1000000) (PA : Option Addr) (pc n2 : Nat) (at_ : List Nat) (h2 : at_.length = n2) (hl2 : n2 ≤ 1000000) (hat : ∀ i ∈ at_, i < n1) (w : World) (hr : ValsAt w RA r) (hp : RdK naE w PA at_) :
    Calls Tryz.prog 134 #[.slice RA n1 rc, .slice PA n2 pc] w fun e w' => ∃ A c, e = .returned (.slice A n2 c) ∧ Made 31 3 vdE (pickV r at_) A c w w' := by
  subst h1 h2
  have HRD := Lib.hid (And.intro hr hp)
  have Hat := Lib.hid hat
  clear hr hp hat
  go_enter Tryz.func134, Tryz.ntmps134
  go_wp2_with fail
  go_loopw [5, 10] (fun o i wr => ∃ (k : Nat) (A : Option Addr) (c : Nat), k ≤ at_.length ∧ i = .int .i64 k ∧ o = .slice A k c ∧ Hid (Made 31 3 vdE (pickV r (at_.take k)) A c w wr)) (fun _ i _ => at_.length - (intOf i).toNat)
  case atStart => exact ⟨0, none, 0, by omega, rfl, rfl, Lib.hid (Made.nil _ _ _ _)⟩
  case round =>
    obtain ⟨k, A, c, hk, rfl, rfl, HM⟩ := hrel
    by_cases hlt : k < at_.length
    · obtain ⟨ad, b1, o1, rfl, hadd, hc⟩ := RdK.cells (HRD.out.2.touch0 HM.out.t) 1 naE_length (by omega) k hlt
      rw [Nat.mul_one] at hadd
      have e0 := hc 0 _ rfl
      rw [Nat.add_zero] at e0
      have htk := List.take_succ_eq_append_getElem hlt
      have hil := Hat.out _ (List.getElem_mem hlt)
      obtain ⟨i, hi⟩ : ∃ i, i = at_[k] := ⟨_, rfl⟩
      rw [← hi] at e0 htk hil
      obtain ⟨ad2, b2, o2, rfl, hadd2, c0, c1, c2⟩ := (HRD.out.1.touch0 HM.out.t).at_ i hil
      have hnx : pickV r (at_.take (k + 1)) = pickV r (at_.take k) ++ [r[i]] := by
        rw [htk]; unfold pickV; rw [List.map_append]; simp [hil]
      have hln : Hid ((pickV r (at_.take k)).length = k) := Lib.hid (by unfold pickV; rw [List.length_map, List.length_take]; omega)
      obtain ⟨v, hv⟩ : ∃ v, v = r[i] := ⟨_, rfl⟩
      rw [← hv] at c0 c1 c2 hnx
      obtain ⟨vk, vn, vt⟩ := v
      dsimp only at c0 c1 c2
      have Hnx := Lib.hid hnx
      have hkn : (k : Int) < (at_.length : Int) := by omega
      have hin : (i : Int) < (r.length : Int) := by omega
      have hi0 : (0 : Int) ≤ (i : Int) := by omega
      clear hnx htk hc hi hv
      go_wp2_with (at_builtin; refine stop ?_)
      refine go ?_
      have ta := (Touch.refl [] wr).alloc (.cells #[.int .i64 vk, .int .i64 vn, .string vt] 31)
      refine wpList_appK (enc := vdE) rfl (.tmp 14) (.tmp 19) 33 rfl 31 _ 3 32 info_v5 Tryz.underlying33 rfl (by omega) vdE_length vdE_one A k c _ hln.out rfl (HM.out.touch0 ta).own
        (some ⟨wr.heap.size, 0, none⟩) 1 1 [⟨vk, vn, vt⟩] rfl rfl (RdK.one (enc := vdE) wr 31 ⟨vk, vn, vt⟩ _ rfl) (by omega) (by omega) ?_
      intro A' c' w' hown ht hf
      have HX := Lib.hid ((HM.out.touch0 ta).step hown ht hf)
      clear hown ht hf ta
      go_wp2_with fail
      go_roundw
      case rel => exact ⟨k + 1, A', c', by omega, by go_num, rfl, Lib.hid (by rw [Hnx.out]; exact HX.out)⟩
      case measure => simp [intOf]; omega
    · obtain rfl : k = at_.length := by omega
      have HM2 : Hid (Made 31 3 vdE (pickV r at_) A c w wr) := Lib.hid (by have := HM.out; rwa [List.take_length] at this)
      clear HM
      go_wp2
      go_ret
      exact ⟨A, c, rfl, HM2.out⟩

set_option maxHeartbeats 400000 in
theorem null1_any (v : VD) (w : World) :
    Calls Tryz.prog 169 #[.agg #[.int .i64 v.kind, .int .i64 v.num, .string v.text]] w fun e w' => e = .returned (.bool (decide (v.kind = 0))) ∧ Touch [] w w' := by
  obtain ⟨vk, vn, vt⟩ := v
  dsimp only
  have t0 := (Touch.refl [] w).alloc (.cells #[.int .i64 vk, .int .i64 vn, .string vt] 31)
  by_cases h : vk = 0
  · subst h
    go_enter Tryz.func169, Tryz.ntmps169
    go_wp2
    go_ret
    exact ⟨rfl, t0⟩
  · have hq : (vk == 0) = false := by rw [beq_eq_false_iff_ne]; exact h
    have hd := Lib.hid (decide_eq_false h)
    go_enter Tryz.func169, Tryz.ntmps169
    go_wp2
    go_ret
    exact ⟨ret_bool hd.out.symm, t0⟩

set_option maxRecDepth 20000 in
set_option maxHeartbeats 1600000 in
theorem indexNull_any (A : Option Addr) (c m : Nat) (l : List VD) (hm : l.length = m) (w : World) (hv : ValsAt w A l) (hl2 : m ≤ 140737000000000) :
    Calls Tryz.prog 192 #[.slice A m c, .func (.func 169) #[] #[]] w fun e w' =>
      (∃ i : Int, e = .returned (.int .i64 i) ∧ -1 ≤ i ∧ i ≤ m ∧ (decide (0 ≤ i) = nullV l)) ∧ Touch [] w w' := by
  subst hm
  go_enter Tryz.func192, Tryz.ntmps192
  go_wp2
  go_loopw [8] (fun i wr => ∃ k : Nat, k ≤ l.length ∧ i = .int .i64 k ∧ Hid (nullV (l.take k) = false) ∧ Touch [] w wr) (fun i _ => l.length - (intOf i).toNat)
  case atStart => exact ⟨0, by omega, rfl, Lib.hid rfl, Touch.refl _ _⟩
  case round =>
    obtain ⟨k, hk, rfl, Hall, ht⟩ := hrel
    by_cases hlt : k < l.length
    · obtain ⟨ad, b, off, rfl, hadd, c0, c1, c2⟩ := (hv.touch0 ht).at_ k hlt
      have htk := List.take_succ_eq_append_getElem hlt
      have hmem := List.getElem_mem hlt
      obtain ⟨v, hve⟩ : ∃ v, v = l[k] := ⟨_, rfl⟩
      rw [← hve] at c0 c1 c2 htk hmem
      have hst : nullV (l.take (k + 1)) = decide (v.kind = 0) := by
        rw [htk]; unfold nullV
        rw [List.any_append]
        have := Hall.out
        unfold nullV at this
        rw [this]; simp
      have hyes : decide (v.kind = 0) = true → nullV l = true := fun h => List.any_eq_true.2 ⟨v, hmem, h⟩
      have Hst := Lib.hid hst
      have hf := fun w' => null1_any v w'
      have hkn : (k : Int) < (l.length : Int) := by omega
      have Hyes := Lib.hid hyes
      clear hst htk hve hyes hmem Hall
      obtain ⟨vk, vn, vt⟩ := v
      dsimp only at c0 c1 c2 hf Hst Hyes
      rcases hb : decide (vk = 0) with _ | _
      · rw [hb] at hf
        have Hf := Lib.hid hf
        have Hs := Lib.hid (Hst.out.trans hb)
        clear hf hb
        go_wp2_with fail
        refine (Hf.out _).mono ?_
        rintro e w1 ⟨rfl, t1⟩
        go_wp2
        go_roundw
        case rel => exact ⟨k + 1, by omega, by go_num, Hs, ht.trans0 t1⟩
        case measure => simp [intOf]; omega
      · rw [hb] at hf
        have Hf := Lib.hid hf
        have Hs := Lib.hid (Hyes.out hb)
        clear hf hb
        go_wp2_with fail
        refine (Hf.out _).mono ?_
        rintro e w1 ⟨rfl, t1⟩
        go_wp2
        go_ret
        exact ⟨⟨k, rfl, by omega, by omega, by rw [Hs.out]; simp⟩, ht.trans0 t1⟩
    · obtain rfl : k = l.length := by omega
      have hall := Hall.out
      rw [List.take_length] at hall
      have Hs := Lib.hid hall
      clear hall
      go_wp2
      go_ret
      exact ⟨⟨-1, rfl, by omega, by omega, by rw [Hs.out]; rfl⟩, ht⟩

set_option maxHeartbeats 800000 in
theorem containsNull_any (A : Option Addr) (c m : Nat) (l : List VD) (hm : l.length = m) (w : World) (hv : ValsAt w A l) (hl2 : m ≤ 140737000000000) :
    Calls Tryz.prog 168 #[.slice A m c, .func (.func 169) #[] #[]] w fun e w' => e = .returned (.bool (nullV l)) ∧ Touch [] w w' := by
  have Hi := Lib.hid (indexNull_any A c m l hm w hv hl2)
  go_enter Tryz.func168, Tryz.ntmps168
  go_wp2_with fail
  refine Hi.out.mono ?_
  rintro e w1 ⟨⟨i, rfl, i1, i2, i3⟩, t1⟩
  have I3 := Lib.hid i3
  clear i3
  go_wp2
  go_ret
  exact ⟨ret_bool (by rw [← I3.out]), t1⟩
set_option maxHeartbeats 800000 in
theorem null_any (A : Option Addr) (c m : Nat) (l : List VD) (hm : l.length = m) (w : World) (hv : ValsAt w A l) (hl2 : m ≤ 140737000000000) :
    Calls Tryz.prog 135 #[.slice A m c] w fun e w' => e = .returned (.bool (nullV l)) ∧ Touch [] w w' := by
  have Hi := Lib.hid (containsNull_any A c m l hm w hv hl2)
  go_enter Tryz.func135, Tryz.ntmps135
  go_wp2_with fail
  refine Hi.out.mono ?_
  rintro e w1 ⟨rfl, t1⟩
  go_wp2
  go_ret
  exact ⟨rfl, t1⟩
end Go.Proofs.YtafoklilkdnepaaGreatDoor

/- relop.keyOf: the key of some values. For every values whose texts are known. -/
namespace Go.Proofs.YtafoklilkdnepaaGreatDoor
open Go.RowKit

/-- a text between quotes -/
def quotL (s : List UInt8) : List UInt8 := 34 :: (s.flatMap (fun c => if c = 34 ∨ c = 92 then [92, c] else [c]) ++ [34])
/-- a value's text -/
def showL (v : VD) : List UInt8 := if v.right = false then [] else if v.kind = 0 then [110, 117, 108, 108] else if v.kind = 1 then Lib.itoa v.num else quotL v.text.data.toList
theorem quot_le (s : List UInt8) : (quotL s).length ≤ 2 * s.length + 2 := by
  have : (s.flatMap (fun c => if c = 34 ∨ c = 92 then [92, c] else [c])).length ≤ 2 * s.length := by
    induction s with
    | nil => simp
    | cons a s ih =>
      rw [List.flatMap_cons, List.length_append, List.length_cons]
      split
      · rw [show ([92, a] : List UInt8).length = 2 from rfl]; omega
      · rw [show ([a] : List UInt8).length = 1 from rfl]; omega
  unfold quotL
  rw [List.length_cons, List.length_append, List.length_singleton]; omega
theorem show_le (v : VD) (hn : -9223372036854775808 ≤ v.num ∧ v.num ≤ 9223372036854775807) : (showL v).length ≤ 200 := by
  unfold showL
  split
  · simp
  · split
    · simp
    · split
      · have := Lib.itoa_length_le v.num (by omega) (by omega)
        omega
      · rename_i h1 h2 h3
        have hr : v.right = true := by simpa using h1
        have hp : v.text.data.toList.length ≤ 64 := by
          unfold VD.right at hr
          rw [if_neg h2, if_neg h3] at hr
          split at hr
          · have := (Bool.and_eq_true_iff.1 hr).2
            unfold plainV at this
            exact of_decide_eq_true (Bool.and_eq_true_iff.1 this).2
          · cases hr
        have := quot_le v.text.data.toList
        omega
/-- the key of some values -/
def keyL (l : List VD) : List UInt8 := l.flatMap fun v => showL v ++ [10]
/-- a value's text is this wherever it is asked for -/
def ShowAt (w : World) (v : VD) : Prop := ∀ w', Touch [] w w' → Calls Tryz.prog 170 #[v.val] w' fun e w'' => e = .returned (.string (S (showL v))) ∧ Touch [] w' w''
theorem ShowAt.touch0 {w w' : World} {v : VD} (h : ShowAt w v) (ht : Touch [] w w') : ShowAt w' v := fun w'' t => h w'' (ht.trans0 t)
theorem S_app' (a b : List UInt8) : S a ++ S b = S (a ++ b) := by
  apply bs_eq
  simp [S]

set_option maxRecDepth 20000 in
set_option maxHeartbeats 6400000 in
theorem keyOf_any (A : Option Addr) (c m : Nat) (l : List VD) (hm : l.length = m) (w : World) (hv : ValsAt w A l) (hl2 : m ≤ 1000000) (hs : ∀ v ∈ l, ShowAt w v) (hn : ∀ v ∈ l, v.Ok 140737000000000) :
    Calls Tryz.prog 136 #[.slice A m c] w fun e w' => e = .returned (.string (S (keyL l))) ∧ Touch [] w w' := by
  subst hm
  have HS := Lib.hid hs
  have HN := Lib.hid hn
  have HV := Lib.hid hv
  clear hs hn hv
  go_enter Tryz.func136, Tryz.ntmps136
  go_wp2_with fail
  go_loopw [3, 8] (fun o i wr => ∃ (k : Nat) (acc : ByteArray), k ≤ l.length ∧ acc.size ≤ 201 * k ∧ i = .int .i64 k ∧ o = .string acc ∧ Hid (acc = S (keyL (l.take k))) ∧ Hid (Touch [] w wr)) (fun _ i _ => l.length - (intOf i).toNat)
  case atStart => exact ⟨0, ⟨#[]⟩, by omega, Nat.le_refl 0, rfl, rfl, Lib.hid rfl, Lib.hid (Touch.refl _ _)⟩
  case round =>
    obtain ⟨k, acc, hk, hac, rfl, rfl, HA, HT⟩ := hrel
    by_cases hlt : k < l.length
    · obtain ⟨ad, b, off, rfl, hadd, c0, c1, c2⟩ := (HV.out.touch0 HT.out).at_ k hlt
      have htk := List.take_succ_eq_append_getElem hlt
      have hmem := List.getElem_mem hlt
      obtain ⟨v, hve⟩ : ∃ v, v = l[k] := ⟨_, rfl⟩
      rw [← hve] at c0 c1 c2 htk hmem
      have hsh := HS.out v hmem
      have hle := show_le v (HN.out v hmem).n
      have hnx : S (keyL (l.take (k + 1))) = acc ++ (S (showL v) ++ ⟨#[10]⟩) := by
        rw [htk]; unfold keyL
        rw [List.flatMap_append, HA.out, show (⟨#[10]⟩ : ByteArray) = S [10] from rfl, S_app', S_app']
        simp [keyL]
      have ta := (Touch.refl [] wr).alloc (.cells #[.int .i64 v.kind, .int .i64 v.num, .string v.text] 31)
      have hsv := hsh _ (HT.out.trans0 ta)
      have hsz : (S (showL v)).size = (showL v).length := S_size _
      obtain ⟨sv, hsve⟩ : ∃ sv, sv = S (showL v) := ⟨_, rfl⟩
      rw [← hsve] at hsv hsz hnx
      have hz3 : (sv ++ ⟨#[10]⟩ : ByteArray).size = sv.size + 1 := by rw [ByteArray.size_append]; rfl
      have hz4 : (acc ++ (sv ++ ⟨#[10]⟩) : ByteArray).size ≤ 201 * (k + 1) := by rw [ByteArray.size_append, hz3]; omega
      have hz1 : ¬ 9223372036854775807 < sv.size + 1 := by omega
      have hz2 : ¬ 9223372036854775807 < acc.size + (sv ++ ⟨#[10]⟩ : ByteArray).size := by omega
      have hz5 : ¬ 9223372036854775807 < acc.size + (sv.size + 1) := by omega
      have Hnx := Lib.hid hnx
      have HTa := Lib.hid ta
      have Hz4 := Lib.hid hz4
      have hkn : (k : Int) < (l.length : Int) := by omega
      clear hnx htk hve hmem hsh hle ta hsz hsve hz4 hz3
      obtain ⟨vk, vn, vt⟩ := v
      dsimp only [VD.val] at c0 c1 c2 hsv
      have Hsv := Lib.hid hsv
      clear hsv
      go_wp2_with fail
      refine Hsv.out.mono ?_
      rintro e w1 ⟨rfl, t1⟩
      have HT1 := Lib.hid ((HT.out.trans0 HTa.out).trans0 t1)
      clear t1
      go_wp2_with fail
      go_roundw
      case rel => exact ⟨k + 1, _, by omega, Hz4.out, by go_num, rfl, Lib.hid Hnx.out.symm, HT1⟩
      case measure => simp [intOf]; omega
    · obtain rfl : k = l.length := by omega
      have hA := HA.out
      rw [List.take_length] at hA
      have HA2 := Lib.hid hA
      clear hA HA
      go_wp2
      go_ret
      exact ⟨by rw [← HA2.out]; rfl, HT.out⟩
end Go.Proofs.YtafoklilkdnepaaGreatDoor

/- Rows told by functions; segments exchanged; two sorted runs made one; what stable sorting needs. Plainly. -/
namespace Go.Proofs.YtafoklilkdnepaaGreatDoor

def upd (f : Nat → Nat) (i v : Nat) : Nat → Nat := fun k => if k = i then v else f k
/-- so many from a on exchanged with as many from b on -/
def swp (f : Nat → Nat) (a b q : Nat) : Nat → Nat := fun k => if a ≤ k ∧ k < a + q then f (k - a + b) else if b ≤ k ∧ k < b + q then f (k - b + a) else f k
theorem swp_zero (f : Nat → Nat) (a b : Nat) : swp f a b 0 = f := by
  funext k; unfold swp
  rw [if_neg (by omega), if_neg (by omega)]
theorem swp_step (f : Nat → Nat) (a b i : Nat) (h : a + i < b) : upd (upd (swp f a b i) (a + i) (f (b + i))) (b + i) (f (a + i)) = swp f a b (i + 1) := by
  funext k
  simp only [upd, swp]
  repeat' split
  all_goals first
    | rfl
    | (exfalso; omega)
    | (congr 1; omega)
theorem swp_at (f : Nat → Nat) (a b i : Nat) (h : a + i < b) : swp f a b i (a + i) = f (a + i) ∧ swp f a b i (b + i) = f (b + i) := by
  unfold swp
  constructor
  · rw [if_neg (by omega), if_neg (by omega)]
  · rw [if_neg (by omega), if_neg (by omega)]
/-- [a, m) and [m, b) exchanged -/
def rot (f : Nat → Nat) (a m b : Nat) : Nat → Nat := fun k => if a ≤ k ∧ k < a + (b - m) then f (k - a + m) else if a + (b - m) ≤ k ∧ k < b then f (k - (b - m)) else f k
theorem rot_left (f : Nat → Nat) (m i j : Nat) (hi : i ≤ m) (h : j < i) : rot (swp f (m - i) m j) (m - (i - j)) m (m + j) = rot f (m - i) m (m + j) := by
  funext k
  simp only [swp, rot]
  repeat' split
  all_goals first
    | rfl
    | (exfalso; omega)
    | (congr 1; omega)
theorem rot_right (f : Nat → Nat) (m i j : Nat) (hi : i ≤ m) (h : i < j) : rot (swp f (m - i) (m + j - i) i) (m - i) m (m + (j - i)) = rot f (m - i) m (m + j) := by
  funext k
  simp only [swp, rot]
  repeat' split
  all_goals first
    | rfl
    | (exfalso; omega)
    | (congr 1; omega)
theorem rot_same (f : Nat → Nat) (m i : Nat) (hi : i ≤ m) : swp f (m - i) m i = rot f (m - i) m (m + i) := by
  funext k
  simp only [swp, rot]
  repeat' split
  all_goals first
    | rfl
    | (exfalso; omega)
    | (congr 1; omega)
/-- by depth, then by number -/
def ltL (D : Nat → Nat) (x y : Nat) : Prop := D x < D y ∨ (D x = D y ∧ x < y)
theorem ltL.trans {D : Nat → Nat} {x y z : Nat} (h : ltL D x y) (g : ltL D y z) : ltL D x z := by unfold ltL at *; omega
theorem ltL_irrefl (D : Nat → Nat) (x : Nat) : ¬ ltL D x x := by unfold ltL; omega
/-- the one with the less number stands first just if the other's depth is not less -/
theorem ltL_num {D : Nat → Nat} {x y : Nat} (h : x < y) : ltL D x y ↔ ¬ D y < D x := by unfold ltL; omega
theorem ltL_num2 {D : Nat → Nat} {x y : Nat} (h : x < y) : ltL D y x ↔ D y < D x := by unfold ltL; omega
def Srt (D : Nat → Nat) (f : Nat → Nat) (a b : Nat) : Prop := ∀ i j, a ≤ i → i < j → j < b → ltL D (f i) (f j)
def Lr (f : Nat → Nat) (a m b : Nat) : Prop := ∀ i j, a ≤ i → i < m → m ≤ j → j < b → f i < f j
def Seg (f : Nat → Nat) (a b x : Nat) : Prop := ∃ i, a ≤ i ∧ i < b ∧ f i = x
structure SM (D : Nat → Nat) (f : Nat → Nat) (a b : Nat) (g : Nat → Nat) : Prop where
  out : ∀ k, k < a ∨ b ≤ k → g k = f k
  seg : ∀ x, Seg g a b x ↔ Seg f a b x
  srt : Srt D g a b
theorem rot_out {f : Nat → Nat} {a b s m e : Nat} (h1 : a ≤ s) (h2 : s ≤ m) (h3 : m ≤ e) (h4 : e ≤ b) (k : Nat) (hk : k < a ∨ b ≤ k) : rot f s m e k = f k := by
  unfold rot
  rw [if_neg (by omega), if_neg (by omega)]
theorem rot_seg {f : Nat → Nat} {a b s m e : Nat} (h1 : a ≤ s) (h2 : s ≤ m) (h3 : m ≤ e) (h4 : e ≤ b) (x : Nat) : Seg (rot f s m e) a b x ↔ Seg f a b x := by
  constructor
  · rintro ⟨i, hi1, hi2, rfl⟩
    unfold rot
    split
    · exact ⟨i - s + m, by omega, by omega, rfl⟩
    · split
      · exact ⟨i - (e - m), by omega, by omega, rfl⟩
      · exact ⟨i, hi1, hi2, rfl⟩
  · rintro ⟨i, hi1, hi2, rfl⟩
    by_cases q1 : m ≤ i ∧ i < e
    · refine ⟨i - m + s, by omega, by omega, ?_⟩
      unfold rot
      rw [if_pos (by omega)]
      congr 1; omega
    · by_cases q2 : s ≤ i ∧ i < m
      · refine ⟨i + (e - m), by omega, by omega, ?_⟩
        unfold rot
        rw [if_neg (by omega), if_pos (by omega)]
        congr 1; omega
      · refine ⟨i, hi1, hi2, ?_⟩
        unfold rot
        rw [if_neg (by omega), if_neg (by omega)]
theorem sm_one {D f : Nat → Nat} {a b i : Nat} (_hab : a + 1 < b) (hs : Srt D f (a + 1) b) (h1 : a + 1 ≤ i) (h2 : i ≤ b) (hL : ∀ h, a + 1 ≤ h → h < i → ltL D (f h) (f a)) (hR : ∀ h, i ≤ h → h < b → ltL D (f a) (f h)) : SM D f a b (rot f a (a + 1) i) where
  out := fun k hk => rot_out (Nat.le_refl _) (by omega) h1 h2 k hk
  seg := fun x => rot_seg (Nat.le_refl _) (by omega) h1 h2 x
  srt := fun p q hp hpq hq => by
    have e : ∀ k, a ≤ k → k < b → rot f a (a + 1) i k = if k + 1 < i then f (k + 1) else if k + 1 = i then f a else f k := fun k hk1 hk2 => by
      unfold rot
      by_cases z : k + 1 < i
      · rw [if_pos (by omega), if_pos z]; congr 1; omega
      · rw [if_neg (by omega), if_neg z]
        by_cases z2 : k + 1 = i
        · rw [if_pos (by omega), if_pos z2]; congr 1; omega
        · rw [if_neg (by omega), if_neg z2]
    rw [e p hp (by omega), e q (by omega) hq]
    by_cases q1 : q + 1 < i
    · rw [if_pos (by omega), if_pos q1]; exact hs _ _ (by omega) (by omega) (by omega)
    · rw [if_neg q1]
      by_cases q2 : q + 1 = i
      · rw [if_pos q2, if_pos (by omega)]; exact hL _ (by omega) (by omega)
      · rw [if_neg q2]
        by_cases p1 : p + 1 < i
        · rw [if_pos p1]; exact hs _ _ (by omega) (by omega) hq
        · rw [if_neg p1]
          by_cases p2 : p + 1 = i
          · rw [if_pos p2]; exact hR _ (by omega) hq
          · rw [if_neg p2]; exact hs _ _ (by omega) hpq hq
theorem sm_last {D f : Nat → Nat} {a m i : Nat} (_ham : a < m) (hs : Srt D f a m) (h1 : a ≤ i) (h2 : i ≤ m) (hL : ∀ h, a ≤ h → h < i → ltL D (f h) (f m)) (hR : ∀ h, i ≤ h → h < m → ltL D (f m) (f h)) : SM D f a (m + 1) (rot f i m (m + 1)) where
  out := fun k hk => rot_out h1 h2 (by omega) (Nat.le_refl _) k hk
  seg := fun x => rot_seg h1 h2 (by omega) (Nat.le_refl _) x
  srt := fun p q hp hpq hq => by
    have e : ∀ k, a ≤ k → k < m + 1 → rot f i m (m + 1) k = if k < i then f k else if k = i then f m else f (k - 1) := fun k hk1 hk2 => by
      unfold rot
      by_cases z : k < i
      · rw [if_neg (by omega), if_neg (by omega), if_pos z]
      · rw [if_neg z]
        by_cases z2 : k = i
        · rw [if_pos (by omega), if_pos z2]; congr 1; omega
        · rw [if_neg (by omega), if_pos (by omega), if_neg z2]; congr 1; omega
    rw [e p hp (by omega), e q (by omega) hq]
    by_cases q1 : q < i
    · rw [if_pos (by omega), if_pos q1]; exact hs _ _ hp hpq (by omega)
    · rw [if_neg q1]
      by_cases q2 : q = i
      · rw [if_pos q2, if_pos (by omega)]; exact hL _ hp (by omega)
      · rw [if_neg q2]
        by_cases p1 : p < i
        · rw [if_pos p1]; exact hs _ _ hp (by omega) (by omega)
        · rw [if_neg p1]
          by_cases p2 : p = i
          · rw [if_pos p2]; exact hR _ (by omega) (by omega)
          · rw [if_neg p2]; exact hs _ _ (by omega) (by omega) (by omega)
/-- what the exchange in the middle gives: sm: the start, e: the end -/
structure Mid (D f : Nat → Nat) (a m b s e mid : Nat) (g : Nat → Nat) : Prop where
  s1 : Srt D g a s
  s2 : Srt D g s mid
  s3 : Srt D g mid e
  s4 : Srt D g e b
  l1 : Lr g a s mid
  l2 : Lr g mid e b
  cr : ∀ i j, a ≤ i → i < mid → mid ≤ j → j < b → ltL D (g i) (g j)
  out : ∀ k, k < a ∨ b ≤ k → g k = f k
  seg : ∀ x, Seg g a b x ↔ Seg f a b x
theorem mid_of {D f : Nat → Nat} {a m b s mid lo hi : Nat} (ham : a < m) (hmb : m < b) (hs1 : Srt D f a m) (hs2 : Srt D f m b) (hlr : Lr f a m b) (hmid : mid = (a + b) / 2)
    (hlh : (mid < m ∧ lo = mid + m - b ∧ hi = mid) ∨ (m ≤ mid ∧ lo = a ∧ hi = m)) (hsl : lo ≤ s) (hsh : s ≤ hi)
    (hP : ∀ c, lo ≤ c → c < s → ltL D (f c) (f (mid + m - 1 - c))) (hN : ∀ c, s ≤ c → c < hi → ltL D (f (mid + m - 1 - c)) (f c)) :
    Mid D f a m b s (mid + m - s) mid (rot f s m (mid + m - s)) ∧ a ≤ s ∧ s ≤ mid ∧ s ≤ m ∧ m ≤ mid + m - s ∧ mid + m - s ≤ b ∧ mid ≤ mid + m - s ∧ a < mid ∧ mid < b := by
  have b1 : a < mid := by omega
  have b2 : mid < b := by omega
  have b3 : a ≤ s := by omega
  have b4 : s ≤ mid := by omega
  have b5 : s ≤ m := by omega
  have b6 : m ≤ mid + m - s := by omega
  have b7 : mid + m - s ≤ b := by omega
  have e : ∀ k, a ≤ k → k < b → rot f s m (mid + m - s) k = if k < s then f k else if k < mid then f (k - s + m) else if k < mid + m - s then f (k - (mid - s)) else f k := fun k _ _ => by
    unfold rot
    by_cases z : k < s
    · rw [if_neg (by omega), if_neg (by omega), if_pos z]
    · rw [if_neg z]
      by_cases z2 : k < mid
      · rw [if_pos (by omega), if_pos z2]
      · rw [if_neg (by omega), if_neg z2]
        by_cases z3 : k < mid + m - s
        · rw [if_pos (by omega), if_pos z3]; congr 1; omega
        · rw [if_neg (by omega), if_neg z3]
  have g1 : ∀ k, a ≤ k → k < s → rot f s m (mid + m - s) k = f k := fun k h1 h2 => by rw [e k h1 (by omega), if_pos h2]
  have g2 : ∀ k, s ≤ k → k < mid → rot f s m (mid + m - s) k = f (k - s + m) := fun k h1 h2 => by rw [e k (by omega) (by omega), if_neg (by omega), if_pos h2]
  have g3 : ∀ k, mid ≤ k → k < mid + m - s → rot f s m (mid + m - s) k = f (k - (mid - s)) := fun k h1 h2 => by rw [e k (by omega) (by omega), if_neg (by omega), if_neg (by omega), if_pos h2]
  have g4 : ∀ k, mid + m - s ≤ k → k < b → rot f s m (mid + m - s) k = f k := fun k h1 h2 => by rw [e k (by omega) h2, if_neg (by omega), if_neg (by omega), if_neg (by omega)]
  have le1 : ∀ i j, a ≤ i → i ≤ j → j < m → i = j ∨ ltL D (f i) (f j) := fun i j h1 h2 h3 => by
    rcases Nat.eq_or_lt_of_le h2 with q | q
    · exact .inl q
    · exact .inr (hs1 i j h1 q h3)
  have le2 : ∀ i j, m ≤ i → i ≤ j → j < b → i = j ∨ ltL D (f i) (f j) := fun i j h1 h2 h3 => by
    rcases Nat.eq_or_lt_of_le h2 with q | q
    · exact .inl q
    · exact .inr (hs2 i j h1 q h3)
  have chain : ∀ {x y z t : Nat}, (x = y ∨ ltL D (f x) (f y)) → ltL D (f y) (f z) → (z = t ∨ ltL D (f z) (f t)) → ltL D (f x) (f t) := by
    intro x y z t h1 h2 h3
    rcases h1 with rfl | h1 <;> rcases h3 with rfl | h3
    · exact h2
    · exact h2.trans h3
    · exact h1.trans h2
    · exact (h1.trans h2).trans h3
  refine ⟨⟨fun i j h1 h2 h3 => ?_, fun i j h1 h2 h3 => ?_, fun i j h1 h2 h3 => ?_, fun i j h1 h2 h3 => ?_, fun i j h1 h2 h3 h4 => ?_, fun i j h1 h2 h3 h4 => ?_, fun i j h1 h2 h3 h4 => ?_, fun k hk => rot_out b3 b5 b6 b7 k hk, fun x => rot_seg b3 b5 b6 b7 x⟩, b3, b4, b5, b6, b7, by omega, b1, b2⟩
  · rw [g1 i h1 (by omega), g1 j (by omega) h3]; exact hs1 _ _ h1 h2 (by omega)
  · rw [g2 i h1 (by omega), g2 j (by omega) h3]; exact hs2 _ _ (by omega) (by omega) (by omega)
  · rw [g3 i h1 (by omega), g3 j (by omega) h3]; exact hs1 _ _ (by omega) (by omega) (by omega)
  · rw [g4 i h1 (by omega), g4 j (by omega) h3]; exact hs2 _ _ (by omega) h2 h3
  · rw [g1 i h1 h2, g2 j h3 h4]; exact hlr _ _ h1 (by omega) (by omega) (by omega)
  · rw [g3 i h1 h2, g4 j h3 h4]; exact hlr _ _ (by omega) (by omega) (by omega) h4
  · by_cases q1 : i < s
    · rw [g1 i h1 q1]
      by_cases q2 : j < mid + m - s
      · rw [g3 j h3 q2]; exact hs1 _ _ h1 (by omega) (by omega)
      · rw [g4 j (by omega) h4]
        have hp := hP (s - 1) (by omega) (by omega)
        rw [show mid + m - 1 - (s - 1) = mid + m - s by omega] at hp
        exact chain (le1 i (s - 1) h1 (by omega) (by omega)) hp (le2 (mid + m - s) j b6 (by omega) h4)
    · rw [g2 i (by omega) h2]
      by_cases q2 : j < mid + m - s
      · rw [g3 j h3 q2]
        have hn := hN s (Nat.le_refl _) (by omega)
        exact chain (le2 (i - s + m) (mid + m - 1 - s) (by omega) (by omega) (by omega)) hn (le1 s (j - (mid - s)) b3 (by omega) (by omega))
      · rw [g4 j (by omega) h4]; exact hs2 _ _ (by omega) (by omega) h4
/-- the two halves, each made one -/
theorem mid_join {D f g g1 g2 : Nat → Nat} {a m b s e mid : Nat} (h : Mid D f a m b s e mid g) (ha : a < mid) (hb : mid < b) (h1 : SM D g a mid g1) (h2 : SM D g1 mid b g2) : SM D f a b g2 where
  out := fun k hk => by rw [h2.out k (by omega), h1.out k (by omega), h.out k hk]
  seg := fun x => by
    rw [← h.seg x]
    constructor
    · rintro ⟨i, q1, q2, rfl⟩
      by_cases q : i < mid
      · have : g2 i = g1 i := h2.out i (.inl q)
        rw [this]
        obtain ⟨j, z1, z2, z3⟩ := (h1.seg (g1 i)).1 ⟨i, q1, q, rfl⟩
        exact ⟨j, z1, by omega, z3⟩
      · obtain ⟨j, z1, z2, z3⟩ := (h2.seg (g2 i)).1 ⟨i, by omega, q2, rfl⟩
        exact ⟨j, by omega, z2, by rw [← z3]; exact (h1.out j (.inr z1)).symm⟩
    · rintro ⟨i, q1, q2, rfl⟩
      by_cases q : i < mid
      · obtain ⟨j, z1, z2, z3⟩ := (h1.seg (g i)).2 ⟨i, q1, q, rfl⟩
        exact ⟨j, z1, by omega, by rw [h2.out j (.inl z2)]; exact z3⟩
      · have e1 : g1 i = g i := h1.out i (.inr (by omega))
        obtain ⟨j, z1, z2, z3⟩ := (h2.seg (g1 i)).2 ⟨i, by omega, q2, rfl⟩
        exact ⟨j, by omega, z2, by rw [z3, e1]⟩
  srt := fun i j q1 q2 q3 => by
    by_cases z1 : j < mid
    · rw [h2.out i (.inl (by omega)), h2.out j (.inl z1)]; exact h1.srt i j q1 q2 z1
    · by_cases z2 : i < mid
      · have e1 : g2 i = g1 i := h2.out i (.inl z2)
        rw [e1]
        obtain ⟨i', y1, y2, y3⟩ := (h1.seg (g1 i)).1 ⟨i, q1, z2, rfl⟩
        obtain ⟨j', x1, x2, x3⟩ := (h2.seg (g2 j)).1 ⟨j, by omega, q3, rfl⟩
        rw [← y3, ← x3, h1.out j' (.inr x1)]
        exact h.cr i' j' y1 y2 x1 x2
      · exact h2.srt i j (by omega) q2 q3
/-- a run that is one already -/
theorem SM.self {D f : Nat → Nat} {a b : Nat} (h : Srt D f a b) : SM D f a b f := ⟨fun _ _ => rfl, fun _ => Iff.rfl, h⟩
theorem rot_a (f : Nat → Nat) (a m : Nat) : rot f a m m = f := by
  funext k; unfold rot
  rw [if_neg (by omega)]
  split
  · rw [Nat.sub_self, Nat.sub_zero]
  · rfl
theorem rot_b (f : Nat → Nat) (m e : Nat) : rot f m m e = f := by
  funext k; unfold rot
  split
  · congr 1; omega
  · rw [if_neg (by omega)]
theorem rot_up (f : Nat → Nat) (a k : Nat) (h : a ≤ k) : upd (upd (rot f a (a + 1) (k + 1)) k (f (k + 1))) (k + 1) (f a) = rot f a (a + 1) (k + 2) := by
  funext x
  simp only [upd, rot]
  repeat' split
  all_goals first
    | rfl
    | (exfalso; omega)
    | (congr 1; omega)
theorem rot_up_at (f : Nat → Nat) (a k : Nat) (h : a ≤ k) : rot f a (a + 1) (k + 1) k = f a ∧ rot f a (a + 1) (k + 1) (k + 1) = f (k + 1) := by
  simp only [rot]
  constructor
  · rw [if_neg (by omega), if_pos (by omega)]; congr 1; omega
  · rw [if_neg (by omega), if_neg (by omega)]
theorem rot_dn (f : Nat → Nat) (m k : Nat) (h : k + 1 ≤ m) : upd (upd (rot f (k + 1) m (m + 1)) (k + 1) (f k)) k (f m) = rot f k m (m + 1) := by
  funext x
  simp only [upd, rot]
  repeat' split
  all_goals first
    | rfl
    | (exfalso; omega)
    | (congr 1; omega)
theorem rot_dn_at (f : Nat → Nat) (m k : Nat) (_h : k + 1 ≤ m) : rot f (k + 1) m (m + 1) k = f k ∧ rot f (k + 1) m (m + 1) (k + 1) = f m := by
  simp only [rot]
  constructor
  · rw [if_neg (by omega), if_neg (by omega)]
  · rw [if_pos (by omega)]; congr 1; omega
theorem srt_le {D f : Nat → Nat} {a b : Nat} (h : Srt D f a b) (i j : Nat) (h1 : a ≤ i) (h2 : i ≤ j) (h3 : j < b) : i = j ∨ ltL D (f i) (f j) := by
  rcases Nat.eq_or_lt_of_le h2 with q | q
  · exact .inl q
  · exact .inr (h i j h1 q h3)
theorem srt_lt {D f : Nat → Nat} {a b i j z : Nat} (h : Srt D f a b) (h1 : a ≤ i) (h2 : i ≤ j) (h3 : j < b) (hz : ltL D (f j) z) : ltL D (f i) z := by
  rcases srt_le h i j h1 h2 h3 with rfl | q
  · exact hz
  · exact q.trans hz
theorem srt_gt {D f : Nat → Nat} {a b i j z : Nat} (h : Srt D f a b) (h1 : a ≤ i) (h2 : i ≤ j) (h3 : j < b) (hz : ltL D z (f i)) : ltL D z (f j) := by
  rcases srt_le h i j h1 h2 h3 with rfl | q
  · exact hz
  · exact hz.trans q
theorem sm_left {D f g : Nat → Nat} {a m b s e mid : Nat} (h : Mid D f a m b s e mid g) (hh : s = a ∨ s = mid) : SM D g a mid g := by
  refine SM.self ?_
  rcases hh with rfl | rfl
  · exact h.s2
  · exact h.s1
theorem sm_right {D f g g1 : Nat → Nat} {a m b s e mid : Nat} (h : Mid D f a m b s e mid g) (hh : e = mid ∨ e = b) (h1 : ∀ k, mid ≤ k → g1 k = g k) : SM D g1 mid b g1 := by
  refine SM.self ?_
  intro i j q1 q2 q3
  rw [h1 i q1, h1 j (by omega)]
  rcases hh with rfl | rfl
  · exact h.s4 i j q1 q2 q3
  · exact h.s3 i j q1 q2 q3
theorem Srt.cong {D f g : Nat → Nat} {a b : Nat} (h : Srt D f a b) (e : ∀ k, a ≤ k → g k = f k) : Srt D g a b := fun i j q1 q2 q3 => by rw [e i q1, e j (by omega)]; exact h i j q1 q2 q3
theorem Lr.cong {f g : Nat → Nat} {a m b : Nat} (h : Lr f a m b) (e : ∀ k, a ≤ k → g k = f k) : Lr g a m b := fun i j q1 q2 q3 q4 => by rw [e i q1, e j (by omega)]; exact h i j q1 q2 q3 q4
theorem SM.lt {D f g : Nat → Nat} {a b n : Nat} (h : SM D f a b g) (hb : b ≤ n) (hf : ∀ k, k < n → f k < n) (k : Nat) (hk : k < n) : g k < n := by
  by_cases q : a ≤ k ∧ k < b
  · obtain ⟨i, q1, q2, q3⟩ := (h.seg (g k)).1 ⟨k, q.1, q.2, rfl⟩
    rw [← q3]; exact hf i (by omega)
  · rw [h.out k (by omega)]; exact hf k hk
theorem Mid.lt {D f g : Nat → Nat} {a m b s e mid n : Nat} (h : Mid D f a m b s e mid g) (hb : b ≤ n) (hf : ∀ k, k < n → f k < n) (k : Nat) (hk : k < n) : g k < n := by
  by_cases q : a ≤ k ∧ k < b
  · obtain ⟨i, q1, q2, q3⟩ := (h.seg (g k)).1 ⟨k, q.1, q.2, rfl⟩
    rw [← q3]; exact hf i (by omega)
  · rw [h.out k (by omega)]; exact hf k hk
def Up (f : Nat → Nat) (a b : Nat) : Prop := ∀ i j, a ≤ i → i < j → j < b → f i < f j
theorem SM.trans {D f g h : Nat → Nat} {a b : Nat} (h1 : SM D f a b g) (h2 : SM D g a b h) : SM D f a b h where
  out := fun k hk => by rw [h2.out k hk, h1.out k hk]
  seg := fun x => (h2.seg x).trans (h1.seg x)
  srt := h2.srt
theorem seg_step {f g : Nat → Nat} {a i : Nat} (hi : a ≤ i) (h : ∀ x, Seg g a i x ↔ Seg f a i x) (e : g i = f i) (x : Nat) : Seg g a (i + 1) x ↔ Seg f a (i + 1) x := by
  constructor
  · rintro ⟨k, q1, q2, q3⟩
    by_cases q : k = i
    · subst q; exact ⟨k, q1, q2, by rw [← e]; exact q3⟩
    · obtain ⟨j, z1, z2, z3⟩ := (h x).1 ⟨k, q1, by omega, q3⟩
      exact ⟨j, z1, by omega, z3⟩
  · rintro ⟨k, q1, q2, q3⟩
    by_cases q : k = i
    · subst q; exact ⟨k, q1, q2, by rw [e]; exact q3⟩
    · obtain ⟨j, z1, z2, z3⟩ := (h x).2 ⟨k, q1, by omega, q3⟩
      exact ⟨j, z1, by omega, z3⟩
theorem in_step {D f g g' : Nat → Nat} {a i : Nat} (hi : a ≤ i) (h1 : SM D f a i g) (h2 : SM D g a (i + 1) g') : SM D f a (i + 1) g' where
  out := fun k hk => by rw [h2.out k hk, h1.out k (by omega)]
  seg := fun x => (h2.seg x).trans (seg_step hi h1.seg (h1.out i (.inr (Nat.le_refl _))) x)
  srt := h2.srt
theorem in_num {D f g : Nat → Nat} {a b i k : Nat} (hup : Up f a b) (h1 : SM D f a i g) (hib : i < b) (hk : a ≤ k) (hki : k < i) : g k < g i := by
  rw [h1.out i (.inr (Nat.le_refl _))]
  obtain ⟨j, z1, z2, z3⟩ := (h1.seg (g k)).1 ⟨k, hk, hki, rfl⟩
  rw [← z3]; exact hup _ _ z1 z2 hib
theorem seg_two {D f g1 g2 : Nat → Nat} {a m b : Nat} (ha : a ≤ m) (hb : m ≤ b) (h1 : SM D f a m g1) (h2 : SM D g1 m b g2) (x : Nat) : Seg g2 a b x ↔ Seg f a b x := by
  constructor
  · rintro ⟨i, q1, q2, rfl⟩
    by_cases q : i < m
    · rw [h2.out i (.inl q)]
      obtain ⟨j, z1, z2, z3⟩ := (h1.seg (g1 i)).1 ⟨i, q1, q, rfl⟩
      exact ⟨j, z1, by omega, z3⟩
    · obtain ⟨j, z1, z2, z3⟩ := (h2.seg (g2 i)).1 ⟨i, by omega, q2, rfl⟩
      exact ⟨j, by omega, z2, by rw [← z3]; exact (h1.out j (.inr z1)).symm⟩
  · rintro ⟨i, q1, q2, rfl⟩
    by_cases q : i < m
    · obtain ⟨j, z1, z2, z3⟩ := (h1.seg (f i)).2 ⟨i, q1, q, rfl⟩
      exact ⟨j, z1, by omega, by rw [h2.out j (.inl z2)]; exact z3⟩
    · have e1 : g1 i = f i := h1.out i (.inr (by omega))
      obtain ⟨j, z1, z2, z3⟩ := (h2.seg (g1 i)).2 ⟨i, by omega, q2, rfl⟩
      exact ⟨j, by omega, z2, by rw [z3, e1]⟩
theorem lr_two {D f g1 g2 : Nat → Nat} {a m b : Nat} (hup : Up f a b) (h1 : SM D f a m g1) (h2 : SM D g1 m b g2) : Lr g2 a m b := by
  intro i j q1 q2 q3 q4
  rw [h2.out i (.inl q2)]
  obtain ⟨i', y1, y2, y3⟩ := (h1.seg (g1 i)).1 ⟨i, q1, q2, rfl⟩
  obtain ⟨j', x1, x2, x3⟩ := (h2.seg (g2 j)).1 ⟨j, q3, q4, rfl⟩
  rw [← y3, ← x3, h1.out j' (.inr x1)]
  exact hup _ _ y1 (by omega) x2
end Go.Proofs.YtafoklilkdnepaaGreatDoor

/- Rows of slices told by a function; swapRangeCmpFunc, rotateCmpFunc on them: slices of values. -/
namespace Go.Proofs.YtafoklilkdnepaaGreatDoor
open Go.RowKit

abbrev slV (s : SL) : Value := .slice s.A s.n s.c
/-- n slices told by a function, in a row -/
def RowV (S : Nat → SL) (w : World) (G c n : Nat) (f : Nat → Nat) : Prop := OwnK 33 1 (fun s => [slV s]) w (some ⟨G, 0, none⟩) c ((List.range n).map fun k => S (f k))
theorem RowV.cell {S : Nat → SL} {w : World} {G c n : Nat} {f : Nat → Nat} (h : RowV S w G c n f) (k : Nat) (hk : k < n) : w.cell? ⟨G, k, none⟩ = some (Value.slice (SL.A (S (f k))) (SL.n (S (f k))) (SL.c (S (f k)))) := by
  have := OwnK.cell1 h k (by simpa using hk)
  simpa using this
theorem RowV.free {S : Nat → SL} {w : World} {G c n : Nat} {f : Nat → Nat} (h : RowV S w G c n f) (k : Nat) : w.frozen? ⟨G, k, none⟩ = false := OwnK.free_ h k
theorem RowV.touch {S : Nat → SL} {w w' : World} {G c n : Nat} {f : Nat → Nat} {fp : List Nat} (h : RowV S w G c n f) (ht : Touch fp w w') (hn : G ∉ fp) : RowV S w' G c n f := OwnK.touch h ht (fun b hb => by simp [fpo] at hb; subst hb; exact hn)
theorem RowV.touch0 {S : Nat → SL} {w w' : World} {G c n : Nat} {f : Nat → Nat} (h : RowV S w G c n f) (ht : Touch [] w w') : RowV S w' G c n f := h.touch ht (by simp)
theorem RowV.set {S : Nat → SL} {w : World} {G c n : Nat} {f : Nat → Nat} (h : RowV S w G c n f) (i v : Nat) (hi : i < n) : RowV S (w.setCell ⟨G, i, none⟩ (Value.slice (SL.A (S v)) (SL.n (S v)) (SL.c (S v)))) G c n (upd f i v) := by
  have := OwnK.set1 h i (by simpa using hi) (S v)
  have e : ((List.range n).map fun k => S (f k)).set i (S v) = (List.range n).map fun k => S (upd f i v k) := by
    apply List.ext_getElem
    · simp
    · intro j h1 h2
      simp only [List.getElem_set, List.getElem_map, List.getElem_range, upd]
      by_cases q : i = j
      · subst q; simp
      · have q2 : ¬ j = i := fun e => q e.symm
        simp [q, q2]
  unfold RowV
  rw [← e]; exact this

set_option maxRecDepth 20000 in
set_option maxHeartbeats 3200000 in
/-- slices.swapRangeCmpFunc -/
theorem swapR_any (G c n : Nat) (hn : n ≤ 100000) (S : Nat → SL) (f : Nat → Nat) (a b q : Nat) (hab : a + q ≤ b) (hb : b + q ≤ n) (fv : Value) (w : World) (h : RowV S w G c n f) :
    Calls Tryz.prog 211 #[.slice (some ⟨G, 0, none⟩) n c, .int .i64 a, .int .i64 b, .int .i64 q, fv] w fun e w' => e = .returned (.tuple #[]) ∧ RowV S w' G c n (swp f a b q) ∧ Touch [G] w w' := by
  have H0 : Hid (RowV S w G c n (swp f a b 0)) := Lib.hid (by rw [swp_zero]; exact h)
  clear h
  go_enter Tryz.func211, Tryz.ntmps211
  go_wp2_with fail
  go_loopw [10] (fun y wr => ∃ i : Nat, i ≤ q ∧ y = .int .i64 i ∧ Hid (RowV S wr G c n (swp f a b i)) ∧ Hid (Touch [G] w wr)) (fun y _ => q - (intOf y).toNat)
  case atStart => exact ⟨0, by omega, rfl, H0, Lib.hid (Touch.refl _ _)⟩
  case round =>
    clear H0
    obtain ⟨i, hi, rfl, HR, HT⟩ := hrel
    by_cases hlt : i < q
    · have ca := HR.out.cell (a + i) (by omega)
      have cb := HR.out.cell (b + i) (by omega)
      have fa := HR.out.free (a + i)
      have fb := HR.out.free (b + i)
      have hat := swp_at f a b i (by omega)
      rw [hat.1] at ca
      rw [hat.2] at cb
      have hne : a + i ≠ b + i := by omega
      obtain ⟨x, hx⟩ : ∃ x, x = f (a + i) := ⟨_, rfl⟩
      obtain ⟨y, hy⟩ : ∃ y, y = f (b + i) := ⟨_, rfl⟩
      rw [← hx] at ca
      rw [← hy] at cb
      have hs := (HR.out.set (a + i) y (by omega)).set (b + i) x (by omega)
      rw [hx, hy, swp_step f a b i (by omega), ← hx, ← hy] at hs
      have HS := Lib.hid hs
      have HT2 := Lib.hid ((HT.out.setCell (p := ⟨G, a + i, none⟩) (.inl (by simp)) (Value.slice (SL.A (S y)) (SL.n (S y)) (SL.c (S y)))).setCell (p := ⟨G, b + i, none⟩) (.inl (by simp)) (Value.slice (SL.A (S x)) (SL.n (S x)) (SL.c (S x))))
      clear hat hx hy hs
      go_wp2_with fail
      go_region
      go_wp2_with fail
      go_roundw
      case rel => exact ⟨i + 1, by omega, by go_num, Lib.hid (HS.out.touch0 (Touch.refl [] _).drew), Lib.hid HT2.out.drew⟩
      case measure => simp [intOf]; omega
    · obtain rfl : i = q := by omega
      go_wp2
      go_end0
      exact ⟨rfl, HR.out, HT.out⟩

set_option maxRecDepth 20000 in
set_option maxHeartbeats 3200000 in
/-- slices.rotateCmpFunc -/
theorem rotate_any (G c n : Nat) (hn : n ≤ 100000) (S : Nat → SL) (f : Nat → Nat) (a m b : Nat) (ham : a < m) (hmb : m < b) (hb : b ≤ n) (fv : Value) (w : World) (h : RowV S w G c n f) :
    Calls Tryz.prog 203 #[.slice (some ⟨G, 0, none⟩) n c, .int .i64 a, .int .i64 m, .int .i64 b, fv] w fun e w' => e = .returned (.tuple #[]) ∧ RowV S w' G c n (rot f a m b) ∧ Touch [G] w w' := by
  have H0 : Hid (rot f (m - (m - a)) m (m + (b - m)) = rot f a m b) := Lib.hid (by rw [show m - (m - a) = a by omega, show m + (b - m) = b by omega])
  have HR0 := Lib.hid h
  clear h
  go_enter Tryz.func203, Tryz.ntmps203
  go_wp2_with fail
  go_loopw [10, 11] (fun x y wr => ∃ (i j : Nat) (g : Nat → Nat), 0 < i ∧ 0 < j ∧ i ≤ m - a ∧ j ≤ b - m ∧ x = .int .i64 i ∧ y = .int .i64 j ∧ Hid (rot g (m - i) m (m + j) = rot f a m b) ∧ Hid (RowV S wr G c n g) ∧ Hid (Touch [G] w wr)) (fun x y _ => (intOf x).toNat + (intOf y).toNat)
  case atStart => exact ⟨m - a, b - m, f, by omega, by omega, by omega, by omega, by congr 1; omega, by congr 1; omega, H0, HR0, Lib.hid (Touch.refl _ _)⟩
  case round =>
    clear H0 HR0
    obtain ⟨i, j, g, hi, hj, him, hjb, rfl, rfl, HE, HR, HT⟩ := hrel
    have e1 : (m : Int) - (i : Int) = ((m - i : Nat) : Int) := by omega
    by_cases hij : i = j
    · subst hij
      have hS := swapR_any G c n hn S g (m - i) m i (by omega) (by omega) fv wr HR.out
      rw [rot_same g m i (by omega), HE.out] at hS
      have HS := Lib.hid hS
      clear hS
      go_wp2_with fail
      (try rw [e1])
      refine HS.out.mono ?_
      rintro e w2 ⟨rfl, hr, ht⟩
      go_wp2_with fail
      go_end0
      exact ⟨rfl, hr, HT.out.trans ht (fun b hb => .inl hb)⟩
    · have hij' : (i : Int) ≠ j := by omega
      have hne : ((i : Int) != (j : Int)) = true := by simp; omega
      by_cases hlt : j < i
      · have hS := swapR_any G c n hn S g (m - i) m j (by omega) (by omega) fv wr HR.out
        have HS := Lib.hid hS
        have HE2 := Lib.hid ((rot_left g m i j (by omega) hlt).trans HE.out)
        have e2 : (i : Int) - (j : Int) = ((i - j : Nat) : Int) := by omega
        have hlt' : (j : Int) < (i : Int) := by omega
        clear hS
        go_wp2_with fail
        (try rw [e1])
        refine HS.out.mono ?_
        rintro e w2 ⟨rfl, hr, ht⟩
        have HR2 := Lib.hid hr
        have HT2 := Lib.hid (HT.out.trans ht (fun b hb => .inl hb))
        clear hr ht HS
        go_wp2_with fail
        go_roundw
        case rel => exact ⟨i - j, j, _, by omega, by omega, by omega, by omega, by rw [← e2], rfl, HE2, HR2, HT2⟩
        case measure => simp [intOf]; omega
      · have hlt' : ((j : Int) < (i : Int)) = False := by simp; omega
        have hS := swapR_any G c n hn S g (m - i) (m + j - i) i (by omega) (by omega) fv wr HR.out
        have HS := Lib.hid hS
        have HE2 := Lib.hid ((rot_right g m i j (by omega) (by omega)).trans HE.out)
        have e2 : (j : Int) - (i : Int) = ((j - i : Nat) : Int) := by omega
        have e3 : (m : Int) + (j : Int) - (i : Int) = ((m + j - i : Nat) : Int) := by omega
        clear hS
        go_wp2_with fail
        (try rw [e1])
        (try rw [e3])
        refine HS.out.mono ?_
        rintro e w2 ⟨rfl, hr, ht⟩
        have HR2 := Lib.hid hr
        have HT2 := Lib.hid (HT.out.trans ht (fun b hb => .inl hb))
        clear hr ht HS
        go_wp2_with fail
        go_roundw
        case rel => exact ⟨i, j - i, _, by omega, by omega, by omega, by omega, rfl, by rw [← e2], HE2, HR2, HT2⟩
        case measure => simp [intOf]; omega
end Go.Proofs.YtafoklilkdnepaaGreatDoor

/- slices.symMergeCmpFunc on rows of slices: one element ahead, one behind. (gen_st.py) -/
namespace Go.Proofs.YtafoklilkdnepaaGreatDoor
open Go.RowKit

/-- the comparing function, at whatever world of the sort's -/
def CmpOkV (S : Nat → SL) (R : Nat → Nat → Int) (G n : Nat) (w0 : World) : Prop := ∀ wr, Touch [G] w0 wr → ∀ x y : Nat, x < n → y < n →
  Calls Tryz.prog 81 #[(Value.slice (SL.A (S x)) (SL.n (S x)) (SL.c (S x))), (Value.slice (SL.A (S y)) (SL.n (S y)) (SL.c (S y)))] wr fun e w' => e = .returned (.int .i64 (R x y)) ∧ Touch [] wr w'
/-- what symMerge does -/
def SmSpecV (S : Nat → SL) (G c n : Nat) (D : Nat → Nat) (w0 : World) (a m b : Nat) : Prop := ∀ (f : Nat → Nat) (wr : World), RowV S wr G c n f → Touch [G] w0 wr → Srt D f a m → Srt D f m b → Lr f a m b → (∀ k, k < n → f k < n) →
  Calls Tryz.prog 178 #[.slice (some ⟨G, 0, none⟩) n c, .int .i64 a, .int .i64 m, .int .i64 b, .func (.func 81) #[] #[]] wr fun e w' =>
    e = .returned (.tuple #[]) ∧ ∃ g, RowV S w' G c n g ∧ SM D f a b g ∧ Touch [G] wr w'

set_option maxRecDepth 20000 in
set_option maxHeartbeats 8000000 in
/-- one element ahead -/
theorem sm_first (G c n : Nat) (hn : n ≤ 100000) (S : Nat → SL) (R : Nat → Nat → Int) (D : Nat → Nat) (hRD : ∀ x y, R x y < 0 ↔ D x < D y) (w0 : World) (hC : CmpOkV S R G n w0) (a b : Nat) (hab : a + 1 < b) (hb : b ≤ n) : SmSpecV S G c n D w0 a (a + 1) b := by
  intro f wr hR hT hs1 hs2 hlr hfn
  obtain ⟨W0, hW0⟩ : ∃ W0, W0 = wr := ⟨_, rfl⟩
  subst hW0
  have HR := Lib.hid hR
  have HT := Lib.hid hT
  have HS := Lib.hid (And.intro hs2 hlr)
  have HC := Lib.hid hC
  have e1 : (((a + 1 : Nat) : Int) - (a : Int)) = 1 := by omega
  clear hR hT hs1 hs2 hlr hC
  go_enter Tryz.func178, Tryz.ntmps178
  go_wp2_with fail
  go_loopw [10, 11] (fun x y w1 => ∃ i j : Nat, a + 1 ≤ i ∧ i ≤ j ∧ j ≤ b ∧ x = .int .i64 i ∧ y = .int .i64 j ∧ Hid (∀ h, a + 1 ≤ h → h < i → ltL D (f h) (f a)) ∧ Hid (∀ h, j ≤ h → h < b → ltL D (f a) (f h)) ∧ Hid (Touch [] W0 w1)) (fun x y _ => (intOf y).toNat - (intOf x).toNat)
  case atStart => exact ⟨a + 1, b, by omega, by omega, by omega, by go_num, rfl, Lib.hid (fun h q1 q2 => absurd q1 (by omega)), Lib.hid (fun h q1 q2 => absurd q1 (by omega)), Lib.hid (Touch.refl _ _)⟩
  case round =>
    obtain ⟨i, j, hi, hij, hj, rfl, rfl, HL, HH, HW⟩ := hrel
    have hT1 : Touch [G] w0 wr := HT.out.trans HW.out (by simp)
    have hR1 : RowV S wr G c n f := HR.out.touch0 HW.out
    by_cases hlt : i < j
    · obtain ⟨h, hh⟩ : ∃ h, h = (i + j) / 2 := ⟨_, rfl⟩
      have hhi : i ≤ h := by omega
      have hhj : h < j := by omega
      have ch := TW.cell (hR1.cell h (by omega))
      have ca := TW.cell (hR1.cell a (by omega))
      obtain ⟨r, hr⟩ : ∃ r, r = R (f h) (f a) := ⟨_, rfl⟩
      have hc : ∀ x8 : TW wr, Calls Tryz.prog 81 #[(Value.slice (SL.A (S (f h))) (SL.n (S (f h))) (SL.c (S (f h)))), (Value.slice (SL.A (S (f a))) (SL.n (S (f a))) (SL.c (S (f a))))] x8.w fun e w' => e = .returned (.int .i64 r) ∧ Touch [] x8.w w' := fun x8 => by
        rw [hr]
        exact HC.out _ (Touch.trans hT1 x8.t (by simp)) (f h) (f a) (hfn _ (by omega)) (hfn _ (by omega))
      have HR1 := Lib.hid hR1
      have HT1 := Lib.hid hT1
      have HCC := Lib.hid hc
      have HQ := Lib.hid hr
      have he : ((i : Int) + (j : Int)) / 2 = (h : Int) := by omega
      clear hR1 hT1 hc hr hh
      go_wp2_with fail
      refine wp_region_tw wr (Touch.refl _ _) (by kernel_rfl) (by kernel_rfl) ?_
      repeat (go_big_quiet_step (((go_at_call 81; exact Calls.tw _ (HCC.out _)))))
      refine wpQuiet_nil ?_
      rintro _ ⟨x9, rfl⟩
      by_cases hr0 : r < 0
      · go_wp2_with fail
        go_roundw
        case rel =>
          have q := (hRD _ _).1 (HQ.out ▸ hr0)
          have q2 : ltL D (f h) (f a) := .inl (by omega)
          exact ⟨h + 1, j, by omega, by omega, hj, by go_num, rfl, Lib.hid (fun x x1 x2 => srt_lt HS.out.1 x1 (by omega) (by omega) q2), HH, Lib.hid (HW.out.trans0 x9.t)⟩
        case measure => simp [intOf]; omega
      · have hr1 : (r < 0) = False := by simp; omega
        go_wp2_with fail
        go_roundw
        case rel =>
          have q := mt (hRD (f h) (f a)).2 (HQ.out ▸ hr0)
          have q2 : ltL D (f a) (f h) := (ltL_num (HS.out.2 a h (by omega) (by omega) (by omega) (by omega))).2 (by omega)
          exact ⟨i, h, by omega, by omega, by omega, rfl, by go_num, HL, Lib.hid (fun x x1 x2 => srt_gt HS.out.1 (by omega) x1 x2 q2), Lib.hid (HW.out.trans0 x9.t)⟩
        case measure => simp [intOf]; omega
    · obtain rfl : i = j := by omega
      have H0 : Hid (RowV S wr G c n (rot f a (a + 1) (a + 1))) := Lib.hid (by rw [rot_a]; exact hR1)
      have HT1 := Lib.hid hT1
      have HW1 : Hid (Touch [G] W0 wr) := Lib.hid (HW.out.mono (by simp))
      have e2 : (i : Int) - 1 = ((i - 1 : Nat) : Int) := by omega
      clear hR1 hT1
      go_wp2_with fail
      go_loopw [13] (fun y w1 => ∃ k : Nat, a ≤ k ∧ k + 1 ≤ i ∧ y = .int .i64 k ∧ Hid (RowV S w1 G c n (rot f a (a + 1) (k + 1))) ∧ Hid (Touch [G] W0 w1)) (fun y _ => i - (intOf y).toNat)
      case atStart => exact ⟨a, by omega, by omega, rfl, H0, HW1⟩
      case round =>
        clear H0 HW1 HT1
        obtain ⟨k, hk, hki, rfl, HRk, HTk⟩ := hrel
        by_cases hlt : k + 1 < i
        · have hlt2 : (k : Int) < ((i - 1 : Nat) : Int) := by omega
          have ca := HRk.out.cell k (by omega)
          have cb := HRk.out.cell (k + 1) (by omega)
          have fa := HRk.out.free k
          have fb := HRk.out.free (k + 1)
          have hat := rot_up_at f a k hk
          rw [hat.1] at ca
          rw [hat.2] at cb
          obtain ⟨x, hx⟩ : ∃ x, x = f a := ⟨_, rfl⟩
          obtain ⟨y, hy⟩ : ∃ y, y = f (k + 1) := ⟨_, rfl⟩
          rw [← hx] at ca
          rw [← hy] at cb
          have hs := (HRk.out.set k y (by omega)).set (k + 1) x (by omega)
          rw [hx, hy, rot_up f a k hk, ← hx, ← hy] at hs
          have HS2 := Lib.hid hs
          have HT2 := Lib.hid ((HTk.out.setCell (p := ⟨G, k, none⟩) (.inl (by simp)) (Value.slice (SL.A (S y)) (SL.n (S y)) (SL.c (S y)))).setCell (p := ⟨G, k + 1, none⟩) (.inl (by simp)) (Value.slice (SL.A (S x)) (SL.n (S x)) (SL.c (S x))))
          have hne : k ≠ k + 1 := by omega
          clear hat hx hy hs
          go_wp2_with fail
          go_region
          go_wp2_with fail
          go_roundw
          case rel => exact ⟨k + 1, by omega, by omega, by go_num, Lib.hid (HS2.out.touch0 (Touch.refl [] _).drew), Lib.hid HT2.out.drew⟩
          case measure => simp [intOf]; omega
        · have hlt2 : ((k : Int) < ((i - 1 : Nat) : Int)) = False := by simp; omega
          go_wp2
          refine bodyPost_ret (results_none rfl _ _ _) rfl ?_
          obtain rfl : k + 1 = i := by omega
          exact ⟨rfl, _, HRk.out, sm_one hab HS.out.1 (by omega) hj HL.out HH.out, HTk.out⟩
set_option maxRecDepth 20000 in
set_option maxHeartbeats 8000000 in
/-- one element behind -/
theorem sm_back (G c n : Nat) (hn : n ≤ 100000) (S : Nat → SL) (R : Nat → Nat → Int) (D : Nat → Nat) (hRD : ∀ x y, R x y < 0 ↔ D x < D y) (w0 : World) (hC : CmpOkV S R G n w0) (a m : Nat) (ham : a + 1 < m) (hb : m + 1 ≤ n) : SmSpecV S G c n D w0 a m (m + 1) := by
  intro f wr hR hT hs1 hs2 hlr hfn
  obtain ⟨W0, hW0⟩ : ∃ W0, W0 = wr := ⟨_, rfl⟩
  subst hW0
  have HR := Lib.hid hR
  have HT := Lib.hid hT
  have HS := Lib.hid (And.intro hs1 hlr)
  have HC := Lib.hid hC
  have HF := Lib.hid hfn
  have e1 : ((m : Int) - (a : Int) == 1) = false := by simp; omega
  have e2 : (((m + 1 : Nat) : Int) - (m : Int)) = 1 := by omega
  clear hR hT hs1 hs2 hlr hC hfn
  go_enter Tryz.func178, Tryz.ntmps178
  go_wp2_with fail
  go_loopw [14, 15] (fun x y w1 => ∃ i j : Nat, a ≤ i ∧ i ≤ j ∧ j ≤ m ∧ x = .int .i64 i ∧ y = .int .i64 j ∧ Hid (∀ h, a ≤ h → h < i → ltL D (f h) (f m)) ∧ Hid (∀ h, j ≤ h → h < m → ltL D (f m) (f h)) ∧ Hid (Touch [] W0 w1)) (fun x y _ => (intOf y).toNat - (intOf x).toNat)
  case atStart => exact ⟨a, m, by omega, by omega, by omega, rfl, rfl, Lib.hid (fun h q1 q2 => absurd q1 (by omega)), Lib.hid (fun h q1 q2 => absurd q1 (by omega)), Lib.hid (Touch.refl _ _)⟩
  case round =>
    obtain ⟨i, j, hi, hij, hj, rfl, rfl, HL, HH, HW⟩ := hrel
    have hT1 : Touch [G] w0 wr := HT.out.trans HW.out (by simp)
    have hR1 : RowV S wr G c n f := HR.out.touch0 HW.out
    by_cases hlt : i < j
    · obtain ⟨h, hh⟩ : ∃ h, h = (i + j) / 2 := ⟨_, rfl⟩
      have hhi : i ≤ h := by omega
      have hhj : h < j := by omega
      have ch := TW.cell (hR1.cell h (by omega))
      have ca := TW.cell (hR1.cell m (by omega))
      obtain ⟨r, hr⟩ : ∃ r, r = R (f m) (f h) := ⟨_, rfl⟩
      have hc : ∀ x8 : TW wr, Calls Tryz.prog 81 #[(Value.slice (SL.A (S (f m))) (SL.n (S (f m))) (SL.c (S (f m)))), (Value.slice (SL.A (S (f h))) (SL.n (S (f h))) (SL.c (S (f h))))] x8.w fun e w' => e = .returned (.int .i64 r) ∧ Touch [] x8.w w' := fun x8 => by
        rw [hr]
        exact HC.out _ (Touch.trans hT1 x8.t (by simp)) (f m) (f h) (HF.out _ (by omega)) (HF.out _ (by omega))
      have HR1 := Lib.hid hR1
      have HT1 := Lib.hid hT1
      have HCC := Lib.hid hc
      have HQ := Lib.hid hr
      have he : ((i : Int) + (j : Int)) / 2 = (h : Int) := by omega
      clear hR1 hT1 hc hr hh
      go_wp2_with fail
      by_cases hr0 : r < 0
      · refine wp_region_tw wr (Touch.refl _ _) (by kernel_rfl) (by kernel_rfl) ?_
        repeat (go_big_quiet_step (((go_at_call 81; exact Calls.tw _ (HCC.out _)))))
        refine wpQuiet_nil ?_
        rintro _ ⟨x9, rfl⟩
        go_wp2_with fail
        go_roundw
        case rel =>
          have q := (hRD _ _).1 (HQ.out ▸ hr0)
          have q2 : ltL D (f m) (f h) := .inl (by omega)
          exact ⟨i, h, by omega, by omega, by omega, rfl, by go_num, HL, Lib.hid (fun x x1 x2 => srt_gt HS.out.1 (by omega) x1 x2 q2), Lib.hid (HW.out.trans0 x9.t)⟩
        case measure => simp [intOf]; omega
      · have hr1 : (r < 0) = False := by simp; omega
        refine wp_region_tw wr (Touch.refl _ _) (by kernel_rfl) (by kernel_rfl) ?_
        repeat (go_big_quiet_step (((go_at_call 81; exact Calls.tw _ (HCC.out _)))))
        refine wpQuiet_nil ?_
        rintro _ ⟨x9, rfl⟩
        go_wp2_with fail
        go_roundw
        case rel =>
          have q := mt (hRD (f m) (f h)).2 (HQ.out ▸ hr0)
          have q2 : ltL D (f h) (f m) := (ltL_num (HS.out.2 h m (by omega) (by omega) (by omega) (by omega))).2 (by omega)
          exact ⟨h + 1, j, by omega, by omega, hj, by go_num, rfl, Lib.hid (fun x x1 x2 => srt_lt HS.out.1 x1 (by omega) (by omega) q2), HH, Lib.hid (HW.out.trans0 x9.t)⟩
        case measure => simp [intOf]; omega
    · obtain rfl : i = j := by omega
      have H0 : Hid (RowV S wr G c n (rot f m m (m + 1))) := Lib.hid (by rw [rot_b]; exact hR1)
      have HT1 := Lib.hid hT1
      have HW1 : Hid (Touch [G] W0 wr) := Lib.hid (HW.out.mono (by simp))
      clear hR1 hT1
      go_wp2_with fail
      go_loopw [17] (fun y w1 => ∃ k : Nat, i ≤ k ∧ k ≤ m ∧ y = .int .i64 k ∧ Hid (RowV S w1 G c n (rot f k m (m + 1))) ∧ Hid (Touch [G] W0 w1)) (fun y _ => (intOf y).toNat - i)
      case atStart => exact ⟨m, by omega, by omega, rfl, H0, HW1⟩
      case round =>
        clear H0 HW1 HT1
        obtain ⟨k', hk, hki, rfl, HRk, HTk⟩ := hrel
        by_cases hlt : i < k'
        · obtain ⟨k, rfl⟩ : ∃ k, k' = k + 1 := ⟨k' - 1, by omega⟩
          have hlt2 : (i : Int) < ((k + 1 : Nat) : Int) := by omega
          have ca := HRk.out.cell k (by omega)
          have cb := HRk.out.cell (k + 1) (by omega)
          have fa := HRk.out.free k
          have fb := HRk.out.free (k + 1)
          have hat := rot_dn_at f m k hki
          rw [hat.1] at ca
          rw [hat.2] at cb
          obtain ⟨x, hx⟩ : ∃ x, x = f m := ⟨_, rfl⟩
          obtain ⟨y, hy⟩ : ∃ y, y = f k := ⟨_, rfl⟩
          rw [← hy] at ca
          rw [← hx] at cb
          have hs := (HRk.out.set (k + 1) y (by omega)).set k x (by omega)
          rw [hx, hy, rot_dn f m k hki, ← hx, ← hy] at hs
          have HS2 := Lib.hid hs
          have HT2 := Lib.hid ((HTk.out.setCell (p := ⟨G, k + 1, none⟩) (.inl (by simp)) (Value.slice (SL.A (S y)) (SL.n (S y)) (SL.c (S y)))).setCell (p := ⟨G, k, none⟩) (.inl (by simp)) (Value.slice (SL.A (S x)) (SL.n (S x)) (SL.c (S x))))
          have e3 : ((k + 1 : Nat) : Int) - 1 = (k : Int) := by omega
          have hne : k + 1 ≠ k := by omega
          clear hat hx hy hs
          go_wp2_with fail
          go_region
          go_wp2_with fail
          go_roundw
          case rel => exact ⟨k, by omega, by omega, by go_num, Lib.hid (HS2.out.touch0 (Touch.refl [] _).drew), Lib.hid HT2.out.drew⟩
          case measure => simp [intOf]; omega
        · obtain rfl : i = k' := by omega
          have hlt2 : ((i : Int) < (i : Int)) = False := by simp
          go_wp2
          refine bodyPost_ret (results_none rfl _ _ _) rfl ?_
          exact ⟨rfl, _, HRk.out, sm_last (by omega) HS.out.1 hi hj HL.out HH.out, HTk.out⟩
end Go.Proofs.YtafoklilkdnepaaGreatDoor
