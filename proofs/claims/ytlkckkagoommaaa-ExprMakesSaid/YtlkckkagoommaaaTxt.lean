/- Texts, bytes of texts, values: what all layers above the bytes share; value.plain, value.Value.Right. -/
import Derived.Test.YtlkckkagoommaaaBase
import Derived.Lib.ConvBytes
import Derived.IntWalk
namespace Go.Proofs.Ytlkckkagoommaaa
open Go.RowKit

theorem S_inj {a b : List UInt8} (h : S a = S b) : a = b := by
  have := congrArg (fun x : ByteArray => x.data.toList) h
  simpa [S] using this
theorem S_eq (a b : List UInt8) : (S a = S b) = (a = b) := propext ⟨S_inj, fun h => by rw [h]⟩

theorem S_list (a : List UInt8) : (S a).toList = a := by rw [ByteArray.toList_eq]; simp [S]
theorem S_beq (a b : List UInt8) : ((S a).toList == (S b).toList) = decide (a = b) := by
  rw [S_list, S_list, Bool.eq_iff_iff]; simp
theorem S_bne (a b : List UInt8) : (!(S a).toList == (S b).toList) = !decide (a = b) := by
  rw [S_beq]

theorem S_size (s : List UInt8) : (S s).size = s.length := by simp [S, ByteArray.size]
theorem S_toList (s : List UInt8) : (S s).data.toList = s := by simp [S]
/-- []byte(s) -/
theorem run_bytes_of (s : List UInt8) (W : World) : (convert 9 108 (.string (S s))).run Try.prog W = .ok (.slice (some ⟨W.heap.size, 0, none⟩) s.length (grownCap W s.length 0 5)) (Lib.bytesWorld W 5 (S s)) := by
  have := Lib.run_convert_string_bytes (P := Try.prog) W 9 108 5 (S s) Try.underlying9 Try.underlying108 Try.underlying5
  rw [S_size] at this
  exact this
theorem touch_bytes (W : World) (s : List UInt8) : Touch [] W (Lib.bytesWorld W 5 (S s)) :=
  ⟨rfl, rfl, rfl, by rw [Lib.bytesWorld_size]; omega, fun k hk _ => Lib.bytesWorld_at_old W _ _ k hk⟩
theorem rd_bytes (W : World) (s : List UInt8) : RdB (Lib.bytesWorld W 5 (S s)) (some ⟨W.heap.size, 0, none⟩) s := fun _ =>
  ⟨_, rfl, fun j u hu => by
    have hadd : (⟨W.heap.size, 0, none⟩ : Addr).add j = ⟨W.heap.size, j, none⟩ := by unfold Addr.add; split <;> simp_all
    have hj : j < s.length := by have := (List.getElem?_eq_some_iff.1 hu).1; simpa using this
    rw [hadd, Lib.bytesWorld_cell _ _ _ j (by rw [S_size]; exact hj), S_toList]
    simp only [List.getElem?_map, List.getElem?_eq_getElem hj, Option.map_some, Option.some.injEq] at hu
    rw [← hu]
    simp [List.getD, hj, B]⟩

theorem size_toList (s : ByteArray) : s.data.toList.length = s.size := by rw [Array.length_toList]; rfl
/-- a value: its kind, its number, its text -/
structure VD where
  kind : Int
  num : Int
  text : ByteArray
/-- as the program lays it -/
def VD.val (v : VD) : Value := .agg #[.int .i64 v.kind, .int .i64 v.num, .string v.text]
/-- numbers within bounds, the text short -/
structure VD.Ok (v : VD) (m : Nat) : Prop where
  k : -9223372036854775808 ≤ v.kind ∧ v.kind ≤ 9223372036854775807
  n : -9223372036854775808 ≤ v.num ∧ v.num ≤ 9223372036854775807
  t : v.text.size ≤ m
theorem cell_blk {w : World} {g i : Nat} {cs : Array Value} {t : TypeId} {v : Value} (h : w.heap[g]? = some (.cells cs t (0, 0))) (hv : cs[i]? = some v) : w.cell? ⟨g, i, none⟩ = some v := by
  rw [cell_of_row w g i cs t (0, 0) h]; exact hv

theorem set_blk {w : World} {g : Nat} {cs : Array Value} {t : TypeId} (h : w.heap[g]? = some (.cells cs t (0, 0))) (i : Nat) (u : Value) :
    (w.setCell ⟨g, i, none⟩ u).heap[g]? = some (.cells (cs.setIfInBounds i u) t (0, 0)) := by
  simp [World.setCell, Array.getElem?_modify, h]

theorem S_of (s : ByteArray) : S s.data.toList = s := by cases s; simp [S]
theorem toList_B (x : ByteArray) : x.toList = x.data.toList := ByteArray.toList_eq x
theorem bs_eq {x y : ByteArray} (h : x.data.toList = y.data.toList) : x = y := by rw [← S_of x, ← S_of y, h]
theorem bs_beq (x y : ByteArray) : (x.toList == y.toList) = decide (x = y) := by
  rw [toList_B, toList_B, Bool.eq_iff_iff]
  simp only [beq_iff_eq, decide_eq_true_eq]
  exact ⟨bs_eq, fun h => by rw [h]⟩

/-- may a byte stand in a table's text? -/
def okB (c : UInt8) : Bool := decide (32 ≤ c.toNat) && decide (c.toNat ≤ 126)
/-- a text that may stand in a table -/
def plainV (t : List UInt8) : Bool := t.all okB && decide (t.length ≤ 64)

set_option maxRecDepth 20000 in
set_option maxHeartbeats 800000 in
theorem plain_any (t : List UInt8) (hs : t.length ≤ 140737000000000) (w : World) :
    Calls Try.prog 39 #[.string (S t)] w fun e w' => e = .returned (.bool (plainV t)) ∧ Touch [] w w' := by
  go_enter Try.func39, Try.ntmps39
  have hconv := run_bytes_of t w
  have hsz := S_size t
  have hr := rd_bytes w t
  have ht := touch_bytes w t
  obtain ⟨W, hW⟩ : ∃ W, W = Lib.bytesWorld w 5 (S t) := ⟨_, rfl⟩
  rw [← hW] at hconv hr ht
  clear hW
  go_wp2_with fail
  clear hconv
  go_loop [8] (fun i => ∃ k : Nat, k ≤ t.length ∧ i = .int .i64 k ∧ Hid ((t.take k).all okB = true)) (fun i => t.length - (intOf i).toNat)
  case atStart => exact ⟨0, by omega, rfl, Lib.hid rfl⟩
  case round =>
    obtain ⟨k, hk, rfl, hall⟩ := hrel
    by_cases hlt : k < t.length
    · obtain ⟨ad, e1, hcell⟩ := hr.at_ k hlt
      obtain rfl : ⟨w.heap.size, 0, none⟩ = ad := by injection e1
      obtain ⟨x, hx⟩ : ∃ x, x = t[k] := ⟨_, rfl⟩
      have hadd : (⟨w.heap.size, 0, none⟩ : Addr).add k = ⟨w.heap.size, k, none⟩ := by unfold Addr.add; split <;> simp_all
      rw [← hx, hadd] at hcell
      have hxl := x.toNat_lt
      have hbad : okB x = false → plainV t = false := fun h => by
        unfold plainV
        have : t.all okB = false := by
          rw [List.all_eq_false]
          exact ⟨t[k], List.getElem_mem hlt, by rw [← hx, h]; simp⟩
        rw [this]; rfl
      have hgood : okB x = true → (t.take (k + 1)).all okB = true := fun h => by
        rw [List.take_succ_eq_append_getElem hlt, List.all_append, hall.out, ← hx]
        simp [h]
      have Hb := Lib.hid hbad
      have Hg := Lib.hid hgood
      clear hbad hgood hx hall e1 hadd
      by_cases h1 : x.toNat < 32
      · have hz : ((x.toNat : Int) < 32) = True := eq_true (by omega)
        go_wp2
        go_ret
        exact ⟨by rw [Hb.out (by simp [okB]; omega)]; rfl, ht⟩
      have hz : ((x.toNat : Int) < 32) = False := eq_false (by omega)
      by_cases h2 : 126 < x.toNat
      · have hy : (126 < (x.toNat : Int)) = True := eq_true (by omega)
        go_wp2
        go_ret
        exact ⟨by rw [Hb.out (by simp [okB]; omega)]; rfl, ht⟩
      · have hy : (126 < (x.toNat : Int)) = False := eq_false (by omega)
        go_wp2
        go_round
        case rel => exact ⟨k + 1, by omega, by go_num, Lib.hid (Hg.out (by simp [okB]; omega))⟩
        case measure => simp [intOf]; omega
    · obtain rfl : k = t.length := by omega
      have hfin : plainV t = decide ((t.length : Int) ≤ 64) := by
        have h := hall.out
        rw [List.take_length] at h
        unfold plainV
        rw [h, Bool.true_and]
        exact decide_eq_decide.2 (by omega)
      have Hf := Lib.hid hfin
      clear hfin hall
      go_wp2
      go_ret
      exact ⟨by rw [Hf.out]; rfl, ht⟩
/-- is a value right? -/
def VD.right (v : VD) : Bool :=
  if v.kind = 0 then decide (v.num = 0) && v.text.toList.isEmpty else if v.kind = 1 then v.text.toList.isEmpty else if v.kind = 2 then decide (v.num = 0) && plainV v.text.data.toList else false

set_option maxRecDepth 20000 in
set_option maxHeartbeats 800000 in
theorem right_any (v : VD) (hs : v.text.size ≤ 140737000000000) (w : World) :
    Calls Try.prog 16 #[v.val] w fun e w' => e = .returned (.bool v.right) ∧ Touch [] w w' := by
  obtain ⟨k, n, s⟩ := v
  dsimp only [VD.val] at *
  go_enter Try.func16, Try.ntmps16
  have t0 := (Touch.refl [] w).alloc (.cells #[.int .i64 k, .int .i64 n, .string s] 30)
  have hp := plain_any s.data.toList (by rw [size_toList]; exact hs) (w.alloc (.cells #[.int .i64 2, .int .i64 0, .string s] 30))
  rw [S_of] at hp
  have Hp := Lib.hid hp
  clear hp
  by_cases h0 : k = 0
  · subst h0
    by_cases hn : n = 0
    · subst hn
      go_wp2_with fail
      go_ret
      exact ⟨rfl, t0⟩
    · have hne : (n == 0) = false := by simpa using hn
      have hr : VD.right ⟨0, n, s⟩ = false := by simp [VD.right, hn]
      have Hr := Lib.hid hr
      clear hr
      go_wp2_with fail
      go_ret
      exact ⟨by rw [Hr.out]; rfl, t0⟩
  by_cases h1 : k = 1
  · subst h1
    go_wp2_with fail
    go_ret
    exact ⟨rfl, t0⟩
  by_cases h2 : k = 2
  · subst h2
    by_cases hn : n = 0
    · subst hn
      go_wp2_with fail
      refine Hp.out.mono ?_
      rintro e w1 ⟨rfl, t1⟩
      go_wp2_with fail
      go_ret
      exact ⟨rfl, t0.trans0 t1⟩
    · have hne : (n == 0) = false := by simpa using hn
      have hr : VD.right ⟨2, n, s⟩ = false := by simp [VD.right, hn]
      have Hr := Lib.hid hr
      clear hr
      go_wp2_with fail
      go_ret
      exact ⟨by rw [Hr.out]; rfl, t0⟩
  · have hr : VD.right ⟨k, n, s⟩ = false := by simp [VD.right, h0, h1, h2]
    have Hr := Lib.hid hr
    clear hr
    go_wp2_with fail
    go_ret
    exact ⟨by rw [Hr.out]; rfl, t0⟩
end Go.Proofs.Ytlkckkagoommaaa
