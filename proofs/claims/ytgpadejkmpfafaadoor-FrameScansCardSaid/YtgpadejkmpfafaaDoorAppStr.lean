/- append([]byte, text..): onto bytes that the calls own. -/
import Derived.Test.YtgpadejkmpfafaaDoorBase
import Derived.Lib.AppendStr
import Derived.Below
namespace Go.Proofs.YtgpadejkmpfafaaDoor
open Go.RowKit

theorem strCells_B (s : ByteArray) : Lib.strCells s = s.data.toList.map B := by
  simp [Lib.strCells, B]

/-- a row just made: these bytes, then room -/
theorem OwnB.made (w : World) (l : List UInt8) (n c : Nat) (rest : Array Value) (hn : l.length = n) (hc : n ≤ c) (hm : c ≤ maxLen) (hr : rest.size = c - n) :
    OwnB (w.alloc (.cells ((l.map B).toArray ++ rest) 5)) (some ⟨w.heap.size, 0, none⟩) c l := by
  subst hn
  refine ⟨by simp, .inr ⟨w.heap.size, c, (l.map B).toArray ++ rest, rfl, Nat.zero_le _, heap_alloc_new w _, hc, hm, ?_, ?_⟩⟩
  · have h1 : ((l.map B).toArray).size = l.length := by rw [List.size_toArray, List.length_map]
    rw [Array.size_append, hr, h1, Nat.mul_one]
    clear hm hr; omega
  · simp only [Array.toList_append, Nat.mul_one]
    have : (l.map B).toArray.toList.length = l.length := by simp
    rw [← this, List.take_left]

theorem run_appStr (A0 : Option Addr) (c0 : Nat) (l : List UInt8) (w : World) (hown : OwnB w A0 c0 l) (s : ByteArray) (hb : l.length + s.size ≤ 140737488355328) (ty : TypeId) :
    ∃ A' c' w', (Builtin.append_ #[22, 9] ty #[.slice A0 l.length c0, .string s]).run Tryd.prog w = .ok (.slice A' (l.length + s.size) c') w' ∧ OwnB w' A' c' (l ++ s.data.toList) ∧ Touch (fpo A0) w w' ∧
      ∀ b ∈ fpo A', b ∈ fpo A0 ∨ b = w.heap.size := by
  obtain ⟨i0, hi0, hz0, hz1, hz2⟩ := info_parts info_u8
  have ht := Tryd.underlying22
  have hu := Tryd.underlying9
  have hsl : s.data.toList.length = s.size := by rw [Array.length_toList]; rfl
  rcases hown.2 with ⟨hv, hn0⟩ | ⟨g, cap, cur, hv, _, hg, hnc, hcm, hcs, htake⟩
  · injection hv with e1 _ e3
    subst e1 e3
    obtain rfl := List.eq_nil_of_length_eq_zero hn0
    by_cases h0 : s.size = 0
    · have hd : s.data.toList = [] := List.eq_nil_of_length_eq_zero (by omega)
      have hf := Lib.run_firstCells_string (P := Tryd.prog) w 1 s
      rw [h0] at hf
      have hcz : Lib.strCells s = [] := by rw [strCells_B, hd]; rfl
      rw [hcz] at hf
      refine ⟨none, 0, w, ?_, by rw [hd]; exact OwnB.nil w, Touch.refl _ _, fun b hb => .inl hb⟩
      simp [Builtin.append_, run_underlying ht, run_underlying hu, sizeOf, typeInfo, hi0, hz1, Builtin.lenOf, h0, hf]
    · have hr := run_append_nil_string (P := Tryd.prog) w 22 9 ty 5 i0 (.int .u8 0) ht hu hi0 hz0 s (by omega) (by omega) (by rw [hz2]; simp at hb; omega)
      have hge := grownCap_ge w s.size 0 5
      have hle := grownCap_le_maxLen w s.size 0 5 (by simp only [maxLen]; simp at hb; omega)
      have hmade := OwnB.made w.drew s.data.toList s.size (grownCap w s.size 0 5) (Builtin.zeroCells (Value.int .u8 0).cells (grownCap w s.size 0 5 - s.size)) hsl hge hle (by rw [size_zeroCells]; simp [Value.cells])
      have hcs : (s.data.map (fun b => Value.int .u8 b.toNat)) = (s.data.toList.map B).toArray := by
        apply Array.ext'
        simp [B]
      rw [hcs] at hr
      refine ⟨some ⟨w.heap.size, 0, none⟩, grownCap w s.size 0 5, _, ?_, hmade, ⟨rfl, rfl, rfl, by simp, fun k hk _ => Below.heap_alloc w.drew _ k hk⟩, fun b hb => .inr (by simpa [fpo] using hb)⟩
      simpa using hr
  · injection hv with e1 _ e3
    subst e1 e3
    have hcs' : cur.size = c0 := by simpa using hcs
    by_cases hroom : l.length + s.size ≤ c0
    · have hr := Lib.run_append_room_string (P := Tryd.prog) w 22 9 ty 5 i0 ht hu hi0 hz1 g l.length c0 cur hg s hroom (by omega)
      refine ⟨some ⟨g, 0, none⟩, c0, _, hr, ⟨by simp, .inr ⟨g, c0, _, ?_, Nat.zero_le _, setRow_heap w g cur _ 5 _ hg, ?_, hcm, ?_, ?_⟩⟩, ⟨rfl, rfl, rfl, by simp, fun k _ hk => setRow_other w g k _ (fun e => hk (by simp [fpo, e]))⟩, fun b hb => .inl hb⟩
      · rw [List.length_append, hsl]
      · rw [List.length_append, hsl]; exact hroom
      · simp only [List.size_toArray, List.length_append, List.length_take, List.length_drop, Array.length_toList, Lib.strCells_length]
        clear hcm; omega
      · have ht' : cur.toList.take l.length = l.map B := by simpa using htake
        rw [ht', strCells_B]
        have : (l.map B ++ s.data.toList.map B).length = (l ++ s.data.toList).length * 1 := by simp
        rw [← this, List.map_append]
        exact List.take_left
    · have holds : ∀ j u, (l.map B)[j]? = some u → w.cell? ((⟨g, 0, none⟩ : Addr).add j) = some u := World.ownsRow.cells hown (g := g) rfl
      have hr := Lib.run_append_grow_string (P := Tryd.prog) w 22 9 ty 5 i0 (.int .u8 0) ht hu hi0 hz0 ⟨g, 0, none⟩ l.length c0 (l.map B) (by rw [hz1]; simp) holds s (by omega) (by omega) (by rw [hz2]; exact growslice_fits (by omega) (by omega))
      have hge := grownCap_ge w (l.length + s.size) c0 5
      have hle := grownCap_le_maxLen w (l.length + s.size) c0 5 (by simp only [maxLen]; omega)
      have hmade := OwnB.made w.drew (l ++ s.data.toList) (l.length + s.size) (grownCap w (l.length + s.size) c0 5) (Builtin.zeroCells (Value.int .u8 0).cells (grownCap w (l.length + s.size) c0 5 - (l.length + s.size))) (by rw [List.length_append, hsl]) hge hle (by rw [size_zeroCells]; simp [Value.cells])
      have e : (l.map B).toArray ++ (Lib.strCells s).toArray = ((l ++ s.data.toList).map B).toArray := by
        rw [strCells_B]; simp
      rw [e] at hr
      exact ⟨some ⟨w.heap.size, 0, none⟩, grownCap w (l.length + s.size) c0 5, _, hr, hmade, ⟨rfl, rfl, rfl, by simp, fun k hk _ => Below.heap_alloc w.drew _ k hk⟩, fun b hb => .inr (by simpa [fpo] using hb)⟩

theorem wpList_appStr {w : World} {ops : Array Oper} {rest : List Oper} {o : Oper} {a : Act} {Q : Exit → Act → World → Prop} (hgd : o.guard = none) (s x : Operand)
    (ho : o.op = .call { callee := .builtin .append, args := #[s, x], argTypes := #[22, 9] })
    (A0 : Option Addr) (n c0 : Nat) (l : List UInt8) (hn : l.length = n) (hs : a.eval s = .slice A0 n c0) (hown : OwnB w A0 c0 l)
    (t : ByteArray) (hx : a.eval x = .string t) (hbytes : n + t.size ≤ 140737488355328)
    (h : ∀ A' c' w', OwnB w' A' c' (l ++ t.data.toList) → Touch (fpo A0) w w' → (∀ b ∈ fpo A', b ∈ fpo A0 ∨ b = w.heap.size) → wpList Tryd.prog ops Q rest (a.put o.dst (.slice A' (n + t.size) c')) w') :
    wpList Tryd.prog ops Q (o :: rest) a w := by
  subst hn
  refine wpList_plain hgd fun _ hK => ?_
  obtain ⟨A', c', w', hrun, h2, h3, h4⟩ := run_appStr A0 c0 l w hown t hbytes o.type
  unfold Oper.wp execOp
  simp only [ho, resolve, invoke, builtin, Sem.run_bind, Sem.run_pure, Result.andThen_ok, List.map_toArray, List.map_cons, List.map_nil, hs, hx, hrun]
  exact hK _ _ (h A' c' w' h2 h3 h4)
end Go.Proofs.YtgpadejkmpfafaaDoor
