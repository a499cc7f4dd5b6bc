/- schema.Parse: the schema of a text. For every text of at most some thousand bytes. -/
import Derived.Test.YtngoiphknffplaaDoorSplit
import Derived.Test.YtngoiphknffplaaDoorRound
import Derived.Test.YtngoiphknffplaaDoorSchJoin
namespace Go.Proofs.YtngoiphknffplaaDoor
open Go.RowKit Go.Shelf

attribute [local go_sem] Oper.semAt_some

theorem cutPre_any (s p : List UInt8) (w : World) : Calls Tryd.prog 32 #[.string (S s), .string (S p)] w fun e w' => e = .returned (.tuple #[.string (S (Lib.trimPrefix s p)), .bool (Lib.hasPrefix s p)]) ∧ w = w' := by
  have h := Tryd.strings_CutPrefix (S s) (S p) w
  rw [S_toList, S_toList] at h
  exact h.mono fun e w' ⟨he, hw⟩ => ⟨he, hw.symm⟩
theorem cutSuf_any (s p : List UInt8) (hs : s.length ≤ 1000000) (w : World) : Calls Tryd.prog 33 #[.string (S s), .string (S p)] w fun e w' => e = .returned (.tuple #[.string (S (Lib.trimSuffix s p)), .bool (Lib.hasSuffix s p)]) ∧ w = w' := by
  have h := Tryd.strings_CutSuffix (S s) (S p) w (by rw [S_size]; omega)
  rw [S_toList, S_toList] at h
  exact h.mono fun e w' ⟨he, hw⟩ => ⟨he, hw.symm⟩
theorem cutAt_any (s p : List UInt8) (hs : s.length ≤ 1000000) (w : World) (hG : Gs w) : Calls Tryd.prog 35 #[.string (S s), .string (S p)] w fun e w' =>
    e = .returned (.tuple #[.string (S (Lib.cut s p).1), .string (S (Lib.cut s p).2.1), .bool (Lib.cut s p).2.2]) ∧ ∃ n, w' = w.drewN n := by
  obtain ⟨m, hm⟩ := hG.len
  have h := Tryd.strings_Cut (S s) (S p) m w (by rw [S_size]; omega) hm
  rw [S_toList, S_toList] at h
  exact h
theorem idx_typ (x : List UInt8) : max (Lib.idxOfS [S [], S [105, 110, 116], S [116, 101, 120, 116]] (S x)) 0 = typV x := by
  unfold Lib.idxOfS Lib.idxFromS Lib.idxFromS Lib.idxFromS Lib.idxFromS typV
  have hne : ([] : List UInt8) ≠ [105, 110, 116] := by decide
  by_cases h1 : x = []
  · subst h1; simp
  · by_cases h2 : x = [105, 110, 116]
    · subst h2; simp [S_eq]; rfl
    · by_cases h3 : x = [116, 101, 120, 116]
      · subst h3; simp [S_eq]; rfl
      · simp [S_eq, h1, h2, h3, Ne.symm h1, Ne.symm h2, Ne.symm h3]; rfl
theorem idxW_any (x : List UInt8) (w : World) (hG : Gs w) : Calls Tryd.prog 36 #[.slice (some ⟨0, 0, none⟩) 3 3, .string (S x)] w fun e w' =>
    e = .returned (.int .i64 (Lib.idxOfS [S [], S [105, 110, 116], S [116, 101, 120, 116]] (S x))) ∧ w = w' := by
  have h := Tryd.slices_Index_string 0 0 3 3 [S [], S [105, 110, 116], S [116, 101, 120, 116]] (S x) w (by simp) (by omega) (fun j hj => by
    simp at hj
    rcases j with _ | _ | _ | j
    · exact hG.w0
    · exact hG.w1
    · exact hG.w2
    · omega)
  exact h.mono fun e w' ⟨he, hw⟩ => ⟨he, hw.symm⟩

set_option maxHeartbeats 400000 in
theorem splitSeq_any (s sep : List UInt8) (w : World) :
    Calls Tryd.prog 34 #[.string (S s), .string (S sep)] w fun e w' =>
      e = .returned (.func (.func 64) #[] #[.pointer (some ⟨w.heap.size + 1, 0, none⟩), .pointer (some ⟨w.heap.size, 0, none⟩), .pointer (some ⟨w.heap.size + 2, 0, none⟩)]) ∧
      w' = ((w.alloc (.cells #[.string (S s)] 9)).alloc (.cells #[.string (S sep)] 9)).alloc (.cells #[.int .i64 0] 3) := by
  have h : Calls Tryd.prog 52 #[.string (S s), .string (S sep), .int .i64 0] w fun e w' =>
      e = .returned (.func (.func 64) #[] #[.pointer (some ⟨w.heap.size + 1, 0, none⟩), .pointer (some ⟨w.heap.size, 0, none⟩), .pointer (some ⟨w.heap.size + 2, 0, none⟩)]) ∧
      w' = ((w.alloc (.cells #[.string (S s)] 9)).alloc (.cells #[.string (S sep)] 9)).alloc (.cells #[.int .i64 0] 3) := by
    go_enter Tryd.func52, Tryd.ntmps52
    go_wp2
    go_ret
    exact ⟨rfl, rfl⟩
  have H := Lib.hid h; clear h
  go_enter Tryd.func34, Tryd.ntmps34
  go_wp2_with fail
  refine H.out.mono ?_
  rintro e w' ⟨rfl, rfl⟩
  go_wp2
  go_ret
  exact ⟨rfl, rfl⟩

/-- what the iterator reads and writes -/
structure SplitAt (w : World) (s sep : List UInt8) (B : Nat) : Prop where
  p : w.cell? ⟨B + 1, 0, none⟩ = some (.string (S sep))
  s : w.cell? ⟨B, 0, none⟩ = some (.string (S s))
  sf : w.frozen? ⟨B, 0, none⟩ = false
  z : w.cell? ⟨B + 2, 0, none⟩ = some (.int .i64 0)
theorem splitAt_new (w : World) (s sep : List UInt8) : SplitAt (((w.alloc (.cells #[.string (S s)] 9)).alloc (.cells #[.string (S sep)] 9)).alloc (.cells #[.int .i64 0] 3)) s sep w.heap.size := by
  have t1 := (Touch.refl [] (w.alloc (.cells #[.string (S s)] 9))).alloc (.cells #[.string (S sep)] 9)
  have t2 := t1.alloc (.cells #[.int .i64 0] 3)
  have t3 := (Touch.refl [] ((w.alloc (.cells #[.string (S s)] 9)).alloc (.cells #[.string (S sep)] 9))).alloc (.cells #[.int .i64 0] 3)
  have b0 := heap_alloc_new w (.cells #[.string (S s)] 9)
  have b1 := heap_alloc_new (w.alloc (.cells #[.string (S s)] 9)) (.cells #[.string (S sep)] 9)
  have b2 := heap_alloc_new ((w.alloc (.cells #[.string (S s)] 9)).alloc (.cells #[.string (S sep)] 9)) (.cells #[.int .i64 0] 3)
  rw [World.size_alloc] at b1
  rw [World.size_alloc, World.size_alloc] at b2
  have b0' := t2.blk b0 (by simp)
  have b1' := t3.blk b1 (by simp)
  exact ⟨cell_blk b1' (i := 0) rfl, cell_blk b0' (i := 0) rfl, by simp only [World.frozen?, b0']; rfl, cell_blk b2 (i := 0) rfl⟩

theorem split_seq (s sep : List UInt8) (hs0 : 0 < sep.length) (hs1 : sep.length ≤ 1000) (hsl : s.length ≤ 1000000) (B : Nat) (hB : (1 : Nat) < B) (n : Nat) (hn : 1 ≤ n) (w : World) (h : SplitAt w s sep B) (hm : ∃ m, w.cell? ⟨1, 0, none⟩ = some (.int .i64 m)) :
    SeqB Fence.wide n Tryd.prog 64 #[.pointer (some ⟨B + 1, 0, none⟩), .pointer (some ⟨B, 0, none⟩), .pointer (some ⟨B + 2, 0, none⟩)] (fun x => #[.string (S x)]) [B + 1, B, B + 2, 1] (StepS B) (NextP (splitV s sep)) (fun ys => ys = splitV s sep) (fun _ => True) w := by
  intro l J Jx W hkp hJR hY h0
  obtain ⟨m, hm⟩ := hm
  exact split1_in sep hs0 hs1 (B + 1) B (B + 2) (by omega) (by omega) (by omega) s hsl n hn l J Jx w W hkp hJR h.p h.s h.sf h.z m hm hY h0
end Go.Proofs.YtngoiphknffplaaDoor
