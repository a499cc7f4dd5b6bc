/- A slice of slices of bytes that came in, and one that the calls own; texts that are joined. -/
import Derived.Test.YtgpadejkmpfafaaBase
namespace Go.Proofs.Ytgpadejkmpfafaa
open Go.RowKit

structure BS where
  A : Option Addr
  c : Nat
  l : List UInt8
def BS.v (e : BS) : Value := .slice e.A e.l.length e.c
def BssRd (w : World) (A : Option Addr) (ls : List BS) : Prop := Rd w A (ls.map BS.v)
def BssIn (w : World) (ls : List BS) : Prop := ∀ e ∈ ls, RdB w e.A e.l
theorem BssRd.at_ {w : World} {A : Option Addr} {l : List BS} (h : BssRd w A l) (k : Nat) (hk : k < l.length) : ∃ ad, A = some ad ∧ w.cell? (ad.add k) = some (.slice l[k].A l[k].l.length l[k].c) := by
  obtain ⟨ad, e, hc⟩ := h (by simpa using Nat.lt_of_le_of_lt (Nat.zero_le _) hk)
  exact ⟨ad, e, hc k _ (by simp [hk, BS.v])⟩
theorem BssIn.touch0 {w w' : World} {ls : List BS} (h : BssIn w ls) (T : Touch [] w w') : BssIn w' ls := fun e he => Rd.touch0 (h e he) T
theorem oneCell_BS (l : List BS) : ∀ u ∈ l.map BS.v, u.oneCell' = true := by
  intro u hu
  obtain ⟨b, _, rfl⟩ := List.mem_map.1 hu
  rfl
def OwnS (w : World) (A : Option Addr) (c : Nat) (l : List BS) : Prop := w.ownsRow 0 26 1 (.slice A l.length c) l.length (l.map BS.v)
theorem OwnS.rd {w : World} {A : Option Addr} {c : Nat} {l : List BS} (h : OwnS w A c l) : BssRd w A l := by
  intro h0
  rcases h.2 with hv | ⟨g, cap, cur, hv, _⟩
  · simp at h0; omega
  · have hA : A = some ⟨g, 0, none⟩ := by injection hv
    subst hA
    exact ⟨_, rfl, World.ownsRow.cells h (g := g) rfl⟩
theorem OwnS.touch {w w' : World} {A : Option Addr} {c : Nat} {l : List BS} {fp : List Nat} (h : OwnS w A c l) (ht : Touch fp w w') (hn : ∀ b ∈ fpo A, b ∉ fp) : OwnS w' A c l := by
  refine ⟨h.1, ?_⟩
  rcases h.2 with hv | ⟨g, cap, cur, hv, hb, hg, rest⟩
  · exact .inl hv
  · have hA : A = some ⟨g, 0, none⟩ := by injection hv
    subst hA
    exact .inr ⟨g, cap, cur, hv, hb, ht.blk hg (hn g (by simp [fpo])), rest⟩
theorem OwnS.touch0 {w w' : World} {A : Option Addr} {c : Nat} {l : List BS} (h : OwnS w A c l) (ht : Touch [] w w') : OwnS w' A c l := h.touch ht (by simp)
theorem OwnS.lt {w : World} {A : Option Addr} {c : Nat} {l : List BS} (h : OwnS w A c l) : ∀ b ∈ fpo A, b < w.heap.size := by
  intro b hb
  rcases h.2 with ⟨hv, _⟩ | ⟨g, cap, cur, hv, _, hg, _⟩
  · injection hv with hA _ _; subst hA; cases hb
  · have hA : A = some ⟨g, 0, none⟩ := by injection hv
    subst hA
    have : b = g := by simpa [fpo] using hb
    subst this
    exact (Array.getElem?_eq_some_iff.1 hg).1
theorem OwnS.empty_new (w : World) : OwnS (w.alloc (.cells #[] 26)) (some ⟨w.heap.size, 0, none⟩) 0 [] :=
  ⟨rfl, .inr ⟨w.heap.size, 0, #[], rfl, Nat.zero_le _, heap_alloc_new w _, Nat.le_refl _, Nat.zero_le _, rfl, rfl⟩⟩
theorem OwnS.nil (w : World) : OwnS w none 0 [] := World.ownsRow_nil _ _ _ _

theorem info_bs : (Try.prog.info? 26).map (fun i => (i.zero, i.size, i.bytes)) = some (some (.slice none 0 0), 1, 24) := by kernel_rfl

/-- append onto slices of bytes that the calls own -/
theorem wpList_appS {w : World} {ops : Array Oper} {rest : List Oper} {o : Oper} {a : Act} {Q : Exit → Act → World → Prop} (hgd : o.guard = none) (s x : Operand)
    (ho : o.op = .call { callee := .builtin .append, args := #[s, x], argTypes := #[22, 22] })
    (A0 : Option Addr) (n c0 : Nat) (l : List BS) (hn : l.length = n) (hs : a.eval s = .slice A0 n c0) (hown : OwnS w A0 c0 l)
    (A : Option Addr) (k c : Nat) (m : List BS) (hk : m.length = k) (hx : a.eval x = .slice A k c) (hr : BssRd w A m) (hbytes : n + k ≤ 5000000000000)
    (h : ∀ A' c' w', OwnS w' A' c' (l ++ m) → Touch (fpo A0) w w' → (∀ b ∈ fpo A', b ∈ fpo A0 ∨ b = w.heap.size) → wpList Try.prog ops Q rest (a.put o.dst (.slice A' (n + k) c')) w') :
    wpList Try.prog ops Q (o :: rest) a w := by
  obtain ⟨i0, hi0, hz0, hz1, hz2⟩ := info_parts info_bs
  subst hn hk
  refine wpList_app w hgd s x _ ho 26 i0 _ 1 24 Try.underlying22 hi0 hz0 hz1 hz2 rfl (by omega) A0 l.length c0 _ hs hown A m.length c _ hx (by simp) hr (oneCell_BS _) (by simp only [maxLen]; omega) (by omega) ?_
  intro A' c' w' h2 h3 h4
  exact h A' c' w' (by unfold OwnS; rw [List.map_append, List.length_append]; exact h2) h3 h4

theorem S_app (a b : List UInt8) : S a ++ S b = S (a ++ b) := by
  apply ByteArray.ext
  simp [S, ByteArray.data_append]
theorem S_size (a : List UInt8) : (S a).size = a.length := by simp [S, ByteArray.size]
end Go.Proofs.Ytgpadejkmpfafaa
