/- frame.Scan, bywashref07.Scan: the frames that any bytes hold. For every slice of bytes. -/
import Derived.Test.YtgpadejkmpfafaaDoorFrames
import Derived.Test.YtgpadejkmpfafaaDoorReadsLaw
namespace Go.Proofs.YtgpadejkmpfafaaDoor
open Go.RowKit

/-- the next frame, and what is left -/
def scan1 (m : List UInt8) : Option (List UInt8 × List UInt8) :=
  match rdT m with
  | some (s, r) => if r.length < 4 then none else if r.take 4 = digs (sumOf s) 4 then some (s, r.drop 4) else none
  | none => none
/-- frame by frame -/
def Steps : List UInt8 → List (List UInt8) → List UInt8 → Prop
  | b, [], m => m = b
  | b, s :: ls, m => ∃ b', scan1 b = some (s, b') ∧ Steps b' ls m
theorem Steps.snoc {b m m' : List UInt8} {ls : List (List UInt8)} {s : List UInt8} (h : Steps b ls m) (h1 : scan1 m = some (s, m')) : Steps b (ls ++ [s]) m' := by
  induction ls generalizing b with
  | nil =>
    obtain rfl : m = b := h
    exact ⟨m', h1, rfl⟩
  | cons x ls ih =>
    obtain ⟨b', h2, h3⟩ := h
    exact ⟨b', h2, ih h3⟩
theorem Steps.unique {b m m' : List UInt8} {ls ls' : List (List UInt8)} (h : Steps b ls m) (hn : scan1 m = none) (h' : Steps b ls' m') (hn' : scan1 m' = none) : ls = ls' ∧ m = m' := by
  induction ls generalizing b ls' with
  | nil =>
    obtain rfl : m = b := h
    cases ls' with
    | nil => exact ⟨rfl, (show m' = m from h').symm⟩
    | cons y ls' => obtain ⟨b', h2, _⟩ := h'; rw [hn] at h2; cases h2
  | cons x ls ih =>
    obtain ⟨b1, h1, h2⟩ := h
    cases ls' with
    | nil =>
      obtain rfl : m' = b := h'
      rw [hn'] at h1; cases h1
    | cons y ls' =>
      obtain ⟨b2, h3, h4⟩ := h'
      rw [h1] at h3
      cases h3
      obtain ⟨rfl, e⟩ := ih h2 h4
      exact ⟨rfl, e⟩

theorem rdT_rest {m s r : List UInt8} (h : rdT m = some (s, r)) : s.length + r.length < m.length ∧ ∃ k, k ≤ m.length ∧ r = m.drop k ∧ r.length = m.length - k := by
  unfold rdT at h
  rcases hI : rdI m with _ | ⟨n, l'⟩
  · rw [hI] at h; cases h
  · rw [hI] at h
    dsimp only at h
    obtain ⟨h1, h2⟩ := rdI_rest hI
    by_cases hc : n < 0 ∨ (l'.length : Int) < n
    · rw [if_pos hc] at h; cases h
    · rw [if_neg hc] at h
      obtain ⟨e1, e2⟩ : l'.take n.toNat = s ∧ l'.drop n.toNat = r := by simpa using h
      subst e1 e2
      rw [List.length_take, List.length_drop]
      refine ⟨by omega, m.length - l'.length + n.toNat, by omega, ?_, by omega⟩
      conv => lhs; rw [h2]
      rw [List.drop_drop]
theorem scan1_rest {m s m' : List UInt8} (h : scan1 m = some (s, m')) : m'.length < m.length ∧ m' = m.drop (m.length - m'.length) ∧ s.length ≤ m.length := by
  unfold scan1 at h
  rcases hT : rdT m with _ | ⟨s1, r⟩
  · rw [hT] at h; cases h
  · rw [hT] at h
    dsimp only at h
    obtain ⟨h1, k, h2, h3, h4⟩ := rdT_rest hT
    by_cases hc : r.length < 4
    · rw [if_pos hc] at h; cases h
    · rw [if_neg hc] at h
      by_cases hd : r.take 4 = digs (sumOf s1) 4
      · rw [if_pos hd] at h
        obtain ⟨e1, e2⟩ : s1 = s ∧ r.drop 4 = m' := by simpa using h
        subst e1 e2
        rw [List.length_drop]
        refine ⟨by omega, ?_, by omega⟩
        rw [show m.length - (r.length - 4) = k + 4 by omega, ← List.drop_drop, ← h3]
      · rw [if_neg hd] at h; cases h
theorem scan1_nil : scan1 [] = none := rfl

set_option maxHeartbeats 400000 in
theorem equal_any (A1 A2 : Option Addr) (n1 n2 c1 c2 : Nat) (l1 l2 : List UInt8) (e1 : l1.length = n1) (e2 : l2.length = n2) (w : World) (h1 : RdB w A1 l1) (h2 : RdB w A2 l2) :
    Calls Tryd.prog 44 #[.slice A1 n1 c1, .slice A2 n2 c2] w fun e w' => e = .returned (.bool (decide (l1 = l2))) ∧ w = w' := by
  have hcv1 := run_str_of c1 e1 h1
  have hcv2 := run_str_of c2 e2 h2
  have hb := Lib.hid (S_beq l1 l2)
  go_enter Tryd.func44, Tryd.ntmps44
  go_wp2
  go_ret
  exact ⟨ret_bool hb.out, rfl⟩

/-- slices of bytes in a row of the calls' own -/
structure OwnBs (w : World) (A : Option Addr) (c : Nat) (ls : List (List UInt8)) (vs : List Value) : Prop where
  own : w.ownsRow 0 22 1 (.slice A ls.length c) ls.length vs
  len : vs.length = ls.length
  at_ : ∀ j (h : j < ls.length), ∃ A' c', vs[j]? = some (.slice A' ls[j].length c') ∧ RdB w A' ls[j] ∧ ls[j].length ≤ c' ∧ (∀ b ∈ fpo A', b ∉ fpo A ∧ b < w.heap.size)
theorem OwnBs.nil (w : World) : OwnBs w none 0 [] [] := ⟨World.ownsRow_nil _ _ _ _, rfl, fun j h => by simp at h⟩
theorem OwnBs.bs {w : World} {A : Option Addr} {c : Nat} {ls : List (List UInt8)} {vs : List Value} (h : OwnBs w A c ls vs) : BsAt w A ls := by
  intro h0
  obtain ⟨hown, hlen, hat⟩ := h
  rcases hown.2 with ⟨hv, he⟩ | ⟨g, cap, cur, hv, _⟩
  · omega
  · have hA : A = some ⟨g, 0, none⟩ := by injection hv
    subst hA
    refine ⟨_, rfl, fun j hj => ?_⟩
    obtain ⟨A', c', h1, h2, h3, _⟩ := hat j hj
    exact ⟨A', c', World.ownsRow.cells hown (g := g) rfl j _ h1, h2, h3⟩
theorem OwnBs.touch {w w' : World} {A : Option Addr} {c : Nat} {ls : List (List UInt8)} {vs : List Value} {fp : List Nat} {n : Nat} (h : OwnBs w A c ls vs) (ht : Touch fp w w') (hA : ∀ b ∈ fpo A, b ∉ fp)
    (hr : ∀ j (h : j < ls.length) A', RdB w A' ls[j] → (∃ c', vs[j]? = some (.slice A' ls[j].length c')) → RdB w' A' ls[j]) (_ : n = n) : OwnBs w' A c ls vs := by
  obtain ⟨hown, hlen, hat⟩ := h
  refine ⟨⟨hown.1, ?_⟩, hlen, fun j hj => ?_⟩
  · rcases hown.2 with hv | ⟨g, cap, cur, hv, hb, hg, rest⟩
    · exact .inl hv
    · have hA' : A = some ⟨g, 0, none⟩ := by injection hv
      subst hA'
      exact .inr ⟨g, cap, cur, hv, hb, ht.blk hg (hA g (by simp [fpo])), rest⟩
  · obtain ⟨A', c', h1, h2, h3, h4⟩ := hat j hj
    exact ⟨A', c', h1, hr j hj A' h2 ⟨c', h1⟩, h3, fun b hb => ⟨(h4 b hb).1, Nat.lt_of_lt_of_le (h4 b hb).2 ht.size⟩⟩
theorem OwnBs.touch0 {w w' : World} {A : Option Addr} {c : Nat} {ls : List (List UInt8)} {vs : List Value} (h : OwnBs w A c ls vs) (ht : Touch [] w w') : OwnBs w' A c ls vs :=
  h.touch (n := 0) ht (by simp) (fun _ _ _ h1 _ => Rd.touch0 h1 ht) rfl
theorem OwnBs.lt {w : World} {A : Option Addr} {c : Nat} {ls : List (List UInt8)} {vs : List Value} (h : OwnBs w A c ls vs) : ∀ b ∈ fpo A, b < w.heap.size := by
  intro b hb
  rcases h.own.2 with ⟨hv, _⟩ | ⟨g, cap, cur, hv, _, hg, _⟩
  · injection hv with hA _ _; subst hA; cases hb
  · have hA : A = some ⟨g, 0, none⟩ := by injection hv
    subst hA
    have : b = g := by simpa [fpo] using hb
    subst this
    exact (Array.getElem?_eq_some_iff.1 hg).1
theorem info_bytes : (Tryd.prog.info? 22).map (fun i => (i.zero, i.size, i.bytes)) = some (some (.slice none 0 0), 1, 24) := by kernel_rfl

/-- append onto slices of bytes that the calls own: one more -/
theorem wpList_appBs {w : World} {ops : Array Oper} {rest : List Oper} {o : Oper} {a : Act} {Q : Exit → Act → World → Prop} (hgd : o.guard = none) (s x : Operand)
    (ho : o.op = .call { callee := .builtin .append, args := #[s, x], argTypes := #[47, 47] })
    (A0 : Option Addr) (n c0 : Nat) (ls : List (List UInt8)) (vs : List Value) (hn : ls.length = n) (hs : a.eval s = .slice A0 n c0) (hown : OwnBs w A0 c0 ls vs)
    (H : Nat) (Ax : Option Addr) (nx cx : Nat) (l : List UInt8) (hx : a.eval x = .slice (some ⟨H, 0, none⟩) 1 1) (hc : w.cell? ⟨H, 0, none⟩ = some (.slice Ax nx cx)) (hl : l.length = nx) (hr : RdB w Ax l) (hcx : nx ≤ cx) (hfx : ∀ b ∈ fpo Ax, b ∉ fpo A0 ∧ b < w.heap.size) (hbytes : n < 1000000000)
    (h : ∀ A' c' w', OwnBs w' A' c' (ls ++ [l]) (vs ++ [.slice Ax nx cx]) → Touch (fpo A0) w w' → (∀ b ∈ fpo A', b ∈ fpo A0 ∨ b = w.heap.size) → wpList Tryd.prog ops Q rest (a.put o.dst (.slice A' (n + 1) c')) w') :
    wpList Tryd.prog ops Q (o :: rest) a w := by
  obtain ⟨i0, hi0, hz0, hz1, hz2⟩ := info_parts info_bytes
  subst hn hl
  have hadd : (⟨H, 0, none⟩ : Addr).add 0 = ⟨H, 0, none⟩ := by unfold Addr.add; split <;> simp_all
  refine wpList_app w hgd s x _ ho 22 i0 _ 1 24 Tryd.underlying47 hi0 hz0 hz1 hz2 rfl (by omega) A0 ls.length c0 _ hs hown.own (some ⟨H, 0, none⟩) 1 1 [.slice Ax l.length cx] hx (by simp)
    (fun _ => ⟨_, rfl, fun j u hu => by
      rcases j with _ | j
      · simp at hu; subst hu; rw [hadd]; exact hc
      · simp at hu⟩) (by simp [Value.oneCell']) (by simp only [maxLen]; omega) (by omega) ?_
  intro A' c' w' h2 h3 h4
  refine h A' c' w' ⟨by rw [List.length_append]; exact h2, by simp [hown.len], fun j hj => ?_⟩ h3 h4
  have hlt := hown.lt
  by_cases hj2 : j < ls.length
  · obtain ⟨A1, c1, k1, k2, k3, k4⟩ := hown.at_ j hj2
    refine ⟨A1, c1, ?_, ?_, ?_, fun b hb => ⟨fun hm => ?_, Nat.lt_of_lt_of_le (k4 b hb).2 h3.size⟩⟩
    · rw [List.getElem?_append_left (by rw [hown.len]; exact hj2), k1, List.getElem_append_left hj2]
    · rw [List.getElem_append_left hj2]; exact Rd.touch k2 h3 (fun b hb => (k4 b hb).1)
    · rw [List.getElem_append_left hj2]; exact k3
    · rcases h4 b hm with e | e
      · exact (k4 b hb).1 e
      · have := (k4 b hb).2; omega
  · obtain rfl : j = ls.length := by simp at hj; omega
    refine ⟨Ax, cx, ?_, ?_, ?_, fun b hb => ⟨fun hm => ?_, Nat.lt_of_lt_of_le (hfx b hb).2 h3.size⟩⟩
    · rw [List.getElem?_append_right (by rw [hown.len]; exact Nat.le_refl _), hown.len]; simp
    · simp only [List.getElem_concat_length]; exact Rd.touch hr h3 (fun b hb => (hfx b hb).1)
    · simp only [List.getElem_concat_length]; exact hcx
    · rcases h4 b hm with e | e
      · exact (hfx b hb).1 e
      · have := (hfx b hb).2; omega
end Go.Proofs.YtgpadejkmpfafaaDoor
