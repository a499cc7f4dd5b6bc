/- Part 5 of the texts of this proof, one behind the other; each begins with its own sentence. No condition beyond those that its theorems state. -/
import Derived.Test.YtlcpljpeljoboaaDoorSc4
import Derived.Deep.RegionWith
/- A journal's first frame and its groups, plain; slices of slices in memory with the blocks where they lie. -/
namespace Go.Proofs.YtlcpljpeljoboaaDoor
open Go.RowKit

/-- k texts one behind the other -/
def rdTs : Nat → List UInt8 → Option (List (List UInt8) × List UInt8)
  | 0, l => some ([], l)
  | k + 1, l => match rdT l with
    | none => none
    | some (s, r) => match rdTs k r with
      | none => none
      | some (ss, m) => some (s :: ss, m)
/-- a first frame's generation and checkpoint -/
def rdHd (l : List UInt8) : Option (Nat × List UInt8) :=
  match rdI l with
  | none => none
  | some (k, l1) => match rdI l1 with
    | none => none
    | some (g, l2) => match rdT l2 with
      | none => none
      | some (c, r) => if k = 1 ∧ 1 ≤ g ∧ r = [] then some (g.toNat, c) else none
/-- a group's records -/
def rdGp (l : List UInt8) : Option (List (List UInt8)) :=
  match rdI l with
  | none => none
  | some (k, l1) => if k = 2 then match rdI l1 with
    | none => none
    | some (n, l2) => if n < 0 ∨ 1073741824 < n then none else match rdTs n.toNat l2 with
      | none => none
      | some (ss, r) => if r = [] then some ss else none
    else none

theorem rdT_less {l r s : List UInt8} (h : rdT l = some (s, r)) : r.length < l.length ∧ s.length < l.length ∧ s.length + r.length < l.length := by
  unfold rdT at h
  rcases hI : rdI l with _ | ⟨n, l1⟩
  · rw [hI] at h; simp at h
  · rw [hI] at h
    dsimp only at h
    split at h
    · simp at h
    · simp only [Option.some.injEq, Prod.mk.injEq] at h
      obtain ⟨rfl, rfl⟩ := h
      have := (rdI_rest hI).1
      simp only [List.length_drop, List.length_take]
      omega
theorem rdTs_snoc {k : Nat} {l m r s : List UInt8} {ss : List (List UInt8)} (h : rdTs k l = some (ss, m)) (h2 : rdT m = some (s, r)) : rdTs (k + 1) l = some (ss ++ [s], r) := by
  induction k generalizing l ss with
  | zero =>
    simp only [rdTs, Option.some.injEq, Prod.mk.injEq] at h
    obtain ⟨rfl, rfl⟩ := h
    simp [rdTs, h2]
  | succ k ih =>
    rw [rdTs] at h ⊢
    rcases hT : rdT l with _ | ⟨s1, r1⟩
    · rw [hT] at h; simp at h
    · rw [hT] at h
      dsimp only at h ⊢
      rcases hS : rdTs k r1 with _ | ⟨ss1, m1⟩
      · rw [hS] at h; simp at h
      · rw [hS] at h
        simp only [Option.some.injEq, Prod.mk.injEq] at h
        obtain ⟨rfl, rfl⟩ := h
        rw [ih hS]
        rfl
theorem rdTs_none {k n : Nat} {l m : List UInt8} {ss : List (List UInt8)} (h : rdTs k l = some (ss, m)) (h2 : rdT m = none) (hkn : k < n) : rdTs n l = none := by
  induction k generalizing l ss n with
  | zero =>
    simp only [rdTs, Option.some.injEq, Prod.mk.injEq] at h
    obtain ⟨rfl, rfl⟩ := h
    obtain ⟨n, rfl⟩ : ∃ j, n = j + 1 := ⟨n - 1, by omega⟩
    simp [rdTs, h2]
  | succ k ih =>
    obtain ⟨n, rfl⟩ : ∃ j, n = j + 1 := ⟨n - 1, by omega⟩
    rw [rdTs] at h ⊢
    rcases hT : rdT l with _ | ⟨s1, r1⟩
    · rfl
    · rw [hT] at h
      dsimp only at h ⊢
      rcases hS : rdTs k r1 with _ | ⟨ss1, m1⟩
      · rw [hS] at h; simp at h
      · rw [hS] at h
        simp only [Option.some.injEq, Prod.mk.injEq] at h
        obtain ⟨rfl, rfl⟩ := h
        rw [ih hS (by omega)]
theorem rdTs_len {k : Nat} {l m : List UInt8} {ss : List (List UInt8)} (h : rdTs k l = some (ss, m)) : ss.length = k ∧ k + m.length ≤ l.length ∧ ∀ s ∈ ss, s.length ≤ l.length := by
  induction k generalizing l ss with
  | zero =>
    simp only [rdTs, Option.some.injEq, Prod.mk.injEq] at h
    obtain ⟨rfl, rfl⟩ := h
    simp
  | succ k ih =>
    rw [rdTs] at h
    rcases hT : rdT l with _ | ⟨s1, r1⟩
    · rw [hT] at h; simp at h
    · rw [hT] at h
      dsimp only at h
      have hr := rdT_less hT
      rcases hS : rdTs k r1 with _ | ⟨ss1, m1⟩
      · rw [hS] at h; simp at h
      · rw [hS] at h
        simp only [Option.some.injEq, Prod.mk.injEq] at h
        obtain ⟨rfl, rfl⟩ := h
        obtain ⟨h1, h2, h3⟩ := ih hS
        refine ⟨by simp [h1], by omega, fun s hs => ?_⟩
        rcases List.mem_cons.1 hs with rfl | hs
        · omega
        · have := h3 s hs; omega

/-- a slice of slices of bytes, all in blocks that are in D -/
def BsD (D : Nat → Prop) (w : World) (A : Option Addr) (ls : List (List UInt8)) : Prop :=
  0 < ls.length → ∃ ad, A = some ad ∧ D ad.block ∧ ∀ j (hj : j < ls.length), ∃ A' c', w.cell? (ad.add j) = some (.slice A' ls[j].length c') ∧ RdB w A' ls[j] ∧ ls[j].length ≤ c' ∧ (0 < ls[j].length → ∀ b ∈ fpo A', D b)
theorem BsD.nil (D : Nat → Prop) (w : World) (A : Option Addr) : BsD D w A [] := fun h => by simp at h
theorem RdB.touch1 {w w' : World} {A : Option Addr} {l : List UInt8} {fp : List Nat} (h : RdB w A l) (ht : Touch fp w w') (hn : 0 < l.length → ∀ b ∈ fpo A, b ∉ fp) : RdB w' A l := by
  intro h0
  exact Rd.touch h ht (hn (by simpa using h0)) h0
theorem BsD.mono {D D' : Nat → Prop} {w : World} {A : Option Addr} {ls : List (List UInt8)} (h : BsD D w A ls) (hD : ∀ b, b < w.heap.size → D b → D' b) : BsD D' w A ls := by
  intro h0
  obtain ⟨ad, rfl, h1, h2⟩ := h h0
  have hlt : ad.block < w.heap.size := by
    obtain ⟨A', c', k1, _⟩ := h2 0 h0
    have := World.block_lt_of_cell? w _ k1
    rwa [block_of_add] at this
  refine ⟨ad, rfl, hD _ hlt h1, fun j hj => ?_⟩
  obtain ⟨A', c', k1, k2, k3, k4⟩ := h2 j hj
  exact ⟨A', c', k1, k2, k3, fun he b hb => hD b (Rd.lt k2 (by simpa using he) b hb) (k4 he b hb)⟩
theorem BsD.touch {D : Nat → Prop} {w w' : World} {A : Option Addr} {ls : List (List UInt8)} {fp : List Nat} (h : BsD D w A ls) (ht : Touch fp w w') (hn : ∀ b, D b → b < w.heap.size → b ∉ fp) : BsD D w' A ls := by
  intro h0
  have h' := h.mono (D' := fun b => D b ∧ b < w.heap.size) (fun b hb hd => ⟨hd, hb⟩)
  obtain ⟨ad, rfl, h1, h2⟩ := h' h0
  refine ⟨ad, rfl, h1.1, fun j hj => ?_⟩
  obtain ⟨A', c', k1, k2, k3, k4⟩ := h2 j hj
  exact ⟨A', c', ht.cell k1 (by rw [block_of_add]; exact hn _ h1.1 h1.2), k2.touch1 ht (fun he b hb => hn b (k4 he b hb).1 (k4 he b hb).2), k3, fun he b hb => (k4 he b hb).1⟩
theorem BsD.touch0 {D : Nat → Prop} {w w' : World} {A : Option Addr} {ls : List (List UInt8)} (h : BsD D w A ls) (ht : Touch [] w w') : BsD D w' A ls := h.touch ht (by simp)
theorem OwnBs.bsD {D : Nat → Prop} {w : World} {A : Option Addr} {c : Nat} {ls : List (List UInt8)} {vs : List Value} (h : OwnBs w A c ls vs) (hA : ∀ b ∈ fpo A, D b) (hv : ∀ v ∈ vs, ∀ A' k c', v = .slice A' k c' → 0 < k → ∀ b ∈ fpo A', D b) : BsD D w A ls := by
  intro h0
  obtain ⟨hown, hlen, hat⟩ := h
  rcases hown.2 with ⟨_, he⟩ | ⟨g, cap, cur, hg, _⟩
  · omega
  · have hA' : A = some ⟨g, 0, none⟩ := by injection hg
    subst hA'
    refine ⟨_, rfl, hA g (by simp [fpo]), fun j hj => ?_⟩
    obtain ⟨A', c', h1, h2, h3, _⟩ := hat j hj
    exact ⟨A', c', World.ownsRow.cells hown (g := g) rfl j _ h1, h2, h3, fun he => hv _ (List.mem_of_getElem? h1) A' _ c' rfl he⟩

/-- a slice of groups, all in blocks that are in D -/
def GsD (D : Nat → Prop) (w : World) (A : Option Addr) (gs : List (List (List UInt8))) : Prop :=
  0 < gs.length → ∃ ad, A = some ad ∧ D ad.block ∧ ∀ j (hj : j < gs.length), ∃ A' c', w.cell? (ad.add j) = some (.slice A' gs[j].length c') ∧ BsD D w A' gs[j]
theorem GsD.nil (D : Nat → Prop) (w : World) (A : Option Addr) : GsD D w A [] := fun h => by simp at h
theorem GsD.mono {D D' : Nat → Prop} {w : World} {A : Option Addr} {gs : List (List (List UInt8))} (h : GsD D w A gs) (hD : ∀ b, b < w.heap.size → D b → D' b) : GsD D' w A gs := by
  intro h0
  obtain ⟨ad, rfl, h1, h2⟩ := h h0
  have hlt : ad.block < w.heap.size := by
    obtain ⟨A', c', k1, _⟩ := h2 0 h0
    have := World.block_lt_of_cell? w _ k1
    rwa [block_of_add] at this
  refine ⟨ad, rfl, hD _ hlt h1, fun j hj => ?_⟩
  obtain ⟨A', c', k1, k2⟩ := h2 j hj
  exact ⟨A', c', k1, k2.mono hD⟩
theorem GsD.touch {D : Nat → Prop} {w w' : World} {A : Option Addr} {gs : List (List (List UInt8))} {fp : List Nat} (h : GsD D w A gs) (ht : Touch fp w w') (hn : ∀ b, D b → b < w.heap.size → b ∉ fp) : GsD D w' A gs := by
  intro h0
  have h' := h.mono (D' := fun b => D b ∧ b < w.heap.size) (fun b hb hd => ⟨hd, hb⟩)
  obtain ⟨ad, rfl, h1, h2⟩ := h' h0
  refine ⟨ad, rfl, h1.1, fun j hj => ?_⟩
  obtain ⟨A', c', k1, k2⟩ := h2 j hj
  exact ⟨A', c', ht.cell k1 (by rw [block_of_add]; exact hn _ h1.1 h1.2), (k2.touch ht (fun b hd hb => hn b hd.1 hb)).mono (fun b _ hd => hd.1)⟩
theorem GsD.touch0 {D : Nat → Prop} {w w' : World} {A : Option Addr} {gs : List (List (List UInt8))} (h : GsD D w A gs) (ht : Touch [] w w') : GsD D w' A gs := h.touch ht (by simp)

/-- groups in a row of the calls' own -/
structure OwnGs (D : Nat → Prop) (w : World) (A : Option Addr) (c : Nat) (gs : List (List (List UInt8))) : Prop where
  ex : ∃ vs, w.ownsRow 0 49 1 (.slice A gs.length c) gs.length vs ∧ vs.length = gs.length ∧ ∀ j (h : j < gs.length), ∃ A' c', vs[j]? = some (.slice A' gs[j].length c') ∧ BsD (fun b => D b ∧ b ∉ fpo A) w A' gs[j]
theorem OwnGs.nil (D : Nat → Prop) (w : World) : OwnGs D w none 0 [] := ⟨[], World.ownsRow_nil _ _ _ _, rfl, fun j h => by simp at h⟩
theorem OwnGs.gsD {D : Nat → Prop} {w : World} {A : Option Addr} {c : Nat} {gs : List (List (List UInt8))} (h : OwnGs D w A c gs) (hA : ∀ b ∈ fpo A, D b) : GsD D w A gs := by
  intro h0
  obtain ⟨vs, hown, hlen, hat⟩ := h.ex
  rcases hown.2 with ⟨_, he⟩ | ⟨g, cap, cur, hg, _⟩
  · omega
  · have hA' : A = some ⟨g, 0, none⟩ := by injection hg
    subst hA'
    refine ⟨_, rfl, hA g (by simp [fpo]), fun j hj => ?_⟩
    obtain ⟨A', c', h1, h2⟩ := hat j hj
    exact ⟨A', c', World.ownsRow.cells hown (g := g) rfl j _ h1, h2.mono (fun b _ hd => hd.1)⟩
theorem OwnGs.lt {D : Nat → Prop} {w : World} {A : Option Addr} {c : Nat} {gs : List (List (List UInt8))} (h : OwnGs D w A c gs) : ∀ b ∈ fpo A, b < w.heap.size := by
  intro b hb
  obtain ⟨vs, hown, _⟩ := h.ex
  rcases hown.2 with ⟨hv, _⟩ | ⟨g, cap, cur, hv, _, hg, _⟩
  · injection hv with hA _ _; subst hA; cases hb
  · have hA : A = some ⟨g, 0, none⟩ := by injection hv
    subst hA
    have : b = g := by simpa [fpo] using hb
    subst this
    exact (Array.getElem?_eq_some_iff.1 hg).1
theorem OwnGs.touch {D : Nat → Prop} {w w' : World} {A : Option Addr} {c : Nat} {gs : List (List (List UInt8))} {fp : List Nat} (h : OwnGs D w A c gs) (ht : Touch fp w w') (hA : ∀ b ∈ fpo A, b ∉ fp) (hn : ∀ b, D b → b < w.heap.size → b ∉ fp) : OwnGs D w' A c gs := by
  obtain ⟨vs, hown, hlen, hat⟩ := h.ex
  refine ⟨vs, ⟨hown.1, ?_⟩, hlen, fun j hj => ?_⟩
  · rcases hown.2 with hv | ⟨g, cap, cur, hv, hb, hg, rest⟩
    · exact .inl hv
    · have hA' : A = some ⟨g, 0, none⟩ := by injection hv
      subst hA'
      exact .inr ⟨g, cap, cur, hv, hb, ht.blk hg (hA g (by simp [fpo])), rest⟩
  · obtain ⟨A', c', h1, h2⟩ := hat j hj
    exact ⟨A', c', h1, h2.touch ht (fun b hd hb => hn b hd.1 hb)⟩
theorem OwnGs.touch0 {D : Nat → Prop} {w w' : World} {A : Option Addr} {c : Nat} {gs : List (List (List UInt8))} (h : OwnGs D w A c gs) (ht : Touch [] w w') : OwnGs D w' A c gs := h.touch ht (by simp) (by simp)
theorem info_bytes2 : (Tryd.prog.info? 49).map (fun i => (i.zero, i.size, i.bytes)) = some (some (.slice none 0 0), 1, 24) := by kernel_rfl

/-- append onto groups that the calls own: one more -/
theorem wpList_appGs {D : Nat → Prop} {w : World} {ops : Array Oper} {rest : List Oper} {o : Oper} {a : Act} {Q : Exit → Act → World → Prop} (hgd : o.guard = none) (s x : Operand)
    (ho : o.op = .call { callee := .builtin .append, args := #[s, x], argTypes := #[28, 28] })
    (A0 : Option Addr) (n c0 : Nat) (gs : List (List (List UInt8))) (hn : gs.length = n) (hs : a.eval s = .slice A0 n c0) (hown : OwnGs D w A0 c0 gs)
    (H : Nat) (Ax : Option Addr) (nx cx : Nat) (l : List (List UInt8)) (hx : a.eval x = .slice (some ⟨H, 0, none⟩) 1 1) (hc : w.cell? ⟨H, 0, none⟩ = some (.slice Ax nx cx)) (hl : l.length = nx) (hr : BsD (fun b => D b ∧ b ∉ fpo A0) w Ax l) (hbytes : n < 1000000000)
    (h : ∀ A' c' w', OwnGs D w' A' c' (gs ++ [l]) → Touch (fpo A0) w w' → (∀ b ∈ fpo A', b ∈ fpo A0 ∨ b = w.heap.size) → wpList Tryd.prog ops Q rest (a.put o.dst (.slice A' (n + 1) c')) w') :
    wpList Tryd.prog ops Q (o :: rest) a w := by
  obtain ⟨i0, hi0, hz0, hz1, hz2⟩ := info_parts info_bytes2
  obtain ⟨vs, hrow, hlen, hat⟩ := hown.ex
  subst hn hl
  have hadd : (⟨H, 0, none⟩ : Addr).add 0 = ⟨H, 0, none⟩ := by unfold Addr.add; split <;> simp_all
  refine wpList_app w hgd s x _ ho 49 i0 _ 1 24 Tryd.underlying28 hi0 hz0 hz1 hz2 rfl (by omega) A0 gs.length c0 _ hs hrow (some ⟨H, 0, none⟩) 1 1 [.slice Ax l.length cx] hx (by simp)
    (fun _ => ⟨_, rfl, fun j u hu => by
      rcases j with _ | j
      · simp at hu; subst hu; rw [hadd]; exact hc
      · simp at hu⟩) (by simp [Value.oneCell']) (by simp only [maxLen]; omega) (by omega) ?_
  intro A' c' w' h2 h3 h4
  have keep : ∀ B m, BsD (fun b => D b ∧ b ∉ fpo A0) w B m → BsD (fun b => D b ∧ b ∉ fpo A') w' B m := by
    intro B m hb
    have h5 : BsD (fun b => (D b ∧ b ∉ fpo A0) ∧ b < w.heap.size) w B m := hb.mono (fun b hb hd => ⟨hd, hb⟩)
    refine (h5.touch h3 (fun b hd _ => hd.1.2)).mono (fun b _ hd => ⟨hd.1.1, fun hm => ?_⟩)
    rcases h4 b hm with e | e
    · exact hd.1.2 e
    · have := hd.2; omega
  refine h A' c' w' ⟨_, by rw [List.length_append]; exact h2, by simp [hlen], fun j hj => ?_⟩ h3 h4
  by_cases hj2 : j < gs.length
  · obtain ⟨A1, c1, k1, k2⟩ := hat j hj2
    refine ⟨A1, c1, ?_, ?_⟩
    · rw [List.getElem?_append_left (by rw [hlen]; exact hj2), k1, List.getElem_append_left hj2]
    · rw [List.getElem_append_left hj2]; exact keep _ _ k2
  · obtain rfl : j = gs.length := by simp at hj; omega
    refine ⟨Ax, cx, ?_, ?_⟩
    · rw [List.getElem?_append_right (by rw [hlen]; exact Nat.le_refl _), hlen]; simp
    · simp; exact keep _ _ hr
end Go.Proofs.YtlcpljpeljoboaaDoor

/- bywashref08.head and group: a frame's bytes as the document reads them. For every slice of bytes. -/
namespace Go.Proofs.YtlcpljpeljoboaaDoor
open Go.RowKit

def HdRPost (Ain : Option Addr) (b : List UInt8) (w : World) (e : Ending) (w' : World) : Prop :=
  match rdHd b with
  | none => e = .returned (.tuple #[.int .i64 0, .slice none 0 0]) ∧ Touch [] w w'
  | some (g, s) => ∃ A c, e = .returned (.tuple #[.int .i64 g, .slice A s.length c]) ∧ Touch [] w w' ∧ RdB w' A s ∧ s.length ≤ c ∧ (∀ x ∈ fpo A, x ∈ fpo Ain) ∧ 1 ≤ g ∧ g ≤ 9223372036854775807

set_option maxRecDepth 100000 in
set_option maxHeartbeats 1600000 in
theorem refHead_any (A : Option Addr) (c n : Nat) (b : List UInt8) (hn : b.length = n) (hm : n ≤ 900000000) (hc : n ≤ c) (w : World) (hr : RdB w A b) :
    Calls Tryd.prog 37 #[.slice A n c] w fun e w' => HdRPost A b w e w' := by
  subst hn
  go_enter Tryd.func37, Tryd.ntmps37
  have hRead := refRead_any A c b 0 (by omega) hc (by omega) w hr
  rw [show ((0 : Nat) : Int) = 0 from rfl] at hRead
  rcases hI : rdI (b.drop 0) with _ | ⟨k, l1⟩
  · have hT : rdHd b = none := by unfold rdHd; rw [show b = b.drop 0 from rfl, hI]
    have hval := refRd_none hI
    have Hval := Lib.hid hval
    have HT := Lib.hid hT
    clear hval hT hI
    go_wp2_with fail
    refine hRead.mono ?_
    clear hRead
    rintro e w2 ⟨rfl, ht2⟩
    rw [Hval.out]
    go_wp2
    go_ret2
    unfold HdRPost
    rw [HT.out]
    exact ⟨rfl, ht2⟩
  obtain ⟨E, hE, hrE, hval, hEr⟩ := rdI_at hI
  have hvb := rdI_bounds hI
  have Hval := Lib.hid hval
  clear hval
  by_cases hk : k = 1
  case neg =>
    have hT : rdHd b = none := by
      unfold rdHd; rw [show b = b.drop 0 from rfl, hI]; dsimp only
      rcases rdI l1 with _ | ⟨g, l2⟩
      · rfl
      · dsimp only
        rcases rdT l2 with _ | ⟨s, r⟩
        · rfl
        · dsimp only; rw [if_neg (fun e => hk e.1)]
    have HT := Lib.hid hT
    have hkne : (k != 1) = true := by simpa using hk
    have hE0 : decide ((E : Int) < 0) = false := by simp
    clear hT hI hrE
    go_wp2_with fail
    refine hRead.mono ?_
    clear hRead
    rintro e w2 ⟨rfl, ht2⟩
    rw [Hval.out]
    go_wp2
    go_ret2
    unfold HdRPost
    rw [HT.out]
    exact ⟨rfl, ht2⟩
  subst hk
  have hRead2 := fun (w2 : World) (ht2 : Touch [] w w2) => refRead_any A c b E (by omega) hc (by omega) w2 (Rd.touch0 hr ht2)
  have HRead2 := Lib.hid hRead2
  clear hRead2
  rcases hJ : rdI (b.drop E) with _ | ⟨g, l2⟩
  · have hT : rdHd b = none := by unfold rdHd; rw [show b = b.drop 0 from rfl, hI]; dsimp only; rw [hrE, hJ]
    have hval := refRd_none hJ
    have Hval2 := Lib.hid hval
    have HT := Lib.hid hT
    clear hval hT hI hJ hrE
    go_wp2_with fail
    refine hRead.mono ?_
    clear hRead
    rintro e w2 ⟨rfl, ht2⟩
    rw [Hval.out]
    go_wp2_with fail
    refine (HRead2.out w2 ht2).mono ?_
    rintro e w3 ⟨rfl, ht3⟩
    rw [Hval2.out]
    go_wp2
    go_ret2
    unfold HdRPost
    rw [HT.out]
    exact ⟨rfl, ht2.trans0 ht3⟩
  obtain ⟨F, hF, hrF, hval2, hFr⟩ := rdI_at hJ
  have hvb2 := rdI_bounds hJ
  have Hval2 := Lib.hid hval2
  clear hval2
  by_cases hg : g < 1
  · have hT : rdHd b = none := by
      unfold rdHd; rw [show b = b.drop 0 from rfl, hI]; dsimp only; rw [hrE, hJ]; dsimp only
      rcases rdT l2 with _ | ⟨s, r⟩
      · rfl
      · dsimp only; rw [if_neg (fun e => by omega)]
    have HT := Lib.hid hT
    clear hT hI hJ hrE hrF
    go_wp2_with fail
    refine hRead.mono ?_
    clear hRead
    rintro e w2 ⟨rfl, ht2⟩
    rw [Hval.out]
    go_wp2_with fail
    refine (HRead2.out w2 ht2).mono ?_
    rintro e w3 ⟨rfl, ht3⟩
    rw [Hval2.out]
    go_wp2
    go_ret2
    unfold HdRPost
    rw [HT.out]
    exact ⟨rfl, ht2.trans0 ht3⟩
  obtain ⟨g, rfl⟩ : ∃ m : Nat, g = (m : Int) := ⟨g.toNat, by omega⟩
  have hg1 : 1 ≤ g := by omega
  have hTx := fun (w2 : World) (ht2 : Touch [] w w2) => refTxt_any A c b.length b rfl F (by omega) hc (by omega) w2 (Rd.touch0 hr ht2)
  unfold TxRPost at hTx
  rcases hK : rdT (b.drop F) with _ | ⟨s, r⟩
  · have hT : rdHd b = none := by
      unfold rdHd; rw [show b = b.drop 0 from rfl, hI]; dsimp only; rw [hrE, hJ]; dsimp only; rw [hrF, hK]
    have HT := Lib.hid hT
    rw [hK] at hTx
    have HTx := Lib.hid hTx
    clear hT hI hJ hK hrE hrF hTx
    have hbl : ¬ (b.length : Int) = -1 := by omega
    go_wp2_with fail
    refine hRead.mono ?_
    clear hRead
    rintro e w2 ⟨rfl, ht2⟩
    rw [Hval.out]
    go_wp2_with fail
    refine (HRead2.out w2 ht2).mono ?_
    rintro e w3 ⟨rfl, ht3⟩
    rw [Hval2.out]
    go_wp2_with fail
    refine (HTx.out w3 (ht2.trans0 ht3)).mono ?_
    rintro e w4 ⟨A4, c4, n4, rfl, ht4⟩
    go_wp2
    go_ret2
    unfold HdRPost
    rw [HT.out]
    exact ⟨rfl, (ht2.trans0 ht3).trans0 ht4⟩
  rw [hK] at hTx
  have HTx := Lib.hid hTx
  clear hTx
  by_cases hr0 : r = []
  · subst hr0
    have hT : rdHd b = some (g, s) := by
      unfold rdHd; rw [show b = b.drop 0 from rfl, hI]; dsimp only; rw [hrE, hJ]; dsimp only; rw [hrF, hK]; dsimp only
      rw [if_pos ⟨rfl, by omega, rfl⟩, Int.toNat_natCast]
    have HT := Lib.hid hT
    clear hT hI hJ hK hrE hrF
    go_wp2_with fail
    refine hRead.mono ?_
    clear hRead
    rintro e w2 ⟨rfl, ht2⟩
    rw [Hval.out]
    go_wp2_with fail
    refine (HRead2.out w2 ht2).mono ?_
    rintro e w3 ⟨rfl, ht3⟩
    rw [Hval2.out]
    go_wp2_with fail
    refine (HTx.out w3 (ht2.trans0 ht3)).mono ?_
    rintro e w4 ⟨A4, c4, rfl, ht4, hr4, -, -, hc4, -, hA4⟩
    rw [List.length_nil, Nat.sub_zero]
    go_wp2
    go_ret2
    unfold HdRPost
    rw [HT.out]
    exact ⟨A4, c4, rfl, (ht2.trans0 ht3).trans0 ht4, hr4, hc4, hA4, hg1, by omega⟩
  · have hT : rdHd b = none := by
      unfold rdHd; rw [show b = b.drop 0 from rfl, hI]; dsimp only; rw [hrE, hJ]; dsimp only; rw [hrF, hK]; dsimp only
      rw [if_neg (fun e => hr0 e.2.2)]
    have HT := Lib.hid hT
    have hrl : 0 < r.length := List.length_pos_iff.2 hr0
    clear hT hI hJ hK hrE hrF
    go_wp2_with fail
    refine hRead.mono ?_
    clear hRead
    rintro e w2 ⟨rfl, ht2⟩
    rw [Hval.out]
    go_wp2_with fail
    refine (HRead2.out w2 ht2).mono ?_
    rintro e w3 ⟨rfl, ht3⟩
    rw [Hval2.out]
    go_wp2_with fail
    refine (HTx.out w3 (ht2.trans0 ht3)).mono ?_
    rintro e w4 ⟨A4, c4, rfl, ht4, -, -, hrb, -, -, -⟩
    obtain ⟨M, hM⟩ : ∃ M, M = b.length - r.length := ⟨_, rfl⟩
    rw [← hM]
    have hMb : M < b.length := by omega
    have hne : decide ((M : Int) = (b.length : Int)) = false := by simp; omega
    go_wp2
    go_ret2
    unfold HdRPost
    rw [HT.out]
    exact ⟨rfl, (ht2.trans0 ht3).trans0 ht4⟩
end Go.Proofs.YtlcpljpeljoboaaDoor

/- bywashref08.group: a frame's bytes as a group's records. For every slice of bytes. -/
namespace Go.Proofs.YtlcpljpeljoboaaDoor
open Go.RowKit

def GpRPost (Ain : Option Addr) (b : List UInt8) (w : World) (e : Ending) (w' : World) : Prop :=
  match rdGp b with
  | none => ∃ A c n, e = .returned (.tuple #[.slice A n c, .bool false]) ∧ Touch [] w w'
  | some ss => ∃ A c, e = .returned (.tuple #[.slice A ss.length c, .bool true]) ∧ Touch [] w w' ∧ BsD (fun x => x ∈ fpo Ain ∨ w.heap.size ≤ x) w' A ss
theorem GpRPost.no {Ain : Option Addr} {b : List UInt8} {w w' : World} {A : Option Addr} {c n : Nat} (h : rdGp b = none) (ht : Touch [] w w') : GpRPost Ain b w (.returned (.tuple #[.slice A n c, .bool false])) w' := by
  unfold GpRPost; rw [h]; exact ⟨_, _, _, rfl, ht⟩

/-- what holds at each round's head -/
structure RGpAt (w : World) (Ain : Option Addr) (b l2 : List UInt8) (A2 : Option Addr) (j c2 at_ : Nat) (wr : World) : Prop where
  ex : ∃ ls vs, OwnBs wr A2 c2 ls vs ∧ ls.length = j ∧ rdTs j l2 = some (ls, b.drop at_) ∧ ∀ v ∈ vs, ∀ A' k c', v = .slice A' k c' → ∀ x ∈ fpo A', x ∈ fpo Ain
  le : at_ ≤ b.length
  f2 : ∀ x ∈ fpo A2, w.heap.size ≤ x
  t : Touch [] w wr

set_option maxRecDepth 100000 in
set_option maxHeartbeats 1600000 in
theorem refGroup_any (A : Option Addr) (c n : Nat) (b : List UInt8) (hn : b.length = n) (hm : n ≤ 900000000) (hc : n ≤ c) (w : World) (hr : RdB w A b) :
    Calls Tryd.prog 38 #[.slice A n c] w fun e w' => GpRPost A b w e w' := by
  subst hn
  go_enter Tryd.func38, Tryd.ntmps38
  have hRead := refRead_any A c b 0 (by omega) hc (by omega) w hr
  rw [show ((0 : Nat) : Int) = 0 from rfl] at hRead
  rcases hI : rdI (b.drop 0) with _ | ⟨k, l1⟩
  · have hT : rdGp b = none := by unfold rdGp; rw [show b = b.drop 0 from rfl, hI]
    have hval := refRd_none hI
    have Hval := Lib.hid hval
    have HT := Lib.hid hT
    clear hval hT hI
    go_wp2_with fail
    refine hRead.mono ?_
    clear hRead
    rintro e w2 ⟨rfl, ht2⟩
    rw [Hval.out]
    go_wp2
    go_ret2
    exact GpRPost.no HT.out ht2
  obtain ⟨E, hE, hrE, hval, hEr⟩ := rdI_at hI
  have hvb := rdI_bounds hI
  have Hval := Lib.hid hval
  clear hval
  by_cases hk : k = 2
  case neg =>
    have hT : rdGp b = none := by
      unfold rdGp; rw [show b = b.drop 0 from rfl, hI]; dsimp only; rw [if_neg hk]
    have HT := Lib.hid hT
    have hkne : (k != 2) = true := by simpa using hk
    have hE0 : decide ((E : Int) < 0) = false := by simp
    clear hT hI hrE
    go_wp2_with fail
    refine hRead.mono ?_
    clear hRead
    rintro e w2 ⟨rfl, ht2⟩
    rw [Hval.out]
    go_wp2
    go_ret2
    exact GpRPost.no HT.out ht2
  subst hk
  have hRead2 := fun (w2 : World) (ht2 : Touch [] w w2) => refRead_any A c b E (by omega) hc (by omega) w2 (Rd.touch0 hr ht2)
  have HRead2 := Lib.hid hRead2
  clear hRead2
  have hG0 : rdGp b = match rdI (b.drop E) with
    | none => none
    | some (n, l2) => if n < 0 ∨ 1073741824 < n then none else match rdTs n.toNat l2 with
      | none => none
      | some (ss, r) => if r = [] then some ss else none := by
    rw [← hrE]; show rdGp (b.drop 0) = _; unfold rdGp; rw [hI]; dsimp only; rw [if_pos rfl]; (try rfl)
  rcases hJ : rdI (b.drop E) with _ | ⟨g, l2⟩
  · have hT : rdGp b = none := by rw [hG0, hJ]
    have hval := refRd_none hJ
    have Hval2 := Lib.hid hval
    have HT := Lib.hid hT
    clear hval hT hI hJ hrE hG0
    go_wp2_with fail
    refine hRead.mono ?_
    clear hRead
    rintro e w2 ⟨rfl, ht2⟩
    rw [Hval.out]
    go_wp2_with fail
    refine (HRead2.out w2 ht2).mono ?_
    rintro e w3 ⟨rfl, ht3⟩
    rw [Hval2.out]
    go_wp2
    go_ret2
    exact GpRPost.no HT.out (ht2.trans0 ht3)
  obtain ⟨F, hF, hrF, hval2, hFr⟩ := rdI_at hJ
  have hvb2 := rdI_bounds hJ
  have Hval2 := Lib.hid hval2
  clear hval2
  rw [hJ] at hG0
  dsimp only at hG0
  by_cases hg : g < 0 ∨ 1073741824 < g
  · have hT : rdGp b = none := by rw [hG0, if_pos hg]
    have HT := Lib.hid hT
    clear hT hI hJ hrE hrF hG0
    have hF0 : decide ((F : Int) < 0) = false := by simp
    rcases (show g < 0 ∨ (¬ g < 0 ∧ 1073741824 < g) by omega) with hg1 | ⟨hg0, hg1⟩
    all_goals
      clear hg
      go_wp2_with fail
      refine hRead.mono ?_
      clear hRead
      rintro e w2 ⟨rfl, ht2⟩
      rw [Hval.out]
      go_wp2_with fail
      refine (HRead2.out w2 ht2).mono ?_
      rintro e w3 ⟨rfl, ht3⟩
      rw [Hval2.out]
      go_wp2
      go_ret2
      exact GpRPost.no HT.out (ht2.trans0 ht3)
  rw [if_neg hg] at hG0
  obtain ⟨g, rfl⟩ : ∃ m : Nat, g = (m : Int) := ⟨g.toNat, by omega⟩
  rw [Int.toNat_natCast] at hG0
  have HG0 := Lib.hid hG0
  have HrF := Lib.hid hrF
  have hgb : decide ((1073741824 : Int) < (g : Int)) = false := by simp; omega
  have hg0 : decide ((g : Int) < 0) = false := by simp
  have hF0 : decide ((F : Int) < 0) = false := by simp
  have hg2 : g ≤ 1073741824 := by omega
  clear hI hJ hrE hrF hG0 hg
  have hl2 : l2.length ≤ b.length := by omega
  go_wp2_with fail
  refine hRead.mono ?_
  clear hRead
  rintro e w2 ⟨rfl, ht2⟩
  rw [Hval.out]
  go_wp2_with fail
  refine (HRead2.out w2 ht2).mono ?_
  rintro e w3 ⟨rfl, ht3⟩
  rw [Hval2.out]
  clear HRead2
  have T3 := ht2.trans0 ht3
  go_wp2_with fail
  go_loopw [5, 7, 8] (fun a v i wr => ∃ (A2 : Option Addr) (j c2 at_ : Nat), a = .int .i64 at_ ∧ v = .slice A2 j c2 ∧ i = .int .i64 j ∧ j ≤ g ∧ RGpAt w A b l2 A2 j c2 at_ wr) (fun _ _ i _ => g - (intOf i).toNat)
  case atStart => exact ⟨none, 0, 0, F, rfl, rfl, rfl, by omega, ⟨⟨[], [], OwnBs.nil _, rfl, by rw [rdTs, HrF.out], by simp⟩, hF, by simp [fpo], T3⟩⟩
  case round =>
    obtain ⟨A2, j, c2, at_, rfl, rfl, rfl, hj, ⟨ls, vs, hown, hln, hst, hvg⟩, hle, hf2, ht⟩ := hrel
    have hjl := (rdTs_len hst).2.1
    have hTx := refTxt_any A c b.length b rfl at_ (by omega) hc (by omega) wr (Rd.touch0 hr ht)
    unfold TxRPost at hTx
    by_cases hjg : j < g
    · have hjI : decide ((j : Int) < (g : Int)) = true := by simpa using hjg
      rcases hK : rdT (b.drop at_) with _ | ⟨s, r⟩
      · have hT : rdGp b = none := by rw [HG0.out, rdTs_none hst hK hjg]
        have HT := Lib.hid hT
        rw [hK] at hTx
        clear hT hK hst hln
        go_wp2_with fail
        refine hTx.mono ?_
        clear hTx
        rintro e w4 ⟨A4, c4, n4, rfl, ht4⟩
        go_wp2
        go_ret2
        exact GpRPost.no HT.out (ht.trans0 ht4)
      · have hsn := rdTs_snoc hst hK
        have Hsn := Lib.hid hsn
        have hne : 0 < b.length := by have := (rdT_less hK).1; rw [List.length_drop] at this; omega
        rw [hK] at hTx
        clear hK hst hsn
        have Hln := Lib.hid hln
        clear hln
        go_wp2_with fail
        refine hTx.mono ?_
        clear hTx
        rintro e w4 ⟨A4, c4, rfl, ht4, hr4, hrd, hrl, hc4, hsb, hA4⟩
        obtain ⟨M, hM⟩ : ∃ M, M = b.length - r.length := ⟨_, rfl⟩
        rw [← hM] at hrd ⊢
        have hMb : M ≤ b.length := by omega
        have Hrd := Lib.hid hrd
        clear hrd hM
        have hM0 : decide ((M : Int) < 0) = false := by simp
        have hAlt : ∀ x ∈ fpo A4, x < w.heap.size := fun x hx => Rd.lt hr (by simpa using hne) x (hA4 x hx)
        have T4 := ht.trans0 ht4
        have hs4 := T4.size
        have hown4 := hown.touch0 ht4
        have tx := (Touch.refl [] w4).alloc (.cells #[.slice A4 s.length c4] 22)
        have hcx : (w4.alloc (.cells #[.slice A4 s.length c4] 22)).cell? ⟨w4.heap.size, 0, none⟩ = some (.slice A4 s.length c4) := cell_of_one (heap_alloc_new w4 _)
        have hfx : ∀ x ∈ fpo A4, x ∉ fpo A2 ∧ x < (w4.alloc (.cells #[.slice A4 s.length c4] 22)).heap.size := by
          intro x hx
          have h1 := hAlt x hx
          refine ⟨fun hm => ?_, by simp; omega⟩
          have := hf2 x hm; omega
        go_wp2_with (at_builtin; refine stop ?_)
        refine go ?_
        refine wpList_appBs rfl (.tmp 51) (.tmp 53) rfl A2 j c2 ls vs Hln.out rfl (hown4.touch0 tx) w4.heap.size A4 s.length c4 s rfl hcx rfl (Rd.touch0 hr4 tx) hc4 hfx (by omega) ?_
        intro A7 c7 w7 hown7 ht7 hf7
        have T7 : Touch [] w w7 := (T4.trans0 tx).trans ht7 (fun x hx => .inr (hf2 x hx))
        have hf7' : ∀ x ∈ fpo A7, w.heap.size ≤ x := fun x hx => by
          rcases hf7 x hx with h1 | h1
          · exact hf2 x h1
          · simp at h1; omega
        go_wp2_with fail
        go_roundw
        case rel => exact ⟨A7, j + 1, c7, M, rfl, rfl, by go_num, by omega, ⟨⟨ls ++ [s], _, hown7, by rw [List.length_append, Hln.out]; rfl, by rw [← Hrd.out]; exact Hsn.out, fun v hv A' k c' e => by
          rcases List.mem_append.1 hv with h1 | h1
          · exact hvg v h1 A' k c' e
          · obtain rfl : v = .slice A4 s.length c4 := by simpa using h1
            injection e with e1 _ _
            subst e1
            exact hA4⟩, hMb, hf7', T7⟩⟩
        case measure => simp [intOf]; omega
    · obtain rfl : j = g := by omega
      have hjI : decide ((j : Int) < (j : Int)) = false := by simp
      clear hTx
      have hG := HG0.out
      rw [hst] at hG
      dsimp only at hG
      have hbs : ∀ w', Touch [] wr w' → BsD (fun x => x ∈ fpo A ∨ w.heap.size ≤ x) w' A2 ls := fun w' ht' => (hown.bsD (fun x hx => .inr (hf2 x hx)) (fun v hv A' k c' e _ x hx => .inl (hvg v hv A' k c' e x hx))).touch0 ht'
      have Hbs := Lib.hid hbs
      by_cases hat : at_ = b.length
      · have hG1 : rdGp b = some ls := by rw [hG, if_pos (by rw [hat, List.drop_length])]
        have HG1 := Lib.hid hG1
        have hd : ((at_ : Int) == (b.length : Int)) = true := by rw [hat]; exact beq_self_eq_true _
        have Hln := Lib.hid hln
        clear hG hG1 hst hln hbs hat
        go_wp2
        go_ret2
        try rw [hd]
        unfold GpRPost
        rw [HG1.out]
        dsimp only
        rw [Hln.out]
        exact ⟨A2, c2, rfl, ht, Hbs.out _ (Touch.refl _ _)⟩
      · have hG1 : rdGp b = none := by
          rw [hG, if_neg (fun e => ?_)]
          have := congrArg List.length e
          rw [List.length_drop] at this
          simp at this; omega
        have HG1 := Lib.hid hG1
        have hd : ((at_ : Int) == (b.length : Int)) = false := by rw [beq_eq_false_iff_ne]; omega
        clear hG hG1 hst hln hbs
        go_wp2
        go_ret2
        try rw [hd]
        exact GpRPost.no HG1.out ht
end Go.Proofs.YtlcpljpeljoboaaDoor

/- frame.NewIn: where the bytes of what it makes lie. For every slice of bytes. -/
namespace Go.Proofs.YtlcpljpeljoboaaDoor
open Go.RowKit

set_option maxHeartbeats 400000 in
theorem newIn2_any (A : Option Addr) (n c : Nat) (l : List UInt8) (hn : l.length = n) (hl : n ≤ 140737488000000) (w : World) (h : RdB w A l) :
    Calls Tryd.prog 64 #[.slice A n c] w fun e w' => ∃ g A', e = .returned (.pointer (some ⟨g, 0, none⟩)) ∧ InAt w' g A' l false ∧ Touch [] w w' ∧ w.heap.size ≤ g ∧ ∀ b ∈ fpo A', w.heap.size ≤ b ∧ b < w'.heap.size := by
  subst hn
  go_enter Tryd.func64, Tryd.ntmps64
  go_wp2_with (go_at_call 43; refine (clone_any A c l w h hl).mono ?_; rintro e w1 ⟨A1, c1, rfl, h1⟩)
  obtain ⟨hown1, ht1, hf1⟩ := h1
  go_ret
  exact ⟨w1.heap.size, A1, rfl, ⟨⟨c1, hown1.le, heap_alloc_new w1 _⟩, hown1.rd.touch0 ((Touch.refl [] w1).alloc _), fun hm => by have := hown1.lt _ hm; omega, hl⟩, ht1.alloc _, ht1.size, fun b hb => ⟨hf1 b hb, by have := hown1.lt b hb; simp; omega⟩⟩
end Go.Proofs.YtlcpljpeljoboaaDoor

/- frame.In's methods on an In that is right or bad: what comes out, in one contract each. For every In. -/
namespace Go.Proofs.YtlcpljpeljoboaaDoor
open Go.RowKit

theorem Touch.up0 {g : Nat} {w a b : World} (t : Touch [g] w a) (t' : Touch [] a b) : Touch [g] w b := t.trans (t'.mono (fun _ hb => by simp at hb)) (fun _ hb => .inl hb)
theorem Touch.up {g : Nat} {w a b : World} (t : Touch [g] w a) (t' : Touch [g] a b) : Touch [g] w b := t.trans t' (fun _ hb => .inl hb)
theorem In_fin {g : Nat} {A A1 : Option Addr} {l1 : List UInt8} {bad : Bool} {w w1 w2 : World} (hgl : g < w.heap.size) (hA : ∀ b ∈ fpo A, b < w.heap.size) (hf : ∀ b ∈ fpo A1, b ∈ fpo A) (t1 : Touch [g] w w1) (hi : InAt w1 g A1 l1 bad)
    (fp : List Nat) (t2 : Touch fp w1 w2) (hfp : ∀ b ∈ fp, w.heap.size ≤ b) : InPost g A l1 bad w w2 :=
  ⟨A1, hi.touch1 t2 (fun hm => by have := hfp g hm; omega) (fun h0 b hb hm => by have := hA b (hf b hb); have := hfp b hm; omega), t1.trans t2 (fun b hb => .inr (hfp b hb)), hf⟩
theorem rdI_len {l l1 : List UInt8} {k : Int} (h : rdI l = some (k, l1)) : l1.length ≤ l.length := by
  unfold rdI at h
  split at h
  · cases h
  · dsimp only at h
    split at h <;> split at h <;> first | (cases h; rw [List.length_drop, List.length_cons]; omega) | cases h

/-- what a reading comes to: bad behind it, or read -/
def RX {α : Type} (r : Option (α × List UInt8)) (bad : Bool) (x : α) (l' : List UInt8) (bad' : Bool) : Prop :=
  (bad' = true ∧ (bad = true ∨ r = none)) ∨ (bad = false ∧ bad' = false ∧ r = some (x, l'))

theorem inText_x (g : Nat) (A : Option Addr) (l : List UInt8) (bad : Bool) (w : World) (hi : InAt w g A l bad) :
    Calls Tryd.prog 65 #[.pointer (some ⟨g, 0, none⟩)] w fun e w' => ∃ s l' bad', e = .returned (.string (S s)) ∧ InPost g A l' bad' w w' ∧ RX (rdT l) bad s l' bad' := by
  cases bad
  · refine (inText_ok g A l w hi).mono fun e w' h => ?_
    unfold TextPost at h
    rcases hr : rdT l with _ | ⟨s, l1⟩
    · rw [hr] at h
      obtain ⟨rfl, l', hp⟩ := h
      exact ⟨[], l', true, rfl, hp, .inl ⟨rfl, .inr rfl⟩⟩
    · rw [hr] at h
      exact ⟨s, l1, false, h.1, h.2, .inr ⟨rfl, rfl, rfl⟩⟩
  · exact (inText_bad g A l w hi).mono fun e w' h => ⟨[], l, true, h.1, h.2, .inl ⟨rfl, .inl rfl⟩⟩
theorem inInt_x (g : Nat) (A : Option Addr) (l : List UInt8) (bad : Bool) (w : World) (hi : InAt w g A l bad) :
    Calls Tryd.prog 70 #[.pointer (some ⟨g, 0, none⟩)] w fun e w' => ∃ n l' bad', e = .returned (.int .i64 n) ∧ InPost g A l' bad' w w' ∧ RX (rdI l) bad n l' bad' ∧ -9223372036854775808 ≤ n ∧ n ≤ 9223372036854775807 := by
  cases bad
  · refine (inInt_ok g A l w hi).mono fun e w' h => ?_
    unfold IntPost at h
    rcases hr : rdI l with _ | ⟨s, l1⟩
    · rw [hr] at h
      obtain ⟨rfl, l', hp⟩ := h
      exact ⟨0, l', true, rfl, hp, .inl ⟨rfl, .inr rfl⟩, by omega, by omega⟩
    · have hb := rdI_bounds hr
      rw [hr] at h
      exact ⟨s, l1, false, h.1, h.2, .inr ⟨rfl, rfl, rfl⟩, hb.1, hb.2⟩
  · exact (inInt_bad g A l w hi).mono fun e w' h => ⟨0, l, true, h.1, h.2, .inl ⟨rfl, .inl rfl⟩, by omega, by omega⟩
theorem rdC_le {most : Int} {l l1 : List UInt8} {n : Int} (h : rdC most l = some (n, l1)) : 0 ≤ n ∧ n ≤ most ∧ l1.length ≤ l.length := by
  unfold rdC at h
  rcases hr : rdI l with _ | ⟨k, l'⟩
  · rw [hr] at h; cases h
  · have := rdI_len hr
    rw [hr] at h
    dsimp only at h
    split at h
    · cases h
    · cases h
      omega
theorem inCount_x (g : Nat) (A : Option Addr) (l : List UInt8) (bad : Bool) (most : Int) (hm : 0 ≤ most) (w : World) (hi : InAt w g A l bad) :
    Calls Tryd.prog 72 #[.pointer (some ⟨g, 0, none⟩), .int .i64 most] w fun e w' => ∃ n l' bad', e = .returned (.int .i64 n) ∧ InPost g A l' bad' w w' ∧ RX (rdC most l) bad n l' bad' ∧ 0 ≤ n ∧ n ≤ most := by
  cases bad
  · refine (inCount_ok g A l most w hi).mono fun e w' h => ?_
    unfold CountPost at h
    rcases hr : rdC most l with _ | ⟨s, l1⟩
    · rw [hr] at h
      obtain ⟨rfl, l', hp⟩ := h
      exact ⟨0, l', true, rfl, hp, .inl ⟨rfl, .inr rfl⟩, by omega, hm⟩
    · have hb := rdC_le hr
      rw [hr] at h
      exact ⟨s, l1, false, h.1, h.2, .inr ⟨rfl, rfl, rfl⟩, hb.1, hb.2.1⟩
  · exact (inCount_bad g A l most w hi).mono fun e w' h => ⟨0, l, true, h.1, h.2, .inl ⟨rfl, .inl rfl⟩, by omega, hm⟩
end Go.Proofs.YtlcpljpeljoboaaDoor

/- segment.readHead: a frame's bytes as a first frame. For every slice of bytes. -/
namespace Go.Proofs.YtlcpljpeljoboaaDoor
open Go.RowKit

def HdPost (b : List UInt8) (w : World) (e : Ending) (w' : World) : Prop :=
  match rdHd b with
  | none => e = .returned (.tuple #[.int .i64 0, .slice none 0 0]) ∧ Touch [] w w'
  | some (g, s) => ∃ A c, e = .returned (.tuple #[.int .i64 g, .slice A s.length c]) ∧ Touch [] w w' ∧ RdB w' A s ∧ s.length ≤ c ∧ (∀ x ∈ fpo A, w.heap.size ≤ x) ∧ 1 ≤ g ∧ g ≤ 9223372036854775807

set_option maxRecDepth 100000 in
set_option maxHeartbeats 1600000 in
theorem readHead_any (A : Option Addr) (c n : Nat) (b : List UInt8) (hn : b.length = n) (hm : n ≤ 900000000) (w : World) (hr : RdB w A b) :
    Calls Tryd.prog 56 #[.slice A n c] w fun e w' => HdPost b w e w' := by
  subst hn
  go_enter Tryd.func56, Tryd.ntmps56
  go_wp2_with fail
  refine (newIn2_any A b.length c b rfl (by omega) w hr).mono ?_
  rintro e w1 ⟨g, A1, rfl, hi1, ht1, hgw, hf1⟩
  obtain ⟨-, -, -, hgl, -, -, -, -⟩ := hi1.mk'
  go_wp2_with fail
  refine (inInt_x g A1 b false w1 hi1).mono ?_
  rintro e w2 ⟨k, l1, bad1, rfl, ⟨A2, hi2, ht2, hf2⟩, hrx1, hk1, hk2⟩
  go_wp2_with fail
  refine (inInt_x g A2 l1 bad1 w2 hi2).mono ?_
  rintro e w3 ⟨m, l2, bad2, rfl, ⟨A3, hi3, ht3, hf3⟩, hrx2, hm1, hm2⟩
  go_wp2_with fail
  refine (inText_x g A3 l2 bad2 w3 hi3).mono ?_
  rintro e w4 ⟨s, l3, bad3, rfl, ⟨A4, hi4, ht4, hf4⟩, hrx3⟩
  have T4 : Touch [g] w1 w4 := (ht2.up ht3).up ht4
  have TW : Touch [] w w4 := ht1.trans T4 (fun x hx => .inr (by simp at hx; omega))
  have hsb := run_bytes_of s w4
  have tb := touch_bytes w4 s
  have rb := rd_bytes w4 s
  have hgc := grownCap_ge w4 s.length 0 5
  obtain ⟨G, hG⟩ : ∃ G, G = grownCap w4 s.length 0 5 := ⟨_, rfl⟩
  rw [← hG] at hsb hgc
  clear hG
  have hi5 : InAt (Lib.bytesWorld w4 5 (S s)) g A4 l3 bad3 := hi4.touch tb (by simp) (by simp)
  have T5 := TW.trans0 tb
  have hs4 := TW.size
  have hdone := done_any g A4 l3 bad3 _ hi5
  have hrel : (bad3 = false ∧ l3.length = 0 ∧ k = 1 ∧ ¬ m < 1 ∧ rdHd b = some (m.toNat, s)) ∨ (¬ (bad3 = false ∧ l3.length = 0 ∧ k = 1 ∧ ¬ m < 1) ∧ rdHd b = none) := by
    rcases hrx1 with ⟨rfl, h | h⟩ | ⟨-, rfl, h1⟩
    · cases h
    · refine .inr ⟨?_, by unfold rdHd; rw [h]⟩
      rcases hrx2 with ⟨rfl, -⟩ | ⟨h, -, -⟩
      · rcases hrx3 with ⟨rfl, -⟩ | ⟨h, -, -⟩
        · simp
        · cases h
      · cases h
    · rcases hrx2 with ⟨rfl, h | h⟩ | ⟨-, rfl, h2⟩
      · cases h
      · refine .inr ⟨?_, by unfold rdHd; rw [h1]; dsimp only; rw [h]⟩
        rcases hrx3 with ⟨rfl, -⟩ | ⟨h, -, -⟩
        · simp
        · cases h
      · rcases hrx3 with ⟨rfl, h | h⟩ | ⟨-, rfl, h3⟩
        · cases h
        · exact .inr ⟨by simp, by unfold rdHd; rw [h1]; dsimp only; rw [h2]; dsimp only; rw [h]⟩
        · by_cases hc : k = 1 ∧ 1 ≤ m ∧ l3 = []
          · exact .inl ⟨rfl, by rw [hc.2.2]; rfl, hc.1, by omega, by unfold rdHd; rw [h1]; dsimp only; rw [h2]; dsimp only; rw [h3]; dsimp only; rw [if_pos hc]⟩
          · refine .inr ⟨fun h => hc ⟨h.2.2.1, by omega, List.eq_nil_of_length_eq_zero h.2.1⟩, by unfold rdHd; rw [h1]; dsimp only; rw [h2]; dsimp only; rw [h3]; dsimp only; rw [if_neg hc]⟩
  clear hrx1 hrx2 hrx3
  go_wp2_with fail
  clear hsb
  refine hdone.mono ?_
  clear hdone
  rintro e w6 ⟨rfl, rfl⟩
  rcases hrel with ⟨rfl, h0, rfl, hm3, hT⟩ | ⟨hno, hT⟩
  · have hd : (!false && decide (l3.length = 0)) = true := by simpa using h0
    have HT := Lib.hid hT
    obtain ⟨m, rfl⟩ : ∃ j : Nat, m = (j : Int) := ⟨m.toNat, by omega⟩
    have hmm : decide ((m : Int) < 1) = false := by simpa using hm3
    have hm4 : 1 ≤ m := by omega
    clear hT
    rw [hd]
    go_wp2
    go_ret2
    unfold HdPost
    rw [HT.out, Int.toNat_natCast]
    exact ⟨_, _, rfl, T5, rb, hgc, fun x hx => by simp [fpo] at hx; omega, hm4, by omega⟩
  · have HT := Lib.hid hT
    clear hT
    by_cases hd : bad3 = false ∧ l3.length = 0
    · have hd1 : (!bad3 && decide (l3.length = 0)) = true := by simpa using hd
      rw [hd1]
      by_cases hk : k = 1
      · subst hk
        have hm3 : m < 1 := by
          by_cases h : m < 1
          · exact h
          · exact absurd ⟨hd.1, hd.2, rfl, by omega⟩ hno
        clear hno hd hd1
        go_wp2
        go_ret2
        unfold HdPost
        rw [HT.out]
        exact ⟨rfl, T5⟩
      · have hkne : (k != 1) = true := by simpa using hk
        clear hno hd hd1
        go_wp2
        go_ret2
        unfold HdPost
        rw [HT.out]
        exact ⟨rfl, T5⟩
    · have hd1 : (!bad3 && decide (l3.length = 0)) = false := by
        rcases bad3
        · simpa using hd
        · rfl
      rw [hd1]
      clear hno hd hd1
      go_wp2
      go_ret2
      unfold HdPost
      rw [HT.out]
      exact ⟨rfl, T5⟩
end Go.Proofs.YtlcpljpeljoboaaDoor

/- segment.readGroup: a frame's bytes as a group's records. For every slice of bytes. -/
namespace Go.Proofs.YtlcpljpeljoboaaDoor
open Go.RowKit

def GpPost (b : List UInt8) (w : World) (e : Ending) (w' : World) : Prop :=
  match rdGp b with
  | none => ∃ A c n, e = .returned (.tuple #[.slice A n c, .bool false]) ∧ Touch [] w w'
  | some ss => ∃ A c, e = .returned (.tuple #[.slice A ss.length c, .bool true]) ∧ Touch [] w w' ∧ BsD (fun x => w.heap.size ≤ x) w' A ss
theorem GpPost.no {b : List UInt8} {w w' : World} {A : Option Addr} {c n : Nat} (h : rdGp b = none) (ht : Touch [] w w') : GpPost b w (.returned (.tuple #[.slice A n c, .bool false])) w' := by
  unfold GpPost; rw [h]; exact ⟨_, _, _, rfl, ht⟩

/-- what holds at each round's head -/
structure GpAt (w w1 : World) (b l2 : List UInt8) (n : Nat) (g : Nat) (A1 A2 : Option Addr) (j c2 : Nat) (wr : World) : Prop where
  ex : ∃ ls vs l bad An, OwnBs wr A2 c2 ls vs ∧ ls.length = j ∧ InAt wr g An l bad ∧ (∀ x ∈ fpo An, x ∈ fpo A1) ∧ ((bad = true ∧ rdGp b = none) ∨ (bad = false ∧ rdTs j l2 = some (ls, l) ∧ l2.length ≤ b.length ∧ rdGp b = match rdTs n l2 with
      | none => none
      | some (ss, r) => if r = [] then some ss else none)) ∧ ∀ v ∈ vs, ∀ A' k c', v = .slice A' k c' → ∀ x ∈ fpo A', w1.heap.size ≤ x
  f2 : ∀ x ∈ fpo A2, w1.heap.size ≤ x
  t : Touch [g] w1 wr

set_option maxRecDepth 100000 in
set_option maxHeartbeats 1600000 in
theorem readGroup_any (A : Option Addr) (c n : Nat) (b : List UInt8) (hn : b.length = n) (hm : n ≤ 900000000) (w : World) (hr : RdB w A b) :
    Calls Tryd.prog 57 #[.slice A n c] w fun e w' => GpPost b w e w' := by
  subst hn
  go_enter Tryd.func57, Tryd.ntmps57
  go_wp2_with fail
  refine (newIn2_any A b.length c b rfl (by omega) w hr).mono ?_
  rintro e w1 ⟨g, A1, rfl, hi1, ht1, hgw, hf1⟩
  obtain ⟨-, -, -, hgl, -, -, -, -⟩ := hi1.mk'
  have hs1 := ht1.size
  go_wp2_with fail
  refine (inInt_x g A1 b false w1 hi1).mono ?_
  rintro e w2 ⟨k, l1, bad1, rfl, ⟨A2, hi2, ht2, hf2⟩, hrx1, hk1, hk2⟩
  by_cases hk : k = 2
  case neg =>
    have hkne : (k != 2) = true := by simpa using hk
    have hT : rdGp b = none := by
      rcases hrx1 with ⟨rfl, h | h⟩ | ⟨-, rfl, h1⟩
      · cases h
      · unfold rdGp; rw [h]
      · unfold rdGp; rw [h1]; dsimp only; rw [if_neg hk]
    have HT := Lib.hid hT
    have TW : Touch [] w w2 := ht1.trans ht2 (fun x hx => .inr (by simp at hx; omega))
    clear hT hrx1
    go_wp2
    go_ret2
    exact GpPost.no HT.out TW
  subst hk
  go_wp2_with fail
  refine (inCount_x g A2 l1 bad1 1073741824 (by omega) w2 hi2).mono ?_
  rintro e w3 ⟨n, l2, bad2, rfl, ⟨A3, hi3, ht3, hf3⟩, hrx2, hn0, hn1⟩
  obtain ⟨n, rfl⟩ : ∃ j : Nat, n = (j : Int) := ⟨n.toNat, by omega⟩
  have hrel : (bad2 = true ∧ rdGp b = none) ∨ (bad2 = false ∧ rdTs 0 l2 = some ([], l2) ∧ l2.length ≤ b.length ∧ rdGp b = match rdTs n l2 with
      | none => none
      | some (ss, r) => if r = [] then some ss else none) := by
    rcases hrx1 with ⟨rfl, h | h⟩ | ⟨-, rfl, h1⟩
    · cases h
    · rcases hrx2 with ⟨rfl, -⟩ | ⟨h', -, -⟩
      · exact .inl ⟨rfl, by unfold rdGp; rw [h]⟩
      · cases h'
    · have hl1 := rdI_len h1
      rcases hrx2 with ⟨rfl, h | h⟩ | ⟨-, rfl, h2⟩
      · cases h
      · refine .inl ⟨rfl, ?_⟩
        unfold rdGp; rw [h1]; dsimp only; rw [if_pos rfl]
        unfold rdC at h
        rcases hI : rdI l1 with _ | ⟨m, l'⟩
        · rfl
        · rw [hI] at h
          dsimp only at h ⊢
          split at h
          · rename_i hc; rw [if_pos hc]
          · cases h
      · refine .inr ⟨rfl, rfl, ?_, ?_⟩
        · have := (rdC_le h2).2.2; omega
        · unfold rdGp; rw [h1]; dsimp only; rw [if_pos rfl]
          unfold rdC at h2
          rcases hI : rdI l1 with _ | ⟨m, l'⟩
          · rw [hI] at h2; cases h2
          · rw [hI] at h2
            dsimp only at h2 ⊢
            split at h2
            · cases h2
            · rename_i hc
              cases h2
              rw [if_neg hc, Int.toNat_natCast]
              (try rfl)
  have Hrel := Lib.hid hrel
  clear hrx1 hrx2 hrel
  have T3 : Touch [g] w1 w3 := ht2.up ht3
  go_wp2_with fail
  go_loopw [5, 13] (fun v i wr => ∃ (A2 : Option Addr) (j c2 : Nat), v = .slice A2 j c2 ∧ i = .int .i64 j ∧ j ≤ n ∧ GpAt w w1 b l2 n g A1 A2 j c2 wr) (fun _ i _ => n - (intOf i).toNat)
  case atStart => exact ⟨none, 0, 0, rfl, rfl, by omega, ⟨⟨[], [], l2, bad2, A3, OwnBs.nil _, rfl, hi3, fun x hx => hf2 x (hf3 x hx), Hrel.out, by simp⟩, by simp [fpo], T3⟩⟩
  case round =>
    clear hi2 hi3 ht2 ht3 hf2 hf3 Hrel T3
    obtain ⟨A5, j, c5, rfl, rfl, hj, ⟨ls, vs, l, bad, An, hown, hln, hi, hAn, hst, hvg⟩, hf5, T⟩ := hrel
    have TW : Touch [] w wr := ht1.trans T (fun x hx => .inr (by simp at hx; omega))
    have hdone := done_any g An l bad wr hi
    have hbad := bad_any g An l bad wr hi
    by_cases hjn : j < n
    · have hjI : decide ((j : Int) < (n : Int)) = true := by simpa using hjn
      rcases hst with ⟨rfl, hT⟩ | ⟨rfl, hrd, hl2, hG⟩
      · have HT := Lib.hid hT
        have hd1 : (!true && decide (l.length = 0)) = false := rfl
        rw [hd1] at hdone
        clear hT hln
        go_wp2_with fail
        refine hbad.mono ?_
        clear hbad
        rintro e w4 ⟨rfl, rfl⟩
        go_wp2_with fail
        refine hdone.mono ?_
        clear hdone
        rintro e w4 ⟨rfl, rfl⟩
        go_wp2
        go_ret2
        exact GpPost.no HT.out TW
      · clear hdone
        have hjl := (rdTs_len hrd).2.1
        have Hrd := Lib.hid hrd
        have HG := Lib.hid hG
        have Hln := Lib.hid hln
        clear hrd hG hln
        go_wp2_with fail
        refine hbad.mono ?_
        clear hbad
        rintro e w4 ⟨rfl, rfl⟩
        go_wp2_with fail
        refine (inText_x g An l false w4 hi).mono ?_
        rintro e w5 ⟨s, l3, bad3, rfl, ⟨A4, hi4, ht4, hf4⟩, hrx⟩
        have hsb := run_bytes_of s w5
        have tb := touch_bytes w5 s
        have rb := rd_bytes w5 s
        have hgc := grownCap_ge w5 s.length 0 5
        obtain ⟨G, hGe⟩ : ∃ G, G = grownCap w5 s.length 0 5 := ⟨_, rfl⟩
        rw [← hGe] at hsb hgc
        clear hGe
        obtain ⟨W5, hW5⟩ : ∃ W, W = Lib.bytesWorld w5 5 (S s) := ⟨_, rfl⟩
        have hWs : w5.heap.size < W5.heap.size := by rw [hW5, Lib.bytesWorld_size]; omega
        rw [← hW5] at hsb tb rb
        clear hW5
        have hs5 := ht4.size
        have hsT := T.size
        have hlt5 := hown.lt
        have hown5 : OwnBs w5 A5 c5 ls vs := hown.keepIn ht4 (fun x hx e => by have := hf5 x hx; omega) (fun v hv A' k c' e hm => by have := hvg v hv A' k c' e g hm; omega)
        have hown6 := hown5.touch0 tb
        have hi6 : InAt W5 g A4 l3 bad3 := hi4.touch tb (by simp) (by simp)
        have tx := (Touch.refl [] W5).alloc (.cells #[.slice (some ⟨w5.heap.size, 0, none⟩) s.length G] 22)
        have hcx : (W5.alloc (.cells #[.slice (some ⟨w5.heap.size, 0, none⟩) s.length G] 22)).cell? ⟨W5.heap.size, 0, none⟩ = some (.slice (some ⟨w5.heap.size, 0, none⟩) s.length G) := cell_of_one (heap_alloc_new W5 _)
        have hfs : ∀ x ∈ fpo (some ⟨w5.heap.size, 0, none⟩ : Option Addr), x ∉ fpo A5 ∧ x < (W5.alloc (.cells #[.slice (some ⟨w5.heap.size, 0, none⟩) s.length G] 22)).heap.size := by
          intro x hx
          obtain rfl : x = w5.heap.size := by simpa [fpo] using hx
          refine ⟨fun hm => ?_, by simp; omega⟩
          have := hlt5 _ hm; omega
        go_wp2_with (at_builtin; refine stop ?_)
        refine go ?_
        refine wpList_appBs rfl (.tmp 17) (.tmp 21) rfl A5 j c5 ls vs Hln.out rfl (hown6.touch0 tx) W5.heap.size (some ⟨w5.heap.size, 0, none⟩) s.length G s rfl hcx rfl (Rd.touch0 rb tx) hgc hfs (by omega) ?_
        intro A7 c7 w7 hown7 ht7 hf7
        have hA4 : ∀ x ∈ fpo A4, x ∈ fpo A1 := fun x hx => hAn x (hf4 x hx)
        have hi7 : InAt w7 g A4 l3 bad3 := (hi6.touch tx (by simp) (by simp)).touch ht7 (fun hm => by have := hf5 g hm; omega) (fun x hx hm => by
          have h1 := (hf1 x (hA4 x hx)).2
          have h2 := hf5 x hm
          omega)
        have T7 : Touch [g] w1 w7 := (((T.up ht4).up0 tb).up0 tx).trans ht7 (fun x hx => .inr (hf5 x hx))
        have hf7' : ∀ x ∈ fpo A7, w1.heap.size ≤ x := fun x hx => by
          rcases hf7 x hx with h1 | h1
          · exact hf5 x h1
          · simp at h1; omega
        have hnew : (bad3 = true ∧ rdGp b = none) ∨ (bad3 = false ∧ rdTs (j + 1) l2 = some (ls ++ [s], l3) ∧ l2.length ≤ b.length ∧ rdGp b = match rdTs n l2 with
            | none => none
            | some (ss, r) => if r = [] then some ss else none) := by
          rcases hrx with ⟨rfl, h | h⟩ | ⟨-, rfl, h1⟩
          · cases h
          · exact .inl ⟨rfl, by rw [HG.out, rdTs_none Hrd.out h hjn]⟩
          · exact .inr ⟨rfl, rdTs_snoc Hrd.out h1, hl2, HG.out⟩
        have Hnew := Lib.hid hnew
        clear hnew hrx hsb
        go_wp2_with fail
        go_roundw
        case rel => exact ⟨A7, j + 1, c7, rfl, by go_num, by omega, ⟨⟨ls ++ [s], _, l3, bad3, A4, hown7, by rw [List.length_append, Hln.out]; rfl, hi7, hA4, Hnew.out, fun v hv A' k c' e => by
          rcases List.mem_append.1 hv with h1 | h1
          · exact hvg v h1 A' k c' e
          · obtain rfl : v = .slice (some ⟨w5.heap.size, 0, none⟩) s.length G := by simpa using h1
            injection e with e1 _ _
            subst e1
            intro x hx
            simp [fpo] at hx
            omega⟩, hf7', T7⟩⟩
        case measure => simp [intOf]; omega
    · obtain rfl : j = n := by omega
      have hjI : decide ((j : Int) < (j : Int)) = false := by simp
      clear hbad
      have hpost : GpPost b w (.returned (.tuple #[.slice A5 j c5, .bool (!bad && decide (l.length = 0))])) wr := by
        rcases hst with ⟨rfl, hT⟩ | ⟨rfl, hrd, hl2, hG⟩
        · exact GpPost.no hT TW
        · rw [hrd] at hG
          dsimp only at hG
          by_cases hl : l = []
          · subst hl
            rw [if_pos rfl] at hG
            unfold GpPost
            rw [hG, ← hln]
            exact ⟨A5, c5, rfl, TW, hown.bsD (fun x hx => by have := hf5 x hx; omega) (fun v hv A' k c' e _ x hx => by have := hvg v hv A' k c' e x hx; omega)⟩
          · rw [if_neg hl] at hG
            rw [show (!false && decide (l.length = 0)) = false by simpa using hl]
            exact GpPost.no hG TW
      obtain ⟨d, hd⟩ : ∃ d, d = (!bad && decide (l.length = 0)) := ⟨_, rfl⟩
      rw [← hd] at hpost hdone
      have Hpost := Lib.hid hpost
      clear hd
      clear hpost hst hln
      go_wp2_with fail
      refine hdone.mono ?_
      clear hdone
      rintro e w4 ⟨rfl, rfl⟩
      go_wp2
      go_ret2
      exact Hpost.out
end Go.Proofs.YtlcpljpeljoboaaDoor

/- A segment out of its file's frames, plain. -/
namespace Go.Proofs.YtlcpljpeljoboaaDoor
open Go.RowKit

structure SG where
  gen : Nat
  cp : List UInt8
  gs : List (List (List UInt8))
  en : Nat
def grpV : List (List UInt8) → List (List (List UInt8)) × Nat
  | [] => ([], 0)
  | f :: fs => match rdGp f with
    | none => ([], 0)
    | some ss => (ss :: (grpV fs).1, (frm f).length + (grpV fs).2)
def segV : List (List UInt8) → SG
  | [] => ⟨0, [], [], 0⟩
  | f :: fs => match rdHd f with
    | none => ⟨0, [], [], 0⟩
    | some (g, c) => ⟨g, c, (grpV fs).1, (frm f).length + (grpV fs).2⟩
/-- what stands behind k frames -/
def SgAt (ls : List (List UInt8)) (k : Nat) (s : SG) : Prop :=
  (k = 0 ∧ s = ⟨0, [], [], 0⟩) ∨ (0 < k ∧ 1 ≤ s.gen ∧ segV ls = ⟨s.gen, s.cp, s.gs ++ (grpV (ls.drop k)).1, s.en + (grpV (ls.drop k)).2⟩)
theorem SgAt.head {ls : List (List UInt8)} {s : SG} (h : SgAt ls 0 s) (h0 : 0 < ls.length) {g : Nat} {c : List UInt8} (hd : rdHd ls[0] = some (g, c)) (hg : 1 ≤ g) : SgAt ls 1 ⟨g, c, [], (frm ls[0]).length⟩ := by
  rcases ls with _ | ⟨f, fs⟩
  · simp at h0
  · refine .inr ⟨by omega, hg, ?_⟩
    simp only [List.getElem_cons_zero] at hd
    simp [segV, hd]
theorem SgAt.none {ls : List (List UInt8)} (h0 : 0 < ls.length) (hd : rdHd ls[0] = none) : segV ls = ⟨0, [], [], 0⟩ := by
  rcases ls with _ | ⟨f, fs⟩
  · simp at h0
  · simp only [List.getElem_cons_zero] at hd
    simp [segV, hd]
theorem SgAt.next {ls : List (List UInt8)} {k : Nat} {s : SG} (h : SgAt ls k s) (hk : 0 < k) (hlt : k < ls.length) {ss : List (List UInt8)} (hd : rdGp ls[k] = some ss) : SgAt ls (k + 1) ⟨s.gen, s.cp, s.gs ++ [ss], s.en + (frm ls[k]).length⟩ := by
  rcases h with ⟨h, _⟩ | ⟨_, hg, h⟩
  · omega
  · refine .inr ⟨by omega, hg, ?_⟩
    rw [h, List.drop_eq_getElem_cons hlt, grpV, hd]
    simp [Nat.add_assoc]
theorem SgAt.stop {ls : List (List UInt8)} {k : Nat} {s : SG} (h : SgAt ls k s) (hk : 0 < k) (hlt : k < ls.length) (hd : rdGp ls[k] = Option.none) : segV ls = s := by
  rcases h with ⟨h, _⟩ | ⟨_, hg, h⟩
  · omega
  · rw [h, List.drop_eq_getElem_cons hlt, grpV, hd]
    simp
theorem SgAt.all {ls : List (List UInt8)} {s : SG} (h : SgAt ls ls.length s) : segV ls = s := by
  rcases h with ⟨h, rfl⟩ | ⟨_, hg, h⟩
  · rw [List.eq_nil_of_length_eq_zero h]; rfl
  · rw [h, List.drop_length]
    simp [grpV]

theorem scan1_bytes {m r s : List UInt8} (h : scan1 m = some (s, r)) (_hl : m.length ≤ 900000000) : m = frm s ++ r := by
  rcases hI : rdI m with _ | ⟨v, r1⟩
  · unfold scan1 rdT at h; rw [hI] at h; cases h
  · by_cases hv : v < 0 ∨ (r1.length : Int) < v
    · unfold scan1 rdT at h; rw [hI] at h; simp [hv] at h
    · obtain ⟨v, rfl⟩ : ∃ k : Nat, v = (k : Int) := ⟨v.toNat, by omega⟩
      have hvr : v ≤ r1.length := by omega
      by_cases hL : m.length < (frm (r1.take v)).length
      · rw [scan1_long hI hvr hL] at h; cases h
      · rw [scan1_fit hI hvr (by omega)] at h
        split at h
        · rename_i e
          simp only [Option.some.injEq, Prod.mk.injEq] at h
          obtain ⟨rfl, rfl⟩ := h
          rw [← e, List.length_take, Nat.min_eq_left (by omega)]
          exact (List.take_append_drop _ _).symm
        · cases h
theorem Steps.bytes {b m : List UInt8} {ls : List (List UInt8)} (h : Steps b ls m) (hl : b.length ≤ 900000000) : b = ls.flatMap frm ++ m := by
  induction ls generalizing b with
  | nil => simp only [Steps] at h; simp [h]
  | cons s ls ih =>
    obtain ⟨b', h1, h2⟩ := h
    have e := scan1_bytes h1 hl
    have hb := (scan1_rest h1).1
    rw [List.flatMap_cons, List.append_assoc, ← ih h2 (by omega)]
    exact e
theorem frm_pos (s : List UInt8) : 0 < (frm s).length ∧ s.length < (frm s).length := by rw [frm_length]; omega
theorem sum_take (ls : List (List UInt8)) (k : Nat) (h : k < ls.length) : ((ls.take (k + 1)).flatMap frm).length = ((ls.take k).flatMap frm).length + (frm ls[k]).length := by
  rw [List.take_succ_eq_append_getElem h, List.flatMap_append, List.length_append]; simp
theorem sum_le (ls : List (List UInt8)) (k : Nat) : ((ls.take k).flatMap frm).length ≤ (ls.flatMap frm).length := by
  conv => rhs; rw [← List.take_append_drop k ls, List.flatMap_append, List.length_append]
  omega
theorem len_le_sum (ls : List (List UInt8)) : ls.length ≤ (ls.flatMap frm).length := by
  induction ls with
  | nil => simp
  | cons s ls ih =>
    rw [List.flatMap_cons, List.length_append, List.length_cons]
    have := (frm_pos s).1
    omega
theorem mem_le_sum (ls : List (List UInt8)) (k : Nat) (h : k < ls.length) : (ls[k]).length ≤ (ls.flatMap frm).length := by
  have h1 := sum_take ls k h
  have h2 := sum_le ls (k + 1)
  have h3 := (frm_pos ls[k]).2
  omega
end Go.Proofs.YtlcpljpeljoboaaDoor

/- segment.head and bywashref08.Head: a first frame's bytes. For every checkpoint. -/
namespace Go.Proofs.YtlcpljpeljoboaaDoor
open Go.RowKit

def hdB (g : Int) (cp : List UInt8) : List UInt8 := frm (encI 1 ++ encI g ++ encT (S cp))

set_option maxRecDepth 100000 in
set_option maxHeartbeats 1600000 in
theorem refHd_any (g : Int) (h1 : -9223372036854775808 ≤ g) (h2 : g ≤ 9223372036854775807) (A : Option Addr) (c n : Nat) (cp : List UInt8) (hn : cp.length = n) (hm : n ≤ 800000000) (w : World) (hr : RdB w A cp) :
    Calls Tryd.prog 15 #[.int .i64 g, .slice A n c] w fun e w' => ∃ A' c', e = .returned (.slice A' (hdB g cp).length c') ∧ OwnB w' A' c' (hdB g cp) ∧ Touch [] w w' ∧ ∀ b ∈ fpo A', w.heap.size ≤ b := by
  subst hn
  have hl1 := encI_length 1
  have hl2 := encI_length g
  have hl3 := encT_length (S cp)
  have hl4 := encI_length ((S cp).size)
  rw [S_size] at hl3 hl4
  have hT : (encT (S cp)).length ≤ 9 + cp.length := by omega
  clear hl3 hl4
  go_enter Tryd.func15, Tryd.ntmps15
  go_wp2_with fail
  refine (refInt_any 1 (by omega) (by omega) w).mono ?_
  rintro e w1 ⟨A1, d1, rfl, hown1, ht1, hf1⟩
  go_wp2_with fail
  refine (refInt_any g h1 h2 w1).mono ?_
  rintro e w2 ⟨A2, d2, rfl, hown2, ht2, hf2⟩
  have hown1b := hown1.touch0 ht2
  go_wp2_with (at_builtin; refine stop ?_)
  refine go ?_
  refine wpList_appB rfl (.tmp 6) (.tmp 8) rfl A1 (encI 1).length d1 (encI 1) rfl rfl hown1b A2 (encI g).length d2 (encI g) rfl rfl hown2.rd (by omega) ?_
  intro A3 d3 w3 hown3 ht3 hf3
  have hs1 := ht1.size
  have hs2 := ht2.size
  have T3 : Touch [] w w3 := (ht1.trans0 ht2).trans ht3 (fun x hx => .inr (hf1 x hx))
  have hf3' : ∀ b ∈ fpo A3, w.heap.size ≤ b := fun b hb => by
    rcases hf3 b hb with h | h
    · exact hf1 b h
    · omega
  have hcv := run_str_of c rfl (Rd.touch0 hr T3)
  obtain ⟨l3, hl3e⟩ : ∃ l3, l3 = encI 1 ++ encI g := ⟨_, rfl⟩
  have hl3n : (encI 1).length + (encI g).length = l3.length := by rw [hl3e, List.length_append]
  rw [← hl3e] at hown3
  rw [hl3n]
  have hl3b : l3.length ≤ 18 := by omega
  have Hl3 := Lib.hid hl3e
  clear hl3e hl3n
  go_wp2_with fail
  refine (refText_any (S cp) (by rw [S_size]; omega) w3).mono ?_
  rintro e w4 ⟨A4, d4, rfl, hown4, ht4, hf4⟩
  go_wp2_with (at_builtin; refine stop ?_)
  refine go ?_
  refine wpList_appB rfl (.tmp 10) (.tmp 13) rfl A3 l3.length d3 l3 rfl rfl (hown3.touch0 ht4) A4 (encT (S cp)).length d4 (encT (S cp)) rfl rfl hown4.rd (by omega) ?_
  intro A5 d5 w5 hown5 ht5 hf5
  have T5 : Touch [] w w5 := (T3.trans0 ht4).trans ht5 (fun x hx => .inr (hf3' x hx))
  obtain ⟨l, hl⟩ : ∃ l, l = l3 ++ encT (S cp) := ⟨_, rfl⟩
  have hln : l3.length + (encT (S cp)).length = l.length := by rw [hl, List.length_append]
  rw [← hl] at hown5
  rw [hln]
  have hl7 : l.length ≤ 900000000 := by omega
  rw [Hl3.out] at hl
  have Hl := Lib.hid hl
  clear hl hln hcv
  go_wp2_with fail
  refine (refFrame_any A5 d5 l.length l rfl (by omega) w5 hown5.rd).mono ?_
  rintro e w6 ⟨A6, d6, rfl, hown6, ht6, hf6⟩
  have hs5 := T5.size
  go_wp2
  go_ret
  unfold hdB
  rw [← Hl.out]
  exact ⟨A6, d6, rfl, hown6, T5.trans0 ht6, fun b hb => by have := hf6 b hb; omega⟩
end Go.Proofs.YtlcpljpeljoboaaDoor

/- segment.body: a group's bytes. For every slice of records. -/
namespace Go.Proofs.YtlcpljpeljoboaaDoor
open Go.RowKit

def encR (recs : List (List UInt8)) : List UInt8 := recs.flatMap fun s => encT (S s)
def gpB (recs : List (List UInt8)) : List UInt8 := frm (encI 2 ++ encI recs.length ++ encR recs)
theorem encR_take (recs : List (List UInt8)) (k : Nat) (h : k < recs.length) : encR (recs.take (k + 1)) = encR (recs.take k) ++ encT (S recs[k]) := by
  unfold encR; rw [List.take_succ_eq_append_getElem h, List.flatMap_append]; simp
theorem encR_le (recs : List (List UInt8)) (k : Nat) : (encR (recs.take k)).length ≤ (encR recs).length := by
  conv => rhs; rw [← List.take_append_drop k recs]
  unfold encR
  rw [List.flatMap_append, List.length_append]
  omega
theorem outS {w w1 w2 : World} {g : Nat} {A1 A2 : Option Addr} (t : Touch [] w w1) (hg : w.heap.size ≤ g) (f1 : ∀ b ∈ fpo A1, w.heap.size ≤ b) (t2 : Touch (g :: fpo A1) w1 w2) (f2 : ∀ b ∈ fpo A2, b ∈ fpo A1 ∨ w1.heap.size ≤ b) : Touch [] w w2 ∧ ∀ b ∈ fpo A2, w.heap.size ≤ b := by
  refine ⟨t.trans t2 (fun b hb => .inr ?_), fun b hb => ?_⟩
  · rcases List.mem_cons.1 hb with h | h
    · omega
    · exact f1 b h
  · rcases f2 b hb with h | h
    · exact f1 b h
    · have := t.size; omega

set_option maxRecDepth 100000 in
set_option maxHeartbeats 1600000 in
theorem body_any (A : Option Addr) (c n : Nat) (recs : List (List UInt8)) (hn : recs.length = n) (hb : (encR recs).length ≤ 800000000) (hn2 : n ≤ 100000000) (w : World) (h : BsAt w A recs) (hh : HalfAt w) :
    Calls Tryd.prog 48 #[.slice A n c] w fun e w' => ∃ A' c', e = .returned (.slice A' (gpB recs).length c') ∧ OwnB w' A' c' (gpB recs) ∧ Touch [] w w' ∧ ∀ b ∈ fpo A', w.heap.size ≤ b := by
  subst hn
  have hl1 := (encI_length 2).2
  have hl2 := (encI_length recs.length).2
  have ho := (show OutAt (w.alloc (.cells #[.slice none 0 0] 101)) w.heap.size none [] from ⟨0, heap_alloc_new w _, OwnB.nil _, by simp [fpo]⟩)
  have ta := (Touch.refl [] w).alloc (.cells #[.slice none 0 0] 101)
  have Ho := Lib.hid ho
  have Hh := Lib.hid hh
  clear ho
  go_enter Tryd.func48, Tryd.ntmps48
  go_wp2_with fail
  refine (outInt_any w.heap.size none [] 2 (by omega) (by omega) (by simp) _ Ho.out).mono ?_
  rintro e w1 ⟨rfl, A1, ho1, ht1, hf1⟩
  obtain ⟨T1, F1⟩ := outS ta (Nat.le_refl _) (by simp [fpo]) ht1 hf1
  go_wp2_with fail
  refine (outInt_any w.heap.size A1 ([] ++ encI 2) recs.length (by omega) (by omega) (by rw [List.nil_append]; omega) _ ho1).mono ?_
  rintro e w2 ⟨rfl, A2, ho2, ht2, hf2⟩
  obtain ⟨T2, F2⟩ := outS T1 (Nat.le_refl _) F1 ht2 hf2
  rw [List.nil_append] at ho2
  go_wp2_with fail
  go_loopw [15] (fun i wr => ∃ (k : Nat) (A' : Option Addr) (l : List UInt8), i = .int .i64 k ∧ k ≤ recs.length ∧ Hid (l = encI 2 ++ encI recs.length ++ encR (recs.take k)) ∧ OutAt wr w.heap.size A' l ∧ Touch [] w wr ∧ ∀ b ∈ fpo A', w.heap.size ≤ b) (fun i _ => recs.length - (intOf i).toNat)
  case atStart => exact ⟨0, A2, encI 2 ++ encI recs.length, rfl, by omega, Lib.hid (by simp [encR]), ho2, T2, F2⟩
  case round =>
    clear ho1 ho2 ht1 ht2 hf1 hf2 T1 T2 F1 F2
    obtain ⟨k, A', l, rfl, hk, Hl, hout, T, F⟩ := hrel
    have hll : l.length ≤ 800000018 := by
      rw [Hl.out, List.length_append, List.length_append]
      have := encR_le recs k
      omega
    by_cases hlt : k < recs.length
    · have hltI : decide ((k : Int) < (recs.length : Int)) = true := by simpa using hlt
      obtain ⟨ad, Ax, cx, rfl, hcell, hrd, -⟩ := (h.touch0 T).at_ k hlt
      have hsn := encR_take recs k hlt
      have hle := encR_le recs (k + 1)
      have hT := encT_length (S recs[k])
      rw [S_size] at hT
      rw [hsn, List.length_append] at hle
      obtain ⟨x, hx⟩ : ∃ x, x = recs[k] := ⟨_, rfl⟩
      rw [← hx] at hcell hrd hsn hle hT
      have hxl : x.length ≤ 800000000 := by omega
      have Hsn := Lib.hid hsn
      clear hsn hle hT hx
      have hcv := run_str_of cx rfl hrd
      go_wp2_with fail
      refine (outText_any w.heap.size A' l (S x) (by rw [S_size]; omega) _ hout).mono ?_
      rintro e w4 ⟨rfl, A4, ho4, ht4, hf4⟩
      obtain ⟨T4, F4⟩ := outS T (Nat.le_refl _) F ht4 hf4
      clear hcv
      go_wp2_with fail
      go_roundw
      case rel => exact ⟨k + 1, A4, l ++ encT (S x), by go_num, by omega, Lib.hid (by rw [Hsn.out, Hl.out]; simp), ho4, T4, F4⟩
      case measure => simp [intOf]; omega
    · obtain rfl : k = recs.length := by omega
      have hltI : decide ((recs.length : Int) < (recs.length : Int)) = false := by simp
      have hl := Hl.out
      rw [List.take_length] at hl
      have HL := Lib.hid hl
      clear hl
      go_wp2_with fail
      refine (outBytes_any w.heap.size A' l (by omega) _ hout).mono ?_
      rintro e w4 ⟨A4, c4, rfl, hown4, ht4, hf4⟩
      have T4 := T.trans0 ht4
      go_wp2_with fail
      refine (frame_any A4 c4 l.length l rfl (by omega) w4 hown4.rd (Hh.out.touch T4 (by simp))).mono ?_
      rintro e w5 ⟨A5, c5, rfl, hown5, ht5, hf5⟩
      have hsz := T4.size
      go_wp2
      go_ret
      unfold gpB
      rw [← HL.out]
      exact ⟨A5, c5, rfl, hown5, T4.trans0 ht5, fun b hb => by have := hf5 b hb; omega⟩
end Go.Proofs.YtlcpljpeljoboaaDoor

/- segment.head: a first frame's bytes. For every checkpoint. -/
namespace Go.Proofs.YtlcpljpeljoboaaDoor
open Go.RowKit

set_option maxRecDepth 100000 in
set_option maxHeartbeats 6400000 in
theorem hd_any (g : Int) (h1 : -9223372036854775808 ≤ g) (h2 : g ≤ 9223372036854775807) (A : Option Addr) (c n : Nat) (cp : List UInt8) (hn : cp.length = n) (hm : n ≤ 800000000) (w : World) (hr : RdB w A cp) (hh : HalfAt w) :
    Calls Tryd.prog 63 #[.int .i64 g, .slice A n c] w fun e w' => ∃ A' c', e = .returned (.slice A' (hdB g cp).length c') ∧ OwnB w' A' c' (hdB g cp) ∧ Touch [] w w' ∧ ∀ b ∈ fpo A', w.heap.size ≤ b := by
  subst hn
  have hl1 := encI_length 1
  have hl2 := encI_length g
  have hl3 := encT_length (S cp)
  have hl4 := encI_length ((S cp).size)
  rw [S_size] at hl3 hl4
  obtain ⟨l1, hx1⟩ : ∃ l, l = [] ++ encI 1 := ⟨_, rfl⟩
  obtain ⟨l2, hx2⟩ : ∃ l, l = l1 ++ encI g := ⟨_, rfl⟩
  obtain ⟨l3, hx3⟩ : ∃ l, l = l2 ++ encT (S cp) := ⟨_, rfl⟩
  have hb1 : l1.length ≤ 9 := by rw [hx1]; simpa using hl1.2
  have hb2 : l2.length ≤ 18 := by rw [hx2, List.length_append]; omega
  have hb3 : l3.length ≤ 880000000 := by rw [hx3, List.length_append]; omega
  have hL : hdB g cp = frm l3 := by rw [hx3, hx2, hx1]; rfl
  have ho := (show OutAt (w.alloc (.cells #[.slice none 0 0] 101)) w.heap.size none [] from ⟨0, heap_alloc_new w _, OwnB.nil _, by simp [fpo]⟩)
  have ta := (Touch.refl [] w).alloc (.cells #[.slice none 0 0] 101)
  have T0 := ta.drew
  have hoA := ho.touch ((Touch.refl [] _).drew) (by simp) (by simp)
  have hcv0 := run_str_of c rfl (Rd.touch0 hr T0)
  have C1 := Lib.hid (fun (W : World) (hW : OutAt W w.heap.size none []) => (outInt_any w.heap.size none [] 1 (by omega) (by omega) (by simp) W hW))
  rw [← hx1] at C1
  have C2 := Lib.hid (fun (A3 : Option Addr) (W : World) (hW : OutAt W w.heap.size A3 l1) => (outInt_any w.heap.size A3 l1 g h1 h2 (by omega) W hW))
  rw [← hx2] at C2
  have C3 := Lib.hid (fun (A3 : Option Addr) (W : World) (hW : OutAt W w.heap.size A3 l2) => (outText_any w.heap.size A3 l2 (S cp) (by rw [S_size]; omega) W hW))
  rw [← hx3] at C3
  have C4 := Lib.hid (fun (A3 : Option Addr) (W : World) (hW : OutAt W w.heap.size A3 l3) => (outBytes_any w.heap.size A3 l3 (by omega) W hW))
  have C5 := Lib.hid (fun (A6 : Option Addr) (c6 : Nat) (W : World) (hW : OwnB W A6 c6 l3) (T : Touch [] w W) => (frame_any A6 c6 l3.length l3 rfl (by omega) W hW.rd (hh.touch T (by simp))))
  have HL := Lib.hid hL
  have Hr := Lib.hid hr
  have HA := Lib.hid (And.intro hoA T0)
  clear hl1 hl2 hl3 hl4 hb1 hb2 hb3 hx1 hx2 hx3 hL ho ta T0 hoA hh hr h1 h2 hm
  go_enter Tryd.func63, Tryd.ntmps63
  go_wp2_with fail
  go_region_with (first
    | (go_at_call 60; refine (C2.out A3 _ H3.out.1).mono ?_; rintro e w4 ⟨rfl, A4, ho4, ht4, hf4⟩; have q4 := outS H3.out.2.1 (Nat.le_refl _) H3.out.2.2 ht4 hf4; have hcv4 := run_str_of c rfl (Rd.touch0 Hr.out q4.1); have H4 := Lib.hid (And.intro ho4 q4); clear ho4 ht4 hf4 q4)
    | (go_at_call 60; refine (C1.out _ HA.out.1).mono ?_; rintro e w3 ⟨rfl, A3, ho3, ht3, hf3⟩; have q3 := outS HA.out.2 (Nat.le_refl _) (by simp [fpo]) ht3 hf3; have hcv3 := run_str_of c rfl (Rd.touch0 Hr.out q3.1); have H3 := Lib.hid (And.intro ho3 q3); clear ho3 ht3 hf3 q3)
    | (go_at_call 61; refine (C3.out A4 _ H4.out.1).mono ?_; rintro e w5 ⟨rfl, A5, ho5, ht5, hf5⟩; have q5 := outS H4.out.2.1 (Nat.le_refl _) H4.out.2.2 ht5 hf5; have H5 := Lib.hid (And.intro ho5 q5); clear ho5 ht5 hf5 q5)
    | (go_at_call 62; refine (C4.out A5 _ H5.out.1).mono ?_; rintro e w6 ⟨A6, c6, rfl, hown6, ht6, hf6⟩; have H6 := Lib.hid (And.intro hown6 (H5.out.2.1.trans0 ht6)); clear hown6 ht6 hf6)
    | (go_at_call 58; refine (C5.out A6 c6 _ H6.out.1 H6.out.2).mono ?_; rintro e w7 ⟨A7, c7, rfl, hown7, ht7, hf7⟩; have H7 := Lib.hid (And.intro hown7 (And.intro ht7 hf7)); clear hown7 ht7 hf7))
  all_goals
    go_wp2
    go_ret
    have hsz := H6.out.2.size
    rw [HL.out]
    exact ⟨A7, c7, rfl, H7.out.1, H6.out.2.trans0 H7.out.2.1, fun b hb => by have := H7.out.2.2 b hb; omega⟩
end Go.Proofs.YtlcpljpeljoboaaDoor

/- A journal and its disk, as plain data; Log.lay: a segment anew, in a file. For every disk. -/
namespace Go.Proofs.YtlcpljpeljoboaaDoor
open Go.RowKit

theorem cmdR_done (r : DR) : (cmdR r).done ≤ r.done + 1 := by unfold cmdR; split <;> simp <;> omega
theorem pCut_done (V : Fl) (r : DR) (n m : Int) : (pCut V r n m).2.2.done ≤ r.done + 1 := by
  unfold pCut
  split
  · simp; omega
  · split
    · simp; omega
    · exact cmdR_done r
theorem pApp_done (V : Fl) (r : DR) (n : Int) (b : List UInt8) : (pApp V r n b).2.2.done ≤ r.done + 1 := by
  unfold pApp
  split
  · simp; omega
  · split
    · simp; omega
    · exact cmdR_done r
theorem pSync_done (V : Fl) (r : DR) (n : Int) : (pSync V r n).2.2.done ≤ r.done + 1 := by
  unfold pSync
  split
  · simp; omega
  · exact cmdR_done r
theorem pClr_done (V : Fl) (r : DR) (k : Nat) : (pClr V r k).2.2.done ≤ r.done + 1 := by
  unfold pClr
  split
  · simp; omega
  · exact pCut_done V r k 0

theorem hdB_len (g : Int) (cp : List UInt8) : (hdB g cp).length ≤ cp.length + 40 := by
  unfold hdB
  rw [frm_length, List.length_append, List.length_append, encT_length, S_size]
  have h1 := encI_length 1
  have h2 := encI_length g
  have h3 := encI_length (cp.length : Int)
  have h4 := encI_length (((encI 1).length + (encI g).length + ((encI (cp.length : Int)).length + cp.length) : Nat) : Int)
  omega

/-- a journal and its disk -/
structure LS where
  V : Fl
  r : DR
  l : LG
structure LsAt (w : World) (L g : Nat) (fp : List Nat) (s : LS) : Prop where
  lg : LogAt w L g s.l
  dk : DkAt w g fp s.V s.r
  ap : L ∉ fp
  hf : HalfAt w
  nh : 0 ∉ fp
  nl : L ≠ 0
def LsStep (L g : Nat) (fp : List Nat) (s : LS) (w w' : World) : Prop := ∃ fp', LsAt w' L g fp' s ∧ Touch (L :: fp) w w' ∧ ∀ b ∈ fp', b ∈ fp ∨ w.heap.size ≤ b

theorem HalfAt.lt {w : World} (h : HalfAt w) : 0 < w.heap.size := by
  have := World.block_lt_of_cell? w _ (h 0 (by omega))
  exact this
theorem LsAt.lt {w : World} {L g : Nat} {fp : List Nat} {s : LS} (h : LsAt w L g fp s) : L < w.heap.size := lt_of_block h.lg
theorem LsAt.step {w w' : World} {L g : Nat} {fp : List Nat} {s : LS} {V : Fl} {r : DR} (h : LsAt w L g fp s) (d : DkStep g fp V r w w') : LsStep L g fp ⟨V, r, s.l⟩ w w' := by
  obtain ⟨fp', h1, h2, h3⟩ := d
  have hl := h.lt
  have hh := h.hf.lt
  refine ⟨fp', ⟨h2.blk h.lg h.ap, h1, fun hm => ?_, h.hf.touch h2 h.nh, fun hm => ?_, h.nl⟩, h2.mono (fun b hb => .inl (by simp [hb])), h3⟩
  · rcases h3 _ hm with k | k
    · exact h.ap k
    · omega
  · rcases h3 _ hm with k | k
    · exact h.nh k
    · omega
theorem LsAt.setA {w w' : World} {L g : Nat} {fp : List Nat} {s : LS} {l : LG} (h : LsAt w L g fp s) (hl : LogAt w' L g l) (T : Touch [L] w w') : LsAt w' L g fp ⟨s.V, s.r, l⟩ :=
  ⟨hl, h.dk.step T (fun b hb hm => h.ap (by simp at hm; exact hm ▸ hb)), h.ap, h.hf.touch T (by simpa using fun e => h.nl e.symm), h.nh, h.nl⟩
theorem DkStep.cell {g : Nat} {fp : List Nat} {V : Fl} {r : DR} {w w' : World} (h : DkStep g fp V r w w') {a : Addr} {v : Value} (hc : w.cell? a = some v) (hn : a.block ∉ fp) : w'.cell? a = some v := by
  obtain ⟨_, _, T, _⟩ := h
  exact T.cell hc hn
theorem LsAt.setL {w w' : World} {L g : Nat} {fp : List Nat} {s : LS} {l : LG} (h : LsAt w L g fp s) (hl : LogAt w' L g l) (T : Touch [L] w w') : LsStep L g fp ⟨s.V, s.r, l⟩ w w' :=
  ⟨fp, ⟨hl, h.dk.step T (fun b hb hm => h.ap (by simp at hm; exact hm ▸ hb)), h.ap, h.hf.touch T (by simpa using fun e => h.nl e.symm), h.nh, h.nl⟩, T.mono (by simp), fun b hb => .inl hb⟩
theorem LsAt.keep {w w' : World} {L g : Nat} {fp : List Nat} {s : LS} (h : LsAt w L g fp s) (T : Touch [] w w') : LsStep L g fp s w w' := h.setL (T.blk h.lg (by simp)) (T.mono (by simp))
theorem LsAt.touch0 {w w' : World} {L g : Nat} {fp : List Nat} {s : LS} (h : LsAt w L g fp s) (T : Touch [] w w') : LsAt w' L g fp s :=
  ⟨T.blk h.lg (by simp), h.dk.step T (by simp), h.ap, h.hf.touch T (by simp), h.nh, h.nl⟩
theorem LsStep.trans {w w1 w2 : World} {L g : Nat} {fp fp1 : List Nat} {s : LS} (T : Touch (L :: fp) w w1) (hf : ∀ b ∈ fp1, b ∈ fp ∨ w.heap.size ≤ b) (h : LsStep L g fp1 s w1 w2) : LsStep L g fp s w w2 := by
  obtain ⟨fp', h1, h2, h3⟩ := h
  refine ⟨fp', h1, T.trans h2 (fun b hb => ?_), fun b hb => ?_⟩
  · rcases List.mem_cons.1 hb with rfl | h
    · exact .inl (by simp)
    · rcases hf b h with h | h
      · exact .inl (by simp [h])
      · exact .inr h
  · rcases h3 b hb with h | h
    · exact hf b h
    · exact .inr (Nat.le_trans T.size h)
theorem LsStep.pre0 {w w1 w2 : World} {L g : Nat} {fp : List Nat} {s : LS} (T : Touch [] w w1) (h : LsStep L g fp s w1 w2) : LsStep L g fp s w w2 := h.trans (T.mono (by simp)) (fun _ hb => .inl hb)
theorem LsStep.ofDrew {w w2 : World} {L g : Nat} {fp : List Nat} {s : LS} (h : LsStep L g fp s w.drew w2) : LsStep L g fp s w w2 := by
  obtain ⟨fp', h1, h2, h3⟩ := h
  exact ⟨fp', h1, h2.ofDrew, h3⟩

def lLay (s : LS) (k gen : Nat) (cp : List UInt8) : Int × LS :=
  if (pClr s.V s.r k).1 ≠ 0 then ((pClr s.V s.r k).1, ⟨(pClr s.V s.r k).2.1, (pClr s.V s.r k).2.2, s.l⟩) else
  if (pApp (pClr s.V s.r k).2.1 (pClr s.V s.r k).2.2 k (hdB gen cp)).1 ≠ 0 then ((pApp (pClr s.V s.r k).2.1 (pClr s.V s.r k).2.2 k (hdB gen cp)).1, ⟨(pApp (pClr s.V s.r k).2.1 (pClr s.V s.r k).2.2 k (hdB gen cp)).2.1, (pApp (pClr s.V s.r k).2.1 (pClr s.V s.r k).2.2 k (hdB gen cp)).2.2, s.l⟩) else
  if (pSync (pApp (pClr s.V s.r k).2.1 (pClr s.V s.r k).2.2 k (hdB gen cp)).2.1 (pApp (pClr s.V s.r k).2.1 (pClr s.V s.r k).2.2 k (hdB gen cp)).2.2 k).1 ≠ 0
  then ((pSync (pApp (pClr s.V s.r k).2.1 (pClr s.V s.r k).2.2 k (hdB gen cp)).2.1 (pApp (pClr s.V s.r k).2.1 (pClr s.V s.r k).2.2 k (hdB gen cp)).2.2 k).1, ⟨(pSync (pApp (pClr s.V s.r k).2.1 (pClr s.V s.r k).2.2 k (hdB gen cp)).2.1 (pApp (pClr s.V s.r k).2.1 (pClr s.V s.r k).2.2 k (hdB gen cp)).2.2 k).2.1, (pSync (pApp (pClr s.V s.r k).2.1 (pClr s.V s.r k).2.2 k (hdB gen cp)).2.1 (pApp (pClr s.V s.r k).2.1 (pClr s.V s.r k).2.2 k (hdB gen cp)).2.2 k).2.2, s.l⟩)
  else (0, ⟨(pSync (pApp (pClr s.V s.r k).2.1 (pClr s.V s.r k).2.2 k (hdB gen cp)).2.1 (pApp (pClr s.V s.r k).2.1 (pClr s.V s.r k).2.2 k (hdB gen cp)).2.2 k).2.1, (pSync (pApp (pClr s.V s.r k).2.1 (pClr s.V s.r k).2.2 k (hdB gen cp)).2.1 (pApp (pClr s.V s.r k).2.1 (pClr s.V s.r k).2.2 k (hdB gen cp)).2.2 k).2.2, { s.l with file := k, gen := gen, loose := false }⟩)
theorem lLay_clr {s : LS} {k gen : Nat} {cp : List UInt8} {e : Int} {V : Fl} {r : DR} (h : (e, V, r) = pClr s.V s.r k) (he : e ≠ 0) : lLay s k gen cp = (e, ⟨V, r, s.l⟩) := by
  unfold lLay; rw [← h, if_pos he]
theorem lLay_app {s : LS} {k gen : Nat} {cp : List UInt8} {e : Int} {V V2 : Fl} {r r2 : DR} (h : (0, V, r) = pClr s.V s.r k) (h2 : (e, V2, r2) = pApp V r k (hdB gen cp)) (he : e ≠ 0) : lLay s k gen cp = (e, ⟨V2, r2, s.l⟩) := by
  unfold lLay; rw [← h]; simp only [ne_eq, not_true_eq_false, if_false]; rw [← h2, if_pos he]
theorem lLay_syn {s : LS} {k gen : Nat} {cp : List UInt8} {e : Int} {V V2 V3 : Fl} {r r2 r3 : DR} (h : (0, V, r) = pClr s.V s.r k) (h2 : (0, V2, r2) = pApp V r k (hdB gen cp)) (h3 : (e, V3, r3) = pSync V2 r2 k) :
    lLay s k gen cp = (e, ⟨V3, r3, if e = 0 then { s.l with file := k, gen := gen, loose := false } else s.l⟩) := by
  unfold lLay; rw [← h]; simp only [ne_eq, not_true_eq_false, if_false]; rw [← h2]; simp only [not_true_eq_false, if_false]; rw [← h3]
  by_cases he : e = 0
  · subst he; rfl
  · rw [if_pos he, if_neg he]

set_option maxRecDepth 100000 in
set_option maxHeartbeats 6400000 in
theorem lay_any (L g : Nat) (fp : List Nat) (s : LS) (k gen : Nat) (hk : k < 4) (hgen : gen ≤ 9223372036854775807) (A : Option Addr) (c n : Nat) (cp : List UInt8) (hn : cp.length = n) (hm : n ≤ 800000000) (w : World) (h : LsAt w L g fp s) (hr : ∀ w', Touch fp w w' → RdB w' A cp) (hdone : s.r.done + 3 ≤ 1073741824) :
    Calls Tryd.prog 50 #[.pointer (some ⟨L, 0, none⟩), .int .i64 k, .int .i64 gen, .slice A n c] w fun e w' => e = .returned (.int .i64 (lLay s k gen cp).1) ∧ LsStep L g fp (lLay s k gen cp).2 w w' := by
  have c0 : w.cell? ⟨L, 0, none⟩ = some (.pointer (some ⟨g, 0, none⟩)) := (blk5 h.lg).1
  have H1 := clear_any g fp s.V s.r k hk w h.dk (by omega)
  have hd1 := pClr_done s.V s.r k
  obtain ⟨x, hx⟩ : ∃ x, x = pClr s.V s.r k := ⟨_, rfl⟩
  rw [← hx] at H1 hd1
  obtain ⟨e1, V1, r1⟩ := x
  simp only at H1 hd1
  have Hx := Lib.hid hx
  have C1 := Lib.hid H1
  have HL := Lib.hid (And.intro h hr)
  clear H1 hx h hr
  go_enter Tryd.func50, Tryd.ntmps50
  go_wp2_with fail
  refine C1.out.mono ?_
  rintro e w1 ⟨rfl, hs1⟩
  by_cases he1 : e1 = 0
  · subst he1
    obtain ⟨fp1, hA1, hT1, hF1⟩ := HL.out.1.step hs1
    obtain ⟨fp1', hdk1, hT1', -⟩ := hs1
    have hr1 : RdB w1.drew A cp := Rd.touch0 (HL.out.2 w1 hT1') ((Touch.refl [] w1).drew)
    have hA1d := hA1.touch0 ((Touch.refl [] w1).drew)
    have c1 : w1.drew.cell? ⟨L, 0, none⟩ = some (.pointer (some ⟨g, 0, none⟩)) := (blk5 hA1d.lg).1
    have C2 := Lib.hid (hd_any gen (by omega) (by omega) A c n cp hn hm w1.drew hr1 hA1d.hf)
    have hbl : (hdB gen cp).length ≤ 9223372036854775807 := by have := hdB_len gen cp; omega
    have hd2 := pApp_done V1 r1 k (hdB gen cp)
    have C3 := Lib.hid (fun (A' : Option Addr) (c' : Nat) (W : World) (T : Touch [] w1.drew W) (hW : OwnB W A' c' (hdB gen cp)) => append_dk g fp1 V1 r1 k A' c' (hdB gen cp) W (hA1d.touch0 T).dk hW.rd hbl (by omega))
    obtain ⟨b, hb⟩ : ∃ b, b = hdB gen cp := ⟨_, rfl⟩
    rw [← hb] at C2 C3 hd2
    obtain ⟨y, hy⟩ : ∃ y, y = pApp V1 r1 k b := ⟨_, rfl⟩
    rw [← hy] at C3 hd2
    obtain ⟨e2, V2, r2⟩ := y
    simp only at C3 hd2
    have Hy := Lib.hid (hb ▸ hy)
    have HA1 := Lib.hid (And.intro hA1d (And.intro hT1 hF1))
    clear hb hy hA1 hA1d hT1 hF1 hdk1 hT1' hr1 hbl c0
    go_wp2_with fail
    go_region_with (first
      | (go_at_call 63; refine C2.out.mono ?_; rintro e w3 ⟨A3, c3, rfl, hown3, ht3, hf3⟩; have c3' := ht3.cell c1 (by simp); have H3 := Lib.hid (And.intro hown3 ht3); clear hown3 ht3 hf3)
      | (go_at_call 9; refine (C3.out A3 c3 _ H3.out.2 H3.out.1).mono ?_; rintro e w4 ⟨rfl, hs4⟩; have H4 := Lib.hid hs4; clear hs4))
    all_goals
      have S4 : LsStep L g fp ⟨V2, r2, s.l⟩ w w4 := LsStep.trans HA1.out.2.1 HA1.out.2.2 (((HA1.out.1.touch0 H3.out.2).step H4.out).pre0 H3.out.2).ofDrew
      obtain ⟨fp4, hA4, hT4, hF4⟩ := S4
      have H14 := Lib.hid (And.intro hA4 (And.intro hT4 hF4))
      by_cases he2 : e2 = 0
      · subst he2
        have c4 := (blk5 hA4.lg)
        have C5 := sync_dk g fp4 V2 r2 k w4 hA4.dk (by omega)
        obtain ⟨z, hz⟩ : ∃ z, z = pSync V2 r2 k := ⟨_, rfl⟩
        rw [← hz] at C5
        obtain ⟨e3, V3, r3⟩ := z
        have Hz := Lib.hid hz
        have H5 := Lib.hid C5
        clear C5 hz hA4 hT4 hF4
        go_wp2_with fail
        refine H5.out.mono ?_
        rintro e w5 ⟨rfl, hs5⟩
        have S5 : LsStep L g fp ⟨V3, r3, s.l⟩ w w5 := LsStep.trans H14.out.2.1 H14.out.2.2 (H14.out.1.step hs5)
        by_cases he3 : e3 = 0
        · subst he3
          obtain ⟨fp5, hA5, hT5, hF5⟩ := S5
          obtain ⟨s0, s1, s2, s3, s4, z0, z1, z2, z3, z4, hl5⟩ := blk5 hA5.lg
          have hb5 := hA5.lg
          have H15 := Lib.hid (And.intro hA5 (And.intro hT5 hF5))
          clear hA5 hT5 hF5
          have b6 := set_blk hb5 1 (.int .i64 k)
          have b7 := set_blk b6 2 (.int .i64 gen)
          have b8 := set_blk b7 3 (.bool false)
          clear b6 b7 hb5 hs5
          have T8 : Touch [L] w5 (((w5.setCell ⟨L, 1, none⟩ (.int .i64 k)).setCell ⟨L, 2, none⟩ (.int .i64 gen)).setCell ⟨L, 3, none⟩ (.bool false)) := (((Touch.refl [L] w5).setCell (.inl (by simp)) _).setCell (.inl (by simp)) _).setCell (.inl (by simp)) _
          have H8 := Lib.hid (And.intro b8 T8)
          clear b8 T8
          go_wp2
          go_ret
          rw [lLay_syn Hx.out Hy.out Hz.out]
          exact ⟨rfl, LsStep.trans H15.out.2.1 H15.out.2.2 (H15.out.1.setL H8.out.1 H8.out.2)⟩
        · have he3b : (e3 != 0) = true := by rw [bne_iff_ne]; exact he3
          go_wp2
          go_ret
          rw [lLay_syn Hx.out Hy.out Hz.out, if_neg he3]
          exact ⟨rfl, S5⟩
      · have he2b : (e2 != 0) = true := by rw [bne_iff_ne]; exact he2
        go_wp2
        go_ret
        rw [lLay_app Hx.out Hy.out he2]
        exact ⟨rfl, fp4, H14.out.1, H14.out.2.1, H14.out.2.2⟩
  · have he1b : (e1 != 0) = true := by rw [bne_iff_ne]; exact he1
    go_wp2
    go_ret
    rw [lLay_clr Hx.out he1]
    exact ⟨rfl, HL.out.1.step hs1⟩
end Go.Proofs.YtlcpljpeljoboaaDoor
