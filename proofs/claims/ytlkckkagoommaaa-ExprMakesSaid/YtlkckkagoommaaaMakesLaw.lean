/- ExprMakes: the law. -/
import Derived.Test.YtlkckkagoommaaaBuildX
import Derived.Test.YtlkckkagoommaaaSmallX
import Derived.Test.YtlkckkagoommaaaEqX
import Derived.Test.YtlkckkagoommaaaSizeX
import Derived.Test.YtlkckkagoommaaaMakeX
import Derived.Test.YtlkckkagoommaaaCallX
import Derived.Test.YtlkckkagoommaaaAwakeX
import Derived.Test.YtlkckkagoommaaaAllocs
import Derived.Test.YtlkckkagoommaaaSetK
namespace Go.Proofs.Ytlkckkagoommaaa
open Go.RowKit
attribute [local go_sem ↓] Go.wp_at_zero Go.wp_at_succ

/-- an expression of one Arg, and of two, whose Args lie in a block just made -/
theorem ExP.of1 {n : Nat} {w : World} {x : XC} {a : TX n} {cs : Array Value} (nd : ND) (c : Nat) (hcs : cs.toList = xcE x) (hx : ExP xcE anyB n w x a) : ExP xcE anyB (n + 1) (w.alloc (.cells cs 33)) ⟨nd, some ⟨w.heap.size, 0, none⟩, 1, c⟩ (nd, [a]) :=
  have t := (Touch.refl [] w).alloc (.cells cs 33)
  ⟨rfl, rfl, fun _ _ => trivial, [x], rfl, RdK.one (enc := xcE) w _ x cs hcs, fun i h1 h2 => by
    match i, h1, h2 with
    | 0, _, _ => exact hx.touch0 t⟩
theorem ExP.of2 {n : Nat} {w : World} {x y : XC} {a b : TX n} {cs : Array Value} (nd : ND) (c : Nat) (hcs : cs.toList = xcE x ++ xcE y) (hx : ExP xcE anyB n w x a) (hy : ExP xcE anyB n w y b) : ExP xcE anyB (n + 1) (w.alloc (.cells cs 33)) ⟨nd, some ⟨w.heap.size, 0, none⟩, 2, c⟩ (nd, [a, b]) :=
  have t := (Touch.refl [] w).alloc (.cells cs 33)
  ⟨rfl, rfl, fun _ _ => trivial, [x, y], rfl, RdK.row (enc := xcE) w _ [x, y] cs (by rw [hcs]; simp), fun i h1 h2 => by
    match i, h1, h2 with
    | 0, _, _ => exact hx.touch0 t
    | 1, _, _ => exact hy.touch0 t⟩
theorem args2 {n : Nat} {w : World} {x y : XC} {a b : TX n} {cs : Array Value} (hcs : cs.toList = xcE x ++ xcE y) (hx : ExP xcE anyB n w x a) (hy : ExP xcE anyB n w y b) : ArgsP xcE anyB n (w.alloc (.cells cs 33)) (some ⟨w.heap.size, 0, none⟩) [a, b] :=
  (ExP.of2 ⟨0, S [], ⟨0, 0, S []⟩, S []⟩ 2 hcs hx hy).args.2.2
/-- where the Args' cells lie -/
theorem own_cell {base n : Nat} {w : World} {B : Option Addr} {c : Nat} {args : List (TX n)} (h : OwnX 33 xcE base n w B c args) (i : Nat) (hi : i < args.length) :
    ∃ g s, B = some ⟨g, 0, none⟩ ∧ base ≤ g ∧ g < w.heap.size ∧ w.cell? ⟨g, i * 7 + 1, none⟩ = some (.string s) ∧ w.frozen? ⟨g, i * 7 + 1, none⟩ = false := by
  obtain ⟨xs, h1, h2, h3, _⟩ := h
  have hix : i < xs.length := by omega
  rcases h2.head with ⟨_, e, _⟩ | ⟨g, rfl⟩
  · rw [e] at hix; simp at hix
  obtain ⟨ad, b, off, e1, e2, _, e3⟩ := RdK.at_ h2.rd 7 xcE_length (by omega) i hix
  cases e1
  have e0 : (⟨g, 0, none⟩ : Addr).add (i * 7) = ⟨g, i * 7, none⟩ := by unfold Addr.add; split <;> simp_all
  rw [e0] at e2
  cases e2
  exact ⟨g, xs[i].nd.name, rfl, h3 g (by simp [fpo]), h2.lt g (by simp [fpo]), e3 1 _ rfl, World.ownsRow.frozenAt h2 (i * 7 + 1)⟩
/-- the row, whatever its texts are -/
def RowX (w : World) (B : Option Addr) (c m : Nat) : Prop := ∃ xs : List XC, xs.length = m ∧ OwnK 33 7 xcE w B c xs
theorem RowX.cell {w : World} {B : Option Addr} {c m : Nat} (h : RowX w B c m) (i : Nat) (hi : i < m) : ∃ g s, B = some ⟨g, 0, none⟩ ∧ g < w.heap.size ∧ w.cell? ⟨g, i * 7 + 1, none⟩ = some (.string s) ∧ w.frozen? ⟨g, i * 7 + 1, none⟩ = false ∧ ∀ t, RowX (w.setCell ⟨g, i * 7 + 1, none⟩ (.string t)) B c m := by
  obtain ⟨xs, h1, h2⟩ := h
  have hix : i < xs.length := by omega
  rcases h2.head with ⟨_, e, _⟩ | ⟨g, rfl⟩
  · rw [e] at hix; simp at hix
  obtain ⟨ad, b, off, e1, e2, _, e3⟩ := RdK.at_ h2.rd 7 xcE_length (by omega) i hix
  cases e1
  have e0 : (⟨g, 0, none⟩ : Addr).add (i * 7) = ⟨g, i * 7, none⟩ := by unfold Addr.add; split <;> simp_all
  rw [e0] at e2
  cases e2
  refine ⟨g, xs[i].nd.name, rfl, h2.lt g (by simp [fpo]), e3 1 _ rfl, World.ownsRow.frozenAt h2 (i * 7 + 1), fun t => ?_⟩
  refine ⟨xs.set i ⟨{ xs[i].nd with name := t }, xs[i].A, xs[i].n, xs[i].c⟩, by rw [List.length_set, h1], ?_⟩
  exact OwnK.set h2 xcE_length i hix 1 (by omega) (.string t) _ rfl
theorem RowX.touch {w w' : World} {B : Option Addr} {c m : Nat} {fp : List Nat} (h : RowX w B c m) (t : Touch fp w w') (hn : ∀ b ∈ fpo B, b ∉ fp) : RowX w' B c m := by
  obtain ⟨xs, h1, h2⟩ := h
  exact ⟨xs, h1, h2.touch t hn⟩
theorem RowX.touch0 {w w' : World} {B : Option Addr} {c m : Nat} (h : RowX w B c m) (t : Touch [] w w') : RowX w' B c m := h.touch t (by simp)
theorem RowX.of {base n : Nat} {w : World} {B : Option Addr} {c m : Nat} {args : List (TX n)} (h : OwnX 33 xcE base n w B c args) (hm : m = args.length) : RowX w B c m := by
  obtain ⟨xs, h1, h2, _⟩ := h
  exact ⟨xs, by rw [h1, hm], h2⟩

set_option maxRecDepth 100000 in
set_option maxHeartbeats 25600000 in
theorem makes_law (A : Option Addr) (cap len : Nat) (l : List PL) (hl : l.length = len) (hc : len ≤ cap) (name : ByteArray) (n : Int) (w : World) (h : PlsAt w A l) (hb : len ≤ 9223372036854775807) :
    Calls Try.prog 7 #[.slice A len cap, .string name, .int .i64 n] w fun e w' => e = .returned (.bool true) ∧ Touch [] w w' := by
  have Haw := Lib.hid fun w' => awakeX_any w'
  have hsl := fun w' (t : Touch [] w w') => small4_any A cap len l hl w' (h.touch0 t) hb
  rcases hs : smallL l with _ | _
  · rw [hs] at hsl
    have Hsl := Lib.hid hsl
    clear hsl hs
    go_enter Try.func7, Try.ntmps7
    go_wp2_with fail
    refine (Hsl.out _ (Touch.refl _ _)).mono ?_
    rintro e w1 ⟨rfl, u1⟩
    go_wp2_with fail
    refine (Haw.out _).mono ?_
    rintro e w2 ⟨rfl, u2⟩
    go_wp2_with fail
    go_ret
    exact ⟨rfl, u1.trans0 u2⟩
  obtain ⟨_, hl0, hl3⟩ := smallL_true hs
  rw [hs] at hsl
  have Hsl := Lib.hid hsl
  clear hsl hs
  by_cases h60 : 60 < len
  · have hI : (60 : Int) < (len : Int) := by omega
    go_enter Try.func7, Try.ntmps7
    go_wp2_with fail
    refine (Hsl.out _ (Touch.refl _ _)).mono ?_
    rintro e w1 ⟨rfl, u1⟩
    go_wp2_with fail
    refine (Haw.out _).mono ?_
    rintro e w2 ⟨rfl, u2⟩
    go_wp2_with fail
    go_ret
    exact ⟨rfl, u1.trans0 u2⟩
  have hI : ¬ (60 : Int) < (len : Int) := by omega
  by_cases h50 : 50 < name.size
  · have hJ : (50 : Int) < (name.size : Int) := by omega
    go_enter Try.func7, Try.ntmps7
    go_wp2_with fail
    refine (Hsl.out _ (Touch.refl _ _)).mono ?_
    rintro e w1 ⟨rfl, u1⟩
    go_wp2_with fail
    refine (Haw.out _).mono ?_
    rintro e w2 ⟨rfl, u2⟩
    go_wp2_with fail
    go_ret
    exact ⟨rfl, u1.trans0 u2⟩
  have hJ : ¬ (50 : Int) < (name.size : Int) := by omega
  have hne : l ≠ [] := fun q => by rw [q] at hl0; simp at hl0
  have Hb := Lib.hid fun w' (t : Touch [] w w') => build_own 60 l A len cap 0 w' hl hc (by omega) (by omega) rfl (h.touch0 t)
  have hsa : sizeX 61 (buildX 60 l).1 ≤ 300 := by rw [buildX_size]; have := buildX_le 60 l hne; omega
  obtain ⟨ta, hta⟩ : ∃ r, r = (buildX 60 l).1 := ⟨_, rfl⟩
  obtain ⟨nb, hnb⟩ : ∃ r, r = (buildX 60 l).2 := ⟨_, rfl⟩
  rw [← hta] at Hb hsa
  rw [← hnb] at Hb
  have hszu : sizeX 62 ((⟨3, ⟨#[]⟩, ⟨0, 0, ⟨#[]⟩⟩, name⟩, [ta]) : TX 62) = 1 + sizeX 61 ta := by show 1 + (sizeX 61 ta + 0) = _; omega
  have hszb : sizeX 62 ((⟨4, ⟨#[]⟩, ⟨0, 0, ⟨#[]⟩⟩, name⟩, [ta, ((⟨2, ⟨#[]⟩, ofV n, ⟨#[]⟩⟩, []) : TX 61)]) : TX 62) = 2 + sizeX 61 ta := by show 1 + (sizeX 61 ta + (1 + 0 + 0)) = _; omega
  have hszc : sizeX 62 ((⟨5, name, ⟨0, 0, ⟨#[]⟩⟩, ⟨#[]⟩⟩, [ta, ((⟨1, name, ⟨0, 0, ⟨#[]⟩⟩, ⟨#[]⟩⟩, []) : TX 61)]) : TX 62) = 2 + sizeX 61 ta := by show 1 + (sizeX 61 ta + (1 + 0 + 0)) = _; omega
  obtain ⟨tu, htu⟩ : ∃ r, r = ((⟨3, ⟨#[]⟩, ⟨0, 0, ⟨#[]⟩⟩, name⟩, [ta]) : TX 62) := ⟨_, rfl⟩
  obtain ⟨tb, htb⟩ : ∃ r, r = ((⟨4, ⟨#[]⟩, ⟨0, 0, ⟨#[]⟩⟩, name⟩, [ta, ((⟨2, ⟨#[]⟩, ofV n, ⟨#[]⟩⟩, []) : TX 61)]) : TX 62) := ⟨_, rfl⟩
  obtain ⟨tc, htc⟩ : ∃ r, r = ((⟨5, name, ⟨0, 0, ⟨#[]⟩⟩, ⟨#[]⟩⟩, [ta, ((⟨1, name, ⟨0, 0, ⟨#[]⟩⟩, ⟨#[]⟩⟩, []) : TX 61)]) : TX 62) := ⟨_, rfl⟩
  rw [← htu] at hszu
  rw [← htb] at hszb
  rw [← htc] at hszc
  have Htu := Lib.hid htu; have Htb := Lib.hid htb; have Htc := Lib.hid htc
  have Hequ := Lib.hid ((eqX_iff 62 tu tu).2 rfl)
  have Heqb := Lib.hid ((eqX_iff 62 tb tb).2 rfl)
  have Heqc := Lib.hid ((eqX_iff 62 tc tc).2 rfl)
  have Hsa := Lib.hid (show sizeX 61 ta ≤ 1000000 by omega)
  have Hsa2 := Lib.hid (show sizeX 61 ta ≤ 300 by omega)
  obtain ⟨sz, hsz⟩ : ∃ r, r = sizeX 61 ta := ⟨_, rfl⟩
  have Hsz := Lib.hid hsz
  rw [← hsz] at hsa hszu hszb hszc
  have Hszu := Lib.hid hszu; have Hszb := Lib.hid hszb; have Hszc := Lib.hid hszc
  clear hta hnb hne hl0 hl3 h60 h50 htu htb htc hszu hszb hszc hsz
  go_enter Try.func7, Try.ntmps7
  go_wp2_with fail
  refine (Hsl.out _ (Touch.refl _ _)).mono ?_
  rintro e w1 ⟨rfl, u1⟩
  go_wp2_with fail
  refine (Hb.out _ u1).mono ?_
  rintro e w2 ⟨x, rfl, hx, hox, u2⟩
  have T2 := u1.trans0 u2
  have hmx := hx.args.2.1
  have hrow := RowX.of hox rfl
  rw [← hmx] at hrow
  have hB1 : ∀ b ∈ fpo x.A, b < w2.heap.size := fun b hb => (hox.lt b hb).2
  have hBlo : ∀ b ∈ fpo x.A, w1.heap.size ≤ b := fun b hb => (hox.lt b hb).1
  replace hx := hx.any
  obtain ⟨⟨k1, nm1, ⟨vk1, vn1, vt1⟩, op1⟩, B1, m1, c1⟩ := x
  dsimp only at hrow hB1 hBlo hmx
  have su1 := u1.size
  have hm1 : m1 ≤ 300 := by
    have h1 := len_le_sum 60 ta.2
    have h2 : sizeX 61 ta = 1 + sumX 60 ta.2 := sizeX_succ 60 ta
    rw [← hmx] at h1
    have h3 := Hsz.out
    omega
  dsimp only [XC.val]
  obtain ⟨D, hD⟩ : ∃ D, D = (w2.alloc (.cells #[.int .i64 k1, .string nm1, .int .i64 vk1, .int .i64 vn1, .string vt1, .string op1, .slice B1 m1 c1] 33)).drew := ⟨_, rfl⟩
  have tD : Touch [] w2 D := by rw [hD]; exact ((Touch.refl [] w2).alloc (.cells #[.int .i64 k1, .string nm1, .int .i64 vk1, .int .i64 vn1, .string vt1, .string op1, .slice B1 m1 c1] 33)).drew
  have hbx : D.heap[w2.heap.size]? = some (.cells #[.int .i64 k1, .string nm1, .int .i64 vk1, .int .i64 vn1, .string vt1, .string op1, .slice B1 m1 c1] 33) := by rw [hD]; exact heap_alloc_new w2 (.cells #[.int .i64 k1, .string nm1, .int .i64 vk1, .int .i64 vn1, .string vt1, .string op1, .slice B1 m1 c1] 33)
  have hDs : D.heap.size = w2.heap.size + 1 := by rw [hD]; exact World.size_alloc _ _
  have hxD := hx.touch0 tD
  obtain ⟨a0, a1, a2, a3, a4, a5, a6, _⟩ := blk7 hbx
  have HD := Lib.hid hD
  have Hbx := Lib.hid hbx
  clear hD hbx hx hox hmx
  go_wp2_with fail
  refine wp_region_held_drew (S := fun w' => w'.cell? ⟨w2.heap.size, 0, none⟩ = some (.int .i64 k1) ∧ w'.cell? ⟨w2.heap.size, 1, none⟩ = some (.string nm1) ∧ w'.cell? ⟨w2.heap.size, 2, none⟩ = some (.int .i64 vk1) ∧ w'.cell? ⟨w2.heap.size, 3, none⟩ = some (.int .i64 vn1) ∧ w'.cell? ⟨w2.heap.size, 4, none⟩ = some (.string vt1) ∧ w'.cell? ⟨w2.heap.size, 5, none⟩ = some (.string op1) ∧ w'.cell? ⟨w2.heap.size, 6, none⟩ = some (.slice B1 m1 c1)) (by kernel_rfl) (by rw [← HD.out]; exact ⟨a0, a1, a2, a3, a4, a5, a6⟩) (fun hHeld => ?_)
  rw [← HD.out]
  rw [← HD.out] at hHeld
  refine take_d (i := 0) (d := 35) (v := ?_) rfl rfl (by kernel_rfl) (by kernel_rfl) (by kernel_rfl) (fun _ _ _ h => h) (Or.inl ⟨by rfl, ?_⟩) hHeld ?_
  rotate_left
  · intro w hSw; (try dsimp only at hSw); go_simp; (try with_reducible rfl)
  try simp only [Act.put, List.setIfInBounds_toArray, List.set_cons_zero, List.set_cons_succ]
  refine take_d (i := 1) (d := 36) (v := ?_) rfl rfl (by kernel_rfl) (by kernel_rfl) (by kernel_rfl) (fun _ _ _ h => h) (Or.inl ⟨by rfl, ?_⟩) hHeld ?_
  rotate_left
  · intro w hSw; (try dsimp only at hSw); go_simp; (try with_reducible rfl)
  try simp only [Act.put, List.setIfInBounds_toArray, List.set_cons_zero, List.set_cons_succ]
  refine take_d (i := 3) (d := 38) (v := ?_) rfl rfl (by kernel_rfl) (by kernel_rfl) (by kernel_rfl) (fun _ _ _ h => h) (Or.inl ⟨by rfl, ?_⟩) hHeld ?_
  rotate_left
  · intro w hSw; (try dsimp only at hSw); go_simp; (try with_reducible rfl)
  try simp only [Act.put, List.setIfInBounds_toArray, List.set_cons_zero, List.set_cons_succ]
  refine take_d (i := 4) (d := 39) (v := ?_) rfl rfl (by kernel_rfl) (by kernel_rfl) (by kernel_rfl) (fun _ _ _ h => h) (Or.inl ⟨by rfl, ?_⟩) hHeld ?_
  rotate_left
  · intro w hSw; (try dsimp only at hSw); go_simp; (try with_reducible rfl)
  try simp only [Act.put, List.setIfInBounds_toArray, List.set_cons_zero, List.set_cons_succ]
  refine take_d (i := 5) (d := 40) (v := ?_) rfl rfl (by kernel_rfl) (by kernel_rfl) (by kernel_rfl) (fun _ _ _ h => h) (Or.inl ⟨by rfl, ?_⟩) hHeld ?_
  rotate_left
  · intro w hSw; (try dsimp only at hSw); go_simp; (try with_reducible rfl)
  try simp only [Act.put, List.setIfInBounds_toArray, List.set_cons_zero, List.set_cons_succ]
  refine take_d (i := 9) (d := 44) (v := ?_) rfl rfl (by kernel_rfl) (by kernel_rfl) (by kernel_rfl) (fun _ _ _ h => h) (Or.inl ⟨by rfl, ?_⟩) hHeld ?_
  rotate_left
  · intro w hSw; (try dsimp only at hSw); go_simp; (try with_reducible rfl)
  try simp only [Act.put, List.setIfInBounds_toArray, List.set_cons_zero, List.set_cons_succ]
  refine take_d (i := 10) (d := 45) (v := ?_) rfl rfl (by kernel_rfl) (by kernel_rfl) (by kernel_rfl) (fun _ _ _ h => h) (Or.inl ⟨by rfl, ?_⟩) hHeld ?_
  rotate_left
  · intro w hSw; (try dsimp only at hSw); go_simp; (try with_reducible rfl)
  try simp only [Act.put, List.setIfInBounds_toArray, List.set_cons_zero, List.set_cons_succ]
  refine take_d (i := 11) (d := 46) (v := ?_) rfl rfl (by kernel_rfl) (by kernel_rfl) (by kernel_rfl) (fun _ _ _ h => h) (Or.inl ⟨by rfl, ?_⟩) hHeld ?_
  rotate_left
  · intro w hSw; (try dsimp only at hSw); go_simp; (try with_reducible rfl)
  try simp only [Act.put, List.setIfInBounds_toArray, List.set_cons_zero, List.set_cons_succ]
  refine al3_begin (m := 10) (fun g => w2.heap.size < g) (.cells #[.int .i64 0, .string ⟨#[]⟩, .int .i64 0, .int .i64 0, .string ⟨#[]⟩, .string ⟨#[]⟩, .slice none 0 0] 33) 9 10 11 (fun b1 b2 b3 => #[true, true, false, true, true, true, false, false, false, true, true, true, false, false, false, b1, b2, b3, false, false, false]) (by kernel_rfl) rfl ?_
  try simp only [Act.put, List.setIfInBounds_toArray, List.set_cons_zero, List.set_cons_succ]
  refine al3_phase (m := 9) (N := (fun g => w2.heap.size < g)) (z := (.cells #[.int .i64 0, .string ⟨#[]⟩, .int .i64 0, .int .i64 0, .string ⟨#[]⟩, .string ⟨#[]⟩, .slice none 0 0] 33)) (i1 := 15) (i2 := 16) (i3 := 17) (d1 := 9) (d2 := 10) (d3 := 11) 2 (W := D) (by intro a w K h; refine wpOp_step rfl (fun K' hK => ?_); go_simp; exact hK _ _ h) (by intro a w K h; refine wpOp_step rfl (fun K' hK => ?_); go_simp; exact hK _ _ h) (by intro a w K h; refine wpOp_step rfl (fun K' hK => ?_); go_simp; exact hK _ _ h) rfl (by intros; rfl) (by intros; rfl) (by intros; rfl) (by intros; rfl) (by intros; rfl) (by intros; rfl) (by rintro (_ | _) (_ | _) (_ | _) <;> kernel_rfl) (fun g hg => by rw [hDs] at hg; omega) (fun w' t => ?_) ?_
  · have t' := (Touch.refl [] D).trans0 t
    exact ⟨t'.cell a0 (by simp), t'.cell a1 (by simp), t'.cell a2 (by simp), t'.cell a3 (by simp), t'.cell a4 (by simp), t'.cell a5 (by simp), t'.cell a6 (by simp)⟩
  intro b1 b2 b3 v1 v2 v3 y0 al t_0 K hK
  have T_0 := (Touch.refl [] D).trans0 t_0
  dsimp only
  go_simp
  go_at_call 30
  refine (unaryX_any 61 name ta ⟨⟨k1, nm1, ⟨vk1, vn1, vt1⟩, op1⟩, B1, m1, c1⟩ y0 (hxD.touch0 T_0) Hsa.out).mono ?_
  rintro e wu ⟨xu, rfl, hu, tu_⟩
  rw [← Htu.out] at hu
  obtain ⟨⟨k2, nm2, ⟨vk2, vn2, vt2⟩, op2⟩, B2, m2, c2⟩ := xu
  dsimp only [XC.val]
  (try go_wp2_with fail)
  have V_0 := T_0.trans0 tu_
  have al' := al.next (N' := (fun g => w2.heap.size < g ∧ ¬ Fr y0.heap.size wu g)) tu_ (fun g hg hl => ⟨hg, fun hf => by have := hf.1; omega⟩)
  refine hK.out _ _ ⟨V_0.cell a0 (by simp), V_0.cell a1 (by simp), V_0.cell a2 (by simp), V_0.cell a3 (by simp), V_0.cell a4 (by simp), V_0.cell a5 (by simp), V_0.cell a6 (by simp)⟩ (fun _hH => ?_)
  clear hK K al t_0 _hH
  try simp only [Act.put, List.setIfInBounds_toArray, List.set_cons_zero, List.set_cons_succ]
  have al := al'
  clear al'
  revert b1 b2 b3 v1 v2 v3
  refine al3_phase (m := 8) (N := (fun g => w2.heap.size < g ∧ ¬ Fr y0.heap.size wu g)) (z := (.cells #[.int .i64 0, .string ⟨#[]⟩, .int .i64 0, .int .i64 0, .string ⟨#[]⟩, .string ⟨#[]⟩, .slice none 0 0] 33)) (i1 := 15) (i2 := 16) (i3 := 17) (d1 := 9) (d2 := 10) (d3 := 11) 6 (W := wu) (by intro a w K h; refine wpOp_step rfl (fun K' hK => ?_); go_simp; exact hK _ _ h) (by intro a w K h; refine wpOp_step rfl (fun K' hK => ?_); go_simp; exact hK _ _ h) (by intro a w K h; refine wpOp_step rfl (fun K' hK => ?_); go_simp; exact hK _ _ h) rfl (by intros; rfl) (by intros; rfl) (by intros; rfl) (by intros; rfl) (by intros; rfl) (by intros; rfl) (by rintro (_ | _) (_ | _) (_ | _) <;> kernel_rfl) (fun g hg => ⟨by have := V_0.size; omega, fun hf => by have := hf.2; omega⟩) (fun w' t => ?_) ?_
  · have t' := V_0.trans0 t
    exact ⟨t'.cell a0 (by simp), t'.cell a1 (by simp), t'.cell a2 (by simp), t'.cell a3 (by simp), t'.cell a4 (by simp), t'.cell a5 (by simp), t'.cell a6 (by simp)⟩
  intro b1 b2 b3 v1 v2 v3 y1 al t_1 K hK
  have T_1 := V_0.trans0 t_1
  dsimp only
  go_simp
  go_at_call 23
  refine (of_any n y1).mono ?_
  rintro e wo ⟨rfl, to_⟩
  dsimp only [VD.val, ofV, S]
  (try go_wp2_with fail)
  have V_1 := T_1.trans0 to_
  have al' := al.next (N' := (fun g => w2.heap.size < g ∧ ¬ Fr y0.heap.size wu g)) to_ (fun g hg _ => hg)
  refine hK.out _ _ ⟨V_1.cell a0 (by simp), V_1.cell a1 (by simp), V_1.cell a2 (by simp), V_1.cell a3 (by simp), V_1.cell a4 (by simp), V_1.cell a5 (by simp), V_1.cell a6 (by simp)⟩ (fun _hH => ?_)
  have t_1x := t_1
  clear hK K al t_1 _hH
  try simp only [Act.put, List.setIfInBounds_toArray, List.set_cons_zero, List.set_cons_succ]
  have al := al'
  clear al'
  revert b1 b2 b3 v1 v2 v3
  refine al3_phase (m := 7) (N := (fun g => w2.heap.size < g ∧ ¬ Fr y0.heap.size wu g)) (z := (.cells #[.int .i64 0, .string ⟨#[]⟩, .int .i64 0, .int .i64 0, .string ⟨#[]⟩, .string ⟨#[]⟩, .slice none 0 0] 33)) (i1 := 15) (i2 := 16) (i3 := 17) (d1 := 9) (d2 := 10) (d3 := 11) 7 (W := wo) (by intro a w K h; refine wpOp_step rfl (fun K' hK => ?_); go_simp; exact hK _ _ h) (by intro a w K h; refine wpOp_step rfl (fun K' hK => ?_); go_simp; exact hK _ _ h) (by intro a w K h; refine wpOp_step rfl (fun K' hK => ?_); go_simp; exact hK _ _ h) rfl (by intros; rfl) (by intros; rfl) (by intros; rfl) (by intros; rfl) (by intros; rfl) (by intros; rfl) (by rintro (_ | _) (_ | _) (_ | _) <;> kernel_rfl) (fun g hg => ⟨by have := V_1.size; omega, fun hf => by have := hf.2; have := t_1x.size; have := to_.size; omega⟩) (fun w' t => ?_) ?_
  · have t' := V_1.trans0 t
    exact ⟨t'.cell a0 (by simp), t'.cell a1 (by simp), t'.cell a2 (by simp), t'.cell a3 (by simp), t'.cell a4 (by simp), t'.cell a5 (by simp), t'.cell a6 (by simp)⟩
  intro b1 b2 b3 v1 v2 v3 y2 al t_2 K hK
  have T_2 := V_1.trans0 t_2
  dsimp only
  go_simp
  go_at_call 18
  refine (constX_any 60 (ofV n) y2).mono ?_
  rintro e wk ⟨xk, rfl, hk, tk_⟩
  obtain ⟨⟨k3, nm3, ⟨vk3, vn3, vt3⟩, op3⟩, B3, m3, c3⟩ := xk
  dsimp only [XC.val]
  (try go_wp2_with fail)
  have V_2 := T_2.trans0 tk_
  have al' := al.next (N' := (fun g => w2.heap.size < g ∧ ¬ Fr y0.heap.size wu g)) tk_ (fun g hg _ => hg)
  refine hK.out _ _ ⟨V_2.cell a0 (by simp), V_2.cell a1 (by simp), V_2.cell a2 (by simp), V_2.cell a3 (by simp), V_2.cell a4 (by simp), V_2.cell a5 (by simp), V_2.cell a6 (by simp)⟩ (fun _hH => ?_)
  have t_2x := t_2
  clear hK K al t_2 _hH
  try simp only [Act.put, List.setIfInBounds_toArray, List.set_cons_zero, List.set_cons_succ]
  have al := al'
  clear al'
  revert b1 b2 b3 v1 v2 v3
  refine al3_phase (m := 6) (N := (fun g => w2.heap.size < g ∧ ¬ Fr y0.heap.size wu g)) (z := (.cells #[.int .i64 0, .string ⟨#[]⟩, .int .i64 0, .int .i64 0, .string ⟨#[]⟩, .string ⟨#[]⟩, .slice none 0 0] 33)) (i1 := 15) (i2 := 16) (i3 := 17) (d1 := 9) (d2 := 10) (d3 := 11) 8 (W := wk) (by intro a w K h; refine wpOp_step rfl (fun K' hK => ?_); go_simp; exact hK _ _ h) (by intro a w K h; refine wpOp_step rfl (fun K' hK => ?_); go_simp; exact hK _ _ h) (by intro a w K h; refine wpOp_step rfl (fun K' hK => ?_); go_simp; exact hK _ _ h) rfl (by intros; rfl) (by intros; rfl) (by intros; rfl) (by intros; rfl) (by intros; rfl) (by intros; rfl) (by rintro (_ | _) (_ | _) (_ | _) <;> kernel_rfl) (fun g hg => ⟨by have := V_2.size; omega, fun hf => by have := hf.2; have := t_1x.size; have := to_.size; have := t_2x.size; have := tk_.size; omega⟩) (fun w' t => ?_) ?_
  · have t' := V_2.trans0 t
    exact ⟨t'.cell a0 (by simp), t'.cell a1 (by simp), t'.cell a2 (by simp), t'.cell a3 (by simp), t'.cell a4 (by simp), t'.cell a5 (by simp), t'.cell a6 (by simp)⟩
  intro b1 b2 b3 v1 v2 v3 y3 al t_3 K hK
  have T_3 := V_2.trans0 t_3
  dsimp only
  go_simp
  go_at_call 21
  refine (binaryX_any 61 name ta _ ⟨⟨k1, nm1, ⟨vk1, vn1, vt1⟩, op1⟩, B1, m1, c1⟩ ⟨⟨k3, nm3, ⟨vk3, vn3, vt3⟩, op3⟩, B3, m3, c3⟩ y3 (hxD.touch0 T_3) (hk.any.touch0 t_3) Hsa.out (by show 1 + 0 ≤ _; omega)).mono ?_
  rintro e wb ⟨xb, rfl, hbb, tb_⟩
  rw [← Htb.out] at hbb
  obtain ⟨⟨k4, nm4, ⟨vk4, vn4, vt4⟩, op4⟩, B4, m4, c4⟩ := xb
  dsimp only [XC.val]
  (try go_wp2_with fail)
  have V_3 := T_3.trans0 tb_
  have al' := al.next (N' := (fun g => (w2.heap.size < g ∧ ¬ Fr y0.heap.size wu g) ∧ ¬ Fr y3.heap.size wb g)) tb_ (fun g hg hl => ⟨hg, fun hf => by have := hf.1; omega⟩)
  refine hK.out _ _ ⟨V_3.cell a0 (by simp), V_3.cell a1 (by simp), V_3.cell a2 (by simp), V_3.cell a3 (by simp), V_3.cell a4 (by simp), V_3.cell a5 (by simp), V_3.cell a6 (by simp)⟩ (fun _hH => ?_)
  have t_3x := t_3
  clear hK K al t_3 _hH
  try simp only [Act.put, List.setIfInBounds_toArray, List.set_cons_zero, List.set_cons_succ]
  have al := al'
  clear al'
  revert b1 b2 b3 v1 v2 v3
  refine al3_phase (m := 5) (N := (fun g => (w2.heap.size < g ∧ ¬ Fr y0.heap.size wu g) ∧ ¬ Fr y3.heap.size wb g)) (z := (.cells #[.int .i64 0, .string ⟨#[]⟩, .int .i64 0, .int .i64 0, .string ⟨#[]⟩, .string ⟨#[]⟩, .slice none 0 0] 33)) (i1 := 15) (i2 := 16) (i3 := 17) (d1 := 9) (d2 := 10) (d3 := 11) 12 (W := wb) (by intro a w K h; refine wpOp_step rfl (fun K' hK => ?_); go_simp; exact hK _ _ h) (by intro a w K h; refine wpOp_step rfl (fun K' hK => ?_); go_simp; exact hK _ _ h) (by intro a w K h; refine wpOp_step rfl (fun K' hK => ?_); go_simp; exact hK _ _ h) rfl (by intros; rfl) (by intros; rfl) (by intros; rfl) (by intros; rfl) (by intros; rfl) (by intros; rfl) (by rintro (_ | _) (_ | _) (_ | _) <;> kernel_rfl) (fun g hg => ⟨⟨by have := V_3.size; omega, fun hf => by have := hf.2; have := t_1x.size; have := to_.size; have := t_2x.size; have := tk_.size; have := t_3x.size; have := tb_.size; omega⟩, fun hf => by have := hf.2; omega⟩) (fun w' t => ?_) ?_
  · have t' := V_3.trans0 t
    exact ⟨t'.cell a0 (by simp), t'.cell a1 (by simp), t'.cell a2 (by simp), t'.cell a3 (by simp), t'.cell a4 (by simp), t'.cell a5 (by simp), t'.cell a6 (by simp)⟩
  intro b1 b2 b3 v1 v2 v3 y4 al t_4 K hK
  have T_4 := V_3.trans0 t_4
  dsimp only
  go_simp
  go_at_call 20
  refine (columnX_any 60 name y4).mono ?_
  rintro e wc ⟨xl, rfl, hlc, tl_⟩
  obtain ⟨⟨k5, nm5, ⟨vk5, vn5, vt5⟩, op5⟩, B5, m5, c5⟩ := xl
  dsimp only [XC.val]
  (try go_wp2_with fail)
  have V_4 := T_4.trans0 tl_
  have al' := al.next (N' := (fun g => (w2.heap.size < g ∧ ¬ Fr y0.heap.size wu g) ∧ ¬ Fr y3.heap.size wb g)) tl_ (fun g hg _ => hg)
  refine hK.out _ _ ⟨V_4.cell a0 (by simp), V_4.cell a1 (by simp), V_4.cell a2 (by simp), V_4.cell a3 (by simp), V_4.cell a4 (by simp), V_4.cell a5 (by simp), V_4.cell a6 (by simp)⟩ (fun _hH => ?_)
  have t_4x := t_4
  clear hK K al t_4 _hH
  try simp only [Act.put, List.setIfInBounds_toArray, List.set_cons_zero, List.set_cons_succ]
  have al := al'
  clear al'
  revert b1 b2 b3 v1 v2 v3
  refine al3_phase (m := 4) (N := (fun g => (w2.heap.size < g ∧ ¬ Fr y0.heap.size wu g) ∧ ¬ Fr y3.heap.size wb g)) (z := (.cells #[.int .i64 0, .string ⟨#[]⟩, .int .i64 0, .int .i64 0, .string ⟨#[]⟩, .string ⟨#[]⟩, .slice none 0 0] 33)) (i1 := 15) (i2 := 16) (i3 := 17) (d1 := 9) (d2 := 10) (d3 := 11) 13 (W := wc) (by intro a w K h; refine wpOp_step rfl (fun K' hK => ?_); go_simp; exact hK _ _ h) (by intro a w K h; refine wpOp_step rfl (fun K' hK => ?_); go_simp; exact hK _ _ h) (by intro a w K h; refine wpOp_step rfl (fun K' hK => ?_); go_simp; exact hK _ _ h) rfl (by intros; rfl) (by intros; rfl) (by intros; rfl) (by intros; rfl) (by intros; rfl) (by intros; rfl) (by rintro (_ | _) (_ | _) (_ | _) <;> kernel_rfl) (fun g hg => ⟨⟨by have := V_4.size; omega, fun hf => by have := hf.2; have := t_1x.size; have := to_.size; have := t_2x.size; have := tk_.size; have := t_3x.size; have := tb_.size; have := t_4x.size; have := tl_.size; omega⟩, fun hf => by have := hf.2; have := t_4x.size; have := tl_.size; omega⟩) (fun w' t => ?_) ?_
  · have t' := V_4.trans0 t
    exact ⟨t'.cell a0 (by simp), t'.cell a1 (by simp), t'.cell a2 (by simp), t'.cell a3 (by simp), t'.cell a4 (by simp), t'.cell a5 (by simp), t'.cell a6 (by simp)⟩
  intro b1 b2 b3 v1 v2 v3 y5 al t_5 K hK
  have T_5 := V_4.trans0 t_5
  dsimp only
  go_simp
  have ts_ := (Touch.refl [] y5).alloc (.cells #[.int .i64 k1, .string nm1, .int .i64 vk1, .int .i64 vn1, .string vt1, .string op1, .slice B1 m1 c1, .int .i64 k5, .string nm5, .int .i64 vk5, .int .i64 vn5, .string vt5, .string op5, .slice B5 m5 c5] 33)
  (try go_wp2_with fail)
  have V_5 := T_5.trans0 ts_
  have al' := al.next (N' := (fun g => (w2.heap.size < g ∧ ¬ Fr y0.heap.size wu g) ∧ ¬ Fr y3.heap.size wb g)) ts_ (fun g hg _ => hg)
  refine hK.out _ _ ⟨V_5.cell a0 (by simp), V_5.cell a1 (by simp), V_5.cell a2 (by simp), V_5.cell a3 (by simp), V_5.cell a4 (by simp), V_5.cell a5 (by simp), V_5.cell a6 (by simp)⟩ (fun _hH => ?_)
  have t_5x := t_5
  clear hK K al t_5 _hH
  try simp only [Act.put, List.setIfInBounds_toArray, List.set_cons_zero, List.set_cons_succ]
  have al := al'
  clear al'
  revert b1 b2 b3 v1 v2 v3
  refine al3_phase (m := 3) (N := (fun g => (w2.heap.size < g ∧ ¬ Fr y0.heap.size wu g) ∧ ¬ Fr y3.heap.size wb g)) (z := (.cells #[.int .i64 0, .string ⟨#[]⟩, .int .i64 0, .int .i64 0, .string ⟨#[]⟩, .string ⟨#[]⟩, .slice none 0 0] 33)) (i1 := 15) (i2 := 16) (i3 := 17) (d1 := 9) (d2 := 10) (d3 := 11) 14 (W := (y5.alloc (.cells #[.int .i64 k1, .string nm1, .int .i64 vk1, .int .i64 vn1, .string vt1, .string op1, .slice B1 m1 c1, .int .i64 k5, .string nm5, .int .i64 vk5, .int .i64 vn5, .string vt5, .string op5, .slice B5 m5 c5] 33))) (by intro a w K h; refine wpOp_step rfl (fun K' hK => ?_); go_simp; exact hK _ _ h) (by intro a w K h; refine wpOp_step rfl (fun K' hK => ?_); go_simp; exact hK _ _ h) (by intro a w K h; refine wpOp_step rfl (fun K' hK => ?_); go_simp; exact hK _ _ h) rfl (by intros; rfl) (by intros; rfl) (by intros; rfl) (by intros; rfl) (by intros; rfl) (by intros; rfl) (by rintro (_ | _) (_ | _) (_ | _) <;> kernel_rfl) (fun g hg => ⟨⟨by have := V_5.size; omega, fun hf => by have := hf.2; have := t_1x.size; have := to_.size; have := t_2x.size; have := tk_.size; have := t_3x.size; have := tb_.size; have := t_4x.size; have := tl_.size; have := t_5x.size; have := ts_.size; omega⟩, fun hf => by have := hf.2; have := t_4x.size; have := tl_.size; have := t_5x.size; have := ts_.size; omega⟩) (fun w' t => ?_) ?_
  · have t' := V_5.trans0 t
    exact ⟨t'.cell a0 (by simp), t'.cell a1 (by simp), t'.cell a2 (by simp), t'.cell a3 (by simp), t'.cell a4 (by simp), t'.cell a5 (by simp), t'.cell a6 (by simp)⟩
  intro b1 b2 b3 v1 v2 v3 y6 al t_6 K hK
  have T_6 := V_5.trans0 t_6
  dsimp only
  go_simp
  go_at_call 31
  have hA2 := (args2 (w := y5) (cs := #[.int .i64 k1, .string nm1, .int .i64 vk1, .int .i64 vn1, .string vt1, .string op1, .slice B1 m1 c1, .int .i64 k5, .string nm5, .int .i64 vk5, .int .i64 vn5, .string vt5, .string op5, .slice B5 m5 c5]) (x := ⟨⟨k1, nm1, ⟨vk1, vn1, vt1⟩, op1⟩, B1, m1, c1⟩) (y := ⟨⟨k5, nm5, ⟨vk5, vn5, vt5⟩, op5⟩, B5, m5, c5⟩) rfl (hxD.touch0 T_5) (hlc.any.touch0 t_5x)).touch0 t_6
  refine (callX_any 61 [ta, _] name _ 2 2 rfl y6 hA2 (by show sizeX 61 ta + (1 + 0 + 0) ≤ _; have := Hsa2.out; omega)).mono ?_
  rintro e wl ⟨xl2, rfl, hcc, tc_⟩
  rw [← Htc.out] at hcc
  obtain ⟨⟨k6, nm6, ⟨vk6, vn6, vt6⟩, op6⟩, B6, m6, c6⟩ := xl2
  dsimp only [XC.val]
  (try go_wp2_with fail)
  have V_6 := T_6.trans0 tc_
  have al' := al.next (N' := (fun g => ((w2.heap.size < g ∧ ¬ Fr y0.heap.size wu g) ∧ ¬ Fr y3.heap.size wb g) ∧ ¬ Fr y6.heap.size wl g)) tc_ (fun g hg hl => ⟨hg, fun hf => by have := hf.1; omega⟩)
  refine hK.out _ _ ⟨V_6.cell a0 (by simp), V_6.cell a1 (by simp), V_6.cell a2 (by simp), V_6.cell a3 (by simp), V_6.cell a4 (by simp), V_6.cell a5 (by simp), V_6.cell a6 (by simp)⟩ (fun _hH => ?_)
  have t_6x := t_6
  clear hK K al t_6 _hH
  try simp only [Act.put, List.setIfInBounds_toArray, List.set_cons_zero, List.set_cons_succ]
  have al := al'
  clear al'
  revert b1 b2 b3 v1 v2 v3
  refine al3_end (m := 3) (N := (fun g => ((w2.heap.size < g ∧ ¬ Fr y0.heap.size wu g) ∧ ¬ Fr y3.heap.size wb g) ∧ ¬ Fr y6.heap.size wl g)) (z := (.cells #[.int .i64 0, .string ⟨#[]⟩, .int .i64 0, .int .i64 0, .string ⟨#[]⟩, .string ⟨#[]⟩, .slice none 0 0] 33)) (i1 := 15) (i2 := 16) (i3 := 17) (d1 := 9) (d2 := 10) (d3 := 11) (W := wl) (by intro a w K h; refine wpOp_step rfl (fun K' hK => ?_); go_simp; exact hK _ _ h) (by intro a w K h; refine wpOp_step rfl (fun K' hK => ?_); go_simp; exact hK _ _ h) (by intro a w K h; refine wpOp_step rfl (fun K' hK => ?_); go_simp; exact hK _ _ h) (by intros; rfl) (by intros; rfl) (by intros; rfl) (by intros; rfl) (by intros; rfl) (by intros; rfl) (by rintro (_ | _) (_ | _) (_ | _) hb <;> first | (exact absurd hb (by decide)) | kernel_rfl) (fun g hg => ⟨⟨⟨by have := V_6.size; omega, fun hf => by have := hf.2; have := t_1x.size; have := to_.size; have := t_2x.size; have := tk_.size; have := t_3x.size; have := tb_.size; have := t_4x.size; have := tl_.size; have := t_5x.size; have := ts_.size; have := t_6x.size; have := tc_.size; omega⟩, fun hf => by have := hf.2; have := t_4x.size; have := tl_.size; have := t_5x.size; have := ts_.size; have := t_6x.size; have := tc_.size; omega⟩, fun hf => by have := hf.2; omega⟩) (fun w' t => ?_) ?_
  · have t' := V_6.trans0 t
    exact ⟨t'.cell a0 (by simp), t'.cell a1 (by simp), t'.cell a2 (by simp), t'.cell a3 (by simp), t'.cell a4 (by simp), t'.cell a5 (by simp), t'.cell a6 (by simp)⟩
  intro v1 v2 v3 y7 al t_7 _hH
  have V7 := V_6.trans0 t_7
  have al1 := al.p1 rfl
  have al2 := al.p2 rfl
  have al3 := al.p3 rfl
  have d12 := al.d12 rfl rfl
  have d13 := al.d13 rfl rfl
  have d23 := al.d23 rfl rfl
  clear al
  obtain ⟨g1, rfl, hg1, hz1⟩ := al1
  obtain ⟨g2, rfl, hg2, hz2⟩ := al2
  obtain ⟨g3, rfl, hg3, hz3⟩ := al3
  have n12 : g1 ≠ g2 := fun q => d12 (by rw [q])
  have n13 : g1 ≠ g3 := fun q => d13 (by rw [q])
  have n23 : g2 ≠ g3 := fun q => d23 (by rw [q])
  clear d12 d13 d23
  have tuy : Touch [] wu y7 := ((((((((((((t_1x.trans0 to_).trans0 t_2x).trans0 tk_).trans0 t_3x).trans0 tb_).trans0 t_4x).trans0 tl_).trans0 t_5x).trans0 ts_).trans0 t_6x).trans0 tc_).trans0 t_7)
  have tby : Touch [] wb y7 := ((((((t_4x.trans0 tl_).trans0 t_5x).trans0 ts_).trans0 t_6x).trans0 tc_).trans0 t_7)
  replace hu := hu.touch0 tuy
  replace hbb := hbb.touch0 tby
  replace hcc := hcc.touch0 t_7
  have hE7 := V7.blk Hbx.out (by simp)
  obtain ⟨z0, z1, z2, z3, z4, z5, z6, f0, f1, f2, f3, f4, f5, f6⟩ := blk7 hz1
  obtain ⟨q1, r1⟩ := out7 hz1 (.int .i64 k2) (.string nm2) (.int .i64 vk2) (.int .i64 vn2) (.string vt2) (.string op2) (.slice B2 m2 c2)
  refine wpAnyH_ready (rs := [18]) (by kernel_rfl) (by simp) ?_
  refine AllReadyH.cons rfl (fun K hK => ?_) AllReadyH.nil
  go_simp
  (try go_wp2_with fail)
  obtain ⟨e0, e1, e2, e3, e4, e5, e6, _⟩ := blk7 (r1.blk hE7 (by simp; omega))
  refine hK.out _ _ ⟨e0, e1, e2, e3, e4, e5, e6⟩ (fun _hH => ?_)
  clear hK K z0 z1 z2 z3 z4 z5 z6 f0 f1 f2 f3 f4 f5 f6 e0 e1 e2 e3 e4 e5 e6 _hH
  try simp only [Act.put, List.setIfInBounds_toArray, List.set_cons_zero, List.set_cons_succ]
  obtain ⟨y8, hy8⟩ : ∃ w', w' = (((((((y7).setCell ⟨g1, 0, none⟩ (.int .i64 k2)).setCell ⟨g1, 1, none⟩ (.string nm2)).setCell ⟨g1, 2, none⟩ (.int .i64 vk2)).setCell ⟨g1, 3, none⟩ (.int .i64 vn2)).setCell ⟨g1, 4, none⟩ (.string vt2)).setCell ⟨g1, 5, none⟩ (.string op2)).setCell ⟨g1, 6, none⟩ (.slice B2 m2 c2) := ⟨_, rfl⟩
  rw [← hy8] at q1 r1 ⊢
  clear hy8
  have hE8 := r1.blk hE7 (by simp; omega)
  replace hz2 := r1.blk hz2 (by simp; omega)
  replace hz3 := r1.blk hz3 (by simp; omega)
  obtain ⟨z0, z1, z2, z3, z4, z5, z6, f0, f1, f2, f3, f4, f5, f6⟩ := blk7 hz2
  obtain ⟨q2, r2⟩ := out7 hz2 (.int .i64 k4) (.string nm4) (.int .i64 vk4) (.int .i64 vn4) (.string vt4) (.string op4) (.slice B4 m4 c4)
  refine wpAnyH_ready (rs := [19]) (by kernel_rfl) (by simp) ?_
  refine AllReadyH.cons rfl (fun K hK => ?_) AllReadyH.nil
  go_simp
  (try go_wp2_with fail)
  obtain ⟨e0, e1, e2, e3, e4, e5, e6, _⟩ := blk7 (r2.blk hE8 (by simp; omega))
  refine hK.out _ _ ⟨e0, e1, e2, e3, e4, e5, e6⟩ (fun _hH => ?_)
  clear hK K z0 z1 z2 z3 z4 z5 z6 f0 f1 f2 f3 f4 f5 f6 e0 e1 e2 e3 e4 e5 e6 _hH
  try simp only [Act.put, List.setIfInBounds_toArray, List.set_cons_zero, List.set_cons_succ]
  obtain ⟨y9, hy9⟩ : ∃ w', w' = (((((((y8).setCell ⟨g2, 0, none⟩ (.int .i64 k4)).setCell ⟨g2, 1, none⟩ (.string nm4)).setCell ⟨g2, 2, none⟩ (.int .i64 vk4)).setCell ⟨g2, 3, none⟩ (.int .i64 vn4)).setCell ⟨g2, 4, none⟩ (.string vt4)).setCell ⟨g2, 5, none⟩ (.string op4)).setCell ⟨g2, 6, none⟩ (.slice B4 m4 c4) := ⟨_, rfl⟩
  rw [← hy9] at q2 r2 ⊢
  clear hy9
  have hE9 := r2.blk hE8 (by simp; omega)
  replace hz3 := r2.blk hz3 (by simp; omega)
  replace q1 := r2.blk q1 (by simp; omega)
  obtain ⟨z0, z1, z2, z3, z4, z5, z6, f0, f1, f2, f3, f4, f5, f6⟩ := blk7 hz3
  obtain ⟨q3, r3⟩ := out7 hz3 (.int .i64 k6) (.string nm6) (.int .i64 vk6) (.int .i64 vn6) (.string vt6) (.string op6) (.slice B6 m6 c6)
  refine wpAnyH_ready (rs := [20]) (by kernel_rfl) (by simp) ?_
  refine AllReadyH.cons rfl (fun K hK => ?_) AllReadyH.nil
  go_simp
  (try go_wp2_with fail)
  obtain ⟨e0, e1, e2, e3, e4, e5, e6, _⟩ := blk7 (r3.blk hE9 (by simp; omega))
  refine hK.out _ _ ⟨e0, e1, e2, e3, e4, e5, e6⟩ (fun _hH => ?_)
  clear hK K z0 z1 z2 z3 z4 z5 z6 f0 f1 f2 f3 f4 f5 f6 e0 e1 e2 e3 e4 e5 e6 _hH
  try simp only [Act.put, List.setIfInBounds_toArray, List.set_cons_zero, List.set_cons_succ]
  obtain ⟨ya, hya⟩ : ∃ w', w' = (((((((y9).setCell ⟨g3, 0, none⟩ (.int .i64 k6)).setCell ⟨g3, 1, none⟩ (.string nm6)).setCell ⟨g3, 2, none⟩ (.int .i64 vk6)).setCell ⟨g3, 3, none⟩ (.int .i64 vn6)).setCell ⟨g3, 4, none⟩ (.string vt6)).setCell ⟨g3, 5, none⟩ (.string op6)).setCell ⟨g3, 6, none⟩ (.slice B6 m6 c6) := ⟨_, rfl⟩
  rw [← hya] at q3 r3 ⊢
  clear hya
  have hEa := r3.blk hE9 (by simp; omega)
  replace q1 := r3.blk q1 (by simp; omega)
  replace q2 := r3.blk q2 (by simp; omega)
  have rr : Touch [g1, g2, g3] y7 ya := ((r1.mono (fp2 := [g1, g2, g3]) (fun b hb => .inl (by simp at hb; simp [hb]))).trans r2 (fun b hb => .inl (by simp at hb; simp [hb]))).trans r3 (fun b hb => .inl (by simp at hb; simp [hb]))
  replace hu := hu.touch rr (fun b hb hp => by simp at hb; rcases hb with rfl | rfl | rfl; exact hg1.1.1.2 hp; exact hg2.1.1.2 hp; exact hg3.1.1.2 hp)
  replace hbb := hbb.touch rr (fun b hb hp => by simp at hb; rcases hb with rfl | rfl | rfl; exact hg1.1.2 hp; exact hg2.1.2 hp; exact hg3.1.2 hp)
  replace hcc := hcc.touch rr (fun b hb hp => by simp at hb; rcases hb with rfl | rfl | rfl; exact hg1.2 hp; exact hg2.2 hp; exact hg3.2 hp)
  have G1 := hg1.1.1.1; have G2 := hg2.1.1.1; have G3 := hg3.1.1.1
  have hsy0 := T_0.size; have hsy3 := T_3.size; have hsy6 := T_6.size
  replace hu := hu.mono (q := fun b => w2.heap.size < b) (fun b hb => by have := hb.1; omega)
  replace hbb := hbb.mono (q := fun b => w2.heap.size < b) (fun b hb => by have := hb.1; omega)
  replace hcc := hcc.mono (q := fun b => w2.heap.size < b) (fun b hb => by have := hb.1; omega)
  have Ta : Touch [] w ya := ((T2.trans0 tD).trans0 V7).trans rr (fun b hb => .inr (by have := T2.size; simp at hb; rcases hb with rfl | rfl | rfl <;> omega))
  have hra := ((hrow.touch0 tD).touch0 V7).touch rr (fun b hb hm => by have := hB1 b hb; simp at hm; rcases hm with rfl | rfl | rfl <;> omega)
  have hsa2 : w2.heap.size < ya.heap.size := lt_of_block hEa
  have HU := Lib.hid hu; have HBB := Lib.hid hbb; have HCC := Lib.hid hcc; have HR := Lib.hid hra; have HE := Lib.hid hEa; have Q1 := Lib.hid q1; have Q2 := Lib.hid q2; have Q3 := Lib.hid q3
  clear hu hbb hcc hra hEa q1 q2 q3 hz1 hz2 hz3 hg1 hg2 hg3 rr r1 r2 r3 hE7 hE8 hE9 tuy tby hk hlc hxD hrow a0 a1 a2 a3 a4 a5 a6 hHeld T_0 T_1 T_2 T_3 T_4 T_5 T_6 V_0 V_1 V_2 V_3 V_4 V_5 V_6 V7 hsy0 hsy3 hsy6
  refine wpAnyH_done (by kernel_rfl) ?_ _
  go_wp2_with fail
  refine (Hb.out _ Ta).mono ?_
  rintro e yb ⟨x7, rfl, hx7, -, u7⟩
  have hx7 := hx7.mono (q := fun b => w2.heap.size < b) (fun b hb => by have := hb.1; omega)
  obtain ⟨⟨k7, nm7, ⟨vk7, vn7, vt7⟩, op7⟩, B7, m7, c7⟩ := x7
  dsimp only [XC.val]
  obtain ⟨yc, hyc⟩ : ∃ w', w' = yb.alloc (.cells #[.int .i64 k7, .string nm7, .int .i64 vk7, .int .i64 vn7, .string vt7, .string op7, .slice B7 m7 c7] 33) := ⟨_, rfl⟩
  have tc7 : Touch [] yb yc := by rw [hyc]; exact (Touch.refl [] yb).alloc _
  have hbx7 : yc.heap[yb.heap.size]? = some (.cells #[.int .i64 k7, .string nm7, .int .i64 vk7, .int .i64 vn7, .string vt7, .string op7, .slice B7 m7 c7] 33) := by rw [hyc]; exact heap_alloc_new yb _
  have uc := u7.trans0 tc7
  have su7 := u7.size
  have hEraw : (yb.alloc (.cells #[.int .i64 k7, .string nm7, .int .i64 vk7, .int .i64 vn7, .string vt7, .string op7, .slice B7 m7 c7] 33)).heap[w2.heap.size]? = some (.cells #[.int .i64 k1, .string nm1, .int .i64 vk1, .int .i64 vn1, .string vt1, .string op1, .slice B1 m1 c1] 33) := by rw [← hyc]; exact uc.blk HE.out (by simp)
  obtain ⟨e0, e1, e2, e3, e4, e5, e6, _⟩ := blk7 hEraw
  have Hyc := Lib.hid hyc
  clear hyc hEraw
  go_wp2_with fail
  rw [← Hyc.out]
  clear Hyc e0 e1 e2 e3 e4 e5 e6
  go_loopw [58] (fun i wr => ∃ j : Nat, j ≤ m1 ∧ i = .int .i64 j ∧ Hid (Touch (fpo B1) yc wr ∧ RowX wr B1 c1 m1)) (fun i _ => m1 - (intOf i).toNat)
  case atStart => exact ⟨0, by omega, rfl, Lib.hid ⟨Touch.refl _ _, HR.out.touch0 uc⟩⟩
  case round =>
    obtain ⟨j, hj, rfl, HH⟩ := hrel
    obtain ⟨ht, hrw⟩ := HH.out
    have hEB : w2.heap.size ∉ fpo B1 := fun hm => by have := hB1 _ hm; omega
    have hnB : ∀ b ∈ fpo B1, ¬ w2.heap.size < b := fun b hb => by have := hB1 b hb; omega
    have hEr := ht.blk (uc.blk HE.out (by simp)) hEB
    by_cases hlt : j < m1
    · have hjI : (j : Int) < (m1 : Int) := by omega
      obtain ⟨e0, e1, e2, e3, e4, e5, e6, _⟩ := blk7 hEr
      obtain ⟨g, s, rfl, hgl, hcl, hfz, hst⟩ := hrw.cell j hlt
      have e7 : (⟨g, 0, none⟩ : Addr).add (j * 7) = ⟨g, j * 7, none⟩ := by unfold Addr.add; split <;> simp_all
      have Hst := Lib.hid hst; have Ht := Lib.hid ht
      clear hst ht hrw
      go_wp2_with fail
      go_roundw
      case rel => exact ⟨j + 1, by omega, by go_num, Lib.hid ⟨Ht.out.setCell (p := ⟨g, j * 7 + 1, none⟩) (.inl (by simp [fpo])) _, Hst.out _⟩⟩
      case measure => simp [intOf]; omega
    · obtain rfl : j = m1 := by omega
      have hu := ((HU.out.touch0 uc).touch ht hnB).any
      have hbb := ((HBB.out.touch0 uc).touch ht hnB).any
      have hcc := ((HCC.out.touch0 uc).touch ht hnB).any
      have hx := ((hx7.touch0 tc7).touch ht hnB).any
      have q1 := ht.blk (uc.blk Q1.out (by simp)) (fun hm => hnB _ hm G1)
      have q2 := ht.blk (uc.blk Q2.out (by simp)) (fun hm => hnB _ hm G2)
      have q3 := ht.blk (uc.blk Q3.out (by simp)) (fun hm => hnB _ hm G3)
      have q7 := ht.blk hbx7 (fun hm => hnB _ hm (by omega))
      have Tr : Touch [] w wr := (Ta.trans0 uc).trans ht (fun b hb => .inr (by have h2 := hBlo b hb; omega))
      obtain ⟨e0, e1, e2, e3, e4, e5, e6, _⟩ := blk7 hEr
      clear ht hrw HH
      go_wp2_with fail
      refine (of_any n _).mono ?_
      rintro e yd ⟨rfl, td⟩
      dsimp only [VD.val, ofV, S]
      clear e0 e1 e2 e3 e4 e5 e6
      obtain ⟨ye, hye⟩ : ∃ w', w' = (yd.alloc (.cells #[.int .i64 2, .string ⟨#[]⟩, .int .i64 1, .int .i64 n, .string ⟨#[]⟩, .string ⟨#[]⟩, .slice none 0 0] 33)).drew := ⟨_, rfl⟩
      have te : Touch [] yd ye := by rw [hye]; exact ((Touch.refl [] yd).alloc _).drew
      have q8 : ye.heap[yd.heap.size]? = some (.cells #[.int .i64 2, .string ⟨#[]⟩, .int .i64 1, .int .i64 n, .string ⟨#[]⟩, .string ⟨#[]⟩, .slice none 0 0] 33) := by rw [hye]; exact heap_alloc_new yd _
      have tde := td.trans0 te
      replace q1 := tde.blk q1 (by simp)
      replace q2 := tde.blk q2 (by simp)
      replace q3 := tde.blk q3 (by simp)
      replace q7 := tde.blk q7 (by simp)
      replace hu := hu.touch0 tde
      replace hbb := hbb.touch0 tde
      replace hcc := hcc.touch0 tde
      replace hx := hx.touch0 tde
      have Te := Tr.trans0 tde
      obtain ⟨xa0, xa1, xa2, xa3, xa4, xa5, xa6, _⟩ := blk7 q1
      obtain ⟨xb0, xb1, xb2, xb3, xb4, xb5, xb6, _⟩ := blk7 q2
      obtain ⟨xc0, xc1, xc2, xc3, xc4, xc5, xc6, _⟩ := blk7 q3
      obtain ⟨xd0, xd1, xd2, xd3, xd4, xd5, xd6, _⟩ := blk7 q7
      obtain ⟨xf0, xf1, xf2, xf3, xf4, xf5, xf6, _⟩ := blk7 q8
      have Hye := Lib.hid hye
      clear hye
      go_wp2_with fail
      refine wp_region_held_drew (S := fun w' => w'.cell? ⟨g1, 0, none⟩ = some (.int .i64 k2) ∧ w'.cell? ⟨g1, 1, none⟩ = some (.string nm2) ∧ w'.cell? ⟨g1, 2, none⟩ = some (.int .i64 vk2) ∧ w'.cell? ⟨g1, 3, none⟩ = some (.int .i64 vn2) ∧ w'.cell? ⟨g1, 4, none⟩ = some (.string vt2) ∧ w'.cell? ⟨g1, 5, none⟩ = some (.string op2) ∧ w'.cell? ⟨g1, 6, none⟩ = some (.slice B2 m2 c2) ∧ w'.cell? ⟨g2, 0, none⟩ = some (.int .i64 k4) ∧ w'.cell? ⟨g2, 1, none⟩ = some (.string nm4) ∧ w'.cell? ⟨g2, 2, none⟩ = some (.int .i64 vk4) ∧ w'.cell? ⟨g2, 3, none⟩ = some (.int .i64 vn4) ∧ w'.cell? ⟨g2, 4, none⟩ = some (.string vt4) ∧ w'.cell? ⟨g2, 5, none⟩ = some (.string op4) ∧ w'.cell? ⟨g2, 6, none⟩ = some (.slice B4 m4 c4) ∧ w'.cell? ⟨g3, 0, none⟩ = some (.int .i64 k6) ∧ w'.cell? ⟨g3, 1, none⟩ = some (.string nm6) ∧ w'.cell? ⟨g3, 2, none⟩ = some (.int .i64 vk6) ∧ w'.cell? ⟨g3, 3, none⟩ = some (.int .i64 vn6) ∧ w'.cell? ⟨g3, 4, none⟩ = some (.string vt6) ∧ w'.cell? ⟨g3, 5, none⟩ = some (.string op6) ∧ w'.cell? ⟨g3, 6, none⟩ = some (.slice B6 m6 c6) ∧ w'.cell? ⟨yb.heap.size, 0, none⟩ = some (.int .i64 k7) ∧ w'.cell? ⟨yb.heap.size, 1, none⟩ = some (.string nm7) ∧ w'.cell? ⟨yb.heap.size, 2, none⟩ = some (.int .i64 vk7) ∧ w'.cell? ⟨yb.heap.size, 3, none⟩ = some (.int .i64 vn7) ∧ w'.cell? ⟨yb.heap.size, 4, none⟩ = some (.string vt7) ∧ w'.cell? ⟨yb.heap.size, 5, none⟩ = some (.string op7) ∧ w'.cell? ⟨yb.heap.size, 6, none⟩ = some (.slice B7 m7 c7) ∧ w'.cell? ⟨yd.heap.size, 0, none⟩ = some (.int .i64 2) ∧ w'.cell? ⟨yd.heap.size, 1, none⟩ = some (.string ⟨#[]⟩) ∧ w'.cell? ⟨yd.heap.size, 2, none⟩ = some (.int .i64 1) ∧ w'.cell? ⟨yd.heap.size, 3, none⟩ = some (.int .i64 n) ∧ w'.cell? ⟨yd.heap.size, 4, none⟩ = some (.string ⟨#[]⟩) ∧ w'.cell? ⟨yd.heap.size, 5, none⟩ = some (.string ⟨#[]⟩) ∧ w'.cell? ⟨yd.heap.size, 6, none⟩ = some (.slice none 0 0)) (by kernel_rfl) (by rw [← Hye.out]; exact ⟨xa0, xa1, xa2, xa3, xa4, xa5, xa6, xb0, xb1, xb2, xb3, xb4, xb5, xb6, xc0, xc1, xc2, xc3, xc4, xc5, xc6, xd0, xd1, xd2, xd3, xd4, xd5, xd6, xf0, xf1, xf2, xf3, xf4, xf5, xf6⟩) (fun hHeld => ?_)
      rw [← Hye.out] at hHeld ⊢
      clear xa0 xa1 xa2 xa3 xa4 xa5 xa6 xb0 xb1 xb2 xb3 xb4 xb5 xb6 xc0 xc1 xc2 xc3 xc4 xc5 xc6 xd0 xd1 xd2 xd3 xd4 xd5 xd6 xf0 xf1 xf2 xf3 xf4 xf5 xf6
      refine take_d (i := 0) (d := 70) (v := ?_) rfl rfl (by kernel_rfl) (by kernel_rfl) (by kernel_rfl) (fun _ _ _ h => h) (Or.inl ⟨by rfl, ?_⟩) hHeld ?_
      rotate_left
      · intro w hSw; (try dsimp only at hSw); go_simp; (try with_reducible rfl)
      try simp only [Act.put, List.setIfInBounds_toArray, List.set_cons_zero, List.set_cons_succ]
      refine take_d (i := 1) (d := 71) (v := ?_) rfl rfl (by kernel_rfl) (by kernel_rfl) (by kernel_rfl) (fun _ _ _ h => h) (Or.inl ⟨by rfl, ?_⟩) hHeld ?_
      rotate_left
      · intro w hSw; (try dsimp only at hSw); go_simp; (try with_reducible rfl)
      try simp only [Act.put, List.setIfInBounds_toArray, List.set_cons_zero, List.set_cons_succ]
      refine take_d (i := 2) (d := 72) (v := ?_) rfl rfl (by kernel_rfl) (by kernel_rfl) (by kernel_rfl) (fun _ _ _ h => h) (Or.inl ⟨by rfl, ?_⟩) hHeld ?_
      rotate_left
      · intro w hSw; (try dsimp only at hSw); go_simp; (try with_reducible rfl)
      try simp only [Act.put, List.setIfInBounds_toArray, List.set_cons_zero, List.set_cons_succ]
      obtain ⟨yf, hyf⟩ : ∃ w', w' = ye.alloc (.cells #[.int .i64 k7, .string nm7, .int .i64 vk7, .int .i64 vn7, .string vt7, .string op7, .slice B7 m7 c7] 33) := ⟨_, rfl⟩
      have tf : Touch [] ye yf := by rw [hyf]; exact (Touch.refl [] ye).alloc _
      have hxu := ExP.of1 (n := 61) (w := ye) (x := ⟨⟨k7, nm7, ⟨vk7, vn7, vt7⟩, op7⟩, B7, m7, c7⟩) (cs := #[.int .i64 k7, .string nm7, .int .i64 vk7, .int .i64 vn7, .string vt7, .string op7, .slice B7 m7 c7]) ⟨3, ⟨#[]⟩, ⟨0, 0, ⟨#[]⟩⟩, name⟩ 1 rfl hx
      rw [← hyf] at hxu
      refine wpAnyH_ready (rs := [3]) (by kernel_rfl) (by simp) ?_
      refine AllReadyH.cons rfl (fun K hK => ?_) AllReadyH.nil
      go_simp
      (try go_wp2_with fail)
      rw [← hyf]
      replace q1 := tf.blk q1 (by simp)
      replace q2 := tf.blk q2 (by simp)
      replace q3 := tf.blk q3 (by simp)
      replace q7 := tf.blk q7 (by simp)
      replace q8 := tf.blk q8 (by simp)
      replace hu := hu.touch0 tf
      replace hbb := hbb.touch0 tf
      replace hcc := hcc.touch0 tf
      replace hx := hx.touch0 tf
      replace Te := Te.trans0 tf
      obtain ⟨xa0, xa1, xa2, xa3, xa4, xa5, xa6, _⟩ := blk7 q1
      obtain ⟨xb0, xb1, xb2, xb3, xb4, xb5, xb6, _⟩ := blk7 q2
      obtain ⟨xc0, xc1, xc2, xc3, xc4, xc5, xc6, _⟩ := blk7 q3
      obtain ⟨xd0, xd1, xd2, xd3, xd4, xd5, xd6, _⟩ := blk7 q7
      obtain ⟨xf0, xf1, xf2, xf3, xf4, xf5, xf6, _⟩ := blk7 q8
      refine hK.out _ _ ⟨xa0, xa1, xa2, xa3, xa4, xa5, xa6, xb0, xb1, xb2, xb3, xb4, xb5, xb6, xc0, xc1, xc2, xc3, xc4, xc5, xc6, xd0, xd1, xd2, xd3, xd4, xd5, xd6, xf0, xf1, xf2, xf3, xf4, xf5, xf6⟩ (fun hHeld => ?_)
      clear hK K hyf
      try simp only [Act.put, List.setIfInBounds_toArray, List.set_cons_zero, List.set_cons_succ]
      clear xa0 xa1 xa2 xa3 xa4 xa5 xa6 xb0 xb1 xb2 xb3 xb4 xb5 xb6 xc0 xc1 xc2 xc3 xc4 xc5 xc6 xd0 xd1 xd2 xd3 xd4 xd5 xd6 xf0 xf1 xf2 xf3 xf4 xf5 xf6
      refine take_d (i := 4) (d := 74) (v := ?_) rfl rfl (by kernel_rfl) (by kernel_rfl) (by kernel_rfl) (fun _ _ _ h => h) (Or.inl ⟨by rfl, ?_⟩) hHeld ?_
      rotate_left
      · intro w hSw; (try dsimp only at hSw); go_simp; (try with_reducible rfl)
      try simp only [Act.put, List.setIfInBounds_toArray, List.set_cons_zero, List.set_cons_succ]
      rw [← Htu.out] at hxu
      have heq := equalX_any 62 tu tu _ _ _ hu hxu (by have := Hszu.out; omega) (by have := Hszu.out; omega)
      rw [Hequ.out] at heq
      refine wpAnyH_ready (rs := [5]) (by kernel_rfl) (by simp) ?_
      refine AllReadyH.cons rfl (fun K hK => ?_) AllReadyH.nil
      go_simp
      go_at_call 29
      refine heq.mono ?_
      rintro e yg ⟨rfl, tg⟩
      (try go_wp2_with fail)
      replace q1 := tg.blk q1 (by simp)
      replace q2 := tg.blk q2 (by simp)
      replace q3 := tg.blk q3 (by simp)
      replace q7 := tg.blk q7 (by simp)
      replace q8 := tg.blk q8 (by simp)
      replace hu := hu.touch0 tg
      replace hbb := hbb.touch0 tg
      replace hcc := hcc.touch0 tg
      replace hx := hx.touch0 tg
      replace Te := Te.trans0 tg
      obtain ⟨xa0, xa1, xa2, xa3, xa4, xa5, xa6, _⟩ := blk7 q1
      obtain ⟨xb0, xb1, xb2, xb3, xb4, xb5, xb6, _⟩ := blk7 q2
      obtain ⟨xc0, xc1, xc2, xc3, xc4, xc5, xc6, _⟩ := blk7 q3
      obtain ⟨xd0, xd1, xd2, xd3, xd4, xd5, xd6, _⟩ := blk7 q7
      obtain ⟨xf0, xf1, xf2, xf3, xf4, xf5, xf6, _⟩ := blk7 q8
      refine hK.out _ _ ⟨xa0, xa1, xa2, xa3, xa4, xa5, xa6, xb0, xb1, xb2, xb3, xb4, xb5, xb6, xc0, xc1, xc2, xc3, xc4, xc5, xc6, xd0, xd1, xd2, xd3, xd4, xd5, xd6, xf0, xf1, xf2, xf3, xf4, xf5, xf6⟩ (fun hHeld => ?_)
      clear hK K
      try simp only [Act.put, List.setIfInBounds_toArray, List.set_cons_zero, List.set_cons_succ]
      clear xa0 xa1 xa2 xa3 xa4 xa5 xa6 xb0 xb1 xb2 xb3 xb4 xb5 xb6 xc0 xc1 xc2 xc3 xc4 xc5 xc6 xd0 xd1 xd2 xd3 xd4 xd5 xd6 xf0 xf1 xf2 xf3 xf4 xf5 xf6
      clear heq hxu
      refine take_d (i := 6) (d := 76) (v := ?_) rfl rfl (by kernel_rfl) (by kernel_rfl) (by kernel_rfl) (fun _ _ _ h => h) (Or.inl ⟨by rfl, ?_⟩) hHeld ?_
      rotate_left
      · intro w hSw; (try dsimp only at hSw); go_simp; (try with_reducible rfl)
      try simp only [Act.put, List.setIfInBounds_toArray, List.set_cons_zero, List.set_cons_succ]
      refine take_d (i := 7) (d := 77) (v := ?_) rfl rfl (by kernel_rfl) (by kernel_rfl) (by kernel_rfl) (fun _ _ _ h => h) (Or.inl ⟨by rfl, ?_⟩) hHeld ?_
      rotate_left
      · intro w hSw; (try dsimp only at hSw); go_simp; (try with_reducible rfl)
      try simp only [Act.put, List.setIfInBounds_toArray, List.set_cons_zero, List.set_cons_succ]
      refine take_d (i := 8) (d := 78) (v := ?_) rfl rfl (by kernel_rfl) (by kernel_rfl) (by kernel_rfl) (fun _ _ _ h => h) (Or.inl ⟨by rfl, ?_⟩) hHeld ?_
      rotate_left
      · intro w hSw; (try dsimp only at hSw); go_simp; (try with_reducible rfl)
      try simp only [Act.put, List.setIfInBounds_toArray, List.set_cons_zero, List.set_cons_succ]
      refine take_d (i := 9) (d := 79) (v := ?_) rfl rfl (by kernel_rfl) (by kernel_rfl) (by kernel_rfl) (fun _ _ _ h => h) (Or.inl ⟨by rfl, ?_⟩) hHeld ?_
      rotate_left
      · intro w hSw; (try dsimp only at hSw); go_simp; (try with_reducible rfl)
      try simp only [Act.put, List.setIfInBounds_toArray, List.set_cons_zero, List.set_cons_succ]
      refine take_d (i := 10) (d := 80) (v := ?_) rfl rfl (by kernel_rfl) (by kernel_rfl) (by kernel_rfl) (fun _ _ _ h => h) (Or.inl ⟨by rfl, ?_⟩) hHeld ?_
      rotate_left
      · intro w hSw; (try dsimp only at hSw); go_simp; (try with_reducible rfl)
      try simp only [Act.put, List.setIfInBounds_toArray, List.set_cons_zero, List.set_cons_succ]
      obtain ⟨yh, hyh⟩ : ∃ w', w' = yg.alloc (.cells #[.int .i64 k7, .string nm7, .int .i64 vk7, .int .i64 vn7, .string vt7, .string op7, .slice B7 m7 c7, .int .i64 2, .string ⟨#[]⟩, .int .i64 1, .int .i64 n, .string ⟨#[]⟩, .string ⟨#[]⟩, .slice none 0 0] 33) := ⟨_, rfl⟩
      have th : Touch [] yg yh := by rw [hyh]; exact (Touch.refl [] yg).alloc _
      have hxb := ExP.of2 (n := 61) (w := yg) (x := ⟨⟨k7, nm7, ⟨vk7, vn7, vt7⟩, op7⟩, B7, m7, c7⟩) (y := ⟨⟨2, ⟨#[]⟩, ⟨1, n, ⟨#[]⟩⟩, ⟨#[]⟩⟩, none, 0, 0⟩) (b := ((⟨2, ⟨#[]⟩, ofV n, ⟨#[]⟩⟩, []) : TX 61)) (cs := #[.int .i64 k7, .string nm7, .int .i64 vk7, .int .i64 vn7, .string vt7, .string op7, .slice B7 m7 c7, .int .i64 2, .string ⟨#[]⟩, .int .i64 1, .int .i64 n, .string ⟨#[]⟩, .string ⟨#[]⟩, .slice none 0 0]) ⟨4, ⟨#[]⟩, ⟨0, 0, ⟨#[]⟩⟩, name⟩ 2 rfl hx (leafX 60 _ _)
      rw [← hyh] at hxb
      refine wpAnyH_ready (rs := [11]) (by kernel_rfl) (by simp) ?_
      refine AllReadyH.cons rfl (fun K hK => ?_) AllReadyH.nil
      go_simp
      (try go_wp2_with fail)
      rw [← hyh]
      replace q1 := th.blk q1 (by simp)
      replace q2 := th.blk q2 (by simp)
      replace q3 := th.blk q3 (by simp)
      replace q7 := th.blk q7 (by simp)
      replace q8 := th.blk q8 (by simp)
      replace hu := hu.touch0 th
      replace hbb := hbb.touch0 th
      replace hcc := hcc.touch0 th
      replace hx := hx.touch0 th
      replace Te := Te.trans0 th
      obtain ⟨xa0, xa1, xa2, xa3, xa4, xa5, xa6, _⟩ := blk7 q1
      obtain ⟨xb0, xb1, xb2, xb3, xb4, xb5, xb6, _⟩ := blk7 q2
      obtain ⟨xc0, xc1, xc2, xc3, xc4, xc5, xc6, _⟩ := blk7 q3
      obtain ⟨xd0, xd1, xd2, xd3, xd4, xd5, xd6, _⟩ := blk7 q7
      obtain ⟨xf0, xf1, xf2, xf3, xf4, xf5, xf6, _⟩ := blk7 q8
      refine hK.out _ _ ⟨xa0, xa1, xa2, xa3, xa4, xa5, xa6, xb0, xb1, xb2, xb3, xb4, xb5, xb6, xc0, xc1, xc2, xc3, xc4, xc5, xc6, xd0, xd1, xd2, xd3, xd4, xd5, xd6, xf0, xf1, xf2, xf3, xf4, xf5, xf6⟩ (fun hHeld => ?_)
      clear hK K hyh
      try simp only [Act.put, List.setIfInBounds_toArray, List.set_cons_zero, List.set_cons_succ]
      clear xa0 xa1 xa2 xa3 xa4 xa5 xa6 xb0 xb1 xb2 xb3 xb4 xb5 xb6 xc0 xc1 xc2 xc3 xc4 xc5 xc6 xd0 xd1 xd2 xd3 xd4 xd5 xd6 xf0 xf1 xf2 xf3 xf4 xf5 xf6
      refine take_d (i := 12) (d := 82) (v := ?_) rfl rfl (by kernel_rfl) (by kernel_rfl) (by kernel_rfl) (fun _ _ _ h => h) (Or.inl ⟨by rfl, ?_⟩) hHeld ?_
      rotate_left
      · intro w hSw; (try dsimp only at hSw); go_simp; (try with_reducible rfl)
      try simp only [Act.put, List.setIfInBounds_toArray, List.set_cons_zero, List.set_cons_succ]
      rw [← Htb.out] at hxb
      have heq := equalX_any 62 tb tb _ _ _ hbb hxb (by have := Hszb.out; omega) (by have := Hszb.out; omega)
      rw [Heqb.out] at heq
      refine wpAnyH_ready (rs := [13]) (by kernel_rfl) (by simp) ?_
      refine AllReadyH.cons rfl (fun K hK => ?_) AllReadyH.nil
      go_simp
      go_at_call 29
      refine heq.mono ?_
      rintro e yi ⟨rfl, ti⟩
      (try go_wp2_with fail)
      replace q1 := ti.blk q1 (by simp)
      replace q2 := ti.blk q2 (by simp)
      replace q3 := ti.blk q3 (by simp)
      replace q7 := ti.blk q7 (by simp)
      replace q8 := ti.blk q8 (by simp)
      replace hu := hu.touch0 ti
      replace hbb := hbb.touch0 ti
      replace hcc := hcc.touch0 ti
      replace hx := hx.touch0 ti
      replace Te := Te.trans0 ti
      obtain ⟨xa0, xa1, xa2, xa3, xa4, xa5, xa6, _⟩ := blk7 q1
      obtain ⟨xb0, xb1, xb2, xb3, xb4, xb5, xb6, _⟩ := blk7 q2
      obtain ⟨xc0, xc1, xc2, xc3, xc4, xc5, xc6, _⟩ := blk7 q3
      obtain ⟨xd0, xd1, xd2, xd3, xd4, xd5, xd6, _⟩ := blk7 q7
      obtain ⟨xf0, xf1, xf2, xf3, xf4, xf5, xf6, _⟩ := blk7 q8
      refine hK.out _ _ ⟨xa0, xa1, xa2, xa3, xa4, xa5, xa6, xb0, xb1, xb2, xb3, xb4, xb5, xb6, xc0, xc1, xc2, xc3, xc4, xc5, xc6, xd0, xd1, xd2, xd3, xd4, xd5, xd6, xf0, xf1, xf2, xf3, xf4, xf5, xf6⟩ (fun hHeld => ?_)
      clear hK K
      try simp only [Act.put, List.setIfInBounds_toArray, List.set_cons_zero, List.set_cons_succ]
      clear xa0 xa1 xa2 xa3 xa4 xa5 xa6 xb0 xb1 xb2 xb3 xb4 xb5 xb6 xc0 xc1 xc2 xc3 xc4 xc5 xc6 xd0 xd1 xd2 xd3 xd4 xd5 xd6 xf0 xf1 xf2 xf3 xf4 xf5 xf6
      clear heq hxb
      refine take_d (i := 14) (d := 84) (v := ?_) rfl rfl (by kernel_rfl) (by kernel_rfl) (by kernel_rfl) (fun _ _ _ h => h) (Or.inl ⟨by rfl, ?_⟩) hHeld ?_
      rotate_left
      · intro w hSw; (try dsimp only at hSw); go_simp; (try with_reducible rfl)
      try simp only [Act.put, List.setIfInBounds_toArray, List.set_cons_zero, List.set_cons_succ]
      refine take_d (i := 15) (d := 85) (v := ?_) rfl rfl (by kernel_rfl) (by kernel_rfl) (by kernel_rfl) (fun _ _ _ h => h) (Or.inl ⟨by rfl, ?_⟩) hHeld ?_
      rotate_left
      · intro w hSw; (try dsimp only at hSw); go_simp; (try with_reducible rfl)
      try simp only [Act.put, List.setIfInBounds_toArray, List.set_cons_zero, List.set_cons_succ]
      refine take_d (i := 16) (d := 86) (v := ?_) rfl rfl (by kernel_rfl) (by kernel_rfl) (by kernel_rfl) (fun _ _ _ h => h) (Or.inl ⟨by rfl, ?_⟩) hHeld ?_
      rotate_left
      · intro w hSw; (try dsimp only at hSw); go_simp; (try with_reducible rfl)
      try simp only [Act.put, List.setIfInBounds_toArray, List.set_cons_zero, List.set_cons_succ]
      refine take_d (i := 17) (d := 87) (v := ?_) rfl rfl (by kernel_rfl) (by kernel_rfl) (by kernel_rfl) (fun _ _ _ h => h) (Or.inl ⟨by rfl, ?_⟩) hHeld ?_
      rotate_left
      · intro w hSw; (try dsimp only at hSw); go_simp; (try with_reducible rfl)
      try simp only [Act.put, List.setIfInBounds_toArray, List.set_cons_zero, List.set_cons_succ]
      refine take_d (i := 18) (d := 88) (v := ?_) rfl rfl (by kernel_rfl) (by kernel_rfl) (by kernel_rfl) (fun _ _ _ h => h) (Or.inl ⟨by rfl, ?_⟩) hHeld ?_
      rotate_left
      · intro w hSw; (try dsimp only at hSw); go_simp; (try with_reducible rfl)
      try simp only [Act.put, List.setIfInBounds_toArray, List.set_cons_zero, List.set_cons_succ]
      refine take_d (i := 19) (d := 89) (v := ?_) rfl rfl (by kernel_rfl) (by kernel_rfl) (by kernel_rfl) (fun _ _ _ h => h) (Or.inl ⟨by rfl, ?_⟩) hHeld ?_
      rotate_left
      · intro w hSw; (try dsimp only at hSw); go_simp; (try with_reducible rfl)
      try simp only [Act.put, List.setIfInBounds_toArray, List.set_cons_zero, List.set_cons_succ]
      refine take_d (i := 20) (d := 90) (v := ?_) rfl rfl (by kernel_rfl) (by kernel_rfl) (by kernel_rfl) (fun _ _ _ h => h) (Or.inl ⟨by rfl, ?_⟩) hHeld ?_
      rotate_left
      · intro w hSw; (try dsimp only at hSw); go_simp; (try with_reducible rfl)
      try simp only [Act.put, List.setIfInBounds_toArray, List.set_cons_zero, List.set_cons_succ]
      obtain ⟨yj, hyj⟩ : ∃ w', w' = yi.alloc (.cells #[.int .i64 k7, .string nm7, .int .i64 vk7, .int .i64 vn7, .string vt7, .string op7, .slice B7 m7 c7, .int .i64 1, .string name, .int .i64 0, .int .i64 0, .string ⟨#[]⟩, .string ⟨#[]⟩, .slice none 0 0] 33) := ⟨_, rfl⟩
      have tj : Touch [] yi yj := by rw [hyj]; exact (Touch.refl [] yi).alloc _
      have hxc := ExP.of2 (n := 61) (w := yi) (x := ⟨⟨k7, nm7, ⟨vk7, vn7, vt7⟩, op7⟩, B7, m7, c7⟩) (y := ⟨⟨1, name, ⟨0, 0, ⟨#[]⟩⟩, ⟨#[]⟩⟩, none, 0, 0⟩) (b := ((⟨1, name, ⟨0, 0, ⟨#[]⟩⟩, ⟨#[]⟩⟩, []) : TX 61)) (cs := #[.int .i64 k7, .string nm7, .int .i64 vk7, .int .i64 vn7, .string vt7, .string op7, .slice B7 m7 c7, .int .i64 1, .string name, .int .i64 0, .int .i64 0, .string ⟨#[]⟩, .string ⟨#[]⟩, .slice none 0 0]) ⟨5, name, ⟨0, 0, ⟨#[]⟩⟩, ⟨#[]⟩⟩ 2 rfl hx (leafX 60 _ _)
      rw [← hyj] at hxc
      refine wpAnyH_ready (rs := [21]) (by kernel_rfl) (by simp) ?_
      refine AllReadyH.cons rfl (fun K hK => ?_) AllReadyH.nil
      go_simp
      (try go_wp2_with fail)
      rw [← hyj]
      replace q1 := tj.blk q1 (by simp)
      replace q2 := tj.blk q2 (by simp)
      replace q3 := tj.blk q3 (by simp)
      replace q7 := tj.blk q7 (by simp)
      replace q8 := tj.blk q8 (by simp)
      replace hu := hu.touch0 tj
      replace hbb := hbb.touch0 tj
      replace hcc := hcc.touch0 tj
      replace hx := hx.touch0 tj
      replace Te := Te.trans0 tj
      obtain ⟨xa0, xa1, xa2, xa3, xa4, xa5, xa6, _⟩ := blk7 q1
      obtain ⟨xb0, xb1, xb2, xb3, xb4, xb5, xb6, _⟩ := blk7 q2
      obtain ⟨xc0, xc1, xc2, xc3, xc4, xc5, xc6, _⟩ := blk7 q3
      obtain ⟨xd0, xd1, xd2, xd3, xd4, xd5, xd6, _⟩ := blk7 q7
      obtain ⟨xf0, xf1, xf2, xf3, xf4, xf5, xf6, _⟩ := blk7 q8
      refine hK.out _ _ ⟨xa0, xa1, xa2, xa3, xa4, xa5, xa6, xb0, xb1, xb2, xb3, xb4, xb5, xb6, xc0, xc1, xc2, xc3, xc4, xc5, xc6, xd0, xd1, xd2, xd3, xd4, xd5, xd6, xf0, xf1, xf2, xf3, xf4, xf5, xf6⟩ (fun hHeld => ?_)
      clear hK K hyj
      try simp only [Act.put, List.setIfInBounds_toArray, List.set_cons_zero, List.set_cons_succ]
      clear xa0 xa1 xa2 xa3 xa4 xa5 xa6 xb0 xb1 xb2 xb3 xb4 xb5 xb6 xc0 xc1 xc2 xc3 xc4 xc5 xc6 xd0 xd1 xd2 xd3 xd4 xd5 xd6 xf0 xf1 xf2 xf3 xf4 xf5 xf6
      refine take_d (i := 22) (d := 92) (v := ?_) rfl rfl (by kernel_rfl) (by kernel_rfl) (by kernel_rfl) (fun _ _ _ h => h) (Or.inl ⟨by rfl, ?_⟩) hHeld ?_
      rotate_left
      · intro w hSw; (try dsimp only at hSw); go_simp; (try with_reducible rfl)
      try simp only [Act.put, List.setIfInBounds_toArray, List.set_cons_zero, List.set_cons_succ]
      rw [← Htc.out] at hxc
      have heq := equalX_any 62 tc tc _ _ _ hcc hxc (by have := Hszc.out; omega) (by have := Hszc.out; omega)
      rw [Heqc.out] at heq
      refine wpAnyH_ready (rs := [23]) (by kernel_rfl) (by simp) ?_
      refine AllReadyH.cons rfl (fun K hK => ?_) AllReadyH.nil
      go_simp
      go_at_call 29
      refine heq.mono ?_
      rintro e yk ⟨rfl, tk⟩
      (try go_wp2_with fail)
      replace q1 := tk.blk q1 (by simp)
      replace q2 := tk.blk q2 (by simp)
      replace q3 := tk.blk q3 (by simp)
      replace q7 := tk.blk q7 (by simp)
      replace q8 := tk.blk q8 (by simp)
      replace hu := hu.touch0 tk
      replace hbb := hbb.touch0 tk
      replace hcc := hcc.touch0 tk
      replace hx := hx.touch0 tk
      replace Te := Te.trans0 tk
      obtain ⟨xa0, xa1, xa2, xa3, xa4, xa5, xa6, _⟩ := blk7 q1
      obtain ⟨xb0, xb1, xb2, xb3, xb4, xb5, xb6, _⟩ := blk7 q2
      obtain ⟨xc0, xc1, xc2, xc3, xc4, xc5, xc6, _⟩ := blk7 q3
      obtain ⟨xd0, xd1, xd2, xd3, xd4, xd5, xd6, _⟩ := blk7 q7
      obtain ⟨xf0, xf1, xf2, xf3, xf4, xf5, xf6, _⟩ := blk7 q8
      refine hK.out _ _ ⟨xa0, xa1, xa2, xa3, xa4, xa5, xa6, xb0, xb1, xb2, xb3, xb4, xb5, xb6, xc0, xc1, xc2, xc3, xc4, xc5, xc6, xd0, xd1, xd2, xd3, xd4, xd5, xd6, xf0, xf1, xf2, xf3, xf4, xf5, xf6⟩ (fun hHeld => ?_)
      clear hK K
      try simp only [Act.put, List.setIfInBounds_toArray, List.set_cons_zero, List.set_cons_succ]
      clear xa0 xa1 xa2 xa3 xa4 xa5 xa6 xb0 xb1 xb2 xb3 xb4 xb5 xb6 xc0 xc1 xc2 xc3 xc4 xc5 xc6 xd0 xd1 xd2 xd3 xd4 xd5 xd6 xf0 xf1 xf2 xf3 xf4 xf5 xf6
      clear heq hxc
      refine take_d (i := 24) (d := 94) (v := ?_) rfl rfl (by kernel_rfl) (by kernel_rfl) (by kernel_rfl) (fun _ _ _ h => h) (Or.inl ⟨by rfl, ?_⟩) hHeld ?_
      rotate_left
      · intro w hSw; (try dsimp only at hSw); go_simp; (try with_reducible rfl)
      try simp only [Act.put, List.setIfInBounds_toArray, List.set_cons_zero, List.set_cons_succ]
      refine take_d (i := 25) (d := 95) (v := ?_) rfl rfl (by kernel_rfl) (by kernel_rfl) (by kernel_rfl) (fun _ _ _ h => h) (Or.inl ⟨by rfl, ?_⟩) hHeld ?_
      rotate_left
      · intro w hSw; (try dsimp only at hSw); go_simp; (try with_reducible rfl)
      try simp only [Act.put, List.setIfInBounds_toArray, List.set_cons_zero, List.set_cons_succ]
      refine take_d (i := 26) (d := 96) (v := ?_) rfl rfl (by kernel_rfl) (by kernel_rfl) (by kernel_rfl) (fun _ _ _ h => h) (Or.inl ⟨by rfl, ?_⟩) hHeld ?_
      rotate_left
      · intro w hSw; (try dsimp only at hSw); go_simp; (try with_reducible rfl)
      try simp only [Act.put, List.setIfInBounds_toArray, List.set_cons_zero, List.set_cons_succ]
      refine take_d (i := 28) (d := 98) (v := ?_) rfl rfl (by kernel_rfl) (by kernel_rfl) (by kernel_rfl) (fun _ _ _ h => h) (Or.inl ⟨by rfl, ?_⟩) hHeld ?_
      rotate_left
      · intro w hSw; (try dsimp only at hSw); go_simp; (try with_reducible rfl)
      try simp only [Act.put, List.setIfInBounds_toArray, List.set_cons_zero, List.set_cons_succ]
      have hs1 := sizeX_any 62 tu _ _ hu (by have := Hszu.out; omega)
      rw [Hszu.out] at hs1
      refine wpAnyH_ready (rs := [27]) (by kernel_rfl) (by simp) ?_
      refine AllReadyH.cons rfl (fun K hK => ?_) AllReadyH.nil
      go_simp
      go_at_call 26
      refine hs1.mono ?_
      rintro e yl ⟨rfl, tl⟩
      (try go_wp2_with fail)
      replace q1 := tl.blk q1 (by simp)
      replace q2 := tl.blk q2 (by simp)
      replace q3 := tl.blk q3 (by simp)
      replace q7 := tl.blk q7 (by simp)
      replace q8 := tl.blk q8 (by simp)
      replace hu := hu.touch0 tl
      replace hbb := hbb.touch0 tl
      replace hcc := hcc.touch0 tl
      replace hx := hx.touch0 tl
      replace Te := Te.trans0 tl
      obtain ⟨xa0, xa1, xa2, xa3, xa4, xa5, xa6, _⟩ := blk7 q1
      obtain ⟨xb0, xb1, xb2, xb3, xb4, xb5, xb6, _⟩ := blk7 q2
      obtain ⟨xc0, xc1, xc2, xc3, xc4, xc5, xc6, _⟩ := blk7 q3
      obtain ⟨xd0, xd1, xd2, xd3, xd4, xd5, xd6, _⟩ := blk7 q7
      obtain ⟨xf0, xf1, xf2, xf3, xf4, xf5, xf6, _⟩ := blk7 q8
      refine hK.out _ _ ⟨xa0, xa1, xa2, xa3, xa4, xa5, xa6, xb0, xb1, xb2, xb3, xb4, xb5, xb6, xc0, xc1, xc2, xc3, xc4, xc5, xc6, xd0, xd1, xd2, xd3, xd4, xd5, xd6, xf0, xf1, xf2, xf3, xf4, xf5, xf6⟩ (fun hHeld => ?_)
      clear hK K
      try simp only [Act.put, List.setIfInBounds_toArray, List.set_cons_zero, List.set_cons_succ]
      clear xa0 xa1 xa2 xa3 xa4 xa5 xa6 xb0 xb1 xb2 xb3 xb4 xb5 xb6 xc0 xc1 xc2 xc3 xc4 xc5 xc6 xd0 xd1 xd2 xd3 xd4 xd5 xd6 xf0 xf1 xf2 xf3 xf4 xf5 xf6
      clear hs1
      have hs2 := sizeX_any 61 ta _ _ hx (by rw [← Hsz.out]; omega)
      rw [← Hsz.out] at hs2
      refine wpAnyH_ready (rs := [29]) (by kernel_rfl) (by simp) ?_
      refine AllReadyH.cons rfl (fun K hK => ?_) AllReadyH.nil
      go_simp
      go_at_call 26
      refine hs2.mono ?_
      rintro e ym ⟨rfl, tm⟩
      (try go_wp2_with fail)
      replace q1 := tm.blk q1 (by simp)
      replace q2 := tm.blk q2 (by simp)
      replace q3 := tm.blk q3 (by simp)
      replace q7 := tm.blk q7 (by simp)
      replace q8 := tm.blk q8 (by simp)
      replace hu := hu.touch0 tm
      replace hbb := hbb.touch0 tm
      replace hcc := hcc.touch0 tm
      replace hx := hx.touch0 tm
      replace Te := Te.trans0 tm
      obtain ⟨xa0, xa1, xa2, xa3, xa4, xa5, xa6, _⟩ := blk7 q1
      obtain ⟨xb0, xb1, xb2, xb3, xb4, xb5, xb6, _⟩ := blk7 q2
      obtain ⟨xc0, xc1, xc2, xc3, xc4, xc5, xc6, _⟩ := blk7 q3
      obtain ⟨xd0, xd1, xd2, xd3, xd4, xd5, xd6, _⟩ := blk7 q7
      obtain ⟨xf0, xf1, xf2, xf3, xf4, xf5, xf6, _⟩ := blk7 q8
      refine hK.out _ _ ⟨xa0, xa1, xa2, xa3, xa4, xa5, xa6, xb0, xb1, xb2, xb3, xb4, xb5, xb6, xc0, xc1, xc2, xc3, xc4, xc5, xc6, xd0, xd1, xd2, xd3, xd4, xd5, xd6, xf0, xf1, xf2, xf3, xf4, xf5, xf6⟩ (fun hHeld => ?_)
      clear hK K
      try simp only [Act.put, List.setIfInBounds_toArray, List.set_cons_zero, List.set_cons_succ]
      clear xa0 xa1 xa2 xa3 xa4 xa5 xa6 xb0 xb1 xb2 xb3 xb4 xb5 xb6 xc0 xc1 xc2 xc3 xc4 xc5 xc6 xd0 xd1 xd2 xd3 xd4 xd5 xd6 xf0 xf1 xf2 xf3 xf4 xf5 xf6
      clear hs2
      have hse : (((1 + sz : Nat) : Int) == (sz : Int) + 1) = true := by rw [beq_iff_eq]; omega
      have hse2 : ((1 : Int) + (sz : Int) == (sz : Int) + 1) = true := by rw [beq_iff_eq]; omega
      have hsw : IntKind.i64.wrap ((sz : Int) + 1) = (sz : Int) + 1 := IntWalk.i64_in _ (by omega)
      refine take_d (i := 30) (d := 100) (v := ?_) rfl rfl (by kernel_rfl) (by kernel_rfl) (by kernel_rfl) (fun _ _ _ h => h) (Or.inl ⟨by rfl, ?_⟩) hHeld ?_
      rotate_left
      · intro w hSw; (try dsimp only at hSw); go_simp; (try with_reducible rfl)
      try simp only [Act.put, List.setIfInBounds_toArray, List.set_cons_zero, List.set_cons_succ]
      refine take_d (i := 31) (d := 101) (v := ?_) rfl rfl (by kernel_rfl) (by kernel_rfl) (by kernel_rfl) (fun _ _ _ h => h) (Or.inl ⟨by rfl, ?_⟩) hHeld ?_
      rotate_left
      · intro w hSw; (try dsimp only at hSw); go_simp; (try with_reducible rfl)
      try simp only [Act.put, List.setIfInBounds_toArray, List.set_cons_zero, List.set_cons_succ]
      refine take_d (i := 32) (d := 102) (v := ?_) rfl rfl (by kernel_rfl) (by kernel_rfl) (by kernel_rfl) (fun _ _ _ h => h) (Or.inl ⟨by rfl, ?_⟩) hHeld ?_
      rotate_left
      · intro w hSw; (try dsimp only at hSw); go_simp; (try with_reducible rfl)
      try simp only [Act.put, List.setIfInBounds_toArray, List.set_cons_zero, List.set_cons_succ]
      refine take_d (i := 33) (d := 103) (v := ?_) rfl rfl (by kernel_rfl) (by kernel_rfl) (by kernel_rfl) (fun _ _ _ h => h) (Or.inl ⟨by rfl, ?_⟩) hHeld ?_
      rotate_left
      · intro w hSw; (try dsimp only at hSw); go_simp; (try with_reducible rfl)
      try simp only [Act.put, List.setIfInBounds_toArray, List.set_cons_zero, List.set_cons_succ]
      refine wpAnyH_ready (rs := [34]) (by kernel_rfl) (by simp) ?_
      refine AllReadyH.cons rfl (fun K hK => ?_) AllReadyH.nil
      go_simp
      go_at_call 11
      refine (Haw.out _).mono ?_
      rintro e yn ⟨rfl, tn⟩
      (try go_wp2_with fail)
      replace q1 := tn.blk q1 (by simp)
      replace q2 := tn.blk q2 (by simp)
      replace q3 := tn.blk q3 (by simp)
      replace q7 := tn.blk q7 (by simp)
      replace q8 := tn.blk q8 (by simp)
      replace hu := hu.touch0 tn
      replace hbb := hbb.touch0 tn
      replace hcc := hcc.touch0 tn
      replace hx := hx.touch0 tn
      replace Te := Te.trans0 tn
      obtain ⟨xa0, xa1, xa2, xa3, xa4, xa5, xa6, _⟩ := blk7 q1
      obtain ⟨xb0, xb1, xb2, xb3, xb4, xb5, xb6, _⟩ := blk7 q2
      obtain ⟨xc0, xc1, xc2, xc3, xc4, xc5, xc6, _⟩ := blk7 q3
      obtain ⟨xd0, xd1, xd2, xd3, xd4, xd5, xd6, _⟩ := blk7 q7
      obtain ⟨xf0, xf1, xf2, xf3, xf4, xf5, xf6, _⟩ := blk7 q8
      refine hK.out _ _ ⟨xa0, xa1, xa2, xa3, xa4, xa5, xa6, xb0, xb1, xb2, xb3, xb4, xb5, xb6, xc0, xc1, xc2, xc3, xc4, xc5, xc6, xd0, xd1, xd2, xd3, xd4, xd5, xd6, xf0, xf1, xf2, xf3, xf4, xf5, xf6⟩ (fun hHeld => ?_)
      clear hK K
      try simp only [Act.put, List.setIfInBounds_toArray, List.set_cons_zero, List.set_cons_succ]
      clear xa0 xa1 xa2 xa3 xa4 xa5 xa6 xb0 xb1 xb2 xb3 xb4 xb5 xb6 xc0 xc1 xc2 xc3 xc4 xc5 xc6 xd0 xd1 xd2 xd3 xd4 xd5 xd6 xf0 xf1 xf2 xf3 xf4 xf5 xf6
      refine take_d (i := 35) (d := 105) (v := ?_) rfl rfl (by kernel_rfl) (by kernel_rfl) (by kernel_rfl) (fun _ _ _ h => h) (Or.inl ⟨by rfl, ?_⟩) hHeld ?_
      rotate_left
      · intro w hSw; (try dsimp only at hSw); go_simp; (try with_reducible rfl)
      try simp only [Act.put, List.setIfInBounds_toArray, List.set_cons_zero, List.set_cons_succ]
      refine wpAnyH_ready (rs := [36]) (by kernel_rfl) (by simp) ?_
      refine AllReadyH.cons rfl (fun K hK => ?_) AllReadyH.nil
      go_simp
      (try go_wp2_with fail)
      refine hK.out _ _ hHeld (fun _ => ?_)
      clear hK K
      try simp only [Act.put, List.setIfInBounds_toArray, List.set_cons_zero, List.set_cons_succ]
      refine wpAnyH_done (by kernel_rfl) ?_ _
      go_wp2_with fail
      go_ret
      exact ⟨rfl, Te⟩
end Go.Proofs.Ytlkckkagoommaaa
