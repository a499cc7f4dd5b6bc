/- disk.Disk.Append: the walk. -/
import Derived.Test.YtgpadejkmpfafaaDisk
import Derived.Deep.RegionHeld3
import Derived.Deep.RegionLaw
namespace Go.Proofs.Ytgpadejkmpfafaa
open Go.RowKit

/-- what a call leaves of a disk: these files and fields; nothing else that was there is touched -/
def DStep (g : Nat) (fs : List DF) (V : List (List UInt8 × Nat)) (r : DR) (w w' : World) : Prop :=
  ∃ fs', DiskAt w' g fs' r ∧ fs'.map (fun f => (f.l, f.safe)) = V ∧ Touch (dfp g fs) w w' ∧ ∀ b ∈ dfp g fs', b ∈ dfp g fs ∨ w.heap.size ≤ b
def view (fs : List DF) : List (List UInt8 × Nat) := fs.map fun f => (f.l, f.safe)

theorem mem_dfp {g : Nat} {fs : List DF} {b : Nat} : b ∈ dfp g fs ↔ b = g ∨ ∃ i, ∃ h : i < fs.length, b ∈ fpo fs[i].A := by
  simp only [dfp, List.mem_cons, List.mem_flatMap]
  constructor
  · rintro (h | ⟨f, hf, hb⟩)
    · exact .inl h
    · obtain ⟨i, hi, rfl⟩ := List.getElem_of_mem hf
      exact .inr ⟨i, hi, hb⟩
  · rintro (h | ⟨i, hi, hb⟩)
    · exact .inl h
    · exact .inr ⟨fs[i], List.getElem_mem hi, hb⟩

theorem dfp_lt {w : World} {g : Nat} {fs : List DF} {r : DR} (hd : DiskAt w g fs r) : ∀ b ∈ dfp g fs, b < w.heap.size := by
  intro b hb
  rcases mem_dfp.1 hb with rfl | ⟨i, hi, hm⟩
  · exact lt_of_block hd.blk
  · exact (hd.ok i hi).1.lt b hm

theorem disk_setFile {w w' : World} {g : Nat} {fs : List DF} {r r' : DR} (hd : DiskAt w g fs r) (n : Nat) (hn : n < fs.length) (f : DF)
    (blk : w'.heap[g]? = some (.cells (dcells (fs.set n f) r') 72 (0, 0))) (hown : OwnB w' f.A f.c f.l) (hs : f.safe ≤ f.l.length) (T : Touch (g :: fpo fs[n].A) w w')
    (hf : ∀ b ∈ fpo f.A, b ∈ fpo fs[n].A ∨ w.heap.size ≤ b) (rok : r'.ok) (hus : used (fs.set n f) ≤ 1073741824) : DStep g fs ((view fs).set n (f.l, f.safe)) r' w w' := by
  have hgl := lt_of_block hd.blk
  have hgf : g ∉ fpo f.A := fun hm => by
    rcases hf g hm with h | h
    · exact (hd.ok n hn).2.2 h
    · omega
  refine ⟨fs.set n f, ⟨blk, by simp [hd.len], ?_, ?_, rok, hus⟩, by simp [view, List.map_set], ?_, ?_⟩
  · intro i hi
    by_cases e : n = i
    · subst e
      rw [List.getElem_set_self]
      exact ⟨hown, hs, hgf⟩
    · rw [List.getElem_set_ne e]
      have hi' : i < fs.length := by simpa using hi
      obtain ⟨h1, h2, h3⟩ := hd.ok i hi'
      refine ⟨h1.touch T (fun b hb hm => ?_), h2, h3⟩
      rcases List.mem_cons.1 hm with h | h
      · exact h3 (h ▸ hb)
      · exact hd.apart i n hi' hn (fun e' => e e'.symm) b hb h
  · have key : ∀ j, (hj : j < fs.length) → j ≠ n → ∀ x ∈ fpo f.A, x ∉ fpo fs[j].A := fun j hj hne x hx hm => by
      rcases hf x hx with h | h
      · exact hd.apart n j hn hj (fun e => hne e.symm) x h hm
      · have := (hd.ok j hj).1.lt x hm; omega
    intro i j hi hj hij
    have hi' : i < fs.length := by simpa using hi
    have hj' : j < fs.length := by simpa using hj
    by_cases ei : n = i
    · subst ei
      rw [List.getElem_set_self, List.getElem_set_ne hij]
      exact fun x hx => key j hj' (fun e => hij e.symm) x hx
    · by_cases ej : n = j
      · subst ej
        rw [List.getElem_set_self, List.getElem_set_ne ei]
        exact fun x hx hm => key i hi' hij x hm hx
      · rw [List.getElem_set_ne ei, List.getElem_set_ne ej]
        exact hd.apart i j hi' hj' hij
  · exact T.mono (fun b hb => .inl (by
      rcases List.mem_cons.1 hb with h | h
      · exact mem_dfp.2 (.inl h)
      · exact mem_dfp.2 (.inr ⟨n, hn, h⟩)))
  · intro b hb
    rcases mem_dfp.1 hb with h | ⟨i, hi, hm⟩
    · exact .inl (mem_dfp.2 (.inl h))
    · have hi' : i < fs.length := by simpa using hi
      by_cases e : n = i
      · subst e
        rw [List.getElem_set_self] at hm
        rcases hf b hm with h | h
        · exact .inl (mem_dfp.2 (.inr ⟨n, hn, h⟩))
        · exact .inr h
      · rw [List.getElem_set_ne e] at hm
        exact .inl (mem_dfp.2 (.inr ⟨i, hi', hm⟩))

theorem cmdR_ok {r : DR} (h : r.ok) (hd : r.done < 1073741824) : (cmdR r).ok := by
  obtain ⟨k1, k2, k3, k4, k5, k6⟩ := h
  unfold cmdR
  split
  · exact ⟨k1, k2, k3, k4, k5, k6⟩
  · exact ⟨k1, k2, by show -1 ≤ max (r.left - 1) (-1); omega, by show max (r.left - 1) (-1) ≤ _; omega, by show 0 ≤ r.done + 1; omega, by show r.done + 1 ≤ _; omega⟩

set_option maxHeartbeats 800000 in
theorem append_ok (g : Nat) (fs : List DF) (r : DR) (n : Nat) (A : Option Addr) (c : Nat) (b : List UInt8) (w : World) (hd : DiskAt w g fs r) (hr : RdB w A b)
    (hn : n < fs.length) (hdn : r.down = false) (hroom : (b.length : Int) ≤ r.cap - used fs) (hdone : r.done < 1073741824) :
    Calls Try.prog 12 #[.pointer (some ⟨g, 0, none⟩), .int .i64 n, .slice A b.length c] w fun e w' => e = .returned (.int .i64 (cmdE r)) ∧
      DStep g fs ((view fs).set n (fs[n].l ++ b, fs[n].safe)) (cmdR r) w w' := by
  have h4 := hd.len
  have c11 : w.cell? ⟨g, 11, none⟩ = some (.bool r.down) := cell_blk hd.blk (dcells_r h4).2.2.2
  have c8 : w.cell? ⟨g, 8, none⟩ = some (.int .i64 r.cap) := cell_blk hd.blk (dcells_r h4).1
  have hck : checkI r.down n = 0 := by simp only [checkI, hdn]; simp; omega
  have hg := lt_of_block hd.blk
  obtain ⟨k1, k2, k3, k4, k5, k6⟩ := hd.rok
  have hus := hd.used
  have hub : 0 ≤ r.cap - (used fs : Int) ∧ r.cap - (used fs : Int) ≤ 1073741824 := by omega
  have hn4 : (n : Int) < 4 := by omega
  have hn0 : (0 : Int) ≤ n := by omega
  have hwr : IntKind.i64.wrap (r.cap - (used fs : Int)) = r.cap - (used fs : Int) := IntWalk.i64_in _ (by omega)
  go_enter Try.func12, Try.ntmps12
  go_wp2_with (go_at_call 34; refine (check_any g r.down _ _ c11).mono ?_; rintro e w' ⟨rfl, rfl⟩; rw [hck])
  go_region_held3 (fun w' => w'.cell? ⟨g, 8, none⟩ = some (.int .i64 r.cap)) (first | exact c8 | exact ht1.cell c8 (by simp)) ((go_at_call 16; refine (used_any g fs r _ (by exact hd.blk) h4 hus).mono ?_; rintro e w1 ⟨rfl, ht1⟩))
  have blk1 := ht1.blk hd.blk (by simp)
  have hk := (hd.ok n hn).1
  have hgA := (hd.ok n hn).2.2
  have hlu := used_ge n hn
  have ht1' := ht1.ofDrew
  have cv : w1.cell? ⟨g, n * 2, none⟩ = some (.slice fs[n].A fs[n].l.length fs[n].c) := cell_blk blk1 (dcells_v h4 n hn)
  have zv := free_blk blk1 (n * 2)
  clear hwr
  go_wp2
  go_region_law (first | (refine step_appB rfl (.tmp 32) (.tmp 33) rfl fs[n].A fs[n].l.length fs[n].c fs[n].l rfl rfl (hk.touch0 ht1'.drew) A b.length c b rfl rfl (hr.touch0 ht1'.drew) (by omega) ?_; intro A2 c2 w2 hown2 ht2 hf2; have blk2 := ht2.blk (by exact blk1) hgA; have cv2 := cell_blk blk2 (dcells_v h4 n hn); have zv2 := free_blk blk2 (n * 2)))
  have blk3 := set_blk blk2 (n * 2) (.slice A2 (fs[n].l.length + b.length) c2)
  have hcs := dcells_set_v (r := r) h4 n hn ⟨A2, c2, fs[n].l ++ b, fs[n].safe⟩ rfl
  simp only [DF.v, List.length_append] at hcs
  rw [hcs] at blk3
  have T3 : Touch (g :: fpo fs[n].A) w (w2.setCell ⟨g, n * 2, none⟩ (.slice A2 (fs[n].l.length + b.length) c2)) :=
    ((ht1'.drew.mono (fp2 := g :: fpo fs[n].A) (by simp)).trans ht2 (fun b hb => .inl (by simp [hb]))).setCell (.inl (by simp)) _
  clear hcs
  go_wp2_with (go_at_call 35; refine (command_any g _ r _ blk3 (by simp [h4]) k3 k4 k5 (by omega)).mono ?_; rintro e w4 ⟨rfl, hc4, ht4⟩)
  go_ret
  have hA2 : ∀ x ∈ fpo A2, x ∈ fpo fs[n].A ∨ w.heap.size ≤ x := fun x hx => by
    rcases hf2 x hx with h | h
    · exact .inl h
    · have := ht1'.size; exact .inr (by simp at h; omega)
  have hgA2 : g ∉ fpo A2 := fun hm => by
    rcases hA2 g hm with h | h
    · exact hgA h
    · omega
  refine ⟨rfl, disk_setFile hd n hn ⟨A2, c2, fs[n].l ++ b, fs[n].safe⟩ hc4 ?_ ?_ (T3.trans ht4 (fun x hx => .inl (by simpa using Or.inl (by simpa using hx)))) hA2 (cmdR_ok hd.rok hdone) ?_⟩
  · exact (hown2.touch ((Touch.refl [g] w2).setCell (.inl (by simp)) _) (fun x hx hm => hgA2 ((by simpa using hm : x = g) ▸ hx))).touch ht4 (fun x hx hm => hgA2 ((by simpa using hm : x = g) ▸ hx))
  · have := (hd.ok n hn).2.1
    simp only [List.length_append]; omega
  · have := used_set n hn ⟨A2, c2, fs[n].l ++ b, fs[n].safe⟩
    simp only [List.length_append] at this
    omega

set_option maxHeartbeats 800000 in
theorem append_bad (g : Nat) (down : Bool) (n : Int) (b : Value) (w : World) (c11 : w.cell? ⟨g, 11, none⟩ = some (.bool down)) (hck : checkI down n ≠ 0) :
    Calls Try.prog 12 #[.pointer (some ⟨g, 0, none⟩), .int .i64 n, b] w fun e w' => e = .returned (.int .i64 (checkI down n)) ∧ w = w' := by
  have hne : (checkI down n == 0) = false := by rw [beq_eq_false_iff_ne]; exact hck
  have hne2 : (checkI down n != 0) = true := by rw [bne_iff_ne]; exact hck
  obtain ⟨q, hq⟩ : ∃ q, q = checkI down n := ⟨_, rfl⟩
  rw [← hq] at hne hne2 hck ⊢
  have Hq := Lib.hid hq; clear hq
  go_enter Try.func12, Try.ntmps12
  go_wp2_with (go_at_call 34; refine (check_any g down _ _ c11).mono ?_; rintro e w' ⟨rfl, rfl⟩; rw [← Hq.out])
  go_ret
  exact ⟨rfl, rfl⟩

set_option maxHeartbeats 800000 in
theorem append_full (g : Nat) (fs : List DF) (r : DR) (n : Nat) (A : Option Addr) (c : Nat) (b : List UInt8) (w : World) (hd : DiskAt w g fs r) (hbl : b.length ≤ 9223372036854775807)
    (hn : n < fs.length) (hdn : r.down = false) (hroom : r.cap - used fs < (b.length : Int)) :
    Calls Try.prog 12 #[.pointer (some ⟨g, 0, none⟩), .int .i64 n, .slice A b.length c] w fun e w' => e = .returned (.int .i64 41) ∧ Touch [] w w' := by
  have h4 := hd.len
  have c11 : w.cell? ⟨g, 11, none⟩ = some (.bool r.down) := cell_blk hd.blk (dcells_r h4).2.2.2
  have c8 : w.cell? ⟨g, 8, none⟩ = some (.int .i64 r.cap) := cell_blk hd.blk (dcells_r h4).1
  have hck : checkI r.down n = 0 := by simp only [checkI, hdn]; simp; omega
  obtain ⟨k1, k2, k3, k4, k5, k6⟩ := hd.rok
  have hus := hd.used
  have hwr : IntKind.i64.wrap (r.cap - (used fs : Int)) = r.cap - (used fs : Int) := IntWalk.i64_in _ (by omega)
  go_enter Try.func12, Try.ntmps12
  go_wp2_with (go_at_call 34; refine (check_any g r.down _ _ c11).mono ?_; rintro e w' ⟨rfl, rfl⟩; rw [hck])
  go_region_held3 (fun w' => w'.cell? ⟨g, 8, none⟩ = some (.int .i64 r.cap)) (first | exact c8 | exact ht1.cell c8 (by simp)) ((go_at_call 16; refine (used_any g fs r _ (by exact hd.blk) h4 hus).mono ?_; rintro e w1 ⟨rfl, ht1⟩))
  clear hwr
  go_wp2
  go_ret
  exact ⟨rfl, ht1.ofDrew⟩
end Go.Proofs.Ytgpadejkmpfafaa
