/- Part 4 of the texts of this proof, one behind the other; each begins with its own sentence. No condition beyond those that its theorems state. -/
import Derived.Test.YtlcpljpeljoboaaDoorSc3
import Derived.Deep.RegionHeld3
import Derived.Deep.RegionLaw
import Derived.RegionTactic
import Derived.BigRegion
/- disk.Disk.Append: the walk. -/
namespace Go.Proofs.YtlcpljpeljoboaaDoor
open Go.RowKit

/-- what a call leaves of a disk: these files and fields; nothing else that was there is touched -/
def DStep (g : Nat) (fs : List DF) (V : List (List UInt8 × Nat)) (r : DR) (w w' : World) : Prop :=
  ∃ fs', DiskAt w' g fs' r ∧ fs'.map (fun f => (f.l, f.safe)) = V ∧ Touch (dfp g fs) w w' ∧ ∀ b ∈ dfp g fs', b ∈ dfp g fs ∨ w.heap.size ≤ b
def view (fs : List DF) : List (List UInt8 × Nat) := fs.map fun f => (f.l, f.safe)

theorem mem_dfp {g : Nat} {fs : List DF} {b : Nat} : b ∈ dfp g fs ↔ b = g ∨ ∃ i, ∃ h : i < fs.length, b ∈ fpo fs[i].A := by
  simp only [dfp, List.mem_cons, List.mem_flatMap]
  constructor
  · rintro (h | ⟨f, hf, hb⟩)
    · exact .inl h
    · obtain ⟨i, hi, rfl⟩ := List.getElem_of_mem hf
      exact .inr ⟨i, hi, hb⟩
  · rintro (h | ⟨i, hi, hb⟩)
    · exact .inl h
    · exact .inr ⟨fs[i], List.getElem_mem hi, hb⟩

theorem dfp_lt {w : World} {g : Nat} {fs : List DF} {r : DR} (hd : DiskAt w g fs r) : ∀ b ∈ dfp g fs, b < w.heap.size := by
  intro b hb
  rcases mem_dfp.1 hb with rfl | ⟨i, hi, hm⟩
  · exact lt_of_block hd.blk
  · exact (hd.ok i hi).1.lt b hm

theorem disk_setFile {w w' : World} {g : Nat} {fs : List DF} {r r' : DR} (hd : DiskAt w g fs r) (n : Nat) (hn : n < fs.length) (f : DF)
    (blk : w'.heap[g]? = some (.cells (dcells (fs.set n f) r') 69 (0, 0))) (hown : OwnB w' f.A f.c f.l) (hs : f.safe ≤ f.l.length) (T : Touch (g :: fpo fs[n].A) w w')
    (hf : ∀ b ∈ fpo f.A, b ∈ fpo fs[n].A ∨ w.heap.size ≤ b) (rok : r'.ok) (hus : used (fs.set n f) ≤ 1073741824) : DStep g fs ((view fs).set n (f.l, f.safe)) r' w w' := by
  have hgl := lt_of_block hd.blk
  have hgf : g ∉ fpo f.A := fun hm => by
    rcases hf g hm with h | h
    · exact (hd.ok n hn).2.2 h
    · omega
  refine ⟨fs.set n f, ⟨blk, by simp [hd.len], ?_, ?_, rok, hus⟩, by simp [view, List.map_set], ?_, ?_⟩
  · intro i hi
    by_cases e : n = i
    · subst e
      rw [List.getElem_set_self]
      exact ⟨hown, hs, hgf⟩
    · rw [List.getElem_set_ne e]
      have hi' : i < fs.length := by simpa using hi
      obtain ⟨h1, h2, h3⟩ := hd.ok i hi'
      refine ⟨h1.touch T (fun b hb hm => ?_), h2, h3⟩
      rcases List.mem_cons.1 hm with h | h
      · exact h3 (h ▸ hb)
      · exact hd.apart i n hi' hn (fun e' => e e'.symm) b hb h
  · have key : ∀ j, (hj : j < fs.length) → j ≠ n → ∀ x ∈ fpo f.A, x ∉ fpo fs[j].A := fun j hj hne x hx hm => by
      rcases hf x hx with h | h
      · exact hd.apart n j hn hj (fun e => hne e.symm) x h hm
      · have := (hd.ok j hj).1.lt x hm; omega
    intro i j hi hj hij
    have hi' : i < fs.length := by simpa using hi
    have hj' : j < fs.length := by simpa using hj
    by_cases ei : n = i
    · subst ei
      rw [List.getElem_set_self, List.getElem_set_ne hij]
      exact fun x hx => key j hj' (fun e => hij e.symm) x hx
    · by_cases ej : n = j
      · subst ej
        rw [List.getElem_set_self, List.getElem_set_ne ei]
        exact fun x hx hm => key i hi' hij x hm hx
      · rw [List.getElem_set_ne ei, List.getElem_set_ne ej]
        exact hd.apart i j hi' hj' hij
  · exact T.mono (fun b hb => .inl (by
      rcases List.mem_cons.1 hb with h | h
      · exact mem_dfp.2 (.inl h)
      · exact mem_dfp.2 (.inr ⟨n, hn, h⟩)))
  · intro b hb
    rcases mem_dfp.1 hb with h | ⟨i, hi, hm⟩
    · exact .inl (mem_dfp.2 (.inl h))
    · have hi' : i < fs.length := by simpa using hi
      by_cases e : n = i
      · subst e
        rw [List.getElem_set_self] at hm
        rcases hf b hm with h | h
        · exact .inl (mem_dfp.2 (.inr ⟨n, hn, h⟩))
        · exact .inr h
      · rw [List.getElem_set_ne e] at hm
        exact .inl (mem_dfp.2 (.inr ⟨i, hi', hm⟩))

theorem cmdR_ok {r : DR} (h : r.ok) (hd : r.done < 1073741824) : (cmdR r).ok := by
  obtain ⟨k1, k2, k3, k4, k5, k6⟩ := h
  unfold cmdR
  split
  · exact ⟨k1, k2, k3, k4, k5, k6⟩
  · exact ⟨k1, k2, by show -1 ≤ max (r.left - 1) (-1); omega, by show max (r.left - 1) (-1) ≤ _; omega, by show 0 ≤ r.done + 1; omega, by show r.done + 1 ≤ _; omega⟩

set_option maxHeartbeats 800000 in
theorem append_ok (g : Nat) (fs : List DF) (r : DR) (n : Nat) (A : Option Addr) (c : Nat) (b : List UInt8) (w : World) (hd : DiskAt w g fs r) (hr : RdB w A b)
    (hn : n < fs.length) (hdn : r.down = false) (hroom : (b.length : Int) ≤ r.cap - used fs) (hdone : r.done < 1073741824) :
    Calls Tryd.prog 9 #[.pointer (some ⟨g, 0, none⟩), .int .i64 n, .slice A b.length c] w fun e w' => e = .returned (.int .i64 (cmdE r)) ∧
      DStep g fs ((view fs).set n (fs[n].l ++ b, fs[n].safe)) (cmdR r) w w' := by
  have h4 := hd.len
  have c11 : w.cell? ⟨g, 11, none⟩ = some (.bool r.down) := cell_blk hd.blk (dcells_r h4).2.2.2
  have c8 : w.cell? ⟨g, 8, none⟩ = some (.int .i64 r.cap) := cell_blk hd.blk (dcells_r h4).1
  have hck : checkI r.down n = 0 := by simp only [checkI, hdn]; simp; omega
  have hg := lt_of_block hd.blk
  obtain ⟨k1, k2, k3, k4, k5, k6⟩ := hd.rok
  have hus := hd.used
  have hub : 0 ≤ r.cap - (used fs : Int) ∧ r.cap - (used fs : Int) ≤ 1073741824 := by omega
  have hn4 : (n : Int) < 4 := by omega
  have hn0 : (0 : Int) ≤ n := by omega
  have hwr : IntKind.i64.wrap (r.cap - (used fs : Int)) = r.cap - (used fs : Int) := IntWalk.i64_in _ (by omega)
  go_enter Tryd.func9, Tryd.ntmps9
  go_wp2_with (go_at_call 33; refine (check_any g r.down _ _ c11).mono ?_; rintro e w' ⟨rfl, rfl⟩; rw [hck])
  go_region_held3 (fun w' => w'.cell? ⟨g, 8, none⟩ = some (.int .i64 r.cap)) (first | exact c8 | exact ht1.cell c8 (by simp)) ((go_at_call 34; refine (used_any g fs r _ (by exact hd.blk) h4 hus).mono ?_; rintro e w1 ⟨rfl, ht1⟩))
  have blk1 := ht1.blk hd.blk (by simp)
  have hk := (hd.ok n hn).1
  have hgA := (hd.ok n hn).2.2
  have hlu := used_ge n hn
  have ht1' := ht1.ofDrew
  have cv : w1.cell? ⟨g, n * 2, none⟩ = some (.slice fs[n].A fs[n].l.length fs[n].c) := cell_blk blk1 (dcells_v h4 n hn)
  have zv := free_blk blk1 (n * 2)
  clear hwr
  go_wp2
  go_region_law (first | (refine step_appB rfl (.tmp 32) (.tmp 33) rfl fs[n].A fs[n].l.length fs[n].c fs[n].l rfl rfl (hk.touch0 ht1'.drew) A b.length c b rfl rfl (hr.touch0 ht1'.drew) (by omega) ?_; intro A2 c2 w2 hown2 ht2 hf2; have blk2 := ht2.blk (by exact blk1) hgA; have cv2 := cell_blk blk2 (dcells_v h4 n hn); have zv2 := free_blk blk2 (n * 2)))
  have blk3 := set_blk blk2 (n * 2) (.slice A2 (fs[n].l.length + b.length) c2)
  have hcs := dcells_set_v (r := r) h4 n hn ⟨A2, c2, fs[n].l ++ b, fs[n].safe⟩ rfl
  simp only [DF.v, List.length_append] at hcs
  rw [hcs] at blk3
  have T3 : Touch (g :: fpo fs[n].A) w (w2.setCell ⟨g, n * 2, none⟩ (.slice A2 (fs[n].l.length + b.length) c2)) :=
    ((ht1'.drew.mono (fp2 := g :: fpo fs[n].A) (by simp)).trans ht2 (fun b hb => .inl (by simp [hb]))).setCell (.inl (by simp)) _
  clear hcs
  go_wp2_with (go_at_call 35; refine (command_any g _ r _ blk3 (by simp [h4]) k3 k4 k5 (by omega)).mono ?_; rintro e w4 ⟨rfl, hc4, ht4⟩)
  go_ret
  have hA2 : ∀ x ∈ fpo A2, x ∈ fpo fs[n].A ∨ w.heap.size ≤ x := fun x hx => by
    rcases hf2 x hx with h | h
    · exact .inl h
    · have := ht1'.size; exact .inr (by simp at h; omega)
  have hgA2 : g ∉ fpo A2 := fun hm => by
    rcases hA2 g hm with h | h
    · exact hgA h
    · omega
  refine ⟨rfl, disk_setFile hd n hn ⟨A2, c2, fs[n].l ++ b, fs[n].safe⟩ hc4 ?_ ?_ (T3.trans ht4 (fun x hx => .inl (by simpa using Or.inl (by simpa using hx)))) hA2 (cmdR_ok hd.rok hdone) ?_⟩
  · exact (hown2.touch ((Touch.refl [g] w2).setCell (.inl (by simp)) _) (fun x hx hm => hgA2 ((by simpa using hm : x = g) ▸ hx))).touch ht4 (fun x hx hm => hgA2 ((by simpa using hm : x = g) ▸ hx))
  · have := (hd.ok n hn).2.1
    simp only [List.length_append]; omega
  · have := used_set n hn ⟨A2, c2, fs[n].l ++ b, fs[n].safe⟩
    simp only [List.length_append] at this
    omega

set_option maxHeartbeats 800000 in
theorem append_bad (g : Nat) (down : Bool) (n : Int) (b : Value) (w : World) (c11 : w.cell? ⟨g, 11, none⟩ = some (.bool down)) (hck : checkI down n ≠ 0) :
    Calls Tryd.prog 9 #[.pointer (some ⟨g, 0, none⟩), .int .i64 n, b] w fun e w' => e = .returned (.int .i64 (checkI down n)) ∧ w = w' := by
  have hne : (checkI down n == 0) = false := by rw [beq_eq_false_iff_ne]; exact hck
  have hne2 : (checkI down n != 0) = true := by rw [bne_iff_ne]; exact hck
  obtain ⟨q, hq⟩ : ∃ q, q = checkI down n := ⟨_, rfl⟩
  rw [← hq] at hne hne2 hck ⊢
  have Hq := Lib.hid hq; clear hq
  go_enter Tryd.func9, Tryd.ntmps9
  go_wp2_with (go_at_call 33; refine (check_any g down _ _ c11).mono ?_; rintro e w' ⟨rfl, rfl⟩; rw [← Hq.out])
  go_ret
  exact ⟨rfl, rfl⟩

set_option maxHeartbeats 800000 in
theorem append_full (g : Nat) (fs : List DF) (r : DR) (n : Nat) (A : Option Addr) (c : Nat) (b : List UInt8) (w : World) (hd : DiskAt w g fs r) (hbl : b.length ≤ 9223372036854775807)
    (hn : n < fs.length) (hdn : r.down = false) (hroom : r.cap - used fs < (b.length : Int)) :
    Calls Tryd.prog 9 #[.pointer (some ⟨g, 0, none⟩), .int .i64 n, .slice A b.length c] w fun e w' => e = .returned (.int .i64 41) ∧ Touch [] w w' := by
  have h4 := hd.len
  have c11 : w.cell? ⟨g, 11, none⟩ = some (.bool r.down) := cell_blk hd.blk (dcells_r h4).2.2.2
  have c8 : w.cell? ⟨g, 8, none⟩ = some (.int .i64 r.cap) := cell_blk hd.blk (dcells_r h4).1
  have hck : checkI r.down n = 0 := by simp only [checkI, hdn]; simp; omega
  obtain ⟨k1, k2, k3, k4, k5, k6⟩ := hd.rok
  have hus := hd.used
  have hwr : IntKind.i64.wrap (r.cap - (used fs : Int)) = r.cap - (used fs : Int) := IntWalk.i64_in _ (by omega)
  go_enter Tryd.func9, Tryd.ntmps9
  go_wp2_with (go_at_call 33; refine (check_any g r.down _ _ c11).mono ?_; rintro e w' ⟨rfl, rfl⟩; rw [hck])
  go_region_held3 (fun w' => w'.cell? ⟨g, 8, none⟩ = some (.int .i64 r.cap)) (first | exact c8 | exact ht1.cell c8 (by simp)) ((go_at_call 34; refine (used_any g fs r _ (by exact hd.blk) h4 hus).mono ?_; rintro e w1 ⟨rfl, ht1⟩))
  clear hwr
  go_wp2
  go_ret
  exact ⟨rfl, ht1.ofDrew⟩
end Go.Proofs.YtlcpljpeljoboaaDoor

/- disk.Disk.Sync, Safe, Size, Read: the walks. -/
namespace Go.Proofs.YtlcpljpeljoboaaDoor
open Go.RowKit

set_option maxHeartbeats 800000 in
theorem sync_bad (g : Nat) (down : Bool) (n : Int) (w : World) (c11 : w.cell? ⟨g, 11, none⟩ = some (.bool down)) (hck : checkI down n ≠ 0) :
    Calls Tryd.prog 49 #[.pointer (some ⟨g, 0, none⟩), .int .i64 n] w fun e w' => e = .returned (.int .i64 (checkI down n)) ∧ w = w' := by
  have hne : (checkI down n == 0) = false := by rw [beq_eq_false_iff_ne]; exact hck
  have hne2 : (checkI down n != 0) = true := by rw [bne_iff_ne]; exact hck
  obtain ⟨q, hq⟩ : ∃ q, q = checkI down n := ⟨_, rfl⟩
  rw [← hq] at hne hne2 hck ⊢
  have Hq := Lib.hid hq; clear hq
  go_enter Tryd.func49, Tryd.ntmps49
  go_wp2_with (go_at_call 33; refine (check_any g down _ _ c11).mono ?_; rintro e w' ⟨rfl, rfl⟩; rw [← Hq.out])
  go_ret
  exact ⟨rfl, rfl⟩

theorem disk_setR {w w' : World} {g : Nat} {fs : List DF} {r r' : DR} (hd : DiskAt w g fs r) (blk : w'.heap[g]? = some (.cells (dcells fs r') 69 (0, 0))) (T : Touch [g] w w') (rok : r'.ok) : DStep g fs (view fs) r' w w' := by
  refine ⟨fs, ⟨blk, hd.len, fun i hi => ?_, hd.apart, rok, hd.used⟩, rfl, T.mono (fun b hb => .inl (by simp at hb; simp [dfp, hb])), fun b hb => .inl hb⟩
  obtain ⟨h1, h2, h3⟩ := hd.ok i hi
  exact ⟨h1.touch T (fun b hb hm => h3 ((by simpa using hm : b = g) ▸ hb)), h2, h3⟩
theorem disk_keep {w w' : World} {g : Nat} {fs : List DF} {r : DR} (hd : DiskAt w g fs r) (T : Touch [] w w') : DStep g fs (view fs) r w w' :=
  disk_setR hd (T.blk hd.blk (by simp)) (T.mono (by simp)) hd.rok

set_option maxHeartbeats 800000 in
theorem sync_ok (g : Nat) (fs : List DF) (r : DR) (n : Nat) (w : World) (hd : DiskAt w g fs r) (hn : n < fs.length) (hdn : r.down = false) (hdone : r.done < 1073741824) :
    Calls Tryd.prog 49 #[.pointer (some ⟨g, 0, none⟩), .int .i64 n] w fun e w' => e = .returned (.int .i64 (cmdE r)) ∧
      DStep g fs (if cmdE r = 0 then (view fs).set n (fs[n].l, fs[n].l.length) else view fs) (cmdR r) w w' := by
  have h4 := hd.len
  have c11 : w.cell? ⟨g, 11, none⟩ = some (.bool r.down) := cell_blk hd.blk (dcells_r h4).2.2.2
  have hck : checkI r.down n = 0 := by simp only [checkI, hdn]; simp; omega
  obtain ⟨k1, k2, k3, k4, k5, k6⟩ := hd.rok
  have hn4 : (n : Int) < 4 := by omega
  have hn0 : (0 : Int) ≤ n := by omega
  have hrk := cmdR_ok hd.rok hdone
  go_enter Tryd.func49, Tryd.ntmps49
  by_cases he : cmdE r = 0
  · have hif : ∀ {V V' : List (List UInt8 × Nat)}, (if cmdE r = 0 then V else V') = V := if_pos he
    rw [hif]
    go_wp2_with (first
      | (go_at_call 33; refine (check_any g r.down _ _ c11).mono ?_; rintro e w' ⟨rfl, rfl⟩; rw [hck])
      | (go_at_call 35; refine (command_any g fs r _ hd.blk h4 k3 k4 k5 (by omega)).mono ?_; rintro e w1 ⟨rfl, hc1, ht1⟩; have cv := cell_blk hc1 (dcells_v h4 n hn); have cs := cell_blk hc1 (dcells_s h4 n hn); have zs := free_blk hc1 (n * 2 + 1); rw [he]))
    unfold DF.v at cv
    go_region
    all_goals go_wp2
    all_goals go_ret
    have hset := dcells_set_s (r := cmdR r) h4 n hn ⟨fs[n].A, fs[n].c, fs[n].l, fs[n].l.length⟩ rfl
    have blk2 := set_blk hc1 (n * 2 + 1) (.int .i64 (fs[n].l.length : Nat))
    rw [hset] at blk2
    refine ⟨ret_int he.symm, disk_setFile hd n hn ⟨fs[n].A, fs[n].c, fs[n].l, fs[n].l.length⟩ (by exact blk2) ?_ (Nat.le_refl _) ?_ (fun b hb => .inl hb) hrk ?_⟩
    · have hg3 := (hd.ok n hn).2.2
      exact ((hd.ok n hn).1.touch ht1 (fun b hb hm => hg3 ((by simpa using hm : b = g) ▸ hb))).touch (((Touch.refl [g] w1).drew).setCell (.inl (by simp)) _) (fun b hb hm => hg3 ((by simpa using hm : b = g) ▸ hb))
    · exact ((ht1.drew).setCell (.inl (by simp)) _).mono (fun b hb => .inl (by simp at hb; simp [hb]))
    · have := used_set n hn ⟨fs[n].A, fs[n].c, fs[n].l, fs[n].l.length⟩
      simp only at this
      have := hd.used
      omega
  · have hif : ∀ {V V' : List (List UInt8 × Nat)}, (if cmdE r = 0 then V else V') = V' := if_neg he
    rw [hif]
    have hne : (cmdE r == 0) = false := by rw [beq_eq_false_iff_ne]; exact he
    obtain ⟨q, hq⟩ : ∃ q, q = cmdE r := ⟨_, rfl⟩
    rw [← hq] at hne he ⊢
    have Hq := Lib.hid hq; clear hq
    go_wp2_with (first
      | (go_at_call 33; refine (check_any g r.down _ _ c11).mono ?_; rintro e w' ⟨rfl, rfl⟩; rw [hck])
      | (go_at_call 35; refine (command_any g fs r _ hd.blk h4 k3 k4 k5 (by omega)).mono ?_; rintro e w1 ⟨rfl, hc1, ht1⟩; rw [← Hq.out]))
    go_ret
    exact ⟨rfl, disk_setR hd hc1 ht1 hrk⟩

set_option maxHeartbeats 800000 in
theorem safe_any (g : Nat) (fs : List DF) (r : DR) (n : Int) (w : World) (hd : DiskAt w g fs r) :
    Calls Tryd.prog 16 #[.pointer (some ⟨g, 0, none⟩), .int .i64 n] w fun e w' => e = .returned (.int .i64 (if 0 ≤ n ∧ n < 4 then (((view fs).getD n.toNat ([], 0)).2 : Int) else 0)) ∧ w = w' := by
  have h4 := hd.len
  by_cases hn : 0 ≤ n ∧ n < 4
  · obtain ⟨k, rfl⟩ : ∃ k : Nat, n = k := ⟨n.toNat, by omega⟩
    have hk : k < fs.length := by omega
    have hd1 : decide (0 ≤ (k : Int) ∧ (k : Int) < 4) = true := by simp; omega
    have cs := cell_blk hd.blk (dcells_s h4 k hk)
    have h40 : (k : Int) < 4 := hn.2
    have hv : ((view fs).getD k ([], 0)).2 = fs[k].safe := by simp [view, List.getD, hk]
    rw [if_pos hn, Int.toNat_natCast, hv]
    clear hn hv
    go_enter Tryd.func16, Tryd.ntmps16
    go_wp2_with (go_at_call 42; refine (has_any _ _).mono ?_; rintro e w' ⟨rfl, rfl⟩; rw [hd1])
    go_ret
    exact ⟨rfl, rfl⟩
  · have hd1 : decide (0 ≤ n ∧ n < 4) = false := by simp; omega
    rw [if_neg hn]
    go_enter Tryd.func16, Tryd.ntmps16
    go_wp2_with (go_at_call 42; refine (has_any _ _).mono ?_; rintro e w' ⟨rfl, rfl⟩; rw [hd1])
    go_ret
    exact ⟨rfl, rfl⟩

set_option maxHeartbeats 800000 in
theorem read_bad (g : Nat) (down : Bool) (n : Int) (w : World) (c11 : w.cell? ⟨g, 11, none⟩ = some (.bool down)) (hck : checkI down n ≠ 0) :
    Calls Tryd.prog 13 #[.pointer (some ⟨g, 0, none⟩), .int .i64 n] w fun e w' => e = .returned (.tuple #[.slice none 0 0, .int .i64 (checkI down n)]) ∧ w = w' := by
  have hne : (checkI down n == 0) = false := by rw [beq_eq_false_iff_ne]; exact hck
  have hne2 : (checkI down n != 0) = true := by rw [bne_iff_ne]; exact hck
  obtain ⟨q, hq⟩ : ∃ q, q = checkI down n := ⟨_, rfl⟩
  rw [← hq] at hne hne2 hck ⊢
  have Hq := Lib.hid hq; clear hq
  go_enter Tryd.func13, Tryd.ntmps13
  go_wp2_with (go_at_call 33; refine (check_any g down _ _ c11).mono ?_; rintro e w' ⟨rfl, rfl⟩; rw [← Hq.out])
  go_ret2
  exact ⟨rfl, rfl⟩

set_option maxHeartbeats 800000 in
theorem read_ok (g : Nat) (fs : List DF) (r : DR) (n : Nat) (w : World) (hd : DiskAt w g fs r) (hn : n < fs.length) (hdn : r.down = false) :
    Calls Tryd.prog 13 #[.pointer (some ⟨g, 0, none⟩), .int .i64 n] w fun e w' => ∃ A c, e = .returned (.tuple #[.slice A fs[n].l.length c, .int .i64 0]) ∧ CloneAt fs[n].l w w' A c := by
  have h4 := hd.len
  have c11 : w.cell? ⟨g, 11, none⟩ = some (.bool r.down) := cell_blk hd.blk (dcells_r h4).2.2.2
  have hck : checkI r.down n = 0 := by simp only [checkI, hdn]; simp; omega
  have hn4 : (n : Int) < 4 := by omega
  have cv := cell_blk hd.blk (dcells_v h4 n hn)
  have hu := used_ge n hn
  have hus := hd.used
  unfold DF.v at cv
  have hcl := clone_any fs[n].A fs[n].c fs[n].l w (hd.ok n hn).1.rd (by omega)
  have Hcl := Lib.hid hcl; clear hcl
  go_enter Tryd.func13, Tryd.ntmps13
  go_wp2_with (first
    | (go_at_call 33; refine (check_any g r.down _ _ c11).mono ?_; rintro e w' ⟨rfl, rfl⟩; rw [hck])
    | (go_at_call 43; refine Hcl.out.mono ?_; rintro e w1 ⟨A1, c1, rfl, h1⟩))
  go_ret2
  exact ⟨A1, c1, rfl, h1⟩
end Go.Proofs.YtlcpljpeljoboaaDoor

/- disk.New, Size, Down, Done, Capacity, Arm, Limit, Cut: the walks. -/
namespace Go.Proofs.YtlcpljpeljoboaaDoor
open Go.RowKit

set_option maxHeartbeats 800000 in
theorem new_bad (n : Int) (w : World) (h : ¬ (0 ≤ n ∧ n ≤ 1073741824)) : Calls Tryd.prog 8 #[.int .i64 n] w fun e w' => e = .returned (.pointer none) ∧ w = w' := by
  have hd : decide (0 ≤ n ∧ n ≤ 1073741824) = false := by simp; omega
  go_enter Tryd.func8, Tryd.ntmps8
  go_wp2_with (go_at_call 32; refine (right_any _ _).mono ?_; rintro e w' ⟨rfl, rfl⟩; rw [hd])
  go_ret
  exact ⟨rfl, rfl⟩

def noFile : DF := ⟨none, 0, [], 0⟩
theorem disk_new (w : World) (n : Int) (h : 0 ≤ n ∧ n ≤ 1073741824) : DiskAt (w.alloc (.cells (dcells [noFile, noFile, noFile, noFile] ⟨n, -1, 0, false⟩) 69)) w.heap.size [noFile, noFile, noFile, noFile] ⟨n, -1, 0, false⟩ := by
  have hok : ∀ i, (hi : i < [noFile, noFile, noFile, noFile].length) → [noFile, noFile, noFile, noFile][i] = noFile := by
    intro i hi
    rcases lt_four hi with rfl | rfl | rfl | rfl <;> rfl
  refine ⟨heap_alloc_new w _, rfl, fun i hi => ?_, fun i j hi hj _ => ?_, ⟨h.1, h.2, by simp, by simp, by simp, by simp⟩, by simp [used, noFile]⟩
  · rw [hok i hi]; exact ⟨OwnB.nil _, Nat.le_refl _, by simp [noFile, fpo]⟩
  · rw [hok i hi]; intro x hx; simp [noFile, fpo] at hx

set_option maxHeartbeats 800000 in
theorem new_ok (n : Int) (w : World) (h : 0 ≤ n ∧ n ≤ 1073741824) : Calls Tryd.prog 8 #[.int .i64 n] w fun e w' => e = .returned (.pointer (some ⟨w.heap.size, 0, none⟩)) ∧ w' = w.alloc (.cells (dcells [noFile, noFile, noFile, noFile] ⟨n, -1, 0, false⟩) 69) := by
  have hd : decide (0 ≤ n ∧ n ≤ 1073741824) = true := by simp; omega
  go_enter Tryd.func8, Tryd.ntmps8
  go_wp2_with (go_at_call 32; refine (right_any _ _).mono ?_; rintro e w' ⟨rfl, rfl⟩; rw [hd])
  go_ret
  exact ⟨rfl, rfl⟩

set_option maxHeartbeats 800000 in
theorem size_any (g : Nat) (fs : List DF) (r : DR) (n : Int) (w : World) (hd : DiskAt w g fs r) :
    Calls Tryd.prog 12 #[.pointer (some ⟨g, 0, none⟩), .int .i64 n] w fun e w' => e = .returned (.int .i64 (if 0 ≤ n ∧ n < 4 then (((view fs).getD n.toNat ([], 0)).1.length : Int) else 0)) ∧ w = w' := by
  have h4 := hd.len
  by_cases hn : 0 ≤ n ∧ n < 4
  · obtain ⟨k, rfl⟩ : ∃ k : Nat, n = k := ⟨n.toNat, by omega⟩
    have hk : k < fs.length := by omega
    have hd1 : decide (0 ≤ (k : Int) ∧ (k : Int) < 4) = true := by simp; omega
    have cs := cell_blk hd.blk (dcells_v h4 k hk)
    unfold DF.v at cs
    have h40 : (k : Int) < 4 := hn.2
    have hv : ((view fs).getD k ([], 0)).1 = fs[k].l := by simp [view, List.getD, hk]
    rw [if_pos hn, Int.toNat_natCast, hv]
    clear hn hv
    go_enter Tryd.func12, Tryd.ntmps12
    go_wp2_with (go_at_call 42; refine (has_any _ _).mono ?_; rintro e w' ⟨rfl, rfl⟩; rw [hd1])
    go_ret
    exact ⟨rfl, rfl⟩
  · have hd1 : decide (0 ≤ n ∧ n < 4) = false := by simp; omega
    rw [if_neg hn]
    go_enter Tryd.func12, Tryd.ntmps12
    go_wp2_with (go_at_call 42; refine (has_any _ _).mono ?_; rintro e w' ⟨rfl, rfl⟩; rw [hd1])
    go_ret
    exact ⟨rfl, rfl⟩

set_option maxHeartbeats 400000 in
theorem capacity_any (g : Nat) (x : Int) (w : World) (h : w.cell? ⟨g, 8, none⟩ = some (.int .i64 x)) : Calls Tryd.prog 28 #[.pointer (some ⟨g, 0, none⟩)] w fun e w' => e = .returned (.int .i64 x) ∧ w = w' := by
  go_enter Tryd.func28, Tryd.ntmps28
  go_wp2
  go_ret
  exact ⟨rfl, rfl⟩

set_option maxHeartbeats 400000 in
theorem arm_any (g : Nat) (fs : List DF) (r : DR) (n : Int) (w : World) (hd : DiskAt w g fs r) (hn : n ≤ 9223372036854775807) :
    Calls Tryd.prog 25 #[.pointer (some ⟨g, 0, none⟩), .int .i64 n] w fun e w' => e = .returned (.tuple #[]) ∧ DStep g fs (view fs) { r with left := max n (-1) } w w' := by
  have h4 := hd.len
  have c9 := cell_blk hd.blk (dcells_r h4).2.1
  have z9 := free_blk hd.blk 9
  obtain ⟨k1, k2, k3, k4, k5, k6⟩ := hd.rok
  go_enter Tryd.func25, Tryd.ntmps25
  by_cases h : n < -1
  · have hm : max n (-1) = -1 := by omega
    rw [hm]
    go_wp2
    go_end0
    have := set_blk hd.blk 9 (.int .i64 (-1))
    rw [(dcells_set_r h4).2.1] at this
    exact ⟨rfl, disk_setR hd this ((Touch.refl _ _).setCell (.inl (by simp)) _) ⟨k1, k2, by simp, by simp, k5, k6⟩⟩
  · have h' : -1 ≤ n := by omega
    have hm : max n (-1) = n := by omega
    rw [hm]
    go_wp2
    go_end0
    have := set_blk hd.blk 9 (.int .i64 n)
    rw [(dcells_set_r h4).2.1] at this
    exact ⟨rfl, disk_setR hd this ((Touch.refl _ _).setCell (.inl (by simp)) _) ⟨k1, k2, by simp; omega, hn, k5, k6⟩⟩

set_option maxHeartbeats 400000 in
theorem limit_any (g : Nat) (fs : List DF) (r : DR) (n : Int) (w : World) (hd : DiskAt w g fs r) :
    Calls Tryd.prog 31 #[.pointer (some ⟨g, 0, none⟩), .int .i64 n] w fun e w' => e = .returned (.tuple #[]) ∧ DStep g fs (view fs) (if 0 ≤ n ∧ n ≤ 1073741824 then { r with cap := n } else r) w w' := by
  have h4 := hd.len
  have c8 := cell_blk hd.blk (dcells_r h4).1
  have z8 := free_blk hd.blk 8
  obtain ⟨k1, k2, k3, k4, k5, k6⟩ := hd.rok
  go_enter Tryd.func31, Tryd.ntmps31
  by_cases h : 0 ≤ n ∧ n ≤ 1073741824
  · have hd1 : decide (0 ≤ n ∧ n ≤ 1073741824) = true := by simp; omega
    rw [if_pos h]
    go_wp2_with (go_at_call 32; refine (right_any _ _).mono ?_; rintro e w' ⟨rfl, rfl⟩; rw [hd1])
    go_end0
    have := set_blk hd.blk 8 (.int .i64 n)
    rw [(dcells_set_r h4).1] at this
    exact ⟨rfl, disk_setR hd this ((Touch.refl _ _).setCell (.inl (by simp)) _) ⟨h.1, h.2, k3, k4, k5, k6⟩⟩
  · have hd1 : decide (0 ≤ n ∧ n ≤ 1073741824) = false := by simp; omega
    rw [if_neg h]
    go_wp2_with (go_at_call 32; refine (right_any _ _).mono ?_; rintro e w' ⟨rfl, rfl⟩; rw [hd1])
    go_end0
    exact ⟨rfl, disk_keep hd (Touch.refl _ _)⟩

set_option maxHeartbeats 800000 in
theorem cut_bad (g : Nat) (down : Bool) (n size : Int) (w : World) (c11 : w.cell? ⟨g, 11, none⟩ = some (.bool down)) (hck : checkI down n ≠ 0) :
    Calls Tryd.prog 59 #[.pointer (some ⟨g, 0, none⟩), .int .i64 n, .int .i64 size] w fun e w' => e = .returned (.int .i64 (checkI down n)) ∧ w = w' := by
  have hne : (checkI down n == 0) = false := by rw [beq_eq_false_iff_ne]; exact hck
  have hne2 : (checkI down n != 0) = true := by rw [bne_iff_ne]; exact hck
  obtain ⟨q, hq⟩ : ∃ q, q = checkI down n := ⟨_, rfl⟩
  rw [← hq] at hne hne2 hck ⊢
  have Hq := Lib.hid hq; clear hq
  go_enter Tryd.func59, Tryd.ntmps59
  go_wp2_with (go_at_call 33; refine (check_any g down _ _ c11).mono ?_; rintro e w' ⟨rfl, rfl⟩; rw [← Hq.out])
  go_ret
  exact ⟨rfl, rfl⟩

set_option maxHeartbeats 800000 in
theorem cut_range (g : Nat) (fs : List DF) (r : DR) (n : Nat) (size : Int) (w : World) (hd : DiskAt w g fs r) (hn : n < fs.length) (hdn : r.down = false) (hs : size < 0 ∨ (fs[n].l.length : Int) < size) :
    Calls Tryd.prog 59 #[.pointer (some ⟨g, 0, none⟩), .int .i64 n, .int .i64 size] w fun e w' => e = .returned (.int .i64 30) ∧ w = w' := by
  have h4 := hd.len
  have c11 : w.cell? ⟨g, 11, none⟩ = some (.bool r.down) := cell_blk hd.blk (dcells_r h4).2.2.2
  have hck : checkI r.down n = 0 := by simp only [checkI, hdn]; simp; omega
  have hn4 : (n : Int) < 4 := by omega
  have cv := cell_blk hd.blk (dcells_v h4 n hn)
  unfold DF.v at cv
  by_cases h0 : size < 0
  all_goals
    go_enter Tryd.func59, Tryd.ntmps59
    have hs' : (fs[n].l.length : Int) < size ∨ size < 0 := hs.symm
    try have hs2 : (fs[n].l.length : Int) < size := hs'.resolve_right h0
    clear hs hs'
    go_wp2_with (go_at_call 33; refine (check_any g r.down _ _ c11).mono ?_; rintro e w' ⟨rfl, rfl⟩; rw [hck])
    go_ret
    exact ⟨rfl, rfl⟩
end Go.Proofs.YtlcpljpeljoboaaDoor

/- disk.Disk.Cut: the walk where the file gets shorter. -/
namespace Go.Proofs.YtlcpljpeljoboaaDoor
open Go.RowKit

set_option maxHeartbeats 1600000 in
theorem cut_ok (g : Nat) (fs : List DF) (r : DR) (n size : Nat) (w : World) (hd : DiskAt w g fs r) (hn : n < fs.length) (hdn : r.down = false) (hs : size ≤ fs[n].l.length) (hdone : r.done < 1073741824) :
    Calls Tryd.prog 59 #[.pointer (some ⟨g, 0, none⟩), .int .i64 n, .int .i64 size] w fun e w' => e = .returned (.int .i64 (cmdE r)) ∧
      DStep g fs (if cmdE r = 0 then (view fs).set n (fs[n].l.take size, size) else view fs) (cmdR r) w w' := by
  have h4 := hd.len
  have c11 : w.cell? ⟨g, 11, none⟩ = some (.bool r.down) := cell_blk hd.blk (dcells_r h4).2.2.2
  have hck : checkI r.down n = 0 := by simp only [checkI, hdn]; simp; omega
  have cv0 := cell_blk hd.blk (dcells_v h4 n hn)
  unfold DF.v at cv0
  obtain ⟨k1, k2, k3, k4, k5, k6⟩ := hd.rok
  have hn4 : (n : Int) < 4 := by omega
  have hn0 : (0 : Int) ≤ n := by omega
  have hrk := cmdR_ok hd.rok hdone
  have hlu := used_ge n hn
  have hus := hd.used
  have hle := (hd.ok n hn).1.le
  have hgA := (hd.ok n hn).2.2
  go_enter Tryd.func59, Tryd.ntmps59
  by_cases he : cmdE r = 0
  · have hif : ∀ {V V' : List (List UInt8 × Nat)}, (if cmdE r = 0 then V else V') = V := if_pos he
    rw [hif]
    have hs0 : (0 : Int) ≤ size := by omega
    have hs1 : (size : Int) ≤ fs[n].l.length := by omega
    have hs2 : (size : Int) ≤ fs[n].c := by omega
    go_wp2_with (first
      | (go_at_call 33; refine (check_any g r.down _ _ c11).mono ?_; rintro e w' ⟨rfl, rfl⟩; rw [hck])
      | (go_at_call 35; refine (command_any g fs r _ hd.blk h4 k3 k4 k5 (by omega)).mono ?_; rintro e w1 ⟨rfl, hc1, ht1⟩; have cv := cell_blk hc1 (dcells_v h4 n hn); have cs := cell_blk hc1 (dcells_s h4 n hn); have zs := free_blk hc1 (n * 2 + 1); have zv := free_blk hc1 (n * 2); rw [he]))
    unfold DF.v at cv
    have hrd := ((hd.ok n hn).1.touch ht1 (fun b hb hm => hgA ((by simpa using hm : b = g) ▸ hb))).rd.take size
    go_region_law (first | (go_simp; go_at_call 43; refine (clone_len fs[n].A size fs[n].c (fs[n].l.take size) (by simp; omega) _ (by exact hrd) (by omega)).mono ?_; rintro e w2 ⟨A2, c2, rfl, hown2, ht2, hf2⟩; have blk2 := ht2.blk hc1 (by simp); have cv2 := cell_blk blk2 (dcells_v h4 n hn); have cs2 := cell_blk blk2 (dcells_s h4 n hn); have zs2 := free_blk blk2 (n * 2 + 1); have zv2 := free_blk blk2 (n * 2)))
    go_wp2
    go_ret
    have hlen : (fs[n].l.take size).length = size := by simp; omega
    have blk3 := set_blk (set_blk blk2 (n * 2) (.slice A2 size c2)) (n * 2 + 1) (.int .i64 (size : Nat))
    have hset := dcells_set_f (r := cmdR r) h4 n hn ⟨A2, c2, fs[n].l.take size, size⟩
    simp only [DF.v, hlen] at hset
    rw [hset] at blk3
    have hgA2 : g ∉ fpo A2 := fun hm => by
      have h1 : w1.heap.size ≤ g := hf2 g hm
      have h2 := lt_of_block hc1
      omega
    refine ⟨ret_int he.symm, disk_setFile hd n hn ⟨A2, c2, fs[n].l.take size, size⟩ blk3 ?_ (by simp only [hlen]; exact Nat.le_refl _) ?_ (fun b hb => .inr ?_) hrk ?_⟩
    · exact hown2.touch (((Touch.refl [g] w2).setCell (.inl (by simp)) _).setCell (.inl (by simp)) _) (fun b hb hm => hgA2 ((by simpa using hm : b = g) ▸ hb))
    · exact ((((ht1.drew).trans0 ht2).setCell (.inl (by simp)) _).setCell (.inl (by simp)) _).mono (fun b hb => .inl (by simp at hb; simp [hb]))
    · exact Nat.le_trans ht1.size (hf2 b hb)
    · have := used_set n hn ⟨A2, c2, fs[n].l.take size, size⟩
      simp only [hlen] at this
      omega
  · have hif : ∀ {V V' : List (List UInt8 × Nat)}, (if cmdE r = 0 then V else V') = V' := if_neg he
    rw [hif]
    have hne : (cmdE r == 0) = false := by rw [beq_eq_false_iff_ne]; exact he
    obtain ⟨q, hq⟩ : ∃ q, q = cmdE r := ⟨_, rfl⟩
    rw [← hq] at hne he ⊢
    have Hq := Lib.hid hq; clear hq
    go_wp2_with (first
      | (go_at_call 33; refine (check_any g r.down _ _ c11).mono ?_; rintro e w' ⟨rfl, rfl⟩; rw [hck])
      | (go_at_call 35; refine (command_any g fs r _ hd.blk h4 k3 k4 k5 (by omega)).mono ?_; rintro e w1 ⟨rfl, hc1, ht1⟩; rw [← Hq.out]))
    go_ret
    exact ⟨rfl, disk_setR hd hc1 ht1 hrk⟩
end Go.Proofs.YtlcpljpeljoboaaDoor

/- disk.Disk.Crash: the walk. -/
namespace Go.Proofs.YtlcpljpeljoboaaDoor
open Go.RowKit

def RdI (w : World) (A : Option Addr) (ks : List Int) : Prop := Rd w A (ks.map (Value.int .i64))
theorem RdI.at_ {w : World} {A : Option Addr} {l : List Int} (h : RdI w A l) (k : Nat) (hk : k < l.length) : ∃ ad, A = some ad ∧ w.cell? (ad.add k) = some (.int .i64 l[k]) := by
  obtain ⟨ad, e, hc⟩ := h (by simpa using Nat.lt_of_le_of_lt (Nat.zero_le _) hk)
  exact ⟨ad, e, hc k _ (by simp [hk])⟩

/-- how many loose bytes of a file stay -/
def stays (ks : List Int) (i : Nat) (room : Nat) : Nat := if i < ks.length then min (max (ks.getD i 0) 0).toNat room else 0
def crashF (ks : List Int) (i : Nat) (x : List UInt8 × Nat) : List UInt8 × Nat := (x.1.take (x.2 + stays ks i (x.1.length - x.2)), x.2 + stays ks i (x.1.length - x.2))
/-- the first k files are behind the crash -/
def crashK (ks : List Int) (V : List (List UInt8 × Nat)) (k : Nat) : List (List UInt8 × Nat) := V.mapIdx fun i x => if i < k then crashF ks i x else x
theorem crashK_zero (ks : List Int) (V : List (List UInt8 × Nat)) : crashK ks V 0 = V := by
  apply List.ext_getElem
  · simp [crashK]
  · intro i h1 h2; simp [crashK]
theorem crashK_succ (ks : List Int) (V : List (List UInt8 × Nat)) (k : Nat) (hk : k < V.length) : crashK ks V (k + 1) = (crashK ks V k).set k (crashF ks k V[k]) := by
  apply List.ext_getElem
  · simp [crashK]
  · intro i h1 h2
    simp only [crashK, List.getElem_mapIdx, List.getElem_set]
    by_cases e : k = i
    · subst e; simp
    · simp [e]
      by_cases h : i < k
      · simp [h, Nat.lt_succ_of_lt h]
      · have : ¬ i < k + 1 := by omega
        simp [h, this]
theorem crashK_get (ks : List Int) (V : List (List UInt8 × Nat)) (k : Nat) (hk : k < (crashK ks V k).length) : (crashK ks V k)[k] = V[k]'(by simpa [crashK] using hk) := by simp [crashK]

theorem DStep.trans {g : Nat} {fs fs1 : List DF} {V : List (List UInt8 × Nat)} {r : DR} {w w1 w2 : World} (T : Touch (dfp g fs) w w1) (hf : ∀ b ∈ dfp g fs1, b ∈ dfp g fs ∨ w.heap.size ≤ b) (h : DStep g fs1 V r w1 w2) : DStep g fs V r w w2 := by
  obtain ⟨fs2, h1, h2, h3, h4⟩ := h
  refine ⟨fs2, h1, h2, T.trans h3 hf, fun b hb => ?_⟩
  rcases h4 b hb with h | h
  · exact hf b h
  · exact .inr (Nat.le_trans T.size h)

set_option maxHeartbeats 1600000 in
theorem crash_any (g : Nat) (fs : List DF) (r : DR) (A : Option Addr) (c : Nat) (ks : List Int) (w : World) (hd : DiskAt w g fs r) (hr : ∀ w', Touch (dfp g fs) w w' → RdI w' A ks)
    (hks : ∀ k ∈ ks, -9223372036854775808 ≤ k ∧ k ≤ 9223372036854775807) :
    Calls Tryd.prog 26 #[.pointer (some ⟨g, 0, none⟩), .slice A ks.length c] w fun e w' => e = .returned (.tuple #[]) ∧
      DStep g fs (crashK ks (view fs) 4) { r with left := -1, down := false } w w' := by
  go_enter Tryd.func26, Tryd.ntmps26
  go_wp2
  go_loopw [7] (fun i wr => ∃ k : Nat, k ≤ 4 ∧ i = .int .i64 k ∧ DStep g fs (crashK ks (view fs) k) r w wr) (fun i _ => 4 - (intOf i).toNat)
  case atStart => exact ⟨0, by omega, rfl, fs, hd, (crashK_zero ks (view fs)).symm, Touch.refl _ _, fun b hb => .inl hb⟩
  case round =>
    obtain ⟨k, hk, rfl, fs1, hd1, hv1, ht1, hf1⟩ := hrel
    by_cases hlt : k < 4
    · have h4 := hd1.len
      have hkf : k < fs1.length := by omega
      have hk4 : (k : Int) < 4 := by omega
      have hk0 : (0 : Int) ≤ k := by omega
      have cv := cell_blk hd1.blk (dcells_v h4 k hkf)
      have cs := cell_blk hd1.blk (dcells_s h4 k hkf)
      have zs := free_blk hd1.blk (k * 2 + 1)
      have zv := free_blk hd1.blk (k * 2)
      unfold DF.v at cv
      have hsafe := (hd1.ok k hkf).2.1
      have hlu := used_ge k hkf
      have hus := hd1.used
      have hwr : IntKind.i64.wrap ((fs1[k].l.length : Int) - fs1[k].safe) = (fs1[k].l.length : Int) - fs1[k].safe := IntWalk.i64_in _ (by omega)
      by_cases hin : k < ks.length
      · obtain ⟨ad, rfl, hcell⟩ := RdI.at_ (hr _ ht1) k hin
        have hkv := hks ks[k] (List.getElem_mem hin)
        have hst : stays ks k (fs1[k].l.length - fs1[k].safe) = min (max ks[k] 0).toNat (fs1[k].l.length - fs1[k].safe) := by simp [stays, hin, List.getD]
        have Hst := Lib.hid hst; clear hst
        have hinI : (k : Int) < ks.length := by omega
        rcases Int.lt_or_le ks[k] 0 with hneg | hpos
        · obtain ⟨S, hS⟩ : ∃ S, S = fs1[k].safe := ⟨_, rfl⟩
          have HS := Lib.hid (show fs1[k].safe + stays ks k (fs1[k].l.length - fs1[k].safe) = S by rw [Hst.out]; omega)
          have hSl : S ≤ fs1[k].l.length := by omega
          have HS1 := Lib.hid hS; clear hS Hst
          go_wp2
          go_region
          go_wp2
          obtain ⟨wS, hwS⟩ : ∃ wS, wS = wr.setCell ⟨g, k * 2 + 1, none⟩ (.int .i64 ((fs1[k].safe : Nat))) := ⟨_, rfl⟩
          rw [← hwS]
          rw [show (((fs1[k].safe : Nat) : Int)) = ((S : Nat) : Int) by rw [HS1.out]; try omega] at hwS
          have blkS : wS.heap[g]? = some (.cells (dcells (fs1.set k ⟨fs1[k].A, fs1[k].c, fs1[k].l, S⟩) r) 69 (0, 0)) := by
            have := set_blk hd1.blk (k * 2 + 1) (.int .i64 (S : Nat))
            rw [dcells_set_s h4 k hkf ⟨fs1[k].A, fs1[k].c, fs1[k].l, S⟩ rfl] at this
            rw [hwS]; exact this
          have tS : Touch [g] wr wS := by rw [hwS]; exact (Touch.refl [g] wr).setCell (.inl (by simp)) _
          have hkS : k < (fs1.set k ⟨fs1[k].A, fs1[k].c, fs1[k].l, S⟩).length := by simpa using hkf
          have h4S : (fs1.set k ⟨fs1[k].A, fs1[k].c, fs1[k].l, S⟩).length = 4 := by simpa using h4
          have cvS := cell_blk blkS (dcells_v h4S k hkS)
          have csS := cell_blk blkS (dcells_s h4S k hkS)
          rw [List.getElem_set_self] at cvS csS
          have zvS := free_blk blkS (k * 2)
          unfold DF.v at cvS
          simp only at cvS csS
          have hleS := (hd1.ok k hkf).1.le
          have hS1 : (S : Int) ≤ fs1[k].l.length := by omega
          have hS2 : (S : Int) ≤ fs1[k].c := by omega
          have hS0 : (0 : Int) ≤ S := by omega
          have hgA := (hd1.ok k hkf).2.2
          have ownS : OwnB wS fs1[k].A fs1[k].c fs1[k].l := (hd1.ok k hkf).1.touch tS (fun b hb hm => hgA ((by simpa using hm : b = g) ▸ hb))
          have hrdS := ownS.rd.take S
          clear hwS hcell cv cs zs zv hwr
          go_region_law (first | (go_simp; go_at_call 43; refine (clone_len fs1[k].A S fs1[k].c (fs1[k].l.take S) (by simp; omega) _ (by exact hrdS) (by omega)).mono ?_; rintro e w2 ⟨A2, c2, rfl, hown2, ht2, hf2⟩; have blk2 := ht2.blk (by exact blkS) (by simp); have cv2 := cell_blk blk2 (dcells_v h4S k hkS); have zv2 := free_blk blk2 (k * 2)))
          all_goals
            go_wp2
            go_roundw
            case rel =>
              have hlen : (fs1[k].l.take S).length = S := by simp; omega
              have blk3 := set_blk blk2 (k * 2) (.slice A2 S c2)
              have hset := dcells_set_v (r := r) h4S k hkS ⟨A2, c2, fs1[k].l.take S, S⟩ (by rw [List.getElem_set_self])
              simp only [DF.v, hlen] at hset
              rw [hset, List.set_set] at blk3
              have hgA2 : g ∉ fpo A2 := fun hm => by
                have h1 : wS.heap.size ≤ g := hf2 g hm
                have h2 := lt_of_block blkS
                omega
              have hstep : DStep g fs1 ((view fs1).set k (fs1[k].l.take S, S)) r wr (w2.setCell ⟨g, k * 2, none⟩ (.slice A2 S c2)) := by
                refine disk_setFile hd1 k hkf ⟨A2, c2, fs1[k].l.take S, S⟩ blk3 ?_ (by simp only [hlen]; exact Nat.le_refl _) ?_ (fun b hb => .inr ?_) hd1.rok ?_
                · exact hown2.touch ((Touch.refl [g] w2).setCell (.inl (by simp)) _) (fun b hb hm => hgA2 ((by simpa using hm : b = g) ▸ hb))
                · exact ((tS.trans0 ⟨ht2.os, ht2.tape, ht2.output, ht2.size, ht2.block⟩).setCell (.inl (by simp)) _).mono (fun b hb => .inl (by simp at hb; simp [hb]))
                · exact Nat.le_trans tS.size (hf2 b hb)
                · have := used_set k hkf ⟨A2, c2, fs1[k].l.take S, S⟩
                  simp only [hlen] at this
                  omega
              refine ⟨k + 1, by omega, by go_num, ?_⟩
              have hvk : crashK ks (view fs) (k + 1) = (view fs1).set k (fs1[k].l.take S, S) := by
                have hk1 : k < (view fs1).length := by simpa [view] using hkf
                have hk2 : k < (crashK ks (view fs) k).length := by rw [← hv1]; exact hk1
                have hk3 : k < (view fs).length := by simpa [crashK] using hk2
                rw [crashK_succ ks (view fs) k hk3, ← crashK_get ks (view fs) k hk2]
                have hgk : (crashK ks (view fs) k)[k] = (fs1[k].l, fs1[k].safe) := by
                  have : (view fs1)[k] = (fs1[k].l, fs1[k].safe) := by simp [view]
                  rw [← this]
                  congr 1
                  exact hv1.symm
                rw [hgk, ← hv1]
                simp only [crashF, HS.out]
                rfl
              rw [hvk]
              exact DStep.trans ht1 hf1 hstep
            case measure => simp [intOf]; omega
        · obtain ⟨N, hN⟩ : ∃ N : Nat, ks[k] = (N : Int) := ⟨ks[k].toNat, by omega⟩
          rw [hN] at hcell hpos hkv Hst
          clear hN
          by_cases hroom : N ≤ fs1[k].l.length - fs1[k].safe
          · obtain ⟨S, hS⟩ : ∃ S, S = fs1[k].safe + N := ⟨_, rfl⟩
            have HS := Lib.hid (show fs1[k].safe + stays ks k (fs1[k].l.length - fs1[k].safe) = S by rw [Hst.out]; omega)
            have hSl : S ≤ fs1[k].l.length := by omega
            have hr1 : (N : Int) ≤ (fs1[k].l.length : Int) - fs1[k].safe := by omega
            have HS1 := Lib.hid hS; clear hS Hst
            go_wp2
            go_region
            go_wp2
            obtain ⟨wS, hwS⟩ : ∃ wS, wS = wr.setCell ⟨g, k * 2 + 1, none⟩ (.int .i64 ((fs1[k].safe : Int) + N)) := ⟨_, rfl⟩
            rw [← hwS]
            rw [show (((fs1[k].safe : Int) + N : Int)) = ((S : Nat) : Int) by rw [HS1.out]; try omega] at hwS
            have blkS : wS.heap[g]? = some (.cells (dcells (fs1.set k ⟨fs1[k].A, fs1[k].c, fs1[k].l, S⟩) r) 69 (0, 0)) := by
              have := set_blk hd1.blk (k * 2 + 1) (.int .i64 (S : Nat))
              rw [dcells_set_s h4 k hkf ⟨fs1[k].A, fs1[k].c, fs1[k].l, S⟩ rfl] at this
              rw [hwS]; exact this
            have tS : Touch [g] wr wS := by rw [hwS]; exact (Touch.refl [g] wr).setCell (.inl (by simp)) _
            have hkS : k < (fs1.set k ⟨fs1[k].A, fs1[k].c, fs1[k].l, S⟩).length := by simpa using hkf
            have h4S : (fs1.set k ⟨fs1[k].A, fs1[k].c, fs1[k].l, S⟩).length = 4 := by simpa using h4
            have cvS := cell_blk blkS (dcells_v h4S k hkS)
            have csS := cell_blk blkS (dcells_s h4S k hkS)
            rw [List.getElem_set_self] at cvS csS
            have zvS := free_blk blkS (k * 2)
            unfold DF.v at cvS
            simp only at cvS csS
            have hleS := (hd1.ok k hkf).1.le
            have hS1 : (S : Int) ≤ fs1[k].l.length := by omega
            have hS2 : (S : Int) ≤ fs1[k].c := by omega
            have hS0 : (0 : Int) ≤ S := by omega
            have hgA := (hd1.ok k hkf).2.2
            have ownS : OwnB wS fs1[k].A fs1[k].c fs1[k].l := (hd1.ok k hkf).1.touch tS (fun b hb hm => hgA ((by simpa using hm : b = g) ▸ hb))
            have hrdS := ownS.rd.take S
            clear hwS hcell cv cs zs zv hwr
            go_region_law (first | (go_simp; go_at_call 43; refine (clone_len fs1[k].A S fs1[k].c (fs1[k].l.take S) (by simp; omega) _ (by exact hrdS) (by omega)).mono ?_; rintro e w2 ⟨A2, c2, rfl, hown2, ht2, hf2⟩; have blk2 := ht2.blk (by exact blkS) (by simp); have cv2 := cell_blk blk2 (dcells_v h4S k hkS); have zv2 := free_blk blk2 (k * 2)))
            all_goals
              go_wp2
              go_roundw
              case rel =>
                have hlen : (fs1[k].l.take S).length = S := by simp; omega
                have blk3 := set_blk blk2 (k * 2) (.slice A2 S c2)
                have hset := dcells_set_v (r := r) h4S k hkS ⟨A2, c2, fs1[k].l.take S, S⟩ (by rw [List.getElem_set_self])
                simp only [DF.v, hlen] at hset
                rw [hset, List.set_set] at blk3
                have hgA2 : g ∉ fpo A2 := fun hm => by
                  have h1 : wS.heap.size ≤ g := hf2 g hm
                  have h2 := lt_of_block blkS
                  omega
                have hstep : DStep g fs1 ((view fs1).set k (fs1[k].l.take S, S)) r wr (w2.setCell ⟨g, k * 2, none⟩ (.slice A2 S c2)) := by
                  refine disk_setFile hd1 k hkf ⟨A2, c2, fs1[k].l.take S, S⟩ blk3 ?_ (by simp only [hlen]; exact Nat.le_refl _) ?_ (fun b hb => .inr ?_) hd1.rok ?_
                  · exact hown2.touch ((Touch.refl [g] w2).setCell (.inl (by simp)) _) (fun b hb hm => hgA2 ((by simpa using hm : b = g) ▸ hb))
                  · exact ((tS.trans0 ⟨ht2.os, ht2.tape, ht2.output, ht2.size, ht2.block⟩).setCell (.inl (by simp)) _).mono (fun b hb => .inl (by simp at hb; simp [hb]))
                  · exact Nat.le_trans tS.size (hf2 b hb)
                  · have := used_set k hkf ⟨A2, c2, fs1[k].l.take S, S⟩
                    simp only [hlen] at this
                    omega
                refine ⟨k + 1, by omega, by go_num, ?_⟩
                have hvk : crashK ks (view fs) (k + 1) = (view fs1).set k (fs1[k].l.take S, S) := by
                  have hk1 : k < (view fs1).length := by simpa [view] using hkf
                  have hk2 : k < (crashK ks (view fs) k).length := by rw [← hv1]; exact hk1
                  have hk3 : k < (view fs).length := by simpa [crashK] using hk2
                  rw [crashK_succ ks (view fs) k hk3, ← crashK_get ks (view fs) k hk2]
                  have hgk : (crashK ks (view fs) k)[k] = (fs1[k].l, fs1[k].safe) := by
                    have : (view fs1)[k] = (fs1[k].l, fs1[k].safe) := by simp [view]
                    rw [← this]
                    congr 1
                    exact hv1.symm
                  rw [hgk, ← hv1]
                  simp only [crashF, HS.out]
                  rfl
                rw [hvk]
                exact DStep.trans ht1 hf1 hstep
              case measure => simp [intOf]; omega
          · obtain ⟨S, hS⟩ : ∃ S, S = fs1[k].l.length := ⟨_, rfl⟩
            have HS := Lib.hid (show fs1[k].safe + stays ks k (fs1[k].l.length - fs1[k].safe) = S by rw [Hst.out]; omega)
            have hSl : S ≤ fs1[k].l.length := by omega
            have hr1 : (fs1[k].l.length : Int) - fs1[k].safe < (N : Int) := by omega
            have hr2 : (fs1[k].l.length : Int) - fs1[k].safe ≤ (N : Int) := by omega
            have HS1 := Lib.hid hS; clear hS Hst
            go_wp2
            go_region
            go_wp2
            obtain ⟨wS, hwS⟩ : ∃ wS, wS = wr.setCell ⟨g, k * 2 + 1, none⟩ (.int .i64 ((fs1[k].safe : Int) + ((fs1[k].l.length : Int) - fs1[k].safe))) := ⟨_, rfl⟩
            rw [← hwS]
            rw [show (((fs1[k].safe : Int) + ((fs1[k].l.length : Int) - fs1[k].safe) : Int)) = ((S : Nat) : Int) by rw [HS1.out]; try omega] at hwS
            have blkS : wS.heap[g]? = some (.cells (dcells (fs1.set k ⟨fs1[k].A, fs1[k].c, fs1[k].l, S⟩) r) 69 (0, 0)) := by
              have := set_blk hd1.blk (k * 2 + 1) (.int .i64 (S : Nat))
              rw [dcells_set_s h4 k hkf ⟨fs1[k].A, fs1[k].c, fs1[k].l, S⟩ rfl] at this
              rw [hwS]; exact this
            have tS : Touch [g] wr wS := by rw [hwS]; exact (Touch.refl [g] wr).setCell (.inl (by simp)) _
            have hkS : k < (fs1.set k ⟨fs1[k].A, fs1[k].c, fs1[k].l, S⟩).length := by simpa using hkf
            have h4S : (fs1.set k ⟨fs1[k].A, fs1[k].c, fs1[k].l, S⟩).length = 4 := by simpa using h4
            have cvS := cell_blk blkS (dcells_v h4S k hkS)
            have csS := cell_blk blkS (dcells_s h4S k hkS)
            rw [List.getElem_set_self] at cvS csS
            have zvS := free_blk blkS (k * 2)
            unfold DF.v at cvS
            simp only at cvS csS
            have hleS := (hd1.ok k hkf).1.le
            have hS1 : (S : Int) ≤ fs1[k].l.length := by omega
            have hS2 : (S : Int) ≤ fs1[k].c := by omega
            have hS0 : (0 : Int) ≤ S := by omega
            have hgA := (hd1.ok k hkf).2.2
            have ownS : OwnB wS fs1[k].A fs1[k].c fs1[k].l := (hd1.ok k hkf).1.touch tS (fun b hb hm => hgA ((by simpa using hm : b = g) ▸ hb))
            have hrdS := ownS.rd.take S
            clear hwS hcell cv cs zs zv hwr
            go_region_law (first | (go_simp; go_at_call 43; refine (clone_len fs1[k].A S fs1[k].c (fs1[k].l.take S) (by simp; omega) _ (by exact hrdS) (by omega)).mono ?_; rintro e w2 ⟨A2, c2, rfl, hown2, ht2, hf2⟩; have blk2 := ht2.blk (by exact blkS) (by simp); have cv2 := cell_blk blk2 (dcells_v h4S k hkS); have zv2 := free_blk blk2 (k * 2)))
            all_goals
              go_wp2
              go_roundw
              case rel =>
                have hlen : (fs1[k].l.take S).length = S := by simp; omega
                have blk3 := set_blk blk2 (k * 2) (.slice A2 S c2)
                have hset := dcells_set_v (r := r) h4S k hkS ⟨A2, c2, fs1[k].l.take S, S⟩ (by rw [List.getElem_set_self])
                simp only [DF.v, hlen] at hset
                rw [hset, List.set_set] at blk3
                have hgA2 : g ∉ fpo A2 := fun hm => by
                  have h1 : wS.heap.size ≤ g := hf2 g hm
                  have h2 := lt_of_block blkS
                  omega
                have hstep : DStep g fs1 ((view fs1).set k (fs1[k].l.take S, S)) r wr (w2.setCell ⟨g, k * 2, none⟩ (.slice A2 S c2)) := by
                  refine disk_setFile hd1 k hkf ⟨A2, c2, fs1[k].l.take S, S⟩ blk3 ?_ (by simp only [hlen]; exact Nat.le_refl _) ?_ (fun b hb => .inr ?_) hd1.rok ?_
                  · exact hown2.touch ((Touch.refl [g] w2).setCell (.inl (by simp)) _) (fun b hb hm => hgA2 ((by simpa using hm : b = g) ▸ hb))
                  · exact ((tS.trans0 ⟨ht2.os, ht2.tape, ht2.output, ht2.size, ht2.block⟩).setCell (.inl (by simp)) _).mono (fun b hb => .inl (by simp at hb; simp [hb]))
                  · exact Nat.le_trans tS.size (hf2 b hb)
                  · have := used_set k hkf ⟨A2, c2, fs1[k].l.take S, S⟩
                    simp only [hlen] at this
                    omega
                refine ⟨k + 1, by omega, by go_num, ?_⟩
                have hvk : crashK ks (view fs) (k + 1) = (view fs1).set k (fs1[k].l.take S, S) := by
                  have hk1 : k < (view fs1).length := by simpa [view] using hkf
                  have hk2 : k < (crashK ks (view fs) k).length := by rw [← hv1]; exact hk1
                  have hk3 : k < (view fs).length := by simpa [crashK] using hk2
                  rw [crashK_succ ks (view fs) k hk3, ← crashK_get ks (view fs) k hk2]
                  have hgk : (crashK ks (view fs) k)[k] = (fs1[k].l, fs1[k].safe) := by
                    have : (view fs1)[k] = (fs1[k].l, fs1[k].safe) := by simp [view]
                    rw [← this]
                    congr 1
                    exact hv1.symm
                  rw [hgk, ← hv1]
                  simp only [crashF, HS.out]
                  rfl
                rw [hvk]
                exact DStep.trans ht1 hf1 hstep
              case measure => simp [intOf]; omega
      · obtain ⟨S, hS⟩ : ∃ S, S = fs1[k].safe := ⟨_, rfl⟩
        have HS := Lib.hid (show fs1[k].safe + stays ks k (fs1[k].l.length - fs1[k].safe) = S by unfold stays; rw [if_neg hin]; omega)
        have hSl : S ≤ fs1[k].l.length := by omega
        have HS1 := Lib.hid hS; clear hS
        go_wp2
        obtain ⟨wS, hwS⟩ : ∃ wS, wS = wr.setCell ⟨g, k * 2 + 1, none⟩ (.int .i64 ((fs1[k].safe : Nat))) := ⟨_, rfl⟩
        rw [← hwS]
        rw [show (((fs1[k].safe : Nat) : Int)) = ((S : Nat) : Int) by rw [HS1.out]; try omega] at hwS
        have blkS : wS.heap[g]? = some (.cells (dcells (fs1.set k ⟨fs1[k].A, fs1[k].c, fs1[k].l, S⟩) r) 69 (0, 0)) := by
          have := set_blk hd1.blk (k * 2 + 1) (.int .i64 (S : Nat))
          rw [dcells_set_s h4 k hkf ⟨fs1[k].A, fs1[k].c, fs1[k].l, S⟩ rfl] at this
          rw [hwS]; exact this
        have tS : Touch [g] wr wS := by rw [hwS]; exact (Touch.refl [g] wr).setCell (.inl (by simp)) _
        have hkS : k < (fs1.set k ⟨fs1[k].A, fs1[k].c, fs1[k].l, S⟩).length := by simpa using hkf
        have h4S : (fs1.set k ⟨fs1[k].A, fs1[k].c, fs1[k].l, S⟩).length = 4 := by simpa using h4
        have cvS := cell_blk blkS (dcells_v h4S k hkS)
        have csS := cell_blk blkS (dcells_s h4S k hkS)
        rw [List.getElem_set_self] at cvS csS
        have zvS := free_blk blkS (k * 2)
        unfold DF.v at cvS
        simp only at cvS csS
        have hleS := (hd1.ok k hkf).1.le
        have hS1 : (S : Int) ≤ fs1[k].l.length := by omega
        have hS2 : (S : Int) ≤ fs1[k].c := by omega
        have hS0 : (0 : Int) ≤ S := by omega
        have hgA := (hd1.ok k hkf).2.2
        have ownS : OwnB wS fs1[k].A fs1[k].c fs1[k].l := (hd1.ok k hkf).1.touch tS (fun b hb hm => hgA ((by simpa using hm : b = g) ▸ hb))
        have hrdS := ownS.rd.take S
        clear hwS cv cs zs zv hwr
        go_region_law (first | (go_simp; go_at_call 43; refine (clone_len fs1[k].A S fs1[k].c (fs1[k].l.take S) (by simp; omega) _ (by exact hrdS) (by omega)).mono ?_; rintro e w2 ⟨A2, c2, rfl, hown2, ht2, hf2⟩; have blk2 := ht2.blk (by exact blkS) (by simp); have cv2 := cell_blk blk2 (dcells_v h4S k hkS); have zv2 := free_blk blk2 (k * 2)))
        all_goals
          go_wp2
          go_roundw
          case rel =>
            have hlen : (fs1[k].l.take S).length = S := by simp; omega
            have blk3 := set_blk blk2 (k * 2) (.slice A2 S c2)
            have hset := dcells_set_v (r := r) h4S k hkS ⟨A2, c2, fs1[k].l.take S, S⟩ (by rw [List.getElem_set_self])
            simp only [DF.v, hlen] at hset
            rw [hset, List.set_set] at blk3
            have hgA2 : g ∉ fpo A2 := fun hm => by
              have h1 : wS.heap.size ≤ g := hf2 g hm
              have h2 := lt_of_block blkS
              omega
            have hstep : DStep g fs1 ((view fs1).set k (fs1[k].l.take S, S)) r wr (w2.setCell ⟨g, k * 2, none⟩ (.slice A2 S c2)) := by
              refine disk_setFile hd1 k hkf ⟨A2, c2, fs1[k].l.take S, S⟩ blk3 ?_ (by simp only [hlen]; exact Nat.le_refl _) ?_ (fun b hb => .inr ?_) hd1.rok ?_
              · exact hown2.touch ((Touch.refl [g] w2).setCell (.inl (by simp)) _) (fun b hb hm => hgA2 ((by simpa using hm : b = g) ▸ hb))
              · exact ((tS.trans0 ⟨ht2.os, ht2.tape, ht2.output, ht2.size, ht2.block⟩).setCell (.inl (by simp)) _).mono (fun b hb => .inl (by simp at hb; simp [hb]))
              · exact Nat.le_trans tS.size (hf2 b hb)
              · have := used_set k hkf ⟨A2, c2, fs1[k].l.take S, S⟩
                simp only [hlen] at this
                omega
            refine ⟨k + 1, by omega, by go_num, ?_⟩
            have hvk : crashK ks (view fs) (k + 1) = (view fs1).set k (fs1[k].l.take S, S) := by
              have hk1 : k < (view fs1).length := by simpa [view] using hkf
              have hk2 : k < (crashK ks (view fs) k).length := by rw [← hv1]; exact hk1
              have hk3 : k < (view fs).length := by simpa [crashK] using hk2
              rw [crashK_succ ks (view fs) k hk3, ← crashK_get ks (view fs) k hk2]
              have hgk : (crashK ks (view fs) k)[k] = (fs1[k].l, fs1[k].safe) := by
                have : (view fs1)[k] = (fs1[k].l, fs1[k].safe) := by simp [view]
                rw [← this]
                congr 1
                exact hv1.symm
              rw [hgk, ← hv1]
              simp only [crashF, HS.out]
              rfl
            rw [hvk]
            exact DStep.trans ht1 hf1 hstep
          case measure => simp [intOf]; omega
    · obtain rfl : k = 4 := by omega
      have h4 := hd1.len
      have c9 := cell_blk hd1.blk (dcells_r h4).2.1
      have c11 := cell_blk hd1.blk (dcells_r h4).2.2.2
      have z9 := free_blk hd1.blk 9
      have z11 := free_blk hd1.blk 11
      obtain ⟨k1, k2, k3, k4, k5, k6⟩ := hd1.rok
      go_wp2
      go_end0
      have b1 := set_blk (set_blk hd1.blk 9 (.int .i64 (-1))) 11 (.bool false)
      rw [(dcells_set_r h4).2.1, (dcells_set_r h4).2.2.2] at b1
      have hs := disk_setR hd1 b1 (((Touch.refl [g] wr).setCell (.inl (by simp)) _).setCell (.inl (by simp)) _) ⟨k1, k2, by simp, by simp, k5, k6⟩
      have hv : view fs1 = crashK ks (view fs) 4 := hv1
      rw [hv] at hs
      exact ⟨rfl, DStep.trans ht1 hf1 hs⟩
end Go.Proofs.YtlcpljpeljoboaaDoor

/- A disk told by its files' bytes alone; each method as a step of plain data. -/
namespace Go.Proofs.YtlcpljpeljoboaaDoor
open Go.RowKit

abbrev Fl := List (List UInt8 × Nat)
def DkAt (w : World) (g : Nat) (fp : List Nat) (V : Fl) (r : DR) : Prop := ∃ fs, DiskAt w g fs r ∧ view fs = V ∧ dfp g fs = fp
def DkStep (g : Nat) (fp : List Nat) (V : Fl) (r : DR) (w w' : World) : Prop := ∃ fp', DkAt w' g fp' V r ∧ Touch fp w w' ∧ ∀ b ∈ fp', b ∈ fp ∨ w.heap.size ≤ b

theorem DStep.dk {g : Nat} {fs : List DF} {V : Fl} {r : DR} {w w' : World} (h : DStep g fs V r w w') : DkStep g (dfp g fs) V r w w' := by
  obtain ⟨fs', h1, h2, h3, h4⟩ := h
  exact ⟨dfp g fs', ⟨fs', h1, h2, rfl⟩, h3, h4⟩
theorem DkAt.step {w w' : World} {g : Nat} {fp fp2 : List Nat} {V : Fl} {r : DR} (h : DkAt w g fp V r) (ht : Touch fp2 w w') (hn : ∀ b ∈ fp, b ∉ fp2) : DkAt w' g fp V r := by
  obtain ⟨fs, hd, hv, rfl⟩ := h
  refine ⟨fs, ⟨ht.blk hd.blk (hn g (by simp [dfp])), hd.len, fun i hi => ?_, hd.apart, hd.rok, hd.used⟩, hv, rfl⟩
  obtain ⟨h1, h2, h3⟩ := hd.ok i hi
  exact ⟨h1.touch ht (fun b hb => hn b (mem_dfp.2 (.inr ⟨i, hi, hb⟩))), h2, h3⟩
theorem DkAt.lt {w : World} {g : Nat} {fp : List Nat} {V : Fl} {r : DR} (h : DkAt w g fp V r) : ∀ b ∈ fp, b < w.heap.size := by
  obtain ⟨fs, hd, hv, rfl⟩ := h
  exact dfp_lt hd
theorem DkAt.keep {w w' : World} {g : Nat} {fp : List Nat} {V : Fl} {r : DR} (h : DkAt w g fp V r) (ht : Touch [] w w') : DkStep g fp V r w w' :=
  ⟨fp, h.step ht (by simp), ht.mono (by simp), fun b hb => .inl hb⟩
theorem DkStep.trans {g : Nat} {fp fp1 : List Nat} {V : Fl} {r : DR} {w w1 w2 : World} (T : Touch fp w w1) (hf : ∀ b ∈ fp1, b ∈ fp ∨ w.heap.size ≤ b) (h : DkStep g fp1 V r w1 w2) : DkStep g fp V r w w2 := by
  obtain ⟨fp', h1, h2, h3⟩ := h
  refine ⟨fp', h1, T.trans h2 hf, fun b hb => ?_⟩
  rcases h3 b hb with h | h
  · exact hf b h
  · exact .inr (Nat.le_trans T.size h)

def usedV (V : Fl) : Nat := (V.map fun x => x.1.length).sum
theorem used_view (fs : List DF) : used fs = usedV (view fs) := by simp [used, usedV, view, Function.comp_def]
theorem DkAt.facts {w : World} {g : Nat} {fp : List Nat} {V : Fl} {r : DR} (h : DkAt w g fp V r) : V.length = 4 ∧ usedV V ≤ 1073741824 ∧ r.ok ∧ ∀ i, (hi : i < V.length) → (V[i]).2 ≤ (V[i]).1.length := by
  obtain ⟨fs, hd, rfl, rfl⟩ := h
  refine ⟨by simp [view, hd.len], by rw [← used_view]; exact hd.used, hd.rok, fun i hi => ?_⟩
  have hi' : i < fs.length := by simpa [view] using hi
  simpa [view] using (hd.ok i hi').2.1
theorem DkAt.cells {w : World} {g : Nat} {fp : List Nat} {V : Fl} {r : DR} (h : DkAt w g fp V r) : w.cell? ⟨g, 8, none⟩ = some (.int .i64 r.cap) ∧ w.cell? ⟨g, 9, none⟩ = some (.int .i64 r.left) ∧ w.cell? ⟨g, 10, none⟩ = some (.int .i64 r.done) ∧ w.cell? ⟨g, 11, none⟩ = some (.bool r.down) := by
  obtain ⟨fs, hd, rfl, rfl⟩ := h
  exact ⟨cell_blk hd.blk (dcells_r hd.len).1, cell_blk hd.blk (dcells_r hd.len).2.1, cell_blk hd.blk (dcells_r hd.len).2.2.1, cell_blk hd.blk (dcells_r hd.len).2.2.2⟩

/-- Append on plain data: the error, the files, the other fields -/
def pApp (V : Fl) (r : DR) (n : Int) (b : List UInt8) : Int × Fl × DR :=
  if checkI r.down n ≠ 0 then (checkI r.down n, V, r)
  else if r.cap - usedV V < (b.length : Int) then (41, V, r)
  else (cmdE r, V.set n.toNat ((V.getD n.toNat ([], 0)).1 ++ b, (V.getD n.toNat ([], 0)).2), cmdR r)
def pSync (V : Fl) (r : DR) (n : Int) : Int × Fl × DR :=
  if checkI r.down n ≠ 0 then (checkI r.down n, V, r)
  else (cmdE r, if cmdE r = 0 then V.set n.toNat ((V.getD n.toNat ([], 0)).1, (V.getD n.toNat ([], 0)).1.length) else V, cmdR r)
def pCut (V : Fl) (r : DR) (n size : Int) : Int × Fl × DR :=
  if checkI r.down n ≠ 0 then (checkI r.down n, V, r)
  else if size < 0 ∨ ((V.getD n.toNat ([], 0)).1.length : Int) < size then (30, V, r)
  else (cmdE r, if cmdE r = 0 then V.set n.toNat ((V.getD n.toNat ([], 0)).1.take size.toNat, size.toNat) else V, cmdR r)

theorem check_zero {down : Bool} {n : Int} (h : checkI down n = 0) : down = false ∧ 0 ≤ n ∧ n < 4 := by
  unfold checkI at h
  cases down
  · by_cases hn : 0 ≤ n ∧ n < 4
    · exact ⟨rfl, hn⟩
    · simp only [if_neg hn] at h; simp at h
  · simp at h

theorem append_dk (g : Nat) (fp : List Nat) (V : Fl) (r : DR) (n : Int) (A : Option Addr) (c : Nat) (b : List UInt8) (w : World) (hd : DkAt w g fp V r) (hr : RdB w A b) (hb : b.length ≤ 9223372036854775807) (hdone : r.done < 1073741824) :
    Calls Tryd.prog 9 #[.pointer (some ⟨g, 0, none⟩), .int .i64 n, .slice A b.length c] w fun e w' => e = .returned (.int .i64 (pApp V r n b).1) ∧ DkStep g fp (pApp V r n b).2.1 (pApp V r n b).2.2 w w' := by
  have c11 := hd.cells.2.2.2
  by_cases hck : checkI r.down n = 0
  · obtain ⟨hdn, h0, h4⟩ := check_zero hck
    obtain ⟨k, rfl⟩ : ∃ k : Nat, n = k := ⟨n.toNat, by omega⟩
    have hk : k < V.length := by have := hd.facts.1; omega
    have hg : V.getD k ([], 0) = V[k] := by simp [List.getD, hk]
    by_cases hfull : r.cap - usedV V < (b.length : Int)
    · have e : pApp V r k b = (41, V, r) := by unfold pApp; rw [if_neg (by simpa using hck), if_pos hfull]
      rw [e]
      obtain ⟨fs, hd', rfl, rfl⟩ := hd
      refine (append_full g fs r k A c b w hd' hb (by simpa [view] using hk) hdn (by rw [used_view]; exact hfull)).mono ?_
      rintro e w' ⟨rfl, ht⟩
      exact ⟨rfl, (disk_keep hd' ht).dk⟩
    · have e : pApp V r k b = (cmdE r, V.set k ((V[k]).1 ++ b, (V[k]).2), cmdR r) := by unfold pApp; rw [if_neg (by simpa using hck), if_neg hfull, Int.toNat_natCast, hg]
      rw [e]
      obtain ⟨fs, hd', rfl, rfl⟩ := hd
      have hk' : k < fs.length := by simpa [view] using hk
      refine (append_ok g fs r k A c b w hd' hr hk' hdn (by rw [used_view]; omega) hdone).mono ?_
      rintro e w' ⟨rfl, hs⟩
      refine ⟨rfl, ?_⟩
      have := hs.dk
      simpa [view] using this
  · have e : pApp V r n b = (checkI r.down n, V, r) := by unfold pApp; rw [if_pos (by simpa using hck)]
    rw [e]
    refine (append_bad g r.down n _ w c11 hck).mono ?_
    rintro e w' ⟨rfl, rfl⟩
    exact ⟨rfl, hd.keep (Touch.refl _ _)⟩

theorem sync_dk (g : Nat) (fp : List Nat) (V : Fl) (r : DR) (n : Int) (w : World) (hd : DkAt w g fp V r) (hdone : r.done < 1073741824) :
    Calls Tryd.prog 49 #[.pointer (some ⟨g, 0, none⟩), .int .i64 n] w fun e w' => e = .returned (.int .i64 (pSync V r n).1) ∧ DkStep g fp (pSync V r n).2.1 (pSync V r n).2.2 w w' := by
  have c11 := hd.cells.2.2.2
  by_cases hck : checkI r.down n = 0
  · obtain ⟨hdn, h0, h4⟩ := check_zero hck
    obtain ⟨k, rfl⟩ : ∃ k : Nat, n = k := ⟨n.toNat, by omega⟩
    have hk : k < V.length := by have := hd.facts.1; omega
    have hg : V.getD k ([], 0) = V[k] := by simp [List.getD, hk]
    have e : pSync V r k = (cmdE r, if cmdE r = 0 then V.set k ((V[k]).1, (V[k]).1.length) else V, cmdR r) := by unfold pSync; rw [if_neg (by simpa using hck), Int.toNat_natCast, hg]
    rw [e]
    obtain ⟨fs, hd', rfl, rfl⟩ := hd
    have hk' : k < fs.length := by simpa [view] using hk
    refine (sync_ok g fs r k w hd' hk' hdn hdone).mono ?_
    rintro e w' ⟨rfl, hs⟩
    refine ⟨rfl, ?_⟩
    have := hs.dk
    simpa [view] using this
  · have e : pSync V r n = (checkI r.down n, V, r) := by unfold pSync; rw [if_pos (by simpa using hck)]
    rw [e]
    refine (sync_bad g r.down n w c11 hck).mono ?_
    rintro e w' ⟨rfl, rfl⟩
    exact ⟨rfl, hd.keep (Touch.refl _ _)⟩

theorem cut_dk (g : Nat) (fp : List Nat) (V : Fl) (r : DR) (n size : Int) (w : World) (hd : DkAt w g fp V r) (hdone : r.done < 1073741824) :
    Calls Tryd.prog 59 #[.pointer (some ⟨g, 0, none⟩), .int .i64 n, .int .i64 size] w fun e w' => e = .returned (.int .i64 (pCut V r n size).1) ∧ DkStep g fp (pCut V r n size).2.1 (pCut V r n size).2.2 w w' := by
  have c11 := hd.cells.2.2.2
  by_cases hck : checkI r.down n = 0
  · obtain ⟨hdn, h0, h4⟩ := check_zero hck
    obtain ⟨k, rfl⟩ : ∃ k : Nat, n = k := ⟨n.toNat, by omega⟩
    have hk : k < V.length := by have := hd.facts.1; omega
    have hg : V.getD k ([], 0) = V[k] := by simp [List.getD, hk]
    by_cases hrg : size < 0 ∨ ((V[k]).1.length : Int) < size
    · have e : pCut V r k size = (30, V, r) := by unfold pCut; rw [if_neg (by simpa using hck), Int.toNat_natCast, hg, if_pos hrg]
      rw [e]
      obtain ⟨fs, hd', rfl, rfl⟩ := hd
      have hk' : k < fs.length := by simpa [view] using hk
      refine (cut_range g fs r k size w hd' hk' hdn (by simpa [view] using hrg)).mono ?_
      rintro e w' ⟨rfl, rfl⟩
      exact ⟨rfl, (disk_keep hd' (Touch.refl _ _)).dk⟩
    · obtain ⟨s, rfl⟩ : ∃ s : Nat, size = s := ⟨size.toNat, by omega⟩
      have e : pCut V r k s = (cmdE r, if cmdE r = 0 then V.set k ((V[k]).1.take s, s) else V, cmdR r) := by unfold pCut; rw [if_neg (by simpa using hck), Int.toNat_natCast, hg, if_neg hrg, Int.toNat_natCast]
      rw [e]
      obtain ⟨fs, hd', rfl, rfl⟩ := hd
      have hk' : k < fs.length := by simpa [view] using hk
      refine (cut_ok g fs r k s w hd' hk' hdn (by simp [view] at hrg; omega) hdone).mono ?_
      rintro e w' ⟨rfl, hs⟩
      refine ⟨rfl, ?_⟩
      have := hs.dk
      simpa [view] using this
  · have e : pCut V r n size = (checkI r.down n, V, r) := by unfold pCut; rw [if_pos (by simpa using hck)]
    rw [e]
    refine (cut_bad g r.down n size w c11 hck).mono ?_
    rintro e w' ⟨rfl, rfl⟩
    exact ⟨rfl, hd.keep (Touch.refl _ _)⟩

theorem arm_dk (g : Nat) (fp : List Nat) (V : Fl) (r : DR) (n : Int) (w : World) (hd : DkAt w g fp V r) (hn : n ≤ 9223372036854775807) :
    Calls Tryd.prog 25 #[.pointer (some ⟨g, 0, none⟩), .int .i64 n] w fun e w' => e = .returned (.tuple #[]) ∧ DkStep g fp V { r with left := max n (-1) } w w' := by
  obtain ⟨fs, hd', rfl, rfl⟩ := hd
  exact (arm_any g fs r n w hd' hn).mono fun e w' ⟨he, hs⟩ => ⟨he, hs.dk⟩
theorem limit_dk (g : Nat) (fp : List Nat) (V : Fl) (r : DR) (n : Int) (w : World) (hd : DkAt w g fp V r) :
    Calls Tryd.prog 31 #[.pointer (some ⟨g, 0, none⟩), .int .i64 n] w fun e w' => e = .returned (.tuple #[]) ∧ DkStep g fp V (if 0 ≤ n ∧ n ≤ 1073741824 then { r with cap := n } else r) w w' := by
  obtain ⟨fs, hd', rfl, rfl⟩ := hd
  exact (limit_any g fs r n w hd').mono fun e w' ⟨he, hs⟩ => ⟨he, hs.dk⟩
theorem crash_dk (g : Nat) (fp : List Nat) (V : Fl) (r : DR) (A : Option Addr) (c : Nat) (ks : List Int) (w : World) (hd : DkAt w g fp V r) (hr : ∀ w', Touch fp w w' → RdI w' A ks)
    (hks : ∀ k ∈ ks, -9223372036854775808 ≤ k ∧ k ≤ 9223372036854775807) :
    Calls Tryd.prog 26 #[.pointer (some ⟨g, 0, none⟩), .slice A ks.length c] w fun e w' => e = .returned (.tuple #[]) ∧ DkStep g fp (crashK ks V 4) { r with left := -1, down := false } w w' := by
  obtain ⟨fs, hd', rfl, rfl⟩ := hd
  exact (crash_any g fs r A c ks w hd' hr hks).mono fun e w' ⟨he, hs⟩ => ⟨he, hs.dk⟩
theorem Rd.stable {w0 w : World} {A : Option Addr} {xs : List Value} {fp : List Nat} (h : Rd w0 A xs) (hb : ∀ b ∈ fp, w0.heap.size ≤ b) (T : Touch [] w0 w) : ∀ w', Touch fp w w' → Rd w' A xs :=
  fun _ ht => h.touch0 (T.trans ht (fun b hm => .inr (hb b hm)))
theorem used_dk (g : Nat) (fp : List Nat) (V : Fl) (r : DR) (w : World) (hd : DkAt w g fp V r) :
    Calls Tryd.prog 34 #[.pointer (some ⟨g, 0, none⟩)] w fun e w' => e = .returned (.int .i64 (usedV V : Nat)) ∧ Touch [] w w' := by
  obtain ⟨fs, hd', rfl, rfl⟩ := hd
  rw [← used_view]
  exact used_any g fs r w hd'.blk hd'.len hd'.used
theorem safe_dk (g : Nat) (fp : List Nat) (V : Fl) (r : DR) (n : Int) (w : World) (hd : DkAt w g fp V r) :
    Calls Tryd.prog 16 #[.pointer (some ⟨g, 0, none⟩), .int .i64 n] w fun e w' => e = .returned (.int .i64 (if 0 ≤ n ∧ n < 4 then ((V.getD n.toNat ([], 0)).2 : Int) else 0)) ∧ w = w' := by
  obtain ⟨fs, hd', rfl, rfl⟩ := hd
  exact safe_any g fs r n w hd'
theorem size_dk (g : Nat) (fp : List Nat) (V : Fl) (r : DR) (n : Int) (w : World) (hd : DkAt w g fp V r) :
    Calls Tryd.prog 12 #[.pointer (some ⟨g, 0, none⟩), .int .i64 n] w fun e w' => e = .returned (.int .i64 (if 0 ≤ n ∧ n < 4 then ((V.getD n.toNat ([], 0)).1.length : Int) else 0)) ∧ w = w' := by
  obtain ⟨fs, hd', rfl, rfl⟩ := hd
  exact size_any g fs r n w hd'
/-- Read: an error and nothing, or the bytes -/
theorem read_dk (g : Nat) (fp : List Nat) (V : Fl) (r : DR) (n : Int) (w : World) (hd : DkAt w g fp V r) :
    Calls Tryd.prog 13 #[.pointer (some ⟨g, 0, none⟩), .int .i64 n] w fun e w' => ∃ A c l, l = (if checkI r.down n = 0 then (V.getD n.toNat ([], 0)).1 else []) ∧ e = .returned (.tuple #[.slice A l.length c, .int .i64 (checkI r.down n)]) ∧ CloneAt l w w' A c := by
  have c11 := hd.cells.2.2.2
  by_cases hck : checkI r.down n = 0
  · obtain ⟨hdn, h0, h4⟩ := check_zero hck
    obtain ⟨k, rfl⟩ : ∃ k : Nat, n = k := ⟨n.toNat, by omega⟩
    obtain ⟨fs, hd', rfl, rfl⟩ := hd
    have hk : k < fs.length := by have := hd'.len; omega
    refine (read_ok g fs r k w hd' hk hdn).mono ?_
    rintro e w' ⟨A, c, rfl, h⟩
    exact ⟨A, c, fs[k].l, by rw [if_pos hck]; simp [view, List.getD, hk], by rw [hck], h⟩
  · refine (read_bad g r.down n w c11 hck).mono ?_
    rintro e w' ⟨rfl, rfl⟩
    exact ⟨none, 0, [], by rw [if_neg hck], rfl, OwnB.nil _, Touch.refl _ _, by simp [fpo]⟩
theorem new_dk (n : Int) (w : World) (h : 0 ≤ n ∧ n ≤ 1073741824) : Calls Tryd.prog 8 #[.int .i64 n] w fun e w' => e = .returned (.pointer (some ⟨w.heap.size, 0, none⟩)) ∧
    DkAt w' w.heap.size [w.heap.size] [([], 0), ([], 0), ([], 0), ([], 0)] ⟨n, -1, 0, false⟩ ∧ Touch [] w w' := by
  refine (new_ok n w h).mono ?_
  rintro e w' ⟨rfl, rfl⟩
  exact ⟨rfl, ⟨_, disk_new w n h, rfl, rfl⟩, (Touch.refl _ _).alloc _⟩
end Go.Proofs.YtlcpljpeljoboaaDoor

/- segment.clearFile: a file is cut to nothing. For every disk. -/
namespace Go.Proofs.YtlcpljpeljoboaaDoor
open Go.RowKit

def pClr (V : Fl) (r : DR) (k : Nat) : Int × Fl × DR := if (V.getD k ([], 0)).1.length = 0 then (0, V, r) else pCut V r k 0

set_option maxHeartbeats 800000 in
theorem clear_any (g : Nat) (fp : List Nat) (V : Fl) (r : DR) (k : Nat) (hk : k < 4) (w : World) (hd : DkAt w g fp V r) (hdone : r.done < 1073741824) :
    Calls Tryd.prog 51 #[.pointer (some ⟨g, 0, none⟩), .int .i64 k] w fun e w' => e = .returned (.int .i64 (pClr V r k).1) ∧ DkStep g fp (pClr V r k).2.1 (pClr V r k).2.2 w w' := by
  have hsize := size_dk g fp V r k w hd
  have hcut := cut_dk g fp V r k 0 w hd hdone
  have hV := hd.facts.1
  rw [if_pos (by omega), Int.toNat_natCast] at hsize
  obtain ⟨L, hL⟩ : ∃ L, L = (V.getD k ([], 0)).1.length := ⟨_, rfl⟩
  rw [← hL] at hsize
  unfold pClr
  rw [← hL]
  clear hL
  have Hcut := Lib.hid hcut
  clear hcut
  go_enter Tryd.func51, Tryd.ntmps51
  by_cases h0 : L = 0
  · subst h0
    rw [if_pos rfl]
    go_wp2_with fail
    refine hsize.mono ?_
    clear hsize
    rintro e w2 ⟨rfl, rfl⟩
    go_wp2
    go_ret
    exact ⟨rfl, hd.keep (Touch.refl _ _)⟩
  · have hL0 : ((L : Int) == 0) = false := by rw [beq_eq_false_iff_ne]; omega
    rw [if_neg h0]
    go_wp2_with fail
    refine hsize.mono ?_
    clear hsize
    rintro e w2 ⟨rfl, rfl⟩
    go_wp2_with fail
    refine Hcut.out.mono ?_
    rintro e w2 ⟨rfl, hs⟩
    go_wp2
    go_ret
    exact ⟨rfl, hs⟩
end Go.Proofs.YtlcpljpeljoboaaDoor

/- A journal's block; Log.note. -/
namespace Go.Proofs.YtlcpljpeljoboaaDoor
open Go.RowKit

structure LG where
  file : Nat
  gen : Nat
  loose : Bool
  down : Bool
def LogAt (w : World) (L g : Nat) (l : LG) : Prop := w.heap[L]? = some (.cells #[.pointer (some ⟨g, 0, none⟩), .int .i64 l.file, .int .i64 l.gen, .bool l.loose, .bool l.down] 79 (0, 0))
theorem blk5 {w : World} {R : Nat} {a b c d e : Value} {t : TypeId} (h : w.heap[R]? = some (.cells #[a, b, c, d, e] t (0, 0))) : w.cell? ⟨R, 0, none⟩ = some a ∧ w.cell? ⟨R, 1, none⟩ = some b ∧ w.cell? ⟨R, 2, none⟩ = some c ∧ w.cell? ⟨R, 3, none⟩ = some d ∧ w.cell? ⟨R, 4, none⟩ = some e ∧
    w.frozen? ⟨R, 0, none⟩ = false ∧ w.frozen? ⟨R, 1, none⟩ = false ∧ w.frozen? ⟨R, 2, none⟩ = false ∧ w.frozen? ⟨R, 3, none⟩ = false ∧ w.frozen? ⟨R, 4, none⟩ = false ∧ R < w.heap.size :=
  ⟨cell_blk h rfl, cell_blk h rfl, cell_blk h rfl, cell_blk h rfl, cell_blk h rfl, by simp [World.frozen?, h], by simp [World.frozen?, h], by simp [World.frozen?, h], by simp [World.frozen?, h], by simp [World.frozen?, h], lt_of_block h⟩

set_option maxHeartbeats 800000 in
theorem note_any (L g : Nat) (l : LG) (x : Int) (w : World) (h : LogAt w L g l) :
    Calls Tryd.prog 47 #[.pointer (some ⟨L, 0, none⟩), .int .i64 x] w fun e w' => e = .returned (.int .i64 x) ∧ LogAt w' L g { l with down := l.down || decide (x = 40) } ∧ Touch [L] w w' := by
  obtain ⟨fi, ge, lo, dn⟩ := l
  have hb : w.heap[L]? = some (.cells #[.pointer (some ⟨g, 0, none⟩), .int .i64 fi, .int .i64 ge, .bool lo, .bool dn] 79 (0, 0)) := h
  obtain ⟨s0, s1, s2, s3, s4, z0, z1, z2, z3, z4, hl⟩ := blk5 hb
  have hset : ∀ v : Bool, LogAt (w.setCell ⟨L, 4, none⟩ (.bool v)) L g ⟨fi, ge, lo, v⟩ := fun v => set_blk hb 4 (.bool v)
  have ht : ∀ v : Value, Touch [L] w (w.setCell ⟨L, 4, none⟩ v) := fun v => (Touch.refl [L] w).setCell (p := ⟨L, 4, none⟩) (.inl (by simp)) v
  have Hset := Lib.hid hset
  have Ht := Lib.hid ht
  clear hset ht hb h
  go_enter Tryd.func47, Tryd.ntmps47
  cases dn
  · by_cases hx : x = 40
    · subst hx
      go_wp2
      go_ret
      exact ⟨rfl, Hset.out true, Ht.out _⟩
    · have hx1 : (x == 40) = false := by rw [beq_eq_false_iff_ne]; exact hx
      have hx2 : decide (x = 40) = false := decide_eq_false hx
      rw [hx2]
      go_wp2
      go_ret
      exact ⟨rfl, Hset.out false, Ht.out _⟩
  · go_wp2
    go_ret
    exact ⟨rfl, Hset.out true, Ht.out _⟩
end Go.Proofs.YtlcpljpeljoboaaDoor

/- bywashref08.text: the text at a place. For every slice of bytes. -/
namespace Go.Proofs.YtlcpljpeljoboaaDoor
open Go.RowKit

def TxRPost (Ain : Option Addr) (b : List UInt8) (at_ : Nat) (w : World) (e : Ending) (w' : World) : Prop :=
  match rdT (b.drop at_) with
  | none => ∃ A c n, e = .returned (.tuple #[.slice A n c, .int .i64 (-1)]) ∧ Touch [] w w'
  | some (s, r) => ∃ A c, e = .returned (.tuple #[.slice A s.length c, .int .i64 ((b.length - r.length : Nat) : Int)]) ∧ Touch [] w w' ∧ RdB w' A s ∧ r = b.drop (b.length - r.length) ∧ r.length ≤ b.length ∧ s.length ≤ c ∧ s.length ≤ b.length ∧ ∀ x ∈ fpo A, x ∈ fpo Ain

set_option maxRecDepth 100000 in
set_option maxHeartbeats 1600000 in
theorem refTxt_any (A : Option Addr) (c n : Nat) (b : List UInt8) (hn : b.length = n) (at_ : Nat) (hm : n ≤ 900000000) (hc : n ≤ c) (ha : at_ ≤ 900000000) (w : World) (hr : RdB w A b) :
    Calls Tryd.prog 53 #[.slice A n c, .int .i64 at_] w fun e w' => TxRPost A b at_ w e w' := by
  subst hn
  go_enter Tryd.func53, Tryd.ntmps53
  have hRead := refRead_any A c b at_ (by omega) hc (by omega) w hr
  rcases hI : rdI (b.drop at_) with _ | ⟨v, r⟩
  · have hT : rdT (b.drop at_) = none := by unfold rdT; rw [hI]
    have hval := refRd_none hI
    have Hval := Lib.hid hval
    have HT := Lib.hid hT
    clear hval hT hI
    go_wp2_with fail
    refine hRead.mono ?_
    clear hRead
    rintro e w2 ⟨rfl, ht2⟩
    rw [Hval.out]
    go_wp2
    go_ret2
    unfold TxRPost
    rw [HT.out]
    exact ⟨_, _, _, rfl, ht2⟩
  · obtain ⟨E, hE, hrE, hval, hEr⟩ := rdI_at hI
    have hvb := rdI_bounds hI
    have Hval := Lib.hid hval
    clear hval
    by_cases hv : v < 0 ∨ (r.length : Int) < v
    · have hT : rdT (b.drop at_) = none := by unfold rdT; rw [hI]; simp [hv]
      have HT := Lib.hid hT
      clear hT hI hrE
      rcases (show v < 0 ∨ (0 ≤ v ∧ (r.length : Int) < v) by omega) with hv0 | ⟨hv0, hv1⟩
      · clear hv
        go_wp2_with fail
        refine hRead.mono ?_
        clear hRead
        rintro e w2 ⟨rfl, ht2⟩
        rw [Hval.out]
        go_wp2
        go_ret2
        unfold TxRPost
        rw [HT.out]
        exact ⟨_, _, _, rfl, ht2⟩
      · clear hv
        have hvE : (b.length : Int) - E < v := by omega
        go_wp2_with fail
        refine hRead.mono ?_
        clear hRead
        rintro e w2 ⟨rfl, ht2⟩
        rw [Hval.out]
        go_wp2
        go_ret2
        unfold TxRPost
        rw [HT.out]
        exact ⟨_, _, _, rfl, ht2⟩
    · obtain ⟨v, rfl⟩ : ∃ k : Nat, v = (k : Int) := ⟨v.toNat, by omega⟩
      have hvr : v ≤ r.length := by omega
      have hT : rdT (b.drop at_) = some (r.take v, r.drop v) := by unfold rdT; rw [hI]; dsimp only; rw [if_neg hv, Int.toNat_natCast]
      obtain ⟨s, hs⟩ : ∃ s, s = r.take v := ⟨_, rfl⟩
      have hsl : s.length = v := by rw [hs, List.length_take]; omega
      rw [← hs] at hT
      have hvE : (v : Int) ≤ (b.length : Int) - E := by omega
      obtain ⟨AS, hAS⟩ : ∃ AS, AS = if c = E then A else A.map (fun x => x.add E) := ⟨_, rfl⟩
      have hrS : ∀ W, RdB W A b → RdB W AS s := by
        intro W hW
        rw [hAS, hs]
        split
        · rw [List.eq_nil_of_length_eq_zero (show (r.take v).length = 0 by rw [List.length_take]; omega)]; exact Rd.nil _ _
        · rw [hrE]; exact RdB.pre (RdB.drop hW E) v
      have hAf : ∀ x ∈ fpo AS, x ∈ fpo A := by
        intro x hx
        rw [hAS] at hx
        split at hx
        · exact hx
        · rcases A with _ | ⟨ab, ao, asp⟩
          · simp [fpo] at hx
          · simpa [fpo, block_of_add] using hx
      have HAf := Lib.hid hAf; clear hAf
      have hsl2 := fun W => run_cutB A b.length c E (E + v) ((E : Int) + v) (by omega) (by omega) (by omega) W
      rw [← hAS, show E + v - E = v by omega] at hsl2
      have hdr : r.drop v = b.drop (b.length - (r.drop v).length) := by
        rw [List.length_drop, show b.length - (r.length - v) = E + v by omega, hrE, List.drop_drop]
      have hrl : b.length - (r.drop v).length = E + v := by rw [List.length_drop]; omega
      have HrS := Lib.hid hrS
      have HT := Lib.hid hT
      have Hdr := Lib.hid hdr
      have Hrl := Lib.hid hrl
      have Hsl := Lib.hid hsl
      have hrd : (r.drop v).length ≤ b.length := by rw [List.length_drop]; omega
      have Hrd := Lib.hid hrd
      have hvb3 : v ≤ b.length := by omega
      clear hrS hAS hrE hs hI hv hEr hT hdr hrl hsl hrd
      go_wp2_with fail
      refine hRead.mono ?_
      clear hRead
      rintro e w2 ⟨rfl, ht2⟩
      rw [Hval.out]
      have hbE : decide ((E : Int) < 0) = false := by simp
      have hbv : decide ((v : Int) < 0) = false := by simp
      have hbr : decide ((b.length : Int) - E < (v : Int)) = false := by simp; omega
      have hA : IntKind.i64.wrap ((E : Int) + (v : Int)) = (E : Int) + v := IntWalk.i64_in _ (by omega)
      go_wp2
      go_ret2
      unfold TxRPost
      rw [HT.out]
      dsimp only
      rw [Hrl.out, Hsl.out]
      have e2 := Hdr.out
      rw [Hrl.out] at e2
      exact ⟨AS, c - E, rfl, ht2, HrS.out w2 (Rd.touch0 hr ht2), e2, Hrd.out, by omega, hvb3, HAf.out⟩
end Go.Proofs.YtlcpljpeljoboaaDoor
