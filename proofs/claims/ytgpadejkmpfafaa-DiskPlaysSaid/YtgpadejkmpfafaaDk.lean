/- A disk told by its files' bytes alone; each method as a step of plain data. -/
import Derived.Test.YtgpadejkmpfafaaDiskCrash
namespace Go.Proofs.Ytgpadejkmpfafaa
open Go.RowKit

abbrev Fl := List (List UInt8 × Nat)
def DkAt (w : World) (g : Nat) (fp : List Nat) (V : Fl) (r : DR) : Prop := ∃ fs, DiskAt w g fs r ∧ view fs = V ∧ dfp g fs = fp
def DkStep (g : Nat) (fp : List Nat) (V : Fl) (r : DR) (w w' : World) : Prop := ∃ fp', DkAt w' g fp' V r ∧ Touch fp w w' ∧ ∀ b ∈ fp', b ∈ fp ∨ w.heap.size ≤ b

theorem DStep.dk {g : Nat} {fs : List DF} {V : Fl} {r : DR} {w w' : World} (h : DStep g fs V r w w') : DkStep g (dfp g fs) V r w w' := by
  obtain ⟨fs', h1, h2, h3, h4⟩ := h
  exact ⟨dfp g fs', ⟨fs', h1, h2, rfl⟩, h3, h4⟩
theorem DkAt.step {w w' : World} {g : Nat} {fp fp2 : List Nat} {V : Fl} {r : DR} (h : DkAt w g fp V r) (ht : Touch fp2 w w') (hn : ∀ b ∈ fp, b ∉ fp2) : DkAt w' g fp V r := by
  obtain ⟨fs, hd, hv, rfl⟩ := h
  refine ⟨fs, ⟨ht.blk hd.blk (hn g (by simp [dfp])), hd.len, fun i hi => ?_, hd.apart, hd.rok, hd.used⟩, hv, rfl⟩
  obtain ⟨h1, h2, h3⟩ := hd.ok i hi
  exact ⟨h1.touch ht (fun b hb => hn b (mem_dfp.2 (.inr ⟨i, hi, hb⟩))), h2, h3⟩
theorem DkAt.lt {w : World} {g : Nat} {fp : List Nat} {V : Fl} {r : DR} (h : DkAt w g fp V r) : ∀ b ∈ fp, b < w.heap.size := by
  obtain ⟨fs, hd, hv, rfl⟩ := h
  exact dfp_lt hd
theorem DkAt.keep {w w' : World} {g : Nat} {fp : List Nat} {V : Fl} {r : DR} (h : DkAt w g fp V r) (ht : Touch [] w w') : DkStep g fp V r w w' :=
  ⟨fp, h.step ht (by simp), ht.mono (by simp), fun b hb => .inl hb⟩
theorem DkStep.trans {g : Nat} {fp fp1 : List Nat} {V : Fl} {r : DR} {w w1 w2 : World} (T : Touch fp w w1) (hf : ∀ b ∈ fp1, b ∈ fp ∨ w.heap.size ≤ b) (h : DkStep g fp1 V r w1 w2) : DkStep g fp V r w w2 := by
  obtain ⟨fp', h1, h2, h3⟩ := h
  refine ⟨fp', h1, T.trans h2 hf, fun b hb => ?_⟩
  rcases h3 b hb with h | h
  · exact hf b h
  · exact .inr (Nat.le_trans T.size h)

def usedV (V : Fl) : Nat := (V.map fun x => x.1.length).sum
theorem used_view (fs : List DF) : used fs = usedV (view fs) := by simp [used, usedV, view, Function.comp_def]
theorem DkAt.facts {w : World} {g : Nat} {fp : List Nat} {V : Fl} {r : DR} (h : DkAt w g fp V r) : V.length = 4 ∧ usedV V ≤ 1073741824 ∧ r.ok ∧ ∀ i, (hi : i < V.length) → (V[i]).2 ≤ (V[i]).1.length := by
  obtain ⟨fs, hd, rfl, rfl⟩ := h
  refine ⟨by simp [view, hd.len], by rw [← used_view]; exact hd.used, hd.rok, fun i hi => ?_⟩
  have hi' : i < fs.length := by simpa [view] using hi
  simpa [view] using (hd.ok i hi').2.1
theorem DkAt.cells {w : World} {g : Nat} {fp : List Nat} {V : Fl} {r : DR} (h : DkAt w g fp V r) : w.cell? ⟨g, 8, none⟩ = some (.int .i64 r.cap) ∧ w.cell? ⟨g, 9, none⟩ = some (.int .i64 r.left) ∧ w.cell? ⟨g, 10, none⟩ = some (.int .i64 r.done) ∧ w.cell? ⟨g, 11, none⟩ = some (.bool r.down) := by
  obtain ⟨fs, hd, rfl, rfl⟩ := h
  exact ⟨cell_blk hd.blk (dcells_r hd.len).1, cell_blk hd.blk (dcells_r hd.len).2.1, cell_blk hd.blk (dcells_r hd.len).2.2.1, cell_blk hd.blk (dcells_r hd.len).2.2.2⟩

/-- Append on plain data: the error, the files, the other fields -/
def pApp (V : Fl) (r : DR) (n : Int) (b : List UInt8) : Int × Fl × DR :=
  if checkI r.down n ≠ 0 then (checkI r.down n, V, r)
  else if r.cap - usedV V < (b.length : Int) then (41, V, r)
  else (cmdE r, V.set n.toNat ((V.getD n.toNat ([], 0)).1 ++ b, (V.getD n.toNat ([], 0)).2), cmdR r)
def pSync (V : Fl) (r : DR) (n : Int) : Int × Fl × DR :=
  if checkI r.down n ≠ 0 then (checkI r.down n, V, r)
  else (cmdE r, if cmdE r = 0 then V.set n.toNat ((V.getD n.toNat ([], 0)).1, (V.getD n.toNat ([], 0)).1.length) else V, cmdR r)
def pCut (V : Fl) (r : DR) (n size : Int) : Int × Fl × DR :=
  if checkI r.down n ≠ 0 then (checkI r.down n, V, r)
  else if size < 0 ∨ ((V.getD n.toNat ([], 0)).1.length : Int) < size then (30, V, r)
  else (cmdE r, if cmdE r = 0 then V.set n.toNat ((V.getD n.toNat ([], 0)).1.take size.toNat, size.toNat) else V, cmdR r)

theorem check_zero {down : Bool} {n : Int} (h : checkI down n = 0) : down = false ∧ 0 ≤ n ∧ n < 4 := by
  unfold checkI at h
  cases down
  · by_cases hn : 0 ≤ n ∧ n < 4
    · exact ⟨rfl, hn⟩
    · simp only [if_neg hn] at h; simp at h
  · simp at h

theorem append_dk (g : Nat) (fp : List Nat) (V : Fl) (r : DR) (n : Int) (A : Option Addr) (c : Nat) (b : List UInt8) (w : World) (hd : DkAt w g fp V r) (hr : RdB w A b) (hb : b.length ≤ 9223372036854775807) (hdone : r.done < 1073741824) :
    Calls Try.prog 12 #[.pointer (some ⟨g, 0, none⟩), .int .i64 n, .slice A b.length c] w fun e w' => e = .returned (.int .i64 (pApp V r n b).1) ∧ DkStep g fp (pApp V r n b).2.1 (pApp V r n b).2.2 w w' := by
  have c11 := hd.cells.2.2.2
  by_cases hck : checkI r.down n = 0
  · obtain ⟨hdn, h0, h4⟩ := check_zero hck
    obtain ⟨k, rfl⟩ : ∃ k : Nat, n = k := ⟨n.toNat, by omega⟩
    have hk : k < V.length := by have := hd.facts.1; omega
    have hg : V.getD k ([], 0) = V[k] := by simp [List.getD, hk]
    by_cases hfull : r.cap - usedV V < (b.length : Int)
    · have e : pApp V r k b = (41, V, r) := by unfold pApp; rw [if_neg (by simpa using hck), if_pos hfull]
      rw [e]
      obtain ⟨fs, hd', rfl, rfl⟩ := hd
      refine (append_full g fs r k A c b w hd' hb (by simpa [view] using hk) hdn (by rw [used_view]; exact hfull)).mono ?_
      rintro e w' ⟨rfl, ht⟩
      exact ⟨rfl, (disk_keep hd' ht).dk⟩
    · have e : pApp V r k b = (cmdE r, V.set k ((V[k]).1 ++ b, (V[k]).2), cmdR r) := by unfold pApp; rw [if_neg (by simpa using hck), if_neg hfull, Int.toNat_natCast, hg]
      rw [e]
      obtain ⟨fs, hd', rfl, rfl⟩ := hd
      have hk' : k < fs.length := by simpa [view] using hk
      refine (append_ok g fs r k A c b w hd' hr hk' hdn (by rw [used_view]; omega) hdone).mono ?_
      rintro e w' ⟨rfl, hs⟩
      refine ⟨rfl, ?_⟩
      have := hs.dk
      simpa [view] using this
  · have e : pApp V r n b = (checkI r.down n, V, r) := by unfold pApp; rw [if_pos (by simpa using hck)]
    rw [e]
    refine (append_bad g r.down n _ w c11 hck).mono ?_
    rintro e w' ⟨rfl, rfl⟩
    exact ⟨rfl, hd.keep (Touch.refl _ _)⟩

theorem sync_dk (g : Nat) (fp : List Nat) (V : Fl) (r : DR) (n : Int) (w : World) (hd : DkAt w g fp V r) (hdone : r.done < 1073741824) :
    Calls Try.prog 11 #[.pointer (some ⟨g, 0, none⟩), .int .i64 n] w fun e w' => e = .returned (.int .i64 (pSync V r n).1) ∧ DkStep g fp (pSync V r n).2.1 (pSync V r n).2.2 w w' := by
  have c11 := hd.cells.2.2.2
  by_cases hck : checkI r.down n = 0
  · obtain ⟨hdn, h0, h4⟩ := check_zero hck
    obtain ⟨k, rfl⟩ : ∃ k : Nat, n = k := ⟨n.toNat, by omega⟩
    have hk : k < V.length := by have := hd.facts.1; omega
    have hg : V.getD k ([], 0) = V[k] := by simp [List.getD, hk]
    have e : pSync V r k = (cmdE r, if cmdE r = 0 then V.set k ((V[k]).1, (V[k]).1.length) else V, cmdR r) := by unfold pSync; rw [if_neg (by simpa using hck), Int.toNat_natCast, hg]
    rw [e]
    obtain ⟨fs, hd', rfl, rfl⟩ := hd
    have hk' : k < fs.length := by simpa [view] using hk
    refine (sync_ok g fs r k w hd' hk' hdn hdone).mono ?_
    rintro e w' ⟨rfl, hs⟩
    refine ⟨rfl, ?_⟩
    have := hs.dk
    simpa [view] using this
  · have e : pSync V r n = (checkI r.down n, V, r) := by unfold pSync; rw [if_pos (by simpa using hck)]
    rw [e]
    refine (sync_bad g r.down n w c11 hck).mono ?_
    rintro e w' ⟨rfl, rfl⟩
    exact ⟨rfl, hd.keep (Touch.refl _ _)⟩

theorem cut_dk (g : Nat) (fp : List Nat) (V : Fl) (r : DR) (n size : Int) (w : World) (hd : DkAt w g fp V r) (hdone : r.done < 1073741824) :
    Calls Try.prog 20 #[.pointer (some ⟨g, 0, none⟩), .int .i64 n, .int .i64 size] w fun e w' => e = .returned (.int .i64 (pCut V r n size).1) ∧ DkStep g fp (pCut V r n size).2.1 (pCut V r n size).2.2 w w' := by
  have c11 := hd.cells.2.2.2
  by_cases hck : checkI r.down n = 0
  · obtain ⟨hdn, h0, h4⟩ := check_zero hck
    obtain ⟨k, rfl⟩ : ∃ k : Nat, n = k := ⟨n.toNat, by omega⟩
    have hk : k < V.length := by have := hd.facts.1; omega
    have hg : V.getD k ([], 0) = V[k] := by simp [List.getD, hk]
    by_cases hrg : size < 0 ∨ ((V[k]).1.length : Int) < size
    · have e : pCut V r k size = (30, V, r) := by unfold pCut; rw [if_neg (by simpa using hck), Int.toNat_natCast, hg, if_pos hrg]
      rw [e]
      obtain ⟨fs, hd', rfl, rfl⟩ := hd
      have hk' : k < fs.length := by simpa [view] using hk
      refine (cut_range g fs r k size w hd' hk' hdn (by simpa [view] using hrg)).mono ?_
      rintro e w' ⟨rfl, rfl⟩
      exact ⟨rfl, (disk_keep hd' (Touch.refl _ _)).dk⟩
    · obtain ⟨s, rfl⟩ : ∃ s : Nat, size = s := ⟨size.toNat, by omega⟩
      have e : pCut V r k s = (cmdE r, if cmdE r = 0 then V.set k ((V[k]).1.take s, s) else V, cmdR r) := by unfold pCut; rw [if_neg (by simpa using hck), Int.toNat_natCast, hg, if_neg hrg, Int.toNat_natCast]
      rw [e]
      obtain ⟨fs, hd', rfl, rfl⟩ := hd
      have hk' : k < fs.length := by simpa [view] using hk
      refine (cut_ok g fs r k s w hd' hk' hdn (by simp [view] at hrg; omega) hdone).mono ?_
      rintro e w' ⟨rfl, hs⟩
      refine ⟨rfl, ?_⟩
      have := hs.dk
      simpa [view] using this
  · have e : pCut V r n size = (checkI r.down n, V, r) := by unfold pCut; rw [if_pos (by simpa using hck)]
    rw [e]
    refine (cut_bad g r.down n size w c11 hck).mono ?_
    rintro e w' ⟨rfl, rfl⟩
    exact ⟨rfl, hd.keep (Touch.refl _ _)⟩

theorem arm_dk (g : Nat) (fp : List Nat) (V : Fl) (r : DR) (n : Int) (w : World) (hd : DkAt w g fp V r) (hn : n ≤ 9223372036854775807) :
    Calls Try.prog 18 #[.pointer (some ⟨g, 0, none⟩), .int .i64 n] w fun e w' => e = .returned (.tuple #[]) ∧ DkStep g fp V { r with left := max n (-1) } w w' := by
  obtain ⟨fs, hd', rfl, rfl⟩ := hd
  exact (arm_any g fs r n w hd' hn).mono fun e w' ⟨he, hs⟩ => ⟨he, hs.dk⟩
theorem limit_dk (g : Nat) (fp : List Nat) (V : Fl) (r : DR) (n : Int) (w : World) (hd : DkAt w g fp V r) :
    Calls Try.prog 42 #[.pointer (some ⟨g, 0, none⟩), .int .i64 n] w fun e w' => e = .returned (.tuple #[]) ∧ DkStep g fp V (if 0 ≤ n ∧ n ≤ 1073741824 then { r with cap := n } else r) w w' := by
  obtain ⟨fs, hd', rfl, rfl⟩ := hd
  exact (limit_any g fs r n w hd').mono fun e w' ⟨he, hs⟩ => ⟨he, hs.dk⟩
theorem crash_dk (g : Nat) (fp : List Nat) (V : Fl) (r : DR) (A : Option Addr) (c : Nat) (ks : List Int) (w : World) (hd : DkAt w g fp V r) (hr : ∀ w', Touch fp w w' → RdI w' A ks)
    (hks : ∀ k ∈ ks, -9223372036854775808 ≤ k ∧ k ≤ 9223372036854775807) :
    Calls Try.prog 13 #[.pointer (some ⟨g, 0, none⟩), .slice A ks.length c] w fun e w' => e = .returned (.tuple #[]) ∧ DkStep g fp (crashK ks V 4) { r with left := -1, down := false } w w' := by
  obtain ⟨fs, hd', rfl, rfl⟩ := hd
  exact (crash_any g fs r A c ks w hd' hr hks).mono fun e w' ⟨he, hs⟩ => ⟨he, hs.dk⟩
theorem Rd.stable {w0 w : World} {A : Option Addr} {xs : List Value} {fp : List Nat} (h : Rd w0 A xs) (hb : ∀ b ∈ fp, w0.heap.size ≤ b) (T : Touch [] w0 w) : ∀ w', Touch fp w w' → Rd w' A xs :=
  fun _ ht => h.touch0 (T.trans ht (fun b hm => .inr (hb b hm)))
theorem used_dk (g : Nat) (fp : List Nat) (V : Fl) (r : DR) (w : World) (hd : DkAt w g fp V r) :
    Calls Try.prog 16 #[.pointer (some ⟨g, 0, none⟩)] w fun e w' => e = .returned (.int .i64 (usedV V : Nat)) ∧ Touch [] w w' := by
  obtain ⟨fs, hd', rfl, rfl⟩ := hd
  rw [← used_view]
  exact used_any g fs r w hd'.blk hd'.len hd'.used
theorem safe_dk (g : Nat) (fp : List Nat) (V : Fl) (r : DR) (n : Int) (w : World) (hd : DkAt w g fp V r) :
    Calls Try.prog 15 #[.pointer (some ⟨g, 0, none⟩), .int .i64 n] w fun e w' => e = .returned (.int .i64 (if 0 ≤ n ∧ n < 4 then ((V.getD n.toNat ([], 0)).2 : Int) else 0)) ∧ w = w' := by
  obtain ⟨fs, hd', rfl, rfl⟩ := hd
  exact safe_any g fs r n w hd'
theorem size_dk (g : Nat) (fp : List Nat) (V : Fl) (r : DR) (n : Int) (w : World) (hd : DkAt w g fp V r) :
    Calls Try.prog 22 #[.pointer (some ⟨g, 0, none⟩), .int .i64 n] w fun e w' => e = .returned (.int .i64 (if 0 ≤ n ∧ n < 4 then ((V.getD n.toNat ([], 0)).1.length : Int) else 0)) ∧ w = w' := by
  obtain ⟨fs, hd', rfl, rfl⟩ := hd
  exact size_any g fs r n w hd'
/-- Read: an error and nothing, or the bytes -/
theorem read_dk (g : Nat) (fp : List Nat) (V : Fl) (r : DR) (n : Int) (w : World) (hd : DkAt w g fp V r) :
    Calls Try.prog 14 #[.pointer (some ⟨g, 0, none⟩), .int .i64 n] w fun e w' => ∃ A c l, l = (if checkI r.down n = 0 then (V.getD n.toNat ([], 0)).1 else []) ∧ e = .returned (.tuple #[.slice A l.length c, .int .i64 (checkI r.down n)]) ∧ CloneAt l w w' A c := by
  have c11 := hd.cells.2.2.2
  by_cases hck : checkI r.down n = 0
  · obtain ⟨hdn, h0, h4⟩ := check_zero hck
    obtain ⟨k, rfl⟩ : ∃ k : Nat, n = k := ⟨n.toNat, by omega⟩
    obtain ⟨fs, hd', rfl, rfl⟩ := hd
    have hk : k < fs.length := by have := hd'.len; omega
    refine (read_ok g fs r k w hd' hk hdn).mono ?_
    rintro e w' ⟨A, c, rfl, h⟩
    exact ⟨A, c, fs[k].l, by rw [if_pos hck]; simp [view, List.getD, hk], by rw [hck], h⟩
  · refine (read_bad g r.down n w c11 hck).mono ?_
    rintro e w' ⟨rfl, rfl⟩
    exact ⟨none, 0, [], by rw [if_neg hck], rfl, OwnB.nil _, Touch.refl _ _, by simp [fpo]⟩
theorem new_dk (n : Int) (w : World) (h : 0 ≤ n ∧ n ≤ 1073741824) : Calls Try.prog 9 #[.int .i64 n] w fun e w' => e = .returned (.pointer (some ⟨w.heap.size, 0, none⟩)) ∧
    DkAt w' w.heap.size [w.heap.size] [([], 0), ([], 0), ([], 0), ([], 0)] ⟨n, -1, 0, false⟩ ∧ Touch [] w w' := by
  refine (new_ok n w h).mono ?_
  rintro e w' ⟨rfl, rfl⟩
  exact ⟨rfl, ⟨_, disk_new w n h, rfl, rfl⟩, (Touch.refl _ _).alloc _⟩
end Go.Proofs.Ytgpadejkmpfafaa
