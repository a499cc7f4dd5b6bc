/- bywashlaw06.step at Append, Read, Arm, Crash, Limit and at any other kind. -/
import Derived.Test.YtgpadejkmpfafaaStepA
namespace Go.Proofs.Ytgpadejkmpfafaa
open Go.RowKit

theorem OwnB.set {w : World} {G c : Nat} {l : List UInt8} (h : OwnB w (some ⟨G, 0, none⟩) c l) (k : Nat) (x : UInt8) : OwnB (w.setCell ⟨G, k, none⟩ (B x)) (some ⟨G, 0, none⟩) c (l.set k x) := by
  have := (World.ownsRow.stored h k (B x)).1
  unfold OwnB
  rw [List.length_set, List.map_set]
  exact this
theorem u8_inc (x : UInt8) : ((x.toNat : Int) + 1) % 256 = ((x + 1).toNat : Int) := by
  rw [UInt8.toNat_add]; simp
theorem add_gk (G k : Nat) : (⟨G, 0, none⟩ : Addr).add k = ⟨G, k, none⟩ := by unfold Addr.add; split <;> simp_all

set_option maxRecDepth 100000 in
set_option maxHeartbeats 3200000 in
theorem step_append (g : Nat) (fp : List Nat) (V : Fl) (r : DR) (h : Nat) (fq : List Nat) (rr : RR) (file n : Int) (dA : Option Addr) (m dc : Nat) (b : List UInt8) (hbm : b.length = m) (hm : m ≤ 1073741824) (vk : Value) (w : World) (P : PairAt w g fp V r h fq (toR V) rr) (hs : SameR r rr) (hdone : r.done < 1073741824) (hrd : RdB w dA b) :
    Calls Try.prog 23 #[.pointer (some ⟨g, 0, none⟩), .pointer (some ⟨h, 0, none⟩), .agg #[.int .i64 1, .int .i64 file, .int .i64 n, .slice dA m dc, vk]] w fun e w' => StepPost g fp h fq r w e w' := by
  have ta := (Touch.refl [] w).alloc (.cells #[.int .i64 1, .int .i64 file, .int .i64 n, .slice dA m dc, vk] 41)
  have hdn := done_app V r file b
  obtain ⟨x, hx⟩ : ∃ x, pApp V r file b = x := ⟨_, rfl⟩
  rw [hx] at hdn
  have hb := heap_alloc_new w (.cells #[.int .i64 1, .int .i64 file, .int .i64 n, .slice dA m dc, vk] 41)
  have Hx := Lib.hid hx
  have hf := P.dk.fok
  have tb := ta.alloc (.cells #[] 5)
  have t0 := (Touch.refl [] (w.alloc (.cells #[.int .i64 1, .int .i64 file, .int .i64 n, .slice dA m dc, vk] 41))).alloc (.cells #[] 5)
  have hempty := OwnB.empty_new (w.alloc (.cells #[.int .i64 1, .int .i64 file, .int .i64 n, .slice dA m dc, vk] 41))
  have c1 := t0.cell (cell_blk hb (i := 1) (v := .int .i64 file) rfl) (by simp)
  have c3 := t0.cell (cell_blk hb (i := 3) (v := .slice dA m dc) rfl) (by simp)
  have hltp := P.dk.lt
  have hltq := P.rd.lt
  have Hbm := Lib.hid hbm
  have hrdW := Rd.touch0 hrd tb
  have hP := P.keep tb
  have hsz := tb.size
  clear hx hbm t0
  rw [World.size_alloc] at hempty
  go_enter Try.func23, Try.ntmps23
  go_wp2_with (at_builtin; refine stop ?_)
  refine go ?_
  refine wpList_appB rfl (.tmp 19) (.tmp 21) rfl (some ⟨w.heap.size + 1, 0, none⟩) 0 0 [] rfl rfl hempty dA m dc b Hbm.out rfl hrdW (by omega) ?_
  intro A1 d1 w1 hown1 ht1 hf1
  rw [Nat.zero_add]
  rw [List.nil_append] at hown1
  have hf1' : ∀ x ∈ fpo A1, w.heap.size + 1 ≤ x := fun x hx => by
    rcases hf1 x hx with h1 | h1
    · simp [fpo] at h1; omega
    · simp at h1; omega
  have c1' := ht1.cell c1 (by simp [fpo])
  have hP1 := hP.touch ht1 (fun x hx hm => by have := hltp x hx; simp [fpo] at hm; omega) (fun x hx hm => by have := hltq x hx; simp [fpo] at hm; omega)
  have T1 : Touch [] w w1 := tb.trans ht1 (fun x hx => .inr (by simp [fpo] at hx; omega))
  clear hempty hrdW hP c1 c3 hb ta
  go_wp2_with fail
  refine (rappend_tw h fq V r rr file A1 d1 m b Hbm.out w1 hP1.rd hs hf (fun w' T => (hown1.touch T (fun x hx hm => by have := hf1' x hx; have := hltq x hm; omega)).rd) hm x Hx.out).mono ?_
  rintro e w2 ⟨rfl, rr2, s2, hs2⟩
  have sf := s2
  obtain ⟨fqx, P2, T2, f2⟩ := hP1.refr s2
  have hlA1 := hown1.lt
  have hown2 := hown1.touch T2 (fun x hx hm => by have := hf1' x hx; have := hltq x hm; omega)
  have c1'' := T2.cell c1' (fun hm => by have := hltq _ hm; simp at this)
  go_wp2_with fail
  refine (append_dkn g fp V r file A1 m d1 b Hbm.out w2 P2.dk hown2.rd (by omega) hdone x Hx.out).mono ?_
  rintro e w3 ⟨rfl, s3⟩
  obtain ⟨fpx, P3, T3, f3⟩ := P2.real s3
  have hown3 := hown2.touch T3 (fun x hx hm => by have := hf1' x hx; have := hltp x hm; omega)
  have z1 := T1.size
  have z2 := T2.size
  have hapx : ∀ x ∈ fpo A1, x ∉ fpx ∧ x ∉ fqx := by
    intro x hx
    have h1 := hf1' x hx
    have h2 := hlA1 x hx
    refine ⟨fun hm => ?_, fun hm => ?_⟩
    · rcases f3 x hm with h3 | h3
      · have := hltp x h3; omega
      · omega
    · rcases f2 x hm with h3 | h3
      · have := hltq x h3; omega
      · omega
  have HF : Hid (∀ wr, Touch (fpo A1) w3 wr → PairStep g fp h fq x.2.1 x.2.2 w wr) := Lib.hid (fun wr ht => by
    refine ⟨fpx, fqx, rr2, P3.touch ht (fun b hb hm => (hapx b hm).1 hb) (fun b hb hm => (hapx b hm).2 hb), hs2, ?_, fun b hb => ?_, fun b hb => ?_⟩
    · exact (((T1.mono (fp2 := fp ++ fq) (by simp)).trans T2 (fun b hb => .inl (by simp [hb]))).trans T3 (fun b hb => .inl (by simp [hb]))).trans ht (fun b hb => .inr (by have := hf1' b hb; omega))
    · rcases f3 b hb with h1 | h1
      · exact .inl (by simp [h1])
      · exact .inr (by omega)
    · rcases f2 b hb with h1 | h1
      · exact .inl (by simp [h1])
      · exact .inr (by omega))
  clear c1' c1'' hown1 hown2 P2 P3 hP1 s3 sf s2 hapx
  go_wp2_with fail
  go_loopw [35] (fun i wr => ∃ (k : Nat) (zs : List UInt8), k ≤ m ∧ i = .int .i64 k ∧ zs.length = m ∧ OwnB wr A1 d1 zs ∧ Touch (fpo A1) w3 wr) (fun i _ => m - (intOf i).toNat)
  case atStart => exact ⟨0, b, by omega, rfl, Hbm.out, hown3, Touch.refl _ _⟩
  case round =>
    clear hown3
    obtain ⟨k, zs, hk, rfl, hzl, hown, ht5⟩ := hrel
    by_cases hlt : k < m
    · have hkz : k < zs.length := by omega
      obtain ⟨G, rfl⟩ : ∃ G, A1 = some ⟨G, 0, none⟩ := by
        rcases hown.head with ⟨_, e, _⟩ | ⟨G, e⟩
        · rw [e] at hkz; simp at hkz
        · exact ⟨G, e⟩
      obtain ⟨y, hy⟩ : ∃ y, y = zs[k] := ⟨_, rfl⟩
      have hcell : wr.cell? ⟨G, k, none⟩ = some (.int .u8 y.toNat) := by
        have := World.ownsRow.cells hown (g := G) rfl k (B y) (by rw [hy]; simp [hkz])
        rwa [add_gk] at this
      have hfree : wr.frozen? ⟨G, k, none⟩ = false := World.ownsRow.frozenAt hown k
      have hset := hown.set k (y + 1)
      have hyl := y.toNat_lt
      have hinc := Lib.hid (u8_inc y)
      have hzl2 : (zs.set k (y + 1)).length = m := by rw [List.length_set]; exact hzl
      have Hzl := Lib.hid hzl2
      clear hy hzl hzl2 hown
      have T5 := ht5.setCell (p := ⟨G, k, none⟩) (.inl (by simp [fpo])) (B (y + 1))
      go_wp2_with fail
      go_roundw
      case rel => exact ⟨k + 1, zs.set k (y + 1), by omega, by go_num, Hzl.out, by rw [hinc.out]; exact hset, by rw [hinc.out]; exact T5⟩
      case measure => simp [intOf]; omega
    · have hfin := Lib.hid (HF.out wr ht5)
      clear hown hzl ht5
      go_wp2
      go_ret
      exact ⟨rfl, x.2.1, x.2.2, hfin.out, hdn⟩
end Go.Proofs.Ytgpadejkmpfafaa
