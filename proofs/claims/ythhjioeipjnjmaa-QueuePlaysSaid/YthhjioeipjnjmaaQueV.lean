/- The queue's Put: the walk. For every queue. -/
import Derived.Test.YthhjioeipjnjmaaQueU
namespace Go.Proofs.Ythhjioeipjnjmaa
open Go.RowKit

theorem HpAt.setp {w : World} {g : Nat} {A : Option Addr} {c : Nat} {es : ES} {m p : Value} (h : HpAt w g A c es m p) (v : Value) : HpAt (w.setCell ⟨g, 2, none⟩ v) g A c es m v := by
  have T := (Touch.refl [g] w).setCell (p := ⟨g, 2, none⟩) (.inl (by simp)) v
  exact ⟨set_blk h.blk 2 v, h.es_.touch T (fun b hb hm => h.ng ((by simpa using hm : b = g) ▸ hb)), h.ng⟩

/-- one more in the heap, in the map, in order -/
theorem QMem.more {w w' : World} {g mb : Nat} {A A' : Option Addr} {c c' : Nat} {es : ES} {kvs : List (Value × Value)} {L : List QE} {p : Nat} (h : QMem w g mb A c es kvs L p) (B : Nat) (q : QE) (hq : q.put = p + 1) (hok : q.Ok) (hl : L.length < 100000)
    (hno : ∀ e ∈ L, ¬ e.is q.asset q.index) (hh : HpAt w' g A' c' (upL ltE (es ++ [(B, q)]) es.length) (.map (some mb)) (.int .i64 (p + 1 : Nat))) (hm : MapAt Try.prog 26 w' mb (kvs ++ [(partV q.asset q.index, ptrV B)])) (hmA : mb ∉ fpo A') (hmB : mb ≠ B) :
    QMem w' g mb A' c' (upL ltE (es ++ [(B, q)]) es.length) (kvs ++ [(partV q.asset q.index, ptrV B)]) (insQ L q) (p + 1) := by
  obtain ⟨h1, h2⟩ := pushL_spec ordE es (B, q) h.heap
  have hlen : (upL ltE (es ++ [(B, q)]) es.length).length = es.length + 1 := by rw [upL_length]; simp
  have hip := insQ_perm L q
  refine ⟨hh, hm, ?_, h.mg, fun hx => ?_, by rw [hlen]; exact h1, ?_, by have := h.ord.ins q (by omega) hq hno; simpa using this, fun e he => ?_, ?_⟩
  · refine List.Perm.trans ?_ (h2.map kvE).symm
    rw [List.map_cons]
    exact (List.perm_append_singleton _ _).trans (h.km.cons _)
  · rcases mem_efp.1 hx with h3 | ⟨e, he, h3⟩
    · exact hmA h3
    · rcases List.mem_cons.1 (h2.mem_iff.1 he) with h4 | h4
      · subst h4; exact hmB h3.symm
      · exact h.me (mem_efp.2 (.inr ⟨e, h4, h3⟩))
  · refine (h2.map (·.2)).trans ?_
    rw [List.map_cons]
    exact (h.perm.cons q).trans hip.symm
  · rcases List.mem_cons.1 (hip.mem_iff.1 he) with rfl | he
    · exact hok
    · exact h.ok e he
  · have := hip.length_eq
    rw [List.length_cons] at this
    omega

set_option maxRecDepth 20000 in
set_option maxHeartbeats 3200000 in
theorem put_any (g : Nat) (fp : List Nat) (L : List QE) (p : Nat) (x : QE) (hx : x.Ok) (hp : p < 1000000000) (hl : L.length < 100000) (w : World) (h : QIs w g fp L p) :
    Calls Try.prog 18 #[.pointer (some ⟨g, 0, none⟩), itV x] w fun e w' => e = .returned (.tuple #[]) ∧ QStep g fp (insQ (dropQ L x.asset x.index) { x with put := (p + 1 : Nat) }) (p + 1) w w' := by
  obtain ⟨xa, xi, xd, xr, xp⟩ := x
  dsimp only [itV] at *
  have t0 := (Touch.refl [] w).alloc (.cells #[.string xa, .int .i64 xi, .int .i64 xd, .int .i64 xr] 28)
  have Hd := Lib.hid (drop_any g fp L p xa xi hx.t hx.i.1 hx.i.2 _ (h.touch0 t0))
  have hlt := h.lt
  have hgl := h.blk
  have Hlt := Lib.hid hlt
  have Hx := Lib.hid hx
  have hb0 := heap_alloc_new w (.cells #[.string xa, .int .i64 xi, .int .i64 xd, .int .i64 xr] 28)
  have HB := Lib.hid (And.intro hb0 t0)
  clear h hlt hb0 t0 hx
  unfold partV at Hd
  go_enter Try.func18, Try.ntmps18
  go_wp2_with fail
  refine Hd.out.mono ?_
  rintro e w1 ⟨rfl, fp1, ⟨mb, A, c, es, kvs, rfl, q1⟩, t1, hf1⟩
  have hb1 := t1.blk HB.out.1 (fun hm => by have := Hlt.out _ hm; omega)
  have hwl := lt_of_block hb1
  have T1 : Touch fp w w1 := (HB.out.2.mono (by simp)).trans t1 (fun b hb => .inl hb)
  have hf2 : ∀ b ∈ qfp g mb A es, b ∈ fp ∨ w.heap.size < b := fun b hb => by
    rcases hf1 b hb with h1 | h1
    · exact .inl h1
    · right; rw [World.size_alloc] at h1; omega
  have c2 : w1.cell? ⟨g, 2, none⟩ = some (.int .i64 p) := cell_blk q1.hp.blk rfl
  have z2 : w1.frozen? ⟨g, 2, none⟩ = false := free_blk q1.hp.blk 2
  have Hq1 := Lib.hid q1
  have HT := Lib.hid (And.intro T1 (And.intro hf2 hb1))
  clear q1 T1 hf2 hb1 t1 hf1
  go_wp2_with fail
  obtain ⟨w2, hw2⟩ : ∃ w2, w2 = w1.setCell ⟨g, 2, none⟩ (.int .i64 ((p : Int) + 1)) := ⟨_, rfl⟩
  rw [← hw2]
  have t2 := (Touch.refl [g] w1).setCell (p := ⟨g, 2, none⟩) (.inl (by simp)) (.int .i64 ((p : Int) + 1))
  have hp2 := Hq1.out.hp.setp (.int .i64 ((p : Int) + 1))
  rw [← hw2] at t2 hp2
  have hgw : g ≠ w.heap.size := by omega
  have hb2 := t2.blk HT.out.2.2 (by simp; exact fun e => hgw e.symm)
  have hm2 := Hq1.out.mp.touch t2 (by simp; exact Hq1.out.mg)
  have T2 : Touch fp w w2 := HT.out.1.trans t2 (fun b hb => by
    have hbe : b = g := by simpa using hb
    subst hbe
    rcases HT.out.2.1 b (by simp [qfp]) with h1 | h1
    · exact .inl h1
    · right; omega)
  have hs2 := t2.size
  have H2 := Lib.hid (And.intro T2 (And.intro hp2 (And.intro hm2 (And.intro hb2 hs2))))
  clear hw2 t2 hp2 hm2 hb2 T2 hs2 c2 z2
  refine wp_still_tail' 5 (by kernel_rfl) (by kernel_rfl) ?_
  intro w3 hw3
  have t3 := (Touch.refl [] w2).drew
  rw [← hw3] at t3
  have hp3 := H2.out.2.1.touch0 t3
  have hb3 := t3.blk H2.out.2.2.2.1 (by simp)
  have c2 : w3.cell? ⟨g, 2, none⟩ = some (.int .i64 ((p : Int) + 1)) := cell_blk hp3.blk rfl
  have x0 : w3.cell? ⟨w.heap.size, 0, none⟩ = some (.string xa) := cell_blk hb3 rfl
  have x1 : w3.cell? ⟨w.heap.size, 1, none⟩ = some (.int .i64 xi) := cell_blk hb3 rfl
  have x2 : w3.cell? ⟨w.heap.size, 2, none⟩ = some (.int .i64 xd) := cell_blk hb3 rfl
  have x3 : w3.cell? ⟨w.heap.size, 3, none⟩ = some (.int .i64 xr) := cell_blk hb3 rfl
  have H3 := Lib.hid (And.intro hp3 (And.intro hb3 t3))
  clear hp3 hb3 t3 hw3
  simp only [List.take_succ_cons, List.take_zero, List.drop_succ_cons, List.drop_zero]
  repeat still_step
  refine wpStill_nil ?_
  go_wp2_with fail
  have hen := heap_alloc_new w3 (.cells #[.string xa, .int .i64 xi, .int .i64 xd, .int .i64 xr, .int .i64 ((p : Int) + 1), .int .i64 0] 62)
  have t4 := (Touch.refl [] w3).alloc (.cells #[.string xa, .int .i64 xi, .int .i64 xd, .int .i64 xr, .int .i64 ((p : Int) + 1), .int .i64 0] 62)
  obtain ⟨B, hB⟩ : ∃ B, B = w3.heap.size := ⟨_, rfl⟩
  obtain ⟨w4, hw4⟩ : ∃ w4, w4 = w3.alloc (.cells #[.string xa, .int .i64 xi, .int .i64 xd, .int .i64 xr, .int .i64 ((p : Int) + 1), .int .i64 0] 62) := ⟨_, rfl⟩
  rw [← hw4] at hen t4 ⊢
  rw [← hB] at hen ⊢
  have HB4 := Lib.hid (And.intro hen (And.intro t4 hB))
  clear hen hw4 t4 hB c2 x0 x1 x2 x3
  refine wp_still_tail' 7 (by kernel_rfl) (by kernel_rfl) ?_
  intro w5 hw5
  have t5 := (Touch.refl [] w4).drew
  rw [← hw5] at t5
  have t35 := HB4.out.2.1.trans0 t5
  have hp5 := H3.out.1.touch0 t35
  have hb5 := t35.blk H3.out.2.1 (by simp)
  have hm5 : MapAt Try.prog 26 w5 mb kvs := (H2.out.2.2.1.touch H3.out.2.2 (by simp)).touch t35 (by simp)
  have he5 := t5.blk HB4.out.1 (by simp)
  obtain ⟨kl, hkey⟩ := part_key xa xi Hx.out.t Hx.out.i.1 Hx.out.i.2
  have hno : ∀ e ∈ dropQ L xa xi, ¬ e.is xa xi := fun e he => (mem_dropQ.1 he).2
  obtain ⟨w6, hup, hm6, t6⟩ := hm5.put_new part_law Try.underlying49 hkey (Hq1.out.miss hno) (.pointer (some ⟨B, 0, none⟩))
  have c1 : w5.cell? ⟨g, 1, none⟩ = some (.map (some mb)) := cell_blk hp5.blk rfl
  have x0 : w5.cell? ⟨w.heap.size, 0, none⟩ = some (.string xa) := cell_blk hb5 rfl
  have x1 : w5.cell? ⟨w.heap.size, 1, none⟩ = some (.int .i64 xi) := cell_blk hb5 rfl
  have hBl : w2.heap.size ≤ B := by rw [HB4.out.2.2]; exact H3.out.2.2.size
  have hmbB : mb ≠ B := by
    have := H2.out.2.2.1.lt
    omega
  have H6 := Lib.hid (And.intro hm6 (And.intro t6 (And.intro (hp5.touch t6 (by simp; exact fun e => Hq1.out.mg e.symm) (fun b hb hm => Hq1.out.me ((by simpa using hm : b = mb) ▸ hb))) (And.intro (t6.blk he5 (by simp; exact fun e => hmbB e.symm)) (((HB4.out.2.1.trans0 t5).mono (fp2 := [mb]) (by simp)).trans t6 (fun b hb => .inl hb))))))
  have Hup := Lib.hid hup
  have Hno := Lib.hid hno
  clear hm6 t6 hp5 hb5 hm5 he5 t35 t5 hw5 hkey hup hno
  simp only [List.take_succ_cons, List.take_zero, List.drop_succ_cons, List.drop_zero]
  repeat still_step
  refine wpStill_nil ?_
  refine wpList_update_is rfl (.tmp 26) (.tmp 28) (.tmp 29) 49 rfl _ _ _ rfl rfl rfl Hup.out ?_
  clear c1 x0 x1
  have hgB : B ≠ g := by
    have := lt_of_block H2.out.2.1.blk
    omega
  have hBe : B ∉ efp A es := fun hm => by
    have := H2.out.2.1.es_.lt _ hm
    omega
  have Hpu := Lib.hid (push_any g A c es (.map (some mb)) (.int .i64 ((p : Int) + 1)) B 0 ⟨xa, xi, xd, xr, (p : Int) + 1⟩ (by have h1 := Hq1.out.elen; have h2 := Hq1.out.len; omega) w6 H6.out.2.2.1 H6.out.2.2.2.1 hgB hBe)
  unfold ifV at Hpu
  go_wp2_with fail
  refine Hpu.out.mono ?_
  rintro e w7 ⟨rfl, A', c', hp7, t7, hf7⟩
  have H7 := Lib.hid (And.intro hp7 (And.intro t7 hf7))
  clear hp7 t7 hf7
  go_wp2_with fail
  go_end0
  obtain ⟨hp7, t7, hf7⟩ := H7.out
  obtain ⟨hm6, t6, hp6, he6, t36⟩ := H6.out
  obtain ⟨T2, hp2, hm2, hb2, hs2⟩ := H2.out
  have hmA : mb ∉ fpo A' := fun hm => by
    rcases hf7 _ hm with h1 | h1
    · exact Hq1.out.me (mem_efp.2 (.inl h1))
    · have := hm6.lt; omega
  have hm7 : MapAt Try.prog 26 w7 mb (kvs ++ [(partV xa xi, ptrV B)]) := hm6.touch t7 (by
    intro hm
    rcases List.mem_cons.1 hm with h1 | h1
    · exact Hq1.out.mg h1
    · rcases List.mem_cons.1 h1 with h1 | h1
      · exact hmbB h1
      · exact Hq1.out.me h1)
  have hqm := Hq1.out.more (w' := w7) B ⟨xa, xi, xd, xr, (p : Int) + 1⟩ rfl ⟨Hx.out.t, Hx.out.i, Hx.out.d, Hx.out.r⟩ (Nat.lt_of_le_of_lt (List.length_filter_le _ _) hl) Hno.out hp7 hm7 hmA hmbB
  have hw6 : w2.heap.size ≤ w6.heap.size := Nat.le_trans H3.out.2.2.size t36.size
  have hw17 : w.heap.size ≤ w2.heap.size := by omega
  have hperm := upL_perm ltE (es ++ [(B, (⟨xa, xi, xd, xr, (p : Int) + 1⟩ : QE))]) es.length (by simp)
  refine ⟨rfl, qfp g mb A' (upL ltE (es ++ [(B, (⟨xa, xi, xd, xr, (p : Int) + 1⟩ : QE))]) es.length), ⟨mb, A', c', _, _, rfl, hqm⟩, ?_, fun b hb => ?_⟩
  · refine ((T2.trans0 H3.out.2.2).trans t36 (fun b hb => ?_)).trans t7 (fun b hb => ?_)
    · have hbe : b = mb := by simpa using hb
      subst hbe
      rcases HT.out.2.1 b (by simp [qfp]) with h1 | h1
      · exact .inl h1
      · right; omega
    · rcases List.mem_cons.1 hb with h1 | h1
      · subst h1
        rcases HT.out.2.1 b (by simp [qfp]) with h1 | h1
        · exact .inl h1
        · right; omega
      · rcases List.mem_cons.1 h1 with h1 | h1
        · right; omega
        · rcases HT.out.2.1 b (by simp [qfp, h1]) with h2 | h2
          · exact .inl h2
          · right; omega
  · have key : ∀ x ∈ qfp g mb A es, x ∈ fp ∨ w.heap.size ≤ x := fun x hx => by
      rcases HT.out.2.1 x hx with h1 | h1
      · exact .inl h1
      · right; omega
    simp only [qfp, List.mem_cons] at hb
    rcases hb with h1 | h1 | h1
    · exact key b (by simp [qfp, h1])
    · exact key b (by simp [qfp, h1])
    · rcases mem_efp.1 h1 with h2 | ⟨e, he, h2⟩
      · rcases hf7 b h2 with h3 | h3
        · exact key b (by simp only [qfp, List.mem_cons]; exact .inr (.inr (mem_efp.2 (.inl h3))))
        · right; omega
      · rcases List.mem_append.1 (hperm.mem_iff.1 he) with h3 | h3
        · exact key b (by simp only [qfp, List.mem_cons]; exact .inr (.inr (mem_efp.2 (.inr ⟨e, h3, h2⟩))))
        · have : e = (B, (⟨xa, xi, xd, xr, (p : Int) + 1⟩ : QE)) := by simpa using h3
          subst this
          simp only at h2
          right; omega
end Go.Proofs.Ythhjioeipjnjmaa
