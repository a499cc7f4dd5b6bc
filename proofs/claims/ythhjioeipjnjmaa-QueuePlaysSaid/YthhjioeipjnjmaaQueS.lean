/- entries' Push; heap.Push and heap.Remove: the walks. For every heap. -/
import Derived.Test.YthhjioeipjnjmaaQueR
namespace Go.Proofs.Ythhjioeipjnjmaa
open Go.RowKit

/-- the row with one entry more, which knows its place -/
theorem EsAt.snoc {w w1 : World} {A A' : Option Addr} {c c' : Nat} {es : ES} {b : Nat} {q : QE} (h : EsAt w A c es) (T : Touch (b :: fpo A) w w1) (hbe : b ∉ efp A es) (hown : OwnK 57 1 peE w1 A' c' (es ++ [(b, q)]))
    (hf : ∀ x ∈ fpo A', x ∈ fpo A ∨ w.heap.size ≤ x) (hbl : b < w.heap.size) (hb1 : w1.heap[b]? = some (.cells (ecells q es.length) 62 (0, 0))) : EsAt w1 A' c' (es ++ [(b, q)]) := by
  have hbn : ∀ e ∈ es, e.1 ≠ b := fun e he k => hbe (mem_efp.2 (.inr ⟨e, he, k⟩))
  refine ⟨hown, fun i hi => ?_, ?_, fun e he hm => ?_⟩
  · by_cases hlt : i < es.length
    · rw [List.getElem_append_left hlt]
      refine T.blk (h.ent i hlt) (fun hm => ?_)
      rcases List.mem_cons.1 hm with h1 | h1
      · exact hbn _ (List.getElem_mem hlt) h1
      · exact h.nA _ (List.getElem_mem hlt) h1
    · obtain rfl : i = es.length := by simp at hi; omega
      simp only [List.getElem_append_right (Nat.le_refl _), Nat.sub_self, List.getElem_cons_zero]
      exact hb1
  · rw [List.map_append, List.nodup_append]
    refine ⟨h.nd, by simp, fun x hx y hy => ?_⟩
    obtain ⟨e, he, rfl⟩ := List.mem_map.1 hx
    have : y = b := by simpa using hy
    subst this
    exact hbn e he
  · have hlt : ∀ x ∈ fpo A', x ≠ e.1 ∨ x ∈ fpo A := fun x hx => by
      rcases hf x hx with h1 | h1
      · exact .inr h1
      · left; intro k
        rcases List.mem_append.1 he with h2 | h2
        · have := h.lt e.1 (mem_efp.2 (.inr ⟨e, h2, rfl⟩)); omega
        · have : e = (b, q) := by simpa using h2
          subst this; simp only at k; omega
    rcases hlt _ hm with h1 | h1
    · exact h1 rfl
    · rcases List.mem_append.1 he with h2 | h2
      · exact h.nA e h2 h1
      · have : e = (b, q) := by simpa using h2
        subst this
        exact hbe (mem_efp.2 (.inl h1))

set_option maxRecDepth 20000 in
set_option maxHeartbeats 1600000 in
theorem pushM_any (g : Nat) (A : Option Addr) (c : Nat) (es : ES) (m p : Value) (b k0 : Nat) (q : QE) (n : Nat) (hn : es.length = n) (hl : n ≤ 1000000) (w : World) (h : HpAt w g A c es m p) (hb : w.heap[b]? = some (.cells (ecells q k0) 62 (0, 0))) (hbg : b ≠ g) (hbe : b ∉ efp A es) :
    Calls Try.prog 73 #[.pointer (some ⟨g, 0, none⟩), .iface 57 (.pointer (some ⟨b, 0, none⟩))] w fun e w' => e = .returned (.tuple #[]) ∧ ∃ A' c', HpAt w' g A' c' (es ++ [(b, q)]) m p ∧ Touch (g :: b :: fpo A) w w' ∧ ∀ x ∈ fpo A', x ∈ fpo A ∨ w.heap.size ≤ x := by
  have c0 := h.cell0
  have z0 := h.free 0
  rw [hn] at c0
  have hgl := lt_of_block h.blk
  have hbl := lt_of_block hb
  have b5 : w.cell? ⟨b, 5, none⟩ = some (.int .i64 k0) := cell_blk hb rfl
  have zb : w.frozen? ⟨b, 5, none⟩ = false := by simp [World.frozen?, hb]
  have hgA : g ∉ fpo A := fun hm => h.ng (mem_efp.2 (.inl hm))
  have hbA : b ∉ fpo A := fun hm => hbe (mem_efp.2 (.inl hm))
  have T1 := (Touch.refl [b] w).setCell (p := ⟨b, 5, none⟩) (.inl (by simp)) (.int .i64 n)
  have T2 := T1.alloc (.cells #[ptrV b] 57)
  have hb1 := set_blk hb 5 (.int .i64 n)
  have hr : RdK peE ((w.setCell ⟨b, 5, none⟩ (.int .i64 n)).alloc (.cells #[ptrV b] 57)) (some ⟨(w.setCell ⟨b, 5, none⟩ (.int .i64 n)).heap.size, 0, none⟩) [((b, q) : Nat × QE)] := RdK.one _ _ (b, q) _ rfl
  have hown := h.es_.own.touch T2 (fun x hx hm => hbA ((by simpa using hm : x = b) ▸ hx))
  have hbt := Touch.blk ((Touch.refl [] (w.setCell ⟨b, 5, none⟩ (.int .i64 n))).alloc (.cells #[ptrV b] 57)) hb1 (by simp)
  have hws : (w.setCell ⟨b, 5, none⟩ (.int .i64 n)).heap.size = w.heap.size := by simp [World.setCell]
  rw [hws] at hr
  have Hh := Lib.hid h
  have HT2 := Lib.hid T2
  have Hr := Lib.hid hr
  have Hown := Lib.hid hown
  have Hbt := Lib.hid hbt
  have Hn := Lib.hid hn
  clear h T1 T2 hr hown hbt hb1 hws hn
  have hta : ∀ W : World, (Instr.typeAssert (.iface 57 (.pointer (some ⟨b, 0, none⟩))) 20 57 false).run Try.prog W = .ok (.pointer (some ⟨b, 0, none⟩)) W := fun W => by kernel_rfl
  unfold ptrV at *
  go_enter Try.func73, Try.ntmps73
  go_wp2_with (at_builtin; refine stop ?_)
  refine go ?_
  refine wpList_appK rfl (.tmp 17) (.tmp 19) 51 rfl 57 (.pointer none) 1 8 info_ptr Try.underlying51 rfl (by omega) peE_length peE_one A n c es Hn.out rfl Hown.out (some ⟨w.heap.size, 0, none⟩) 1 1 [((b, q) : Nat × QE)] rfl rfl Hr.out (by omega) (by omega) ?_
  intro A' c' w2 hown2 t2 hf2
  have hh := Hh.out
  have T3 : Touch (b :: fpo A) w w2 := (HT2.out.mono (fun x hx => .inl (by simp at hx; simp [hx]))).trans t2 (fun x hx => .inl (by simp [hx]))
  have hgn : g ∉ b :: fpo A := by
    intro hm
    rcases List.mem_cons.1 hm with h1 | h1
    · exact hbg h1.symm
    · exact hgA h1
  have hsz : w.heap.size ≤ ((w.setCell ⟨b, 5, none⟩ (.int .i64 n)).alloc (.cells #[.pointer (some ⟨b, 0, none⟩)] 57)).heap.size := by simp [World.setCell]
  have hf3 : ∀ x ∈ fpo A', x ∈ fpo A ∨ w.heap.size ≤ x := fun x hx => by
    rcases hf2 x hx with h1 | h1
    · exact .inl h1
    · right; rw [h1]; exact hsz
  have hb2 := t2.blk Hbt.out hbA
  have he : EsAt w2 A' c' (es ++ [(b, q)]) := hh.es_.snoc T3 hbe hown2 hf3 hbl (by rw [Hn.out]; exact hb2)
  have hng : g ∉ efp A' (es ++ [(b, q)]) := fun hm => by
    rcases mem_efp.1 hm with h1 | ⟨e, he, h1⟩
    · rcases hf3 g h1 with h2 | h2
      · exact hgA h2
      · omega
    · rcases List.mem_append.1 he with h2 | h2
      · exact hh.ng (mem_efp.2 (.inr ⟨e, h2, h1⟩))
      · have : e = (b, q) := by simpa using h2
        subst this; exact hbg h1
  have hbg1 := T3.blk hh.blk hgn
  have c1 := cell_blk (i := 0) hbg1 rfl
  have z1 : w2.frozen? ⟨g, 0, none⟩ = false := by simp [World.frozen?, hbg1]
  have hset := hh.set0 T3 hgn he hng (n + 1) (by simp [Hn.out])
  have T := (T3.mono (fp2 := g :: b :: fpo A) (fun x hx => .inl (by simp at hx; simp [hx]))).setCell (p := ⟨g, 0, none⟩) (.inl (by simp)) (.slice A' (n + 1) c')
  have Hs := Lib.hid (And.intro hset (And.intro T hf3))
  clear hset T hh hbg1 hb2 he hf3 hsz
  go_wp2_with fail
  go_end0
  exact ⟨rfl, A', c', Hs.out.1, Hs.out.2⟩

set_option maxRecDepth 20000 in
set_option maxHeartbeats 1600000 in
theorem len_any (A : Option Addr) (n c : Nat) (w : World) : Calls Try.prog 69 #[.slice A n c] w fun e w' => e = .returned (.int .i64 n) ∧ w' = w := by
  go_enter Try.func69, Try.ntmps69
  go_wp2
  go_ret
  exact ⟨rfl, rfl⟩

set_option maxRecDepth 20000 in
set_option maxHeartbeats 1600000 in
theorem push_any (g : Nat) (A : Option Addr) (c : Nat) (es : ES) (m p : Value) (b k0 : Nat) (q : QE) (hl : es.length < 1000000) (w : World) (h : HpAt w g A c es m p) (hb : w.heap[b]? = some (.cells (ecells q k0) 62 (0, 0))) (hbg : b ≠ g) (hbe : b ∉ efp A es) :
    Calls Try.prog 28 #[ifV g, .iface 57 (.pointer (some ⟨b, 0, none⟩))] w fun e w' => e = .returned (.tuple #[]) ∧ ∃ A' c', HpAt w' g A' c' (upL ltE (es ++ [(b, q)]) es.length) m p ∧ Touch (g :: b :: efp A es) w w' ∧ ∀ x ∈ fpo A', x ∈ fpo A ∨ w.heap.size ≤ x := by
  obtain ⟨n, hn⟩ : ∃ n, n = es.length := ⟨_, rfl⟩
  have Hp := Lib.hid (pushM_any g A c es m p b k0 q n hn.symm (by omega) w h hb hbg hbe)
  have hbl := lt_of_block hb
  have HN := Lib.hid hn
  have hm1 := meth_push w g 224
  have hn1 : n ≤ 1000000 := by omega
  have hn2 : n + 1 ≤ 1000000 := by omega
  have hlen : (es ++ [(b, q)]).length = n + 1 := by simp [hn]
  have Hlen := Lib.hid hlen
  rw [← hn]
  clear h hb hn hl hlen
  unfold ifV
  go_enter Try.func28, Try.ntmps28
  go_wp2_with fail
  refine Hp.out.mono ?_
  rintro e w1 ⟨rfl, A', c', hh, T1, hf⟩
  have c1 := hh.cell0
  rw [Hlen.out] at c1
  have hm2 := meth_len c1 224
  have hup := up_any g A' c' (es ++ [(b, q)]) m p n (by rw [Hlen.out]; omega) (by rw [Hlen.out]; exact hn2) w1 hh
  unfold ifV at hup
  have Hup := Lib.hid hup
  have HT := Lib.hid (And.intro T1 hf)
  clear hup hh T1 hf hm1
  go_wp2_with (first | (go_at_call 69; refine (len_any _ _ _ _).mono ?_; rintro e w' ⟨rfl, rfl⟩) | (go_at_call 34; refine Hup.out.mono ?_; rintro e w2 ⟨rfl, hh2, T2⟩))
  go_end0
  obtain ⟨T1, hf⟩ := HT.out
  refine ⟨rfl, A', c', hh2, (T1.mono (fun x hx => .inl ?_)).trans T2 (fun x hx => ?_), hf⟩
  · rcases List.mem_cons.1 hx with h1 | h1
    · simp [h1]
    · rcases List.mem_cons.1 h1 with h1 | h1
      · simp [h1]
      · exact List.mem_cons_of_mem _ (List.mem_cons_of_mem _ (mem_efp.2 (.inl h1)))
  · rcases mem_efp.1 hx with h1 | ⟨e, he, h1⟩
    · rcases hf x h1 with h2 | h2
      · exact .inl (List.mem_cons_of_mem _ (List.mem_cons_of_mem _ (mem_efp.2 (.inl h2))))
      · exact .inr h2
    · left
      rcases List.mem_append.1 he with h2 | h2
      · exact List.mem_cons_of_mem _ (List.mem_cons_of_mem _ (mem_efp.2 (.inr ⟨e, h2, h1⟩)))
      · have : e = (b, q) := by simpa using h2
        subst this; simp at h1; simp [h1]

theorem remL_step {l : ES} {i n : Nat} (hn : l.length = n + 1) (hi : n ≠ i) (d : ES × Nat) (hd : downL ltE (swL l i n) i n = d) : remL ltE l i = if i < d.2 then d.1 else upL ltE d.1 i := by
  subst hd
  unfold remL
  simp [hn, hi]

set_option maxRecDepth 20000 in
set_option maxHeartbeats 3200000 in
theorem remove_any (g : Nat) (A : Option Addr) (c : Nat) (es : ES) (m p : Value) (i n : Nat) (hn : es.length = n + 1) (hi : i ≤ n) (hl : n < 1000000) (w : World) (h : HpAt w g A c es m p) :
    Calls Try.prog 29 #[ifV g, .int .i64 i] w fun e w' => (∃ v, e = .returned v) ∧ HpAt w' g A c (remL ltE es i).dropLast m p ∧ Touch (g :: efp A es) w w' := by
  have c0 := h.cell0
  rw [hn] at c0
  have hcast : ((n + 1 : Nat) : Int) = (n : Int) + 1 := by omega
  have hm1 := meth_len c0 224
  by_cases hin : n = i
  · subst hin
    have hr : remL ltE es n = es := by unfold remL; simp [hn]
    rw [hr]
    have Hpop := Lib.hid (popM_any g A c es m p n hn (by omega) w h)
    have hm2 := meth_pop w g 224
    clear h
    unfold ifV
    go_enter Try.func29, Try.ntmps29
    go_wp2_with (first | (go_at_call 69; refine (len_any _ _ _ _).mono ?_; rintro e w' ⟨rfl, rfl⟩) | (go_at_call 72; refine Hpop.out.mono ?_; rintro e w2 ⟨⟨v, rfl⟩, hh2, T2⟩))
    go_ret
    exact ⟨⟨_, rfl⟩, hh2, T2.mono (fun x hx => .inl (by
      rcases List.mem_cons.1 hx with h1 | h1
      · simp [h1]
      · exact List.mem_cons_of_mem _ (mem_efp.2 (.inl h1))))⟩
  · have hne : ((n : Int) == (i : Int)) = false := by rw [beq_eq_false_iff_ne]; omega
    have hne2 : ((n : Int) != (i : Int)) = true := by rw [bne, hne]; rfl
    have Hswap := Lib.hid (swap_any A c es i n (n + 1) hn (by omega) (by omega) (by omega) w h.es_)
    have hm2 := meth_swap c0 224
    have Hsl := Lib.hid (swL_length es i n)
    have Hsp := Lib.hid (swL_perm es i n (by omega) (by omega))
    have Hn := Lib.hid hn
    have Hh := Lib.hid h
    obtain ⟨d, hd⟩ : ∃ d, d = downL ltE (swL es i n) i n := ⟨_, rfl⟩
    have Hrem := Lib.hid (remL_step hn hin d hd.symm)
    have Hd := Lib.hid hd
    clear h hd hn
    unfold ifV
    go_enter Try.func29, Try.ntmps29
    go_wp2_with (first | (go_at_call 69; refine (len_any _ _ _ _).mono ?_; rintro e w' ⟨rfl, rfl⟩) | (go_at_call 71; refine Hswap.out.mono ?_; rintro e w1 ⟨rfl, hes, t1⟩; refine stop ?_))
    refine go ?_
    have hb1 := t1.blk Hh.out.blk Hh.out.ng
    have hh1 : HpAt w1 g A c (swL es i n) m p := ⟨by rw [Hsl.out]; exact hb1, hes, fun hm => Hh.out.ng ((efp_perm Hsp.out g).1 hm)⟩
    have hdown := down_any g A c (swL es i n) m p i n (by rw [Hsl.out, Hn.out]; omega) (by rw [Hsl.out, Hn.out]; omega) (by rw [Hsl.out, Hn.out]; omega) w1 hh1
    rw [← Hd.out] at hdown
    unfold ifV at hdown
    have Hdown := Lib.hid hdown
    have Hdp := Lib.hid (show d.1.Perm (swL es i n) by rw [Hd.out]; exact downL_perm ltE _ _ _ (by rw [Hsl.out, Hn.out]; omega))
    have Hdl := Lib.hid (show d.1.length = n + 1 by rw [Hd.out, downL_length, Hsl.out, Hn.out])
    have HT1 := Lib.hid t1
    clear hdown hb1 hh1 hes t1
    by_cases hlt : i < d.2
    · have Hr := Lib.hid (show remL ltE es i = d.1 by rw [Hrem.out, if_pos hlt])
      go_wp2_with fail
      refine Hdown.out.mono ?_
      rintro e w2 ⟨rfl, hh2, t2⟩
      have hm3 := meth_pop w2 g 224
      have Hpop := Lib.hid (popM_any g A c d.1 m p n Hdl.out (by rw [Hdl.out]; omega) w2 hh2)
      have HT2 := Lib.hid (HT1.out.trans t2 (fun x hx => .inl ((efp_perm Hsp.out x).1 hx)))
      clear t2 hh2
      go_wp2_with (go_at_call 72; refine Hpop.out.mono ?_; rintro e w3 ⟨⟨v, rfl⟩, hh3, T3⟩)
      go_ret
      refine ⟨⟨_, rfl⟩, by rw [Hr.out]; exact hh3, (HT2.out.mono (fun x hx => .inl (List.mem_cons_of_mem _ hx))).trans T3 (fun x hx => .inl ?_)⟩
      rcases List.mem_cons.1 hx with h1 | h1
      · simp [h1]
      · exact List.mem_cons_of_mem _ (mem_efp.2 (.inl h1))
    · have Hr := Lib.hid (show remL ltE es i = upL ltE d.1 i by rw [Hrem.out, if_neg hlt])
      go_wp2_with fail
      refine Hdown.out.mono ?_
      rintro e w2 ⟨rfl, hh2, t2⟩
      have hup := up_any g A c d.1 m p i (by rw [Hdl.out]; omega) (by rw [Hdl.out]; omega) w2 hh2
      unfold ifV at hup
      have Hup := Lib.hid hup
      have HT2 := Lib.hid (HT1.out.trans t2 (fun x hx => .inl ((efp_perm Hsp.out x).1 hx)))
      clear t2 hh2 hup
      go_wp2_with fail
      refine Hup.out.mono ?_
      rintro e w3 ⟨rfl, hh3, t3⟩
      have Hul := Lib.hid (show (upL ltE d.1 i).length = n + 1 by rw [upL_length, Hdl.out])
      have hm4 := meth_pop w3 g 224
      have Hpop := Lib.hid (popM_any g A c (upL ltE d.1 i) m p n Hul.out (by rw [Hul.out]; omega) w3 hh3)
      have HT3 := Lib.hid (HT2.out.trans t3 (fun x hx => .inl ((efp_perm (Hdp.out.trans Hsp.out) x).1 hx)))
      clear t3 hh3
      go_wp2_with (go_at_call 72; refine Hpop.out.mono ?_; rintro e w4 ⟨⟨v, rfl⟩, hh4, T4⟩)
      go_ret
      refine ⟨⟨_, rfl⟩, by rw [Hr.out]; exact hh4, (HT3.out.mono (fun x hx => .inl (List.mem_cons_of_mem _ hx))).trans T4 (fun x hx => .inl ?_)⟩
      rcases List.mem_cons.1 hx with h1 | h1
      · simp [h1]
      · exact List.mem_cons_of_mem _ (mem_efp.2 (.inl h1))
end Go.Proofs.Ythhjioeipjnjmaa
