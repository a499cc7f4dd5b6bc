/- The queue's Due: the walk. For every queue. -/
import Derived.Test.YthhjioeipjnjmaaQueY
import Derived.Test.YthhjioeipjnjmaaQueL
namespace Go.Proofs.Ythhjioeipjnjmaa
open Go.RowKit

/-- what Due leaves: the first k are handed out -/
def DuePost (g : Nat) (fp : List Nat) (L : List QE) (p : Nat) (now most : Int) (w : World) (e : Ending) (w' : World) : Prop :=
  ∃ (k : Nat) (A : Option Addr) (c : Nat) (fp' : List Nat), e = .returned (.slice A k c) ∧ k ≤ L.length ∧ OwnIt w' A c (L.take k) ∧ QIs w' g fp' (L.drop k) p ∧ (∀ x ∈ L.take k, x.due ≤ now) ∧ (k : Int) ≤ max most 0 ∧
    ((k : Int) = max most 0 ∨ ∀ x ∈ (L.drop k).head?, now < x.due) ∧ Touch fp w w' ∧ (∀ b ∈ fp', b ∈ fp ∨ w.heap.size ≤ b) ∧ ∀ b ∈ fpo A, w.heap.size ≤ b ∧ b ∉ fp'

set_option maxRecDepth 20000 in
set_option maxHeartbeats 3200000 in
theorem due_any (g : Nat) (fp : List Nat) (L : List QE) (p : Nat) (now most : Int) (w : World) (h : QIs w g fp L p) :
    Calls Try.prog 14 #[.pointer (some ⟨g, 0, none⟩), .int .i64 now, .int .i64 most] w (DuePost g fp L p now most w) := by
  have hlen : L.length ≤ 100000 := by obtain ⟨_, _, _, _, _, _, hh⟩ := h; exact hh.len
  have hflt := h.lt
  have Hq := Lib.hid h
  clear h
  go_enter Try.func14, Try.ntmps14
  go_wp2_with fail
  go_loopw [7] (fun o wr => ∃ (k : Nat) (A : Option Addr) (c : Nat) (fp' : List Nat), o = .slice A k c ∧ k ≤ L.length ∧ OwnIt wr A c (L.take k) ∧ QIs wr g fp' (L.drop k) p ∧ (∀ x ∈ L.take k, x.due ≤ now) ∧ (k : Int) ≤ max most 0 ∧
    Touch fp w wr ∧ (∀ b ∈ fp', b ∈ fp ∨ w.heap.size ≤ b) ∧ ∀ b ∈ fpo A, w.heap.size ≤ b ∧ b ∉ fp') (fun o _ => L.length - (match o with | .slice _ n _ => n | _ => 0))
  case atStart => exact ⟨0, none, 0, fp, rfl, by omega, OwnK.nil _ _ _ _, Hq.out, by simp, by omega, Touch.refl _ _, fun b hb => .inl hb, by simp [fpo]⟩
  case round =>
    obtain ⟨k, A, c, fp1, rfl, hk, ho, hq, hdue, hkm, ht, hfp, hA⟩ := hrel
    by_cases hm : most ≤ k
    · have H := Lib.hid (show DuePost g fp L p now most w (.returned (.slice A k c)) wr from ⟨k, A, c, fp1, rfl, hk, ho, hq, hdue, hkm, .inl (by omega), ht, hfp, hA⟩)
      have hmn : ¬ (k : Int) < most := by omega
      clear ho hq hdue hkm ht hfp hA
      go_wp2_with fail
      go_ret
      exact H.out
    · have hkm2 : (k : Int) < most := by omega
      have Hf := Lib.hid (first_any g fp1 (L.drop k) p wr hq)
      rcases hd : L.drop k with _ | ⟨x, L'⟩
      · rw [hd] at Hf
        have hv : firstV ([] : List QE) = .tuple #[.agg #[.string ⟨#[]⟩, .int .i64 0, .int .i64 0, .int .i64 0], .bool false] := rfl
        rw [hv] at Hf
        have H := Lib.hid (fun W (hW : Touch [] wr W) => (show DuePost g fp L p now most w (.returned (.slice A k c)) W from ⟨k, A, c, fp1, rfl, hk, ho.touch0 hW, hq.touch0 hW, hdue, hkm, .inr (by rw [hd]; simp), ht.trans0 hW, hfp, hA⟩))
        clear ho hq hdue hkm ht hfp hA hd hv
        go_wp2_with fail
        refine Hf.out.mono ?_
        rintro e w1 ⟨rfl, t1⟩
        have ta := t1.alloc (.cells #[.string ⟨#[]⟩, .int .i64 0, .int .i64 0, .int .i64 0] 28)
        have Ha := Lib.hid ta
        clear t1 ta
        go_wp2_with fail
        go_ret
        exact H.out _ Ha.out
      · rw [hd] at Hf
        have hv : firstV (x :: L') = .tuple #[.agg #[.string x.asset, .int .i64 x.index, .int .i64 x.due, .int .i64 x.rank], .bool true] := rfl
        rw [hv] at Hf
        have hlk : k < L.length := by
          have := congrArg List.length hd
          rw [List.length_drop, List.length_cons] at this
          omega
        have hx : L[k] = x ∧ L.drop (k + 1) = L' := by
          have := List.drop_eq_getElem_cons hlk
          rw [hd] at this
          injection this with h1 h2
          exact ⟨h1.symm, h2.symm⟩
        by_cases hdn : now < x.due
        · have H := Lib.hid (fun W (hW : Touch [] wr W) => (show DuePost g fp L p now most w (.returned (.slice A k c)) W from ⟨k, A, c, fp1, rfl, hk, ho.touch0 hW, hq.touch0 hW, hdue, hkm, .inr (by rw [hd]; simpa using hdn), ht.trans0 hW, hfp, hA⟩))
          clear ho hq hdue hkm ht hfp hA hd hv hx
          go_wp2_with fail
          refine Hf.out.mono ?_
          rintro e w1 ⟨rfl, t1⟩
          have ta := t1.alloc (.cells #[.string x.asset, .int .i64 x.index, .int .i64 x.due, .int .i64 x.rank] 28)
          have Ha := Lib.hid ta
          clear t1 ta
          go_wp2_with fail
          go_ret
          exact H.out _ Ha.out
        · rw [hd] at hq
          obtain ⟨hord, hokL⟩ := hq.ord
          have hxok := hokL x (by simp)
          have hdq := dropQ_head hord.parts
          have Hd := Lib.hid (fun W (hW : QIs W g fp1 (x :: L') p) => drop_any g fp1 (x :: L') p x.asset x.index hxok.t hxok.i.1 hxok.i.2 W hW)
          rw [hdq] at Hd
          unfold partV at Hd
          have htk : L.take (k + 1) = L.take k ++ [x] := by rw [List.take_succ_eq_append_getElem hlk, hx.1]
          have hlkn : (L.take k).length = k := by rw [List.length_take]; omega
          have hq1 := hq.lt
          have H := Lib.hid (And.intro ho (And.intro hq (And.intro hdue (And.intro ht (And.intro hfp (And.intro hA (And.intro htk (And.intro hlkn (And.intro hx.2 hq1)))))))))
          clear ho hq hdue hkm ht hfp hA hd hv hx hord hokL hxok hdq htk hlkn hq1
          go_wp2_with fail
          refine Hf.out.mono ?_
          rintro e w1 ⟨rfl, t1⟩
          have tz := (Touch.refl [] w1).alloc (.cells #[.string x.asset, .int .i64 x.index, .int .i64 x.due, .int .i64 x.rank] 28)
          have hz := heap_alloc_new w1 (.cells #[.string x.asset, .int .i64 x.index, .int .i64 x.due, .int .i64 x.rank] 28)
          have ta := (Touch.refl [] (w1.alloc (.cells #[.string x.asset, .int .i64 x.index, .int .i64 x.due, .int .i64 x.rank] 28))).alloc (.cells #[.string x.asset, .int .i64 x.index, .int .i64 x.due, .int .i64 x.rank] 28)
          have hr : RdK itE ((w1.alloc (.cells #[.string x.asset, .int .i64 x.index, .int .i64 x.due, .int .i64 x.rank] 28)).alloc (.cells #[.string x.asset, .int .i64 x.index, .int .i64 x.due, .int .i64 x.rank] 28)) (some ⟨(w1.alloc (.cells #[.string x.asset, .int .i64 x.index, .int .i64 x.due, .int .i64 x.rank] 28)).heap.size, 0, none⟩) [x] := RdK.one _ _ x _ rfl
          rw [World.size_alloc] at hr
          have H1 := Lib.hid (And.intro t1 (And.intro tz (And.intro hz (And.intro ta hr))))
          clear t1 tz hz ta hr
          go_wp2_with (at_builtin; refine stop ?_)
          refine go ?_
          have hoW := ((H.out.1.touch0 H1.out.1).touch0 H1.out.2.1).touch0 H1.out.2.2.2.1
          refine wpList_appK rfl (.tmp 27) (.tmp 29) 22 rfl 28 noIt 4 40 info_item Try.underlying22 rfl (by omega) itE_length itE_one A k c (L.take k) H.out.2.2.2.2.2.2.2.1 rfl hoW (some ⟨w1.heap.size + 1, 0, none⟩) 1 1 [x] rfl rfl H1.out.2.2.2.2 (by omega) (by omega) ?_
          intro A5 c5 w5 ho5 t5 hf5
          obtain ⟨ho, hq, hdue, ht, hfp, hA, htk, hlkn, hx2, hq1⟩ := H.out
          obtain ⟨t1, tz, hz, ta, hr⟩ := H1.out
          have hol := ho.lt
          have hz5 := t5.blk (ta.blk hz (by simp)) (fun hm => by have := hol _ hm; have := t1.size; omega)
          have x0 : w5.cell? ⟨w1.heap.size, 0, none⟩ = some (.string x.asset) := cell_blk hz5 rfl
          have x1 : w5.cell? ⟨w1.heap.size, 1, none⟩ = some (.int .i64 x.index) := cell_blk hz5 rfl
          have hq5 := (((hq.touch0 t1).touch0 tz).touch0 ta).touch t5 (fun b hb hm => (hA b hm).2 hb)
          have T5 : Touch fp w w5 := (((ht.trans0 t1).trans0 tz).trans0 ta).trans t5 (fun b hb => .inr (hA b hb).1)
          have Hdr := Lib.hid (Hd.out w5 hq5)
          have hs5 := t5.size
          rw [World.size_alloc, World.size_alloc] at hs5
          have hf5' : ∀ b ∈ fpo A5, b ∈ fpo A ∨ b = w1.heap.size + 1 + 1 := fun b hb => by
            rcases hf5 b hb with h1 | h1
            · exact .inl h1
            · right; rw [h1, World.size_alloc, World.size_alloc]
          have H6 := Lib.hid (And.intro ho5 (And.intro T5 (And.intro hf5' hs5)))
          clear ho5 t5 hf5 hz5 hq5 T5 ho hq hdue ht hfp hA htk hlkn hx2 hq1 t1 tz hz ta hr hol hoW hs5 hf5'
          go_wp2_with fail
          refine Hdr.out.mono ?_
          rintro e w6 ⟨rfl, fp6, hq6, t6, hf6⟩
          have H7 := Lib.hid (And.intro hq6 (And.intro t6 hf6))
          clear hq6 t6 hf6
          go_wp2_with fail
          go_roundw
          case rel =>
            obtain ⟨ho, hq, hdue, ht, hfp, hA, htk, hlkn, hx2, hq1⟩ := H.out
            obtain ⟨t1, tz, hz, ta, hr⟩ := H1.out
            obtain ⟨ho5, T5, hf5, hs5⟩ := H6.out
            obtain ⟨hq6, t6, hf6⟩ := H7.out
            have hw1 := t1.size
            have hw := ht.size
            have hol := ho.lt
            have hA5 : ∀ b ∈ fpo A5, w.heap.size ≤ b ∧ b ∉ fp1 := fun b hb => by
              rcases hf5 b hb with h1 | h1
              · exact hA b h1
              · exact ⟨by omega, fun hm => by have := hq1 b hm; omega⟩
            have hlt5 := ho5.lt
            refine ⟨k + 1, A5, c5, fp6, rfl, by omega, ?_, by rw [hx2]; exact hq6, ?_, by omega, T5.trans t6 (fun b hb => hfp b hb), fun b hb => ?_, fun b hb => ⟨(hA5 b hb).1, fun hm => ?_⟩⟩
            · rw [htk]; exact ho5.touch t6 (fun b hb hm => (hA5 b hb).2 hm)
            · intro y hy
              rw [htk] at hy
              rcases List.mem_append.1 hy with h1 | h1
              · exact hdue y h1
              · have : y = x := by simpa using h1
                subst this; omega
            · rcases hf6 b hb with h1 | h1
              · exact hfp b h1
              · right; omega
            · rcases hf6 b hm with h1 | h1
              · exact (hA5 b hb).2 h1
              · have := hlt5 b hb; omega
          case measure => simp; omega
end Go.Proofs.Ythhjioeipjnjmaa
