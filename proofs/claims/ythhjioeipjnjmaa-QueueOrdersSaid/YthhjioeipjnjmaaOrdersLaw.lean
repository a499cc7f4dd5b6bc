/- bywashlaw24.QueueOrders: the walk of the law. For every items. -/
import Derived.Test.YthhjioeipjnjmaaQueL
namespace Go.Proofs.Ythhjioeipjnjmaa
open Go.RowKit

/-- what the second loop's head knows: what was taken last stands ahead of all that are left -/
def AheadOk (y : QE) (L : List QE) : Prop := ∀ e ∈ L, ltQ y e = true
theorem ahead_due {y x : QE} (h : ltQ y x = true) : ¬ (x.due < y.due) ∧ ¬ (x.due = y.due ∧ x.rank < y.rank) := by
  rw [ltQ_iff] at h; omega

set_option maxRecDepth 20000 in
set_option maxHeartbeats 6400000 in
theorem orders_law (A : Option Addr) (c : Nat) (xs : List QE) (hll : xs.length ≤ maxLen) (hok : ∀ x ∈ xs, x.Ok) (w : World) (hr : RdK itE w A xs) :
    Calls Try.prog 3 #[.slice A xs.length c] w fun e w' => e = .returned (.bool true) ∧ Touch [] w w' := by
  have HA := Lib.hid (fun W => awake_any W)
  unfold maxLen at hll
  by_cases h200 : 200 < xs.length
  · go_enter Try.func3, Try.ntmps3
    go_wp2_with fail
    refine (HA.out _).mono ?_
    rintro e w1 ⟨rfl, t1⟩
    go_wp2_with fail
    go_ret
    exact ⟨rfl, t1⟩
  have Hr := Lib.hid hr
  have Hok := Lib.hid hok
  have hmk : ∀ W : World, (Instr.makeMap 24 none).run Try.prog W = .ok (.map (some W.heap.size)) (W.alloc (.map #[] 0)) := fun W => by simp [Instr.makeMap, Result.andThen]
  have h200' : xs.length ≤ 200 := by omega
  clear hr hok
  go_enter Try.func3, Try.ntmps3
  go_wp2_with fail
  go_loopw [20] (fun i wr => ∃ (k : Nat) (kvs : List (Value × Value)), k ≤ xs.length ∧ i = .int .i64 k ∧ MapAt Try.prog 26 wr w.heap.size kvs ∧ kvs.Perm ((newQ xs k).map kvI) ∧ Touch [] w wr) (fun i _ => xs.length - (intOf i).toNat)
  case atStart => exact ⟨0, [], by omega, rfl, MapAt.made w, List.Perm.refl _, (Touch.refl [] w).alloc _⟩
  case round =>
    obtain ⟨k, kvs, hk, rfl, hmap, hperm, ht⟩ := hrel
    have hmlt := hmap.lt
    by_cases hlt : k < xs.length
    · obtain ⟨ad, b, off, rfl, hadd, hbb, hcell⟩ := (Hr.out.touch0 ht).at_ 4 itE_length (by omega) k hlt
      have e0 := hcell 0 (.string xs[k].asset) rfl
      have e1 := hcell 1 (.int .i64 xs[k].index) rfl
      have e2 := hcell 2 (.int .i64 xs[k].due) rfl
      have e3 := hcell 3 (.int .i64 xs[k].rank) rfl
      have hoff : off + 0 = off := by omega
      rw [hoff] at e0
      have hns := newQ_succ hlt
      have hokx := Hok.out xs[k] (List.getElem_mem hlt)
      obtain ⟨x, hx⟩ : ∃ x, x = xs[k] := ⟨_, rfl⟩
      rw [← hx] at e0 e1 e2 e3 hns hokx
      have hkI : (k : Int) < (xs.length : Int) := by omega
      have ta := (Touch.refl [] wr).alloc (.cells #[.string x.asset, .int .i64 x.index, .int .i64 x.due, .int .i64 x.rank] 28)
      have H := Lib.hid (And.intro ht (And.intro hmap (And.intro hperm ta)))
      have Hns := Lib.hid hns
      have Hokx := Lib.hid hokx
      clear hns hx ht hmap hperm ta hcell hbb hokx hoff
      by_cases h50 : 50 < x.asset.size
      · go_wp2_with fail
        refine (HA.out _).mono ?_
        rintro e w1 ⟨rfl, t1⟩
        go_wp2_with fail
        go_ret
        exact ⟨rfl, (H.out.1.trans0 H.out.2.2.2).trans0 t1⟩
      · have hsz : x.asset.size ≤ 50 := by omega
        obtain ⟨W, hW⟩ : ∃ W, W = wr.alloc (.cells #[.string x.asset, .int .i64 x.index, .int .i64 x.due, .int .i64 x.rank] 28) := ⟨_, rfl⟩
        obtain ⟨kl, hkey⟩ := part_key x.asset x.index Hokx.out.t Hokx.out.i.1 Hokx.out.i.2
        have hm1 := H.out.2.1.touch H.out.2.2.2 (by simp)
        have hput : ∃ w2 kvs2, (Instr.mapUpdate 24 (.map (some w.heap.size)) (partV x.asset x.index) (itV x)).run Try.prog (wr.alloc (.cells #[.string x.asset, .int .i64 x.index, .int .i64 x.due, .int .i64 x.rank] 28)) = .ok () w2 ∧
            MapAt Try.prog 26 w2 w.heap.size kvs2 ∧ kvs2.Perm ((newQ xs (k + 1)).map kvI) ∧ Touch [w.heap.size] (wr.alloc (.cells #[.string x.asset, .int .i64 x.index, .int .i64 x.due, .int .i64 x.rank] 28)) w2 := by
          rw [Hns.out]
          rcases kv_put (newQ_ord xs k).parts H.out.2.2.1 x ((k + 1 : Nat) : Int) with ⟨l1, l2, v0, hk1, hk2⟩ | ⟨hk1, hk2⟩
          · rw [hk1] at hm1
            obtain ⟨w2, h1, h2, h3⟩ := hm1.put_old part_law Try.underlying24 hkey (itV x)
            exact ⟨w2, _, h1, h2, hk2, h3⟩
          · obtain ⟨w2, h1, h2, h3⟩ := hm1.put_new part_law Try.underlying24 hkey hk1 (itV x)
            exact ⟨w2, _, h1, h2, hk2, h3⟩
        obtain ⟨w2, kvs2, hup, hm2, hp2, t2⟩ := hput
        unfold partV itV at hup
        have H2 := Lib.hid (And.intro hm2 (And.intro hp2 t2))
        clear hm1 hm2 hp2 t2 hkey hW
        go_wp2_with fail
        go_roundw
        case rel => exact ⟨k + 1, kvs2, by omega, by go_num, H2.out.1, H2.out.2.1, (H.out.1.trans0 H.out.2.2.2).trans H2.out.2.2 (fun b hb => .inr (by simp at hb; omega))⟩
        case measure => simp [intOf]; omega
    · obtain rfl : k = xs.length := by omega
      have hkl : kvs.length = (newQ xs xs.length).length := by have := hperm.length_eq; rwa [List.length_map] at this
      have H := Lib.hid (And.intro ht (And.intro hmap hperm))
      have Hnew := Lib.hid (new_any A c xs.length xs rfl (by omega) Hok.out wr (Hr.out.touch0 ht))
      clear hmap hperm ht hk hlt
      go_wp2_with fail
      refine Hnew.out.mono ?_
      rintro e w1 ⟨g, fp, rfl, hq, t1, hf⟩
      obtain ⟨L0, hL0⟩ : ∃ L0, L0 = newQ xs xs.length := ⟨_, rfl⟩
      rw [← hL0] at hq hkl
      have hm1 := H.out.2.1.touch t1 (by simp)
      have hlen : ∀ ty, (Builtin.len_ #[24] ty #[.map (some w.heap.size)]).run Try.prog w1 = .ok (.int .i64 L0.length) w1 := fun ty => by
        have := hm1.len Try.underlying24 ty
        rwa [hkl] at this
      have Hql := Lib.hid (qlen_any g fp L0 xs.length w1 hq)
      have HL0 := Lib.hid hL0
      have H1 := Lib.hid (And.intro hq (And.intro t1 (And.intro hf hm1)))
      clear hq t1 hf hm1 hL0
      obtain ⟨W0, rfl⟩ : ∃ W0, W0 = wr := ⟨_, rfl⟩
      go_wp2_with fail
      refine Hql.out.mono ?_
      rintro e w2 ⟨rfl, rfl⟩
      have hlen2 : ∀ ty, (Builtin.len_ #[24] ty #[.map (some w.heap.size)]).run Try.prog (w2.alloc (.cells #[.string ⟨#[]⟩, .int .i64 0, .int .i64 0, .int .i64 0] 28)) = .ok (.int .i64 L0.length) (w2.alloc (.cells #[.string ⟨#[]⟩, .int .i64 0, .int .i64 0, .int .i64 0] 28)) := fun ty => by
        have := (H1.out.2.2.2.touch ((Touch.refl [] w2).alloc (.cells #[.string ⟨#[]⟩, .int .i64 0, .int .i64 0, .int .i64 0] 28)) (by simp)).len Try.underlying24 ty
        rwa [hkl] at this
      go_wp2_with fail
      obtain ⟨N, hN⟩ : ∃ N, N = L0.length := ⟨_, rfl⟩
      rw [← hN]
      have HN := Lib.hid hN
      clear hN hkl hlen hlen2
      have hw2l : W0.heap.size ≤ w2.heap.size := H1.out.2.1.size
      have hNs : N ≤ 200 := by rw [HN.out, HL0.out]; have := newQ_len xs xs.length; omega
      go_loopw [48] (fun i wr => ∃ (k : Nat) (fp : List Nat) (L : List QE) (kvs : List (Value × Value)) (y : QE), k ≤ N ∧ i = .int .i64 k ∧ L.length = N - k ∧ QIs wr g fp L xs.length ∧ MapAt Try.prog 26 wr w.heap.size kvs ∧ kvs.Perm (L.map kvI) ∧
          wr.heap[w2.heap.size]? = some (.cells #[.string y.asset, .int .i64 y.index, .int .i64 y.due, .int .i64 y.rank] 28 (0, 0)) ∧ (k = 0 ∨ AheadOk y L) ∧ (∀ b ∈ fp, W0.heap.size ≤ b ∧ b ≠ w2.heap.size) ∧ Touch [] w wr) (fun i _ => N - (intOf i).toNat)
      case atStart =>
        obtain ⟨hq, t1, hf, hm1⟩ := H1.out
        have ta := (Touch.refl [] w2).alloc (.cells #[.string ⟨#[]⟩, .int .i64 0, .int .i64 0, .int .i64 0] 28)
        exact ⟨0, fp, L0, kvs, ⟨⟨#[]⟩, 0, 0, 0, 0⟩, by omega, rfl, by rw [HN.out]; omega, hq.touch0 ta, hm1.touch ta (by simp), by rw [HL0.out]; exact H.out.2.2, heap_alloc_new w2 _, .inl rfl,
          fun b hb => ⟨hf b hb, fun e => by have := hq.lt b hb; omega⟩, (H.out.1.trans0 t1).trans0 ta⟩
      case round =>
        obtain ⟨k, fp, L, kvs, y, hk, rfl, hLl, hq, hmap, hperm, hby, hahead, hfp, ht⟩ := hrel
        by_cases hlt : k < N
        · obtain ⟨x, L', rfl⟩ : ∃ x L', L = x :: L' := by
            rcases L with _ | ⟨x, L'⟩
            · simp at hLl; omega
            · exact ⟨x, L', rfl⟩
          have hkI : (k : Int) < (N : Int) := by omega
          have Htake := Lib.hid (take_any g fp (x :: L') xs.length wr hq)
          obtain ⟨hord, hokL⟩ := hq.ord
          have H2 := Lib.hid (And.intro hLl (And.intro hmap (And.intro hperm (And.intro hahead (And.intro hfp (And.intro ht (And.intro hord (And.intro hokL hby))))))))
          have hwy := lt_of_block hby
          clear hq hmap hperm hahead hfp ht hord hokL hLl hby
          go_wp2_with fail
          refine Htake.out.mono ?_
          rintro e w3 ⟨rfl, fp3, hq3, t3, hf3⟩
          have hfv : firstV (x :: L') = .tuple #[.agg #[.string x.asset, .int .i64 x.index, .int .i64 x.due, .int .i64 x.rank], .bool true] := rfl
          rw [hfv]
          have H3 := Lib.hid (And.intro hq3 (And.intro t3 hf3))
          clear hq3 t3 hf3 hfv
          go_wp2_with fail
          have tz := (Touch.refl [] w3).alloc (.cells #[.string x.asset, .int .i64 x.index, .int .i64 x.due, .int .i64 x.rank] 28)
          have hz := heap_alloc_new w3 (.cells #[.string x.asset, .int .i64 x.index, .int .i64 x.due, .int .i64 x.rank] 28)
          obtain ⟨W, hW⟩ : ∃ W, W = w3.alloc (.cells #[.string x.asset, .int .i64 x.index, .int .i64 x.due, .int .i64 x.rank] 28) := ⟨_, rfl⟩
          rw [← hW] at tz hz ⊢
          obtain ⟨hLl, hmap, hperm, hahead, hfp, ht, hord, hokL, hby⟩ := H2.out
          obtain ⟨hq3, t3, hf3⟩ := H3.out
          have hmb : w.heap.size ∉ fp := fun hm => by have := (hfp _ hm).1; have := H.out.2.1.lt; omega
          have hyb : w2.heap.size ∉ fp := fun hm => (hfp _ hm).2 rfl
          have hm4 := (hmap.touch t3 hmb).touch tz (by simp)
          have hy4 := tz.blk (t3.blk hby hyb) (by simp)
          have hxok := hokL x (by simp)
          obtain ⟨kl, hkey⟩ := part_key x.asset x.index hxok.t hxok.i.1 hxok.i.2
          have hmem : (partV x.asset x.index, itV x) ∈ kvs := hperm.mem_iff.2 (List.mem_map.2 ⟨x, by simp, rfl⟩)
          have hlook : ∀ n, (Instr.lookup 24 (.map (some w.heap.size)) (partV x.asset x.index) false).run Try.prog (W.drewN n) = .ok (itV x) (W.drewN n) := fun n =>
            (hm4.touch ((Touch.refl [] W).drewN n) (by simp)).hit part_law Try.underlying24 hkey hmem false
          have heq : ∀ n, (Op.equalIn 9999 28 (itV x) (itV x)).run Try.prog (W.drewN n) = .ok true (W.drewN n) := fun n => by
            have := eq_item x x hxok hxok (W.drewN n)
            rwa [sameI_same] at this
          obtain ⟨l1, l2, hk1, hk2⟩ := kv_hit hord.parts hperm (show x ∈ x :: L' by simp)
          rw [dropQ_head hord.parts] at hk2
          have hm5 : ∀ n, MapAt Try.prog 26 (W.drewN n) w.heap.size (l1 ++ (partV x.asset x.index, itV x) :: l2) := fun n => by
            have := hm4.touch ((Touch.refl [] W).drewN n) (by simp)
            rw [hk1] at this
            exact this
          have hdel := fun n => (hm5 n).del part_law Try.underlying24 hkey 0
          have x0 := cell_blk (i := 0) hz rfl
          have x1 := cell_blk (i := 1) hz rfl
          have x2 := cell_blk (i := 2) hz rfl
          have x3 := cell_blk (i := 3) hz rfl
          have y0 : W.cell? ⟨w2.heap.size, 0, none⟩ = some (.string y.asset) := cell_blk hy4 rfl
          have y1 : W.cell? ⟨w2.heap.size, 1, none⟩ = some (.int .i64 y.index) := cell_blk hy4 rfl
          have y2 : W.cell? ⟨w2.heap.size, 2, none⟩ = some (.int .i64 y.due) := cell_blk hy4 rfl
          have y3 : W.cell? ⟨w2.heap.size, 3, none⟩ = some (.int .i64 y.rank) := cell_blk hy4 rfl
          have hWs : W.heap.size = w3.heap.size + 1 := by rw [hW, World.size_alloc]
          have hws3 := t3.size
          have hah : k = 0 ∨ (¬ (x.due < y.due) ∧ ¬ (x.due = y.due ∧ x.rank < y.rank)) := hahead.elim .inl fun h => .inr (ahead_due (h x (by simp)))
          have H4 := Lib.hid (And.intro hdel (And.intro hk2 (And.intro hy4 (And.intro hz tz))))
          unfold partV itV at hlook heq
          have Hah := Lib.hid hah
          clear hdel hk2 hy4 hz tz hm5 hk1 hmem hkey hxok hm4 hLl hmap hperm hahead hfp ht hord hokL hby hq3 t3 hf3 hW hah hWs
          by_cases k0 : k = 0
          · subst k0
            go_quiet (fail)
            obtain ⟨w5, hd, hm6, t6⟩ := H4.out.1 nq
            unfold partV at hd
            have hwm : w.heap.size < W0.heap.size := H.out.2.1.lt
            have hxm : w3.heap.size ≠ w.heap.size := by have := H3.out.2.1.size; omega
            have hym : w2.heap.size ≠ w.heap.size := by omega
            have hz6 := t6.blk (((Touch.refl [] W).drewN nq).blk H4.out.2.2.2.1 (by simp)) (by simp only [List.mem_singleton]; exact hxm)
            have hy6 := t6.blk (((Touch.refl [] W).drewN nq).blk H4.out.2.2.1 (by simp)) (by simp only [List.mem_singleton]; exact hym)
            have a0 : w5.cell? ⟨w3.heap.size, 0, none⟩ = some (.string x.asset) := cell_blk hz6 rfl
            have a1 : w5.cell? ⟨w3.heap.size, 1, none⟩ = some (.int .i64 x.index) := cell_blk hz6 rfl
            have a2 : w5.cell? ⟨w3.heap.size, 2, none⟩ = some (.int .i64 x.due) := cell_blk hz6 rfl
            have a3 : w5.cell? ⟨w3.heap.size, 3, none⟩ = some (.int .i64 x.rank) := cell_blk hz6 rfl
            have b0 : w5.cell? ⟨w2.heap.size, 0, none⟩ = some (.string y.asset) := cell_blk hy6 rfl
            have b1 : w5.cell? ⟨w2.heap.size, 1, none⟩ = some (.int .i64 y.index) := cell_blk hy6 rfl
            have b2 : w5.cell? ⟨w2.heap.size, 2, none⟩ = some (.int .i64 y.due) := cell_blk hy6 rfl
            have b3 : w5.cell? ⟨w2.heap.size, 3, none⟩ = some (.int .i64 y.rank) := cell_blk hy6 rfl
            have d0 : w5.frozen? ⟨w2.heap.size, 0, none⟩ = false := free_blk hy6 0
            have d1 : w5.frozen? ⟨w2.heap.size, 1, none⟩ = false := free_blk hy6 1
            have d2 : w5.frozen? ⟨w2.heap.size, 2, none⟩ = false := free_blk hy6 2
            have d3 : w5.frozen? ⟨w2.heap.size, 3, none⟩ = false := free_blk hy6 3
            have H6 := Lib.hid (And.intro hm6 (And.intro t6 hy6))
            clear hm6 t6 hy6 hz6 y0 y1 y2 y3 hlook heq
            go_wp2_with fail
            go_roundw
            case rel =>
              obtain ⟨hLl, hmap, hperm, hahead, hfp, ht, hord, hokL, hby⟩ := H2.out
              obtain ⟨hq3, t3, hf3⟩ := H3.out
              obtain ⟨hdel, hk2, hy4, hz, tz⟩ := H4.out
              obtain ⟨hm6, t6, hy6⟩ := H6.out
              have q2 := ((((Touch.refl [w2.heap.size] w5).setCell (p := ⟨w2.heap.size, 0, none⟩) (.inl (by simp)) (.string x.asset)).setCell (p := ⟨w2.heap.size, 1, none⟩) (.inl (by simp)) (.int .i64 x.index)).setCell (p := ⟨w2.heap.size, 2, none⟩) (.inl (by simp)) (.int .i64 x.due)).setCell (p := ⟨w2.heap.size, 3, none⟩) (.inl (by simp)) (.int .i64 x.rank)
              have hsz3 : W0.heap.size ≤ wr.heap.size := by omega
              have T6 := (tz.drewN nq).mono (fp2 := [w.heap.size]) (by simp) |>.trans t6 (fun b hb => .inl hb)
              have key : ∀ b ∈ fp3, W0.heap.size ≤ b ∧ b ≠ w2.heap.size := fun b hb => by
                rcases hf3 b hb with h1 | h1
                · exact hfp b h1
                · omega
              refine ⟨0 + 1, fp3, L', l1 ++ l2, x, by omega, by go_num, by simp at hLl; omega, ?_, hm6.touch q2 (by simp only [List.mem_singleton]; exact fun e => hym e.symm), hk2, set4 hy6 rfl _ _ _ _, .inr (fun e he => (List.pairwise_cons.1 hord.sorted).1 e he), key, ?_⟩
              · refine (hq3.touch T6 (fun b hb hm => ?_)).touch q2 (fun b hb hm => ?_)
                · have := (key b hb).1
                  have hbe : b = w.heap.size := by simpa using hm
                  omega
                · have hbe : b = w2.heap.size := by simpa using hm
                  exact (key b hb).2 hbe
              · refine ((ht.trans t3 (fun b hb => .inr (by have := (hfp b hb).1; omega))).trans T6 (fun b hb => .inr (by simp at hb; omega))).trans q2 (fun b hb => .inr (by simp at hb; omega))
            case measure => simp [intOf]; omega
          · have hk0 : 0 < k := by omega
            have hd1 : (x.due < y.due) = False := eq_false (by rcases Hah.out with h | h; exact absurd h k0; exact h.1)
            by_cases hdd : x.due = y.due
            · have hd2 : (x.rank < y.rank) = False := eq_false (by rcases Hah.out with h | h; exact absurd h k0; exact fun h2 => h.2 ⟨hdd, h2⟩)
              have hde : (x.due == y.due) = true := by rw [hdd]; simp
              clear hdd
              go_quiet (fail)
              obtain ⟨w5, hd, hm6, t6⟩ := H4.out.1 nq
              unfold partV at hd
              have hwm : w.heap.size < W0.heap.size := H.out.2.1.lt
              have hxm : w3.heap.size ≠ w.heap.size := by have := H3.out.2.1.size; omega
              have hym : w2.heap.size ≠ w.heap.size := by omega
              have hz6 := t6.blk (((Touch.refl [] W).drewN nq).blk H4.out.2.2.2.1 (by simp)) (by simp only [List.mem_singleton]; exact hxm)
              have hy6 := t6.blk (((Touch.refl [] W).drewN nq).blk H4.out.2.2.1 (by simp)) (by simp only [List.mem_singleton]; exact hym)
              have a0 : w5.cell? ⟨w3.heap.size, 0, none⟩ = some (.string x.asset) := cell_blk hz6 rfl
              have a1 : w5.cell? ⟨w3.heap.size, 1, none⟩ = some (.int .i64 x.index) := cell_blk hz6 rfl
              have a2 : w5.cell? ⟨w3.heap.size, 2, none⟩ = some (.int .i64 x.due) := cell_blk hz6 rfl
              have a3 : w5.cell? ⟨w3.heap.size, 3, none⟩ = some (.int .i64 x.rank) := cell_blk hz6 rfl
              have b0 : w5.cell? ⟨w2.heap.size, 0, none⟩ = some (.string y.asset) := cell_blk hy6 rfl
              have b1 : w5.cell? ⟨w2.heap.size, 1, none⟩ = some (.int .i64 y.index) := cell_blk hy6 rfl
              have b2 : w5.cell? ⟨w2.heap.size, 2, none⟩ = some (.int .i64 y.due) := cell_blk hy6 rfl
              have b3 : w5.cell? ⟨w2.heap.size, 3, none⟩ = some (.int .i64 y.rank) := cell_blk hy6 rfl
              have d0 : w5.frozen? ⟨w2.heap.size, 0, none⟩ = false := free_blk hy6 0
              have d1 : w5.frozen? ⟨w2.heap.size, 1, none⟩ = false := free_blk hy6 1
              have d2 : w5.frozen? ⟨w2.heap.size, 2, none⟩ = false := free_blk hy6 2
              have d3 : w5.frozen? ⟨w2.heap.size, 3, none⟩ = false := free_blk hy6 3
              have H6 := Lib.hid (And.intro hm6 (And.intro t6 hy6))
              clear hm6 t6 hy6 hz6 y0 y1 y2 y3 hlook heq
              go_wp2_with fail
              go_roundw
              case rel =>
                obtain ⟨hLl, hmap, hperm, hahead, hfp, ht, hord, hokL, hby⟩ := H2.out
                obtain ⟨hq3, t3, hf3⟩ := H3.out
                obtain ⟨hdel, hk2, hy4, hz, tz⟩ := H4.out
                obtain ⟨hm6, t6, hy6⟩ := H6.out
                have q2 := ((((Touch.refl [w2.heap.size] w5).setCell (p := ⟨w2.heap.size, 0, none⟩) (.inl (by simp)) (.string x.asset)).setCell (p := ⟨w2.heap.size, 1, none⟩) (.inl (by simp)) (.int .i64 x.index)).setCell (p := ⟨w2.heap.size, 2, none⟩) (.inl (by simp)) (.int .i64 x.due)).setCell (p := ⟨w2.heap.size, 3, none⟩) (.inl (by simp)) (.int .i64 x.rank)
                have hsz3 : W0.heap.size ≤ wr.heap.size := by omega
                have T6 := (tz.drewN nq).mono (fp2 := [w.heap.size]) (by simp) |>.trans t6 (fun b hb => .inl hb)
                have key : ∀ b ∈ fp3, W0.heap.size ≤ b ∧ b ≠ w2.heap.size := fun b hb => by
                  rcases hf3 b hb with h1 | h1
                  · exact hfp b h1
                  · omega
                refine ⟨k + 1, fp3, L', l1 ++ l2, x, by omega, by go_num, by simp at hLl; omega, ?_, hm6.touch q2 (by simp only [List.mem_singleton]; exact fun e => hym e.symm), hk2, set4 hy6 rfl _ _ _ _, .inr (fun e he => (List.pairwise_cons.1 hord.sorted).1 e he), key, ?_⟩
                · refine (hq3.touch T6 (fun b hb hm => ?_)).touch q2 (fun b hb hm => ?_)
                  · have := (key b hb).1
                    have hbe : b = w.heap.size := by simpa using hm
                    omega
                  · have hbe : b = w2.heap.size := by simpa using hm
                    exact (key b hb).2 hbe
                · refine ((ht.trans t3 (fun b hb => .inr (by have := (hfp b hb).1; omega))).trans T6 (fun b hb => .inr (by simp at hb; omega))).trans q2 (fun b hb => .inr (by simp at hb; omega))
              case measure => simp [intOf]; omega
            · have hde : (x.due == y.due) = false := by rw [beq_eq_false_iff_ne]; exact hdd
              go_quiet (fail)
              obtain ⟨w5, hd, hm6, t6⟩ := H4.out.1 nq
              unfold partV at hd
              have hwm : w.heap.size < W0.heap.size := H.out.2.1.lt
              have hxm : w3.heap.size ≠ w.heap.size := by have := H3.out.2.1.size; omega
              have hym : w2.heap.size ≠ w.heap.size := by omega
              have hz6 := t6.blk (((Touch.refl [] W).drewN nq).blk H4.out.2.2.2.1 (by simp)) (by simp only [List.mem_singleton]; exact hxm)
              have hy6 := t6.blk (((Touch.refl [] W).drewN nq).blk H4.out.2.2.1 (by simp)) (by simp only [List.mem_singleton]; exact hym)
              have a0 : w5.cell? ⟨w3.heap.size, 0, none⟩ = some (.string x.asset) := cell_blk hz6 rfl
              have a1 : w5.cell? ⟨w3.heap.size, 1, none⟩ = some (.int .i64 x.index) := cell_blk hz6 rfl
              have a2 : w5.cell? ⟨w3.heap.size, 2, none⟩ = some (.int .i64 x.due) := cell_blk hz6 rfl
              have a3 : w5.cell? ⟨w3.heap.size, 3, none⟩ = some (.int .i64 x.rank) := cell_blk hz6 rfl
              have b0 : w5.cell? ⟨w2.heap.size, 0, none⟩ = some (.string y.asset) := cell_blk hy6 rfl
              have b1 : w5.cell? ⟨w2.heap.size, 1, none⟩ = some (.int .i64 y.index) := cell_blk hy6 rfl
              have b2 : w5.cell? ⟨w2.heap.size, 2, none⟩ = some (.int .i64 y.due) := cell_blk hy6 rfl
              have b3 : w5.cell? ⟨w2.heap.size, 3, none⟩ = some (.int .i64 y.rank) := cell_blk hy6 rfl
              have d0 : w5.frozen? ⟨w2.heap.size, 0, none⟩ = false := free_blk hy6 0
              have d1 : w5.frozen? ⟨w2.heap.size, 1, none⟩ = false := free_blk hy6 1
              have d2 : w5.frozen? ⟨w2.heap.size, 2, none⟩ = false := free_blk hy6 2
              have d3 : w5.frozen? ⟨w2.heap.size, 3, none⟩ = false := free_blk hy6 3
              have H6 := Lib.hid (And.intro hm6 (And.intro t6 hy6))
              clear hm6 t6 hy6 hz6 y0 y1 y2 y3 hlook heq
              go_wp2_with fail
              go_roundw
              case rel =>
                obtain ⟨hLl, hmap, hperm, hahead, hfp, ht, hord, hokL, hby⟩ := H2.out
                obtain ⟨hq3, t3, hf3⟩ := H3.out
                obtain ⟨hdel, hk2, hy4, hz, tz⟩ := H4.out
                obtain ⟨hm6, t6, hy6⟩ := H6.out
                have q2 := ((((Touch.refl [w2.heap.size] w5).setCell (p := ⟨w2.heap.size, 0, none⟩) (.inl (by simp)) (.string x.asset)).setCell (p := ⟨w2.heap.size, 1, none⟩) (.inl (by simp)) (.int .i64 x.index)).setCell (p := ⟨w2.heap.size, 2, none⟩) (.inl (by simp)) (.int .i64 x.due)).setCell (p := ⟨w2.heap.size, 3, none⟩) (.inl (by simp)) (.int .i64 x.rank)
                have hsz3 : W0.heap.size ≤ wr.heap.size := by omega
                have T6 := (tz.drewN nq).mono (fp2 := [w.heap.size]) (by simp) |>.trans t6 (fun b hb => .inl hb)
                have key : ∀ b ∈ fp3, W0.heap.size ≤ b ∧ b ≠ w2.heap.size := fun b hb => by
                  rcases hf3 b hb with h1 | h1
                  · exact hfp b h1
                  · omega
                refine ⟨k + 1, fp3, L', l1 ++ l2, x, by omega, by go_num, by simp at hLl; omega, ?_, hm6.touch q2 (by simp only [List.mem_singleton]; exact fun e => hym e.symm), hk2, set4 hy6 rfl _ _ _ _, .inr (fun e he => (List.pairwise_cons.1 hord.sorted).1 e he), key, ?_⟩
                · refine (hq3.touch T6 (fun b hb hm => ?_)).touch q2 (fun b hb hm => ?_)
                  · have := (key b hb).1
                    have hbe : b = w.heap.size := by simpa using hm
                    omega
                  · have hbe : b = w2.heap.size := by simpa using hm
                    exact (key b hb).2 hbe
                · refine ((ht.trans t3 (fun b hb => .inr (by have := (hfp b hb).1; omega))).trans T6 (fun b hb => .inr (by simp at hb; omega))).trans q2 (fun b hb => .inr (by simp at hb; omega))
              case measure => simp [intOf]; omega
        · obtain rfl : k = N := by omega
          obtain rfl : L = [] := List.eq_nil_of_length_eq_zero (by omega)
          have Htake := Lib.hid (take_any g fp [] xs.length wr hq)
          have H2 := Lib.hid (And.intro hfp ht)
          clear hq hmap hperm hahead hfp ht hLl hby
          go_wp2_with fail
          refine Htake.out.mono ?_
          rintro e w3 ⟨rfl, fp3, hq3, t3, hf3⟩
          have hfv : firstV ([] : List QE) = .tuple #[.agg #[.string ⟨#[]⟩, .int .i64 0, .int .i64 0, .int .i64 0], .bool false] := rfl
          rw [hfv]
          have tz := (Touch.refl [] w3).alloc (.cells #[.string ⟨#[]⟩, .int .i64 0, .int .i64 0, .int .i64 0] 28)
          have Hln := Lib.hid (qlen_any g fp3 [] xs.length _ (hq3.touch0 tz))
          have H3 := Lib.hid (And.intro t3 tz)
          have hl0 : (([] : List QE).length : Int) = 0 := rfl
          rw [hl0] at Hln
          clear hq3 t3 tz hf3 hfv hl0
          go_wp2_with fail
          refine Hln.out.mono ?_
          rintro e w4 ⟨rfl, rfl⟩
          go_wp2_with fail
          refine (HA.out _).mono ?_
          rintro e w5 ⟨rfl, t5⟩
          go_wp2_with fail
          go_ret
          obtain ⟨hfp, ht⟩ := H2.out
          obtain ⟨t3, tz⟩ := H3.out
          have hm := H.out.2.1.lt
          exact ⟨rfl, ((ht.trans t3 (fun b hb => .inr (by have := (hfp b hb).1; omega))).trans0 tz).trans0 t5⟩
end Go.Proofs.Ythhjioeipjnjmaa
