/- bywashlaw24.QueuePlays: the walk of the law. For every script. -/
import Derived.Test.YthhjioeipjnjmaaPlayH
namespace Go.Proofs.Ythhjioeipjnjmaa
open Go.RowKit

theorem step_any (g : Nat) (fp : List Nat) (L : List QE) (p : Nat) (A : Option Addr) (c : Nat) (o : QOp) (ho : o.Ok) (w : World) (h : StepPre g fp L p A c w) :
    Calls Try.prog 15 #[.pointer (some ⟨g, 0, none⟩), .slice A L.length c, opV o] w (StepPost g fp L p w) := by
  by_cases h1 : o.kind = 1
  · exact step_put g fp L p A c o h1 ho w h
  by_cases h2 : o.kind = 2
  · rcases L with _ | ⟨y, L⟩
    · exact step_take_nil g fp p A c o h2 w h
    · exact step_take_cons g fp y L p A c o h2 w h
  by_cases h3 : o.kind = 3
  · rcases L with _ | ⟨y, L⟩
    · exact step_first_nil g fp p A c o h3 w h
    · exact step_first_cons g fp y L p A c o h3 w h
  by_cases h4 : o.kind = 4
  · exact step_drop g fp L p A c o h4 ho w h
  by_cases h5 : o.kind = 5
  · rcases hasV_or h.hq.ord.1 o.x.asset o.x.index with ⟨e, he, hei, hv, hu⟩ | ⟨hno, hv⟩
    · exact step_has_yes g fp L p A c o h5 ho e he hei hv hu w h
    · exact step_has_no g fp L p A c o h5 ho hno hv w h
  by_cases h6 : o.kind = 6
  · exact step_due g fp L p A c o h6 w h
  exact step_none g fp L p A c o h1 h2 h3 h4 h5 h6 w h

set_option maxRecDepth 20000 in
set_option maxHeartbeats 6400000 in
theorem plays_law (A : Option Addr) (c : Nat) (os : List QOp) (hll : os.length ≤ maxLen) (hok : ∀ o ∈ os, o.Ok) (w : World) (hr : RdK opE w A os) :
    Calls Try.prog 6 #[.slice A os.length c] w fun e w' => e = .returned (.bool true) ∧ Touch [] w w' := by
  have HA := Lib.hid (fun W => awake_any W)
  have Hnew := Lib.hid (new_any none 0 0 [] rfl (by omega) (by simp) w (RdK.nil _ _ _))
  unfold maxLen at hll
  have Hr := Lib.hid hr
  have Hok := Lib.hid hok
  clear hr hok
  go_enter Try.func6, Try.ntmps6
  go_wp2_with fail
  refine Hnew.out.mono ?_
  rintro e w1 ⟨g, fp0, rfl, hq, t1, hf⟩
  have H1 := Lib.hid (And.intro hq (And.intro t1 hf))
  clear hq t1 hf
  by_cases h80 : 80 < os.length
  · go_wp2_with fail
    refine (HA.out _).mono ?_
    rintro e w2 ⟨rfl, t2⟩
    go_wp2_with fail
    go_ret
    exact ⟨rfl, H1.out.2.1.trans0 t2⟩
  have h80' : os.length ≤ 80 := by omega
  go_wp2_with fail
  go_loopw [4, 24] (fun xv i wr => ∃ (k : Nat) (A4 : Option Addr) (c4 : Nat) (L : List QE) (p : Nat) (fp : List Nat), k ≤ os.length ∧ i = .int .i64 k ∧ xv = .slice A4 L.length c4 ∧ QIs wr g fp L p ∧ RdK itE wr A4 L ∧ L.length ≤ c4 ∧ c4 ≤ 9223372036854775807 ∧ (∀ b ∈ fpo A4, b ∉ fp ∧ b < wr.heap.size) ∧ L.length ≤ k ∧ p ≤ k ∧ (∀ b ∈ fp, w.heap.size ≤ b) ∧ Touch [] w wr) (fun _ i _ => os.length - (intOf i).toNat)
  case atStart =>
    obtain ⟨hq, t1, hf⟩ := H1.out
    exact ⟨0, none, 0, [], 0, fp0, by omega, rfl, rfl, hq, RdK.nil _ _ _, by simp, by omega, by simp [fpo], by simp, by omega, hf, t1⟩
  case round =>
    obtain ⟨k, A4, c4, L, p, fp, hk, rfl, rfl, hq, hrd, hc4, hm4, ha4, hLk, hpk, hfp, ht⟩ := hrel
    by_cases hlt : k < os.length
    · obtain ⟨ad, b, off, rfl, hadd, -, hcell⟩ := (Hr.out.touch0 ht).at_ 7 opE_length (by omega) k hlt
      have e0 := hcell 0 (.int .i64 os[k].kind) rfl
      have e1 := hcell 1 (.int .i64 os[k].now) rfl
      have e2 := hcell 2 (.int .i64 os[k].most) rfl
      have e3 := hcell 3 (.string os[k].x.asset) rfl
      have e4 := hcell 4 (.int .i64 os[k].x.index) rfl
      have e5 := hcell 5 (.int .i64 os[k].x.due) rfl
      have e6 := hcell 6 (.int .i64 os[k].x.rank) rfl
      rw [show off + 0 = off by omega] at e0
      have hoo := Hok.out os[k] (List.getElem_mem hlt)
      obtain ⟨o, ho⟩ : ∃ o, o = os[k] := ⟨_, rfl⟩
      rw [← ho] at e0 e1 e2 e3 e4 e5 e6 hoo
      have hkI : (k : Int) < (os.length : Int) := by omega
      have ta := (Touch.refl [] wr).alloc (.cells #[.int .i64 o.kind, .int .i64 o.now, .int .i64 o.most, .string o.x.asset, .int .i64 o.x.index, .int .i64 o.x.due, .int .i64 o.x.rank] 43)
      have hpre : StepPre g fp L p A4 c4 (wr.alloc (.cells #[.int .i64 o.kind, .int .i64 o.now, .int .i64 o.most, .string o.x.asset, .int .i64 o.x.index, .int .i64 o.x.due, .int .i64 o.x.rank] 43)) :=
        ⟨hq.touch0 ta, hrd.touch0 ta, hc4, hm4, fun v hv => ⟨(ha4 v hv).1, Nat.lt_of_lt_of_le (ha4 v hv).2 ta.size⟩, by omega, by omega⟩
      have Hstep := Lib.hid (step_any g fp L p A4 c4 o hoo _ hpre)
      unfold opV at Hstep
      have H := Lib.hid (And.intro ht (And.intro ta (And.intro hfp (And.intro hLk hpk))))
      clear ho ht hcell hq hrd hc4 hm4 ha4 hLk hpk hfp ta hpre hoo
      by_cases h50 : 50 < o.x.asset.size
      · go_wp2_with fail
        refine (HA.out _).mono ?_
        rintro e w2 ⟨rfl, t2⟩
        go_wp2_with fail
        go_ret
        exact ⟨rfl, (H.out.1.trans0 H.out.2.1).trans0 t2⟩
      · have hsz : o.x.asset.size ≤ 50 := by omega
        go_wp2_with fail
        refine Hstep.out.mono ?_
        rintro e w2 ⟨A5, c5, L2, p2, fp2, rfl, hq2, hr2, hc2, hm2, ha2, t2, hf2, hp2, hl2⟩
        have Hql := Lib.hid (qlen_any g fp2 L2 p2 w2 hq2)
        have Hall := Lib.hid (all_any g fp2 L2 p2 w2 hq2)
        have hLok := hq2.ord.2
        obtain ⟨n2, hn2⟩ : ∃ n, n = L2.length := ⟨_, rfl⟩
        rw [← hn2] at Hql hc2 hl2 ⊢
        have Hn2 := Lib.hid hn2
        have H2 := Lib.hid (And.intro hq2 (And.intro hr2 (And.intro hc2 (And.intro hm2 (And.intro ha2 (And.intro t2 (And.intro hf2 (And.intro hp2 (And.intro hl2 hLok)))))))))
        have hnn : ((n2 : Int) != (n2 : Int)) = false := by simp
        have hbnd : n2 ≤ 1000 := by have := H.out.2.2.2.1; omega
        clear hq2 hr2 hc2 hm2 ha2 t2 hf2 hp2 hl2 hLok hn2
        go_wp2_with fail
        refine Hql.out.mono ?_
        rintro e w3 ⟨rfl, rfl⟩
        go_wp2_with fail
        refine Hall.out.mono ?_
        rintro e w4 ⟨A6, c6, rfl, ho6, t6, hf6⟩
        rw [← Hn2.out]
        have Hs := Lib.hid (same_any A6 c6 A5 c5 L2 n2 Hn2.out.symm (by omega) H2.out.2.2.2.2.2.2.2.2.2 w4 ho6.rd (H2.out.2.1.touch0 t6))
        have H6 := Lib.hid t6
        clear ho6 t6 hf6
        go_wp2_with fail
        refine Hs.out.mono ?_
        rintro e w5 ⟨rfl, t5⟩
        have H5 := Lib.hid t5
        clear t5
        go_wp2_with fail
        go_roundw
        case rel =>
          obtain ⟨ht, ta, hfp, hLk, hpk⟩ := H.out
          obtain ⟨hq2, hr2, hc2, hm2, ha2, t2, hf2, hp2, hl2, hLok⟩ := H2.out
          have T := H6.out.trans0 H5.out
          have hsz1 := ht.size
          have hsz2 := ta.size
          refine ⟨k + 1, A5, c5, L2, p2, fp2, by omega, by go_num, by rw [Hn2.out], hq2.touch0 T, hr2.touch0 T, by rw [← Hn2.out]; exact hc2, hm2, fun v hv => ⟨(ha2 v hv).1, Nat.lt_of_lt_of_le (ha2 v hv).2 T.size⟩, by rw [← Hn2.out]; omega, by omega, fun v hv => ?_, ((ht.trans0 ta).trans t2 (fun v hv => .inr (hfp v hv))).trans0 T⟩
          rcases hf2 v hv with h1 | h1
          · exact hfp v h1
          · omega
        case measure => simp [intOf]; omega
    · obtain rfl : k = os.length := by omega
      have H := Lib.hid ht
      clear hq hrd hc4 hm4 ha4 hLk hpk hfp ht
      go_wp2_with fail
      refine (HA.out _).mono ?_
      rintro e w2 ⟨rfl, t2⟩
      go_wp2_with fail
      go_ret
      exact ⟨rfl, H.out.trans0 t2⟩
end Go.Proofs.Ythhjioeipjnjmaa
