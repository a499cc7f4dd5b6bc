/- graph.measure: the ready ones, one by one: the depths, or a ring. For every graph. -/
import Derived.Test.YtmehdlflhllhdaaGrE
import Derived.Test.YtmehdlflhllhdaaGrC
import Derived.BigRegion
namespace Go.Proofs.Ytmehdlflhllhdaa
open Go.RowKit

/-- the blocks of a graph but the depths' -/
def GX.fix (X : GX) (g : Nat) : List Nat := g :: X.N :: X.M :: (X.sn.flatMap (fun s => fpo s.A) ++ X.sm.flatMap (fun s => fpo s.A))
theorem GAt.depths {lo up : Nat} {w w' : World} {g : Nat} {X : GX} {ns nd : List (List Nat)} {ds es : List Nat} (h : GAt lo up w g X ns nd ds) (ht : Touch [X.P] w w') (hP : X.P ∉ X.fix g) (he : es.length = ns.length) (hp : OwnK 3 1 nE w' (some ⟨X.P, 0, none⟩) ns.length es) : GAt lo up w' g X ns nd es := by
  have hb : g ≠ X.P ∧ X.N ≠ X.P ∧ X.M ≠ X.P ∧ (∀ s ∈ X.sn, ∀ b ∈ fpo s.A, b ≠ X.P) ∧ ∀ s ∈ X.sm, ∀ b ∈ fpo s.A, b ≠ X.P := by
    unfold GX.fix at hP
    simp only [List.mem_cons, List.mem_append, List.mem_flatMap, not_or, not_exists, not_and] at hP
    exact ⟨fun e => hP.1 e.symm, fun e => hP.2.1 e.symm, fun e => hP.2.2.1 e.symm, fun s hs b hb e => hP.2.2.2.1 s hs (e ▸ hb), fun s hs b hb e => hP.2.2.2.2 s hs (e ▸ hb)⟩
  obtain ⟨h1, h2, h3, h4, h5⟩ := hb
  exact ⟨ht.blk h.hd (by simpa using h1), h.nl, he, h.sn.touch ht (fun b hb => by simp [fpo] at hb; subst hb; simpa using h2), h.sm.touch ht (fun b hb => by simp [fpo] at hb; subst hb; simpa using h3), hp, h.snl, h.sml,
    fun i a b => (h.rn i a b).touch ht (fun b hb => by simpa using h4 _ (List.getElem_mem a) b hb), fun i a b => (h.rm i a b).touch ht (fun b hb => by simpa using h5 _ (List.getElem_mem a) b hb), h.bg, h.bn, h.bm, h.lt⟩

/-- the graph is told by its needs -/
def told (ns : List (List Nat)) : List (List Nat) := (List.range ns.length).map (ndOf ns)

/-- what stands in measure's first loop -/
structure M1 (w : World) (L : Nat) (n k : Nat) (ns : List (List Nat)) (A : Option Addr) (c : Nat) (wr : World) : Prop where
  left : OwnK 3 1 nE wr (some ⟨L, 0, none⟩) n ((ns.take k).map List.length ++ List.replicate (n - k) 0)
  rdy : OwnK 3 1 nE wr A c (pick k fun i => decide (nsOf ns i = []))
  t : Touch [] w wr
  f : w.heap.size ≤ L ∧ ∀ b ∈ fpo A, w.heap.size ≤ b ∧ b ≠ L

theorem pick_snoc (k : Nat) (p : Nat → Bool) : pick (k + 1) p = if p k = true then pick k p ++ [k] else pick k p := by
  rw [pick_succ]; split <;> simp

theorem left_set (l : List Nat) (n k v : Nat) (hl : l.length = k) (hk : k < n) : (l ++ List.replicate (n - k) 0).set k v = (l ++ [v]) ++ List.replicate (n - (k + 1)) 0 := by
  rw [List.set_append_right _ _ (by omega), hl, Nat.sub_self]
  obtain ⟨m, hm⟩ : ∃ m, n - k = m + 1 := ⟨n - k - 1, by omega⟩
  rw [hm, List.replicate_succ, List.set_cons_zero, List.append_assoc]
  congr 1
  rw [show n - (k + 1) = m by omega]; rfl

/-- what stands in the second one -/
structure M2 (lo up g : Nat) (X : GX) (w : World) (L : Nat) (ns : List (List Nat)) (r lf ds : List Nat) (j p : Nat) (A : Option Addr) (c : Nat) (wr : World) : Prop where
  gr : GAt lo up wr g X ns (told ns) ds
  st : Mst ns r lf ds j p
  left : OwnK 3 1 nE wr (some ⟨L, 0, none⟩) ns.length lf
  rdy : OwnK 3 1 nE wr A c r
  t : Touch [X.P] w wr
  f : w.heap.size ≤ L ∧ ∀ b ∈ fpo A, w.heap.size ≤ b ∧ b ≠ L

set_option maxRecDepth 20000 in
set_option maxHeartbeats 8000000 in
theorem measure_any (lo up g : Nat) (X : GX) (ns : List (List Nat)) (w : World) (h : GAt lo up w g X ns (told ns) (List.replicate ns.length 0)) (hP : X.P ∉ X.fix g) (hUp : up ≤ w.heap.size) (hns : ∀ k, ∀ x ∈ nsOf ns k, x < ns.length) (hnd : ∀ k, (nsOf ns k).Nodup) :
    Calls Try.prog 31 #[gP g] w fun e w' => ∃ (b : Bool) (ds : List Nat), e = .returned (.bool b) ∧ GAt lo up w' g X ns (told ns) ds ∧ Touch [X.P] w w' ∧ (b = true → ¬ Ring ns ∧ Deep ns fun k => ds.getD k 0) ∧ (b = false → Ring ns) := by
  obtain ⟨n, hn⟩ : ∃ n, n = ns.length := ⟨_, rfl⟩
  obtain ⟨c0, c1, c2⟩ := h.hd.cells
  have hlt := h.lt
  have h0P := Lib.hid h.dp
  rw [← hn] at c0 c1 c2 hlt
  have H := Lib.hid h
  have Hn := Lib.hid hn
  clear h hn
  go_enter Try.func31, Try.ntmps31
  have hmk := fun w => run_mkI n (by omega) w
  have k0 := ((Touch.refl [] w).alloc (.cells (madeCells #[.int .i64 0] n) 3)).cell c0 (by simp)
  go_wp2
  clear hmk k0
  obtain ⟨W1, hW1⟩ : ∃ W1, W1 = w.alloc (.cells (madeCells #[.int .i64 0] n) 3) := ⟨_, rfl⟩
  have hL := OwnK.made 3 (fun x : Nat => nV x) w n 0 (by unfold maxLen; omega)
  have hT1 : Touch [] w W1 := by rw [hW1]; exact (Touch.refl [] w).alloc _
  change OwnK _ _ _ (w.alloc (.cells (madeCells #[.int .i64 0] n) 3)) _ _ _ at hL
  rw [← hW1] at hL ⊢
  have HL := Lib.hid hL
  have HT1 := Lib.hid hT1
  clear hL hT1 hW1
  go_loopw [3, 22] (fun r i wr => ∃ (k q : Nat) (A : Option Addr) (c : Nat), k ≤ n ∧ q ≤ 2000 ∧ i = .int .i64 k ∧ r = .slice A q c ∧ Hid (q = (pick k fun i => decide (nsOf ns i = [])).length) ∧ Hid (M1 w w.heap.size n k ns A c wr)) (fun _ i _ => n - (intOf i).toNat)
  case atStart =>
    exact ⟨0, 0, none, 0, by omega, by omega, rfl, rfl, Lib.hid rfl, Lib.hid ⟨by simpa using HL.out, OwnK.nil _ _ _ _, HT1.out, Nat.le_refl _, by simp [fpo]⟩⟩
  case round =>
    clear HL HT1
    obtain ⟨k, q, A, c, hk, hq, rfl, rfl, Hq, HM⟩ := hrel
    have GW := Lib.hid (H.out.touch0 HM.out.t)
    obtain ⟨d0, d1, d2⟩ := GW.out.hd.cells
    rw [← Hn.out] at d0 d1 d2
    by_cases hlt : k < n
    · have hkn : k < ns.length := by have := Hn.out; omega
      have hks : k < X.sn.length := by rw [GW.out.snl]; exact hkn
      have ck := GW.out.sn.cell1 k hks
      have hrk := (GW.out.rn k hks hkn).n
      obtain ⟨⟨A', m, c'⟩, hs⟩ : ∃ s, s = X.sn[k] := ⟨_, rfl⟩
      rw [← hs] at ck hrk
      dsimp only [SL.val] at ck hrk
      have hml : m = ns[k].length := by simpa using hrk
      have hm2 : m ≤ 2000 := by
        have := pigeon ns.length ns[k] (by have := hnd k; simpa [nsOf, hkn] using this) (by have := hns k; simpa [nsOf, hkn] using this)
        have := Hn.out; omega
      have Hml := Lib.hid hml
      clear hs hrk hml
      have hlk : ((ns.take k).map List.length).length = k := by rw [List.length_map, List.length_take]; omega
      obtain ⟨v0, cl⟩ : ∃ v0 : Int, wr.cell? ⟨w.heap.size, k, none⟩ = some (.int .i64 v0) := ⟨_, HM.out.left.cell1 k (by rw [List.length_append, hlk, List.length_replicate]; omega)⟩
      have fl := HM.out.left.free_ k
      have hset := HM.out.left.set1 k (by rw [List.length_append, hlk, List.length_replicate]; omega) m
      rw [left_set _ _ _ _ hlk hlt] at hset
      have htk : (ns.take (k + 1)).map List.length = (ns.take k).map List.length ++ [m] := by
        rw [List.take_succ_eq_append_getElem hkn, List.map_append, Hml.out]; rfl
      rw [← htk] at hset
      have TS := (Touch.refl [w.heap.size] wr).setCell (p := ⟨w.heap.size, k, none⟩) (.inl (by simp)) (.int .i64 (m : Int))
      have Hset := Lib.hid hset
      have HTS := Lib.hid TS
      clear hset TS htk hlk
      have Hro := Lib.hid (HM.out.rdy.touch HTS.out (fun b hb => by simp; exact (HM.out.f.2 b hb).2))
      have Htt := Lib.hid (HM.out.t.setCell (p := ⟨w.heap.size, k, none⟩) (.inr (Nat.le_refl _)) (.int .i64 (m : Int)))
      change Hid (OwnK _ _ _ (wr.setCell ⟨w.heap.size, k, none⟩ (.int .i64 (m : Int))) _ _ _) at Hset
      by_cases hz : m = 0
      · subst hz
        have Hpk : Hid (pick (k + 1) (fun i => decide (nsOf ns i = [])) = pick k (fun i => decide (nsOf ns i = [])) ++ [k]) := Lib.hid (by
          rw [pick_snoc, if_pos]
          have := Hml.out
          simp only [decide_eq_true_eq, nsOf]
          simp [hkn]
          exact List.eq_nil_of_length_eq_zero this.symm)
        go_wp2_with (at_builtin; refine stop ?_)
        refine go ?_
        have tb := (Touch.refl [] (wr.setCell ⟨w.heap.size, k, none⟩ (.int .i64 0))).alloc (.cells #[.int .i64 (k : Int)] 3)
        refine wpList_appK (enc := nE) rfl (.tmp 35) (.tmp 37) 31 rfl 3 (.int .i64 0) 1 8 info_int Try.underlying31 rfl (by omega) (fun _ => rfl) (fun x u hu => by simp only [List.mem_singleton] at hu; subst hu; rfl) A q c _ Hq.out.symm rfl (Hro.out.touch0 tb)
          (some ⟨wr.heap.size, 0, none⟩) 1 1 [k] rfl rfl (by have := RdK.one (enc := nE) (wr.setCell ⟨w.heap.size, k, none⟩ (.int .i64 0)) 3 k #[.int .i64 (k : Int)] rfl; rwa [World.size_setCell] at this) (by omega) (by omega) ?_
        intro A3 c3 w3 hown3 ht3 hf3
        rw [← Hpk.out] at hown3
        have Hw3 := Lib.hid (And.intro hown3 (And.intro ht3 hf3))
        clear hown3 ht3 hf3
        go_wp2_with fail
        go_roundw
        case rel =>
          obtain ⟨hown3, ht3, hf3⟩ := Hw3.out
          have hAL : ∀ b ∈ fpo A, b ≠ w.heap.size := fun b hb => (HM.out.f.2 b hb).2
          have hsz := Htt.out.size
          refine ⟨k + 1, q + 1, A3, c3, by omega, ?_, by go_num, rfl, Lib.hid (by rw [Hpk.out, List.length_append, ← Hq.out]; rfl), Lib.hid ⟨(Hset.out.touch0 tb).touch ht3 (fun b hb => by simp [fpo] at hb; subst hb; exact fun hm => hAL _ hm rfl), hown3, (Htt.out.trans0 tb).trans ht3 (fun b hb => .inr (HM.out.f.2 b hb).1), Nat.le_refl _, fun b hb => ?_⟩⟩
          · have := pick_length_le (k + 1) fun i => decide (nsOf ns i = [])
            rw [Hpk.out, List.length_append, ← Hq.out] at this
            simp at this; omega
          · rcases hf3 b hb with e | e
            · exact HM.out.f.2 b e
            · have := HM.out.left.lt w.heap.size (by simp [fpo])
              have e2 : ((wr.setCell ⟨w.heap.size, k, none⟩ (.int .i64 0)).alloc (.cells #[.int .i64 (k : Int)] 3)).heap.size = wr.heap.size + 1 := by simp [World.setCell]
              have := HM.out.t.size
              omega
        case measure => simp [intOf]; omega
      · have Hpk : Hid (pick (k + 1) (fun i => decide (nsOf ns i = [])) = pick k (fun i => decide (nsOf ns i = []))) := Lib.hid (by
          rw [pick_snoc, if_neg]
          have := Hml.out
          simp only [decide_eq_true_eq, nsOf]
          simp [hkn]
          intro e
          rw [e] at this
          exact hz this)
        have hz' : ((m : Int) = 0) = False := by simp; omega
        go_wp2
        go_roundw
        case rel =>
          refine ⟨k + 1, q, A, c, by omega, hq, by go_num, rfl, Lib.hid (by rw [Hpk.out]; exact Hq.out), Lib.hid ⟨Hset.out, by rw [Hpk.out]; exact Hro.out, Htt.out, HM.out.f⟩⟩
        case measure => simp [intOf]; omega
    · obtain rfl : k = n := by omega
      have hgr := (H.out.touch0 HM.out.t)
      have hst := Mst.start ns hns
      have hlen2 : (ns.take k).map List.length ++ List.replicate (k - k) 0 = ns.map List.length := by
        have := Hn.out
        rw [Nat.sub_self, List.replicate_zero, List.append_nil, List.take_of_length_le (by omega)]
      obtain ⟨rr, hrr⟩ : ∃ rr, rr = pick k fun i => decide (nsOf ns i = []) := ⟨_, rfl⟩
      have H0 : Hid (M2 lo up g X w w.heap.size ns rr (ns.map List.length) (List.replicate ns.length 0) 0 0 A c wr) := Lib.hid
        ⟨hgr, by rw [hrr, Hn.out]; exact hst, by have := HM.out.left; rw [hlen2, Hn.out] at this; exact this, by rw [hrr]; exact HM.out.rdy, HM.out.t.mono (by simp), HM.out.f⟩
      have Hq2 : Hid (q = rr.length) := Lib.hid (by rw [hrr]; exact Hq.out)
      clear hgr hst hlen2 hrr HM Hq GW H d0 d1 d2
      obtain ⟨W1, e1⟩ : ∃ W1, W1 = wr := ⟨_, rfl⟩
      subst e1
      go_wp2_with fail
      go_loopw [3, 7] (fun r i wr => ∃ (j q : Nat) (A : Option Addr) (c : Nat) (rr lf ds : List Nat), j ≤ q ∧ q ≤ k ∧ i = .int .i64 j ∧ r = .slice A q c ∧ Hid (q = rr.length) ∧ Hid (M2 lo up g X w w.heap.size ns rr lf ds j 0 A c wr)) (fun _ i _ => k - (intOf i).toNat)
      case atStart =>
        have := H0.out.st.rle.1
        have := Hq2.out
        have := Hn.out
        exact ⟨0, q, A, c, _, _, _, by omega, by omega, rfl, rfl, Hq2, H0⟩
      case round =>
        clear H0 Hq2
        obtain ⟨j, q, A, c, rr, lf, ds, hj, hqk, rfl, rfl, Hq, HM⟩ := hrel
        by_cases hlt2 : j < q
        · have hjr : j < rr.length := by have := Hq.out; omega
          obtain ⟨ad, rfl, cj⟩ := (rdI_of_ownN HM.out.rdy).at_ j (by simpa using hjr)
          have hin : rr[j] < ns.length := HM.out.st.rle.2 _ (List.getElem_mem hjr)
          obtain ⟨i, hi⟩ : ∃ i, i = rr[j] := ⟨_, rfl⟩
          simp only [List.getElem_map, ← hi] at cj
          rw [← hi] at hin
          obtain ⟨d0, d1, d2⟩ := HM.out.gr.hd.cells
          rw [← Hn.out] at d0 d1 d2
          have hml : (told ns).length = ns.length := by simp [told]
          have hims : i < X.sm.length := by rw [HM.out.gr.sml]; exact hin
          have ci := HM.out.gr.sm.cell1 i hims
          have hri := HM.out.gr.rm i hims (by rw [hml]; exact hin)
          obtain ⟨⟨A', m, c'⟩, hs⟩ : ∃ s, s = X.sm[i] := ⟨_, rfl⟩
          rw [← hs] at ci hri
          have hL2 : (told ns)[i]'(by rw [hml]; exact hin) = ndOf ns i := by simp [told]
          rw [hL2] at hri
          have hrin := hri.n
          dsimp only [SL.val] at ci hrin
          have hm1 : m = (ndOf ns i).length := by simpa using hrin
          have Hm1 := Lib.hid hm1
          have Hi := Lib.hid hi
          have Hs : Hid (X.sm[i]? = some ⟨A', m, c'⟩) := Lib.hid (by rw [hs]; exact List.getElem?_eq_getElem hims)
          have hm2 : m ≤ k := by have := ndOf_le ns i; have := Hn.out; omega
          have hik : i < k := by have := Hn.out; omega
          have H0 : Hid (M2 lo up g X w w.heap.size ns rr lf ds j 0 (some ad) c wr) := HM
          clear hs hri hrin hm1 hL2 hims hin hi HM
          have hPL : X.P < w.heap.size := by
            have := h0P.out.lt X.P (by simp [fpo])
            exact this
          go_wp2_with fail
          go_loopw [3, 58] (fun r y wr => ∃ (p q2 : Nat) (A : Option Addr) (c : Nat) (rr2 lf2 ds2 : List Nat), p ≤ m ∧ q2 ≤ k ∧ y = .int .i64 p ∧ r = .slice A q2 c ∧ Hid (q2 = rr2.length ∧ rr2[j]? = some i ∧ j < rr2.length) ∧ Hid (M2 lo up g X w w.heap.size ns rr2 lf2 ds2 j p A c wr)) (fun _ y _ => m - (intOf y).toNat)
          case atStart =>
            exact ⟨0, q, _, c, rr, lf, ds, by omega, hqk, rfl, rfl, Lib.hid ⟨Hq.out, by rw [Hi.out]; exact List.getElem?_eq_getElem hjr, hjr⟩, H0⟩
          case round =>
            clear H0 Hq Hi hlt2 hjr cj d0 d1 d2 ci hj hqk
            obtain ⟨p, q2, A, c, rr, lf, ds, hp, hqk, rfl, rfl, Hq, HM⟩ := hrel
            have hjr := Hq.out.2.2
            have hri : rr[j] = i := by have := Hq.out.2.1; rw [List.getElem?_eq_getElem hjr] at this; exact Option.some.inj this
            by_cases hpm : p < m
            · have hpl : p < (ndOf ns i).length := by rw [← Hm1.out]; exact hpm
              have hst := HM.out.st.step hnd hjr (by rw [hri]; exact hpl)
              simp only [hri] at hst
              obtain ⟨kk, hkk⟩ : ∃ kk, kk = (ndOf ns i)[p] := ⟨_, rfl⟩
              rw [← hkk] at hst
              have hin : i < ns.length := by have := Hn.out; omega
              have hims : i < X.sm.length := by rw [HM.out.gr.sml]; exact hin
              have hml : (told ns).length = ns.length := by simp [told]
              have hrow := HM.out.gr.rm i hims (by rw [hml]; exact hin)
              have hsx : X.sm[i] = ⟨A', m, c'⟩ := by have := Hs.out; rw [List.getElem?_eq_getElem hims] at this; exact Option.some.inj this
              rw [hsx, show (told ns)[i]'(by rw [hml]; exact hin) = ndOf ns i by simp [told]] at hrow
              obtain ⟨ad2, hA2, cy⟩ := hrow.rd.at_ p (by simpa using hpl)
              simp only [List.getElem_map, ← hkk] at cy hA2
              subst hA2
              obtain ⟨d0, d1, d2⟩ := HM.out.gr.hd.cells
              rw [← Hn.out] at d0 d1 d2
              have hkn : kk < k := by have := hst.1; have := Hn.out; omega
              have hbk := HM.out.st.bound kk hst.1
              have hbi := HM.out.st.bound i hin
              have hbl := HM.out.st.lfb kk hst.1
              have hnl := pigeon ns.length (nsOf ns kk) (hnd kk) (hns kk)
              have ck := HM.out.gr.dp.cell1 kk (by rw [HM.out.st.dl]; exact hst.1)
              have ci := HM.out.gr.dp.cell1 i (by rw [HM.out.st.dl]; exact hin)
              have cl := HM.out.left.cell1 kk (by rw [HM.out.st.ll]; exact hst.1)
              have fk := HM.out.gr.dp.free_ kk
              have fl := HM.out.left.free_ kk
              rw [show ds[kk]'(by rw [HM.out.st.dl]; exact hst.1) = ds.getD kk 0 by simp [HM.out.st.dl, hst.1]] at ck
              rw [show ds[i]'(by rw [HM.out.st.dl]; exact hin) = ds.getD i 0 by simp [HM.out.st.dl, hin]] at ci
              rw [show lf[kk]'(by rw [HM.out.st.ll]; exact hst.1) = lf.getD kk 0 by simp [HM.out.st.ll, hst.1]] at cl
              obtain ⟨dk, hdk⟩ : ∃ dk, dk = ds.getD kk 0 := ⟨_, rfl⟩
              obtain ⟨di, hdi⟩ : ∃ di, di = ds.getD i 0 := ⟨_, rfl⟩
              obtain ⟨lk, hlk⟩ : ∃ lk, lk = lf.getD kk 0 := ⟨_, rfl⟩
              simp only [← hdk, ← hdi, ← hlk] at ck ci cl hst hbk hbi hbl
              have hlk0 := hst.2.1
              have hb1 : dk ≤ 2000 := by have := Hn.out; omega
              have hb2 : di ≤ 2000 := by have := Hn.out; omega
              have hb3 : lk ≤ 2000 := by have := Hn.out; omega
              have Hst := Lib.hid hst.2.2
              have hkkn := Lib.hid hst.1
              have Hri := Lib.hid hri
              have HP := Lib.hid (HM.out.gr.dp.set1 kk (by rw [HM.out.st.dl]; exact hst.1) (max dk (di + 1)))
              have HLs := Lib.hid (HM.out.left.set1 kk (by rw [HM.out.st.ll]; exact hst.1) (lk - 1))
              clear hsx
              clear hst hkk hrow hims hml hbk hbi hbl hnl hdk hdi hlk hri hin
              go_wp2_with fail
              go_region
              have hmx : max (dk : Int) ((di : Int) + 1) = ((max dk (di + 1) : Nat) : Int) := by omega
              rw [hmx]
              obtain ⟨dv, hdv⟩ : ∃ dv, dv = max dk (di + 1) := ⟨_, rfl⟩
              rw [← hdv] at HP Hst ⊢
              clear hmx hdv
              obtain ⟨W2, hW2⟩ : ∃ W2, W2 = (wr.setCell ⟨X.P, kk, none⟩ (.int .i64 (dv : Int))).drew := ⟨_, rfl⟩
              rw [← hW2]
              have T2 : Touch [X.P] wr W2 := by rw [hW2]; exact ((Touch.refl [X.P] wr).setCell (p := ⟨X.P, kk, none⟩) (.inl (by simp)) (.int .i64 (dv : Int))).drew
              have hdp2 : OwnK 3 1 nE W2 (some ⟨X.P, 0, none⟩) ns.length (ds.set kk dv) := by rw [hW2]; exact HP.out.touch0 (Touch.refl [] _).drew
              clear hW2
              have hgr2 := HM.out.gr.depths T2 hP (by rw [List.length_set]; exact HM.out.st.dl) hdp2
              have hne : ∀ b ∈ fpo (some (⟨w.heap.size, 0, none⟩ : Addr)), b ∉ [X.P] := fun b hb => by simp [fpo] at hb; subst hb; simp; omega
              have hlf2 := HM.out.left.touch T2 hne
              have hrd2 := HM.out.rdy.touch T2 (fun b hb => by have := (HM.out.f.2 b hb).1; simp; omega)
              have ht2 := HM.out.t.trans T2 (fun b hb => .inl hb)
              have cl2 := T2.cell cl (by simp; omega)
              have fl2 := hlf2.free_ kk
              have hlfS := hlf2.set1 kk (by rw [HM.out.st.ll]; exact hkkn.out) (lk - 1)
              obtain ⟨W3, hW3⟩ : ∃ W3, W3 = W2.setCell ⟨w.heap.size, kk, none⟩ (.int .i64 ((lk - 1 : Nat) : Int)) := ⟨_, rfl⟩
              change OwnK _ _ _ (W2.setCell ⟨w.heap.size, kk, none⟩ (.int .i64 ((lk - 1 : Nat) : Int))) _ _ _ at hlfS
              rw [← hW3] at hlfS
              have T3 : Touch [w.heap.size] W2 W3 := by rw [hW3]; exact (Touch.refl _ _).setCell (p := ⟨w.heap.size, kk, none⟩) (.inl (by simp)) _
              have hup : w.heap.size ≤ up ∨ up ≤ w.heap.size := Nat.le_total _ _
              have hgr3 : GAt lo up W3 g X ns (told ns) (ds.set kk dv) := hgr2.touch T3 (fun b hb => by simp at hb; subst hb; exact .inr hUp)
              have hrd3 := hrd2.touch T3 (fun b hb => by simp; exact (HM.out.f.2 b hb).2)
              have ht3 := ht2.trans T3 (fun b hb => by simp at hb; subst hb; exact .inr (Nat.le_refl _))
              have HH := Lib.hid (And.intro hgr3 (And.intro hrd3 (And.intro ht3 hlfS)))
              have hcast : ((lk : Int) - 1) = ((lk - 1 : Nat) : Int) := by omega
              have hW3' : W2.setCell ⟨w.heap.size, kk, none⟩ (.int .i64 ((lk : Int) - 1)) = W3 := by rw [hcast]; exact hW3.symm
              have HW3 := Lib.hid hW3'
              clear hgr2 hlf2 hrd2 ht2 hlfS hW3 T3 hup hgr3 hrd3 ht3 hdp2 hW3' hcast ck ci fk cl fl HP HLs T2 cy
              by_cases hl1 : lk = 1
              · subst hl1
                rw [if_pos rfl] at Hst
                go_wp2_with (at_builtin; refine stop ?_)
                refine go ?_
                have e0 : W2.setCell ⟨w.heap.size, kk, none⟩ (.int .i64 0) = W3 := HW3.out
                rw [e0]
                have tb := (Touch.refl [] W3).alloc (.cells #[.int .i64 (kk : Int)] 3)
                have hsz3 : W3.heap.size = W2.heap.size := by rw [← e0]; exact World.size_setCell _ _ _
                refine wpList_appK (enc := nE) rfl (.tmp 95) (.tmp 97) 31 rfl 3 (.int .i64 0) 1 8 info_int Try.underlying31 rfl (by omega) (fun _ => rfl) (fun x u hu => by simp only [List.mem_singleton] at hu; subst hu; rfl) A q2 c _ Hq.out.1.symm rfl (HH.out.2.1.touch0 tb)
                  (some ⟨W2.heap.size, 0, none⟩) 1 1 [kk] rfl rfl (by have := RdK.one (enc := nE) W3 3 kk #[.int .i64 (kk : Int)] rfl; rwa [hsz3] at this) (by omega) (by omega) ?_
                intro A3 c3 w3 hown3 ht3 hf3
                have Hw3 := Lib.hid (And.intro hown3 (And.intro ht3 hf3))
                clear hown3 ht3 hf3
                go_wp2_with fail
                go_roundw
                case rel =>
                  obtain ⟨hown3, ht3, hf3⟩ := Hw3.out
                  obtain ⟨hgr3, hrd3, ht3', hlf3⟩ := HH.out
                  have hA : ∀ b ∈ fpo A, w.heap.size ≤ b ∧ b ≠ w.heap.size := HM.out.f.2
                  have hll := hlf3.lt w.heap.size (by simp [fpo])
                  have hsza : (W3.alloc (.cells #[.int .i64 (kk : Int)] 3)).heap.size = W3.heap.size + 1 := World.size_alloc _ _
                  have hlen : (rr ++ [kk]).length = q2 + 1 := by rw [List.length_append, ← Hq.out.1]; rfl
                  have hle : (rr ++ [kk]).length ≤ ns.length := Hst.out.rle.1
                  refine ⟨p + 1, q2 + 1, A3, c3, rr ++ [kk], _, _, by omega, by have := Hn.out; omega, by go_num, rfl, Lib.hid ⟨hlen.symm, ?_, by rw [hlen]; have := Hq.out.1; omega⟩, Lib.hid ⟨(hgr3.touch0 tb).touch ht3 ?_, Hst.out, (hlf3.touch0 tb).touch ht3 (fun b hb => by simp [fpo] at hb; subst hb; exact fun hm => (hA _ hm).2 rfl), hown3, (ht3'.trans0 tb).trans ht3 (fun b hb => .inr (hA b hb).1), Nat.le_refl _, fun b hb => ?_⟩⟩
                  · rw [List.getElem?_append_left hjr]; exact Hq.out.2.1
                  · intro b hb; exact .inr (Nat.le_trans hUp (hA b hb).1)
                  · rcases hf3 b hb with e | e
                    · exact hA b e
                    · omega
                case measure => simp [intOf]; omega
              · rw [if_neg hl1] at Hst
                have hl1' : ((lk : Int) - 1 = 0) = False := by simp; omega
                go_wp2
                rw [HW3.out]
                go_roundw
                case rel =>
                  obtain ⟨hgr3, hrd3, ht3', hlf3⟩ := HH.out
                  exact ⟨p + 1, q2, A, c, rr, _, _, by omega, hqk, by go_num, rfl, Hq, Lib.hid ⟨hgr3, Hst.out, hlf3, hrd3, ht3', HM.out.f⟩⟩
                case measure => simp [intOf]; omega
            · obtain rfl : p = m := by omega
              have hnx := HM.out.st
              have hnx2 : Mst ns rr lf ds (j + 1) 0 := by
                rw [show p = (ndOf ns rr[j]).length by rw [hri]; exact Hm1.out] at hnx
                exact hnx.next hjr
              have H2 : Hid (M2 lo up g X w w.heap.size ns rr lf ds (j + 1) 0 A c wr) := Lib.hid ⟨HM.out.gr, hnx2, HM.out.left, HM.out.rdy, HM.out.t, HM.out.f⟩
              have hq3 : j + 1 ≤ q2 := by have := Hq.out.1; omega
              have Hq3 := Lib.hid Hq.out.1
              clear hnx hnx2 Hq HM hjr hri
              go_wp2
              go_roundw
              case rel => exact ⟨j + 1, q2, A, c, rr, lf, ds, by omega, hqk, by go_num, rfl, Hq3, H2⟩
              case measure => simp [intOf]; omega
        · obtain rfl : j = q := by omega
          have hfin := HM.out.st
          rw [show j = rr.length from Hq.out] at hfin
          have hlast := hfin.last hns
          obtain ⟨d0, d1, d2⟩ := HM.out.gr.hd.cells
          rw [← Hn.out] at d0 d1 d2
          have Hlast := Lib.hid hlast
          clear hfin hlast
          by_cases hjk : j = k
          · subst hjk
            go_wp2
            go_ret
            refine ⟨true, ds, ret_bool (by simp), HM.out.gr, HM.out.t, fun _ => Hlast.out.1 (by rw [← Hq.out]; exact Hn.out), fun h => by cases h⟩
          · have hjk' : ((j : Int) = (k : Int)) = False := by simp; omega
            go_wp2
            go_ret
            refine ⟨false, ds, ret_bool (beq_eq_false_iff_ne.2 (by omega)), HM.out.gr, HM.out.t, (fun h => by cases h), fun _ => Hlast.out.2 (by rw [← Hq.out, ← Hn.out]; exact hjk)⟩
end Go.Proofs.Ytmehdlflhllhdaa
