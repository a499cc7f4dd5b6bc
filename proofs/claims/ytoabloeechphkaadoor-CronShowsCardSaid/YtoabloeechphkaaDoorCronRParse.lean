/- bywashref10.Parse: the walk. For every text of at most some thousand bytes. -/
import Derived.Test.YtoabloeechphkaaDoorCronPl2
import Derived.Test.YtoabloeechphkaaDoorCronLawR
namespace Go.Proofs.YtoabloeechphkaaDoor
open Go.RowKit Go.Shelf

theorem results_fld {fn : Func} {p q : Tmp} (h : fn.results = #[.cell p 34, .tmp q]) (tmps : Array Value) (w : World) (g : Nat) (X : Array Value) (v : Int) (t : TypeId)
    (hp : tmps.getD p undef = .pointer (some ⟨g, 0, none⟩)) (hq : tmps.getD q undef = .int .i64 v) (hX : (Tryd.prog.info? 34).map (·.size) = some X.size) (hg : w.heap[g]? = some (.cells X t (0, 0))) :
    (results fn tmps).run Tryd.prog w = .ok (.tuple #[.agg X, .int .i64 v]) w := by
  have h1 := run_loadVar_row (P := Tryd.prog) (ty := 34) w g t X (0, 0) _ hg Tryd.underlying34 rfl hX
  rw [results_cell_tmp h, hp, hq]
  simp [asAddr, h1]

/-- what stays: the result's row, the row of none, the pieces -/
structure RB (w : World) (Z : Array Value) (A : Option Addr) (c : Nat) (ps : List (List UInt8)) (W : World) : Prop where
  r0 : W.heap[w.heap.size]? = some (.cells Z 34 (0, 0))
  r2 : W.heap[w.heap.size + 2]? = some (.cells Z 34 (0, 0))
  own : OwnK 9 1 encT W A c ps
  ge : ∀ b ∈ fpo A, w.heap.size + 3 ≤ b
  t : Touch [] w W
theorem RB.touch {w : World} {Z : Array Value} {A : Option Addr} {c : Nat} {ps : List (List UInt8)} {W W' : World} {fp : List Nat} (h : RB w Z A c ps W) (t : Touch fp W W') (h0 : ∀ b ∈ fp, w.heap.size + 3 ≤ b ∨ b = w.heap.size + 1) (hA : ∀ b ∈ fpo A, b ∉ fp) : RB w Z A c ps W' :=
  ⟨t.blk h.r0 (fun hm => by have := h0 _ hm; omega), t.blk h.r2 (fun hm => by have := h0 _ hm; omega), h.own.touch t hA, h.ge, h.t.trans t (fun b hb => .inr (by have := h0 b hb; omega))⟩
theorem RB.touch0 {w : World} {Z : Array Value} {A : Option Addr} {c : Nat} {ps : List (List UInt8)} {W W' : World} (h : RB w Z A c ps W) (t : Touch [] W W') : RB w Z A c ps W' := h.touch t (by simp) (by simp)

/-- between two fields: the spec so far -/
structure FR (w : World) (Z : Array Value) (A : Option Addr) (c : Nat) (ps : List (List UInt8)) (k : Nat) (cc : SD) (W : World) : Prop where
  hk : k ≤ 5
  ok : cc.Ok
  eq : fieldsV 0 ps zeroC = fieldsV k (ps.drop k) cc
  z : ∀ j, k ≤ j → cc.set j = 0 ∧ cc.any j = false
  cb : W.heap[w.heap.size + 1]? = some (.cells (refC cc).toArray 34 (0, 0))
  rb : RB w Z A c ps W
theorem all_step {l : List (List UInt8)} {k : Nat} (h : k < l.length) : ne (l.take (k + 1)) = ne (l.take k) ++ if l[k] = [] then [] else [l[k]] := by
  rw [List.take_succ_eq_append_getElem h, ne_snoc]

set_option maxRecDepth 100000 in
set_option maxHeartbeats 25600000 in
theorem rparse_any (s : List UInt8) (hs : s.length ≤ 100000) (w : World) :
    Calls Tryd.prog 11 #[.string (S s)] w fun e w' => e = .returned (.tuple #[.agg (refC (parseC s).2).toArray, .int .i64 (parseC s).1]) ∧ Touch [] w w' := by
  have hsp := fun x (hx : x.length ≤ 100000) b w' => rsplit_any x hx b w'
  have HSp := Lib.hid hsp
  have hin : (Tryd.prog.info? 34).map (·.size) = some (refC zeroC).toArray.size := info34 zeroC
  have hstore : ∀ W : World, W.heap[w.heap.size]? = some (.cells (refC zeroC).toArray 34 (0, 0)) → (storeCells ⟨w.heap.size, 0, none⟩ (refC zeroC).toArray.toList).run Tryd.prog W = .ok () W := fun W h => by
    have h1 := run_store_row (P := Tryd.prog) (vs := (refC zeroC).toArray.toList) h (by simp) (by intro v hv; exact refC_one zeroC v (by simpa using hv))
    rw [h1]
    have : (refC zeroC).toArray.toList.toArray = (refC zeroC).toArray := by simp
    rw [this, setRow_self W w.heap.size _ _ _ h]
  have h325 : (refC zeroC).toArray.size = 325 := by rw [List.size_toArray, refC_length]
  obtain ⟨Z, hZ⟩ : ∃ Z, Z = (refC zeroC).toArray := ⟨_, rfl⟩
  rw [← hZ] at hin hstore h325
  have b0 := heap_alloc_new w (.cells Z 34)
  have b1 := heap_alloc_new (w.alloc (.cells Z 34)) (.cells Z 34)
  have b2 := heap_alloc_new ((w.alloc (.cells Z 34)).alloc (.cells Z 34)) (.cells Z 34)
  rw [World.size_alloc] at b1
  rw [World.size_alloc, World.size_alloc] at b2
  have b0 := (((Touch.refl [] (w.alloc (.cells Z 34))).alloc (.cells Z 34)).alloc (.cells Z 34)).blk b0 (by simp)
  have b1 := ((Touch.refl [] ((w.alloc (.cells Z 34)).alloc (.cells Z 34))).alloc (.cells Z 34)).blk b1 (by simp)
  have t0 := (((Touch.refl [] w).alloc (.cells Z 34)).alloc (.cells Z 34)).alloc (.cells Z 34)
  obtain ⟨W0, hW0⟩ : ∃ W0, W0 = ((w.alloc (.cells Z 34)).alloc (.cells Z 34)).alloc (.cells Z 34) := ⟨_, rfl⟩
  have hW0s : W0.heap.size = w.heap.size + 3 := by rw [hW0]; simp
  rw [← hW0] at b0 b1 b2 t0
  have hW0' : ((w.alloc (.cells Tryd.zeroCells34 34)).alloc (.cells Tryd.zeroCells34 34)).alloc (.cells Tryd.zeroCells34 34) = W0 := by rw [hW0, hZ, zero_ref]
  have HW0 := Lib.hid hW0'; have HW0s := Lib.hid hW0s; have Hin := Lib.hid hin; have HStore := Lib.hid hstore; have HZ := Lib.hid hZ
  have HB := Lib.hid (And.intro b0 (And.intro b1 b2))
  clear hsp hin hstore hZ hW0 hW0s hW0' b0 b1 b2
  go_enter Tryd.func11, Tryd.ntmps11
  go_wp2_with (with_reducible rw [HW0.out])
  try rw [HW0.out]
  refine (HSp.out s hs 32 _).mono ?_
  rintro e W1 ⟨A, cA, rfl, hown, hAge, t1⟩
  obtain ⟨all, hall⟩ : ∃ all, all = splitV s [32] := ⟨_, rfl⟩
  rw [← hall] at hown ⊢
  obtain ⟨n, hn⟩ : ∃ n, n = all.length := ⟨_, rfl⟩
  rw [← hn] at ⊢
  obtain ⟨h0, h1, h2⟩ := HB.out
  have hRB : RB w Z A cA all W1 := ⟨t1.blk h0 (by simp), t1.blk h2 (by simp), hown, fun b hb => by rw [← HW0s.out]; exact hAge b hb, t0.trans0 t1⟩
  have hC1 := t1.blk h1 (by simp)
  have hAlt := hown.lt
  have hal := splitF_length [32] s.length s
  have hpl : n ≤ s.length + 1 := by rw [hn, hall]; exact hal.1
  have hmem : ∀ x ∈ all, x.length ≤ s.length := fun x hx => by rw [hall] at hx; exact hal.2 x hx
  have hnp : 0 < n := by rw [hn, hall]; exact List.length_pos_iff.2 (splitV_ne s 32)
  have hbF := first_bad (s := s)
  have hbL := last_bad (s := s)
  have hlo := last_of s
  rw [← hall] at hbF hlo
  rw [← hn] at hlo
  have hbI := bad_iff (s := s)
  rw [← hall] at hbI
  have hpar : ∀ v x, parseC s = if badF s = true then (20, zeroC) else if (fieldsV 0 (ne all) zeroC).1 = 0 then fieldsV 0 (ne all) zeroC else ((fieldsV 0 (ne all) zeroC).1, zeroC) := fun (_ _ : Nat) => by rw [hall]; rfl
  have hpar := hpar 0 0
  have Hbf := Lib.hid hbF; have Hbl := Lib.hid hbL; have Hlo := Lib.hid hlo; have Hbi := Lib.hid hbI; have Hpar := Lib.hid hpar
  have HW1s := Lib.hid t1.size
  have HRB := Lib.hid hRB; have HC1 := Lib.hid hC1; have HAlt := Lib.hid hAlt; have Hn := Lib.hid hn; have Hmem := Lib.hid hmem
  have Hst20 := Lib.hid (show badF s = true → parseC s = (20, zeroC) from fun h => by rw [Hpar.out, if_pos h])
  clear hall hbF hbL hlo hbI hpar hRB hC1 hAlt hal hown hAge h0 h1 h2 hn hmem
  go_wp2_with fail
  go_loopw [7, 8] (fun q i wr => ∃ (k : Nat) (A2 : Option Addr) (c2 m : Nat) (l : List (List UInt8)), k ≤ n ∧ i = .int .i64 k ∧ q = .slice A2 m c2 ∧ Hid (l = ne (all.take k)) ∧ Hid (m = l.length) ∧ m ≤ k ∧ Hid (OwnK 9 1 encT wr A2 c2 l) ∧ Hid (∀ b ∈ fpo A2, W1.heap.size ≤ b) ∧ Hid (∀ j, j < k → all[j]? = some [] → j ≠ 0 ∧ j ≠ n - 1) ∧ Touch [] W1 wr) (fun _ i _ => n - (intOf i).toNat)
  case atStart => exact ⟨0, none, 0, 0, [], by omega, rfl, rfl, Lib.hid rfl, Lib.hid rfl, by omega, Lib.hid (OwnK.nil _ _ _ _), Lib.hid (by simp [fpo]), Lib.hid (fun j h => by omega), Touch.refl _ _⟩
  case round =>
    obtain ⟨k, A2, c2, m, l, hk, rfl, rfl, hl, hm, hmk, hown2, hge2, hno, ht⟩ := hrel
    have hrb := HRB.out.touch0 ht
    by_cases hlt : k < n
    · have hka : k < all.length := by rw [← Hn.out]; exact hlt
      obtain ⟨ad, bb, off, hAe, had, -, hcell⟩ := hrb.own.rd.at_ 1 encT_len (by omega) k hka
      have hcell := hcell 0 (.string (S all[k])) rfl
      rw [Nat.mul_one] at had
      rw [Nat.add_zero] at hcell
      have hstep := all_step hka
      have hgk : all[k]? = some all[k] := List.getElem?_eq_getElem hka
      have hxl := Hmem.out _ (List.getElem_mem hka)
      obtain ⟨x, hx⟩ : ∃ x, x = all[k] := ⟨_, rfl⟩
      rw [← hx] at hcell hstep hgk hxl
      have hRB := Lib.hid hrb
      have k0 : (0 : Int) ≤ (k : Int) := by omega
      have k1 : (k : Int) < n := by omega
      subst hAe
      have Hstep := Lib.hid hstep; have Hgk := Lib.hid hgk
      clear hx hstep hgk hrb
      by_cases hx0 : x = []
      · subst hx0
        have q1 : (S []).toList = [] := by rw [S_list]
        have Hs2 := Lib.hid (show ne (all.take (k + 1)) = ne (all.take k) by rw [Hstep.out]; simp)
        by_cases hkz : k = 0
        · have Hb := Lib.hid (Hst20.out (Hbf.out (by rw [← hkz]; exact Hgk.out)))
          have hkz1 : ((k : Int) = 0) = True := eq_true (by omega)
          have hkz2 : ((k : Int) == 0) = true := by rw [beq_iff_eq]; omega
          clear hkz
          have hnone := hRB.out.r2
          have hst := HStore.out _ hRB.out.r0
          go_wp2_with (refine wpList_load_row rfl 34 (.tmp 5) rfl (w.heap.size + 1 + 1) rfl _ _ _ _ hnone Tryd.underlying34 rfl Hin.out ?_)
          refine bodyPost_ret (results_fld rfl _ _ w.heap.size Z 20 _ rfl rfl Hin.out hRB.out.r0) rfl ?_
          exact ⟨by rw [HZ.out, Hb.out], hRB.out.t⟩
        · by_cases hkn : k = n - 1
          · have Hb := Lib.hid (Hst20.out (Hbl.out (by
              have h1 := Hgk.out
              rw [hkn, Hlo.out] at h1
              injection h1)))
            have hkz1 : ((k : Int) = 0) = False := eq_false (by omega)
            have hkz2 : ((k : Int) == 0) = false := by rw [beq_eq_false_iff_ne]; omega
            have hkn1 : ((k : Int) = (n : Int) - 1) = True := eq_true (by omega)
            have hkn2 : ((k : Int) == (n : Int) - 1) = true := by rw [beq_iff_eq]; omega
            clear hkz hkn
            have hnone := hRB.out.r2
            have hst := HStore.out _ hRB.out.r0
            go_wp2_with (refine wpList_load_row rfl 34 (.tmp 5) rfl (w.heap.size + 1 + 1) rfl _ _ _ _ hnone Tryd.underlying34 rfl Hin.out ?_)
            refine bodyPost_ret (results_fld rfl _ _ w.heap.size Z 20 _ rfl rfl Hin.out hRB.out.r0) rfl ?_
            exact ⟨by rw [HZ.out, Hb.out], hRB.out.t⟩
          · have hkz1 : ((k : Int) = 0) = False := eq_false (by omega)
            have hkz2 : ((k : Int) == 0) = false := by rw [beq_eq_false_iff_ne]; omega
            have hkn1 : ((k : Int) = (n : Int) - 1) = False := eq_false (by omega)
            have hkn2 : ((k : Int) == (n : Int) - 1) = false := by rw [beq_eq_false_iff_ne]; omega
            go_wp2_with fail
            go_roundw
            case rel => exact ⟨k + 1, A2, c2, m, l, by omega, by go_num, rfl, Lib.hid (by rw [Hs2.out]; exact hl.out), hm, by omega, hown2, hge2, Lib.hid (fun j hj h => by
              rcases Nat.lt_or_ge j k with h2 | h2
              · exact hno.out j h2 h
              · obtain rfl : j = k := by omega
                exact ⟨hkz, hkn⟩), ht⟩
            case measure => simp [intOf]; omega
      · have hq : ((S x).toList == []) = false := by rw [S_list, beq_eq_false_iff_ne]; exact hx0
        have hq1 : ((S x).toList = []) = False := eq_false (by rw [S_list]; exact hx0)
        have hq2 : ((S x).toList != []) = true := by rw [bne, hq]; rfl
        have ta := (Touch.refl [] wr).alloc (.cells #[.string (S x)] 9)
        have hownV := hown2.out.touch0 ta
        have hrdV := RdK.one (enc := encT) wr 9 x #[.string (S x)] rfl
        have Hown := Lib.hid hownV; have Hrd := Lib.hid hrdV
        have Hs2 := Lib.hid (show ne (all.take (k + 1)) = ne (all.take k) ++ [x] by rw [Hstep.out, if_neg hx0])
        have Hx0 := Lib.hid hx0
        clear hownV hrdV hx0
        go_wp2_with (at_builtin; refine wpList_appK rfl (.tmp 27) (.tmp 32) 55 rfl 9 (.string ByteArray.empty) 1 16 info_strT Tryd.underlying55 rfl (by omega) encT_len encT_one A2 m c2 l hm.out.symm rfl Hown.out (some ⟨wr.heap.size, 0, none⟩) 1 1 [x] rfl rfl Hrd.out (by omega) (by omega) ?_; refine stop ?_)
        refine go ?_
        intro A3 c3 w3 hown3 ht3 hf3
        have tt : Touch [] W1 w3 := (ht.trans0 ta).trans ht3 (fun b hb => .inr (hge2.out b hb))
        have hsz := ht.size
        go_wp2_with fail
        go_roundw
        case rel => exact ⟨k + 1, A3, c3, m + 1, l ++ [x], by omega, by go_num, rfl, Lib.hid (by rw [Hs2.out, ← hl.out]), Lib.hid (by rw [List.length_append, ← hm.out]; rfl), by omega, Lib.hid hown3, Lib.hid (fun b hb => by
          rcases hf3 b hb with e | e
          · exact hge2.out b e
          · (try rw [World.size_alloc] at e); omega), Lib.hid (fun j hj h => by
          rcases Nat.lt_or_ge j k with h2 | h2
          · exact hno.out j h2 h
          · obtain rfl : j = k := by omega
            rw [Hgk.out] at h
            injection h with h
            exact absurd h Hx0.out), tt⟩
        case measure => simp [intOf]; omega
    · obtain rfl : k = n := by omega
      have htk : all.take k = all := by rw [List.take_of_length_le]; rw [← Hn.out]; exact Nat.le_refl _
      rw [htk] at hl
      have hbad := Hbi.out (fun h => (hno.out 0 hnp h).1 rfl) (fun h => (hno.out (k - 1) (by omega) (by rw [Hlo.out, h])).2 rfl)
      rw [← hl.out, ← hm.out] at hbad
      have Hbad := Lib.hid hbad
      have hRB := Lib.hid hrb
      clear hbad htk hno
      by_cases h5 : m = 5
      · subst h5
        have HFR := Lib.hid (show FR w Z A2 c2 l 0 zeroC wr from ⟨by omega, zero_ok, by rw [List.drop_zero], fun j _ => ⟨rfl, rfl⟩, by rw [← HZ.out]; exact ht.blk HC1.out (by simp), ⟨hRB.out.r0, hRB.out.r2, hown2.out, fun b hb => by have h1 := hge2.out b hb; have h2 := HW0s.out; have h3 := HW1s.out; omega, hRB.out.t⟩⟩)
        have Hp5 : Hid (parseC s = if (fieldsV 0 l zeroC).1 = 0 then fieldsV 0 l zeroC else ((fieldsV 0 l zeroC).1, zeroC)) := Lib.hid (by rw [Hpar.out, Hbad.out, hl.out]; simp)
        have Hlm : Hid (∀ x ∈ l, x.length ≤ s.length) := Lib.hid (fun x hx => Hmem.out x (ne_mem (by rw [← hl.out]; exact hx)))
        have H5 := Lib.hid hm.out
        clear hRB Hbad hl hown2 hge2
        go_wp2_with fail
        go_loopw [9] (fun iv wf => ∃ (f : Nat) (cc : SD), iv = .int .i64 f ∧ FR w Z A2 c2 l f cc wf) (fun iv _ => 6 - (intOf iv).toNat)
        case atStart => exact ⟨0, zeroC, rfl, HFR.out⟩
        case round =>
          rename World => wf
          obtain ⟨f, cc, rfl, hF⟩ := hrel
          have HF := Lib.hid hF
          have hf5 := hF.hk
          by_cases hfl : f < 5
          · have hlp : f < l.length := by rw [← H5.out]; exact hfl
            obtain ⟨ad, bb, off, hAe, had, -, hcell⟩ := hF.rb.own.rd.at_ 1 encT_len (by omega) f hlp
            have hcell := hcell 0 (.string (S l[f])) rfl
            rw [Nat.mul_one] at had
            rw [Nat.add_zero] at hcell
            have hptl := Hlm.out _ (List.getElem_mem hlp)
            have hdrop : l.drop f = l[f] :: l.drop (f + 1) := List.drop_eq_getElem_cons hlp
            obtain ⟨pt, hpt⟩ : ∃ pt, pt = l[f] := ⟨_, rfl⟩
            rw [← hpt] at hcell hptl hdrop
            have Hdrop := Lib.hid hdrop
            subst hAe
            obtain ⟨hz1, hz2⟩ := hF.z f (Nat.le_refl _)
            have Hz := Lib.hid (And.intro hz1 hz2)
            have Hcb := Lib.hid hF.cb
            have f0 : (0 : Int) ≤ (f : Int) := by omega
            have f5 : (f : Int) < 5 := by omega
            have hCb : ∀ b ∈ fpo (some ad), b ∉ [w.heap.size + 1] := fun b hb hm' => by
              have e : b = w.heap.size + 1 := by simpa using hm'
              have := HF.out.rb.ge b hb; omega
            have HCb := Lib.hid hCb
            clear hpt hdrop hz1 hz2 hF hCb
            by_cases hst : pt = [42]
            · subst hst
              have hq : (S [42]).toList = [42] := S_list _
              have hb0 : (refC cc) = refC (cc.put f 0 false) := by
                have := put_same cc f
                rw [Hz.out.1, Hz.out.2] at this
                rw [this]
              have hbA := Hcb.out
              rw [hb0] at hbA
              have cA0 : ((refC (cc.put f 0 false)).toArray)[f * 65 + 64]? = some (.bool ((cc.put f 0 false).any f)) := by
                rw [List.getElem?_toArray, refC_get _ _ (by omega), refAt_any]
              have cAny := cell_blk hbA cA0
              have zAny := frozen_blk hbA (f * 65 + 64)
              have hbB := set_blk hbA (f * 65 + 64) (.bool true)
              rw [show ((refC (cc.put f 0 false)).toArray.setIfInBounds (f * 65 + 64) (.bool true)) = (refC (cc.put f 0 true)).toArray by rw [refC_any cc f hfl 0 true false]; simp] at hbB
              have tAny : Touch [w.heap.size + 1] wf (wf.setCell ⟨w.heap.size + 1, f * 65 + 64, none⟩ (.bool true)) := (Touch.refl _ _).setCell (.inl (by simp)) _
              have HbB := Lib.hid (And.intro hbB tAny)
              have hll := loF_lt f
              have hhh := hiF_lt f
              have HL := Lib.hid (low_any f hfl)
              have HH := Lib.hid (high_any f hfl)
              obtain ⟨lo, hlo'⟩ : ∃ lo, lo = loF f := ⟨_, rfl⟩
              obtain ⟨hi, hhi'⟩ : ∃ hi, hi = hiF f := ⟨_, rfl⟩
              have hfv : fullV f = rowV lo hi 1 := by rw [hlo', hhi']; rfl
              rw [← hlo'] at HL hll
              rw [← hhi'] at HH hhh
              have hle : lo ≤ hi := by have := hiF_ge f; rw [hlo', hhi']; rw [hlo'] at hll; omega
              have Hfv := Lib.hid hfv
              clear hlo' hhi' hfv hbB tAny hb0 hbA cA0
              go_wp2_with fail
              refine (HL.out _).mono ?_
              rintro e w' ⟨rfl, rfl⟩
              go_wp2_with fail
              go_loopw [10] (fun nv wq => ∃ j : Nat, lo ≤ j ∧ j ≤ hi + 1 ∧ nv = .int .i64 j ∧ Hid (wq.heap[w.heap.size + 1]? = some (.cells (refC (cc.put f (setP (rowP lo hi 1) j) true)).toArray 34 (0, 0))) ∧ Touch [w.heap.size + 1] wf wq) (fun nv _ => 200 - (intOf nv).toNat)
              case atStart => exact ⟨lo, Nat.le_refl _, by omega, rfl, Lib.hid (by rw [row_start]; exact HbB.out.1), HbB.out.2⟩
              case round =>
                rename World => wq
                obtain ⟨j, hj1, hj2, rfl, hrow, htq⟩ := hrel
                by_cases hjl : j < hi + 1
                · have hset : setP (rowP lo hi 1) (j + 1) = setP (rowP lo hi 1) j ||| 2 ^ j := by
                    show (if rowP lo hi 1 j = true then _ else _) = _
                    rw [if_pos (by unfold rowP; rw [decide_eq_true hj1, decide_eq_true (show j ≤ hi by omega), decide_eq_true (Nat.mod_one _)]; rfl)]
                  have hg := refC_get (cc.put f (setP (rowP lo hi 1) j) true) (f * 65 + j) (by omega)
                  rw [← List.getElem?_toArray] at hg
                  have Hg := Lib.hid hg; have Hset := Lib.hid hset
                  clear hg hset
                  go_wp2_with fail
                  refine (HH.out _).mono ?_
                  rintro e w6 ⟨rfl, t6⟩
                  have hrow6 := t6.blk hrow.out (by simp)
                  have hcell6 := cell_blk hrow6 Hg.out
                  have hfr6 := frozen_blk hrow6 (f * 65 + j)
                  have hnew := set_blk hrow6 (f * 65 + j) (.bool true)
                  rw [show ((refC (cc.put f (setP (rowP lo hi 1) j) true)).toArray.setIfInBounds (f * 65 + j) (.bool true)) = (refC (cc.put f (setP (rowP lo hi 1) j ||| 2 ^ j) true)).toArray by rw [refC_or cc f hfl true _ j (by omega)]; simp] at hnew
                  have Hnew := Lib.hid hnew
                  have j0 : (0 : Int) ≤ (j : Int) := by omega
                  have j64 : (j : Int) < 64 := by omega
                  clear hnew hrow6
                  go_wp2_with fail
                  go_roundw
                  case rel => exact ⟨j + 1, by omega, by omega, by go_num, Lib.hid (by rw [Hset.out]; exact Hnew.out), (htq.trans0 t6).setCell (p := ⟨w.heap.size + 1, f * 65 + j, none⟩) (.inl (by simp)) _⟩
                  case measure => simp [intOf]; omega
                · obtain rfl : j = hi + 1 := by omega
                  have hend := row_end lo hi 1 (hi + 1) (by omega) (by omega)
                  have hr2 := hrow.out
                  rw [hend, ← Hfv.out] at hr2
                  have Hr2 := Lib.hid hr2
                  clear hr2 hend hrow
                  go_wp2_with fail
                  refine (HH.out _).mono ?_
                  rintro e w6 ⟨rfl, t6⟩
                  have hnext : FR w Z (some ad) c2 l (f + 1) (cc.put f (fullV f) true) w6 := ⟨by omega, put_ok HF.out.ok _ _ _ (fullV_lt f), fields_go (z := zeroC) HF.out.eq Hdrop.out (fieldV_star f cc), fun j hj => by
                    have := HF.out.z j (by omega)
                    rw [put_set_ne _ _ _ _ _ (by omega), put_any_ne _ _ _ _ _ (by omega)]; exact this, t6.blk Hr2.out (by simp), HF.out.rb.touch (htq.trans0 t6) (fun b hb => .inr (by simpa using hb)) HCb.out⟩
                  have Hnext := Lib.hid hnext
                  clear hnext
                  go_wp2_with fail
                  refine ⟨⟨f + 1, _, by first | rfl | go_num, Hnext.out⟩, ?_⟩
                  simp [intOf]; omega
            · have hq : ((S pt).toList == [42]) = false := by rw [S_list, beq_eq_false_iff_ne]; exact hst
              have hq2 : ((S pt).toList = [42]) = False := eq_false (by rw [S_list]; exact hst)
              have Hst := Lib.hid hst
              clear hst
              go_wp2_with fail
              refine (HSp.out pt (by omega) 44 _).mono ?_
              rintro e W4 ⟨A4, c4, rfl, hown4, hge4, t4⟩
              obtain ⟨l4, hl4⟩ : ∃ l4, l4 = splitV pt [44] := ⟨_, rfl⟩
              have hal4 := splitF_length [44] pt.length pt
              have hm4 : ∀ x ∈ l4, x.length ≤ 100000 := fun x hx => by rw [hl4] at hx; have := hal4.2 x hx; omega
              have hn4l : l4.length ≤ 100001 := by rw [hl4]; have := hal4.1; unfold splitV; omega
              rw [← hl4] at hown4 ⊢
              obtain ⟨n4, hn4⟩ : ∃ n4, n4 = l4.length := ⟨_, rfl⟩
              rw [← hn4] at hn4l ⊢
              have Hn4 := Lib.hid hn4; have Hown4 := Lib.hid hown4; have Hm4 := Lib.hid hm4; have Hge4 := Lib.hid hge4
              have hsp4 := fieldV_items f pt cc Hst.out l4 hl4
              have hfl4 : ∀ c', fieldV f pt cc = (0, c') → fieldsV 0 l zeroC = fieldsV (f + 1) (l.drop (f + 1)) c' := fun c' e => fields_go (z := zeroC) HF.out.eq Hdrop.out e
              have hfe : ∀ v c', fieldV f pt cc = (v, c') → v ≠ 0 → parseC s = (v, zeroC) := fun v c' e hv => by
                have h1 := fields_err HF.out.eq Hdrop.out e hv
                rw [Hp5.out, h1, if_neg hv]
              have Hsp4 := Lib.hid hsp4; have Hfl4 := Lib.hid hfl4; have Hfe := Lib.hid hfe
              clear hl4 hn4 hown4 hm4 hal4 hsp4 hfl4 hfe hge4
              have hb0 : (refC cc) = refC (cc.put f (cc.set f) (cc.any f)) := by rw [put_same]
              have hC4 := t4.blk Hcb.out (by simp)
              rw [hb0] at hC4
              have HC4 := Lib.hid hC4
              clear hC4 hb0
              go_wp2_with fail
              go_loopw [12] (fun jv wq => ∃ j : Nat, j ≤ n4 ∧ jv = .int .i64 j ∧ Hid ((itemsV f (l4.take j) (cc.set f)).1 = 0) ∧ Hid (wq.heap[w.heap.size + 1]? = some (.cells (refC (cc.put f (itemsV f (l4.take j) (cc.set f)).2 (cc.any f))).toArray 34 (0, 0))) ∧ Touch [w.heap.size + 1] W4 wq) (fun jv _ => 200000 - (intOf jv).toNat)
              case atStart => exact ⟨0, by omega, rfl, Lib.hid rfl, HC4.out, Touch.refl _ _⟩
              case round =>
                rename World => wq
                obtain ⟨j, hj, rfl, he0, hcbq, htq⟩ := hrel
                have hwf := HF.out.rb.t.size
                have hN1 : w.heap.size + 1 < wf.heap.size := (Array.getElem?_eq_some_iff.1 Hcb.out).1
                by_cases hjl : j < n4
                · have hj4 : j < l4.length := by rw [← Hn4.out]; exact hjl
                  have hown4 := Hown4.out.touch htq (fun b hb hm' => by
                    have e : b = w.heap.size + 1 := by simpa using hm'
                    have := Hge4.out b hb; omega)
                  obtain ⟨ad4, bb4, off4, hAe4, had4, -, hcell4⟩ := hown4.rd.at_ 1 encT_len (by omega) j hj4
                  have hcell4 := hcell4 0 (.string (S l4[j])) rfl
                  rw [Nat.mul_one] at had4
                  rw [Nat.add_zero] at hcell4
                  have hxl := Hm4.out _ (List.getElem_mem hj4)
                  have htk := List.take_succ_eq_append_getElem hj4
                  obtain ⟨x, hx⟩ : ∃ x, x = l4[j] := ⟨_, rfl⟩
                  rw [← hx] at hcell4 hxl htk
                  have hsn := itemsV_snoc f x (l4.take j) (cc.set f) he0.out
                  rw [← htk] at hsn
                  have hsplit : l4 = l4.take (j + 1) ++ l4.drop (j + 1) := (List.take_append_drop _ _).symm
                  obtain ⟨s4, hs4⟩ : ∃ s4, s4 = (itemsV f (l4.take j) (cc.set f)).2 := ⟨_, rfl⟩
                  rw [← hs4] at hsn
                  have hcb4 := hcbq.out
                  rw [← hs4] at hcb4
                  have hitem : ∀ wi, wi.heap[w.heap.size + 1]? = some (.cells (refC (cc.put f s4 (cc.any f))).toArray 34 (0, 0)) → Calls Tryd.prog 29 #[.int .i64 f, .string (S x), .pointer (some ⟨w.heap.size + 1, f * 65, none⟩)] wi fun e w' => e = .returned (.int .i64 (itemV f x).2) ∧ w'.heap[w.heap.size + 1]? = some (.cells (refC (cc.put f (s4 ||| (itemV f x).1) (cc.any f))).toArray 34 (0, 0)) ∧ Touch [w.heap.size + 1] wi w' := fun wi hwi =>
                    (ritem_any f hfl x hxl (w.heap.size + 1) (cc.put f s4 (cc.any f)) wi hwi).mono (by
                      rintro e w' ⟨rfl, h1, h2⟩
                      rw [ritem_eq, rowU_items] at h1
                      exact ⟨by rw [ritem_eq], h1, h2⟩)
                  obtain ⟨⟨iv, ie⟩, hie⟩ : ∃ q, q = itemV f x := ⟨_, rfl⟩
                  rw [← hie] at hsn hitem
                  simp only at hsn hitem
                  have Hitem := Lib.hid hitem; have Hsn := Lib.hid hsn; have Hspl := Lib.hid hsplit
                  have HcbQ := Lib.hid (show wq.drew.heap[w.heap.size + 1]? = some (.cells (refC (cc.put f s4 (cc.any f))).toArray 34 (0, 0)) from hcb4)
                  have hcell4' : wq.drew.cell? ⟨bb4, off4, none⟩ = some (.string (S x)) := hcell4
                  have j0 : (0 : Int) ≤ (j : Int) := by omega
                  have j1 : (j : Int) < n4 := by omega
                  subst hAe4
                  clear hitem hsn hsplit hie hs4 hcb4 hcbq hx htk hown4 hxl
                  go_wp2_with fail
                  refine (wpIn_wide (n := 1)).1 (wpIn_mono (Q := Q1 _) (wpIn_wide.2 ?_) (fun e a w h => by obtain ⟨rfl, h⟩ := h; exact h))
                  refine wp_region_held_drew (S := fun _ => True) (by kernel_rfl) trivial (fun _ => ?_)
                  refine take_d (i := 0) (d := 84) (v := ?_) rfl rfl (by kernel_rfl) (by kernel_rfl) (by kernel_rfl) (fun _ _ _ h => q1_panic _ _ _ _ _ h) (Or.inl ⟨by rfl, ?_⟩) trivial ?_
                  rotate_left
                  · intro w hSw; (try dsimp only at hSw); go_simp; (try with_reducible rfl)
                  try simp only [Act.put, List.setIfInBounds_toArray, List.set_cons_zero, List.set_cons_succ]
                  refine take_d (i := 1) (d := 85) (v := ?_) rfl rfl (by kernel_rfl) (by kernel_rfl) (by kernel_rfl) (fun _ _ _ h => q1_panic _ _ _ _ _ h) (Or.inl ⟨by rfl, ?_⟩) trivial ?_
                  rotate_left
                  · intro w hSw; (try dsimp only at hSw); go_simp; (try with_reducible rfl)
                  try simp only [Act.put, List.setIfInBounds_toArray, List.set_cons_zero, List.set_cons_succ]
                  refine take_d (i := 2) (d := 86) (v := ?_) rfl rfl (by kernel_rfl) (by kernel_rfl) (by kernel_rfl) (fun _ _ _ h => q1_panic _ _ _ _ _ h) (Or.inl ⟨by rfl, ?_⟩) trivial ?_
                  rotate_left
                  · intro w hSw; (try dsimp only at hSw); go_simp; (try with_reducible rfl)
                  try simp only [Act.put, List.setIfInBounds_toArray, List.set_cons_zero, List.set_cons_succ]
                  refine take_d (i := 3) (d := 87) (v := ?_) rfl rfl (by kernel_rfl) (by kernel_rfl) (by kernel_rfl) (fun _ _ _ h => q1_panic _ _ _ _ _ h) (Or.inl ⟨by rfl, ?_⟩) trivial ?_
                  rotate_left
                  · intro w hSw; (try dsimp only at hSw); go_simp; (try with_reducible rfl)
                  try simp only [Act.put, List.setIfInBounds_toArray, List.set_cons_zero, List.set_cons_succ]
                  refine take_d (i := 5) (d := 89) (v := ?_) rfl rfl (by kernel_rfl) (by kernel_rfl) (by kernel_rfl) (fun _ _ _ h => q1_panic _ _ _ _ _ h) (Or.inl ⟨by rfl, ?_⟩) trivial ?_
                  rotate_left
                  · intro w hSw; (try dsimp only at hSw); go_simp; (try with_reducible rfl)
                  try simp only [Act.put, List.setIfInBounds_toArray, List.set_cons_zero, List.set_cons_succ]
                  refine take_d (i := 6) (d := 90) (v := ?_) rfl rfl (by kernel_rfl) (by kernel_rfl) (by kernel_rfl) (fun _ _ _ h => q1_panic _ _ _ _ _ h) (Or.inl ⟨by rfl, ?_⟩) trivial ?_
                  rotate_left
                  · intro w hSw; (try dsimp only at hSw); go_simp; (try with_reducible rfl)
                  try simp only [Act.put, List.setIfInBounds_toArray, List.set_cons_zero, List.set_cons_succ]
                  refine wpAnyH_ready (rs := [4]) (by kernel_rfl) (by simp) ?_
                  refine AllReadyH.cons rfl (fun K hK => ?_) AllReadyH.nil
                  go_simp
                  (try go_wp2_with fail)
                  refine hK.out _ _ trivial (fun _ => ?_)
                  clear hK K
                  try simp only [Act.put, List.setIfInBounds_toArray, List.set_cons_zero, List.set_cons_succ]
                  refine wpAnyH_ready (rs := [7]) (by kernel_rfl) (by simp) ?_
                  refine AllReadyH.cons rfl (fun K hK => ?_) AllReadyH.nil
                  go_simp
                  go_at_call 29
                  refine (Hitem.out _ HcbQ.out).mono ?_
                  rintro e w5 ⟨rfl, hrow5, t5⟩
                  have Hrow5 := Lib.hid hrow5
                  clear hrow5
                  (try go_wp2_with fail)
                  refine hK.out _ _ trivial (fun _ => ?_)
                  clear hK K
                  try simp only [Act.put, List.setIfInBounds_toArray, List.set_cons_zero, List.set_cons_succ]
                  refine wpAnyH_ready (rs := [8]) (by kernel_rfl) (by simp) ?_
                  refine AllReadyH.cons rfl (fun K hK => ?_) AllReadyH.nil
                  go_simp
                  (try go_wp2_with fail)
                  refine hK.out _ _ trivial (fun _ => ?_)
                  clear hK K
                  try simp only [Act.put, List.setIfInBounds_toArray, List.set_cons_zero, List.set_cons_succ]
                  refine wpAnyH_done (by kernel_rfl) ?_ _
                  refine ⟨rfl, ?_⟩
                  have TQ : Touch [w.heap.size + 1] W4 w5 := htq.trans ((Touch.refl [w.heap.size + 1] wq).drew.trans t5 (fun b hb => .inl hb)) (fun b hb => .inl hb)
                  by_cases hie0 : ie = 0
                  · subst hie0
                    have hs5 : itemsV f (l4.take (j + 1)) (cc.set f) = (0, s4 ||| iv) := by rw [Hsn.out]; simp
                    have Hs5 := Lib.hid hs5
                    clear hs5
                    go_wp2_with fail
                    go_roundw
                    case rel => exact ⟨j + 1, by omega, by go_num, Lib.hid (by rw [Hs5.out]), Lib.hid (by rw [Hs5.out]; exact Hrow5.out), TQ⟩
                    case measure => simp [intOf]; omega
                  · have hie1 : (ie != 0) = true := by rw [bne_iff_ne]; exact hie0
                    have hs5 : itemsV f (l4.take (j + 1)) (cc.set f) = (ie, s4) := by rw [Hsn.out, if_neg hie0]
                    have hall5 := itemsV_err f (l4.drop (j + 1)) (l4.take (j + 1)) (cc.set f) (by rw [hs5]; exact hie0)
                    rw [← Hspl.out, hs5] at hall5
                    have hf6 := Hsp4.out
                    rw [hall5] at hf6
                    have Hpe := Lib.hid (Hfe.out _ _ hf6 hie0)
                    have hRB5 := HF.out.rb.touch (((Touch.refl [w.heap.size + 1] wf).trans0 t4).trans TQ (fun b hb => .inl hb)) (fun b hb => .inr (by simpa using hb)) HCb.out
                    have HRB5 := Lib.hid hRB5
                    clear hs5 hall5 hf6 hRB5
                    have hnone := HRB5.out.r2
                    have hst := HStore.out _ HRB5.out.r0
                    go_wp2_with (refine wpList_load_row rfl 34 (.tmp 5) rfl (w.heap.size + 1 + 1) rfl _ _ _ _ hnone Tryd.underlying34 rfl Hin.out ?_)
                    refine bodyPost_ret (results_fld rfl _ _ w.heap.size Z ie _ rfl rfl Hin.out HRB5.out.r0) rfl ?_
                    exact ⟨by rw [HZ.out, Hpe.out], HRB5.out.t⟩
                · obtain rfl : j = n4 := by omega
                  have htk : l4.take j = l4 := by rw [List.take_of_length_le]; rw [← Hn4.out]; exact Nat.le_refl _
                  rw [htk] at he0 hcbq
                  have hf6 := Hsp4.out
                  rw [he0.out] at hf6
                  have hnext : FR w Z (some ad) c2 l (f + 1) (cc.put f (itemsV f l4 (cc.set f)).2 (cc.any f)) wq := ⟨by omega, put_ok HF.out.ok _ _ _ (itemsV_lt f _ _ (HF.out.ok f hfl)), Hfl4.out _ hf6, fun q hq => by
                    have := HF.out.z q (by omega)
                    rw [put_set_ne _ _ _ _ _ (by omega), put_any_ne _ _ _ _ _ (by omega)]; exact this, hcbq.out, HF.out.rb.touch (((Touch.refl [w.heap.size + 1] wf).trans0 t4).trans htq (fun b hb => .inl hb)) (fun b hb => .inr (by simpa using hb)) HCb.out⟩
                  have Hnext := Lib.hid hnext
                  clear hnext hf6 htk he0 hcbq
                  go_wp2_with fail
                  refine ⟨⟨f + 1, _, by first | rfl | go_num, Hnext.out⟩, ?_⟩
                  simp [intOf]; omega
          · obtain rfl : f = 5 := by omega
            have hz : fieldsV 0 l zeroC = (0, cc) := by rw [hF.eq, List.drop_eq_nil_of_le (by rw [← H5.out]; omega)]; rfl
            have hpc : parseC s = (0, cc) := by rw [Hp5.out, hz]; rfl
            have hrow := hF.cb
            have r0 := hF.rb.r0
            obtain ⟨X, hX⟩ : ∃ X, X = (refC cc).toArray := ⟨_, rfl⟩
            have hinX : (Tryd.prog.info? 34).map (·.size) = some X.size := by rw [hX]; exact info34 cc
            have hX325 : X.size = 325 := by rw [hX, List.size_toArray, refC_length]
            have hst : (storeCells ⟨w.heap.size, 0, none⟩ X.toList).run Tryd.prog wf = .ok () (wf.setRow w.heap.size X) := by
              have h1 := run_store_row (P := Tryd.prog) (vs := X.toList) r0 (by rw [Array.length_toList, hX325, h325]) (by intro v hv; rw [hX] at hv; exact refC_one cc v (by simpa using hv))
              rw [h1]
            have hnew := setRow_heap wf w.heap.size Z X 34 (0, 0) r0
            rw [← hX] at hrow
            have hT : Touch [] w (wf.setRow w.heap.size X) := hF.rb.t.trans (Touch.setRow w.heap.size wf X) (fun b hb => .inr (by simp at hb; omega))
            have Hnew := Lib.hid hnew; have HT := Lib.hid hT; have HinX := Lib.hid hinX
            have Hpc := Lib.hid (show (refC (parseC s).2).toArray = X ∧ (parseC s).1 = 0 by rw [hpc, hX]; exact ⟨rfl, rfl⟩)
            clear hnew hT hinX hz hpc hX hF
            go_wp2_with (refine wpList_load_row rfl 34 (.tmp 4) rfl (w.heap.size + 1) rfl _ _ _ _ hrow Tryd.underlying34 rfl HinX.out ?_)
            refine bodyPost_ret (results_fld rfl _ _ w.heap.size X 0 _ rfl rfl HinX.out Hnew.out) rfl ?_
            exact ⟨by rw [Hpc.out.1, Hpc.out.2], HT.out⟩
      · have hm5 : ((m : Int) != 5) = true := by rw [bne_iff_ne]; omega
        have hm51 : ((m : Int) = 5) = False := eq_false (by omega)
        have Hb := Lib.hid (Hst20.out (by rw [Hbad.out, decide_eq_false h5]; rfl))
        have hnone := hRB.out.r2
        have hst := HStore.out _ hRB.out.r0
        go_wp2_with (refine wpList_load_row rfl 34 (.tmp 5) rfl (w.heap.size + 1 + 1) rfl _ _ _ _ hnone Tryd.underlying34 rfl Hin.out ?_)
        refine bodyPost_ret (results_fld rfl _ _ w.heap.size Z 20 _ rfl rfl Hin.out hRB.out.r0) rfl ?_
        exact ⟨by rw [HZ.out, Hb.out], hRB.out.t⟩
end Go.Proofs.YtoabloeechphkaaDoor
