/- bywashref07.Scan: the walk. For every slice of bytes. -/
import Derived.Test.YtgpadejkmpfafaaDoorScanF
import Derived.IntWalk
namespace Go.Proofs.YtgpadejkmpfafaaDoor
open Go.RowKit

theorem rdI_canon {m r : List UInt8} {v : Int} (h : rdI m = some (v, r)) : m = encI v ++ r := by
  rcases m with _ | ⟨x, t⟩
  · cases h
  · obtain ⟨s, hs⟩ : ∃ s, s = x.toNat % 16 := ⟨_, rfl⟩
    have hx := x.toNat_lt
    by_cases hno : 31 < x.toNat ∨ 8 < s ∨ t.length < s ∨ 9223372036854775808 ≤ leV (t.take s) ∨ (t.take s).getLast? = some 0
    · rw [rdI_none x t s hs hno] at h; cases h
    · have h0 : (t.take s).getLast? ≠ some 0 := fun e => hno (.inr (.inr (.inr (.inr e))))
      have hl : (t.take s).length = s := by rw [List.length_take]; omega
      rw [rdI_cons x t s hs (by omega) (by omega) (by omega) (by omega) h0] at h
      have hb := (encI_back x (t.take s) (by omega) (by omega) (by omega)).2 h0
      obtain ⟨e1, e2⟩ : (if 16 ≤ x.toNat then -1 - (leV (t.take s) : Int) else (leV (t.take s) : Int)) = v ∧ t.drop s = r := by simpa using h
      rw [← e1, ← e2, hb, List.cons_append, List.take_append_drop]

theorem rdT_of {m r : List UInt8} {v : Nat} (h : rdI m = some ((v : Int), r)) (hv : v ≤ r.length) : rdT m = some (r.take v, r.drop v) := by
  unfold rdT
  rw [h]
  dsimp only
  rw [if_neg (by omega)]
  rfl
theorem frm_split {m r : List UInt8} {v : Nat} (h : rdI m = some ((v : Int), r)) (hv : v ≤ r.length) : m = encT (S (r.take v)) ++ r.drop v ∧ frm (r.take v) = encT (S (r.take v)) ++ digs (sumOf (r.take v)) 4 := by
  refine ⟨?_, rfl⟩
  have hl : (S (r.take v)).size = v := by rw [S_size, List.length_take]; omega
  unfold encT
  rw [hl, S_toList, List.append_assoc, List.take_append_drop]
  exact rdI_canon h
theorem scan1_long {m r : List UInt8} {v : Nat} (h : rdI m = some ((v : Int), r)) (hv : v ≤ r.length) (hl : m.length < (frm (r.take v)).length) : scan1 m = none := by
  obtain ⟨e1, e2⟩ := frm_split h hv
  have : (r.drop v).length < 4 := by
    rw [e2, List.length_append, digs_length] at hl
    have := congrArg List.length e1
    rw [List.length_append] at this
    omega
  unfold scan1
  rw [rdT_of h hv]
  dsimp only
  rw [if_pos this]
theorem scan1_fit {m r : List UInt8} {v : Nat} (h : rdI m = some ((v : Int), r)) (hv : v ≤ r.length) (hl : (frm (r.take v)).length ≤ m.length) :
    scan1 m = if m.take (frm (r.take v)).length = frm (r.take v) then some (r.take v, m.drop (frm (r.take v)).length) else none := by
  obtain ⟨e1, e2⟩ := frm_split h hv
  have h4 : ¬ (r.drop v).length < 4 := by
    rw [e2, List.length_append, digs_length] at hl
    have := congrArg List.length e1
    rw [List.length_append] at this
    omega
  have e3 : m.take (frm (r.take v)).length = encT (S (r.take v)) ++ (r.drop v).take 4 := by
    conv => lhs; rw [e1]
    rw [e2, List.length_append, digs_length, List.take_length_add_append]
  have e4 : m.drop (frm (r.take v)).length = (r.drop v).drop 4 := by
    conv => lhs; rw [e1]
    rw [e2, List.length_append, digs_length, List.drop_length_add_append]
  unfold scan1
  rw [rdT_of h hv]
  dsimp only
  rw [if_neg h4, e4]
  by_cases hd : (r.drop v).take 4 = digs (sumOf (r.take v)) 4
  · rw [if_pos hd, if_pos (by rw [e3, e2, hd])]
  · rw [if_neg hd, if_neg (by rw [e3, e2]; exact fun e => hd (List.append_cancel_left e))]

/-- what holds at each round's head -/
structure RScanAt (w : World) (b : List UInt8) (A2 : Option Addr) (n c2 : Nat) (a : Nat) (wr : World) : Prop where
  ex : ∃ ls vs, OwnBs wr A2 c2 ls vs ∧ ls.length = n ∧ Steps b ls (b.drop a)
  na : n ≤ a
  le : a ≤ b.length
  f2 : ∀ x ∈ fpo A2, w.heap.size ≤ x
  t : Touch [] w wr

set_option maxRecDepth 100000 in
set_option maxHeartbeats 3200000 in
theorem refScan_any (A : Option Addr) (c n : Nat) (b : List UInt8) (hn : b.length = n) (hm : n ≤ 900000000) (hc : n ≤ c) (w : World) (hr : RdB w A b) :
    Calls Tryd.prog 27 #[.slice A n c] w fun e w' => ScanPost b w e w' := by
  subst hn
  go_enter Tryd.func27, Tryd.ntmps27
  go_wp2_with fail
  go_loopw [4, 5] (fun v a wr => ∃ (A2 : Option Addr) (n c2 a' : Nat), v = .slice A2 n c2 ∧ a = .int .i64 a' ∧ RScanAt w b A2 n c2 a' wr) (fun _ a _ => b.length - (intOf a).toNat)
  case atStart => exact ⟨none, 0, 0, 0, rfl, rfl, ⟨⟨[], [], OwnBs.nil _, rfl, by simp [Steps]⟩, by omega, by omega, by simp [fpo], Touch.refl _ _⟩⟩
  case round =>
    obtain ⟨A2, n, c2, a, rfl, rfl, ⟨ls, vs, hown, hln, hst⟩, hna, hle, hf2, ht⟩ := hrel
    have hstop : ∀ w', Touch [] wr w' → scan1 (b.drop a) = none → ScanPost b w (.returned (.tuple #[.slice A2 n c2, .int .i64 (a : Int)])) w' := by
      intro w' hT hnone
      have e : b.length - (b.drop a).length = a := by rw [List.length_drop]; omega
      exact ⟨A2, c2, ls, vs, b.drop a, by rw [hln, e], hown.touch0 hT, hst, hnone, ht.trans0 hT, hf2⟩
    have Hstop := Lib.hid hstop; clear hstop
    have Hln := Lib.hid hln; clear hln
    have hrb : RdB wr A b := Rd.touch0 hr ht
    have hRead := refRead_any A c b a (by omega) hc (by omega) wr hrb
    rcases hI : rdI (b.drop a) with _ | ⟨v, r⟩
    · have hT : scan1 (b.drop a) = none := by unfold scan1 rdT; rw [hI]
      have hval := refRd_none hI
      have Hval := Lib.hid hval
      have HT := Lib.hid hT
      clear hval hT hI
      go_wp2_with fail
      refine hRead.mono ?_
      clear hRead
      rintro e w2 ⟨rfl, ht2⟩
      rw [Hval.out]
      have Hs := Lib.hid (Hstop.out w2 ht2 HT.out)
      go_wp2
      go_ret2
      exact Hs.out
    · obtain ⟨E, hE, hrE, hval, hEr⟩ := rdI_at hI
      have hvb := rdI_bounds hI
      have Hval := Lib.hid hval
      clear hval
      by_cases hv : v < 0 ∨ (r.length : Int) < v
      · have hT : scan1 (b.drop a) = none := by unfold scan1 rdT; rw [hI]; simp [hv]
        have HT := Lib.hid hT
        clear hT hI hrE
        rcases (show v < 0 ∨ (0 ≤ v ∧ (r.length : Int) < v) by omega) with hv0 | ⟨hv0, hv1⟩
        · clear hv
          go_wp2_with fail
          refine hRead.mono ?_
          clear hRead
          rintro e w2 ⟨rfl, ht2⟩
          rw [Hval.out]
          have Hs := Lib.hid (Hstop.out w2 ht2 HT.out)
          go_wp2
          go_ret2
          exact Hs.out
        · clear hv
          have hvE : (b.length : Int) - E < v := by omega
          go_wp2_with fail
          refine hRead.mono ?_
          clear hRead
          rintro e w2 ⟨rfl, ht2⟩
          rw [Hval.out]
          have Hs := Lib.hid (Hstop.out w2 ht2 HT.out)
          go_wp2
          go_ret2
          exact Hs.out
      · obtain ⟨v, rfl⟩ : ∃ k : Nat, v = (k : Int) := ⟨v.toNat, by omega⟩
        have hvr : v ≤ r.length := by omega
        have hlong := scan1_long hI hvr
        have hfit := scan1_fit hI hvr
        have hrest := (rdI_rest hI).1
        obtain ⟨s, hs⟩ : ∃ s, s = r.take v := ⟨_, rfl⟩
        have hsl : s.length = v := by rw [hs, List.length_take]; omega
        rw [← hs] at hlong hfit
        have hvE : (v : Int) ≤ (b.length : Int) - E := by omega
        obtain ⟨AS, hAS⟩ : ∃ AS, AS = if c = E then A else A.map (fun x => x.add E) := ⟨_, rfl⟩
        have hrS : ∀ W, RdB W A b → RdB W AS s := by
          intro W hW
          rw [hAS, hs]
          split
          · rw [List.eq_nil_of_length_eq_zero (show (r.take v).length = 0 by rw [List.length_take]; omega)]; exact Rd.nil _ _
          · rw [hrE]; exact RdB.pre (RdB.drop hW E) v
        have hsl2 := fun W => run_cutB A b.length c E (E + v) ((E : Int) + v) (by omega) (by omega) (by omega) W
        rw [← hAS, show E + v - E = v by omega] at hsl2
        rw [List.length_drop] at hrest hlong hfit
        have hfl := frm_length s
        have hfl2 := encI_length s.length
        have HrS := Lib.hid hrS
        have Hlong := Lib.hid hlong
        have Hfit := Lib.hid hfit
        have Hsl := Lib.hid hsl
        clear hrS hAS hrE hs hI hv hlong hfit hEr
        have hflv : (frm s).length ≤ v + 13 ∧ v + 5 ≤ (frm s).length := by omega
        clear hfl hfl2 hsl
        go_wp2_with fail
        refine hRead.mono ?_
        clear hRead
        rintro e w2 ⟨rfl, ht2⟩
        rw [Hval.out]
        have hrb2 : RdB w2 A b := Rd.touch0 hrb ht2
        have hrs2 := HrS.out w2 hrb2
        have hbE : decide ((E : Int) < 0) = false := by simp
        have hbv : decide ((v : Int) < 0) = false := by simp
        have hbr : decide ((b.length : Int) - E < (v : Int)) = false := by simp; omega
        go_wp2_with fail
        refine (refFrame_any AS (c - E) v s Hsl.out (by omega) w2 hrs2).mono ?_
        rintro e w3 ⟨A3, c3, rfl, hown3, ht3, hf3⟩
        obtain ⟨F, hF⟩ : ∃ F, F = (frm s).length := ⟨_, rfl⟩
        rw [← hF] at hflv ⊢
        have HF := Lib.hid hF; clear hF
        have T3 := ht2.trans0 ht3
        by_cases hbig : b.length < a + F
        · have hbb : decide ((b.length : Int) < (a : Int) + F) = true := by simp; omega
          have hA : IntKind.i64.wrap ((a : Int) + (F : Int)) = (a : Int) + F := IntWalk.i64_in _ (by omega)
          go_wp2_with fail
          go_quiet (fail)
          have Hs := Lib.hid (fun n => Hstop.out (w3.drewN n) (T3.drewN n) (Hlong.out (by rw [← HF.out]; omega)))
          go_wp2
          go_ret2
          exact Hs.out _
        · have hbb : decide ((b.length : Int) < (a : Int) + F) = false := by simp; omega
          have hA : IntKind.i64.wrap ((a : Int) + (F : Int)) = (a : Int) + F := IntWalk.i64_in _ (by omega)
          have hfl3 : (frm s).length = F := HF.out.symm
          have hcvf := fun W (hW : Touch [] w3 W) => run_str_of (w := W) c3 hfl3 (hown3.touch0 hW).rd
          have hrm : ∀ W, Touch [] w3 W → RdB W (if c = a then A else A.map (fun x => x.add a)) ((b.drop a).take F) := by
            intro W hW
            have hrW : RdB W A b := Rd.touch0 hrb (T3.trans0 hW)
            split
            · have : (b.drop a).length = 0 := by rw [List.length_drop]; omega
              rw [List.eq_nil_of_length_eq_zero this, List.take_nil]; exact Rd.nil _ _
            · exact RdB.pre (RdB.drop hrW a) F
          obtain ⟨AM, hAM⟩ : ∃ AM, AM = if c = a then A else A.map (fun x => x.add a) := ⟨_, rfl⟩
          have hsl3 := fun W => run_cutB A b.length c a (a + F) ((a : Int) + F) (by omega) (by omega) (by omega) W
          rw [← hAM] at hrm
          rw [← hAM, show a + F - a = F by omega] at hsl3
          have hml : ((b.drop a).take F).length = F := by rw [List.length_take, List.length_drop]; omega
          have hcvm := fun W (hW : Touch [] w3 W) => run_str_of (w := W) (c - a) hml (hrm W hW)
          have hq := S_beq (frm s) ((b.drop a).take F)
          have hq2 := S_bne (frm s) ((b.drop a).take F)
          have hfit := Hfit.out (by rw [← HF.out]; omega)
          rw [← HF.out] at hfit
          have c1 := fun n => hcvf (w3.drewN n) ((Touch.refl _ _).drewN n)
          have c2 := fun n => hcvm (w3.drewN n) ((Touch.refl _ _).drewN n)
          clear hcvf hcvm hfl3 hrm hAM
          by_cases heq : (b.drop a).take F = frm s
          · rw [if_pos heq] at hfit
            rw [heq] at c2 hq hq2 hml
            rw [show decide (frm s = frm s) = true from decide_eq_true rfl] at hq hq2
            have Hfit2 := Lib.hid hfit
            clear hfit heq hml
            go_wp2_with fail
            go_quiet (fail)
            obtain ⟨W, hW⟩ : ∃ W, W = w3.drewN nq := ⟨_, rfl⟩
            rw [← hW]
            have TW : Touch [] wr W := by rw [hW]; exact T3.drewN nq
            clear hW c1 c2 hq hq2 hsl3
            have hrsW : RdB W AS s := HrS.out W (Rd.touch0 hrb TW)
            have hE2 : IntKind.i64.wrap ((E : Int) + (v : Int)) = (E : Int) + v := IntWalk.i64_in _ (by omega)
            have hownW := hown.touch0 TW
            go_wp2_with (at_builtin; refine stop ?_)
            refine go ?_
            refine wpList_appB rfl (.tmp 62) (.tmp 68) rfl none 0 0 [] rfl rfl (OwnB.nil _) AS v (c - E) s Hsl.out rfl hrsW (by omega) ?_
            intro A7 c7 w7 hown7 ht7 hf7
            rw [Nat.zero_add]
            rw [List.nil_append] at hown7
            have tx := (Touch.refl [] w7).alloc (.cells #[.slice A7 v c7] 22)
            have hcx : (w7.alloc (.cells #[.slice A7 v c7] 22)).cell? ⟨w7.heap.size, 0, none⟩ = some (.slice A7 v c7) := cell_of_one (heap_alloc_new w7 _)
            have T7 : Touch [] W w7 := ht7
            have hfx : ∀ x ∈ fpo A7, x ∉ fpo A2 ∧ x < (w7.alloc (.cells #[.slice A7 v c7] 22)).heap.size := by
              intro x hx
              have h1 := hown7.lt x hx
              refine ⟨fun hm => ?_, by simp; omega⟩
              have h2 := hownW.lt x hm
              rcases hf7 x hx with h3 | h3
              · simp [fpo] at h3
              · omega
            have hvc7 : v ≤ c7 := by have := hown7.le; rw [Hsl.out] at this; exact this
            have hown8 := (hownW.touch0 T7).touch0 tx
            go_wp2_with (at_builtin; refine stop ?_)
            refine go ?_
            refine wpList_appBs rfl (.tmp 61) (.tmp 70) rfl A2 n c2 ls vs Hln.out rfl hown8 w7.heap.size A7 v c7 s rfl hcx Hsl.out (hown7.touch0 tx).rd hvc7 hfx (by omega) ?_
            intro A9 c9 w9 hown9 ht9 hf9
            have T9 : Touch [] w w9 := ((((ht.trans0 TW).trans0 T7).trans0 tx).trans ht9 (fun x hx => .inr (hf2 x hx)))
            have hsw := ((ht.trans0 TW).trans0 T7).size
            have hst2 := hst.snoc Hfit2.out
            rw [List.drop_drop] at hst2
            have hA2 : IntKind.i64.wrap ((a : Int) + (F : Int)) = (a : Int) + F := IntWalk.i64_in _ (by omega)
            have hf9' : ∀ x ∈ fpo A9, w.heap.size ≤ x := fun x hx => by
              rcases hf9 x hx with h1 | h1
              · exact hf2 x h1
              · simp at h1; omega
            have Hst2 := Lib.hid hst2
            clear hst2 hst
            go_wp2_with fail
            go_roundw
            case rel => exact ⟨A9, n + 1, c9, a + F, rfl, by go_num, ⟨⟨ls ++ [s], _, hown9, by rw [List.length_append, Hln.out]; rfl, Hst2.out⟩, by omega, by omega, hf9', T9⟩⟩
            case measure => simp [intOf]; omega
          · rw [if_neg heq] at hfit
            have hne : decide (frm s = (b.drop a).take F) = false := decide_eq_false (fun e => heq e.symm)
            rw [hne] at hq hq2
            have Hfit2 := Lib.hid hfit
            clear hfit heq hne hml
            go_wp2_with fail
            go_quiet (fail)
            have Hs := Lib.hid (fun n => Hstop.out (w3.drewN n) (T3.drewN n) Hfit2.out)
            go_wp2
            go_ret2
            exact Hs.out _
end Go.Proofs.YtgpadejkmpfafaaDoor
