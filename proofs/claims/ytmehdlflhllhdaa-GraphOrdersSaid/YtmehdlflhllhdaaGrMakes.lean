/- bywashlaw16.GraphMakes: the walk of the law. For every input. -/
import Derived.Test.YtmehdlflhllhdaaGrF
import Derived.Deep.DeepCutAuto
namespace Go.Proofs.Ytmehdlflhllhdaa
open Go.RowKit

/-- what the law wants of a node's needs, and of who needs it -/
def wantP (ls : List (List Int)) (i : Int) (x : Nat) : Bool := decide (0 ≤ i ∧ i < ls.length) && hasL (ls.getD i.toNat []) (x : Int)
def backP (ls : List (List Int)) (i : Int) (x : Nat) : Bool := decide (x < ls.length) && hasL (ls.getD x []) i

theorem iN_rowU_pick {n : Nat} {l : List Int} (h : allN n l = true) : iN (rowU l) = iN (pick n fun x => hasL l (x : Int)) := by
  rw [iN_rowU h]
  have hp := uniq_props l
  have := asc_pick n (uniq l) hp.2 (fun x hx => by
    have h1 := (hp.1 x).1 hx
    exact nodeB_iff.1 (List.all_eq_true.1 h x h1))
  rw [this]
  unfold iN
  congr 1
  refine pick_congr fun a _ => ?_
  unfold hasL
  rw [decide_eq_decide]
  exact hp.1 _
theorem row_want {n : Nat} {ls : List (List Int)} (hl : ls.length ≤ n) (ha : ∀ l ∈ ls, allN n l = true) (i : Int) : rowOf (nsL n ls) i = iN (pick n (wantP ls i)) := by
  unfold rowOf
  rw [nsL_length]
  by_cases h : 0 ≤ i ∧ i < n
  · rw [if_pos h]
    change iN (nsOf (nsL n ls) i.toNat) = _
    rw [nsOf_nsL n ls hl, iN_rowU_pick (allN_getD ha _)]
    congr 1
    refine pick_congr fun x _ => ?_
    unfold wantP
    by_cases h2 : i < ls.length
    · rw [decide_eq_true (by omega), Bool.true_and]
    · rw [decide_eq_false (by omega), Bool.false_and, List.getD_eq_getElem?_getD, List.getElem?_eq_none (by omega)]
      rfl
  · rw [if_neg h]
    have : pick n (wantP ls i) = [] := by
      unfold pick
      rw [List.filter_eq_nil_iff]
      intro x _
      unfold wantP
      rw [decide_eq_false (by omega), Bool.false_and]
      simp
    rw [this]; rfl
theorem row_back {n : Nat} {ls : List (List Int)} (hl : ls.length ≤ n) (ha : ∀ l ∈ ls, allN n l = true) (i : Int) : rowOf (told (nsL n ls)) i = iN (pick n (backP ls i)) := by
  unfold rowOf
  rw [show (told (nsL n ls)).length = n by simp [told, nsL_length]]
  by_cases h : 0 ≤ i ∧ i < n
  · rw [if_pos h]
    change iN (nsOf (told (nsL n ls)) i.toNat) = _
    rw [nsOf_told _ _ (by rw [nsL_length]; omega)]
    unfold ndOf
    rw [nsL_length]
    congr 1
    refine pick_congr fun x _ => ?_
    rw [nsOf_nsL n ls hl]
    unfold backP hasL
    by_cases h2 : x < ls.length
    · rw [decide_eq_true h2, Bool.true_and, decide_eq_decide, mem_rowU (allN_getD ha x), Int.toNat_of_nonneg h.1]
    · rw [decide_eq_false h2, Bool.false_and, List.getD_eq_getElem?_getD, List.getElem?_eq_none (by omega)]
      simp [rowU_nil]
  · rw [if_neg h]
    have : pick n (backP ls i) = [] := by
      unfold pick
      rw [List.filter_eq_nil_iff]
      intro x _
      unfold backP
      simp only [Bool.and_eq_true, decide_eq_true_eq, not_and, Bool.not_eq_true]
      intro _
      rcases hv : hasL (ls.getD x []) i with _ | _
      · rfl
      · exact absurd (nodeB_iff.1 (List.all_eq_true.1 (allN_getD ha x) i (hasL_iff.1 hv))) h
    rw [this]; rfl

/-- what stands in the inner loop -/
structure MkS (w0 : World) (wp bp : Nat → Bool) (k q1 q2 : Nat) (Aw : Option Addr) (cw : Nat) (Ab : Option Addr) (cb : Nat) (wr : World) : Prop where
  o1 : OwnK 3 1 nE wr Aw cw (pick k wp)
  o2 : OwnK 3 1 nE wr Ab cb (pick k bp)
  l1 : q1 = (pick k wp).length
  l2 : q2 = (pick k bp).length
  dis : ∀ b ∈ fpo Aw, b ∉ fpo Ab
  f1 : ∀ b ∈ fpo Aw, w0.heap.size ≤ b
  f2 : ∀ b ∈ fpo Ab, w0.heap.size ≤ b
  t : Touch [] w0 wr
theorem MkS.le {w0 : World} {wp bp : Nat → Bool} {k q1 q2 : Nat} {Aw : Option Addr} {cw : Nat} {Ab : Option Addr} {cb : Nat} {wr : World} (h : MkS w0 wp bp k q1 q2 Aw cw Ab cb wr) : q1 ≤ k ∧ q2 ≤ k := ⟨by rw [h.l1]; exact pick_length_le _ _, by rw [h.l2]; exact pick_length_le _ _⟩

set_option maxHeartbeats 1600000 in
/-- New fails, and the law knows why -/
theorem makes_err (n : Int) (A : Option Addr) (c m : Nat) (v : Int) (hv : v = 30 ∨ v = 53) (w : World)
    (hs : Calls Try.prog 9 #[.int .i64 n, .slice A m c] w fun e w' => e = .returned (.bool true) ∧ w' = w)
    (hn : Calls Try.prog 11 #[.int .i64 n, .slice A m c] w fun e w' => e = .returned (.tuple #[.pointer none, .int .i64 v]) ∧ Touch [] w w')
    (hw : ∀ W, Touch [] w W → Calls Try.prog 12 #[.int .i64 n, .slice A m c] W fun e w' => e = .returned (.int .i64 v) ∧ Touch [] W w') :
    Calls Try.prog 3 #[.int .i64 n, .slice A m c] w fun e w' => e = .returned (.bool true) ∧ Touch [] w w' := by
  have HS := Lib.hid hs
  have HN := Lib.hid hn
  have HW := Lib.hid hw
  clear hs hn hw
  have hv0 : (v != 0) = true := by simp; omega
  have HV := Lib.hid hv
  clear hv
  go_enter Try.func3, Try.ntmps3
  go_wp2_with fail
  refine HS.out.mono ?_
  rintro e w1 ⟨rfl, hw1⟩
  have Hw1 := Lib.hid hw1
  subst hw1
  clear Hw1 HS
  go_wp2_with fail
  refine HN.out.mono ?_
  rintro e w2 ⟨rfl, t2⟩
  have Ht2 := Lib.hid t2
  clear t2 HN
  go_wp2_with fail
  refine (HW.out _ Ht2.out).mono ?_
  rintro e w3 ⟨rfl, t3⟩
  have Ht3 := Lib.hid (Ht2.out.trans0 t3)
  clear t3
  go_wp2_with fail
  refine (awake_any w3).mono ?_
  rintro e w4 ⟨rfl, t4⟩
  have Ht4 := Lib.hid (Ht3.out.trans0 t4)
  clear t4
  go_wp2
  go_ret
  exact ⟨rfl, Ht4.out⟩

theorem nE_one2 (x : Nat) : ∀ u ∈ nE x, u.oneCell' = true := fun u hu => by
  simp only [List.mem_singleton] at hu; subst hu; rfl

theorem MkS.more1 {w0 : World} {wp bp : Nat → Bool} {k q1 q2 : Nat} {Aw : Option Addr} {cw : Nat} {Ab : Option Addr} {cb : Nat} {wr w2 w3 : World} (h : MkS w0 wp bp k q1 q2 Aw cw Ab cb wr) (t2 : Touch [] wr w2) {A3 : Option Addr} {c3 : Nat} (ho : OwnK 3 1 nE w3 A3 c3 (pick k wp ++ [k])) (t3 : Touch (fpo Aw) w2 w3) (hf : ∀ b ∈ fpo A3, b ∈ fpo Aw ∨ b = w2.heap.size) :
    OwnK 3 1 nE w3 A3 c3 (pick k wp ++ [k]) ∧ OwnK 3 1 nE w3 Ab cb (pick k bp) ∧ (∀ b ∈ fpo A3, b ∉ fpo Ab) ∧ (∀ b ∈ fpo A3, w0.heap.size ≤ b) ∧ Touch [] w0 w3 := by
  have hlt := h.o2.lt
  refine ⟨ho, (h.o2.touch0 t2).touch t3 (fun b hb hm => h.dis b hm hb), fun b hb hm => ?_, fun b hb => ?_, (h.t.trans0 t2).trans t3 (fun b hb => .inr (h.f1 b hb))⟩
  · rcases hf b hb with e | e
    · exact h.dis b e hm
    · have := hlt b hm; have := t2.size; omega
  · rcases hf b hb with e | e
    · exact h.f1 b e
    · have := t2.size; have := h.t.size; omega

/-- the first list as it stands behind the first question -/
structure Mk1 (w0 : World) (wp bp : Nat → Bool) (k q1 q2 : Nat) (Aw : Option Addr) (cw : Nat) (Ab : Option Addr) (cb : Nat) (wr : World) : Prop where
  o1 : OwnK 3 1 nE wr Aw cw (pick (k + 1) wp)
  o2 : OwnK 3 1 nE wr Ab cb (pick k bp)
  l1 : q1 = (pick (k + 1) wp).length
  l2 : q2 = (pick k bp).length
  dis : ∀ b ∈ fpo Aw, b ∉ fpo Ab
  f1 : ∀ b ∈ fpo Aw, w0.heap.size ≤ b
  f2 : ∀ b ∈ fpo Ab, w0.heap.size ≤ b
  t : Touch [] w0 wr
theorem Mk1.more2 {w0 : World} {wp bp : Nat → Bool} {k q1 q2 : Nat} {Aw : Option Addr} {cw : Nat} {Ab : Option Addr} {cb : Nat} {wr w2 w3 : World} (h : Mk1 w0 wp bp k q1 q2 Aw cw Ab cb wr) (t2 : Touch [] wr w2) {A3 : Option Addr} {c3 : Nat} (ho : OwnK 3 1 nE w3 A3 c3 (pick k bp ++ [k])) (t3 : Touch (fpo Ab) w2 w3) (hf : ∀ b ∈ fpo A3, b ∈ fpo Ab ∨ b = w2.heap.size) (hb : pick (k + 1) bp = pick k bp ++ [k]) :
    MkS w0 wp bp (k + 1) q1 (q2 + 1) Aw cw A3 c3 w3 := by
  have hlt := h.o1.lt
  refine ⟨(h.o1.touch0 t2).touch t3 (fun b hb hm => h.dis b hb hm), by rw [hb]; exact ho, h.l1, by rw [hb, List.length_append, ← h.l2]; rfl, fun b hb hm => ?_, h.f1, fun b hb => ?_, (h.t.trans0 t2).trans t3 (fun b hb => .inr (h.f2 b hb))⟩
  · rcases hf b hm with e | e
    · exact h.dis b hb e
    · have := hlt b hb; have := t2.size; omega
  · rcases hf b hb with e | e
    · exact h.f2 b e
    · have := t2.size; have := h.t.size; omega

set_option maxRecDepth 20000 in
set_option maxHeartbeats 8000000 in
/-- New makes a graph -/
theorem makes_ok (N : Nat) (hN : N ≤ 24) (A : Option Addr) (c m : Nat) (ls : List (List Int)) (hm : ls.length = m) (hmN : m ≤ N) (w : World) (h : InR w A ls) (hb : ∀ l ∈ ls, l.length ≤ 40) (ha : ∀ l ∈ ls, allN N l = true) (hr : ¬ Ring (nsL N ls))
    (hs : Calls Try.prog 9 #[.int .i64 N, .slice A m c] w fun e w' => e = .returned (.bool true) ∧ w' = w) :
    Calls Try.prog 3 #[.int .i64 N, .slice A m c] w fun e w' => e = .returned (.bool true) ∧ Touch [] w w' := by
  subst hm
  have HS := Lib.hid hs
  have HN := Lib.hid (new_any N (by omega) A c ls.length ls rfl hmN w h (fun l hl => by have := hb l hl; omega))
  have HW := Lib.hid (fun W (t : Touch [] w W) => by
    have := wrong_any (N : Int) A c ls.length ls rfl (by omega) W (h.touch0 t) (fun l hl => by have := hb l hl; omega)
    rw [(wrongV_in (by omega) hmN ha).2 hr] at this
    exact this)
  have Hb := Lib.hid hb
  have Ha := Lib.hid ha
  have Hr := Lib.hid hr
  clear hs hb ha hr
  go_enter Try.func3, Try.ntmps3
  go_wp2_with fail
  refine HS.out.mono ?_
  rintro e w1 ⟨rfl, hw1⟩
  have Hw1 := Lib.hid hw1
  subst hw1
  clear Hw1 HS
  go_wp2_with fail
  refine HN.out.mono ?_
  rintro e w2 hp
  obtain ⟨t2, g, X, ds, up, rfl, hG⟩ := hp.ok hmN Ha.out Hr.out
  have Ht2 := Lib.hid t2
  have HG := Lib.hid hG
  clear t2 HN hp hG
  go_wp2_with fail
  refine (HW.out _ Ht2.out).mono ?_
  rintro e w3 ⟨rfl, t3⟩
  have HG3 := Lib.hid (HG.out.touch0 t3)
  have Ht3 := Lib.hid (Ht2.out.trans0 t3)
  clear t3 HG Ht2 HW
  have HNo := Lib.hid (nodes_any g X (nsL N ls).length w3 HG3.out.gr.hd)
  have hnl := nsL_length N ls
  rw [hnl] at HNo
  have Hnl := Lib.hid hnl
  clear hnl
  go_wp2_with fail
  refine HNo.out.mono ?_
  rintro e w4 ⟨rfl, hw4⟩
  have Hw4 := Lib.hid hw4
  subst hw4
  clear Hw4 HNo
  go_wp2_with fail
  go_loopw [8] (fun x wr => ∃ i : Nat, i ≤ N + 2 ∧ x = .int .i64 ((i : Int) - 1) ∧ Hid (Touch [] w4 wr)) (fun x _ => (N + 1 - intOf x).toNat)
  case atStart => exact ⟨0, by omega, rfl, Lib.hid (Touch.refl _ _)⟩
  case round =>
    obtain ⟨i, hi, rfl, HT⟩ := hrel
    obtain ⟨x, hx⟩ : ∃ x : Int, x = (i : Int) - 1 := ⟨_, rfl⟩
    rw [← hx]
    by_cases hxN : x ≤ N
    · have hx1 : -1 ≤ x := by omega
      have Hx := Lib.hid hx
      clear hx hi
      obtain ⟨W0, hW0⟩ : ∃ W0, W0 = wr := ⟨_, rfl⟩
      subst hW0
      obtain ⟨wp, hwp⟩ : ∃ wp, wp = wantP ls x := ⟨_, rfl⟩
      obtain ⟨bp, hbp⟩ : ∃ bp, bp = backP ls x := ⟨_, rfl⟩
      have Hwp : Hid (∀ k, wp k = (decide (0 ≤ x ∧ x < ls.length) && hasL (ls.getD x.toNat []) (k : Int))) := Lib.hid (fun k => by rw [hwp]; rfl)
      have Hbp : Hid (∀ k, bp k = (decide (k < ls.length) && hasL (ls.getD k []) x)) := Lib.hid (fun k => by rw [hbp]; rfl)
      have HwR : Hid (rowOf (nsL N ls) x = iN (pick N wp)) := Lib.hid (by rw [hwp]; exact row_want hmN Ha.out x)
      have HbR : Hid (rowOf (told (nsL N ls)) x = iN (pick N bp)) := Lib.hid (by rw [hbp]; exact row_back hmN Ha.out x)
      clear hwp hbp
      go_wp2_with fail
      go_loopw [9, 10, 56] (fun a b y wr => ∃ (k q1 q2 : Nat) (Aw Ab : Option Addr) (cw cb : Nat), k ≤ N ∧ q1 ≤ k ∧ q2 ≤ k ∧ y = .int .i64 k ∧ a = .slice Aw q1 cw ∧ b = .slice Ab q2 cb ∧ Hid (MkS W0 wp bp k q1 q2 Aw cw Ab cb wr)) (fun _ _ y _ => N - (intOf y).toNat)
      case atStart => exact ⟨0, 0, 0, none, none, 0, 0, by omega, by omega, by omega, rfl, rfl, rfl, Lib.hid ⟨OwnK.nil _ _ _ _, OwnK.nil _ _ _ _, rfl, rfl, by simp [fpo], by simp [fpo], by simp [fpo], Touch.refl _ _⟩⟩
      case round =>
        obtain ⟨k, q1, q2, Aw, Ab, cw, cb, hk, hq1, hq2, rfl, rfl, rfl, HM⟩ := hrel
        by_cases hkN : k < N
        · obtain ⟨W1, hW1⟩ : ∃ W1, W1 = wr := ⟨_, rfl⟩
          subst hW1
          have HTW := Lib.hid ((Ht3.out.trans0 HT.out).trans0 HM.out.t)
          have hR1 := h.touch0 HTW.out
          have HR1 := Lib.hid hR1
          clear hR1
          go_upto_region 16 with (fail)
          go_cut [74] (fun v wx => v = .bool (wp k) ∧ wx = W1)
          case first =>
            by_cases hx0 : 0 ≤ x
            · by_cases hxl : x < ls.length
              · obtain ⟨j, rfl⟩ : ∃ j : Nat, x = j := ⟨x.toNat, by omega⟩
                have hj : j < ls.length := by omega
                obtain ⟨ad, A', c', rfl, hc, _, hrd⟩ := HR1.out.at_ j hj
                have hH := refHas_any A' c' ls[j].length ls[j] rfl (by have := Hb.out _ (List.getElem_mem hj); omega) (k : Int) W1 hrd
                have hv : wp k = hasL ls[j] (k : Int) := by
                  rw [Hwp.out, decide_eq_true (by omega), Bool.true_and]; simp [hj]
                rw [← hv] at hH
                obtain ⟨L, hL⟩ : ∃ L, L = ls[j].length := ⟨_, rfl⟩
                rw [← hL] at hH hc
                have HH := Lib.hid hH
                clear hH hL hv hrd
                go_wp2_with fail
                refine HH.out.mono ?_
                rintro e wq ⟨rfl, hwq⟩
                have Hwq := Lib.hid hwq
                clear hwq
                rcases hv : wp k with _ | _
                · have Hv := Lib.hid hv
                  clear hv
                  go_wp2_with fail
                  go_meet
                  exact ⟨by rw [Hv.out], Hwq.out⟩
                · have Hv := Lib.hid hv
                  clear hv
                  go_wp2_with fail
                  go_meet
                  exact ⟨by rw [Hv.out], Hwq.out⟩
              · have hxl' : (x < (ls.length : Int)) = False := by simpa using hxl
                have Hv : Hid (wp k = false) := Lib.hid (by rw [Hwp.out, decide_eq_false (by omega)]; rfl)
                go_wp2_with fail
                go_meet
                exact ⟨by rw [Hv.out], rfl⟩
            · have hx0' : (0 ≤ x) = False := by simpa using hx0
              have Hv : Hid (wp k = false) := Lib.hid (by rw [Hwp.out, decide_eq_false (by omega)]; rfl)
              go_wp2_with fail
              go_meet
              exact ⟨by rw [Hv.out], rfl⟩
          case rest =>
            obtain ⟨rfl, hwc0⟩ := hcut
            rcases hv : wp k with _ | _
            · have HK : Hid (Mk1 W0 wp bp k q1 q2 Aw cw Ab cb wc) := Lib.hid (by
                have hpw : pick (k + 1) wp = pick k wp := by rw [pick_succ, hv]; simp
                rw [hwc0]
                exact ⟨by rw [hpw]; exact HM.out.o1, HM.out.o2, by rw [hpw]; exact HM.out.l1, HM.out.l2, HM.out.dis, HM.out.f1, HM.out.f2, HM.out.t⟩)
              clear hv hwc0
              obtain ⟨wz, hwz⟩ : ∃ wz, wz = wc := ⟨_, rfl⟩
              subst hwz
              have HR2 := Lib.hid (h.touch0 (Ht3.out.trans0 (HT.out.trans0 HK.out.t)))
              go_upto_region 18 with (fail)
              go_cut [90] (fun v wx => v = .bool (bp k) ∧ wx = wz)
              case first =>
                by_cases hkl : k < ls.length
                · obtain ⟨ad, A', c', rfl, hc, _, hrd⟩ := HR2.out.at_ k hkl
                  have hH := refHas_any A' c' ls[k].length ls[k] rfl (by have := Hb.out _ (List.getElem_mem hkl); omega) x wz hrd
                  have hv : bp k = hasL ls[k] x := by
                    rw [Hbp.out, decide_eq_true hkl, Bool.true_and]; simp [hkl]
                  rw [← hv] at hH
                  obtain ⟨L, hL⟩ : ∃ L, L = ls[k].length := ⟨_, rfl⟩
                  rw [← hL] at hH hc
                  have HH := Lib.hid hH
                  clear hH hL hv hrd
                  go_wp2_with fail
                  refine HH.out.mono ?_
                  rintro e wq ⟨rfl, hwq⟩
                  have Hwq := Lib.hid hwq
                  clear hwq
                  rcases hv : bp k with _ | _
                  · have Hv := Lib.hid hv
                    clear hv
                    go_wp2_with fail
                    go_meet
                    exact ⟨by rw [Hv.out], Hwq.out⟩
                  · have Hv := Lib.hid hv
                    clear hv
                    go_wp2_with fail
                    go_meet
                    exact ⟨by rw [Hv.out], Hwq.out⟩
                · have hkl' : ((k : Int) < (ls.length : Int)) = False := by simp; omega
                  have Hv : Hid (bp k = false) := Lib.hid (by rw [Hbp.out, decide_eq_false hkl]; rfl)
                  go_wp2_with fail
                  go_meet
                  exact ⟨by rw [Hv.out], rfl⟩
              case rest =>
                obtain ⟨rfl, hwc⟩ := hcut
                have HK2 : Hid (Mk1 W0 wp bp k q1 q2 Aw cw Ab cb wc) := Lib.hid (by rw [hwc]; exact HK.out)
                clear hwc
                have hk2 : q1 ≤ k + 1 := by rw [HK2.out.l1]; exact pick_length_le _ _
                rcases hv2 : bp k with _ | _
                · have Hpb : Hid (pick (k + 1) bp = pick k bp) := Lib.hid (by rw [pick_succ, hv2]; simp)
                  clear hv2
                  go_wp2_with fail
                  go_roundw
                  case rel => exact ⟨k + 1, q1, q2, Aw, Ab, cw, cb, by omega, hk2, by omega, by go_num, rfl, rfl, Lib.hid ⟨HK2.out.o1, by rw [Hpb.out]; exact HK2.out.o2, HK2.out.l1, by rw [Hpb.out]; exact HK2.out.l2, HK2.out.dis, HK2.out.f1, HK2.out.f2, HK2.out.t⟩⟩
                  case measure => simp [intOf]; omega
                · have Hpb : Hid (pick (k + 1) bp = pick k bp ++ [k]) := Lib.hid (by rw [pick_succ, hv2]; simp)
                  clear hv2
                  have tb := (Touch.refl [] wc).alloc (.cells #[.int .i64 (k : Int)] 3)
                  go_wp2_with (at_builtin; refine stop ?_)
                  refine go ?_
                  refine wpList_appK (enc := nE) rfl (.tmp 91) (.tmp 93) 31 rfl 3 (.int .i64 0) 1 8 info_int Try.underlying31 rfl (by omega) (fun _ => rfl) nE_one2 Ab q2 cb (pick k bp) HK2.out.l2.symm rfl (HK2.out.o2.touch0 tb)
                    (some ⟨wc.heap.size, 0, none⟩) 1 1 [k] rfl rfl (RdK.one (enc := nE) wc 3 k #[.int .i64 (k : Int)] rfl) (by omega) (by omega) ?_
                  intro A4 c4 w7 hown4 ht4 hf4
                  have H7 := Lib.hid (HK2.out.more2 tb hown4 ht4 hf4 Hpb.out)
                  clear hown4 ht4 hf4
                  go_wp2_with fail
                  go_roundw
                  case rel => exact ⟨k + 1, q1, q2 + 1, Aw, A4, cw, c4, by omega, hk2, by omega, by go_num, rfl, rfl, H7⟩
                  case measure => simp [intOf]; omega
            · have HM3 : Hid (MkS W0 wp bp k q1 q2 Aw cw Ab cb wc) := Lib.hid (by rw [hwc0]; exact HM.out)
              have Hpw : Hid (pick (k + 1) wp = pick k wp ++ [k]) := Lib.hid (by rw [pick_succ, hv]; simp)
              clear hv hwc0
              have tb := (Touch.refl [] wc).alloc (.cells #[.int .i64 (k : Int)] 3)
              go_wp2_with (at_builtin; refine stop ?_)
              refine go ?_
              refine wpList_appK (enc := nE) rfl (.tmp 75) (.tmp 77) 31 rfl 3 (.int .i64 0) 1 8 info_int Try.underlying31 rfl (by omega) (fun _ => rfl) nE_one2 Aw q1 cw (pick k wp) HM3.out.l1.symm rfl (HM3.out.o1.touch0 tb)
                (some ⟨wc.heap.size, 0, none⟩) 1 1 [k] rfl rfl (RdK.one (enc := nE) wc 3 k #[.int .i64 (k : Int)] rfl) (by omega) (by omega) ?_
              intro A3 c3 wz hown3 ht3 hf3
              have HK : Hid (Mk1 W0 wp bp k (q1 + 1) q2 A3 c3 Ab cb wz) := Lib.hid (by
                obtain ⟨r1, r2, r3, r4, r5⟩ := HM3.out.more1 tb hown3 ht3 hf3
                exact ⟨by rw [Hpw.out]; exact r1, r2, by rw [Hpw.out, List.length_append, ← HM3.out.l1]; rfl, HM3.out.l2, r3, r4, HM3.out.f2, r5⟩)
              clear hown3 ht3 hf3
              have HR2 := Lib.hid (h.touch0 (Ht3.out.trans0 (HT.out.trans0 HK.out.t)))
              go_upto_region 18 with (fail)
              go_cut [90] (fun v wx => v = .bool (bp k) ∧ wx = wz)
              case first =>
                by_cases hkl : k < ls.length
                · obtain ⟨ad, A', c', rfl, hc, _, hrd⟩ := HR2.out.at_ k hkl
                  have hH := refHas_any A' c' ls[k].length ls[k] rfl (by have := Hb.out _ (List.getElem_mem hkl); omega) x wz hrd
                  have hv : bp k = hasL ls[k] x := by
                    rw [Hbp.out, decide_eq_true hkl, Bool.true_and]; simp [hkl]
                  rw [← hv] at hH
                  obtain ⟨L, hL⟩ : ∃ L, L = ls[k].length := ⟨_, rfl⟩
                  rw [← hL] at hH hc
                  have HH := Lib.hid hH
                  clear hH hL hv hrd
                  go_wp2_with fail
                  refine HH.out.mono ?_
                  rintro e wq ⟨rfl, hwq⟩
                  have Hwq := Lib.hid hwq
                  clear hwq
                  rcases hv : bp k with _ | _
                  · have Hv := Lib.hid hv
                    clear hv
                    go_wp2_with fail
                    go_meet
                    exact ⟨by rw [Hv.out], Hwq.out⟩
                  · have Hv := Lib.hid hv
                    clear hv
                    go_wp2_with fail
                    go_meet
                    exact ⟨by rw [Hv.out], Hwq.out⟩
                · have hkl' : ((k : Int) < (ls.length : Int)) = False := by simp; omega
                  have Hv : Hid (bp k = false) := Lib.hid (by rw [Hbp.out, decide_eq_false hkl]; rfl)
                  go_wp2_with fail
                  go_meet
                  exact ⟨by rw [Hv.out], rfl⟩
              case rest =>
                obtain ⟨rfl, hwc⟩ := hcut
                have HK2 : Hid (Mk1 W0 wp bp k (q1 + 1) q2 A3 c3 Ab cb wc) := Lib.hid (by rw [hwc]; exact HK.out)
                clear hwc
                have hk2 : (q1 + 1) ≤ k + 1 := by rw [HK2.out.l1]; exact pick_length_le _ _
                rcases hv2 : bp k with _ | _
                · have Hpb : Hid (pick (k + 1) bp = pick k bp) := Lib.hid (by rw [pick_succ, hv2]; simp)
                  clear hv2
                  go_wp2_with fail
                  go_roundw
                  case rel => exact ⟨k + 1, (q1 + 1), q2, A3, Ab, c3, cb, by omega, hk2, by omega, by go_num, rfl, rfl, Lib.hid ⟨HK2.out.o1, by rw [Hpb.out]; exact HK2.out.o2, HK2.out.l1, by rw [Hpb.out]; exact HK2.out.l2, HK2.out.dis, HK2.out.f1, HK2.out.f2, HK2.out.t⟩⟩
                  case measure => simp [intOf]; omega
                · have Hpb : Hid (pick (k + 1) bp = pick k bp ++ [k]) := Lib.hid (by rw [pick_succ, hv2]; simp)
                  clear hv2
                  have tb := (Touch.refl [] wc).alloc (.cells #[.int .i64 (k : Int)] 3)
                  go_wp2_with (at_builtin; refine stop ?_)
                  refine go ?_
                  refine wpList_appK (enc := nE) rfl (.tmp 91) (.tmp 93) 31 rfl 3 (.int .i64 0) 1 8 info_int Try.underlying31 rfl (by omega) (fun _ => rfl) nE_one2 Ab q2 cb (pick k bp) HK2.out.l2.symm rfl (HK2.out.o2.touch0 tb)
                    (some ⟨wc.heap.size, 0, none⟩) 1 1 [k] rfl rfl (RdK.one (enc := nE) wc 3 k #[.int .i64 (k : Int)] rfl) (by omega) (by omega) ?_
                  intro A4 c4 w7 hown4 ht4 hf4
                  have H7 := Lib.hid (HK2.out.more2 tb hown4 ht4 hf4 Hpb.out)
                  clear hown4 ht4 hf4
                  go_wp2_with fail
                  go_roundw
                  case rel => exact ⟨k + 1, (q1 + 1), q2 + 1, A3, A4, c3, c4, by omega, hk2, by omega, by go_num, rfl, rfl, H7⟩
                  case measure => simp [intOf]; omega
        · obtain rfl : k = N := by omega
          have HGw := Lib.hid ((HG3.out.touch0 HT.out).touch0 HM.out.t)
          have hne := needs_any _ up g X (nsL k ls) (told (nsL k ls)) ds x wr HGw.out.gr HGw.out.short.1
          rw [HwR.out] at hne
          obtain ⟨Lw, hLw⟩ : ∃ Lw, Lw = iN (pick k wp) := ⟨_, rfl⟩
          obtain ⟨Lb, hLb⟩ : ∃ Lb, Lb = iN (pick k bp) := ⟨_, rfl⟩
          rw [← hLw] at hne
          have HNe := Lib.hid hne
          have Hl1 : Hid (Lw.length = q1) := Lib.hid (by rw [hLw, List.length_map]; exact HM.out.l1.symm)
          have Hl2 : Hid (Lb.length = q2) := Lib.hid (by rw [hLb, List.length_map]; exact HM.out.l2.symm)
          have Hr1 : Hid (RdI wr Aw Lw) := Lib.hid (by rw [hLw]; exact rdI_of_ownN HM.out.o1)
          have Hr2 : Hid (RdI wr Ab Lb) := Lib.hid (by rw [hLb]; exact rdI_of_ownN HM.out.o2)
          have HbL : Hid (rowOf (told (nsL k ls)) x = Lb) := Lib.hid (by rw [hLb]; exact HbR.out)
          clear hne hLw hLb
          obtain ⟨m1, hm1⟩ : ∃ m1, m1 = Lw.length := ⟨_, rfl⟩
          obtain ⟨m2, hm2⟩ : ∃ m2, m2 = Lb.length := ⟨_, rfl⟩
          have Hm1 := Lib.hid hm1
          have Hm2 := Lib.hid hm2
          clear hm1 hm2
          go_wp2_with fail
          refine HNe.out.mono ?_
          rintro e w5 ⟨A5, c5, rfl, ho5, t5, hf5⟩
          have Hsame := Lib.hid (same_any A5 c5 m1 Lw Hm1.out.symm Aw cw q1 Lw Hl1.out (by have := Hm1.out; have := Hl1.out; omega) (by omega) w5 (rdI_of_ownI ho5) (Rd.touch0 Hr1.out t5))
          rw [← Hm1.out]
          have Ht5 := Lib.hid t5
          clear ho5 t5 hf5 HNe
          go_wp2_with fail
          refine Hsame.out.mono ?_
          rintro e w6 ⟨rfl, t6⟩
          have h1 : oneL Lw Lw = true := oneL_iff.2 rfl
          rw [h1]
          have Ht6 := Lib.hid (Ht5.out.trans0 t6)
          have hne2 := needed_any _ up g X (nsL k ls) (told (nsL k ls)) ds x w6 (HGw.out.gr.touch0 Ht6.out) HGw.out.short.2
          rw [HbL.out] at hne2
          have HNe2 := Lib.hid hne2
          clear hne2 t6 h1 Hsame
          go_wp2_with fail
          refine HNe2.out.mono ?_
          rintro e w7 ⟨A7, c7, rfl, ho7, t7, hf7⟩
          have Hsame2 := Lib.hid (same_any A7 c7 m2 Lb Hm2.out.symm Ab cb q2 Lb Hl2.out (by have := Hm2.out; have := Hl2.out; omega) (by omega) w7 (rdI_of_ownI ho7) (Rd.touch0 (Rd.touch0 Hr2.out Ht6.out) t7))
          rw [← Hm2.out]
          have Ht7 := Lib.hid (Ht6.out.trans0 t7)
          clear ho7 t7 hf7 HNe2
          go_wp2_with fail
          refine Hsame2.out.mono ?_
          rintro e w8 ⟨rfl, t8⟩
          have h2 : oneL Lb Lb = true := oneL_iff.2 rfl
          rw [h2]
          have Ht8 := Lib.hid (HT.out.trans0 (HM.out.t.trans0 (Ht7.out.trans0 t8)))
          clear t8 h2 Hsame2
          go_wp2_with fail
          go_roundw
          case rel => exact ⟨i + 1, by have := Hx.out; omega, by have := Hx.out; simp; omega, Ht8⟩
          case measure => simp [intOf]; omega
    · have hxN' : (x ≤ (N : Int)) = False := by simpa using hxN
      clear hx
      go_wp2_with fail
      refine (awake_any wr).mono ?_
      rintro e w5 ⟨rfl, t5⟩
      go_wp2
      go_ret
      exact ⟨rfl, (Ht3.out.trans0 HT.out).trans0 t5⟩

set_option maxHeartbeats 1600000 in
theorem makes_law (n : Int) (A : Option Addr) (c : Nat) (ls : List (List Int)) (w : World) (hl : ls.length ≤ maxLen) (h : InR w A ls) (hb : ∀ l ∈ ls, l.length ≤ maxLen) :
    Calls Try.prog 3 #[.int .i64 n, .slice A ls.length c] w fun e w' => e = .returned (.bool true) ∧ Touch [] w w' := by
  have hs := small_any n A c ls.length ls rfl hl w h hb
  rcases hsm : smallB n ls with _ | _
  · rw [hsm] at hs
    have HS := Lib.hid hs
    clear hs hsm
    go_enter Try.func3, Try.ntmps3
    go_wp2_with fail
    refine HS.out.mono ?_
    rintro e w1 ⟨rfl, hw1⟩
    have Hw1 := Lib.hid hw1
    subst hw1
    clear Hw1 HS
    go_wp2_with fail
    refine (awake_any w1).mono ?_
    rintro e w2 ⟨rfl, t2⟩
    go_wp2
    go_ret
    exact ⟨rfl, t2⟩
  · rw [hsm] at hs
    obtain ⟨h40, hn24, hl40⟩ := smallB_iff.1 hsm
    have hwr := fun W (t : Touch [] w W) => wrong_any n A c ls.length ls rfl (by omega) W (h.touch0 t) (fun l hl => by have := h40 l hl; omega)
    by_cases h0 : n < 0 ∨ 1024 < n ∨ n < ls.length
    · rw [wrongV_range h0] at hwr
      exact makes_err n A c ls.length 30 (.inl rfl) w hs ((new_bad0 n A c ls.length h0 w).mono fun e w' ⟨he, hw'⟩ => ⟨he, by rw [hw']; exact Touch.refl _ _⟩) hwr
    · obtain ⟨N, rfl⟩ : ∃ N : Nat, n = N := ⟨n.toNat, by omega⟩
      have hN := new_any N (by omega) A c ls.length ls rfl (by omega) w h (fun l hl => by have := h40 l hl; omega)
      by_cases ha : ∀ l ∈ ls, allN N l = true
      · by_cases hr : Ring (nsL N ls)
        · rw [(wrongV_in (by omega) (by omega) ha).1 hr] at hwr
          refine makes_err N A c ls.length 53 (.inr rfl) w hs (hN.mono fun e w' hp => ?_) hwr
          obtain ⟨t, ⟨⟨l, hl2, hf⟩, _⟩ | ⟨_, _, he⟩ | ⟨_, hr2, _⟩⟩ := hp
          · rw [ha l hl2] at hf; cases hf
          · exact ⟨he, t⟩
          · exact absurd hr hr2
        · exact makes_ok N (by omega) A c ls.length ls rfl (by omega) w h h40 ha hr hs
      · obtain ⟨l, hl2, hf⟩ : ∃ l ∈ ls, allN N l = false := by
          rcases Classical.em (∃ l ∈ ls, allN N l = false) with q | q
          · exact q
          · exfalso
            refine ha fun l hl => ?_
            rcases hv : allN N l with _ | _
            · exact absurd ⟨l, hl, hv⟩ q
            · rfl
        rw [wrongV_bad hl2 hf] at hwr
        refine makes_err N A c ls.length 30 (.inl rfl) w hs (hN.mono fun e w' hp => ?_) hwr
        obtain ⟨t, ⟨_, he⟩ | ⟨ha2, _, _⟩ | ⟨ha2, _⟩⟩ := hp
        · exact ⟨he, t⟩
        · exact absurd ha2 ha
        · exact absurd ha2 ha
end Go.Proofs.Ytmehdlflhllhdaa
