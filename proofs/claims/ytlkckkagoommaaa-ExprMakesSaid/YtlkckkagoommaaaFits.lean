/- schema.Schema.Fits: does a row fit? For every schema and row. -/
import Derived.Test.YtlkckkagoommaaaRows2
import Derived.Test.YtlkckkagoommaaaTw
namespace Go.Proofs.Ytlkckkagoommaaa
open Go.RowKit

/-- does a value fit a column? -/
def fitC (c : CD) (v : VD) : Bool := v.right && (decide (v.kind = 0) || decide (v.kind = c.typ))
def fitR (cs : List CD) (vs : List VD) : Bool := decide (vs.length = cs.length) && (List.zipWith fitC cs vs).all id
theorem fit_no {cs : List CD} {vs : List VD} {k : Nat} (h1 : k < cs.length) (h2 : k < vs.length) (hb : fitC cs[k] vs[k] = false) : fitR cs vs = false := by
  have hk : k < (List.zipWith fitC cs vs).length := by rw [List.length_zipWith]; omega
  have := all_no (p := id) hk (by rw [List.getElem_zipWith]; exact hb)
  unfold fitR
  rw [this, Bool.and_false]
theorem fit_yes {cs : List CD} {vs : List VD} {k : Nat} (h1 : k < cs.length) (h2 : k < vs.length) (h : ((List.zipWith fitC cs vs).take k).all id = true) (hb : fitC cs[k] vs[k] = true) : ((List.zipWith fitC cs vs).take (k + 1)).all id = true := by
  have hk : k < (List.zipWith fitC cs vs).length := by rw [List.length_zipWith]; omega
  exact all_snoc (p := id) hk h (by rw [List.getElem_zipWith]; exact hb)

set_option maxRecDepth 20000 in
set_option maxHeartbeats 6400000 in
theorem fits_any (A : Option Addr) (cap n : Nat) (cs : List CD) (hn : cs.length = n) (hok : ∀ c ∈ cs, c.Ok) (B : Option Addr) (bcap m : Nat) (vs : List VD) (hm : vs.length = m) (hvk : ∀ v ∈ vs, v.Ok 140737000000000)
    (w : World) (h : ColsAt w A cs) (hv : ValsAt w B vs) (hl : n ≤ 140737000000000) (hl2 : m ≤ 140737000000000) :
    Calls Try.prog 15 #[.slice A n cap, .slice B m bcap] w fun e w' => e = .returned (.bool (decide (checkV cs = 0) && fitR cs vs)) ∧ Touch [] w w' := by
  subst hn hm
  have hchk := check_any A cap cs.length cs rfl hok w h (by omega)
  by_cases hc0 : checkV cs = 0
  · rw [hc0] at hchk
    have Hchk := Lib.hid hchk; have Hc0 := Lib.hid (show (decide (checkV cs = 0) && fitR cs vs) = fitR cs vs by rw [hc0]; rfl)
    clear hchk hc0
    by_cases hlen : vs.length = cs.length
    · have Hlen := Lib.hid hlen
      go_enter Try.func15, Try.ntmps15
      go_wp2_with (go_at_call 38; refine Hchk.out.mono ?_; rintro e w1 ⟨rfl, t1⟩)
      clear Hchk
      go_loopw [19] (fun i wr => ∃ k : Nat, k ≤ vs.length ∧ i = .int .i64 k ∧ Hid (((List.zipWith fitC cs vs).take k).all id = true) ∧ Touch [] w wr) (fun i _ => vs.length - (intOf i).toNat)
      case atStart => exact ⟨0, by omega, rfl, Lib.hid rfl, t1⟩
      case round =>
        clear t1
        obtain ⟨k, hk, rfl, Hall, ht⟩ := hrel
        clear hlen
        by_cases hlt : k < vs.length
        · have hlt2 : k < cs.length := by have := Hlen.out; omega
          obtain ⟨ad, b, off, rfl, hadd, c0, c1⟩ := (h.touch0 ht).at_ k hlt2
          obtain ⟨bd, b2, off2, rfl, hadd2, d0, d1, d2⟩ := (hv.touch0 ht).at_ k hlt
          have hno := fit_no hlt2 hlt
          have hyes := fit_yes hlt2 hlt Hall.out
          have hvok := hvk _ (List.getElem_mem hlt)
          obtain ⟨c, hce⟩ : ∃ c, c = cs[k] := ⟨_, rfl⟩
          obtain ⟨v, hve⟩ : ∃ v, v = vs[k] := ⟨_, rfl⟩
          rw [← hce] at c0 c1 hno hyes
          rw [← hve] at d0 d1 d2 hno hyes hvok
          have Hno := Lib.hid hno; have Hyes := Lib.hid hyes
          obtain ⟨_, _, hvt⟩ := hvok
          obtain ⟨kd, nm, tx⟩ := v
          simp only at d0 d1 d2 hvt
          clear hce hve hno hyes Hall c0
          have hb := heap_alloc_new wr (.cells #[.int .i64 kd, .int .i64 nm, .string tx] 30)
          have tb := (Touch.refl [] wr).alloc (.cells #[.int .i64 kd, .int .i64 nm, .string tx] 30)
          obtain ⟨W, hW⟩ : ∃ W, W = wr.alloc (.cells #[.int .i64 kd, .int .i64 nm, .string tx] 30) := ⟨_, rfl⟩
          rw [← hW] at hb tb
          have g0 := TW.cell (cell_blk hb (i := 0) rfl)
          have g1 := TW.cell (cell_blk hb (i := 1) rfl)
          have g2 := TW.cell (cell_blk hb (i := 2) rfl)
          have g3 := TW.cell (tb.cell c1 (by simp))
          have hright := fun w' => right_any ⟨kd, nm, tx⟩ hvt w'
          simp only [VD.val] at hright
          have hkI0 : (0 : Int) ≤ (k : Int) := by omega
          have hkI : (k : Int) < (cs.length : Int) := by omega
          have HW := Lib.hid hW
          clear hW hb
          rcases hvr : VD.right ⟨kd, nm, tx⟩ with _ | _
          · have Hf := Lib.hid (Hno.out (by unfold fitC; rw [hvr]; rfl))
            rw [hvr] at hright
            have Hright := Lib.hid hright; clear hright hvr
            go_wp2
            rw [← HW.out]
            refine wp_region_tw W (Touch.refl _ _) (by kernel_rfl) (by kernel_rfl) ?_
            repeat (go_big_quiet_step (((go_at_call 16; exact Calls.tw _ (Hright.out _)))))
            refine wpQuiet_nil ?_
            rintro _ ⟨x2, rfl⟩
            go_wp2
            go_ret
            exact ⟨ret_bool (by rw [Hc0.out, Hf.out]), (ht.trans0 tb).trans0 x2.t⟩
          · have Hr := Lib.hid hvr
            rw [hvr] at hright
            have Hright := Lib.hid hright; clear hright hvr
            by_cases hk0 : kd = 0
            · subst hk0
              have Ha := Lib.hid (Hyes.out (by unfold fitC; rw [Hr.out]; rfl))
              go_wp2
              rw [← HW.out]
              refine wp_region_tw W (Touch.refl _ _) (by kernel_rfl) (by kernel_rfl) ?_
              repeat (go_big_quiet_step (((go_at_call 16; exact Calls.tw _ (Hright.out _)))))
              refine wpQuiet_nil ?_
              rintro _ ⟨x2, rfl⟩
              go_wp2
              go_roundw
              case rel => exact ⟨k + 1, by omega, by go_num, Ha, (ht.trans0 tb).trans0 x2.t⟩
              case measure => simp [intOf]; omega
            · have q0 : (kd == 0) = false := by rw [beq_eq_false_iff_ne]; exact hk0
              have q0' : (kd != 0) = true := by rw [bne, q0]; rfl
              by_cases hkt : kd = c.typ
              · have Ha := Lib.hid (Hyes.out (by unfold fitC; rw [Hr.out]; simp [hkt]))
                have q1 : (kd == c.typ) = true := by rw [beq_iff_eq]; exact hkt
                have q1' : (kd != c.typ) = false := by rw [bne, q1]; rfl
                clear hk0 hkt
                go_wp2
                rw [← HW.out]
                refine wp_region_tw W (Touch.refl _ _) (by kernel_rfl) (by kernel_rfl) ?_
                repeat (go_big_quiet_step (((go_at_call 16; exact Calls.tw _ (Hright.out _)))))
                refine wpQuiet_nil ?_
                rintro _ ⟨x2, rfl⟩
                go_wp2
                go_roundw
                case rel => exact ⟨k + 1, by omega, by go_num, Ha, (ht.trans0 tb).trans0 x2.t⟩
                case measure => simp [intOf]; omega
              · have Hf := Lib.hid (Hno.out (by unfold fitC; rw [Hr.out]; simp [hkt, hk0]))
                have q1 : (kd == c.typ) = false := by rw [beq_eq_false_iff_ne]; exact hkt
                have q1' : (kd != c.typ) = true := by rw [bne, q1]; rfl
                clear hk0 hkt
                go_wp2
                rw [← HW.out]
                refine wp_region_tw W (Touch.refl _ _) (by kernel_rfl) (by kernel_rfl) ?_
                repeat (go_big_quiet_step (((go_at_call 16; exact Calls.tw _ (Hright.out _)))))
                refine wpQuiet_nil ?_
                rintro _ ⟨x2, rfl⟩
                go_wp2
                go_ret
                exact ⟨ret_bool (by rw [Hc0.out, Hf.out]), (ht.trans0 tb).trans0 x2.t⟩
        · obtain rfl : k = vs.length := by omega
          have hall := Hall.out
          rw [List.take_of_length_le (by rw [List.length_zipWith]; omega)] at hall
          have Hf := Lib.hid (show fitR cs vs = true by unfold fitR; rw [hall, decide_eq_true Hlen.out]; rfl)
          have hge : decide (vs.length < cs.length) = false := decide_eq_false (by have := Hlen.out; omega)
          clear hall Hall
          go_wp2
          go_ret
          exact ⟨ret_bool (by rw [Hc0.out, Hf.out]), ht⟩
    · have Hf := Lib.hid (show fitR cs vs = false by unfold fitR; rw [decide_eq_false hlen]; rfl)
      have hq : ((vs.length : Int) == (cs.length : Int)) = false := by rw [beq_eq_false_iff_ne]; omega
      have hq' : ((vs.length : Int) != (cs.length : Int)) = true := by rw [bne, hq]; rfl
      clear hlen
      go_enter Try.func15, Try.ntmps15
      go_wp2_with (go_at_call 38; refine Hchk.out.mono ?_; rintro e w1 ⟨rfl, t1⟩)
      go_ret
      exact ⟨ret_bool (by rw [Hc0.out, Hf.out]), t1⟩
  · have Hchk := Lib.hid hchk; have Hc0 := Lib.hid (show (decide (checkV cs = 0) && fitR cs vs) = false by rw [decide_eq_false hc0]; rfl)
    obtain ⟨E, hE⟩ : ∃ E, E = checkV cs := ⟨_, rfl⟩
    have HE := Lib.hid hE
    have hq : (E == 0) = false := by rw [beq_eq_false_iff_ne, hE]; exact hc0
    have hq' : (E != 0) = true := by rw [bne, hq]; rfl
    clear hchk hc0 hE
    go_enter Try.func15, Try.ntmps15
    go_wp2_with (go_at_call 38; refine Hchk.out.mono ?_; rintro e w1 ⟨rfl, t1⟩; rw [← HE.out])
    go_ret
    exact ⟨ret_bool (by rw [Hc0.out]), t1⟩
end Go.Proofs.Ytlkckkagoommaaa
