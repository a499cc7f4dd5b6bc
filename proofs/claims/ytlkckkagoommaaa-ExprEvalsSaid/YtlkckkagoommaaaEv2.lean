/- Part 2 of the texts of this proof, one behind the other; each begins with its own sentence. No condition beyond those that its theorems state. -/
import Derived.Test.YtlkckkagoommaaaEv1
import Derived.OrdersHeld
import Derived.Deep.RegionHeld3
import Derived.Deep.DrawnRows
/- schema.Schema.Fits: does a row fit? For every schema and row. -/
namespace Go.Proofs.Ytlkckkagoommaaa
open Go.RowKit

/-- does a value fit a column? -/
def fitC (c : CD) (v : VD) : Bool := v.right && (decide (v.kind = 0) || decide (v.kind = c.typ))
def fitR (cs : List CD) (vs : List VD) : Bool := decide (vs.length = cs.length) && (List.zipWith fitC cs vs).all id
theorem fit_no {cs : List CD} {vs : List VD} {k : Nat} (h1 : k < cs.length) (h2 : k < vs.length) (hb : fitC cs[k] vs[k] = false) : fitR cs vs = false := by
  have hk : k < (List.zipWith fitC cs vs).length := by rw [List.length_zipWith]; omega
  have := all_no (p := id) hk (by rw [List.getElem_zipWith]; exact hb)
  unfold fitR
  rw [this, Bool.and_false]
theorem fit_yes {cs : List CD} {vs : List VD} {k : Nat} (h1 : k < cs.length) (h2 : k < vs.length) (h : ((List.zipWith fitC cs vs).take k).all id = true) (hb : fitC cs[k] vs[k] = true) : ((List.zipWith fitC cs vs).take (k + 1)).all id = true := by
  have hk : k < (List.zipWith fitC cs vs).length := by rw [List.length_zipWith]; omega
  exact all_snoc (p := id) hk h (by rw [List.getElem_zipWith]; exact hb)

set_option maxRecDepth 20000 in
set_option maxHeartbeats 6400000 in
theorem fits_any (A : Option Addr) (cap n : Nat) (cs : List CD) (hn : cs.length = n) (hok : ∀ c ∈ cs, c.Ok) (B : Option Addr) (bcap m : Nat) (vs : List VD) (hm : vs.length = m) (hvk : ∀ v ∈ vs, v.Ok 140737000000000)
    (w : World) (h : ColsAt w A cs) (hv : ValsAt w B vs) (hl : n ≤ 140737000000000) (hl2 : m ≤ 140737000000000) :
    Calls Try.prog 15 #[.slice A n cap, .slice B m bcap] w fun e w' => e = .returned (.bool (decide (checkV cs = 0) && fitR cs vs)) ∧ Touch [] w w' := by
  subst hn hm
  have hchk := check_any A cap cs.length cs rfl hok w h (by omega)
  by_cases hc0 : checkV cs = 0
  · rw [hc0] at hchk
    have Hchk := Lib.hid hchk; have Hc0 := Lib.hid (show (decide (checkV cs = 0) && fitR cs vs) = fitR cs vs by rw [hc0]; rfl)
    clear hchk hc0
    by_cases hlen : vs.length = cs.length
    · have Hlen := Lib.hid hlen
      go_enter Try.func15, Try.ntmps15
      go_wp2_with (go_at_call 38; refine Hchk.out.mono ?_; rintro e w1 ⟨rfl, t1⟩)
      clear Hchk
      go_loopw [19] (fun i wr => ∃ k : Nat, k ≤ vs.length ∧ i = .int .i64 k ∧ Hid (((List.zipWith fitC cs vs).take k).all id = true) ∧ Touch [] w wr) (fun i _ => vs.length - (intOf i).toNat)
      case atStart => exact ⟨0, by omega, rfl, Lib.hid rfl, t1⟩
      case round =>
        clear t1
        obtain ⟨k, hk, rfl, Hall, ht⟩ := hrel
        clear hlen
        by_cases hlt : k < vs.length
        · have hlt2 : k < cs.length := by have := Hlen.out; omega
          obtain ⟨ad, b, off, rfl, hadd, c0, c1⟩ := (h.touch0 ht).at_ k hlt2
          obtain ⟨bd, b2, off2, rfl, hadd2, d0, d1, d2⟩ := (hv.touch0 ht).at_ k hlt
          have hno := fit_no hlt2 hlt
          have hyes := fit_yes hlt2 hlt Hall.out
          have hvok := hvk _ (List.getElem_mem hlt)
          obtain ⟨c, hce⟩ : ∃ c, c = cs[k] := ⟨_, rfl⟩
          obtain ⟨v, hve⟩ : ∃ v, v = vs[k] := ⟨_, rfl⟩
          rw [← hce] at c0 c1 hno hyes
          rw [← hve] at d0 d1 d2 hno hyes hvok
          have Hno := Lib.hid hno; have Hyes := Lib.hid hyes
          obtain ⟨_, _, hvt⟩ := hvok
          obtain ⟨kd, nm, tx⟩ := v
          simp only at d0 d1 d2 hvt
          clear hce hve hno hyes Hall c0
          have hb := heap_alloc_new wr (.cells #[.int .i64 kd, .int .i64 nm, .string tx] 30)
          have tb := (Touch.refl [] wr).alloc (.cells #[.int .i64 kd, .int .i64 nm, .string tx] 30)
          obtain ⟨W, hW⟩ : ∃ W, W = wr.alloc (.cells #[.int .i64 kd, .int .i64 nm, .string tx] 30) := ⟨_, rfl⟩
          rw [← hW] at hb tb
          have g0 := TW.cell (cell_blk hb (i := 0) rfl)
          have g1 := TW.cell (cell_blk hb (i := 1) rfl)
          have g2 := TW.cell (cell_blk hb (i := 2) rfl)
          have g3 := TW.cell (tb.cell c1 (by simp))
          have hright := fun w' => right_any ⟨kd, nm, tx⟩ hvt w'
          simp only [VD.val] at hright
          have hkI0 : (0 : Int) ≤ (k : Int) := by omega
          have hkI : (k : Int) < (cs.length : Int) := by omega
          have HW := Lib.hid hW
          clear hW hb
          rcases hvr : VD.right ⟨kd, nm, tx⟩ with _ | _
          · have Hf := Lib.hid (Hno.out (by unfold fitC; rw [hvr]; rfl))
            rw [hvr] at hright
            have Hright := Lib.hid hright; clear hright hvr
            go_wp2
            rw [← HW.out]
            refine wp_region_tw W (Touch.refl _ _) (by kernel_rfl) (by kernel_rfl) ?_
            repeat (go_big_quiet_step (((go_at_call 16; exact Calls.tw _ (Hright.out _)))))
            refine wpQuiet_nil ?_
            rintro _ ⟨x2, rfl⟩
            go_wp2
            go_ret
            exact ⟨ret_bool (by rw [Hc0.out, Hf.out]), (ht.trans0 tb).trans0 x2.t⟩
          · have Hr := Lib.hid hvr
            rw [hvr] at hright
            have Hright := Lib.hid hright; clear hright hvr
            by_cases hk0 : kd = 0
            · subst hk0
              have Ha := Lib.hid (Hyes.out (by unfold fitC; rw [Hr.out]; rfl))
              go_wp2
              rw [← HW.out]
              refine wp_region_tw W (Touch.refl _ _) (by kernel_rfl) (by kernel_rfl) ?_
              repeat (go_big_quiet_step (((go_at_call 16; exact Calls.tw _ (Hright.out _)))))
              refine wpQuiet_nil ?_
              rintro _ ⟨x2, rfl⟩
              go_wp2
              go_roundw
              case rel => exact ⟨k + 1, by omega, by go_num, Ha, (ht.trans0 tb).trans0 x2.t⟩
              case measure => simp [intOf]; omega
            · have q0 : (kd == 0) = false := by rw [beq_eq_false_iff_ne]; exact hk0
              have q0' : (kd != 0) = true := by rw [bne, q0]; rfl
              by_cases hkt : kd = c.typ
              · have Ha := Lib.hid (Hyes.out (by unfold fitC; rw [Hr.out]; simp [hkt]))
                have q1 : (kd == c.typ) = true := by rw [beq_iff_eq]; exact hkt
                have q1' : (kd != c.typ) = false := by rw [bne, q1]; rfl
                clear hk0 hkt
                go_wp2
                rw [← HW.out]
                refine wp_region_tw W (Touch.refl _ _) (by kernel_rfl) (by kernel_rfl) ?_
                repeat (go_big_quiet_step (((go_at_call 16; exact Calls.tw _ (Hright.out _)))))
                refine wpQuiet_nil ?_
                rintro _ ⟨x2, rfl⟩
                go_wp2
                go_roundw
                case rel => exact ⟨k + 1, by omega, by go_num, Ha, (ht.trans0 tb).trans0 x2.t⟩
                case measure => simp [intOf]; omega
              · have Hf := Lib.hid (Hno.out (by unfold fitC; rw [Hr.out]; simp [hkt, hk0]))
                have q1 : (kd == c.typ) = false := by rw [beq_eq_false_iff_ne]; exact hkt
                have q1' : (kd != c.typ) = true := by rw [bne, q1]; rfl
                clear hk0 hkt
                go_wp2
                rw [← HW.out]
                refine wp_region_tw W (Touch.refl _ _) (by kernel_rfl) (by kernel_rfl) ?_
                repeat (go_big_quiet_step (((go_at_call 16; exact Calls.tw _ (Hright.out _)))))
                refine wpQuiet_nil ?_
                rintro _ ⟨x2, rfl⟩
                go_wp2
                go_ret
                exact ⟨ret_bool (by rw [Hc0.out, Hf.out]), (ht.trans0 tb).trans0 x2.t⟩
        · obtain rfl : k = vs.length := by omega
          have hall := Hall.out
          rw [List.take_of_length_le (by rw [List.length_zipWith]; omega)] at hall
          have Hf := Lib.hid (show fitR cs vs = true by unfold fitR; rw [hall, decide_eq_true Hlen.out]; rfl)
          have hge : decide (vs.length < cs.length) = false := decide_eq_false (by have := Hlen.out; omega)
          clear hall Hall
          go_wp2
          go_ret
          exact ⟨ret_bool (by rw [Hc0.out, Hf.out]), ht⟩
    · have Hf := Lib.hid (show fitR cs vs = false by unfold fitR; rw [decide_eq_false hlen]; rfl)
      have hq : ((vs.length : Int) == (cs.length : Int)) = false := by rw [beq_eq_false_iff_ne]; omega
      have hq' : ((vs.length : Int) != (cs.length : Int)) = true := by rw [bne, hq]; rfl
      clear hlen
      go_enter Try.func15, Try.ntmps15
      go_wp2_with (go_at_call 38; refine Hchk.out.mono ?_; rintro e w1 ⟨rfl, t1⟩)
      go_ret
      exact ⟨ret_bool (by rw [Hc0.out, Hf.out]), t1⟩
  · have Hchk := Lib.hid hchk; have Hc0 := Lib.hid (show (decide (checkV cs = 0) && fitR cs vs) = false by rw [decide_eq_false hc0]; rfl)
    obtain ⟨E, hE⟩ : ∃ E, E = checkV cs := ⟨_, rfl⟩
    have HE := Lib.hid hE
    have hq : (E == 0) = false := by rw [beq_eq_false_iff_ne, hE]; exact hc0
    have hq' : (E != 0) = true := by rw [bne, hq]; rfl
    clear hchk hc0 hE
    go_enter Try.func15, Try.ntmps15
    go_wp2_with (go_at_call 38; refine Hchk.out.mono ?_; rintro e w1 ⟨rfl, t1⟩; rw [← HE.out])
    go_ret
    exact ⟨ret_bool (by rw [Hc0.out]), t1⟩
end Go.Proofs.Ytlkckkagoommaaa

/- bywashref01.Right: is a value right, as the document's answer has it? For every value. -/
namespace Go.Proofs.Ytlkckkagoommaaa
open Go.RowKit

theorem empty_size (s : ByteArray) : s.toList.isEmpty = decide (s.size = 0) := by
  rw [toList_B, Bool.eq_iff_iff, List.isEmpty_iff, decide_eq_true_eq, ← size_toList, List.length_eq_zero_iff]

set_option maxRecDepth 20000 in
set_option maxHeartbeats 1600000 in
theorem refRight_any (v : VD) (hs : v.text.size ≤ 140737000000000) (w : World) :
    Calls Try.prog 76 #[v.val] w fun e w' => e = .returned (.bool v.right) ∧ Touch [] w w' := by
  obtain ⟨kd, num, text⟩ := v
  obtain ⟨t, rfl⟩ : ∃ t, text = S t := ⟨_, (S_of _).symm⟩
  have hsz := S_size t
  simp only at hs
  rw [hsz] at hs
  have t0 := (Touch.refl [] w).alloc (.cells #[.int .i64 kd, .int .i64 num, .string (S t)] 58)
  have he := empty_size (S t)
  rw [hsz] at he
  have hr : VD.right ⟨kd, num, S t⟩ = (if kd = 0 then decide (num = 0) && decide (t.length = 0) else if kd = 1 then decide (t.length = 0) else if kd = 2 then decide (num = 0) && plainV t else false) := by
    unfold VD.right
    simp only [he]
    rw [S_toList]
  have Hr := Lib.hid hr
  clear hr he
  have hbad : ∀ (b : Bool), VD.right ⟨kd, num, S t⟩ = b → ∀ w', Touch [] w w' → (Ending.returned (.bool b) = Ending.returned (.bool (VD.right ⟨kd, num, S t⟩)) ∧ Touch [] w w') := fun b hb w' ht => ⟨by rw [hb], ht⟩
  have Hb := Lib.hid hbad; clear hbad
  dsimp only [VD.val] at *
  by_cases hk : kd < 0 ∨ 2 < kd
  · have Hf := Lib.hid (Hb.out false (by rw [Hr.out, if_neg (by omega), if_neg (by omega), if_neg (by omega)]) _ t0)
    rcases hk with hk | hk
    · go_enter Try.func76, Try.ntmps76
      go_wp2
      go_ret
      exact Hf.out
    · go_enter Try.func76, Try.ntmps76
      go_wp2
      go_ret
      exact Hf.out
  by_cases hk1 : kd ≠ 1 ∧ num ≠ 0
  · have Hf := Lib.hid (Hb.out false (by
      rw [Hr.out]
      have := hk1.2
      split
      · simp [this]
      · rw [if_neg hk1.1]; split <;> simp [this]) _ t0)
    have q1 : (kd == 1) = false := by rw [beq_eq_false_iff_ne]; exact hk1.1
    have q1' : (kd != 1) = true := by rw [bne, q1]; rfl
    have q2 : (num == 0) = false := by rw [beq_eq_false_iff_ne]; exact hk1.2
    have q2' : (num != 0) = true := by rw [bne, q2]; rfl
    clear hk1
    go_enter Try.func76, Try.ntmps76
    go_wp2
    go_ret
    exact Hf.out
  by_cases hk2 : kd ≠ 2 ∧ 0 < t.length
  · have Hf := Lib.hid (Hb.out false (by
      rw [Hr.out]
      have h0 : decide (t.length = 0) = false := decide_eq_false (by omega)
      rw [h0, if_neg hk2.1]
      split
      · simp
      · split <;> rfl) _ t0)
    have q1 : (kd == 2) = false := by rw [beq_eq_false_iff_ne]; exact hk2.1
    have q1' : (kd != 2) = true := by rw [bne, q1]; rfl
    obtain ⟨_, q3⟩ := hk2
    rcases (show kd = 1 ∨ (kd ≠ 1 ∧ num = 0) by omega) with h1 | ⟨h1, h2⟩
    · subst h1
      clear hk1
      go_enter Try.func76, Try.ntmps76
      go_wp2
      go_ret
      exact Hf.out
    · subst h2
      have q4 : (kd == 1) = false := by rw [beq_eq_false_iff_ne]; exact h1
      have q4' : (kd != 1) = true := by rw [bne, q4]; rfl
      clear hk1 h1
      go_enter Try.func76, Try.ntmps76
      go_wp2
      go_ret
      exact Hf.out
  have hmain : (kd = 2 ∧ num = 0) ∨ (kd = 1 ∧ t = []) ∨ (kd = 0 ∧ num = 0 ∧ t = []) := by
    have hz : 0 < t.length ∨ t = [] := by cases t; exact .inr rfl; exact .inl (by simp)
    rcases hz with hz | hz
    · left; constructor <;> omega
    · rcases (show kd = 0 ∨ kd = 1 ∨ kd = 2 by omega) with e | e | e
      · exact .inr (.inr ⟨e, by omega, hz⟩)
      · exact .inr (.inl ⟨e, hz⟩)
      · left; constructor <;> omega
  clear hk hk1 hk2
  rcases hmain with ⟨rfl, rfl⟩ | ⟨rfl, rfl⟩ | ⟨rfl, rfl, rfl⟩
  · by_cases h64 : 64 < t.length
    · have Hf := Lib.hid (Hb.out false (by rw [Hr.out]; simp [plainV]; omega) _ t0)
      go_enter Try.func76, Try.ntmps76
      go_wp2
      go_ret
      exact Hf.out
    go_enter Try.func76, Try.ntmps76
    go_wp2
    go_loop [3] (fun i => ∃ k : Nat, k ≤ t.length ∧ i = .int .i64 k ∧ Hid ((t.take k).all okB = true)) (fun i => t.length - (intOf i).toNat)
    case atStart => exact ⟨0, by omega, rfl, Lib.hid rfl⟩
    case round =>
      obtain ⟨k, hk, rfl, hall⟩ := hrel
      by_cases hlt : k < t.length
      · have hno := all_no (p := okB) hlt
        have hyes := all_snoc (p := okB) hlt hall.out
        have hg := S_get t k (by rw [hsz]; exact hlt)
        obtain ⟨x, hx⟩ : ∃ x, x = t[k] := ⟨_, rfl⟩
        rw [← hx] at hno hyes hg
        have Hno := Lib.hid hno; have Hyes := Lib.hid hyes
        have hxl := x.toNat_lt
        have hkI : (k : Int) < t.length := by omega
        clear hno hyes hx hall
        by_cases h1 : x.toNat < 32
        · have Hf := Lib.hid (Hb.out false (by rw [Hr.out]; simp only [if_neg (show ¬ (2 : Int) = 0 by omega), if_neg (show ¬ (2 : Int) = 1 by omega), if_true, plainV]; rw [Hno.out (by simp [okB]; omega)]; rfl) _ t0)
          go_wp2
          go_ret
          exact Hf.out
        by_cases h2 : 126 < x.toNat
        · have Hf := Lib.hid (Hb.out false (by rw [Hr.out]; simp only [if_neg (show ¬ (2 : Int) = 0 by omega), if_neg (show ¬ (2 : Int) = 1 by omega), if_true, plainV]; rw [Hno.out (by simp [okB]; omega)]; rfl) _ t0)
          go_wp2
          go_ret
          exact Hf.out
        · have Ha := Lib.hid (Hyes.out (by simp [okB]; omega))
          go_wp2
          go_round
          case rel => exact ⟨k + 1, by omega, by go_num, Ha⟩
          case measure => simp [intOf]; omega
      · obtain rfl : k = t.length := by omega
        have h := hall.out
        rw [List.take_length] at h
        have Hf := Lib.hid (Hb.out true (by rw [Hr.out]; simp only [if_neg (show ¬ (2 : Int) = 0 by omega), if_neg (show ¬ (2 : Int) = 1 by omega), if_true, plainV]; rw [h]; simp; omega) _ t0)
        clear hall h
        go_wp2
        go_ret
        exact Hf.out
  · have Hf := Lib.hid (Hb.out true (by rw [Hr.out]; rfl) _ t0)
    go_enter Try.func76, Try.ntmps76
    go_wp2
    refine wp_loop_rounds 1 ?_
    rw [rounds_succ]
    go_wp2
    go_ret
    exact Hf.out
  · have Hf := Lib.hid (Hb.out true (by rw [Hr.out]; rfl) _ t0)
    go_enter Try.func76, Try.ntmps76
    go_wp2
    refine wp_loop_rounds 1 ?_
    rw [rounds_succ]
    go_wp2
    go_ret
    exact Hf.out

end Go.Proofs.Ytlkckkagoommaaa

/- Trees of expressions, and how they lie in memory. No program's function. -/
namespace Go.Proofs.Ytlkckkagoommaaa
open Go.RowKit

/-- an expression's own things -/
structure ND where
  kind : Int
  name : ByteArray
  v : VD
  op : ByteArray
/-- numbers within bounds, texts short -/
structure ND.Ok (d : ND) (m : Nat) : Prop where
  k : -9223372036854775808 ≤ d.kind ∧ d.kind ≤ 9223372036854775807
  n : d.name.size ≤ m
  v : d.v.Ok m
  o : d.op.size ≤ m
/-- expressions of so many levels at most -/
def TX : Nat → Type
  | 0 => PEmpty
  | n + 1 => ND × List (TX n)
/-- what an expression's cells hold -/
structure XC where
  nd : ND
  A : Option Addr
  n : Nat
  c : Nat
/-- as the program lays it -/
def xcE (x : XC) : List Value := [.int .i64 x.nd.kind, .string x.nd.name, .int .i64 x.nd.v.kind, .int .i64 x.nd.v.num, .string x.nd.v.text, .string x.nd.op, .slice x.A x.n x.c]
/-- as the document's answer lays it -/
def xcR (x : XC) : List Value := [.int .i64 x.nd.kind, .string x.nd.name, .string x.nd.op, .int .i64 x.nd.v.kind, .int .i64 x.nd.v.num, .string x.nd.v.text, .slice x.A x.n x.c]
theorem xcE_length (x : XC) : (xcE x).length = 7 := rfl
theorem xcR_length (x : XC) : (xcR x).length = 7 := rfl
theorem xcE_one (x : XC) : ∀ u ∈ xcE x, u.oneCell' = true := by
  intro u hu
  simp only [xcE, List.mem_cons, List.not_mem_nil, or_false] at hu
  rcases hu with rfl | rfl | rfl | rfl | rfl | rfl | rfl <;> rfl
theorem xcR_one (x : XC) : ∀ u ∈ xcR x, u.oneCell' = true := by
  intro u hu
  simp only [xcR, List.mem_cons, List.not_mem_nil, or_false] at hu
  rcases hu with rfl | rfl | rfl | rfl | rfl | rfl | rfl <;> rfl

/-- these cells, and what they lead to, are this tree; its blocks are such -/
def ExP (enc : XC → List Value) (p : Nat → Prop) : (n : Nat) → World → XC → TX n → Prop
  | 0, _, _, _ => False
  | n + 1, w, x, e => x.nd = e.1 ∧ x.n = e.2.length ∧ (∀ b ∈ fpo x.A, p b) ∧ ∃ xs : List XC, xs.length = e.2.length ∧ RdK enc w x.A xs ∧ ∀ i (h1 : i < xs.length) (h2 : i < e.2.length), ExP enc p n w xs[i] e.2[i]
def anyB : Nat → Prop := fun _ => True
theorem ExP.mono {enc : XC → List Value} {p q : Nat → Prop} (hpq : ∀ b, p b → q b) : ∀ {n : Nat} {w : World} {x : XC} {e : TX n}, ExP enc p n w x e → ExP enc q n w x e
  | 0, _, _, _, h => h.elim
  | _ + 1, _, _, _, ⟨h1, h2, h3, xs, h4, h5, h6⟩ => ⟨h1, h2, fun b hb => hpq b (h3 b hb), xs, h4, h5, fun i a b => ExP.mono hpq (h6 i a b)⟩
theorem ExP.any {enc : XC → List Value} {p : Nat → Prop} {n : Nat} {w : World} {x : XC} {e : TX n} (h : ExP enc p n w x e) : ExP enc anyB n w x e := h.mono fun _ _ => trivial
theorem ExP.touch {enc : XC → List Value} {p : Nat → Prop} {fp : List Nat} : ∀ {n : Nat} {w w' : World} {x : XC} {e : TX n}, ExP enc p n w x e → Touch fp w w' → (∀ b ∈ fp, ¬ p b) → ExP enc p n w' x e
  | 0, _, _, _, _, h, _, _ => h.elim
  | _ + 1, _, _, _, _, ⟨h1, h2, h3, xs, h4, h5, h6⟩, ht, hp => ⟨h1, h2, h3, xs, h4, RdK.touch h5 ht (fun b hb hm => hp b hm (h3 b hb)), fun i a b => ExP.touch (h6 i a b) ht hp⟩
theorem ExP.touch0 {enc : XC → List Value} {p : Nat → Prop} {n : Nat} {w w' : World} {x : XC} {e : TX n} (h : ExP enc p n w x e) (ht : Touch [] w w') : ExP enc p n w' x e := h.touch ht (by simp)
/-- the Args of an expression lie so -/
def ArgsP (enc : XC → List Value) (p : Nat → Prop) (n : Nat) (w : World) (A : Option Addr) (args : List (TX n)) : Prop :=
  ∃ xs : List XC, xs.length = args.length ∧ RdK enc w A xs ∧ ∀ i (h1 : i < xs.length) (h2 : i < args.length), ExP enc p n w xs[i] args[i]
theorem ArgsP.touch0 {enc : XC → List Value} {p : Nat → Prop} {n : Nat} {w w' : World} {A : Option Addr} {args : List (TX n)} (h : ArgsP enc p n w A args) (ht : Touch [] w w') : ArgsP enc p n w' A args := by
  obtain ⟨xs, h1, h2, h3⟩ := h
  exact ⟨xs, h1, RdK.touch0 h2 ht, fun i a b => (h3 i a b).touch0 ht⟩
theorem ArgsP.nil (enc : XC → List Value) (p : Nat → Prop) (n : Nat) (w : World) (A : Option Addr) : ArgsP enc p n w A [] := ⟨[], rfl, RdK.nil _ _ _, fun i h => absurd h (by simp)⟩
/-- the cells of one of the Args -/
theorem ArgsP.at_ {enc : XC → List Value} (hE : ∀ x, (enc x).length = 7) {p : Nat → Prop} {n : Nat} {w : World} {A : Option Addr} {args : List (TX n)} (h : ArgsP enc p n w A args) (i : Nat) (hi : i < args.length) :
    ∃ ad b off x, A = some ad ∧ ad.add (i * 7) = ⟨b, off, none⟩ ∧ ExP enc p n w x args[i] ∧ ∀ j u, (enc x)[j]? = some u → w.cell? ⟨b, off + j, none⟩ = some u := by
  obtain ⟨xs, h1, h2, h3⟩ := h
  obtain ⟨ad, b, off, e1, e2, _, e3⟩ := RdK.at_ h2 7 hE (by omega) i (by omega)
  exact ⟨ad, b, off, xs[i], e1, e2, h3 i (by omega) hi, e3⟩
theorem ExP.args {enc : XC → List Value} {p : Nat → Prop} {n : Nat} {w : World} {x : XC} {e : TX (n + 1)} (h : ExP enc p (n + 1) w x e) : x.nd = e.1 ∧ x.n = e.2.length ∧ ArgsP enc p n w x.A e.2 := ⟨h.1, h.2.1, h.2.2.2⟩

/-- a thing of each expression holds throughout -/
def allX (q : ND → Prop) : (n : Nat) → TX n → Prop
  | 0, _ => True
  | n + 1, e => q e.1 ∧ ∀ a ∈ e.2, allX q n a
/-- how many expressions -/
def sizeX : (n : Nat) → TX n → Nat
  | 0, _ => 0
  | n + 1, e => 1 + (e.2.map (sizeX n)).sum
/-- .. in a row -/
def sumX (n : Nat) (l : List (TX n)) : Nat := (l.map (sizeX n)).sum
theorem sumX_snoc (n : Nat) (l : List (TX n)) (k : Nat) (h : k < l.length) : sumX n (l.take (k + 1)) = sumX n (l.take k) + sizeX n l[k] := by
  unfold sumX
  rw [List.take_succ_eq_append_getElem h, List.map_append, List.sum_append]; simp
theorem sizeX_succ (n : Nat) (e : TX (n + 1)) : sizeX (n + 1) e = 1 + sumX n e.2 := rfl
theorem sizeX_pos : ∀ (n : Nat) (e : TX n), 1 ≤ sizeX n e
  | 0, e => e.elim
  | n + 1, e => by unfold sizeX; omega
theorem len_le_sum (n : Nat) (l : List (TX n)) : l.length ≤ sumX n l := by
  unfold sumX
  induction l with
  | nil => simp
  | cons a l ih => have := sizeX_pos n a; simp; omega
theorem sum_take_le (n : Nat) (l : List (TX n)) (k : Nat) : sumX n (l.take k) ≤ sumX n l := by
  unfold sumX
  induction l generalizing k with
  | nil => simp
  | cons a l ih => cases k with
    | zero => simp
    | succ k => have := ih k; rw [List.take_succ_cons, List.map_cons, List.map_cons, List.sum_cons, List.sum_cons]; omega
theorem size_mem {n : Nat} {l : List (TX n)} {a : TX n} (h : a ∈ l) : sizeX n a ≤ sumX n l := by
  unfold sumX
  induction l with
  | nil => cases h
  | cons b l ih =>
    rcases List.mem_cons.1 h with rfl | h
    · simp
    · have := ih h; simp; omega
/-- what is handed over -/
def XC.val (x : XC) : Value := .agg #[.int .i64 x.nd.kind, .string x.nd.name, .int .i64 x.nd.v.kind, .int .i64 x.nd.v.num, .string x.nd.v.text, .string x.nd.op, .slice x.A x.n x.c]
def XC.valR (x : XC) : Value := .agg #[.int .i64 x.nd.kind, .string x.nd.name, .string x.nd.op, .int .i64 x.nd.v.kind, .int .i64 x.nd.v.num, .string x.nd.v.text, .slice x.A x.n x.c]
/-- are both one? -/
def eqN (a b : ND) : Bool := decide (a.kind = b.kind) && (decide (a.name = b.name) && ((decide (a.v.kind = b.v.kind) && (decide (a.v.num = b.v.num) && decide (a.v.text = b.v.text))) && decide (a.op = b.op)))
def eqL {α : Type} (f : α → α → Bool) : List α → List α → Bool
  | [], [] => true
  | a :: r, b :: s => f a b && eqL f r s
  | _, _ => false
def eqX : (n : Nat) → TX n → TX n → Bool
  | 0, _, _ => true
  | n + 1, a, b => eqN a.1 b.1 && eqL (eqX n) a.2 b.2
theorem eqN_iff (a b : ND) : eqN a b = true ↔ a = b := by
  obtain ⟨ak, an, ⟨x1, x2, x3⟩, ao⟩ := a
  obtain ⟨bk, bn, ⟨y1, y2, y3⟩, bo⟩ := b
  simp [eqN]
theorem eqL_iff {α : Type} {f : α → α → Bool} (hf : ∀ a b, f a b = true ↔ a = b) : ∀ l r : List α, eqL f l r = true ↔ l = r
  | [], [] => by simp [eqL]
  | [], _ :: _ => by simp [eqL]
  | _ :: _, [] => by simp [eqL]
  | a :: l, b :: r => by simp [eqL, hf, eqL_iff hf l r]
theorem eqX_iff : ∀ (n : Nat) (a b : TX n), eqX n a b = true ↔ a = b
  | 0, a, _ => a.elim
  | n + 1, a, b => by
    obtain ⟨d, l⟩ := a
    obtain ⟨f, r⟩ := b
    show (eqN d f && eqL (eqX n) l r) = true ↔ _
    rw [Bool.and_eq_true, eqN_iff, eqL_iff (eqX_iff n)]
    constructor
    · rintro ⟨rfl, rfl⟩; rfl
    · intro h; cases h; exact ⟨rfl, rfl⟩
end Go.Proofs.Ytlkckkagoommaaa

/- schema.Schema.Find, slices.IndexFunc at its closure: where a column is. For every schema and name. -/
namespace Go.Proofs.Ytlkckkagoommaaa
open Go.RowKit

/-- the place of the first column of a name -/
def placeV (cs : List CD) (s : ByteArray) : Option Nat := cs.findIdx? fun c => decide (c.name = s)
/-- the same as a number, -1: none -/
def placeI (cs : List CD) (s : ByteArray) : Int := match placeV cs s with | some k => (k : Int) | none => -1
theorem placeV_some {cs : List CD} {s : ByteArray} {k : Nat} (h : k < cs.length) (hk : cs[k].name = s) (hno : ∀ j (hj : j < k), cs[j].name ≠ s) : placeV cs s = some k := by
  unfold placeV
  rw [List.findIdx?_eq_some_iff_getElem]
  exact ⟨h, by simpa using hk, fun j hj => by simpa using hno j hj⟩
theorem placeV_none {cs : List CD} {s : ByteArray} (hno : ∀ j (hj : j < cs.length), cs[j].name ≠ s) : placeV cs s = none := by
  unfold placeV
  rw [List.findIdx?_eq_none_iff]
  intro c hc
  obtain ⟨j, hj, rfl⟩ := List.mem_iff_getElem.1 hc
  simpa using hno j hj
theorem placeV_lt {cs : List CD} {s : ByteArray} {k : Nat} (h : placeV cs s = some k) : k < cs.length := by
  unfold placeV at h
  rw [List.findIdx?_eq_some_iff_getElem] at h
  exact h.1

set_option maxHeartbeats 400000 in
theorem find1_any (c : CD) (B : Nat) (s : ByteArray) (w : World) (hB : w.cell? ⟨B, 0, none⟩ = some (.string s)) :
    Calls Try.prog 63 #[.agg #[.string c.name, .int .i64 c.typ], .pointer (some ⟨B, 0, none⟩)] w fun e w' => e = .returned (.bool (decide (c.name = s))) ∧ Touch [] w w' := by
  have hbq := bs_beq c.name s
  have t0 := (Touch.refl [] w).alloc (.cells #[.string c.name, .int .i64 c.typ] 45)
  have hlt : B < w.heap.size := World.block_lt_of_cell? w _ hB
  go_enter Try.func63, Try.ntmps63
  go_wp2
  all_goals
    go_ret
    exact ⟨rfl, t0⟩

set_option maxRecDepth 20000 in
set_option maxHeartbeats 1600000 in
theorem indexFunc_any (A : Option Addr) (cap n : Nat) (cs : List CD) (hn : cs.length = n) (B : Nat) (s : ByteArray) (w : World) (h : ColsAt w A cs) (hB : w.cell? ⟨B, 0, none⟩ = some (.string s)) (hl : n ≤ 140737000000000) :
    Calls Try.prog 62 #[.slice A n cap, .func (.func 63) #[] #[.pointer (some ⟨B, 0, none⟩)]] w fun e w' =>
      e = .returned (.int .i64 (placeI cs s)) ∧ Touch [] w w' := by
  subst hn
  go_enter Try.func62, Try.ntmps62
  go_wp2
  go_loopw [8] (fun i wr => ∃ k : Nat, k ≤ cs.length ∧ i = .int .i64 k ∧ Hid (∀ j (hj : j < k) (hl : j < cs.length), cs[j].name ≠ s) ∧ Touch [] w wr) (fun i _ => cs.length - (intOf i).toNat)
  case atStart => exact ⟨0, by omega, rfl, Lib.hid (fun j hj => absurd hj (by omega)), Touch.refl _ _⟩
  case round =>
    obtain ⟨k, hk, rfl, Hno, ht⟩ := hrel
    by_cases hlt : k < cs.length
    · obtain ⟨ad, b, off, rfl, hadd, c0, c1⟩ := (h.touch0 ht).at_ k hlt
      have hyes := placeV_some (s := s) hlt
      obtain ⟨c, hce⟩ : ∃ c, c = cs[k] := ⟨_, rfl⟩
      rw [← hce] at c0 c1 hyes
      have Hce := Lib.hid hce; have Hyes := Lib.hid hyes
      clear hce hyes
      have hf := find1_any c B s wr (ht.cell hB (by simp))
      by_cases hcs : c.name = s
      · rw [decide_eq_true hcs] at hf
        have Hf := Lib.hid hf
        have Hp := Lib.hid (Hyes.out hcs (fun j hj => Hno.out j hj (by omega)))
        clear hf hcs
        go_wp2_with (go_at_call 63; refine Hf.out.mono ?_; rintro e w1 ⟨rfl, t1⟩)
        go_ret
        exact ⟨ret_int (by unfold placeI; rw [Hp.out]), ht.trans0 t1⟩
      · rw [decide_eq_false hcs] at hf
        have Hf := Lib.hid hf
        have Hcs := Lib.hid hcs
        clear hf hcs
        go_wp2_with (go_at_call 63; refine Hf.out.mono ?_; rintro e w1 ⟨rfl, t1⟩)
        go_roundw
        case rel => exact ⟨k + 1, by omega, by go_num, Lib.hid (fun j hj hl => by
          by_cases hjk : j = k
          · subst hjk; rw [← Hce.out]; exact Hcs.out
          · exact Hno.out j (by omega) hl), ht.trans0 t1⟩
        case measure => simp [intOf]; omega
    · obtain rfl : k = cs.length := by omega
      have Hp := Lib.hid (placeV_none (cs := cs) (s := s) (fun j hj => Hno.out j hj hj))
      go_wp2
      go_ret
      exact ⟨ret_int (by unfold placeI; rw [Hp.out]), ht⟩

set_option maxHeartbeats 800000 in
theorem findC_any (A : Option Addr) (cap n : Nat) (cs : List CD) (hn : cs.length = n) (s : ByteArray) (w : World) (h : ColsAt w A cs) (hl : n ≤ 140737000000000) :
    Calls Try.prog 40 #[.slice A n cap, .string s] w fun e w' =>
      e = .returned (.tuple #[.int .i64 (((placeV cs s).getD 0 : Nat) : Int), .bool (placeV cs s).isSome]) ∧ Touch [] w w' := by
  subst hn
  have t0 := (Touch.refl [] w).alloc (.cells #[.string s] 9)
  have hb := heap_alloc_new w (.cells #[.string s] 9)
  have hi := indexFunc_any A cap cs.length cs rfl w.heap.size s _ (h.touch0 t0) (cell_blk hb (i := 0) rfl) hl
  rcases hp : placeV cs s with _ | k
  · rw [show placeI cs s = -1 by unfold placeI; rw [hp]] at hi
    have Hi := Lib.hid hi
    clear hi hp hb
    go_enter Try.func40, Try.ntmps40
    go_wp2_with (go_at_call 62; refine Hi.out.mono ?_; rintro e w1 ⟨rfl, t1⟩)
    go_ret2
    exact ⟨rfl, t0.trans0 t1⟩
  · rw [show placeI cs s = (k : Int) by unfold placeI; rw [hp]] at hi
    have hkl := placeV_lt hp
    have Hi := Lib.hid hi
    clear hi hp hb
    have hmx : max (k : Int) 0 = k := by omega
    have hk0 : (0 : Int) ≤ k := by omega
    go_enter Try.func40, Try.ntmps40
    go_wp2_with (go_at_call 62; refine Hi.out.mono ?_; rintro e w1 ⟨rfl, t1⟩)
    go_ret2
    exact ⟨rfl, t0.trans0 t1⟩
end Go.Proofs.Ytlkckkagoommaaa

/- What an expression's type and value are, as the program reckons them. No program's function. -/
namespace Go.Proofs.Ytlkckkagoommaaa
open Go.RowKit

/-- a rule: a name, the types of Args, its own -/
structure RU where
  name : ByteArray
  args : List Int
  out : Int
def rulesV (kind : Int) : List RU :=
  if kind = 3 then [⟨S [45], [1], 1⟩, ⟨S [110, 111, 116], [0], 1⟩]
  else if kind = 4 then [⟨S [43], [1, 1], 1⟩, ⟨S [45], [1, 1], 1⟩, ⟨S [42], [1, 1], 1⟩, ⟨S [47], [1, 1], 1⟩, ⟨S [37], [1, 1], 1⟩,
    ⟨S [61], [-1, -1], 1⟩, ⟨S [33, 61], [-1, -1], 1⟩, ⟨S [60], [-1, -1], 1⟩, ⟨S [60, 61], [-1, -1], 1⟩, ⟨S [62], [-1, -1], 1⟩, ⟨S [62, 61], [-1, -1], 1⟩,
    ⟨S [97, 110, 100], [0, 0], 1⟩, ⟨S [111, 114], [0, 0], 1⟩]
  else if kind = 5 then [⟨S [108, 101, 110], [2], 1⟩, ⟨S [97, 98, 115], [1], 1⟩, ⟨S [105, 115, 110, 117, 108, 108], [0], 1⟩, ⟨S [99, 97, 116], [2, 2], 2⟩,
    ⟨S [101, 105, 116, 104, 101, 114], [-1, -1], -1⟩, ⟨S [105, 102], [0, -1, -1], -1⟩]
  else []
/-- the name that a rule is looked up by -/
def keyN (d : ND) : ByteArray := if d.kind = 5 then d.name else d.op
def ruleI (d : ND) : Option Nat := (rulesV d.kind).findIdx? fun r => decide (r.name = keyN d)
def ruleV (d : ND) : Option RU := match ruleI d with | some k => (rulesV d.kind)[k]? | none => none
def idxI (o : Option Nat) : Int := match o with | some k => (k : Int) | none => -1
def isNull (v : VD) : Bool := decide (v.kind = 0) && (decide (v.num = 0) && decide (v.text = S []))
/-- is the form right, with so many Args? -/
def formV (d : ND) (n : Nat) : Bool :=
  if d.kind = 1 then decide (d.op = S []) && (decide (n = 0) && isNull d.v)
  else if d.kind = 2 then decide (d.name = S []) && (decide (d.op = S []) && (decide (n = 0) && d.v.right))
  else (match ruleV d with | some r => decide (n = r.args.length) | none => false) && (isNull d.v && (if d.kind = 5 then decide (d.op = S []) else decide (d.name = S [])))
/-- do types fit? -/
def fitL : List Int → List Int → Int → Int × Bool
  | w :: ws, t :: ts, both =>
    if t = 0 ∨ w = 0 then fitL ws ts both
    else if w ≠ -1 ∧ w ≠ t ∨ w = -1 ∧ both ≠ 0 ∧ both ≠ t then (0, false)
    else if w = -1 then fitL ws ts t else fitL ws ts both
  | _, _, both => (both, true)
/-- the type of a column of a name; 0: there is none -/
def colT (cs : List CD) (s : ByteArray) : Option Int := match placeV cs s with | some k => cs[k]?.map CD.typ | none => none
/-- the type and the error of one that lies at a depth -/
def typedX (cs : List CD) : (n : Nat) → Nat → TX n → Int × Int
  | 0, _, _ => (0, 0)
  | n + 1, d, e =>
    if 32 < d then (0, 52)
    else if formV e.1 e.2.length = false then (0, 20)
    else if e.1.kind = 2 then (e.1.v.kind, 0)
    else if e.1.kind = 1 then (match colT cs e.1.name with | some t => (t, 0) | none => (0, 13))
    else match e.2.find? fun a => decide ((typedX cs n (d + 1) a).2 ≠ 0) with
      | some a => (0, (typedX cs n (d + 1) a).2)
      | none => match ruleV e.1 with
        | none => (0, 20)
        | some r => match fitL r.args (e.2.map fun a => (typedX cs n (d + 1) a).1) 0 with
          | (both, true) => if r.out = -1 then (both, 0) else (r.out, 0)
          | (_, false) => (0, 12)
def typeX (cs : List CD) (n : Nat) (e : TX n) : Int × Int :=
  if checkV cs = 0 then (if 256 < sizeX n e then (0, 31) else typedX cs n 1 e) else (0, checkV cs)

def zeroV : VD := ⟨0, 0, S []⟩
def ofV (n : Int) : VD := ⟨1, n, S []⟩
def bitV (b : Bool) : VD := if b = true then ofV 1 else ofV 0
def VD.tru (v : VD) : Bool := decide (v.kind = 1) && decide (v.num ≠ 0)
end Go.Proofs.Ytlkckkagoommaaa

/- Rows of numbers as they lie in memory. No program's function. -/
namespace Go.Proofs.Ytlkckkagoommaaa
open Go.RowKit

/-- a number's cell -/
def inE (n : Int) : List Value := [.int .i64 n]
theorem inE_length (n : Int) : (inE n).length = 1 := rfl
theorem inE_one (n : Int) : ∀ u ∈ inE n, u.oneCell' = true := by
  intro u hu
  obtain rfl : u = .int .i64 n := by simpa [inE] using hu
  rfl
theorem RdKI.at_ {w : World} {A : Option Addr} {l : List Int} (h : RdK inE w A l) (i : Nat) (hi : i < l.length) : ∃ ad, A = some ad ∧ w.cell? (ad.add i) = some (.int .i64 l[i]) := by
  obtain ⟨ad, b, off, h1, h2, _, h3⟩ := RdK.at_ h 1 inE_length (by omega) i hi
  rw [Nat.mul_one] at h2
  exact ⟨ad, h1, by rw [h2]; exact h3 0 _ rfl⟩
end Go.Proofs.Ytlkckkagoommaaa

/- expr.rules: the rules of a kind, as they lie in memory. For every kind. -/
namespace Go.Proofs.Ytlkckkagoommaaa
open Go.RowKit

def IntsAt (w : World) (A : Option Addr) (l : List Int) : Prop := RdK inE w A l
theorem IntsAt.touch0 {w w' : World} {A : Option Addr} {l : List Int} (h : IntsAt w A l) (ht : Touch [] w w') : IntsAt w' A l := RdK.touch0 h ht
theorem IntsAt.at_ {w : World} {A : Option Addr} {l : List Int} (h : IntsAt w A l) (i : Nat) (hi : i < l.length) : ∃ ad, A = some ad ∧ w.cell? (ad.add i) = some (.int .i64 l[i]) := by
  obtain ⟨ad, b, off, e1, e2, _, e3⟩ := RdK.at_ h 1 inE_length (by omega) i hi
  rw [Nat.mul_one] at e2
  exact ⟨ad, e1, by rw [e2]; exact e3 0 _ rfl⟩
/-- a rule's cells -/
structure RC where
  name : ByteArray
  A : Option Addr
  n : Nat
  c : Nat
  out : Int
def ruE (r : RC) : List Value := [.string r.name, .slice r.A r.n r.c, .int .i64 r.out]
theorem ruE_length (r : RC) : (ruE r).length = 3 := rfl
/-- rules that lie there, in such blocks -/
def RulesAt (p : Nat → Prop) (w : World) (A : Option Addr) (rs : List RU) : Prop :=
  (∀ b ∈ fpo A, p b) ∧ ∃ cs : List RC, cs.length = rs.length ∧ RdK ruE w A cs ∧ ∀ i (h1 : i < cs.length) (h2 : i < rs.length), cs[i].name = rs[i].name ∧ cs[i].out = rs[i].out ∧ cs[i].n = rs[i].args.length ∧ IntsAt w cs[i].A rs[i].args ∧ ∀ b ∈ fpo cs[i].A, p b
theorem RulesAt.touch {p : Nat → Prop} {w w' : World} {A : Option Addr} {rs : List RU} {fp : List Nat} (h : RulesAt p w A rs) (ht : Touch fp w w') (hp : ∀ b ∈ fp, ¬ p b) : RulesAt p w' A rs := by
  obtain ⟨h0, cs, h1, h2, h3⟩ := h
  exact ⟨h0, cs, h1, RdK.touch h2 ht (fun b hb hm => hp b hm (h0 b hb)), fun i a b => ⟨(h3 i a b).1, (h3 i a b).2.1, (h3 i a b).2.2.1, RdK.touch (h3 i a b).2.2.2.1 ht (fun x hx hm => hp x hm ((h3 i a b).2.2.2.2 x hx)), (h3 i a b).2.2.2.2⟩⟩
theorem RulesAt.touch0 {p : Nat → Prop} {w w' : World} {A : Option Addr} {rs : List RU} (h : RulesAt p w A rs) (ht : Touch [] w w') : RulesAt p w' A rs := h.touch ht (by simp)
theorem RulesAt.at_ {p : Nat → Prop} {w : World} {A : Option Addr} {rs : List RU} (h : RulesAt p w A rs) (i : Nat) (hi : i < rs.length) :
    ∃ ad b off B c, A = some ad ∧ ad.add (i * 3) = ⟨b, off, none⟩ ∧ w.cell? ⟨b, off, none⟩ = some (.string rs[i].name) ∧ w.cell? ⟨b, off + 1, none⟩ = some (.slice B rs[i].args.length c) ∧ w.cell? ⟨b, off + 2, none⟩ = some (.int .i64 rs[i].out) ∧ IntsAt w B rs[i].args ∧ p b ∧ ∀ b ∈ fpo B, p b := by
  obtain ⟨h0, cs, h1, h2, h3⟩ := h
  obtain ⟨ad, b, off, e1, e2, e4, e3⟩ := RdK.at_ h2 3 ruE_length (by omega) i (by omega)
  obtain ⟨f1, f2, f3, f4, f5⟩ := h3 i (by omega) hi
  refine ⟨ad, b, off, cs[i].A, cs[i].c, e1, e2, ?_, ?_, ?_, f4, h0 b (by rw [e1, e4]; simp [fpo]), f5⟩
  · rw [← f1]; exact e3 0 _ rfl
  · rw [← f3]; exact e3 1 _ rfl
  · rw [← f2]; exact e3 2 _ rfl

/-- rows of numbers, laid one behind the other -/
def allocI : World → List (List Int) → World
  | w, [] => w
  | w, l :: r => allocI (w.alloc (.cells (l.flatMap inE).toArray 3)) r
theorem allocI_touch : ∀ (L : List (List Int)) (w : World), Touch [] w (allocI w L)
  | [], _ => Touch.refl _ _
  | _ :: r, w => ((Touch.refl [] w).alloc _).trans0 (allocI_touch r _)
theorem allocI_size : ∀ (L : List (List Int)) (w : World), (allocI w L).heap.size = w.heap.size + L.length
  | [], w => rfl
  | l :: r, w => by
    show (allocI _ r).heap.size = _
    rw [allocI_size r, World.size_alloc, List.length_cons]; omega
theorem allocI_at : ∀ (L : List (List Int)) (w : World) (i : Nat) (h : i < L.length), IntsAt (allocI w L) (some ⟨w.heap.size + i, 0, none⟩) L[i]
  | l :: r, w, 0, _ => (RdK.row w 3 l _ (by simp)).touch0 (allocI_touch r _)
  | l :: r, w, i + 1, h => by
    have := allocI_at r (w.alloc (.cells (l.flatMap inE).toArray 3)) i (by simpa using h)
    rw [World.size_alloc] at this
    have e : w.heap.size + 1 + i = w.heap.size + (i + 1) := by omega
    rw [e] at this
    exact this
def rcs (base : Nat) : List RU → List RC
  | [] => []
  | r :: s => ⟨r.name, some ⟨base, 0, none⟩, r.args.length, r.args.length, r.out⟩ :: rcs (base + 1) s
theorem rcs_len : ∀ (rs : List RU) (base : Nat), (rcs base rs).length = rs.length
  | [], _ => rfl
  | r :: s, base => by show (rcs (base + 1) s).length + 1 = _; rw [rcs_len s]; rfl
theorem rcs_at : ∀ (rs : List RU) (base i : Nat) (h1 : i < (rcs base rs).length) (h2 : i < rs.length), (rcs base rs)[i] = ⟨rs[i].name, some ⟨base + i, 0, none⟩, rs[i].args.length, rs[i].args.length, rs[i].out⟩
  | r :: s, base, 0, _, _ => rfl
  | r :: s, base, i + 1, h1, h2 => by
    have := rcs_at s (base + 1) i (by simpa [rcs] using h1) (by simpa using h2)
    have e : base + 1 + i = base + (i + 1) := by omega
    rw [e] at this
    exact this
theorem rules_laid (rs : List RU) (w : World) : RulesAt (fun b => w.heap.size ≤ b) ((allocI w (rs.map RU.args)).alloc (.cells ((rcs w.heap.size rs).flatMap ruE).toArray 114)) (some ⟨w.heap.size + rs.length, 0, none⟩) rs ∧
    Touch [] w ((allocI w (rs.map RU.args)).alloc (.cells ((rcs w.heap.size rs).flatMap ruE).toArray 114)) := by
  have ta := (Touch.refl [] (allocI w (rs.map RU.args))).alloc (.cells ((rcs w.heap.size rs).flatMap ruE).toArray 114)
  refine ⟨⟨fun b hb => by simp [fpo] at hb; omega, rcs w.heap.size rs, rcs_len _ _, ?_, fun i h1 h2 => ?_⟩, (allocI_touch _ _).trans0 ta⟩
  · have := RdK.row (enc := ruE) (allocI w (rs.map RU.args)) 114 (rcs w.heap.size rs) ((rcs w.heap.size rs).flatMap ruE).toArray (by simp)
    rw [allocI_size, List.length_map] at this
    exact this
  · rw [rcs_at rs w.heap.size i h1 h2]
    refine ⟨rfl, rfl, rfl, IntsAt.touch0 ?_ ta, fun b hb => by simp [fpo] at hb; omega⟩
    have := allocI_at (rs.map RU.args) w i (by simpa using h2)
    rw [List.getElem_map] at this
    exact this

set_option maxRecDepth 100000 in
set_option maxHeartbeats 1600000 in
theorem rules_any (k : Int) (w : World) :
    Calls Try.prog 79 #[.int .i64 k] w fun e w' => ∃ A c, e = .returned (.slice A (rulesV k).length c) ∧ RulesAt (fun b => w.heap.size ≤ b) w' A (rulesV k) ∧ Touch [] w w' := by
  by_cases h3 : k = 3
  · subst h3
    go_enter Try.func79, Try.ntmps79
    go_wp2_with fail
    go_ret
    exact ⟨_, _, rfl, (rules_laid (rulesV 3) w).1, (rules_laid (rulesV 3) w).2⟩
  by_cases h4 : k = 4
  · subst h4
    go_enter Try.func79, Try.ntmps79
    go_wp2_with fail
    go_ret
    exact ⟨_, _, rfl, (rules_laid (rulesV 4) w).1, (rules_laid (rulesV 4) w).2⟩
  by_cases h5 : k = 5
  · subst h5
    go_enter Try.func79, Try.ntmps79
    go_wp2_with fail
    go_ret
    exact ⟨_, _, rfl, (rules_laid (rulesV 5) w).1, (rules_laid (rulesV 5) w).2⟩
  · have e3 : (k == 3) = false := by simpa using h3
    have e4 : (k == 4) = false := by simpa using h4
    have e5 : (k == 5) = false := by simpa using h5
    have Hr := Lib.hid (show rulesV k = [] by unfold rulesV; rw [if_neg h3, if_neg h4, if_neg h5])
    clear h3 h4 h5
    go_enter Try.func79, Try.ntmps79
    go_wp2_with fail
    go_ret
    exact ⟨none, 0, by rw [Hr.out]; rfl, by rw [Hr.out]; exact ⟨by simp [fpo], [], rfl, RdK.nil _ _ _, fun i h => absurd h (by simp)⟩, Touch.refl _ _⟩
end Go.Proofs.Ytlkckkagoommaaa

/- Rows of expressions of the calls' own: how one more comes to them. No program's function. -/
namespace Go.Proofs.Ytlkckkagoommaaa
open Go.RowKit

/-- blocks behind a base that are there -/
def Fr (base : Nat) (w : World) : Nat → Prop := fun b => base ≤ b ∧ b < w.heap.size
/-- a row of expressions of the calls' own; what lies below it lies elsewhere -/
def OwnX (t : TypeId) (enc : XC → List Value) (base n : Nat) (w : World) (B : Option Addr) (c : Nat) (args : List (TX n)) : Prop :=
  ∃ xs : List XC, xs.length = args.length ∧ OwnK t 7 enc w B c xs ∧ (∀ b ∈ fpo B, base ≤ b) ∧ ∀ i (h1 : i < xs.length) (h2 : i < args.length), ExP enc (fun b => Fr base w b ∧ b ∉ fpo B) n w xs[i] args[i]
theorem OwnX.nil (t : TypeId) (enc : XC → List Value) (base n : Nat) (w : World) : OwnX t enc base n w none 0 [] := ⟨[], rfl, OwnK.nil _ _ _ _, by simp [fpo], fun i h => absurd h (by simp)⟩
theorem OwnX.lt {t : TypeId} {enc : XC → List Value} {base n : Nat} {w : World} {B : Option Addr} {c : Nat} {args : List (TX n)} (h : OwnX t enc base n w B c args) : ∀ b ∈ fpo B, base ≤ b ∧ b < w.heap.size := by
  obtain ⟨xs, _, h2, h3, _⟩ := h
  exact fun b hb => ⟨h3 b hb, h2.lt b hb⟩
theorem OwnX.touch {t : TypeId} {enc : XC → List Value} {base n : Nat} {w w' : World} {B : Option Addr} {c : Nat} {args : List (TX n)} {fp : List Nat} (h : OwnX t enc base n w B c args) (ht : Touch fp w w') (hfp : ∀ b ∈ fp, b < base) : OwnX t enc base n w' B c args := by
  obtain ⟨xs, h1, h2, h3, h4⟩ := h
  exact ⟨xs, h1, h2.touch ht (fun b hb hm => by have := hfp b hm; have := h3 b hb; omega), h3, fun i a b => ((h4 i a b).touch ht (fun b hb hp => by have := hfp b hb; have := hp.1.1; omega)).mono (fun b hb => ⟨⟨hb.1.1, Nat.lt_of_lt_of_le hb.1.2 ht.size⟩, hb.2⟩)⟩
theorem OwnX.touch0 {t : TypeId} {enc : XC → List Value} {base n : Nat} {w w' : World} {B : Option Addr} {c : Nat} {args : List (TX n)} (h : OwnX t enc base n w B c args) (ht : Touch [] w w') : OwnX t enc base n w' B c args := h.touch ht (by simp)
theorem OwnX.tree {t : TypeId} {enc : XC → List Value} {base n : Nat} {w : World} {B : Option Addr} {c : Nat} {args : List (TX n)} (h : OwnX t enc base n w B c args) (nd : ND) (m : Nat) (hm : m = args.length) : ExP enc (Fr base w) (n + 1) w ⟨nd, B, m, c⟩ (nd, args) := by
  have hlt := h.lt
  obtain ⟨xs, h1, h2, _, h4⟩ := h
  exact ⟨rfl, hm, hlt, xs, h1, h2.rd, fun i a b => (h4 i a b).mono fun b hb => hb.1⟩
theorem OwnX.base {t : TypeId} {enc : XC → List Value} {base base' n : Nat} {w : World} {B : Option Addr} {c : Nat} {args : List (TX n)} (h : OwnX t enc base n w B c args) (hb : base' ≤ base) : OwnX t enc base' n w B c args := by
  obtain ⟨xs, h1, h2, h3, h4⟩ := h
  exact ⟨xs, h1, h2, fun b hbm => by have := h3 b hbm; omega, fun i a b => (h4 i a b).mono fun b hp => ⟨⟨by have := hp.1.1; omega, hp.1.2⟩, hp.2⟩⟩

/-- append of one more expression -/
theorem wpList_appX {enc : XC → List Value} (hE : ∀ x, (enc x).length = 7) (hone : ∀ x, ∀ u ∈ enc x, u.oneCell' = true) {w : World} {ops : Array Oper} {rest : List Oper} {o : Oper} {a : Act} {Q : Exit → Act → World → Prop} (hgd : o.guard = none) (s y : Operand) (t : TypeId)
    (ho : o.op = .call { callee := .builtin .append, args := #[s, y], argTypes := #[t, t] })
    (e : TypeId) (z : Value) (bytes : Nat) (hinfo : (Try.prog.info? e).map (fun i => (i.zero, i.size, i.bytes)) = some (some z, 7, bytes)) (ht : Try.prog.underlying t = some (.slice e)) (hzs : z.cells.size = 7) (hby : bytes ≤ 1000)
    (base n : Nat) (B : Option Addr) (m c : Nat) (args : List (TX n)) (hm : args.length = m) (hs : a.eval s = .slice B m c) (hown : OwnX e enc base n w B c args)
    (x : XC) (r : TX n) (hx : ExP enc (fun b => Fr base w b ∧ b ∉ fpo B) n w x r) (hbase : base ≤ w.heap.size)
    (g : Nat) (hy : a.eval y = .slice (some ⟨w.heap.size, 0, none⟩) 1 g) (h63 : m + 1 ≤ 1000000000) {cs : Array Value} (hcs : cs.toList = enc x)
    (h : ∀ B' c' w', OwnX e enc base n w' B' c' (args ++ [r]) → Touch (fpo B) w w' → (∀ b ∈ fpo B', b ∈ fpo B ∨ w.heap.size < b) → wpList Try.prog ops Q rest (a.put o.dst (.slice B' (m + 1) c')) w') :
    wpList Try.prog ops Q (o :: rest) a (w.alloc (.cells cs e)) := by
  obtain ⟨xs, h1, h2, h3, h4⟩ := hown
  have ta := (Touch.refl [] w).alloc (.cells cs e)
  refine wpList_appK (enc := enc) hgd s y t ho e z 7 bytes hinfo ht hzs (by omega) hE hone B m c xs (by rw [h1, hm]) hs (h2.touch0 ta)
    (some ⟨w.heap.size, 0, none⟩) 1 g [x] rfl hy (RdK.one (enc := enc) w e x cs hcs) h63 hby ?_
  intro B' c' w' hown' t' hf'
  rw [World.size_alloc] at hf'
  have hw := t'.size
  rw [World.size_alloc] at hw
  have hlt := h2.lt
  have tt : Touch (fpo B) w w' := (ta.mono (fp2 := fpo B) (fun b hb => by simp at hb)).trans t' (fun b hb => .inl hb)
  have key : ∀ {x : XC} {r : TX n}, ExP enc (fun b => Fr base w b ∧ b ∉ fpo B) n w x r → ExP enc (fun b => Fr base w' b ∧ b ∉ fpo B') n w' x r := fun hx =>
    (hx.touch tt (fun b hb hp => hp.2 hb)).mono fun b hp => ⟨⟨hp.1.1, by have := hp.1.2; omega⟩, fun hm => by
      rcases hf' b hm with q | q
      · exact hp.2 q
      · have := hp.1.2; omega⟩
  refine h B' c' w' ⟨xs ++ [x], by simp [h1], hown', fun b hb => ?_, fun i a1 b1 => ?_⟩ tt (fun b hb => ?_)
  · rcases hf' b hb with q | q
    · exact h3 b q
    · omega
  · by_cases hi : i < xs.length
    · have hi2 : i < args.length := by rw [← h1]; exact hi
      rw [List.getElem_append_left hi, List.getElem_append_left hi2]
      exact key (h4 i hi hi2)
    · have hi' : i = xs.length := by rw [List.length_append] at a1; simp at a1; omega
      subst hi'
      have e1 : (xs ++ [x])[xs.length] = x := by rw [List.getElem_append_right (Nat.le_refl _)]; simp
      have e2 : (args ++ [r])[xs.length] = r := by rw [List.getElem_append_right (by rw [h1]; exact Nat.le_refl _)]; simp [h1]
      rw [e1, e2]
      exact key hx
  · rcases hf' b hb with q | q
    · exact .inl q
    · exact .inr (by omega)
/-- the same as one step of a region that draws its order -/
theorem step_appX {enc : XC → List Value} (hE : ∀ x, (enc x).length = 7) (hone : ∀ x, ∀ u ∈ enc x, u.oneCell' = true) {w : World} {ops : Array Oper} {o : Oper} {a : Act} {K : Act → World → Prop} {Q : Exit → Act → World → Prop} {E : Prop} (hgd : o.guard = none) (s y : Operand) (t : TypeId)
    (ho : o.op = .call { callee := .builtin .append, args := #[s, y], argTypes := #[t, t] })
    (e : TypeId) (z : Value) (bytes : Nat) (hinfo : (Try.prog.info? e).map (fun i => (i.zero, i.size, i.bytes)) = some (some z, 7, bytes)) (ht : Try.prog.underlying t = some (.slice e)) (hzs : z.cells.size = 7) (hby : bytes ≤ 1000)
    (base n : Nat) (B : Option Addr) (m c : Nat) (args : List (TX n)) (hm : args.length = m) (hs : a.eval s = .slice B m c) (hown : OwnX e enc base n w B c args)
    (x : XC) (r : TX n) (hx : ExP enc (fun b => Fr base w b ∧ b ∉ fpo B) n w x r) (hbase : base ≤ w.heap.size)
    (g : Nat) (hy : a.eval y = .slice (some ⟨w.heap.size, 0, none⟩) 1 g) (h63 : m + 1 ≤ 1000000000) {cs : Array Value} (hcs : cs.toList = enc x)
    (h : ∀ B' c' w', OwnX e enc base n w' B' c' (args ++ [r]) → Touch (fpo B) w w' → (∀ b ∈ fpo B', b ∈ fpo B ∨ w.heap.size < b) → K (a.put o.dst (.slice B' (m + 1) c')) w') :
    if Region.wanted o (yielded ops a.tmps) = true then Oper.wp Try.prog o a (w.alloc (.cells cs e)) K Q else E := by
  obtain ⟨xs, h1, h2, h3, h4⟩ := hown
  have ta := (Touch.refl [] w).alloc (.cells cs e)
  refine step_appK (enc := enc) hgd s y t ho e z 7 bytes hinfo ht hzs (by omega) hE hone B m c xs (by rw [h1, hm]) hs (h2.touch0 ta)
    (some ⟨w.heap.size, 0, none⟩) 1 g [x] rfl hy (RdK.one (enc := enc) w e x cs hcs) h63 hby ?_
  intro B' c' w' hown' t' hf'
  rw [World.size_alloc] at hf'
  have hw := t'.size
  rw [World.size_alloc] at hw
  have hlt := h2.lt
  have tt : Touch (fpo B) w w' := (ta.mono (fp2 := fpo B) (fun b hb => by simp at hb)).trans t' (fun b hb => .inl hb)
  have key : ∀ {x : XC} {r : TX n}, ExP enc (fun b => Fr base w b ∧ b ∉ fpo B) n w x r → ExP enc (fun b => Fr base w' b ∧ b ∉ fpo B') n w' x r := fun hx =>
    (hx.touch tt (fun b hb hp => hp.2 hb)).mono fun b hp => ⟨⟨hp.1.1, by have := hp.1.2; omega⟩, fun hm => by
      rcases hf' b hm with q | q
      · exact hp.2 q
      · have := hp.1.2; omega⟩
  refine h B' c' w' ⟨xs ++ [x], by simp [h1], hown', fun b hb => ?_, fun i a1 b1 => ?_⟩ tt (fun b hb => ?_)
  · rcases hf' b hb with q | q
    · exact h3 b q
    · omega
  · by_cases hi : i < xs.length
    · have hi2 : i < args.length := by rw [← h1]; exact hi
      rw [List.getElem_append_left hi, List.getElem_append_left hi2]
      exact key (h4 i hi hi2)
    · have hi' : i = xs.length := by rw [List.length_append] at a1; simp at a1; omega
      subst hi'
      have e1 : (xs ++ [x])[xs.length] = x := by rw [List.getElem_append_right (Nat.le_refl _)]; simp
      have e2 : (args ++ [r])[xs.length] = r := by rw [List.getElem_append_right (by rw [h1]; exact Nat.le_refl _)]; simp [h1]
      rw [e1, e2]
      exact key hx
  · rcases hf' b hb with q | q
    · exact .inl q
    · exact .inr (by omega)
/-- a struct of seven cells is written -/
theorem out7 {X : World} {R : Nat} {t : TypeId} {a0 a1 a2 a3 a4 a5 a6 : Value} (h : X.heap[R]? = some (.cells #[a0, a1, a2, a3, a4, a5, a6] t (0, 0))) (v0 v1 v2 v3 v4 v5 v6 : Value) :
    (((((((X.setCell ⟨R, 0, none⟩ v0).setCell ⟨R, 1, none⟩ v1).setCell ⟨R, 2, none⟩ v2).setCell ⟨R, 3, none⟩ v3).setCell ⟨R, 4, none⟩ v4).setCell ⟨R, 5, none⟩ v5).setCell ⟨R, 6, none⟩ v6).heap[R]? = some (.cells #[v0, v1, v2, v3, v4, v5, v6] t (0, 0)) ∧ Touch [R] X (((((((X.setCell ⟨R, 0, none⟩ v0).setCell ⟨R, 1, none⟩ v1).setCell ⟨R, 2, none⟩ v2).setCell ⟨R, 3, none⟩ v3).setCell ⟨R, 4, none⟩ v4).setCell ⟨R, 5, none⟩ v5).setCell ⟨R, 6, none⟩ v6) := by
  have t := Touch.refl [R] X
  have h0 := set_blk h 0 v0
  have t := t.setCell (p := ⟨R, 0, none⟩) (.inl (by simp)) v0
  simp only [List.setIfInBounds_toArray, List.set_cons_zero] at h0
  have h1 := set_blk h0 1 v1
  have t := t.setCell (p := ⟨R, 1, none⟩) (.inl (by simp)) v1
  simp only [List.setIfInBounds_toArray, List.set_cons_zero, List.set_cons_succ] at h1
  have h2 := set_blk h1 2 v2
  have t := t.setCell (p := ⟨R, 2, none⟩) (.inl (by simp)) v2
  simp only [List.setIfInBounds_toArray, List.set_cons_zero, List.set_cons_succ] at h2
  have h3 := set_blk h2 3 v3
  have t := t.setCell (p := ⟨R, 3, none⟩) (.inl (by simp)) v3
  simp only [List.setIfInBounds_toArray, List.set_cons_zero, List.set_cons_succ] at h3
  have h4 := set_blk h3 4 v4
  have t := t.setCell (p := ⟨R, 4, none⟩) (.inl (by simp)) v4
  simp only [List.setIfInBounds_toArray, List.set_cons_zero, List.set_cons_succ] at h4
  have h5 := set_blk h4 5 v5
  have t := t.setCell (p := ⟨R, 5, none⟩) (.inl (by simp)) v5
  simp only [List.setIfInBounds_toArray, List.set_cons_zero, List.set_cons_succ] at h5
  have h6 := set_blk h5 6 v6
  have t := t.setCell (p := ⟨R, 6, none⟩) (.inl (by simp)) v6
  simp only [List.setIfInBounds_toArray, List.set_cons_zero, List.set_cons_succ] at h6
  exact ⟨h6, t⟩
theorem blk7 {w : World} {R : Nat} {t : TypeId} {a0 a1 a2 a3 a4 a5 a6 : Value} (h : w.heap[R]? = some (.cells #[a0, a1, a2, a3, a4, a5, a6] t (0, 0))) :
    w.cell? ⟨R, 0, none⟩ = some a0 ∧ w.cell? ⟨R, 1, none⟩ = some a1 ∧ w.cell? ⟨R, 2, none⟩ = some a2 ∧ w.cell? ⟨R, 3, none⟩ = some a3 ∧ w.cell? ⟨R, 4, none⟩ = some a4 ∧ w.cell? ⟨R, 5, none⟩ = some a5 ∧ w.cell? ⟨R, 6, none⟩ = some a6 ∧ w.frozen? ⟨R, 0, none⟩ = false ∧ w.frozen? ⟨R, 1, none⟩ = false ∧ w.frozen? ⟨R, 2, none⟩ = false ∧ w.frozen? ⟨R, 3, none⟩ = false ∧ w.frozen? ⟨R, 4, none⟩ = false ∧ w.frozen? ⟨R, 5, none⟩ = false ∧ w.frozen? ⟨R, 6, none⟩ = false :=
  ⟨cell_blk h rfl, cell_blk h rfl, cell_blk h rfl, cell_blk h rfl, cell_blk h rfl, cell_blk h rfl, cell_blk h rfl, by simp [World.frozen?, h], by simp [World.frozen?, h], by simp [World.frozen?, h], by simp [World.frozen?, h], by simp [World.frozen?, h], by simp [World.frozen?, h], by simp [World.frozen?, h]⟩
end Go.Proofs.Ytlkckkagoommaaa

/- value.Of, value.Null, value.Text, value.Value.True, expr.bit: small functions on values. -/
namespace Go.Proofs.Ytlkckkagoommaaa
open Go.RowKit

/-- a struct of three cells is written -/
theorem out3 {X : World} {R : Nat} {t : TypeId} {a0 a1 a2 : Value} (h : X.heap[R]? = some (.cells #[a0, a1, a2] t (0, 0))) (v0 v1 v2 : Value) :
    (((X.setCell ⟨R, 0, none⟩ v0).setCell ⟨R, 1, none⟩ v1).setCell ⟨R, 2, none⟩ v2).heap[R]? = some (.cells #[v0, v1, v2] t (0, 0)) ∧ Touch [R] X (((X.setCell ⟨R, 0, none⟩ v0).setCell ⟨R, 1, none⟩ v1).setCell ⟨R, 2, none⟩ v2) :=
  ⟨set_blk (set_blk (set_blk h 0 v0) 1 v1) 2 v2, (((Touch.refl [R] X).setCell (p := ⟨R, 0, none⟩) (.inl (by simp)) v0).setCell (p := ⟨R, 1, none⟩) (.inl (by simp)) v1).setCell (p := ⟨R, 2, none⟩) (.inl (by simp)) v2⟩
theorem blk3 {w : World} {R : Nat} {a b c : Value} {t : TypeId} (h : w.heap[R]? = some (.cells #[a, b, c] t (0, 0))) : w.cell? ⟨R, 0, none⟩ = some a ∧ w.cell? ⟨R, 1, none⟩ = some b ∧ w.cell? ⟨R, 2, none⟩ = some c ∧
    w.frozen? ⟨R, 0, none⟩ = false ∧ w.frozen? ⟨R, 1, none⟩ = false ∧ w.frozen? ⟨R, 2, none⟩ = false :=
  ⟨cell_blk h rfl, cell_blk h rfl, cell_blk h rfl, by simp [World.frozen?, h], by simp [World.frozen?, h], by simp [World.frozen?, h]⟩

set_option maxRecDepth 20000 in
theorem of_any (n : Int) (w : World) : Calls Try.prog 23 #[.int .i64 n] w fun e w' => e = .returned (ofV n).val ∧ Touch [] w w' := by
  dsimp only [VD.val, ofV]
  go_enter Try.func23, Try.ntmps23
  go_wp2_with fail
  exact bodyPost_ret (results_cell_row rfl _ _ w.heap.size _ _ _ _ rfl (heap_alloc_new w _) Try.underlying30 rfl rfl) rfl ⟨rfl, (Touch.refl _ _).alloc _⟩
set_option maxRecDepth 20000 in
theorem null_any (w : World) : Calls Try.prog 19 #[] w fun e w' => e = .returned zeroV.val ∧ Touch [] w w' := by
  dsimp only [VD.val, zeroV]
  go_enter Try.func19, Try.ntmps19
  go_wp2_with fail
  exact bodyPost_ret (results_cell_row rfl _ _ w.heap.size _ _ _ _ rfl (heap_alloc_new w _) Try.underlying30 rfl rfl) rfl ⟨rfl, (Touch.refl _ _).alloc _⟩
set_option maxRecDepth 20000 in
theorem text_any (s : ByteArray) (w : World) : Calls Try.prog 64 #[.string s] w fun e w' => e = .returned (VD.val ⟨2, 0, s⟩) ∧ Touch [] w w' := by
  dsimp only [VD.val]
  go_enter Try.func64, Try.ntmps64
  go_wp2_with fail
  exact bodyPost_ret (results_cell_row rfl _ _ w.heap.size _ _ _ _ rfl (heap_alloc_new w _) Try.underlying30 rfl rfl) rfl ⟨rfl, (Touch.refl _ _).alloc _⟩
set_option maxRecDepth 20000 in
theorem true_any (v : VD) (w : World) : Calls Try.prog 41 #[v.val] w fun e w' => e = .returned (.bool v.tru) ∧ Touch [] w w' := by
  obtain ⟨k, n, s⟩ := v
  dsimp only [VD.val]
  have t0 := (Touch.refl [] w).alloc (.cells #[.int .i64 k, .int .i64 n, .string s] 30)
  by_cases h1 : k = 1
  · have hk : (k == 1) = true := by simpa using h1
    by_cases h0 : n = 0
    · have hn : (n != 0) = false := by simpa using h0
      have Hf := Lib.hid (show VD.tru ⟨k, n, s⟩ = false by simp [VD.tru, h0])
      clear h0 h1
      go_enter Try.func41, Try.ntmps41
      go_wp2_with fail
      go_ret
      exact ⟨by rw [Hf.out]; rfl, t0⟩
    · have hn : (n != 0) = true := by simpa using h0
      have Hf := Lib.hid (show VD.tru ⟨k, n, s⟩ = true by simp [VD.tru, h0, h1])
      clear h0 h1
      go_enter Try.func41, Try.ntmps41
      go_wp2_with fail
      go_ret
      exact ⟨by rw [Hf.out]; rfl, t0⟩
  · have hk : (k == 1) = false := by simpa using h1
    have Hf := Lib.hid (show VD.tru ⟨k, n, s⟩ = false by simp [VD.tru, h1])
    clear h1
    go_enter Try.func41, Try.ntmps41
    go_wp2_with fail
    go_ret
    exact ⟨by rw [Hf.out]; rfl, t0⟩
set_option maxRecDepth 20000 in
theorem bit_any (b : Bool) (w : World) : Calls Try.prog 70 #[.bool b] w fun e w' => e = .returned (bitV b).val ∧ Touch [] w w' := by
  have h1 := Lib.hid fun w' => of_any 1 w'
  have h0 := Lib.hid fun w' => of_any 0 w'
  simp only [VD.val, ofV] at h1 h0
  have t0 := (Touch.refl [] w).alloc (.cells #[.int .i64 0, .int .i64 0, .string ⟨#[]⟩] 30)
  have hb := heap_alloc_new w (.cells #[.int .i64 0, .int .i64 0, .string ⟨#[]⟩] 30)
  have Hb := Lib.hid hb
  clear hb
  cases b
  · simp only [bitV, VD.val, ofV]
    go_enter Try.func70, Try.ntmps70
    go_wp2_with fail
    refine (h0.out _).mono ?_
    rintro e w1 ⟨rfl, t1⟩
    have hb1 := t1.blk Hb.out (by simp)
    obtain ⟨c0, c1, c2, f0, f1, f2⟩ := blk3 hb1
    go_wp2_with fail
    obtain ⟨q1, q2⟩ := out3 hb1 (.int .i64 1) (.int .i64 0) (.string (S []))
    exact bodyPost_ret (results_cell_row rfl _ _ w.heap.size _ _ _ _ rfl q1 Try.underlying30 rfl rfl) rfl ⟨rfl, (t0.trans0 t1).trans q2 (fun b hb => .inr (by simp at hb; omega))⟩
  · simp only [bitV, VD.val, ofV]
    go_enter Try.func70, Try.ntmps70
    go_wp2_with fail
    refine (h1.out _).mono ?_
    rintro e w1 ⟨rfl, t1⟩
    have hb1 := t1.blk Hb.out (by simp)
    obtain ⟨c0, c1, c2, f0, f1, f2⟩ := blk3 hb1
    go_wp2_with fail
    obtain ⟨q1, q2⟩ := out3 hb1 (.int .i64 1) (.int .i64 1) (.string (S []))
    exact bodyPost_ret (results_cell_row rfl _ _ w.heap.size _ _ _ _ rfl q1 Try.underlying30 rfl rfl) rfl ⟨rfl, (t0.trans0 t1).trans q2 (fun b hb => .inr (by simp at hb; omega))⟩
end Go.Proofs.Ytlkckkagoommaaa

/- A region that draws its order, walked by hand under a condition on the world that may change on the way. No program's function. -/
namespace Go.Proofs.Ytlkckkagoommaaa
open Go.RowKit

section
variable {P : Program} {ops : Array Oper} {Q : Exit → Act → World → Prop} {md : Region.Mode} {S S' : World → Prop}
/-- a walk that holds more holds less -/
theorem wpAnyH_weak (hS : ∀ w, S w → S' w) : ∀ (fuel : Nat) (listed : Array Bool) (a : Act) (w : World), wpAnyH P md ops Q S fuel listed a w → wpAnyH P md ops Q S' fuel listed a w
  | 0, _, _, _, h => h
  | fuel + 1, _, _, _, h => ⟨h.1, fun i hi => wpOp_mono (fun a' w' h' => ⟨hS w' h'.1, wpAnyH_weak hS fuel _ a' w' h'.2⟩) (h.2 i hi)⟩
/-- 'wpAnyH_take', the operation's temporary told by its number -/
theorem take_d {i d : Nat} {oi : Oper} {v : Value} {fuel : Nat} {listed : Array Bool} {a : Act} {w : World} (hi : ops[i]? = some oi) (hd : oi.dst = some d)
    (hs : Region.noSelect ops = true) (hf : Region.free md ops listed i = true) (hr : (Region.ready md ops listed).contains i = true)
    (hQ : ∀ c a w, Q (.panic c) (a.put oi.dst v) w → Q (.panic c) a w) (hy : YieldsIf P ops S oi v a) (hS : S w)
    (h : wpAnyH P md ops Q S fuel (listed.setIfInBounds i true) (a.put (some d) v) w) : wpAnyH P md ops Q S (fuel + 1) listed a w :=
  wpAnyH_take hi hs hf hr hQ hy hS (by rw [hd]; exact h)
end
end Go.Proofs.Ytlkckkagoommaaa

/- expr.Expr.rule, slices.IndexFunc at its closure: the rule of an expression. For every expression. -/
namespace Go.Proofs.Ytlkckkagoommaaa
open Go.RowKit
attribute [local go_sem ↓] Go.wp_at_zero Go.wp_at_succ

theorem rules_len (k : Int) : (rulesV k).length ≤ 140737000000000 := by unfold rulesV; split <;> (try split) <;> (try split) <;> simp
theorem rules_args (k : Int) (r : RU) (h : r ∈ rulesV k) : r.args.length ≤ 3 := by
  unfold rulesV at h
  split at h
  · simp at h; rcases h with rfl | rfl <;> simp
  · split at h
    · simp at h; rcases h with rfl | rfl | rfl | rfl | rfl | rfl | rfl | rfl | rfl | rfl | rfl | rfl | rfl <;> simp
    · split at h
      · simp at h; rcases h with rfl | rfl | rfl | rfl | rfl | rfl <;> simp
      · simp at h
theorem fi_some {α : Type} {p : α → Bool} {l : List α} {k : Nat} (h : k < l.length) (hk : p l[k] = true) (hno : ∀ j (hj : j < k), p (l[j]'(by omega)) = false) : l.findIdx? p = some k := by
  rw [List.findIdx?_eq_some_iff_getElem]
  exact ⟨h, hk, fun j hj => by rw [hno j hj]; simp⟩
theorem fi_none {α : Type} {p : α → Bool} {l : List α} (hno : ∀ j (hj : j < l.length), p l[j] = false) : l.findIdx? p = none := by
  rw [List.findIdx?_eq_none_iff]
  intro c hc
  obtain ⟨j, hj, rfl⟩ := List.mem_iff_getElem.1 hc
  exact hno j hj
theorem fi_lt {α : Type} {p : α → Bool} {l : List α} {k : Nat} (h : l.findIdx? p = some k) : k < l.length := by
  rw [List.findIdx?_eq_some_iff_getElem] at h
  exact h.1

set_option maxHeartbeats 400000 in
theorem rule1_any (nm : ByteArray) (A : Option Addr) (m c : Nat) (out : Int) (B : Nat) (s : ByteArray) (w : World) (hB : w.cell? ⟨B, 0, none⟩ = some (.string s)) :
    Calls Try.prog 81 #[.agg #[.string nm, .slice A m c, .int .i64 out], .pointer (some ⟨B, 0, none⟩)] w fun e w' => e = .returned (.bool (decide (nm = s))) ∧ Touch [] w w' := by
  have hbq := bs_beq nm s
  have t0 := (Touch.refl [] w).alloc (.cells #[.string nm, .slice A m c, .int .i64 out] 114)
  have hlt : B < w.heap.size := World.block_lt_of_cell? w _ hB
  go_enter Try.func81, Try.ntmps81
  go_wp2
  all_goals
    go_ret
    exact ⟨rfl, t0⟩

set_option maxRecDepth 20000 in
set_option maxHeartbeats 1600000 in
theorem indexRules_any (A : Option Addr) (cap n : Nat) (rs : List RU) (hn : rs.length = n) (B : Nat) (s : ByteArray) (w : World) {p : Nat → Prop} (h : RulesAt p w A rs) (hB : w.cell? ⟨B, 0, none⟩ = some (.string s)) (hl : n ≤ 140737000000000) :
    Calls Try.prog 80 #[.slice A n cap, .func (.func 81) #[] #[.pointer (some ⟨B, 0, none⟩)]] w fun e w' =>
      e = .returned (.int .i64 (idxI (rs.findIdx? fun r => decide (r.name = s)))) ∧ Touch [] w w' := by
  subst hn
  go_enter Try.func80, Try.ntmps80
  go_wp2
  go_loopw [8] (fun i wr => ∃ k : Nat, k ≤ rs.length ∧ i = .int .i64 k ∧ Hid (∀ j (hj : j < k) (hl : j < rs.length), decide (rs[j].name = s) = false) ∧ Touch [] w wr) (fun i _ => rs.length - (intOf i).toNat)
  case atStart => exact ⟨0, by omega, rfl, Lib.hid (fun j hj => absurd hj (by omega)), Touch.refl _ _⟩
  case round =>
    obtain ⟨k, hk, rfl, Hno, ht⟩ := hrel
    by_cases hlt : k < rs.length
    · obtain ⟨ad, b, off, C, cc, rfl, hadd, c0, c1, c2, _, _, _⟩ := (h.touch0 ht).at_ k hlt
      have hyes := fi_some (p := fun r : RU => decide (r.name = s)) hlt
      obtain ⟨c, hce⟩ : ∃ c, c = rs[k] := ⟨_, rfl⟩
      rw [← hce] at c0 c1 c2 hyes
      have Hce := Lib.hid hce; have Hyes := Lib.hid hyes
      clear hce hyes
      have hf := rule1_any c.name C c.args.length cc c.out B s wr (ht.cell hB (by simp))
      have hkI : (k : Int) < (rs.length : Int) := by omega
      rcases hcs : decide (c.name = s) with _ | _
      · rw [hcs] at hf
        have Hf := Lib.hid hf
        have Hs := Lib.hid (show ∀ j (hj : j < k + 1) (hl : j < rs.length), decide (rs[j].name = s) = false from fun j hj hl => by
          by_cases hj' : j < k
          · exact Hno.out j hj' hl
          · obtain rfl : j = k := by omega
            rw [← Hce.out]; exact hcs)
        clear hf hcs
        go_wp2_with fail
        refine Hf.out.mono ?_
        rintro e w1 ⟨rfl, t1⟩
        go_wp2
        go_roundw
        case rel => exact ⟨k + 1, by omega, by go_num, Hs, ht.trans0 t1⟩
        case measure => simp [intOf]; omega
      · have Hp := Lib.hid (Hyes.out hcs (fun j hj => Hno.out j hj (by omega)))
        rw [hcs] at hf
        have Hf := Lib.hid hf
        clear hf hcs
        go_wp2_with fail
        refine Hf.out.mono ?_
        rintro e w1 ⟨rfl, t1⟩
        go_wp2
        go_ret
        exact ⟨by rw [Hp.out]; rfl, ht.trans0 t1⟩
    · obtain rfl : k = rs.length := by omega
      have Hp := Lib.hid (fi_none (p := fun r : RU => decide (r.name = s)) (fun j hj => Hno.out j hj hj))
      go_wp2
      go_ret
      exact ⟨by rw [Hp.out]; rfl, ht⟩

/-- the outcome of rule -/
def RulePost (d : ND) (n : Nat) (e : Ending) (w' : World) : Prop :=
  match ruleV d with
  | none => e = .returned (.tuple #[.agg #[.string ⟨#[]⟩, .slice none 0 0, .int .i64 0], .bool false])
  | some r => ∃ B c, e = .returned (.tuple #[.agg #[.string r.name, .slice B r.args.length c, .int .i64 r.out], .bool (decide (n = r.args.length))]) ∧ IntsAt w' B r.args

set_option maxRecDepth 100000 in
set_option maxHeartbeats 3200000 in
theorem rule_any (x : XC) (w : World) :
    Calls Try.prog 66 #[x.val] w fun e w' => RulePost x.nd x.n e w' ∧ Touch [] w w' := by
  obtain ⟨⟨k, nm, ⟨vk, vn, vt⟩, op⟩, A, m, c⟩ := x
  dsimp only [XC.val]
  have Hrs := Lib.hid fun w' => rules_any k w'
  have t0 := ((Touch.refl [] w).alloc (.cells #[.int .i64 k, .string nm, .int .i64 vk, .int .i64 vn, .string vt, .string op, .slice A m c] 33)).alloc (.cells #[.string ⟨#[]⟩, .slice none 0 0, .int .i64 0] 114)
  have hbx := ((Touch.refl [] (w.alloc (.cells #[.int .i64 k, .string nm, .int .i64 vk, .int .i64 vn, .string vt, .string op, .slice A m c] 33))).alloc (.cells #[.string ⟨#[]⟩, .slice none 0 0, .int .i64 0] 114)).blk (heap_alloc_new w (.cells #[.int .i64 k, .string nm, .int .i64 vk, .int .i64 vn, .string vt, .string op, .slice A m c] 33)) (by simp)
  have hbr := heap_alloc_new (w.alloc (.cells #[.int .i64 k, .string nm, .int .i64 vk, .int .i64 vn, .string vt, .string op, .slice A m c] 33)) (.cells #[.string ⟨#[]⟩, .slice none 0 0, .int .i64 0] 114)
  simp only [World.size_alloc] at hbr
  obtain ⟨W0, hW0⟩ : ∃ W0, W0 = (w.alloc (.cells #[.int .i64 k, .string nm, .int .i64 vk, .int .i64 vn, .string vt, .string op, .slice A m c] 33)).alloc (.cells #[.string ⟨#[]⟩, .slice none 0 0, .int .i64 0] 114) := ⟨_, rfl⟩
  have hsz : W0.heap.size = w.heap.size + 1 + 1 := by rw [hW0]; simp
  rw [← hW0] at hbx hbr t0
  obtain ⟨key, hkey⟩ : ∃ key, key = keyN ⟨k, nm, ⟨vk, vn, vt⟩, op⟩ := ⟨_, rfl⟩
  have tk := (Touch.refl [] W0).alloc (.cells #[.string key] 9)
  have hbk := heap_alloc_new W0 (.cells #[.string key] 9)
  rw [hsz] at hbk
  have Hx := Lib.hid (tk.blk hbx (by simp)); have Hr := Lib.hid (tk.blk hbr (by simp)); have Hk := Lib.hid hbk
  have Tk := Lib.hid (t0.trans0 tk)
  have Hsz := Lib.hid hsz
  have Hkey := Lib.hid hkey
  have HW0 := Lib.hid hW0
  clear hbx hbr hbk tk t0 hW0 hsz hkey
  have hD : ∀ o, ruleI ⟨k, nm, ⟨vk, vn, vt⟩, op⟩ = o → (rulesV k).findIdx? (fun r => decide (r.name = key)) = o := fun o h => by rw [Hkey.out]; exact h
  rcases hri : ruleI ⟨k, nm, ⟨vk, vn, vt⟩, op⟩ with _ | q
  · have hI := fun C cc w' (p : Nat → Prop) (hru : RulesAt p w' C (rulesV k)) hB => indexRules_any C cc (rulesV k).length (rulesV k) rfl (w.heap.size + 1 + 1) key w' hru hB (rules_len k)
    rw [hD _ hri] at hI
    simp only [idxI] at hI
    have HI := Lib.hid hI
    have Hv := Lib.hid (show ruleV ⟨k, nm, ⟨vk, vn, vt⟩, op⟩ = none by unfold ruleV; rw [hri])
    clear hI hri hD
    by_cases h5 : k = 5
    · have hk5 : (k == 5) = true := by rw [h5]; rfl
      obtain rfl : key = nm := by rw [Hkey.out]; unfold keyN; rw [if_pos h5]
      clear h5
      go_enter Try.func66, Try.ntmps66
      go_wp2_with fail
      rw [← HW0.out]
      refine (Hrs.out _).mono ?_
      rintro e w1 ⟨C, cc, rfl, hru, t1⟩
      have hB1 := t1.cell (cell_blk Hk.out (i := 0) rfl) (by simp)
      go_wp2_with fail
      refine (HI.out C cc w1 _ hru hB1).mono ?_
      rintro e w2 ⟨rfl, t2⟩
      have T2 := (Tk.out.trans0 t1).trans0 t2
      have hr2 := (t1.trans0 t2).blk Hr.out (by simp)
      have hx2 := (t1.trans0 t2).blk Hx.out (by simp)
      obtain ⟨c0, c1, c2, f0, f1, f2⟩ := blk3 hr2
      go_wp2_with fail
      obtain ⟨q1, q2⟩ := out3 hr2 (.string ⟨#[]⟩) (.slice none 0 0) (.int .i64 0)
      obtain ⟨d0, d1, d2, _⟩ := blk3 q1
      refine bodyPost_ret (v := .tuple #[.agg #[.string ⟨#[]⟩, .slice none 0 0, .int .i64 0], .bool false]) (by simp [results, Try.results66, go_sem, d0, d1, d2]) rfl ⟨?_, T2.trans q2 (fun b hb => .inr (by simp at hb; omega))⟩
      unfold RulePost
      rw [Hv.out]
    · have hk5 : (k == 5) = false := by simpa using h5
      obtain rfl : key = op := by rw [Hkey.out]; unfold keyN; rw [if_neg h5]
      clear h5
      go_enter Try.func66, Try.ntmps66
      go_wp2_with fail
      rw [← HW0.out]
      refine (Hrs.out _).mono ?_
      rintro e w1 ⟨C, cc, rfl, hru, t1⟩
      have hB1 := t1.cell (cell_blk Hk.out (i := 0) rfl) (by simp)
      go_wp2_with fail
      refine (HI.out C cc w1 _ hru hB1).mono ?_
      rintro e w2 ⟨rfl, t2⟩
      have T2 := (Tk.out.trans0 t1).trans0 t2
      have hr2 := (t1.trans0 t2).blk Hr.out (by simp)
      have hx2 := (t1.trans0 t2).blk Hx.out (by simp)
      obtain ⟨c0, c1, c2, f0, f1, f2⟩ := blk3 hr2
      go_wp2_with fail
      obtain ⟨q1, q2⟩ := out3 hr2 (.string ⟨#[]⟩) (.slice none 0 0) (.int .i64 0)
      obtain ⟨d0, d1, d2, _⟩ := blk3 q1
      refine bodyPost_ret (v := .tuple #[.agg #[.string ⟨#[]⟩, .slice none 0 0, .int .i64 0], .bool false]) (by simp [results, Try.results66, go_sem, d0, d1, d2]) rfl ⟨?_, T2.trans q2 (fun b hb => .inr (by simp at hb; omega))⟩
      unfold RulePost
      rw [Hv.out]
  · have hq := fi_lt (hD _ hri)
    have hI := fun C cc w' (p : Nat → Prop) (hru : RulesAt p w' C (rulesV k)) hB => indexRules_any C cc (rulesV k).length (rulesV k) rfl (w.heap.size + 1 + 1) key w' hru hB (rules_len k)
    rw [hD _ hri] at hI
    simp only [idxI] at hI
    have HI := Lib.hid hI
    obtain ⟨r, hr⟩ : ∃ r, r = (rulesV k)[q] := ⟨_, rfl⟩
    have Hv := Lib.hid (show ruleV ⟨k, nm, ⟨vk, vn, vt⟩, op⟩ = some r by unfold ruleV; rw [hri]; show (rulesV k)[q]? = _; rw [List.getElem?_eq_getElem hq, hr])
    have hql := rules_len k
    have hra := rules_args k r (by rw [hr]; exact List.getElem_mem hq)
    have Hre := Lib.hid hr
    clear hI hri hD hr
    by_cases h5 : k = 5
    · have hk5 : (k == 5) = true := by rw [h5]; rfl
      obtain rfl : key = nm := by rw [Hkey.out]; unfold keyN; rw [if_pos h5]
      clear h5
      go_enter Try.func66, Try.ntmps66
      go_wp2_with fail
      rw [← HW0.out]
      refine (Hrs.out _).mono ?_
      rintro e w1 ⟨C, cc, rfl, hru, t1⟩
      have hB1 := t1.cell (cell_blk Hk.out (i := 0) rfl) (by simp)
      go_wp2_with fail
      refine (HI.out C cc w1 _ hru hB1).mono ?_
      rintro e w2 ⟨rfl, t2⟩
      have T2 := (Tk.out.trans0 t1).trans0 t2
      have hr2 := (t1.trans0 t2).blk Hr.out (by simp)
      have hx2 := (t1.trans0 t2).blk Hx.out (by simp)
      obtain ⟨c0, c1, c2, f0, f1, f2⟩ := blk3 hr2
      have hru2 := hru.touch0 t2
      obtain ⟨ad, b, off, B, c1', e1, hadd, z0, z1, z2, hin, hpb, hpB⟩ := hru2.at_ q hq
      rw [← Hre.out] at z0 z1 z2 hin
      subst e1
      have td := (Touch.refl [] w2).drew
      have x0 := td.cell z0 (by simp); have x1 := td.cell z1 (by simp); have x2 := td.cell z2 (by simp)
      have x3 := td.cell (cell_blk hx2 (i := 6) rfl) (by simp)
      obtain ⟨q1, q2⟩ := out3 (td.blk hr2 (by simp)) (.string r.name) (.slice B r.args.length c1') (.int .i64 r.out)
      have hqI0 : (0 : Int) ≤ (q : Int) := by omega
      have hqI : (q : Int) < ((rulesV k).length : Int) := by omega
      have hbW : w.heap.size + 1 + 1 ≤ b := by have h1 := hpb; rw [World.size_alloc, Hsz.out] at h1; omega
      obtain ⟨d0, d1, d2, _⟩ := blk3 q1
      clear z0 z1 z2
      go_wp2_with fail
      refine wp_region_held_drew (S := fun w' => w'.cell? ⟨b, off, none⟩ = some (.string r.name) ∧ w'.cell? ⟨b, off + 1, none⟩ = some (.slice B r.args.length c1') ∧ w'.cell? ⟨b, off + 2, none⟩ = some (.int .i64 r.out) ∧ w'.cell? ⟨w.heap.size, 6, none⟩ = some (.slice A m c)) (by kernel_rfl) ⟨x0, x1, x2, x3⟩ (fun hHeld => ?_)
      refine take_d (i := 0) (d := 23) (v := ?_) rfl rfl (by kernel_rfl) (by kernel_rfl) (by kernel_rfl) (fun _ _ _ h => h) (Or.inl ⟨by rfl, ?_⟩) (by assumption) ?_
      rotate_left
      · intro w hSw; (try dsimp only at hSw); go_simp; (try with_reducible rfl)
      try simp only [Act.put, List.setIfInBounds_toArray, List.set_cons_zero, List.set_cons_succ]
      refine take_d (i := 1) (d := 24) (v := ?_) rfl rfl (by kernel_rfl) (by kernel_rfl) (by kernel_rfl) (fun _ _ _ h => h) (Or.inl ⟨by rfl, ?_⟩) (by assumption) ?_
      rotate_left
      · intro w hSw; (try dsimp only at hSw); go_simp; (try with_reducible rfl)
      try simp only [Act.put, List.setIfInBounds_toArray, List.set_cons_zero, List.set_cons_succ]
      refine take_d (i := 2) (d := 25) (v := ?_) rfl rfl (by kernel_rfl) (by kernel_rfl) (by kernel_rfl) (fun _ _ _ h => h) (Or.inl ⟨by rfl, ?_⟩) (by assumption) ?_
      rotate_left
      · intro w hSw; (try dsimp only at hSw); go_simp; (try with_reducible rfl)
      try simp only [Act.put, List.setIfInBounds_toArray, List.set_cons_zero, List.set_cons_succ]
      refine take_d (i := 3) (d := 26) (v := ?_) rfl rfl (by kernel_rfl) (by kernel_rfl) (by kernel_rfl) (fun _ _ _ h => h) (Or.inl ⟨by rfl, ?_⟩) (by assumption) ?_
      rotate_left
      · intro w hSw; (try dsimp only at hSw); go_simp; (try with_reducible rfl)
      try simp only [Act.put, List.setIfInBounds_toArray, List.set_cons_zero, List.set_cons_succ]
      refine take_d (i := 4) (d := 27) (v := ?_) rfl rfl (by kernel_rfl) (by kernel_rfl) (by kernel_rfl) (fun _ _ _ h => h) (Or.inl ⟨by rfl, ?_⟩) (by assumption) ?_
      rotate_left
      · intro w hSw; (try dsimp only at hSw); go_simp; (try with_reducible rfl)
      try simp only [Act.put, List.setIfInBounds_toArray, List.set_cons_zero, List.set_cons_succ]
      refine take_d (i := 5) (d := 28) (v := ?_) rfl rfl (by kernel_rfl) (by kernel_rfl) (by kernel_rfl) (fun _ _ _ h => h) (Or.inl ⟨by rfl, ?_⟩) (by assumption) ?_
      rotate_left
      · intro w hSw; (try dsimp only at hSw); go_simp; (try with_reducible rfl)
      try simp only [Act.put, List.setIfInBounds_toArray, List.set_cons_zero, List.set_cons_succ]
      refine take_d (i := 6) (d := 29) (v := ?_) rfl rfl (by kernel_rfl) (by kernel_rfl) (by kernel_rfl) (fun _ _ _ h => h) (Or.inl ⟨by rfl, ?_⟩) (by assumption) ?_
      rotate_left
      · intro w hSw; (try dsimp only at hSw); go_simp; (try with_reducible rfl)
      try simp only [Act.put, List.setIfInBounds_toArray, List.set_cons_zero, List.set_cons_succ]
      refine take_d (i := 7) (d := 30) (v := ?_) rfl rfl (by kernel_rfl) (by kernel_rfl) (by kernel_rfl) (fun _ _ _ h => h) (Or.inl ⟨by rfl, ?_⟩) (by assumption) ?_
      rotate_left
      · intro w hSw; (try dsimp only at hSw); go_simp; (try with_reducible rfl)
      try simp only [Act.put, List.setIfInBounds_toArray, List.set_cons_zero, List.set_cons_succ]
      refine take_d (i := 8) (d := 31) (v := ?_) rfl rfl (by kernel_rfl) (by kernel_rfl) (by kernel_rfl) (fun _ _ _ h => h) (Or.inl ⟨by rfl, ?_⟩) (by assumption) ?_
      rotate_left
      · intro w hSw; (try dsimp only at hSw); go_simp; (try with_reducible rfl)
      try simp only [Act.put, List.setIfInBounds_toArray, List.set_cons_zero, List.set_cons_succ]
      refine take_d (i := 9) (d := 32) (v := ?_) rfl rfl (by kernel_rfl) (by kernel_rfl) (by kernel_rfl) (fun _ _ _ h => h) (Or.inl ⟨by rfl, ?_⟩) (by assumption) ?_
      rotate_left
      · intro w hSw; (try dsimp only at hSw); go_simp; (try with_reducible rfl)
      try simp only [Act.put, List.setIfInBounds_toArray, List.set_cons_zero, List.set_cons_succ]
      refine take_d (i := 10) (d := 33) (v := ?_) rfl rfl (by kernel_rfl) (by kernel_rfl) (by kernel_rfl) (fun _ _ _ h => h) (Or.inl ⟨by rfl, ?_⟩) (by assumption) ?_
      rotate_left
      · intro w hSw; (try dsimp only at hSw); go_simp; (try with_reducible rfl)
      try simp only [Act.put, List.setIfInBounds_toArray, List.set_cons_zero, List.set_cons_succ]
      refine take_d (i := 11) (d := 34) (v := ?_) rfl rfl (by kernel_rfl) (by kernel_rfl) (by kernel_rfl) (fun _ _ _ h => h) (Or.inl ⟨by rfl, ?_⟩) (by assumption) ?_
      rotate_left
      · intro w hSw; (try dsimp only at hSw); go_simp; (try with_reducible rfl)
      try simp only [Act.put, List.setIfInBounds_toArray, List.set_cons_zero, List.set_cons_succ]
      refine take_d (i := 12) (d := 35) (v := ?_) rfl rfl (by kernel_rfl) (by kernel_rfl) (by kernel_rfl) (fun _ _ _ h => h) (Or.inl ⟨by rfl, ?_⟩) (by assumption) ?_
      rotate_left
      · intro w hSw; (try dsimp only at hSw); go_simp; (try with_reducible rfl)
      try simp only [Act.put, List.setIfInBounds_toArray, List.set_cons_zero, List.set_cons_succ]
      refine take_d (i := 13) (d := 36) (v := ?_) rfl rfl (by kernel_rfl) (by kernel_rfl) (by kernel_rfl) (fun _ _ _ h => h) (Or.inl ⟨by rfl, ?_⟩) (by assumption) ?_
      rotate_left
      · intro w hSw; (try dsimp only at hSw); go_simp; (try with_reducible rfl)
      try simp only [Act.put, List.setIfInBounds_toArray, List.set_cons_zero, List.set_cons_succ]
      refine wpAnyH_ready (rs := [14]) (by kernel_rfl) (by simp) ?_
      refine AllReadyH.cons rfl (fun K hK => ?_) AllReadyH.nil
      go_simp
      have y0 := q2.cell x0 (by simp only [List.mem_singleton]; omega)
      have y1 := q2.cell x1 (by simp only [List.mem_singleton]; omega)
      have y2 := q2.cell x2 (by simp only [List.mem_singleton]; omega)
      have y3 := q2.cell x3 (by simp only [List.mem_singleton]; omega)
      (try go_wp2_with fail)
      refine hK.out _ _ ⟨y0, y1, y2, y3⟩ (fun _hH => ?_)
      clear hK K
      try simp only [Act.put, List.setIfInBounds_toArray, List.set_cons_zero, List.set_cons_succ]
      refine take_d (i := 15) (d := 3) (v := ?_) rfl rfl (by kernel_rfl) (by kernel_rfl) (by kernel_rfl) (fun _ _ _ h => h) (Or.inl ⟨by rfl, ?_⟩) (by assumption) ?_
      rotate_left
      · intro w hSw; (try dsimp only at hSw); go_simp; (try with_reducible rfl)
      try simp only [Act.put, List.setIfInBounds_toArray, List.set_cons_zero, List.set_cons_succ]
      refine wpAnyH_done (by kernel_rfl) ?_ _
      go_wp2_with fail
      obtain ⟨d0', d1', d2', _⟩ := blk3 (w := (((w2.setCell ⟨w.heap.size + 1, 0, none⟩ (.string r.name)).setCell ⟨w.heap.size + 1, 1, none⟩ (.slice B r.args.length c1')).setCell ⟨w.heap.size + 1, 2, none⟩ (.int .i64 r.out)).drew) q1
      refine bodyPost_ret (v := .tuple #[.agg #[.string r.name, .slice B r.args.length c1', .int .i64 r.out], .bool ((m : Int) == (r.args.length : Int))]) (by simp [results, Try.results66, go_sem, d0', d1', d2']) rfl ⟨?_, (T2.trans0 td).trans q2 (fun b hb => .inr (by simp at hb; omega))⟩
      have hbm : ((m : Int) == (r.args.length : Int)) = decide (m = r.args.length) := by rw [Bool.eq_iff_iff]; simp; omega
      unfold RulePost
      rw [Hv.out, hbm]
      exact ⟨B, c1', rfl, RdK.touch (IntsAt.touch0 hin td) q2 (fun b hb hm => by have h1 := hpB b hb; rw [World.size_alloc, Hsz.out] at h1; simp at hm; omega)⟩
    · have hk5 : (k == 5) = false := by simpa using h5
      obtain rfl : key = op := by rw [Hkey.out]; unfold keyN; rw [if_neg h5]
      clear h5
      go_enter Try.func66, Try.ntmps66
      go_wp2_with fail
      rw [← HW0.out]
      refine (Hrs.out _).mono ?_
      rintro e w1 ⟨C, cc, rfl, hru, t1⟩
      have hB1 := t1.cell (cell_blk Hk.out (i := 0) rfl) (by simp)
      go_wp2_with fail
      refine (HI.out C cc w1 _ hru hB1).mono ?_
      rintro e w2 ⟨rfl, t2⟩
      have T2 := (Tk.out.trans0 t1).trans0 t2
      have hr2 := (t1.trans0 t2).blk Hr.out (by simp)
      have hx2 := (t1.trans0 t2).blk Hx.out (by simp)
      obtain ⟨c0, c1, c2, f0, f1, f2⟩ := blk3 hr2
      have hru2 := hru.touch0 t2
      obtain ⟨ad, b, off, B, c1', e1, hadd, z0, z1, z2, hin, hpb, hpB⟩ := hru2.at_ q hq
      rw [← Hre.out] at z0 z1 z2 hin
      subst e1
      have td := (Touch.refl [] w2).drew
      have x0 := td.cell z0 (by simp); have x1 := td.cell z1 (by simp); have x2 := td.cell z2 (by simp)
      have x3 := td.cell (cell_blk hx2 (i := 6) rfl) (by simp)
      obtain ⟨q1, q2⟩ := out3 (td.blk hr2 (by simp)) (.string r.name) (.slice B r.args.length c1') (.int .i64 r.out)
      have hqI0 : (0 : Int) ≤ (q : Int) := by omega
      have hqI : (q : Int) < ((rulesV k).length : Int) := by omega
      have hbW : w.heap.size + 1 + 1 ≤ b := by have h1 := hpb; rw [World.size_alloc, Hsz.out] at h1; omega
      obtain ⟨d0, d1, d2, _⟩ := blk3 q1
      clear z0 z1 z2
      go_wp2_with fail
      refine wp_region_held_drew (S := fun w' => w'.cell? ⟨b, off, none⟩ = some (.string r.name) ∧ w'.cell? ⟨b, off + 1, none⟩ = some (.slice B r.args.length c1') ∧ w'.cell? ⟨b, off + 2, none⟩ = some (.int .i64 r.out) ∧ w'.cell? ⟨w.heap.size, 6, none⟩ = some (.slice A m c)) (by kernel_rfl) ⟨x0, x1, x2, x3⟩ (fun hHeld => ?_)
      refine take_d (i := 0) (d := 23) (v := ?_) rfl rfl (by kernel_rfl) (by kernel_rfl) (by kernel_rfl) (fun _ _ _ h => h) (Or.inl ⟨by rfl, ?_⟩) (by assumption) ?_
      rotate_left
      · intro w hSw; (try dsimp only at hSw); go_simp; (try with_reducible rfl)
      try simp only [Act.put, List.setIfInBounds_toArray, List.set_cons_zero, List.set_cons_succ]
      refine take_d (i := 1) (d := 24) (v := ?_) rfl rfl (by kernel_rfl) (by kernel_rfl) (by kernel_rfl) (fun _ _ _ h => h) (Or.inl ⟨by rfl, ?_⟩) (by assumption) ?_
      rotate_left
      · intro w hSw; (try dsimp only at hSw); go_simp; (try with_reducible rfl)
      try simp only [Act.put, List.setIfInBounds_toArray, List.set_cons_zero, List.set_cons_succ]
      refine take_d (i := 2) (d := 25) (v := ?_) rfl rfl (by kernel_rfl) (by kernel_rfl) (by kernel_rfl) (fun _ _ _ h => h) (Or.inl ⟨by rfl, ?_⟩) (by assumption) ?_
      rotate_left
      · intro w hSw; (try dsimp only at hSw); go_simp; (try with_reducible rfl)
      try simp only [Act.put, List.setIfInBounds_toArray, List.set_cons_zero, List.set_cons_succ]
      refine take_d (i := 3) (d := 26) (v := ?_) rfl rfl (by kernel_rfl) (by kernel_rfl) (by kernel_rfl) (fun _ _ _ h => h) (Or.inl ⟨by rfl, ?_⟩) (by assumption) ?_
      rotate_left
      · intro w hSw; (try dsimp only at hSw); go_simp; (try with_reducible rfl)
      try simp only [Act.put, List.setIfInBounds_toArray, List.set_cons_zero, List.set_cons_succ]
      refine take_d (i := 4) (d := 27) (v := ?_) rfl rfl (by kernel_rfl) (by kernel_rfl) (by kernel_rfl) (fun _ _ _ h => h) (Or.inl ⟨by rfl, ?_⟩) (by assumption) ?_
      rotate_left
      · intro w hSw; (try dsimp only at hSw); go_simp; (try with_reducible rfl)
      try simp only [Act.put, List.setIfInBounds_toArray, List.set_cons_zero, List.set_cons_succ]
      refine take_d (i := 5) (d := 28) (v := ?_) rfl rfl (by kernel_rfl) (by kernel_rfl) (by kernel_rfl) (fun _ _ _ h => h) (Or.inl ⟨by rfl, ?_⟩) (by assumption) ?_
      rotate_left
      · intro w hSw; (try dsimp only at hSw); go_simp; (try with_reducible rfl)
      try simp only [Act.put, List.setIfInBounds_toArray, List.set_cons_zero, List.set_cons_succ]
      refine take_d (i := 6) (d := 29) (v := ?_) rfl rfl (by kernel_rfl) (by kernel_rfl) (by kernel_rfl) (fun _ _ _ h => h) (Or.inl ⟨by rfl, ?_⟩) (by assumption) ?_
      rotate_left
      · intro w hSw; (try dsimp only at hSw); go_simp; (try with_reducible rfl)
      try simp only [Act.put, List.setIfInBounds_toArray, List.set_cons_zero, List.set_cons_succ]
      refine take_d (i := 7) (d := 30) (v := ?_) rfl rfl (by kernel_rfl) (by kernel_rfl) (by kernel_rfl) (fun _ _ _ h => h) (Or.inl ⟨by rfl, ?_⟩) (by assumption) ?_
      rotate_left
      · intro w hSw; (try dsimp only at hSw); go_simp; (try with_reducible rfl)
      try simp only [Act.put, List.setIfInBounds_toArray, List.set_cons_zero, List.set_cons_succ]
      refine take_d (i := 8) (d := 31) (v := ?_) rfl rfl (by kernel_rfl) (by kernel_rfl) (by kernel_rfl) (fun _ _ _ h => h) (Or.inl ⟨by rfl, ?_⟩) (by assumption) ?_
      rotate_left
      · intro w hSw; (try dsimp only at hSw); go_simp; (try with_reducible rfl)
      try simp only [Act.put, List.setIfInBounds_toArray, List.set_cons_zero, List.set_cons_succ]
      refine take_d (i := 9) (d := 32) (v := ?_) rfl rfl (by kernel_rfl) (by kernel_rfl) (by kernel_rfl) (fun _ _ _ h => h) (Or.inl ⟨by rfl, ?_⟩) (by assumption) ?_
      rotate_left
      · intro w hSw; (try dsimp only at hSw); go_simp; (try with_reducible rfl)
      try simp only [Act.put, List.setIfInBounds_toArray, List.set_cons_zero, List.set_cons_succ]
      refine take_d (i := 10) (d := 33) (v := ?_) rfl rfl (by kernel_rfl) (by kernel_rfl) (by kernel_rfl) (fun _ _ _ h => h) (Or.inl ⟨by rfl, ?_⟩) (by assumption) ?_
      rotate_left
      · intro w hSw; (try dsimp only at hSw); go_simp; (try with_reducible rfl)
      try simp only [Act.put, List.setIfInBounds_toArray, List.set_cons_zero, List.set_cons_succ]
      refine take_d (i := 11) (d := 34) (v := ?_) rfl rfl (by kernel_rfl) (by kernel_rfl) (by kernel_rfl) (fun _ _ _ h => h) (Or.inl ⟨by rfl, ?_⟩) (by assumption) ?_
      rotate_left
      · intro w hSw; (try dsimp only at hSw); go_simp; (try with_reducible rfl)
      try simp only [Act.put, List.setIfInBounds_toArray, List.set_cons_zero, List.set_cons_succ]
      refine take_d (i := 12) (d := 35) (v := ?_) rfl rfl (by kernel_rfl) (by kernel_rfl) (by kernel_rfl) (fun _ _ _ h => h) (Or.inl ⟨by rfl, ?_⟩) (by assumption) ?_
      rotate_left
      · intro w hSw; (try dsimp only at hSw); go_simp; (try with_reducible rfl)
      try simp only [Act.put, List.setIfInBounds_toArray, List.set_cons_zero, List.set_cons_succ]
      refine take_d (i := 13) (d := 36) (v := ?_) rfl rfl (by kernel_rfl) (by kernel_rfl) (by kernel_rfl) (fun _ _ _ h => h) (Or.inl ⟨by rfl, ?_⟩) (by assumption) ?_
      rotate_left
      · intro w hSw; (try dsimp only at hSw); go_simp; (try with_reducible rfl)
      try simp only [Act.put, List.setIfInBounds_toArray, List.set_cons_zero, List.set_cons_succ]
      refine wpAnyH_ready (rs := [14]) (by kernel_rfl) (by simp) ?_
      refine AllReadyH.cons rfl (fun K hK => ?_) AllReadyH.nil
      go_simp
      have y0 := q2.cell x0 (by simp only [List.mem_singleton]; omega)
      have y1 := q2.cell x1 (by simp only [List.mem_singleton]; omega)
      have y2 := q2.cell x2 (by simp only [List.mem_singleton]; omega)
      have y3 := q2.cell x3 (by simp only [List.mem_singleton]; omega)
      (try go_wp2_with fail)
      refine hK.out _ _ ⟨y0, y1, y2, y3⟩ (fun _hH => ?_)
      clear hK K
      try simp only [Act.put, List.setIfInBounds_toArray, List.set_cons_zero, List.set_cons_succ]
      refine take_d (i := 15) (d := 3) (v := ?_) rfl rfl (by kernel_rfl) (by kernel_rfl) (by kernel_rfl) (fun _ _ _ h => h) (Or.inl ⟨by rfl, ?_⟩) (by assumption) ?_
      rotate_left
      · intro w hSw; (try dsimp only at hSw); go_simp; (try with_reducible rfl)
      try simp only [Act.put, List.setIfInBounds_toArray, List.set_cons_zero, List.set_cons_succ]
      refine wpAnyH_done (by kernel_rfl) ?_ _
      go_wp2_with fail
      obtain ⟨d0', d1', d2', _⟩ := blk3 (w := (((w2.setCell ⟨w.heap.size + 1, 0, none⟩ (.string r.name)).setCell ⟨w.heap.size + 1, 1, none⟩ (.slice B r.args.length c1')).setCell ⟨w.heap.size + 1, 2, none⟩ (.int .i64 r.out)).drew) q1
      refine bodyPost_ret (v := .tuple #[.agg #[.string r.name, .slice B r.args.length c1', .int .i64 r.out], .bool ((m : Int) == (r.args.length : Int))]) (by simp [results, Try.results66, go_sem, d0', d1', d2']) rfl ⟨?_, (T2.trans0 td).trans q2 (fun b hb => .inr (by simp at hb; omega))⟩
      have hbm : ((m : Int) == (r.args.length : Int)) = decide (m = r.args.length) := by rw [Bool.eq_iff_iff]; simp; omega
      unfold RulePost
      rw [Hv.out, hbm]
      exact ⟨B, c1', rfl, RdK.touch (IntsAt.touch0 hin td) q2 (fun b hb hm => by have h1 := hpB b hb; rw [World.size_alloc, Hsz.out] at h1; simp at hm; omega)⟩
end Go.Proofs.Ytlkckkagoommaaa
