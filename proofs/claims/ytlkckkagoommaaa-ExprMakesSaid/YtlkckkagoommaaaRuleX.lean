/- expr.Expr.rule, slices.IndexFunc at its closure: the rule of an expression. For every expression. -/
import Derived.Test.YtlkckkagoommaaaRules
import Derived.Test.YtlkckkagoommaaaOwnX
import Derived.Test.YtlkckkagoommaaaValF
import Derived.Test.YtlkckkagoommaaaHeld
import Derived.Deep.DrawnRows
namespace Go.Proofs.Ytlkckkagoommaaa
open Go.RowKit
attribute [local go_sem ↓] Go.wp_at_zero Go.wp_at_succ

theorem rules_len (k : Int) : (rulesV k).length ≤ 140737000000000 := by unfold rulesV; split <;> (try split) <;> (try split) <;> simp
theorem rules_args (k : Int) (r : RU) (h : r ∈ rulesV k) : r.args.length ≤ 3 := by
  unfold rulesV at h
  split at h
  · simp at h; rcases h with rfl | rfl <;> simp
  · split at h
    · simp at h; rcases h with rfl | rfl | rfl | rfl | rfl | rfl | rfl | rfl | rfl | rfl | rfl | rfl | rfl <;> simp
    · split at h
      · simp at h; rcases h with rfl | rfl | rfl | rfl | rfl | rfl <;> simp
      · simp at h
theorem fi_some {α : Type} {p : α → Bool} {l : List α} {k : Nat} (h : k < l.length) (hk : p l[k] = true) (hno : ∀ j (hj : j < k), p (l[j]'(by omega)) = false) : l.findIdx? p = some k := by
  rw [List.findIdx?_eq_some_iff_getElem]
  exact ⟨h, hk, fun j hj => by rw [hno j hj]; simp⟩
theorem fi_none {α : Type} {p : α → Bool} {l : List α} (hno : ∀ j (hj : j < l.length), p l[j] = false) : l.findIdx? p = none := by
  rw [List.findIdx?_eq_none_iff]
  intro c hc
  obtain ⟨j, hj, rfl⟩ := List.mem_iff_getElem.1 hc
  exact hno j hj
theorem fi_lt {α : Type} {p : α → Bool} {l : List α} {k : Nat} (h : l.findIdx? p = some k) : k < l.length := by
  rw [List.findIdx?_eq_some_iff_getElem] at h
  exact h.1

set_option maxHeartbeats 400000 in
theorem rule1_any (nm : ByteArray) (A : Option Addr) (m c : Nat) (out : Int) (B : Nat) (s : ByteArray) (w : World) (hB : w.cell? ⟨B, 0, none⟩ = some (.string s)) :
    Calls Try.prog 81 #[.agg #[.string nm, .slice A m c, .int .i64 out], .pointer (some ⟨B, 0, none⟩)] w fun e w' => e = .returned (.bool (decide (nm = s))) ∧ Touch [] w w' := by
  have hbq := bs_beq nm s
  have t0 := (Touch.refl [] w).alloc (.cells #[.string nm, .slice A m c, .int .i64 out] 114)
  have hlt : B < w.heap.size := World.block_lt_of_cell? w _ hB
  go_enter Try.func81, Try.ntmps81
  go_wp2
  all_goals
    go_ret
    exact ⟨rfl, t0⟩

set_option maxRecDepth 20000 in
set_option maxHeartbeats 1600000 in
theorem indexRules_any (A : Option Addr) (cap n : Nat) (rs : List RU) (hn : rs.length = n) (B : Nat) (s : ByteArray) (w : World) {p : Nat → Prop} (h : RulesAt p w A rs) (hB : w.cell? ⟨B, 0, none⟩ = some (.string s)) (hl : n ≤ 140737000000000) :
    Calls Try.prog 80 #[.slice A n cap, .func (.func 81) #[] #[.pointer (some ⟨B, 0, none⟩)]] w fun e w' =>
      e = .returned (.int .i64 (idxI (rs.findIdx? fun r => decide (r.name = s)))) ∧ Touch [] w w' := by
  subst hn
  go_enter Try.func80, Try.ntmps80
  go_wp2
  go_loopw [8] (fun i wr => ∃ k : Nat, k ≤ rs.length ∧ i = .int .i64 k ∧ Hid (∀ j (hj : j < k) (hl : j < rs.length), decide (rs[j].name = s) = false) ∧ Touch [] w wr) (fun i _ => rs.length - (intOf i).toNat)
  case atStart => exact ⟨0, by omega, rfl, Lib.hid (fun j hj => absurd hj (by omega)), Touch.refl _ _⟩
  case round =>
    obtain ⟨k, hk, rfl, Hno, ht⟩ := hrel
    by_cases hlt : k < rs.length
    · obtain ⟨ad, b, off, C, cc, rfl, hadd, c0, c1, c2, _, _, _⟩ := (h.touch0 ht).at_ k hlt
      have hyes := fi_some (p := fun r : RU => decide (r.name = s)) hlt
      obtain ⟨c, hce⟩ : ∃ c, c = rs[k] := ⟨_, rfl⟩
      rw [← hce] at c0 c1 c2 hyes
      have Hce := Lib.hid hce; have Hyes := Lib.hid hyes
      clear hce hyes
      have hf := rule1_any c.name C c.args.length cc c.out B s wr (ht.cell hB (by simp))
      have hkI : (k : Int) < (rs.length : Int) := by omega
      rcases hcs : decide (c.name = s) with _ | _
      · rw [hcs] at hf
        have Hf := Lib.hid hf
        have Hs := Lib.hid (show ∀ j (hj : j < k + 1) (hl : j < rs.length), decide (rs[j].name = s) = false from fun j hj hl => by
          by_cases hj' : j < k
          · exact Hno.out j hj' hl
          · obtain rfl : j = k := by omega
            rw [← Hce.out]; exact hcs)
        clear hf hcs
        go_wp2_with fail
        refine Hf.out.mono ?_
        rintro e w1 ⟨rfl, t1⟩
        go_wp2
        go_roundw
        case rel => exact ⟨k + 1, by omega, by go_num, Hs, ht.trans0 t1⟩
        case measure => simp [intOf]; omega
      · have Hp := Lib.hid (Hyes.out hcs (fun j hj => Hno.out j hj (by omega)))
        rw [hcs] at hf
        have Hf := Lib.hid hf
        clear hf hcs
        go_wp2_with fail
        refine Hf.out.mono ?_
        rintro e w1 ⟨rfl, t1⟩
        go_wp2
        go_ret
        exact ⟨by rw [Hp.out]; rfl, ht.trans0 t1⟩
    · obtain rfl : k = rs.length := by omega
      have Hp := Lib.hid (fi_none (p := fun r : RU => decide (r.name = s)) (fun j hj => Hno.out j hj hj))
      go_wp2
      go_ret
      exact ⟨by rw [Hp.out]; rfl, ht⟩

/-- the outcome of rule -/
def RulePost (d : ND) (n : Nat) (e : Ending) (w' : World) : Prop :=
  match ruleV d with
  | none => e = .returned (.tuple #[.agg #[.string ⟨#[]⟩, .slice none 0 0, .int .i64 0], .bool false])
  | some r => ∃ B c, e = .returned (.tuple #[.agg #[.string r.name, .slice B r.args.length c, .int .i64 r.out], .bool (decide (n = r.args.length))]) ∧ IntsAt w' B r.args

set_option maxRecDepth 100000 in
set_option maxHeartbeats 3200000 in
theorem rule_any (x : XC) (w : World) :
    Calls Try.prog 66 #[x.val] w fun e w' => RulePost x.nd x.n e w' ∧ Touch [] w w' := by
  obtain ⟨⟨k, nm, ⟨vk, vn, vt⟩, op⟩, A, m, c⟩ := x
  dsimp only [XC.val]
  have Hrs := Lib.hid fun w' => rules_any k w'
  have t0 := ((Touch.refl [] w).alloc (.cells #[.int .i64 k, .string nm, .int .i64 vk, .int .i64 vn, .string vt, .string op, .slice A m c] 33)).alloc (.cells #[.string ⟨#[]⟩, .slice none 0 0, .int .i64 0] 114)
  have hbx := ((Touch.refl [] (w.alloc (.cells #[.int .i64 k, .string nm, .int .i64 vk, .int .i64 vn, .string vt, .string op, .slice A m c] 33))).alloc (.cells #[.string ⟨#[]⟩, .slice none 0 0, .int .i64 0] 114)).blk (heap_alloc_new w (.cells #[.int .i64 k, .string nm, .int .i64 vk, .int .i64 vn, .string vt, .string op, .slice A m c] 33)) (by simp)
  have hbr := heap_alloc_new (w.alloc (.cells #[.int .i64 k, .string nm, .int .i64 vk, .int .i64 vn, .string vt, .string op, .slice A m c] 33)) (.cells #[.string ⟨#[]⟩, .slice none 0 0, .int .i64 0] 114)
  simp only [World.size_alloc] at hbr
  obtain ⟨W0, hW0⟩ : ∃ W0, W0 = (w.alloc (.cells #[.int .i64 k, .string nm, .int .i64 vk, .int .i64 vn, .string vt, .string op, .slice A m c] 33)).alloc (.cells #[.string ⟨#[]⟩, .slice none 0 0, .int .i64 0] 114) := ⟨_, rfl⟩
  have hsz : W0.heap.size = w.heap.size + 1 + 1 := by rw [hW0]; simp
  rw [← hW0] at hbx hbr t0
  obtain ⟨key, hkey⟩ : ∃ key, key = keyN ⟨k, nm, ⟨vk, vn, vt⟩, op⟩ := ⟨_, rfl⟩
  have tk := (Touch.refl [] W0).alloc (.cells #[.string key] 9)
  have hbk := heap_alloc_new W0 (.cells #[.string key] 9)
  rw [hsz] at hbk
  have Hx := Lib.hid (tk.blk hbx (by simp)); have Hr := Lib.hid (tk.blk hbr (by simp)); have Hk := Lib.hid hbk
  have Tk := Lib.hid (t0.trans0 tk)
  have Hsz := Lib.hid hsz
  have Hkey := Lib.hid hkey
  have HW0 := Lib.hid hW0
  clear hbx hbr hbk tk t0 hW0 hsz hkey
  have hD : ∀ o, ruleI ⟨k, nm, ⟨vk, vn, vt⟩, op⟩ = o → (rulesV k).findIdx? (fun r => decide (r.name = key)) = o := fun o h => by rw [Hkey.out]; exact h
  rcases hri : ruleI ⟨k, nm, ⟨vk, vn, vt⟩, op⟩ with _ | q
  · have hI := fun C cc w' (p : Nat → Prop) (hru : RulesAt p w' C (rulesV k)) hB => indexRules_any C cc (rulesV k).length (rulesV k) rfl (w.heap.size + 1 + 1) key w' hru hB (rules_len k)
    rw [hD _ hri] at hI
    simp only [idxI] at hI
    have HI := Lib.hid hI
    have Hv := Lib.hid (show ruleV ⟨k, nm, ⟨vk, vn, vt⟩, op⟩ = none by unfold ruleV; rw [hri])
    clear hI hri hD
    by_cases h5 : k = 5
    · have hk5 : (k == 5) = true := by rw [h5]; rfl
      obtain rfl : key = nm := by rw [Hkey.out]; unfold keyN; rw [if_pos h5]
      clear h5
      go_enter Try.func66, Try.ntmps66
      go_wp2_with fail
      rw [← HW0.out]
      refine (Hrs.out _).mono ?_
      rintro e w1 ⟨C, cc, rfl, hru, t1⟩
      have hB1 := t1.cell (cell_blk Hk.out (i := 0) rfl) (by simp)
      go_wp2_with fail
      refine (HI.out C cc w1 _ hru hB1).mono ?_
      rintro e w2 ⟨rfl, t2⟩
      have T2 := (Tk.out.trans0 t1).trans0 t2
      have hr2 := (t1.trans0 t2).blk Hr.out (by simp)
      have hx2 := (t1.trans0 t2).blk Hx.out (by simp)
      obtain ⟨c0, c1, c2, f0, f1, f2⟩ := blk3 hr2
      go_wp2_with fail
      obtain ⟨q1, q2⟩ := out3 hr2 (.string ⟨#[]⟩) (.slice none 0 0) (.int .i64 0)
      obtain ⟨d0, d1, d2, _⟩ := blk3 q1
      refine bodyPost_ret (v := .tuple #[.agg #[.string ⟨#[]⟩, .slice none 0 0, .int .i64 0], .bool false]) (by simp [results, Try.results66, go_sem, d0, d1, d2]) rfl ⟨?_, T2.trans q2 (fun b hb => .inr (by simp at hb; omega))⟩
      unfold RulePost
      rw [Hv.out]
    · have hk5 : (k == 5) = false := by simpa using h5
      obtain rfl : key = op := by rw [Hkey.out]; unfold keyN; rw [if_neg h5]
      clear h5
      go_enter Try.func66, Try.ntmps66
      go_wp2_with fail
      rw [← HW0.out]
      refine (Hrs.out _).mono ?_
      rintro e w1 ⟨C, cc, rfl, hru, t1⟩
      have hB1 := t1.cell (cell_blk Hk.out (i := 0) rfl) (by simp)
      go_wp2_with fail
      refine (HI.out C cc w1 _ hru hB1).mono ?_
      rintro e w2 ⟨rfl, t2⟩
      have T2 := (Tk.out.trans0 t1).trans0 t2
      have hr2 := (t1.trans0 t2).blk Hr.out (by simp)
      have hx2 := (t1.trans0 t2).blk Hx.out (by simp)
      obtain ⟨c0, c1, c2, f0, f1, f2⟩ := blk3 hr2
      go_wp2_with fail
      obtain ⟨q1, q2⟩ := out3 hr2 (.string ⟨#[]⟩) (.slice none 0 0) (.int .i64 0)
      obtain ⟨d0, d1, d2, _⟩ := blk3 q1
      refine bodyPost_ret (v := .tuple #[.agg #[.string ⟨#[]⟩, .slice none 0 0, .int .i64 0], .bool false]) (by simp [results, Try.results66, go_sem, d0, d1, d2]) rfl ⟨?_, T2.trans q2 (fun b hb => .inr (by simp at hb; omega))⟩
      unfold RulePost
      rw [Hv.out]
  · have hq := fi_lt (hD _ hri)
    have hI := fun C cc w' (p : Nat → Prop) (hru : RulesAt p w' C (rulesV k)) hB => indexRules_any C cc (rulesV k).length (rulesV k) rfl (w.heap.size + 1 + 1) key w' hru hB (rules_len k)
    rw [hD _ hri] at hI
    simp only [idxI] at hI
    have HI := Lib.hid hI
    obtain ⟨r, hr⟩ : ∃ r, r = (rulesV k)[q] := ⟨_, rfl⟩
    have Hv := Lib.hid (show ruleV ⟨k, nm, ⟨vk, vn, vt⟩, op⟩ = some r by unfold ruleV; rw [hri]; show (rulesV k)[q]? = _; rw [List.getElem?_eq_getElem hq, hr])
    have hql := rules_len k
    have hra := rules_args k r (by rw [hr]; exact List.getElem_mem hq)
    have Hre := Lib.hid hr
    clear hI hri hD hr
    by_cases h5 : k = 5
    · have hk5 : (k == 5) = true := by rw [h5]; rfl
      obtain rfl : key = nm := by rw [Hkey.out]; unfold keyN; rw [if_pos h5]
      clear h5
      go_enter Try.func66, Try.ntmps66
      go_wp2_with fail
      rw [← HW0.out]
      refine (Hrs.out _).mono ?_
      rintro e w1 ⟨C, cc, rfl, hru, t1⟩
      have hB1 := t1.cell (cell_blk Hk.out (i := 0) rfl) (by simp)
      go_wp2_with fail
      refine (HI.out C cc w1 _ hru hB1).mono ?_
      rintro e w2 ⟨rfl, t2⟩
      have T2 := (Tk.out.trans0 t1).trans0 t2
      have hr2 := (t1.trans0 t2).blk Hr.out (by simp)
      have hx2 := (t1.trans0 t2).blk Hx.out (by simp)
      obtain ⟨c0, c1, c2, f0, f1, f2⟩ := blk3 hr2
      have hru2 := hru.touch0 t2
      obtain ⟨ad, b, off, B, c1', e1, hadd, z0, z1, z2, hin, hpb, hpB⟩ := hru2.at_ q hq
      rw [← Hre.out] at z0 z1 z2 hin
      subst e1
      have td := (Touch.refl [] w2).drew
      have x0 := td.cell z0 (by simp); have x1 := td.cell z1 (by simp); have x2 := td.cell z2 (by simp)
      have x3 := td.cell (cell_blk hx2 (i := 6) rfl) (by simp)
      obtain ⟨q1, q2⟩ := out3 (td.blk hr2 (by simp)) (.string r.name) (.slice B r.args.length c1') (.int .i64 r.out)
      have hqI0 : (0 : Int) ≤ (q : Int) := by omega
      have hqI : (q : Int) < ((rulesV k).length : Int) := by omega
      have hbW : w.heap.size + 1 + 1 ≤ b := by have h1 := hpb; rw [World.size_alloc, Hsz.out] at h1; omega
      obtain ⟨d0, d1, d2, _⟩ := blk3 q1
      clear z0 z1 z2
      go_wp2_with fail
      refine wp_region_held_drew (S := fun w' => w'.cell? ⟨b, off, none⟩ = some (.string r.name) ∧ w'.cell? ⟨b, off + 1, none⟩ = some (.slice B r.args.length c1') ∧ w'.cell? ⟨b, off + 2, none⟩ = some (.int .i64 r.out) ∧ w'.cell? ⟨w.heap.size, 6, none⟩ = some (.slice A m c)) (by kernel_rfl) ⟨x0, x1, x2, x3⟩ (fun hHeld => ?_)
      refine take_d (i := 0) (d := 23) (v := ?_) rfl rfl (by kernel_rfl) (by kernel_rfl) (by kernel_rfl) (fun _ _ _ h => h) (Or.inl ⟨by rfl, ?_⟩) (by assumption) ?_
      rotate_left
      · intro w hSw; (try dsimp only at hSw); go_simp; (try with_reducible rfl)
      try simp only [Act.put, List.setIfInBounds_toArray, List.set_cons_zero, List.set_cons_succ]
      refine take_d (i := 1) (d := 24) (v := ?_) rfl rfl (by kernel_rfl) (by kernel_rfl) (by kernel_rfl) (fun _ _ _ h => h) (Or.inl ⟨by rfl, ?_⟩) (by assumption) ?_
      rotate_left
      · intro w hSw; (try dsimp only at hSw); go_simp; (try with_reducible rfl)
      try simp only [Act.put, List.setIfInBounds_toArray, List.set_cons_zero, List.set_cons_succ]
      refine take_d (i := 2) (d := 25) (v := ?_) rfl rfl (by kernel_rfl) (by kernel_rfl) (by kernel_rfl) (fun _ _ _ h => h) (Or.inl ⟨by rfl, ?_⟩) (by assumption) ?_
      rotate_left
      · intro w hSw; (try dsimp only at hSw); go_simp; (try with_reducible rfl)
      try simp only [Act.put, List.setIfInBounds_toArray, List.set_cons_zero, List.set_cons_succ]
      refine take_d (i := 3) (d := 26) (v := ?_) rfl rfl (by kernel_rfl) (by kernel_rfl) (by kernel_rfl) (fun _ _ _ h => h) (Or.inl ⟨by rfl, ?_⟩) (by assumption) ?_
      rotate_left
      · intro w hSw; (try dsimp only at hSw); go_simp; (try with_reducible rfl)
      try simp only [Act.put, List.setIfInBounds_toArray, List.set_cons_zero, List.set_cons_succ]
      refine take_d (i := 4) (d := 27) (v := ?_) rfl rfl (by kernel_rfl) (by kernel_rfl) (by kernel_rfl) (fun _ _ _ h => h) (Or.inl ⟨by rfl, ?_⟩) (by assumption) ?_
      rotate_left
      · intro w hSw; (try dsimp only at hSw); go_simp; (try with_reducible rfl)
      try simp only [Act.put, List.setIfInBounds_toArray, List.set_cons_zero, List.set_cons_succ]
      refine take_d (i := 5) (d := 28) (v := ?_) rfl rfl (by kernel_rfl) (by kernel_rfl) (by kernel_rfl) (fun _ _ _ h => h) (Or.inl ⟨by rfl, ?_⟩) (by assumption) ?_
      rotate_left
      · intro w hSw; (try dsimp only at hSw); go_simp; (try with_reducible rfl)
      try simp only [Act.put, List.setIfInBounds_toArray, List.set_cons_zero, List.set_cons_succ]
      refine take_d (i := 6) (d := 29) (v := ?_) rfl rfl (by kernel_rfl) (by kernel_rfl) (by kernel_rfl) (fun _ _ _ h => h) (Or.inl ⟨by rfl, ?_⟩) (by assumption) ?_
      rotate_left
      · intro w hSw; (try dsimp only at hSw); go_simp; (try with_reducible rfl)
      try simp only [Act.put, List.setIfInBounds_toArray, List.set_cons_zero, List.set_cons_succ]
      refine take_d (i := 7) (d := 30) (v := ?_) rfl rfl (by kernel_rfl) (by kernel_rfl) (by kernel_rfl) (fun _ _ _ h => h) (Or.inl ⟨by rfl, ?_⟩) (by assumption) ?_
      rotate_left
      · intro w hSw; (try dsimp only at hSw); go_simp; (try with_reducible rfl)
      try simp only [Act.put, List.setIfInBounds_toArray, List.set_cons_zero, List.set_cons_succ]
      refine take_d (i := 8) (d := 31) (v := ?_) rfl rfl (by kernel_rfl) (by kernel_rfl) (by kernel_rfl) (fun _ _ _ h => h) (Or.inl ⟨by rfl, ?_⟩) (by assumption) ?_
      rotate_left
      · intro w hSw; (try dsimp only at hSw); go_simp; (try with_reducible rfl)
      try simp only [Act.put, List.setIfInBounds_toArray, List.set_cons_zero, List.set_cons_succ]
      refine take_d (i := 9) (d := 32) (v := ?_) rfl rfl (by kernel_rfl) (by kernel_rfl) (by kernel_rfl) (fun _ _ _ h => h) (Or.inl ⟨by rfl, ?_⟩) (by assumption) ?_
      rotate_left
      · intro w hSw; (try dsimp only at hSw); go_simp; (try with_reducible rfl)
      try simp only [Act.put, List.setIfInBounds_toArray, List.set_cons_zero, List.set_cons_succ]
      refine take_d (i := 10) (d := 33) (v := ?_) rfl rfl (by kernel_rfl) (by kernel_rfl) (by kernel_rfl) (fun _ _ _ h => h) (Or.inl ⟨by rfl, ?_⟩) (by assumption) ?_
      rotate_left
      · intro w hSw; (try dsimp only at hSw); go_simp; (try with_reducible rfl)
      try simp only [Act.put, List.setIfInBounds_toArray, List.set_cons_zero, List.set_cons_succ]
      refine take_d (i := 11) (d := 34) (v := ?_) rfl rfl (by kernel_rfl) (by kernel_rfl) (by kernel_rfl) (fun _ _ _ h => h) (Or.inl ⟨by rfl, ?_⟩) (by assumption) ?_
      rotate_left
      · intro w hSw; (try dsimp only at hSw); go_simp; (try with_reducible rfl)
      try simp only [Act.put, List.setIfInBounds_toArray, List.set_cons_zero, List.set_cons_succ]
      refine take_d (i := 12) (d := 35) (v := ?_) rfl rfl (by kernel_rfl) (by kernel_rfl) (by kernel_rfl) (fun _ _ _ h => h) (Or.inl ⟨by rfl, ?_⟩) (by assumption) ?_
      rotate_left
      · intro w hSw; (try dsimp only at hSw); go_simp; (try with_reducible rfl)
      try simp only [Act.put, List.setIfInBounds_toArray, List.set_cons_zero, List.set_cons_succ]
      refine take_d (i := 13) (d := 36) (v := ?_) rfl rfl (by kernel_rfl) (by kernel_rfl) (by kernel_rfl) (fun _ _ _ h => h) (Or.inl ⟨by rfl, ?_⟩) (by assumption) ?_
      rotate_left
      · intro w hSw; (try dsimp only at hSw); go_simp; (try with_reducible rfl)
      try simp only [Act.put, List.setIfInBounds_toArray, List.set_cons_zero, List.set_cons_succ]
      refine wpAnyH_ready (rs := [14]) (by kernel_rfl) (by simp) ?_
      refine AllReadyH.cons rfl (fun K hK => ?_) AllReadyH.nil
      go_simp
      have y0 := q2.cell x0 (by simp only [List.mem_singleton]; omega)
      have y1 := q2.cell x1 (by simp only [List.mem_singleton]; omega)
      have y2 := q2.cell x2 (by simp only [List.mem_singleton]; omega)
      have y3 := q2.cell x3 (by simp only [List.mem_singleton]; omega)
      (try go_wp2_with fail)
      refine hK.out _ _ ⟨y0, y1, y2, y3⟩ (fun _hH => ?_)
      clear hK K
      try simp only [Act.put, List.setIfInBounds_toArray, List.set_cons_zero, List.set_cons_succ]
      refine take_d (i := 15) (d := 3) (v := ?_) rfl rfl (by kernel_rfl) (by kernel_rfl) (by kernel_rfl) (fun _ _ _ h => h) (Or.inl ⟨by rfl, ?_⟩) (by assumption) ?_
      rotate_left
      · intro w hSw; (try dsimp only at hSw); go_simp; (try with_reducible rfl)
      try simp only [Act.put, List.setIfInBounds_toArray, List.set_cons_zero, List.set_cons_succ]
      refine wpAnyH_done (by kernel_rfl) ?_ _
      go_wp2_with fail
      obtain ⟨d0', d1', d2', _⟩ := blk3 (w := (((w2.setCell ⟨w.heap.size + 1, 0, none⟩ (.string r.name)).setCell ⟨w.heap.size + 1, 1, none⟩ (.slice B r.args.length c1')).setCell ⟨w.heap.size + 1, 2, none⟩ (.int .i64 r.out)).drew) q1
      refine bodyPost_ret (v := .tuple #[.agg #[.string r.name, .slice B r.args.length c1', .int .i64 r.out], .bool ((m : Int) == (r.args.length : Int))]) (by simp [results, Try.results66, go_sem, d0', d1', d2']) rfl ⟨?_, (T2.trans0 td).trans q2 (fun b hb => .inr (by simp at hb; omega))⟩
      have hbm : ((m : Int) == (r.args.length : Int)) = decide (m = r.args.length) := by rw [Bool.eq_iff_iff]; simp; omega
      unfold RulePost
      rw [Hv.out, hbm]
      exact ⟨B, c1', rfl, RdK.touch (IntsAt.touch0 hin td) q2 (fun b hb hm => by have h1 := hpB b hb; rw [World.size_alloc, Hsz.out] at h1; simp at hm; omega)⟩
    · have hk5 : (k == 5) = false := by simpa using h5
      obtain rfl : key = op := by rw [Hkey.out]; unfold keyN; rw [if_neg h5]
      clear h5
      go_enter Try.func66, Try.ntmps66
      go_wp2_with fail
      rw [← HW0.out]
      refine (Hrs.out _).mono ?_
      rintro e w1 ⟨C, cc, rfl, hru, t1⟩
      have hB1 := t1.cell (cell_blk Hk.out (i := 0) rfl) (by simp)
      go_wp2_with fail
      refine (HI.out C cc w1 _ hru hB1).mono ?_
      rintro e w2 ⟨rfl, t2⟩
      have T2 := (Tk.out.trans0 t1).trans0 t2
      have hr2 := (t1.trans0 t2).blk Hr.out (by simp)
      have hx2 := (t1.trans0 t2).blk Hx.out (by simp)
      obtain ⟨c0, c1, c2, f0, f1, f2⟩ := blk3 hr2
      have hru2 := hru.touch0 t2
      obtain ⟨ad, b, off, B, c1', e1, hadd, z0, z1, z2, hin, hpb, hpB⟩ := hru2.at_ q hq
      rw [← Hre.out] at z0 z1 z2 hin
      subst e1
      have td := (Touch.refl [] w2).drew
      have x0 := td.cell z0 (by simp); have x1 := td.cell z1 (by simp); have x2 := td.cell z2 (by simp)
      have x3 := td.cell (cell_blk hx2 (i := 6) rfl) (by simp)
      obtain ⟨q1, q2⟩ := out3 (td.blk hr2 (by simp)) (.string r.name) (.slice B r.args.length c1') (.int .i64 r.out)
      have hqI0 : (0 : Int) ≤ (q : Int) := by omega
      have hqI : (q : Int) < ((rulesV k).length : Int) := by omega
      have hbW : w.heap.size + 1 + 1 ≤ b := by have h1 := hpb; rw [World.size_alloc, Hsz.out] at h1; omega
      obtain ⟨d0, d1, d2, _⟩ := blk3 q1
      clear z0 z1 z2
      go_wp2_with fail
      refine wp_region_held_drew (S := fun w' => w'.cell? ⟨b, off, none⟩ = some (.string r.name) ∧ w'.cell? ⟨b, off + 1, none⟩ = some (.slice B r.args.length c1') ∧ w'.cell? ⟨b, off + 2, none⟩ = some (.int .i64 r.out) ∧ w'.cell? ⟨w.heap.size, 6, none⟩ = some (.slice A m c)) (by kernel_rfl) ⟨x0, x1, x2, x3⟩ (fun hHeld => ?_)
      refine take_d (i := 0) (d := 23) (v := ?_) rfl rfl (by kernel_rfl) (by kernel_rfl) (by kernel_rfl) (fun _ _ _ h => h) (Or.inl ⟨by rfl, ?_⟩) (by assumption) ?_
      rotate_left
      · intro w hSw; (try dsimp only at hSw); go_simp; (try with_reducible rfl)
      try simp only [Act.put, List.setIfInBounds_toArray, List.set_cons_zero, List.set_cons_succ]
      refine take_d (i := 1) (d := 24) (v := ?_) rfl rfl (by kernel_rfl) (by kernel_rfl) (by kernel_rfl) (fun _ _ _ h => h) (Or.inl ⟨by rfl, ?_⟩) (by assumption) ?_
      rotate_left
      · intro w hSw; (try dsimp only at hSw); go_simp; (try with_reducible rfl)
      try simp only [Act.put, List.setIfInBounds_toArray, List.set_cons_zero, List.set_cons_succ]
      refine take_d (i := 2) (d := 25) (v := ?_) rfl rfl (by kernel_rfl) (by kernel_rfl) (by kernel_rfl) (fun _ _ _ h => h) (Or.inl ⟨by rfl, ?_⟩) (by assumption) ?_
      rotate_left
      · intro w hSw; (try dsimp only at hSw); go_simp; (try with_reducible rfl)
      try simp only [Act.put, List.setIfInBounds_toArray, List.set_cons_zero, List.set_cons_succ]
      refine take_d (i := 3) (d := 26) (v := ?_) rfl rfl (by kernel_rfl) (by kernel_rfl) (by kernel_rfl) (fun _ _ _ h => h) (Or.inl ⟨by rfl, ?_⟩) (by assumption) ?_
      rotate_left
      · intro w hSw; (try dsimp only at hSw); go_simp; (try with_reducible rfl)
      try simp only [Act.put, List.setIfInBounds_toArray, List.set_cons_zero, List.set_cons_succ]
      refine take_d (i := 4) (d := 27) (v := ?_) rfl rfl (by kernel_rfl) (by kernel_rfl) (by kernel_rfl) (fun _ _ _ h => h) (Or.inl ⟨by rfl, ?_⟩) (by assumption) ?_
      rotate_left
      · intro w hSw; (try dsimp only at hSw); go_simp; (try with_reducible rfl)
      try simp only [Act.put, List.setIfInBounds_toArray, List.set_cons_zero, List.set_cons_succ]
      refine take_d (i := 5) (d := 28) (v := ?_) rfl rfl (by kernel_rfl) (by kernel_rfl) (by kernel_rfl) (fun _ _ _ h => h) (Or.inl ⟨by rfl, ?_⟩) (by assumption) ?_
      rotate_left
      · intro w hSw; (try dsimp only at hSw); go_simp; (try with_reducible rfl)
      try simp only [Act.put, List.setIfInBounds_toArray, List.set_cons_zero, List.set_cons_succ]
      refine take_d (i := 6) (d := 29) (v := ?_) rfl rfl (by kernel_rfl) (by kernel_rfl) (by kernel_rfl) (fun _ _ _ h => h) (Or.inl ⟨by rfl, ?_⟩) (by assumption) ?_
      rotate_left
      · intro w hSw; (try dsimp only at hSw); go_simp; (try with_reducible rfl)
      try simp only [Act.put, List.setIfInBounds_toArray, List.set_cons_zero, List.set_cons_succ]
      refine take_d (i := 7) (d := 30) (v := ?_) rfl rfl (by kernel_rfl) (by kernel_rfl) (by kernel_rfl) (fun _ _ _ h => h) (Or.inl ⟨by rfl, ?_⟩) (by assumption) ?_
      rotate_left
      · intro w hSw; (try dsimp only at hSw); go_simp; (try with_reducible rfl)
      try simp only [Act.put, List.setIfInBounds_toArray, List.set_cons_zero, List.set_cons_succ]
      refine take_d (i := 8) (d := 31) (v := ?_) rfl rfl (by kernel_rfl) (by kernel_rfl) (by kernel_rfl) (fun _ _ _ h => h) (Or.inl ⟨by rfl, ?_⟩) (by assumption) ?_
      rotate_left
      · intro w hSw; (try dsimp only at hSw); go_simp; (try with_reducible rfl)
      try simp only [Act.put, List.setIfInBounds_toArray, List.set_cons_zero, List.set_cons_succ]
      refine take_d (i := 9) (d := 32) (v := ?_) rfl rfl (by kernel_rfl) (by kernel_rfl) (by kernel_rfl) (fun _ _ _ h => h) (Or.inl ⟨by rfl, ?_⟩) (by assumption) ?_
      rotate_left
      · intro w hSw; (try dsimp only at hSw); go_simp; (try with_reducible rfl)
      try simp only [Act.put, List.setIfInBounds_toArray, List.set_cons_zero, List.set_cons_succ]
      refine take_d (i := 10) (d := 33) (v := ?_) rfl rfl (by kernel_rfl) (by kernel_rfl) (by kernel_rfl) (fun _ _ _ h => h) (Or.inl ⟨by rfl, ?_⟩) (by assumption) ?_
      rotate_left
      · intro w hSw; (try dsimp only at hSw); go_simp; (try with_reducible rfl)
      try simp only [Act.put, List.setIfInBounds_toArray, List.set_cons_zero, List.set_cons_succ]
      refine take_d (i := 11) (d := 34) (v := ?_) rfl rfl (by kernel_rfl) (by kernel_rfl) (by kernel_rfl) (fun _ _ _ h => h) (Or.inl ⟨by rfl, ?_⟩) (by assumption) ?_
      rotate_left
      · intro w hSw; (try dsimp only at hSw); go_simp; (try with_reducible rfl)
      try simp only [Act.put, List.setIfInBounds_toArray, List.set_cons_zero, List.set_cons_succ]
      refine take_d (i := 12) (d := 35) (v := ?_) rfl rfl (by kernel_rfl) (by kernel_rfl) (by kernel_rfl) (fun _ _ _ h => h) (Or.inl ⟨by rfl, ?_⟩) (by assumption) ?_
      rotate_left
      · intro w hSw; (try dsimp only at hSw); go_simp; (try with_reducible rfl)
      try simp only [Act.put, List.setIfInBounds_toArray, List.set_cons_zero, List.set_cons_succ]
      refine take_d (i := 13) (d := 36) (v := ?_) rfl rfl (by kernel_rfl) (by kernel_rfl) (by kernel_rfl) (fun _ _ _ h => h) (Or.inl ⟨by rfl, ?_⟩) (by assumption) ?_
      rotate_left
      · intro w hSw; (try dsimp only at hSw); go_simp; (try with_reducible rfl)
      try simp only [Act.put, List.setIfInBounds_toArray, List.set_cons_zero, List.set_cons_succ]
      refine wpAnyH_ready (rs := [14]) (by kernel_rfl) (by simp) ?_
      refine AllReadyH.cons rfl (fun K hK => ?_) AllReadyH.nil
      go_simp
      have y0 := q2.cell x0 (by simp only [List.mem_singleton]; omega)
      have y1 := q2.cell x1 (by simp only [List.mem_singleton]; omega)
      have y2 := q2.cell x2 (by simp only [List.mem_singleton]; omega)
      have y3 := q2.cell x3 (by simp only [List.mem_singleton]; omega)
      (try go_wp2_with fail)
      refine hK.out _ _ ⟨y0, y1, y2, y3⟩ (fun _hH => ?_)
      clear hK K
      try simp only [Act.put, List.setIfInBounds_toArray, List.set_cons_zero, List.set_cons_succ]
      refine take_d (i := 15) (d := 3) (v := ?_) rfl rfl (by kernel_rfl) (by kernel_rfl) (by kernel_rfl) (fun _ _ _ h => h) (Or.inl ⟨by rfl, ?_⟩) (by assumption) ?_
      rotate_left
      · intro w hSw; (try dsimp only at hSw); go_simp; (try with_reducible rfl)
      try simp only [Act.put, List.setIfInBounds_toArray, List.set_cons_zero, List.set_cons_succ]
      refine wpAnyH_done (by kernel_rfl) ?_ _
      go_wp2_with fail
      obtain ⟨d0', d1', d2', _⟩ := blk3 (w := (((w2.setCell ⟨w.heap.size + 1, 0, none⟩ (.string r.name)).setCell ⟨w.heap.size + 1, 1, none⟩ (.slice B r.args.length c1')).setCell ⟨w.heap.size + 1, 2, none⟩ (.int .i64 r.out)).drew) q1
      refine bodyPost_ret (v := .tuple #[.agg #[.string r.name, .slice B r.args.length c1', .int .i64 r.out], .bool ((m : Int) == (r.args.length : Int))]) (by simp [results, Try.results66, go_sem, d0', d1', d2']) rfl ⟨?_, (T2.trans0 td).trans q2 (fun b hb => .inr (by simp at hb; omega))⟩
      have hbm : ((m : Int) == (r.args.length : Int)) = decide (m = r.args.length) := by rw [Bool.eq_iff_iff]; simp; omega
      unfold RulePost
      rw [Hv.out, hbm]
      exact ⟨B, c1', rfl, RdK.touch (IntsAt.touch0 hin td) q2 (fun b hb hm => by have h1 := hpB b hb; rw [World.size_alloc, Hsz.out] at h1; simp at hm; omega)⟩
end Go.Proofs.Ytlkckkagoommaaa
