/- Part 18 of the texts of this proof, one behind the other; each begins with its own sentence. No condition beyond those that its theorems state. -/
import Derived.Test.YtafoklilkdnepaaGreatDoorRu17
import Derived.Deep.DrawnRows
import Derived.Laws.StructEq
/- expr.Expr.rule, slices.IndexFunc at its closure: the rule of an expression. For every expression. -/
namespace Go.Proofs.YtafoklilkdnepaaGreatDoor
open Go.RowKit
attribute [local go_sem ↓] Go.wp_at_zero Go.wp_at_succ

theorem rules_len (k : Int) : (rulesV k).length ≤ 140737000000000 := by unfold rulesV; split <;> (try split) <;> (try split) <;> simp
theorem rules_args (k : Int) (r : RU) (h : r ∈ rulesV k) : r.args.length ≤ 3 := by
 unfold rulesV at h
 split at h
 ·simp at h; rcases h with rfl | rfl <;> simp
 ·split at h
  ·simp at h; rcases h with rfl | rfl | rfl | rfl | rfl | rfl | rfl | rfl | rfl | rfl | rfl | rfl | rfl <;> simp
  ·split at h
   ·simp at h; rcases h with rfl | rfl | rfl | rfl | rfl | rfl <;> simp
   ·simp at h
theorem fi_some {α : Type} {p : α → Bool} {l : List α} {k : Nat} (h : k < l.length) (hk : p l[k] = true) (hno : ∀ j (hj : j < k), p (l[j]'(by omega)) = false) : l.findIdx? p = some k := by
 rw [List.findIdx?_eq_some_iff_getElem]
 exact ⟨h, hk, fun j hj => by rw [hno j hj]; simp⟩
theorem fi_none {α : Type} {p : α → Bool} {l : List α} (hno : ∀ j (hj : j < l.length), p l[j] = false) : l.findIdx? p = none := by
 rw [List.findIdx?_eq_none_iff]
 intro c hc
 obtain ⟨j, hj, rfl⟩ := List.mem_iff_getElem.1 hc
 exact hno j hj
theorem fi_lt {α : Type} {p : α → Bool} {l : List α} {k : Nat} (h : l.findIdx? p = some k) : k < l.length := by
 rw [List.findIdx?_eq_some_iff_getElem] at h
 exact h.1

set_option maxHeartbeats 400000 in
theorem rule1_any (nm : ByteArray) (A : Option Addr) (m c : Nat) (out : Int) (B : Nat) (s : ByteArray) (w : World) (hB : w.cell? ⟨B, 0, none⟩ = some (.string s)) :
  Calls Tryz.prog 181 #[.agg #[.string nm, .slice A m c, .int .i64 out], .pointer (some ⟨B, 0, none⟩)] w fun e w' => e = .returned (.bool (decide (nm = s))) ∧ Touch [] w w' := by
 have hbq := bs_beq nm s
 have t0 := (Touch.refl [] w).alloc (.cells #[.string nm, .slice A m c, .int .i64 out] 202)
 have hlt : B < w.heap.size := World.block_lt_of_cell? w _ hB
 go_enter Tryz.func181, Tryz.ntmps181
 go_wp2
 all_goals
  go_ret
  exact ⟨rfl, t0⟩

set_option maxRecDepth 20000 in
set_option maxHeartbeats 1600000 in
theorem indexRules_any (A : Option Addr) (cap n : Nat) (rs : List RU) (hn : rs.length = n) (B : Nat) (s : ByteArray) (w : World) {p : Nat → Prop} (h : RulesAt p w A rs) (hB : w.cell? ⟨B, 0, none⟩ = some (.string s)) (hl : n ≤ 140737000000000) :
  Calls Tryz.prog 180 #[.slice A n cap, .func (.func 181) #[] #[.pointer (some ⟨B, 0, none⟩)]] w fun e w' =>
   e = .returned (.int .i64 (idxI (rs.findIdx? fun r => decide (r.name = s)))) ∧ Touch [] w w' := by
 subst hn
 go_enter Tryz.func180, Tryz.ntmps180
 go_wp2
 go_loopw [8] (fun i wr => ∃ k : Nat, k ≤ rs.length ∧ i = .int .i64 k ∧ Hid (∀ j (hj : j < k) (hl : j < rs.length), decide (rs[j].name = s) = false) ∧ Touch [] w wr) (fun i _ => rs.length - (intOf i).toNat)
 case atStart => exact ⟨0, by omega, rfl, Lib.hid (fun j hj => absurd hj (by omega)), Touch.refl _ _⟩
 case round =>
  obtain ⟨k, hk, rfl, Hno, ht⟩ := hrel
  by_cases hlt : k < rs.length
  ·obtain ⟨ad, b, off, C, cc, rfl, hadd, c0, c1, c2, _, _, _⟩ := (h.touch0 ht).at_ k hlt
   have hyes := fi_some (p := fun r : RU => decide (r.name = s)) hlt
   obtain ⟨c, hce⟩ : ∃ c, c = rs[k] := ⟨_, rfl⟩
   rw [← hce] at c0 c1 c2 hyes
   have Hce := Lib.hid hce; have Hyes := Lib.hid hyes
   clear hce hyes
   have hf := rule1_any c.name C c.args.length cc c.out B s wr (ht.cell hB (by simp))
   have hkI : (k : Int) < (rs.length : Int) := by omega
   rcases hcs : decide (c.name = s) with _ | _
   ·rw [hcs] at hf
    have Hf := Lib.hid hf
    have Hs := Lib.hid (show ∀ j (hj : j < k + 1) (hl : j < rs.length), decide (rs[j].name = s) = false from fun j hj hl => by
     by_cases hj' : j < k
     ·exact Hno.out j hj' hl
     ·obtain rfl : j = k := by omega
      rw [← Hce.out]; exact hcs)
    clear hf hcs
    go_wp2_with fail
    refine Hf.out.mono ?_
    rintro e w1 ⟨rfl, t1⟩
    go_wp2
    go_roundw
    case rel => exact ⟨k + 1, by omega, by go_num, Hs, ht.trans0 t1⟩
    case measure => simp [intOf]; omega
   ·have Hp := Lib.hid (Hyes.out hcs (fun j hj => Hno.out j hj (by omega)))
    rw [hcs] at hf
    have Hf := Lib.hid hf
    clear hf hcs
    go_wp2_with fail
    refine Hf.out.mono ?_
    rintro e w1 ⟨rfl, t1⟩
    go_wp2
    go_ret
    exact ⟨by rw [Hp.out]; rfl, ht.trans0 t1⟩
  ·obtain rfl : k = rs.length := by omega
   have Hp := Lib.hid (fi_none (p := fun r : RU => decide (r.name = s)) (fun j hj => Hno.out j hj hj))
   go_wp2
   go_ret
   exact ⟨by rw [Hp.out]; rfl, ht⟩

/-- the outcome of rule -/
def RulePost (d : ND) (n : Nat) (e : Ending) (w' : World) : Prop :=
 match ruleV d with
 | none => e = .returned (.tuple #[.agg #[.string ⟨#[]⟩, .slice none 0 0, .int .i64 0], .bool false])
 | some r => ∃ B c, e = .returned (.tuple #[.agg #[.string r.name, .slice B r.args.length c, .int .i64 r.out], .bool (decide (n = r.args.length))]) ∧ IntsAt w' B r.args

set_option maxRecDepth 100000 in
set_option maxHeartbeats 3200000 in
theorem rule_any (x : XC) (w : World) :
  Calls Tryz.prog 145 #[x.val] w fun e w' => RulePost x.nd x.n e w' ∧ Touch [] w w' := by
 obtain ⟨⟨k, nm, ⟨vk, vn, vt⟩, op⟩, A, m, c⟩ := x
 dsimp only [XC.val]
 have Hrs := Lib.hid fun w' => rules_any k w'
 have t0 := ((Touch.refl [] w).alloc (.cells #[.int .i64 k, .string nm, .int .i64 vk, .int .i64 vn, .string vt, .string op, .slice A m c] 44)).alloc (.cells #[.string ⟨#[]⟩, .slice none 0 0, .int .i64 0] 202)
 have hbx := ((Touch.refl [] (w.alloc (.cells #[.int .i64 k, .string nm, .int .i64 vk, .int .i64 vn, .string vt, .string op, .slice A m c] 44))).alloc (.cells #[.string ⟨#[]⟩, .slice none 0 0, .int .i64 0] 202)).blk (heap_alloc_new w (.cells #[.int .i64 k, .string nm, .int .i64 vk, .int .i64 vn, .string vt, .string op, .slice A m c] 44)) (by simp)
 have hbr := heap_alloc_new (w.alloc (.cells #[.int .i64 k, .string nm, .int .i64 vk, .int .i64 vn, .string vt, .string op, .slice A m c] 44)) (.cells #[.string ⟨#[]⟩, .slice none 0 0, .int .i64 0] 202)
 simp only [World.size_alloc] at hbr
 obtain ⟨W0, hW0⟩ : ∃ W0, W0 = (w.alloc (.cells #[.int .i64 k, .string nm, .int .i64 vk, .int .i64 vn, .string vt, .string op, .slice A m c] 44)).alloc (.cells #[.string ⟨#[]⟩, .slice none 0 0, .int .i64 0] 202) := ⟨_, rfl⟩
 have hsz : W0.heap.size = w.heap.size + 1 + 1 := by rw [hW0]; simp
 rw [← hW0] at hbx hbr t0
 obtain ⟨key, hkey⟩ : ∃ key, key = keyN ⟨k, nm, ⟨vk, vn, vt⟩, op⟩ := ⟨_, rfl⟩
 have tk := (Touch.refl [] W0).alloc (.cells #[.string key] 9)
 have hbk := heap_alloc_new W0 (.cells #[.string key] 9)
 rw [hsz] at hbk
 have Hx := Lib.hid (tk.blk hbx (by simp)); have Hr := Lib.hid (tk.blk hbr (by simp)); have Hk := Lib.hid hbk
 have Tk := Lib.hid (t0.trans0 tk)
 have Hsz := Lib.hid hsz
 have Hkey := Lib.hid hkey
 have HW0 := Lib.hid hW0
 clear hbx hbr hbk tk t0 hW0 hsz hkey
 have hD : ∀ o, ruleI ⟨k, nm, ⟨vk, vn, vt⟩, op⟩ = o → (rulesV k).findIdx? (fun r => decide (r.name = key)) = o := fun o h => by rw [Hkey.out]; exact h
 rcases hri : ruleI ⟨k, nm, ⟨vk, vn, vt⟩, op⟩ with _ | q
 ·have hI := fun C cc w' (p : Nat → Prop) (hru : RulesAt p w' C (rulesV k)) hB => indexRules_any C cc (rulesV k).length (rulesV k) rfl (w.heap.size + 1 + 1) key w' hru hB (rules_len k)
  rw [hD _ hri] at hI
  simp only [idxI] at hI
  have HI := Lib.hid hI
  have Hv := Lib.hid (show ruleV ⟨k, nm, ⟨vk, vn, vt⟩, op⟩ = none by unfold ruleV; rw [hri])
  clear hI hri hD
  by_cases h5 : k = 5
  ·have hk5 : (k == 5) = true := by rw [h5]; rfl
   obtain rfl : key = nm := by rw [Hkey.out]; unfold keyN; rw [if_pos h5]
   clear h5
   go_enter Tryz.func145, Tryz.ntmps145
   go_wp2_with fail
   rw [← HW0.out]
   refine (Hrs.out _).mono ?_
   rintro e w1 ⟨C, cc, rfl, hru, t1⟩
   have hB1 := t1.cell (cell_blk Hk.out (i := 0) rfl) (by simp)
   go_wp2_with fail
   refine (HI.out C cc w1 _ hru hB1).mono ?_
   rintro e w2 ⟨rfl, t2⟩
   have T2 := (Tk.out.trans0 t1).trans0 t2
   have hr2 := (t1.trans0 t2).blk Hr.out (by simp)
   have hx2 := (t1.trans0 t2).blk Hx.out (by simp)
   obtain ⟨c0, c1, c2, f0, f1, f2⟩ := blk3x hr2
   go_wp2_with fail
   obtain ⟨q1, q2⟩ := out3 hr2 (.string ⟨#[]⟩) (.slice none 0 0) (.int .i64 0)
   obtain ⟨d0, d1, d2, _⟩ := blk3x q1
   refine bodyPost_ret (v := .tuple #[.agg #[.string ⟨#[]⟩, .slice none 0 0, .int .i64 0], .bool false]) (by simp [results, Tryz.results145, go_sem, d0, d1, d2]) rfl ⟨?_, T2.trans q2 (fun b hb => .inr (by simp at hb; omega))⟩
   unfold RulePost
   rw [Hv.out]
  ·have hk5 : (k == 5) = false := by simpa using h5
   obtain rfl : key = op := by rw [Hkey.out]; unfold keyN; rw [if_neg h5]
   clear h5
   go_enter Tryz.func145, Tryz.ntmps145
   go_wp2_with fail
   rw [← HW0.out]
   refine (Hrs.out _).mono ?_
   rintro e w1 ⟨C, cc, rfl, hru, t1⟩
   have hB1 := t1.cell (cell_blk Hk.out (i := 0) rfl) (by simp)
   go_wp2_with fail
   refine (HI.out C cc w1 _ hru hB1).mono ?_
   rintro e w2 ⟨rfl, t2⟩
   have T2 := (Tk.out.trans0 t1).trans0 t2
   have hr2 := (t1.trans0 t2).blk Hr.out (by simp)
   have hx2 := (t1.trans0 t2).blk Hx.out (by simp)
   obtain ⟨c0, c1, c2, f0, f1, f2⟩ := blk3x hr2
   go_wp2_with fail
   obtain ⟨q1, q2⟩ := out3 hr2 (.string ⟨#[]⟩) (.slice none 0 0) (.int .i64 0)
   obtain ⟨d0, d1, d2, _⟩ := blk3x q1
   refine bodyPost_ret (v := .tuple #[.agg #[.string ⟨#[]⟩, .slice none 0 0, .int .i64 0], .bool false]) (by simp [results, Tryz.results145, go_sem, d0, d1, d2]) rfl ⟨?_, T2.trans q2 (fun b hb => .inr (by simp at hb; omega))⟩
   unfold RulePost
   rw [Hv.out]
 ·have hq := fi_lt (hD _ hri)
  have hI := fun C cc w' (p : Nat → Prop) (hru : RulesAt p w' C (rulesV k)) hB => indexRules_any C cc (rulesV k).length (rulesV k) rfl (w.heap.size + 1 + 1) key w' hru hB (rules_len k)
  rw [hD _ hri] at hI
  simp only [idxI] at hI
  have HI := Lib.hid hI
  obtain ⟨r, hr⟩ : ∃ r, r = (rulesV k)[q] := ⟨_, rfl⟩
  have Hv := Lib.hid (show ruleV ⟨k, nm, ⟨vk, vn, vt⟩, op⟩ = some r by unfold ruleV; rw [hri]; show (rulesV k)[q]? = _; rw [List.getElem?_eq_getElem hq, hr])
  have hql := rules_len k
  have hra := rules_args k r (by rw [hr]; exact List.getElem_mem hq)
  have Hre := Lib.hid hr
  clear hI hri hD hr
  by_cases h5 : k = 5
  ·have hk5 : (k == 5) = true := by rw [h5]; rfl
   obtain rfl : key = nm := by rw [Hkey.out]; unfold keyN; rw [if_pos h5]
   clear h5
   go_enter Tryz.func145, Tryz.ntmps145
   go_wp2_with fail
   rw [← HW0.out]
   refine (Hrs.out _).mono ?_
   rintro e w1 ⟨C, cc, rfl, hru, t1⟩
   have hB1 := t1.cell (cell_blk Hk.out (i := 0) rfl) (by simp)
   go_wp2_with fail
   refine (HI.out C cc w1 _ hru hB1).mono ?_
   rintro e w2 ⟨rfl, t2⟩
   have T2 := (Tk.out.trans0 t1).trans0 t2
   have hr2 := (t1.trans0 t2).blk Hr.out (by simp)
   have hx2 := (t1.trans0 t2).blk Hx.out (by simp)
   obtain ⟨c0, c1, c2, f0, f1, f2⟩ := blk3x hr2
   have hru2 := hru.touch0 t2
   obtain ⟨ad, b, off, B, c1', e1, hadd, z0, z1, z2, hin, hpb, hpB⟩ := hru2.at_ q hq
   rw [← Hre.out] at z0 z1 z2 hin
   subst e1
   have td := (Touch.refl [] w2).drew
   have x0 := td.cell z0 (by simp); have x1 := td.cell z1 (by simp); have x2 := td.cell z2 (by simp)
   have x3 := td.cell (cell_blk hx2 (i := 6) rfl) (by simp)
   obtain ⟨q1, q2⟩ := out3 (td.blk hr2 (by simp)) (.string r.name) (.slice B r.args.length c1') (.int .i64 r.out)
   have hqI0 : (0 : Int) ≤ (q : Int) := by omega
   have hqI : (q : Int) < ((rulesV k).length : Int) := by omega
   have hbW : w.heap.size + 1 + 1 ≤ b := by have h1 := hpb; rw [World.size_alloc, Hsz.out] at h1; omega
   obtain ⟨d0, d1, d2, _⟩ := blk3x q1
   clear z0 z1 z2
   go_wp2_with fail
   refine wp_region_held_drew (S := fun w' => w'.cell? ⟨b, off, none⟩ = some (.string r.name) ∧ w'.cell? ⟨b, off + 1, none⟩ = some (.slice B r.args.length c1') ∧ w'.cell? ⟨b, off + 2, none⟩ = some (.int .i64 r.out) ∧ w'.cell? ⟨w.heap.size, 6, none⟩ = some (.slice A m c)) (by kernel_rfl) ⟨x0, x1, x2, x3⟩ (fun hHeld => ?_)
   refine take_d (i := 0) (d := 23) (v := ?_) rfl rfl (by kernel_rfl) (by kernel_rfl) (by kernel_rfl) (fun _ _ _ h => h) (Or.inl ⟨by rfl, ?_⟩) (by assumption) ?_
   rotate_left
   ·intro w hSw; (try dsimp only at hSw); go_simp; (try with_reducible rfl)
   try simp only [Act.put, List.setIfInBounds_toArray, List.set_cons_zero, List.set_cons_succ]
   refine take_d (i := 1) (d := 24) (v := ?_) rfl rfl (by kernel_rfl) (by kernel_rfl) (by kernel_rfl) (fun _ _ _ h => h) (Or.inl ⟨by rfl, ?_⟩) (by assumption) ?_
   rotate_left
   ·intro w hSw; (try dsimp only at hSw); go_simp; (try with_reducible rfl)
   try simp only [Act.put, List.setIfInBounds_toArray, List.set_cons_zero, List.set_cons_succ]
   refine take_d (i := 2) (d := 25) (v := ?_) rfl rfl (by kernel_rfl) (by kernel_rfl) (by kernel_rfl) (fun _ _ _ h => h) (Or.inl ⟨by rfl, ?_⟩) (by assumption) ?_
   rotate_left
   ·intro w hSw; (try dsimp only at hSw); go_simp; (try with_reducible rfl)
   try simp only [Act.put, List.setIfInBounds_toArray, List.set_cons_zero, List.set_cons_succ]
   refine take_d (i := 3) (d := 26) (v := ?_) rfl rfl (by kernel_rfl) (by kernel_rfl) (by kernel_rfl) (fun _ _ _ h => h) (Or.inl ⟨by rfl, ?_⟩) (by assumption) ?_
   rotate_left
   ·intro w hSw; (try dsimp only at hSw); go_simp; (try with_reducible rfl)
   try simp only [Act.put, List.setIfInBounds_toArray, List.set_cons_zero, List.set_cons_succ]
   refine take_d (i := 4) (d := 27) (v := ?_) rfl rfl (by kernel_rfl) (by kernel_rfl) (by kernel_rfl) (fun _ _ _ h => h) (Or.inl ⟨by rfl, ?_⟩) (by assumption) ?_
   rotate_left
   ·intro w hSw; (try dsimp only at hSw); go_simp; (try with_reducible rfl)
   try simp only [Act.put, List.setIfInBounds_toArray, List.set_cons_zero, List.set_cons_succ]
   refine take_d (i := 5) (d := 28) (v := ?_) rfl rfl (by kernel_rfl) (by kernel_rfl) (by kernel_rfl) (fun _ _ _ h => h) (Or.inl ⟨by rfl, ?_⟩) (by assumption) ?_
   rotate_left
   ·intro w hSw; (try dsimp only at hSw); go_simp; (try with_reducible rfl)
   try simp only [Act.put, List.setIfInBounds_toArray, List.set_cons_zero, List.set_cons_succ]
   refine take_d (i := 6) (d := 29) (v := ?_) rfl rfl (by kernel_rfl) (by kernel_rfl) (by kernel_rfl) (fun _ _ _ h => h) (Or.inl ⟨by rfl, ?_⟩) (by assumption) ?_
   rotate_left
   ·intro w hSw; (try dsimp only at hSw); go_simp; (try with_reducible rfl)
   try simp only [Act.put, List.setIfInBounds_toArray, List.set_cons_zero, List.set_cons_succ]
   refine take_d (i := 7) (d := 30) (v := ?_) rfl rfl (by kernel_rfl) (by kernel_rfl) (by kernel_rfl) (fun _ _ _ h => h) (Or.inl ⟨by rfl, ?_⟩) (by assumption) ?_
   rotate_left
   ·intro w hSw; (try dsimp only at hSw); go_simp; (try with_reducible rfl)
   try simp only [Act.put, List.setIfInBounds_toArray, List.set_cons_zero, List.set_cons_succ]
   refine take_d (i := 8) (d := 31) (v := ?_) rfl rfl (by kernel_rfl) (by kernel_rfl) (by kernel_rfl) (fun _ _ _ h => h) (Or.inl ⟨by rfl, ?_⟩) (by assumption) ?_
   rotate_left
   ·intro w hSw; (try dsimp only at hSw); go_simp; (try with_reducible rfl)
   try simp only [Act.put, List.setIfInBounds_toArray, List.set_cons_zero, List.set_cons_succ]
   refine take_d (i := 9) (d := 32) (v := ?_) rfl rfl (by kernel_rfl) (by kernel_rfl) (by kernel_rfl) (fun _ _ _ h => h) (Or.inl ⟨by rfl, ?_⟩) (by assumption) ?_
   rotate_left
   ·intro w hSw; (try dsimp only at hSw); go_simp; (try with_reducible rfl)
   try simp only [Act.put, List.setIfInBounds_toArray, List.set_cons_zero, List.set_cons_succ]
   refine take_d (i := 10) (d := 33) (v := ?_) rfl rfl (by kernel_rfl) (by kernel_rfl) (by kernel_rfl) (fun _ _ _ h => h) (Or.inl ⟨by rfl, ?_⟩) (by assumption) ?_
   rotate_left
   ·intro w hSw; (try dsimp only at hSw); go_simp; (try with_reducible rfl)
   try simp only [Act.put, List.setIfInBounds_toArray, List.set_cons_zero, List.set_cons_succ]
   refine take_d (i := 11) (d := 34) (v := ?_) rfl rfl (by kernel_rfl) (by kernel_rfl) (by kernel_rfl) (fun _ _ _ h => h) (Or.inl ⟨by rfl, ?_⟩) (by assumption) ?_
   rotate_left
   ·intro w hSw; (try dsimp only at hSw); go_simp; (try with_reducible rfl)
   try simp only [Act.put, List.setIfInBounds_toArray, List.set_cons_zero, List.set_cons_succ]
   refine take_d (i := 12) (d := 35) (v := ?_) rfl rfl (by kernel_rfl) (by kernel_rfl) (by kernel_rfl) (fun _ _ _ h => h) (Or.inl ⟨by rfl, ?_⟩) (by assumption) ?_
   rotate_left
   ·intro w hSw; (try dsimp only at hSw); go_simp; (try with_reducible rfl)
   try simp only [Act.put, List.setIfInBounds_toArray, List.set_cons_zero, List.set_cons_succ]
   refine take_d (i := 13) (d := 36) (v := ?_) rfl rfl (by kernel_rfl) (by kernel_rfl) (by kernel_rfl) (fun _ _ _ h => h) (Or.inl ⟨by rfl, ?_⟩) (by assumption) ?_
   rotate_left
   ·intro w hSw; (try dsimp only at hSw); go_simp; (try with_reducible rfl)
   try simp only [Act.put, List.setIfInBounds_toArray, List.set_cons_zero, List.set_cons_succ]
   refine wpAnyH_ready (rs := [14]) (by kernel_rfl) (by simp) ?_
   refine AllReadyH.cons rfl (fun K hK => ?_) AllReadyH.nil
   go_simp
   have y0 := q2.cell x0 (by simp only [List.mem_singleton]; omega)
   have y1 := q2.cell x1 (by simp only [List.mem_singleton]; omega)
   have y2 := q2.cell x2 (by simp only [List.mem_singleton]; omega)
   have y3 := q2.cell x3 (by simp only [List.mem_singleton]; omega)
   (try go_wp2_with fail)
   refine hK.out _ _ ⟨y0, y1, y2, y3⟩ (fun _hH => ?_)
   clear hK K
   try simp only [Act.put, List.setIfInBounds_toArray, List.set_cons_zero, List.set_cons_succ]
   refine take_d (i := 15) (d := 3) (v := ?_) rfl rfl (by kernel_rfl) (by kernel_rfl) (by kernel_rfl) (fun _ _ _ h => h) (Or.inl ⟨by rfl, ?_⟩) (by assumption) ?_
   rotate_left
   ·intro w hSw; (try dsimp only at hSw); go_simp; (try with_reducible rfl)
   try simp only [Act.put, List.setIfInBounds_toArray, List.set_cons_zero, List.set_cons_succ]
   refine wpAnyH_done (by kernel_rfl) ?_ _
   go_wp2_with fail
   obtain ⟨d0', d1', d2', _⟩ := blk3x (w := (((w2.setCell ⟨w.heap.size + 1, 0, none⟩ (.string r.name)).setCell ⟨w.heap.size + 1, 1, none⟩ (.slice B r.args.length c1')).setCell ⟨w.heap.size + 1, 2, none⟩ (.int .i64 r.out)).drew) q1
   refine bodyPost_ret (v := .tuple #[.agg #[.string r.name, .slice B r.args.length c1', .int .i64 r.out], .bool ((m : Int) == (r.args.length : Int))]) (by simp [results, Tryz.results145, go_sem, d0', d1', d2']) rfl ⟨?_, (T2.trans0 td).trans q2 (fun b hb => .inr (by simp at hb; omega))⟩
   have hbm : ((m : Int) == (r.args.length : Int)) = decide (m = r.args.length) := by rw [Bool.eq_iff_iff]; simp; omega
   unfold RulePost
   rw [Hv.out, hbm]
   exact ⟨B, c1', rfl, RdK.touch (IntsAt.touch0 hin td) q2 (fun b hb hm => by have h1 := hpB b hb; rw [World.size_alloc, Hsz.out] at h1; simp at hm; omega)⟩
  ·have hk5 : (k == 5) = false := by simpa using h5
   obtain rfl : key = op := by rw [Hkey.out]; unfold keyN; rw [if_neg h5]
   clear h5
   go_enter Tryz.func145, Tryz.ntmps145
   go_wp2_with fail
   rw [← HW0.out]
   refine (Hrs.out _).mono ?_
   rintro e w1 ⟨C, cc, rfl, hru, t1⟩
   have hB1 := t1.cell (cell_blk Hk.out (i := 0) rfl) (by simp)
   go_wp2_with fail
   refine (HI.out C cc w1 _ hru hB1).mono ?_
   rintro e w2 ⟨rfl, t2⟩
   have T2 := (Tk.out.trans0 t1).trans0 t2
   have hr2 := (t1.trans0 t2).blk Hr.out (by simp)
   have hx2 := (t1.trans0 t2).blk Hx.out (by simp)
   obtain ⟨c0, c1, c2, f0, f1, f2⟩ := blk3x hr2
   have hru2 := hru.touch0 t2
   obtain ⟨ad, b, off, B, c1', e1, hadd, z0, z1, z2, hin, hpb, hpB⟩ := hru2.at_ q hq
   rw [← Hre.out] at z0 z1 z2 hin
   subst e1
   have td := (Touch.refl [] w2).drew
   have x0 := td.cell z0 (by simp); have x1 := td.cell z1 (by simp); have x2 := td.cell z2 (by simp)
   have x3 := td.cell (cell_blk hx2 (i := 6) rfl) (by simp)
   obtain ⟨q1, q2⟩ := out3 (td.blk hr2 (by simp)) (.string r.name) (.slice B r.args.length c1') (.int .i64 r.out)
   have hqI0 : (0 : Int) ≤ (q : Int) := by omega
   have hqI : (q : Int) < ((rulesV k).length : Int) := by omega
   have hbW : w.heap.size + 1 + 1 ≤ b := by have h1 := hpb; rw [World.size_alloc, Hsz.out] at h1; omega
   obtain ⟨d0, d1, d2, _⟩ := blk3x q1
   clear z0 z1 z2
   go_wp2_with fail
   refine wp_region_held_drew (S := fun w' => w'.cell? ⟨b, off, none⟩ = some (.string r.name) ∧ w'.cell? ⟨b, off + 1, none⟩ = some (.slice B r.args.length c1') ∧ w'.cell? ⟨b, off + 2, none⟩ = some (.int .i64 r.out) ∧ w'.cell? ⟨w.heap.size, 6, none⟩ = some (.slice A m c)) (by kernel_rfl) ⟨x0, x1, x2, x3⟩ (fun hHeld => ?_)
   refine take_d (i := 0) (d := 23) (v := ?_) rfl rfl (by kernel_rfl) (by kernel_rfl) (by kernel_rfl) (fun _ _ _ h => h) (Or.inl ⟨by rfl, ?_⟩) (by assumption) ?_
   rotate_left
   ·intro w hSw; (try dsimp only at hSw); go_simp; (try with_reducible rfl)
   try simp only [Act.put, List.setIfInBounds_toArray, List.set_cons_zero, List.set_cons_succ]
   refine take_d (i := 1) (d := 24) (v := ?_) rfl rfl (by kernel_rfl) (by kernel_rfl) (by kernel_rfl) (fun _ _ _ h => h) (Or.inl ⟨by rfl, ?_⟩) (by assumption) ?_
   rotate_left
   ·intro w hSw; (try dsimp only at hSw); go_simp; (try with_reducible rfl)
   try simp only [Act.put, List.setIfInBounds_toArray, List.set_cons_zero, List.set_cons_succ]
   refine take_d (i := 2) (d := 25) (v := ?_) rfl rfl (by kernel_rfl) (by kernel_rfl) (by kernel_rfl) (fun _ _ _ h => h) (Or.inl ⟨by rfl, ?_⟩) (by assumption) ?_
   rotate_left
   ·intro w hSw; (try dsimp only at hSw); go_simp; (try with_reducible rfl)
   try simp only [Act.put, List.setIfInBounds_toArray, List.set_cons_zero, List.set_cons_succ]
   refine take_d (i := 3) (d := 26) (v := ?_) rfl rfl (by kernel_rfl) (by kernel_rfl) (by kernel_rfl) (fun _ _ _ h => h) (Or.inl ⟨by rfl, ?_⟩) (by assumption) ?_
   rotate_left
   ·intro w hSw; (try dsimp only at hSw); go_simp; (try with_reducible rfl)
   try simp only [Act.put, List.setIfInBounds_toArray, List.set_cons_zero, List.set_cons_succ]
   refine take_d (i := 4) (d := 27) (v := ?_) rfl rfl (by kernel_rfl) (by kernel_rfl) (by kernel_rfl) (fun _ _ _ h => h) (Or.inl ⟨by rfl, ?_⟩) (by assumption) ?_
   rotate_left
   ·intro w hSw; (try dsimp only at hSw); go_simp; (try with_reducible rfl)
   try simp only [Act.put, List.setIfInBounds_toArray, List.set_cons_zero, List.set_cons_succ]
   refine take_d (i := 5) (d := 28) (v := ?_) rfl rfl (by kernel_rfl) (by kernel_rfl) (by kernel_rfl) (fun _ _ _ h => h) (Or.inl ⟨by rfl, ?_⟩) (by assumption) ?_
   rotate_left
   ·intro w hSw; (try dsimp only at hSw); go_simp; (try with_reducible rfl)
   try simp only [Act.put, List.setIfInBounds_toArray, List.set_cons_zero, List.set_cons_succ]
   refine take_d (i := 6) (d := 29) (v := ?_) rfl rfl (by kernel_rfl) (by kernel_rfl) (by kernel_rfl) (fun _ _ _ h => h) (Or.inl ⟨by rfl, ?_⟩) (by assumption) ?_
   rotate_left
   ·intro w hSw; (try dsimp only at hSw); go_simp; (try with_reducible rfl)
   try simp only [Act.put, List.setIfInBounds_toArray, List.set_cons_zero, List.set_cons_succ]
   refine take_d (i := 7) (d := 30) (v := ?_) rfl rfl (by kernel_rfl) (by kernel_rfl) (by kernel_rfl) (fun _ _ _ h => h) (Or.inl ⟨by rfl, ?_⟩) (by assumption) ?_
   rotate_left
   ·intro w hSw; (try dsimp only at hSw); go_simp; (try with_reducible rfl)
   try simp only [Act.put, List.setIfInBounds_toArray, List.set_cons_zero, List.set_cons_succ]
   refine take_d (i := 8) (d := 31) (v := ?_) rfl rfl (by kernel_rfl) (by kernel_rfl) (by kernel_rfl) (fun _ _ _ h => h) (Or.inl ⟨by rfl, ?_⟩) (by assumption) ?_
   rotate_left
   ·intro w hSw; (try dsimp only at hSw); go_simp; (try with_reducible rfl)
   try simp only [Act.put, List.setIfInBounds_toArray, List.set_cons_zero, List.set_cons_succ]
   refine take_d (i := 9) (d := 32) (v := ?_) rfl rfl (by kernel_rfl) (by kernel_rfl) (by kernel_rfl) (fun _ _ _ h => h) (Or.inl ⟨by rfl, ?_⟩) (by assumption) ?_
   rotate_left
   ·intro w hSw; (try dsimp only at hSw); go_simp; (try with_reducible rfl)
   try simp only [Act.put, List.setIfInBounds_toArray, List.set_cons_zero, List.set_cons_succ]
   refine take_d (i := 10) (d := 33) (v := ?_) rfl rfl (by kernel_rfl) (by kernel_rfl) (by kernel_rfl) (fun _ _ _ h => h) (Or.inl ⟨by rfl, ?_⟩) (by assumption) ?_
   rotate_left
   ·intro w hSw; (try dsimp only at hSw); go_simp; (try with_reducible rfl)
   try simp only [Act.put, List.setIfInBounds_toArray, List.set_cons_zero, List.set_cons_succ]
   refine take_d (i := 11) (d := 34) (v := ?_) rfl rfl (by kernel_rfl) (by kernel_rfl) (by kernel_rfl) (fun _ _ _ h => h) (Or.inl ⟨by rfl, ?_⟩) (by assumption) ?_
   rotate_left
   ·intro w hSw; (try dsimp only at hSw); go_simp; (try with_reducible rfl)
   try simp only [Act.put, List.setIfInBounds_toArray, List.set_cons_zero, List.set_cons_succ]
   refine take_d (i := 12) (d := 35) (v := ?_) rfl rfl (by kernel_rfl) (by kernel_rfl) (by kernel_rfl) (fun _ _ _ h => h) (Or.inl ⟨by rfl, ?_⟩) (by assumption) ?_
   rotate_left
   ·intro w hSw; (try dsimp only at hSw); go_simp; (try with_reducible rfl)
   try simp only [Act.put, List.setIfInBounds_toArray, List.set_cons_zero, List.set_cons_succ]
   refine take_d (i := 13) (d := 36) (v := ?_) rfl rfl (by kernel_rfl) (by kernel_rfl) (by kernel_rfl) (fun _ _ _ h => h) (Or.inl ⟨by rfl, ?_⟩) (by assumption) ?_
   rotate_left
   ·intro w hSw; (try dsimp only at hSw); go_simp; (try with_reducible rfl)
   try simp only [Act.put, List.setIfInBounds_toArray, List.set_cons_zero, List.set_cons_succ]
   refine wpAnyH_ready (rs := [14]) (by kernel_rfl) (by simp) ?_
   refine AllReadyH.cons rfl (fun K hK => ?_) AllReadyH.nil
   go_simp
   have y0 := q2.cell x0 (by simp only [List.mem_singleton]; omega)
   have y1 := q2.cell x1 (by simp only [List.mem_singleton]; omega)
   have y2 := q2.cell x2 (by simp only [List.mem_singleton]; omega)
   have y3 := q2.cell x3 (by simp only [List.mem_singleton]; omega)
   (try go_wp2_with fail)
   refine hK.out _ _ ⟨y0, y1, y2, y3⟩ (fun _hH => ?_)
   clear hK K
   try simp only [Act.put, List.setIfInBounds_toArray, List.set_cons_zero, List.set_cons_succ]
   refine take_d (i := 15) (d := 3) (v := ?_) rfl rfl (by kernel_rfl) (by kernel_rfl) (by kernel_rfl) (fun _ _ _ h => h) (Or.inl ⟨by rfl, ?_⟩) (by assumption) ?_
   rotate_left
   ·intro w hSw; (try dsimp only at hSw); go_simp; (try with_reducible rfl)
   try simp only [Act.put, List.setIfInBounds_toArray, List.set_cons_zero, List.set_cons_succ]
   refine wpAnyH_done (by kernel_rfl) ?_ _
   go_wp2_with fail
   obtain ⟨d0', d1', d2', _⟩ := blk3x (w := (((w2.setCell ⟨w.heap.size + 1, 0, none⟩ (.string r.name)).setCell ⟨w.heap.size + 1, 1, none⟩ (.slice B r.args.length c1')).setCell ⟨w.heap.size + 1, 2, none⟩ (.int .i64 r.out)).drew) q1
   refine bodyPost_ret (v := .tuple #[.agg #[.string r.name, .slice B r.args.length c1', .int .i64 r.out], .bool ((m : Int) == (r.args.length : Int))]) (by simp [results, Tryz.results145, go_sem, d0', d1', d2']) rfl ⟨?_, (T2.trans0 td).trans q2 (fun b hb => .inr (by simp at hb; omega))⟩
   have hbm : ((m : Int) == (r.args.length : Int)) = decide (m = r.args.length) := by rw [Bool.eq_iff_iff]; simp; omega
   unfold RulePost
   rw [Hv.out, hbm]
   exact ⟨B, c1', rfl, RdK.touch (IntsAt.touch0 hin td) q2 (fun b hb hm => by have h1 := hpB b hb; rw [World.size_alloc, Hsz.out] at h1; simp at hm; omega)⟩
end Go.Proofs.YtafoklilkdnepaaGreatDoor

/- expr.Expr.Equal, slices.EqualFunc at it: are two expressions one? For all expressions. -/
namespace Go.Proofs.YtafoklilkdnepaaGreatDoor
open Go.RowKit

def eqV3 (a b : VD) : Bool := decide (a.kind = b.kind) && (decide (a.num = b.num) && decide (a.text = b.text))
theorem eqV3_iff (a b : VD) : eqV3 a b = true ↔ a = b := by
 obtain ⟨ak, an, at_⟩ := a
 obtain ⟨bk, bn, bt⟩ := b
 simp [eqV3]
theorem eqIn_valX (a b : VD) (w : World) : (Op.equalIn 10000 31 (.agg #[.int .i64 a.kind, .int .i64 a.num, .string a.text]) (.agg #[.int .i64 b.kind, .int .i64 b.num, .string b.text])).run Tryz.prog w = .ok (eqV3 a b) w := by
 have hS : Tryz.prog.underlying 31 = some (.struct (Tryz.prog.fieldsOf 31)) := by kernel_rfl
 have hp : Tryz.prog.stoodInHeld 31 = false := by kernel_rfl
 rw [show (10000 : Nat) = 9999 + 1 from rfl, run_equalIn_agg w 9999 31 _ _ hS hp]
 simp only [Program.fieldsOf, Tryz.underlying31]
 have hs := bs_beq a.text b.text
 go_simp
 by_cases h1 : a.kind = b.kind <;> by_cases h2 : a.num = b.num <;> by_cases h3 : a.text = b.text <;> simp [eqV3, h1, h2, h3]
theorem guard_valX (op : BinOp) (x y : Operand) (a b : Array Value) (w : World) : (eqGuard op 31 x y (.agg a) (.agg b)).run Tryz.prog w = .ok () w := run_eqGuard_agg w op _ x y _ _ (by kernel_rfl)
theorem eqL_drop {α : Type} (f : α → α → Bool) (l r : List α) (k : Nat) (h : k < l.length) (h2 : k < r.length) : eqL f (l.drop k) (r.drop k) = (f l[k] r[k] && eqL f (l.drop (k + 1)) (r.drop (k + 1))) := by
 rw [List.drop_eq_getElem_cons h, List.drop_eq_getElem_cons h2]; rfl
theorem eqL_len {α : Type} (f : α → α → Bool) : ∀ l r : List α, l.length ≠ r.length → eqL f l r = false
 | [], [] => fun h => absurd rfl h
 | [], _ :: _ => fun _ => rfl
 | _ :: _, [] => fun _ => rfl
 | a :: l, b :: r => fun h => by
  show (f a b && eqL f l r) = false
  rw [eqL_len f l r (by simpa using h), Bool.and_false]

/-- what Equal promises -/
def EqSaid (n : Nat) : Prop := ∀ (a b : TX n) (x y : XC) (w : World), ExP xcE anyB n w x a → ExP xcE anyB n w y b → sizeX n a ≤ 1000000 → sizeX n b ≤ 1000000 →
  Calls Tryz.prog 36 #[x.val, y.val] w fun r w' => r = .returned (.bool (eqX n a b)) ∧ Touch [] w w'

set_option maxRecDepth 20000 in
set_option maxHeartbeats 1600000 in
theorem equalFuncX (n : Nat) (ih : EqSaid n) (A B : Option Addr) (c1 c2 m1 m2 : Nat) (l r : List (TX n)) (hm1 : l.length = m1) (hm2 : r.length = m2) (w : World) (h : ArgsP xcE anyB n w A l) (h2 : ArgsP xcE anyB n w B r) (hl : sumX n l ≤ 1000000) (hl2 : sumX n r ≤ 1000000) :
  Calls Tryz.prog 38 #[.slice A m1 c1, .slice B m2 c2, .func (.func 36) #[] #[]] w fun e w' => e = .returned (.bool (eqL (eqX n) l r)) ∧ Touch [] w w' := by
 subst hm1 hm2
 have hs1 := len_le_sum n l
 by_cases hlen : l.length = r.length
 ·have Hlen := Lib.hid hlen
  have hq' : ((l.length : Int) != (r.length : Int)) = false := by rw [hlen]; simp
  clear hlen
  go_enter Tryz.func38, Tryz.ntmps38
  go_wp2
  clear hq'
  go_loopw [17] (fun i wr => ∃ k : Nat, k ≤ l.length ∧ i = .int .i64 k ∧ Hid (eqL (eqX n) l r = eqL (eqX n) (l.drop k) (r.drop k)) ∧ Touch [] w wr) (fun i _ => l.length - (intOf i).toNat)
  case atStart => exact ⟨0, by omega, rfl, Lib.hid rfl, Touch.refl _ _⟩
  case round =>
   obtain ⟨k, hk, rfl, He, ht⟩ := hrel
   by_cases hlt : k < l.length
   ·have hlt2 : k < r.length := by have := Hlen.out; omega
    obtain ⟨ad, b, off, y, rfl, hadd, hy, hcell⟩ := (h.touch0 ht).at_ xcE_length k hlt
    obtain ⟨bd, b2, off2, z, rfl, hadd2, hz, hcell2⟩ := (h2.touch0 ht).at_ xcE_length k hlt2
    have hst := eqL_drop (eqX n) l r k hlt hlt2
    rw [← He.out] at hst
    have hms := size_mem (List.getElem_mem hlt)
    have hms2 := size_mem (List.getElem_mem hlt2)
    obtain ⟨x1, hx1⟩ : ∃ x1, x1 = l[k] := ⟨_, rfl⟩
    obtain ⟨x2, hx2⟩ : ∃ x2, x2 = r[k] := ⟨_, rfl⟩
    rw [← hx1] at hst hy hms
    rw [← hx2] at hst hz hms2
    have Hst := Lib.hid hst
    have Hf := Lib.hid fun w' (t : Touch [] wr w') => ih x1 x2 y z w' (hy.touch0 t) (hz.touch0 t) (by omega) (by omega)
    have ta := ((Touch.refl [] wr).alloc (.cells #[.int .i64 y.nd.kind, .string y.nd.name, .int .i64 y.nd.v.kind, .int .i64 y.nd.v.num, .string y.nd.v.text, .string y.nd.op, .slice y.A y.n y.c] 44)).alloc (.cells #[.int .i64 z.nd.kind, .string z.nd.name, .int .i64 z.nd.v.kind, .int .i64 z.nd.v.num, .string z.nd.v.text, .string z.nd.op, .slice z.A z.n z.c] 44)
    have c0 := hcell 0 _ rfl; have c1 := hcell 1 _ rfl; have c2 := hcell 2 _ rfl; have c3 := hcell 3 _ rfl; have c4 := hcell 4 _ rfl; have c5 := hcell 5 _ rfl; have c6 := hcell 6 _ rfl
    have d0 := hcell2 0 _ rfl; have d1 := hcell2 1 _ rfl; have d2 := hcell2 2 _ rfl; have d3 := hcell2 3 _ rfl; have d4 := hcell2 4 _ rfl; have d5 := hcell2 5 _ rfl; have d6 := hcell2 6 _ rfl
    rw [Nat.add_zero] at c0 d0
    clear hst hx1 hx2 hcell hcell2 He
    obtain ⟨⟨k1, nm1, ⟨vk1, vn1, vt1⟩, op1⟩, A1, m1, c1'⟩ := y
    obtain ⟨⟨k2, nm2, ⟨vk2, vn2, vt2⟩, op2⟩, A2, m2, c2'⟩ := z
    simp only [XC.val] at Hf
    simp only at c0 c1 c2 c3 c4 c5 c6 d0 d1 d2 d3 d4 d5 d6 ta
    have tA := (Touch.refl [] wr).alloc (.cells #[.int .i64 k1, .string nm1, .int .i64 vk1, .int .i64 vn1, .string vt1, .string op1, .slice A1 m1 c1'] 44)
    replace d0 := tA.cell d0 (by simp); replace d1 := tA.cell d1 (by simp); replace d2 := tA.cell d2 (by simp); replace d3 := tA.cell d3 (by simp); replace d4 := tA.cell d4 (by simp); replace d5 := tA.cell d5 (by simp); replace d6 := tA.cell d6 (by simp)
    have hkI : (k : Int) < (l.length : Int) := by omega
    have hkI2 : (k : Int) < (r.length : Int) := by omega
    obtain ⟨bo, hbo⟩ : ∃ bo, bo = eqX n x1 x2 := ⟨_, rfl⟩
    rw [← hbo] at Hst Hf
    clear hbo
    cases bo
    ·go_wp2_with fail
     refine (Hf.out _ ta).mono ?_
     rintro e w1 ⟨rfl, t1⟩
     go_wp2_with fail
     go_ret
     exact ⟨ret_bool (by rw [Hst.out]; rfl), (ht.trans0 ta).trans0 t1⟩
    ·go_wp2_with fail
     refine (Hf.out _ ta).mono ?_
     rintro e w1 ⟨rfl, t1⟩
     go_wp2_with fail
     go_roundw
     case rel => exact ⟨k + 1, by omega, by go_num, Lib.hid (by rw [Hst.out]; rfl), (ht.trans0 ta).trans0 t1⟩
     case measure => simp [intOf]; omega
   ·obtain rfl : k = l.length := by omega
    have Hf := Lib.hid (show eqL (eqX n) l r = true by rw [He.out, List.drop_length, List.drop_of_length_le (by have := Hlen.out; omega)]; rfl)
    go_wp2_with fail
    go_ret
    exact ⟨ret_bool (by rw [Hf.out]), ht⟩
 ·have Hf := Lib.hid (eqL_len (eqX n) l r hlen)
  have hq' : ((l.length : Int) != (r.length : Int)) = true := by rw [bne_iff_ne]; omega
  clear hlen
  go_enter Tryz.func38, Tryz.ntmps38
  go_wp2
  go_ret
  exact ⟨ret_bool (by rw [Hf.out]), Touch.refl _ _⟩

set_option maxRecDepth 20000 in
set_option maxHeartbeats 3200000 in
theorem equalX_any (n : Nat) : EqSaid n := by
 induction n with
 | zero => intro a; exact a.elim
 | succ n ih =>
  intro a b x y w hx hy hs hs2
  obtain ⟨d, l⟩ := a
  obtain ⟨f, r⟩ := b
  obtain ⟨h1, h2, h3⟩ := hx.args
  obtain ⟨g1, g2, g3⟩ := hy.args
  have hsum : sumX n l ≤ 1000000 := by have hs' : 1 + sumX n l ≤ 1000000 := hs; omega
  have hsum2 : sumX n r ≤ 1000000 := by have hs' : 1 + sumX n r ≤ 1000000 := hs2; omega
  have hfin : eqX (n + 1) (d, l) (f, r) = (eqN d f && eqL (eqX n) l r) := rfl
  dsimp only at h1 g1 h2 g2 h3 g3
  subst h1 g1
  have Hef := Lib.hid fun w' (t : Touch [] w w') => equalFuncX n ih x.A y.A x.c y.c x.n y.n l r h2.symm g2.symm w' (h3.touch0 t) (g3.touch0 t) hsum hsum2
  obtain ⟨⟨k1, nm1, ⟨vk1, vn1, vt1⟩, op1⟩, A1, m1, c1⟩ := x
  obtain ⟨⟨k2, nm2, ⟨vk2, vn2, vt2⟩, op2⟩, A2, m2, c2⟩ := y
  dsimp only [XC.val]
  simp only at Hef hfin
  have t0 := ((Touch.refl [] w).alloc (.cells #[.int .i64 k1, .string nm1, .int .i64 vk1, .int .i64 vn1, .string vt1, .string op1, .slice A1 m1 c1] 44)).alloc (.cells #[.int .i64 k2, .string nm2, .int .i64 vk2, .int .i64 vn2, .string vt2, .string op2, .slice A2 m2 c2] 44)
  have hgd := guard_valX
  have heq := eqIn_valX ⟨vk1, vn1, vt1⟩ ⟨vk2, vn2, vt2⟩
  have q1 := bs_beq nm1 nm2
  have q2 := bs_beq op1 op2
  rw [hfin]
  clear hx hy hs hs2 hfin h2 h3 g2 g3 ih
  by_cases e1 : k1 = k2
  rotate_left
  ·have e1' : (k1 == k2) = false := by simpa using e1
   have Hf := Lib.hid (show (eqN ⟨k1, nm1, ⟨vk1, vn1, vt1⟩, op1⟩ ⟨k2, nm2, ⟨vk2, vn2, vt2⟩, op2⟩ && eqL (eqX n) l r) = false by simp [eqN, e1])
   clear e1
   go_enter Tryz.func36, Tryz.ntmps36
   go_wp2_with fail
   go_ret
   exact ⟨by rw [Hf.out]; rfl, t0⟩
  subst e1
  by_cases e2 : nm1 = nm2
  rotate_left
  ·rw [decide_eq_false e2] at q1
   have Hf := Lib.hid (show (eqN ⟨k1, nm1, ⟨vk1, vn1, vt1⟩, op1⟩ ⟨k1, nm2, ⟨vk2, vn2, vt2⟩, op2⟩ && eqL (eqX n) l r) = false by simp [eqN, e2])
   clear e2
   go_enter Tryz.func36, Tryz.ntmps36
   go_wp2_with fail
   go_ret
   exact ⟨by rw [Hf.out]; rfl, t0⟩
  rw [decide_eq_true e2] at q1
  by_cases e3 : eqV3 ⟨vk1, vn1, vt1⟩ ⟨vk2, vn2, vt2⟩ = true
  rotate_left
  ·have e3' : eqV3 ⟨vk1, vn1, vt1⟩ ⟨vk2, vn2, vt2⟩ = false := by simpa using e3
   rw [e3'] at heq
   have Hf := Lib.hid (show (eqN ⟨k1, nm1, ⟨vk1, vn1, vt1⟩, op1⟩ ⟨k1, nm2, ⟨vk2, vn2, vt2⟩, op2⟩ && eqL (eqX n) l r) = false by
    show ((decide (k1 = k1) && (decide (nm1 = nm2) && (eqV3 ⟨vk1, vn1, vt1⟩ ⟨vk2, vn2, vt2⟩ && decide (op1 = op2)))) && eqL (eqX n) l r) = false
    rw [e3']; simp)
   clear e3 e3' e2
   go_enter Tryz.func36, Tryz.ntmps36
   go_wp2_with fail
   go_ret
   exact ⟨by rw [Hf.out]; rfl, t0⟩
  rw [e3] at heq
  by_cases e4 : op1 = op2
  rotate_left
  ·rw [decide_eq_false e4] at q2
   have Hf := Lib.hid (show (eqN ⟨k1, nm1, ⟨vk1, vn1, vt1⟩, op1⟩ ⟨k1, nm2, ⟨vk2, vn2, vt2⟩, op2⟩ && eqL (eqX n) l r) = false by simp [eqN, e4])
   clear e4 e3 e2
   go_enter Tryz.func36, Tryz.ntmps36
   go_wp2_with fail
   go_ret
   exact ⟨by rw [Hf.out]; rfl, t0⟩
  rw [decide_eq_true e4] at q2
  have Hf := Lib.hid (show (eqN ⟨k1, nm1, ⟨vk1, vn1, vt1⟩, op1⟩ ⟨k1, nm2, ⟨vk2, vn2, vt2⟩, op2⟩ && eqL (eqX n) l r) = eqL (eqX n) l r by
    show ((decide (k1 = k1) && (decide (nm1 = nm2) && (eqV3 ⟨vk1, vn1, vt1⟩ ⟨vk2, vn2, vt2⟩ && decide (op1 = op2)))) && eqL (eqX n) l r) = _
    rw [e3]; simp [e2, e4])
  clear e4 e3 e2
  go_enter Tryz.func36, Tryz.ntmps36
  go_wp2_with fail
  refine (Hef.out _ t0).mono ?_
  rintro e w1 ⟨rfl, t1⟩
  go_wp2_with fail
  go_ret
  exact ⟨by rw [Hf.out]; rfl, t0.trans0 t1⟩
end Go.Proofs.YtafoklilkdnepaaGreatDoor
