/- Part 36 of the texts of this proof, one behind the other; each begins with its own sentence. No condition beyond those that its theorems state. -/
import Derived.Test.YtafoklilkdnepaaGreatDoorRu35
/- bywashref02.CmpRows. For every rows. -/
namespace Go.Proofs.YtafoklilkdnepaaGreatDoor
open Go.RowKit
set_option maxRecDepth 20000 in
set_option maxHeartbeats 1600000 in
theorem refCmpRows_any (A B : Option Addr) (c1 c2 n m : Nat) (l r : List VD) (hn : l.length = n) (hm : r.length = m) (hok : ∀ v ∈ l, v.Ok 140737000000000) (hok2 : ∀ v ∈ r, v.Ok 140737000000000) (w : World) (h : ValsAt w A l) (h2 : ValsAt w B r) (hl : n ≤ 140737000000000) (hl2 : m ≤ 140737000000000) :
  Calls Tryz.prog 51 #[.slice A n c1, .slice B m c2] w fun e w' => e = .returned (.int .i64 (cmpRV l r)) ∧ Touch [] w w' := by
 subst hn hm
 go_enter Tryz.func51, Tryz.ntmps51
 go_wp2
 go_loopw [5] (fun i wr => ∃ k : Nat, k ≤ l.length ∧ k ≤ r.length ∧ i = .int .i64 k ∧ Hid (cmpRV l r = cmpRV (l.drop k) (r.drop k)) ∧ Touch [] w wr) (fun i _ => l.length - (intOf i).toNat)
 case atStart => exact ⟨0, by omega, by omega, rfl, Lib.hid rfl, Touch.refl _ _⟩
 case round =>
  obtain ⟨k, hka, hkb, rfl, Ho, ht⟩ := hrel
  by_cases hlt : k < l.length ∧ k < r.length
  ·obtain ⟨h1, h2'⟩ := hlt
   obtain ⟨ad, b, off, rfl, hadd, c0, c1, c2⟩ := (h.touch0 ht).at_ k h1
   obtain ⟨bd, b2, off2, rfl, hadd2, d0, d1, d2⟩ := (h2.touch0 ht).at_ k h2'
   have hst := cmpRV_step h1 h2'
   have ho1 := hok _ (List.getElem_mem h1)
   have ho2 := hok2 _ (List.getElem_mem h2')
   obtain ⟨x, hx⟩ : ∃ x, x = l[k] := ⟨_, rfl⟩
   obtain ⟨y, hy⟩ : ∃ y, y = r[k] := ⟨_, rfl⟩
   rw [← hx, ← hy] at hst
   rw [← hx] at c0 c1 c2 ho1
   rw [← hy] at d0 d1 d2 ho2
   obtain ⟨k1, n1, s1⟩ := x
   obtain ⟨k2, n2, s2⟩ := y
   simp only at c0 c1 c2 d0 d1 d2
   have hcv := fun w' => refCmp_any ⟨k1, n1, s1⟩ ⟨k2, n2, s2⟩ (by have := ho1.t; simp only at this ⊢; omega) (by have := ho2.t; simp only at this ⊢; omega) w'
   simp only [VD.val] at hcv
   obtain ⟨q, hq⟩ : ∃ q, q = cmpVV ⟨k1, n1, s1⟩ ⟨k2, n2, s2⟩ := ⟨_, rfl⟩
   rw [← hq] at hst hcv
   have Hcv := Lib.hid hcv
   have Hst := Lib.hid hst
   have g0 := TW.cell c0
   have g1 := TW.cell c1
   have g2 := TW.cell c2
   have f0 := TW.cell d0
   have f1 := TW.cell d1
   have f2 := TW.cell d2
   have h1I : (k : Int) < (l.length : Int) := by omega
   have h2I : (k : Int) < (r.length : Int) := by omega
   have h0I : (0 : Int) ≤ (k : Int) := by omega
   clear hst hcv hx hy hq c0 c1 c2 d0 d1 d2 ho1 ho2
   by_cases h0 : q = 0
   ·subst h0
    have Hq := Lib.hid (show cmpRV l r = cmpRV (l.drop (k + 1)) (r.drop (k + 1)) by rw [Ho.out, Hst.out, if_pos rfl])
    go_wp2
    refine wp_region_tw wr (Touch.refl _ _) (by kernel_rfl) (by kernel_rfl) ?_
    repeat (go_big_quiet_step (((go_at_call 78; exact Calls.tw _ (Hcv.out _)))))
    refine wpQuiet_nil ?_
    rintro _ ⟨x2, rfl⟩
    go_wp2
    go_roundw
    case rel => exact ⟨k + 1, by omega, by omega, by go_num, Hq, ht.trans0 x2.t⟩
    case measure => simp [intOf]; omega
   ·have Hq := Lib.hid (show cmpRV l r = q by rw [Ho.out, Hst.out, if_neg h0])
    have hq : (q == 0) = false := by rw [beq_eq_false_iff_ne]; exact h0
    have hq' : (q != 0) = true := by rw [bne, hq]; rfl
    go_wp2
    refine wp_region_tw wr (Touch.refl _ _) (by kernel_rfl) (by kernel_rfl) ?_
    repeat (go_big_quiet_step (((go_at_call 78; exact Calls.tw _ (Hcv.out _)))))
    refine wpQuiet_nil ?_
    rintro _ ⟨x2, rfl⟩
    go_wp2
    go_ret
    exact ⟨ret_int Hq.out.symm, ht.trans0 x2.t⟩
  ·have hE := cmpRV_end (l.drop k) (r.drop k) (by
    rcases (show l.length ≤ k ∨ r.length ≤ k by omega) with e | e
    ·exact .inl (List.drop_of_length_le e)
    ·exact .inr (List.drop_of_length_le e))
   rw [List.length_drop, List.length_drop] at hE
   have HE := Lib.hid hE
   clear hE
   rcases Nat.lt_trichotomy l.length r.length with hq | hq | hq
   ·have Hq := Lib.hid (show cmpRV l r = -1 by rw [Ho.out, HE.out, if_pos (by omega)])
    obtain rfl : k = l.length := by omega
    have hqI : (l.length : Int) < (r.length : Int) := by omega
    clear HE Ho hlt
    go_wp2
    go_ret
    exact ⟨ret_int Hq.out.symm, ht⟩
   ·have Hq := Lib.hid (show cmpRV l r = 0 by rw [Ho.out, HE.out, if_neg (by omega), if_neg (by omega)])
    obtain rfl : k = l.length := by omega
    clear HE Ho hlt
    go_wp2
    go_ret
    exact ⟨ret_int Hq.out.symm, ht⟩
   ·have Hq := Lib.hid (show cmpRV l r = 1 by rw [Ho.out, HE.out, if_neg (by omega), if_pos (by omega)])
    obtain rfl : k = r.length := by omega
    have hqI : (r.length : Int) < (l.length : Int) := by omega
    clear HE Ho hlt
    go_wp2
    go_ret
    exact ⟨ret_int Hq.out.symm, ht⟩
end Go.Proofs.YtafoklilkdnepaaGreatDoor

/- bywashlaw05: find, right; bywashref03: Check, Sorted. For all. -/
namespace Go.Proofs.YtafoklilkdnepaaGreatDoor
open Go.RowKit

set_option maxRecDepth 20000 in
set_option maxHeartbeats 1600000 in
theorem find5_any (A : Option Addr) (cap n : Nat) (cs : List CD) (hn : cs.length = n) (s : ByteArray) (w : World) (h : ColsAt w A cs) (hl : n ≤ 140737000000000) :
  Calls Tryz.prog 44 #[.slice A n cap, .string s] w fun e w' => e = .returned (.int .i64 (placeI cs s)) ∧ Touch [] w w' := by
 subst hn
 go_enter Tryz.func44, Tryz.ntmps44
 go_wp2
 go_loopw [9] (fun i wr => ∃ k : Nat, k ≤ cs.length ∧ i = .int .i64 k ∧ Hid (∀ j (hj : j < k) (hl : j < cs.length), cs[j].name ≠ s) ∧ Touch [] w wr) (fun i _ => cs.length - (intOf i).toNat)
 case atStart => exact ⟨0, by omega, rfl, Lib.hid (fun j hj => absurd hj (by omega)), Touch.refl _ _⟩
 case round =>
  obtain ⟨k, hk, rfl, Hno, ht⟩ := hrel
  by_cases hlt : k < cs.length
  ·obtain ⟨ad, b, off, rfl, hadd, c0, c1⟩ := (h.touch0 ht).at_ k hlt
   have hyes := placeV_some (s := s) hlt
   obtain ⟨c, hce⟩ : ∃ c, c = cs[k] := ⟨_, rfl⟩
   rw [← hce] at c0 c1 hyes
   obtain ⟨cn, ct⟩ := c
   dsimp only at c0 c1 hyes
   have Hce := Lib.hid hce; have Hyes := Lib.hid hyes
   clear hce hyes
   have hbs := bs_beq cn s
   by_cases hcs : cn = s
   ·have Hp := Lib.hid (Hyes.out hcs (fun j hj => Hno.out j hj (by omega)))
    rw [decide_eq_true hcs] at hbs
    clear hcs
    go_wp2
    go_ret
    exact ⟨ret_int (by unfold placeI; rw [Hp.out]), ht.alloc _⟩
   ·rw [decide_eq_false hcs] at hbs
    have Hcs := Lib.hid hcs
    clear hcs
    go_wp2
    go_roundw
    case rel => exact ⟨k + 1, by omega, by go_num, Lib.hid (fun j hj hl => by
     by_cases hjk : j = k
     ·subst hjk; rw [← Hce.out]; exact Hcs.out
     ·exact Hno.out j (by omega) hl), ht.alloc _⟩
    case measure => simp [intOf]; omega
  ·obtain rfl : k = cs.length := by omega
   have Hp := Lib.hid (placeV_none (cs := cs) (s := s) (fun j hj => Hno.out j hj hj))
   go_wp2
   go_ret
   exact ⟨ret_int (by unfold placeI; rw [Hp.out]), ht⟩

set_option maxRecDepth 20000 in
set_option maxHeartbeats 3200000 in
theorem sorted03_any (A : Option Addr) (c m : Nat) (rows : List (List VD)) (hm : rows.length = m) (hvk : RowsOk rows) (w : World) (hv : RowsAt w A rows) (hl2 : m ≤ 140737000000000) :
  Calls Tryz.prog 57 #[.slice A m c] w fun e w' => e = .returned (.bool (sortedV rows)) ∧ Touch [] w w' := by
 subst hm
 go_enter Tryz.func57, Tryz.ntmps57
 go_wp2
 go_loopw [3] (fun i wr => ∃ j : Nat, (j ≤ rows.length ∨ j = 1) ∧ 1 ≤ j ∧ i = .int .i64 j ∧ Hid (∀ p (hp : p + 1 < rows.length), p + 1 < j → 0 ≤ cmpRV (rows[p + 1]) (rows[p])) ∧ Touch [] w wr) (fun i _ => rows.length - (intOf i).toNat)
 case atStart => exact ⟨1, .inr rfl, Nat.le_refl _, rfl, Lib.hid (fun p hp h => by omega), Touch.refl _ _⟩
 case round =>
  obtain ⟨j, hj, hj1, rfl, Hs, ht⟩ := hrel
  by_cases hlt : j < rows.length
  ·obtain ⟨p, rfl⟩ : ∃ p, j = p + 1 := ⟨j - 1, by omega⟩
   have hp0 : p < rows.length := by omega
   obtain ⟨bd, A1, c1, rfl, e1, hr1⟩ := (hv.touch0 ht).at_ (p + 1) hlt
   obtain ⟨bd2, A2, c2, hbd, e2, hr2⟩ := (hv.touch0 ht).at_ p hp0
   obtain rfl : bd = bd2 := by injection hbd
   have hv1 := hvk _ (List.getElem_mem hlt)
   have hv2 := hvk _ (List.getElem_mem hp0)
   have hno := fun h => sorted_no (rows := rows) hlt h
   have hne := cmpRV_neg rows[p] rows[p + 1]
   obtain ⟨r1, hr1e⟩ : ∃ r, r = rows[p + 1] := ⟨_, rfl⟩
   obtain ⟨r2, hr2e⟩ : ∃ r, r = rows[p] := ⟨_, rfl⟩
   rw [← hr1e] at e1 hr1 hv1 hno hne
   rw [← hr2e] at e2 hr2 hv2 hno hne
   have hcv := fun w' (t : Touch [] wr w') => refCmpRows_any A2 A1 c2 c1 r2.length r1.length r2 r1 rfl rfl hv2.2 hv1.2 w' (hr2.touch0 t) (hr1.touch0 t) hv2.1 hv1.1
   have hcb := cmpRV_b r2 r1
   obtain ⟨x, hx⟩ : ∃ x, x = cmpRV r2 r1 := ⟨_, rfl⟩
   rw [← hx] at hcv hcb hne
   rw [hne] at hno
   have Hcv := Lib.hid hcv
   have Hno := Lib.hid hno
   have Hx := Lib.hid hne
   have Hr1 := Lib.hid hr1e; have Hr2 := Lib.hid hr2e
   obtain ⟨q, hq⟩ : ∃ q, q = p + 1 := ⟨_, rfl⟩
   have hi : (((p + 1 : Nat) : Int)) = (q : Int) := by omega
   rw [hi]
   rw [← hq] at e1
   have hw : IntKind.i64.wrap ((q : Int) - 1) = (p : Int) := by rw [IntWalk.i64_in _ (by omega)]; omega
   have hq00 : (0 : Int) ≤ (q : Int) := by omega
   have hqn : (q : Int) < (rows.length : Int) := by omega
   have hpp : (0 : Int) ≤ (p : Int) := by omega
   have hpn : (p : Int) < (rows.length : Int) := by omega
   have g1 := TW.cell e1
   have g2 := TW.cell e2
   have Hq := Lib.hid hq
   clear hcv hno hx hne hr1e hr2e hi hq e1 e2 hr1 hr2 hv1 hv2 hbd
   by_cases hx0 : 0 < x
   ·have Hf := Lib.hid (Hno.out (by omega))
    go_wp2
    refine wp_region_tw wr (Touch.refl _ _) (by kernel_rfl) (by kernel_rfl) ?_
    repeat (go_big_quiet_step (((go_at_call 51; exact Calls.tw _ (Hcv.out _ (TW.t _))))))
    refine wpQuiet_nil ?_
    rintro _ ⟨x2, rfl⟩
    go_wp2
    go_ret
    exact ⟨ret_bool (by rw [Hf.out]), ht.trans0 x2.t⟩
   ·have Hg := Lib.hid (show ∀ p' (hp : p' + 1 < rows.length), p' + 1 < q + 1 → 0 ≤ cmpRV (rows[p' + 1]) (rows[p']) from fun p' hp h => by
     by_cases he : p' + 1 < p + 1
     ·exact Hs.out p' hp he
     ·obtain rfl : p' = p := by have := Hq.out; omega
      rw [← Hr1.out, ← Hr2.out, Hx.out]; omega)
    go_wp2
    refine wp_region_tw wr (Touch.refl _ _) (by kernel_rfl) (by kernel_rfl) ?_
    repeat (go_big_quiet_step (((go_at_call 51; exact Calls.tw _ (Hcv.out _ (TW.t _))))))
    refine wpQuiet_nil ?_
    rintro _ ⟨x2, rfl⟩
    go_wp2
    go_roundw
    case rel => exact ⟨q + 1, by have := Hq.out; omega, by omega, by go_num, Hg, ht.trans0 x2.t⟩
    case measure => simp [intOf]; have := Hq.out; omega
  ·have Hf := Lib.hid (show sortedV rows = true from sorted_yes fun p hp => Hs.out p hp (by omega))
   have hle : ((j : Int) < (rows.length : Int)) = False := eq_false (by omega)
   go_wp2
   go_ret
   exact ⟨ret_bool (by rw [Hf.out]), ht⟩

set_option maxRecDepth 20000 in
set_option maxHeartbeats 3200000 in
theorem check03_any (SA : Option Addr) (cap n : Nat) (cs : List CD) (hn : cs.length = n) (hok : ∀ c ∈ cs, c.Ok) (A : Option Addr) (c m : Nat) (rows : List (List VD)) (hm : rows.length = m) (hvk : RowsOk rows) (w : World)
  (h : ColsAt w SA cs) (hv : RowsAt w A rows) (hl : n ≤ 140737000000000) (hl2 : m ≤ 140737000000000) :
  Calls Tryz.prog 55 #[.slice SA n cap, .slice A m c] w fun e w' => e = .returned (.int .i64 (fitV cs rows)) ∧ Touch [] w w' := by
 subst hn hm
 have Hck := Lib.hid (refCheck_any SA cap cs.length cs rfl hok w h hl)
 have Hv := Lib.hid (show fitV cs rows = if checkV cs = 0 then (if 4096 < rows.length then 31 else if rows.all (fitR cs) = true then 0 else 12) else checkV cs from rfl)
 obtain ⟨V, hV⟩ : ∃ V, V = fitV cs rows := ⟨_, rfl⟩
 rw [← hV] at Hv ⊢
 obtain ⟨K, hK⟩ : ∃ K, K = checkV cs := ⟨_, rfl⟩
 rw [← hK] at Hv Hck
 clear hV hK
 by_cases h0 : K = 0
 rotate_left
 ·have Hq := Lib.hid (show V = K by rw [Hv.out, if_neg h0])
  have q0 : (K == 0) = false := by simpa using h0
  have q0' : (K != 0) = true := by simpa using h0
  go_enter Tryz.func55, Tryz.ntmps55
  go_wp2_with fail
  refine Hck.out.mono ?_
  rintro e w1 ⟨rfl, t1⟩
  go_wp2
  go_ret
  exact ⟨ret_int Hq.out.symm, t1⟩
 subst h0
 by_cases h1 : 4096 < rows.length
 ·have Hq := Lib.hid (show V = 31 by rw [Hv.out, if_pos rfl, if_pos h1])
  go_enter Tryz.func55, Tryz.ntmps55
  go_wp2_with fail
  refine Hck.out.mono ?_
  rintro e w1 ⟨rfl, t1⟩
  go_wp2
  go_ret
  exact ⟨ret_int Hq.out.symm, t1⟩
 have Hq := Lib.hid (show V = if rows.all (fitR cs) = true then 0 else 12 by rw [Hv.out, if_pos rfl, if_neg h1])
 clear Hv
 go_enter Tryz.func55, Tryz.ntmps55
 go_wp2_with fail
 refine Hck.out.mono ?_
 rintro e w1 ⟨rfl, t1⟩
 go_wp2
 go_loopw [6] (fun i wr => ∃ k : Nat, k ≤ rows.length ∧ i = .int .i64 k ∧ Hid ((rows.take k).all (fitR cs) = true) ∧ Touch [] w wr) (fun i _ => rows.length - (intOf i).toNat)
 case atStart => exact ⟨0, by omega, rfl, Lib.hid rfl, t1⟩
 case round =>
  obtain ⟨k, hk, rfl, Hall, ht⟩ := hrel
  by_cases hlt : k < rows.length
  ·obtain ⟨bd, A1, c1, rfl, e1, hr1⟩ := (hv.touch0 ht).at_ k hlt
   have hv1 := hvk _ (List.getElem_mem hlt)
   have hno := all_no (p := fitR cs) hlt
   have hyes := all_snoc (p := fitR cs) hlt Hall.out
   obtain ⟨r, hre⟩ : ∃ r, r = rows[k] := ⟨_, rfl⟩
   rw [← hre] at e1 hr1 hv1 hno hyes
   have hf := refFits_any SA cap cs.length cs rfl A1 c1 r.length r rfl hv1.2 wr (h.touch0 ht) hr1 hl hv1.1
   obtain ⟨b, hb⟩ : ∃ b, b = fitR cs r := ⟨_, rfl⟩
   rw [← hb] at hf hno hyes
   have Hf := Lib.hid hf; have Hno := Lib.hid hno; have Hyes := Lib.hid hyes
   have hkn : (k : Int) < (rows.length : Int) := by omega
   clear hf hno hyes hb hre hr1 hv1 Hall
   cases b
   ·have Hz := Lib.hid (show V = 12 by rw [Hq.out, if_neg (by rw [Hno.out rfl]; simp)])
    go_wp2_with fail
    refine Hf.out.mono ?_
    rintro e w2 ⟨rfl, t2⟩
    go_wp2
    go_ret
    exact ⟨ret_int Hz.out.symm, ht.trans0 t2⟩
   ·go_wp2_with fail
    refine Hf.out.mono ?_
    rintro e w2 ⟨rfl, t2⟩
    go_wp2_with fail
    go_roundw
    case rel => exact ⟨k + 1, by omega, by go_num, Lib.hid (Hyes.out (by first | trivial | rfl)), ht.trans0 t2⟩
    case measure => simp [intOf]; omega
  ·obtain rfl : k = rows.length := by omega
   have hall := Hall.out
   rw [List.take_length] at hall
   have Hz := Lib.hid (show V = 0 by rw [Hq.out, if_pos hall])
   clear hall Hall
   go_wp2
   go_ret
   exact ⟨ret_int Hz.out.symm, ht⟩

def rightV (cs : List CD) (rows : List (List VD)) : Bool := decide (checkT cs rows = 0)
theorem rightV_eq (cs : List CD) (rows : List (List VD)) : rightV cs rows = (decide (fitV cs rows = 0) && sortedV rows) := by
 unfold rightV checkT
 by_cases h : fitV cs rows = 0
 ·rw [if_pos h, decide_eq_true h, Bool.true_and]
  rcases sortedV rows <;> simp
 ·rw [if_neg h, decide_eq_false h, Bool.false_and]

set_option maxRecDepth 20000 in
set_option maxHeartbeats 3200000 in
theorem right5_any (SA : Option Addr) (cap n : Nat) (cs : List CD) (hn : cs.length = n) (hok : ∀ c ∈ cs, c.Ok) (A : Option Addr) (c m : Nat) (rows : List (List VD)) (hm : rows.length = m) (hvk : RowsOk rows) (hle : RowsLe rows) (w : World)
  (h : ColsAt w SA cs) (hv : RowsAt w A rows) (hl : n ≤ 1000000) (hl2 : m ≤ 1000000) :
  Calls Tryz.prog 25 #[.agg #[.slice SA n cap, .slice A m c]] w fun e w' => e = .returned (.bool (rightV cs rows)) ∧ Touch [] w w' := by
 subst hn hm
 have t0 := (Touch.refl [] w).alloc (.cells #[.slice SA cs.length cap, .slice A rows.length c] 27)
 have hbx := heap_alloc_new w (.cells #[.slice SA cs.length cap, .slice A rows.length c] 27)
 have Hr := Lib.hid (refRows_any A c rows.length rows rfl hl2 hle _ (hv.touch0 t0))
 have Hs := Lib.hid fun w' (t : Touch [] w w') => refSch_any SA cap cs.length cs rfl w' (h.touch0 t) (by omega)
 have HT0 := Lib.hid (And.intro t0 hbx)
 have Hv := Lib.hid (rightV_eq cs rows)
 obtain ⟨V, hV⟩ : ∃ V, V = rightV cs rows := ⟨_, rfl⟩
 rw [← hV] at Hv ⊢
 clear hV t0 hbx
 go_enter Tryz.func25, Tryz.ntmps25
 go_wp2_with fail
 refine Hr.out.mono ?_
 rintro e w1 ⟨B, c1, rfl, ho, t1, hf1⟩
 have HO := Lib.hid ho
 have HT1 := Lib.hid (HT0.out.1.trans0 t1)
 have x0 := t1.cell (cell_blk HT0.out.2 (i := 0) (v := .slice SA cs.length cap) rfl) (by simp)
 clear ho hf1 t1
 go_wp2_with fail
 refine (Hs.out _ HT1.out).mono ?_
 rintro e w2 ⟨A2, c2, rfl, hm⟩
 have HM := Lib.hid hm
 have Hck := Lib.hid (check03_any A2 c2 cs.length cs rfl hok B c1 rows.length rows rfl hvk w2 hm.own.rd (HO.out.rowsAt.touch0 hm.t) (by omega) (by omega))
 obtain ⟨K, hK⟩ : ∃ K, K = fitV cs rows := ⟨_, rfl⟩
 rw [← hK] at Hck Hv
 clear hm x0 hK
 go_wp2_with fail
 refine Hck.out.mono ?_
 rintro e w3 ⟨rfl, t3⟩
 have HT3 := Lib.hid (HM.out.t.trans0 t3)
 clear t3
 by_cases h0 : K = 0
 ·subst h0
  have Hso := Lib.hid (sorted03_any B c1 rows.length rows rfl hvk w3 (HO.out.rowsAt.touch0 HT3.out) (by omega))
  go_wp2_with fail
  refine Hso.out.mono ?_
  rintro e w4 ⟨rfl, t4⟩
  go_wp2
  go_ret
  exact ⟨ret_bool (by rw [Hv.out]; simp), HT1.out.trans0 (HT3.out.trans0 t4)⟩
 ·have q0 : (K == 0) = false := by simpa using h0
  go_wp2
  go_ret
  exact ⟨ret_bool (by rw [Hv.out, decide_eq_false h0, Bool.false_and]), HT1.out.trans0 HT3.out⟩
end Go.Proofs.YtafoklilkdnepaaGreatDoor
