/- Part 12 of the texts of this proof, one behind the other; each begins with its own sentence. No condition beyond those that its theorems state. -/
import Derived.Test.YtlkckkagoommaaaEv11
import Derived.Deep.DrawnRows
/- bywashref02.Name: is it a right name? For every text. -/
namespace Go.Proofs.Ytlkckkagoommaaa
open Go.RowKit

set_option maxRecDepth 20000 in
set_option maxHeartbeats 1600000 in
theorem refName_any (t : List UInt8) (hs : t.length ≤ 140737000000000) (w : World) :
    Calls Try.prog 57 #[.string (S t)] w fun e w' => e = .returned (.bool (nameV t)) ∧ w = w' := by
  have hsz := S_size t
  go_enter Try.func57, Try.ntmps57
  go_wp2
  go_loop [3] (fun i => ∃ k : Nat, k ≤ t.length ∧ i = .int .i64 k ∧ Hid ((t.take k).all innB = true ∧ (0 < k → ∃ x, t[0]? = some x ∧ letB x = true))) (fun i => t.length - (intOf i).toNat)
  case atStart => exact ⟨0, by omega, rfl, Lib.hid ⟨rfl, fun h => by omega⟩⟩
  case round =>
    obtain ⟨k, hk, rfl, hall⟩ := hrel
    by_cases hlt : k < t.length
    · obtain ⟨x, hx⟩ : ∃ x, x = t[k] := ⟨_, rfl⟩
      have hg := S_get t k (by rw [hsz]; exact hlt)
      rw [← hx] at hg
      have hxl := x.toNat_lt
      have hgood : innB x = true → (k = 0 → letB x = true) → (t.take (k + 1)).all innB = true ∧ (0 < k + 1 → ∃ x, t[0]? = some x ∧ letB x = true) := fun h1 h2 => by
        refine ⟨by rw [List.take_succ_eq_append_getElem hlt, List.all_append, hall.out.1, ← hx]; simp [h1], fun _ => ?_⟩
        rcases Nat.eq_zero_or_pos k with e | e
        · subst e; exact ⟨x, by rw [hx]; exact List.getElem?_eq_getElem hlt, h2 rfl⟩
        · exact hall.out.2 e
      have hbad : innB x = false → nameV t = false := fun h => nameV_bad hlt (by rw [← hx]; exact h)
      have hbad0 : k = 0 → letB x = false → nameV t = false := fun e h => by
        subst e
        cases t with
        | nil => rfl
        | cons c r =>
          have e : x = c := hx
          rw [nameV_cons, ← e, h, Bool.false_and, Bool.and_false]
      have Hg := Lib.hid hgood; have Hb := Lib.hid hbad; have Hb0 := Lib.hid hbad0
      clear hgood hbad hbad0 hx
      have hkk : (k : Int) < t.length := by omega
      have Hlv := Lib.hid (letB_int x); have Hiv := Lib.hid (innB_int x)
      by_cases hsm : 97 ≤ x.toNat ∧ x.toNat ≤ 122
      · obtain ⟨hs1, hs2⟩ := hsm
        have Hl : Hid (letB x = true) := Lib.hid (by simp [letB, hs1, hs2])
        go_wp2
        go_round
        case rel => exact ⟨k + 1, by omega, by go_num, Lib.hid (Hg.out (by simp [innB, Hl.out]) (fun _ => Hl.out))⟩
        case measure => simp [intOf]; omega
      have Hl : Hid (letB x = false) := Lib.hid (by simp [letB]; omega)
      have hdd : 122 < x.toNat → decide ((x.toNat : Int) ≤ 122) = false := fun h => decide_eq_false (by omega)
      have Hdd := Lib.hid hdd; clear hdd
      by_cases hk0 : k = 0
      · subst hk0
        have Hn := Lib.hid (Hb0.out rfl Hl.out)
        rcases (show x.toNat < 97 ∨ (97 ≤ x.toNat ∧ 122 < x.toNat) by omega) with hs1 | ⟨hs1, hs2⟩
        · go_wp2
          go_ret
          exact ⟨ret_bool Hn.out.symm, rfl⟩
        · have hd2 := Hdd.out hs2
          go_wp2
          go_ret
          exact ⟨ret_bool Hn.out.symm, rfl⟩
      · have hkz : ((k : Int) == 0) = false := by rw [beq_eq_false_iff_ne]; omega
        by_cases hi : innB x = true
        · have Hi := Lib.hid hi; clear hi
          have hcase : x.toNat = 95 ∨ (x.toNat ≠ 95 ∧ 48 ≤ x.toNat ∧ x.toNat ≤ 57) := by
            have h1 := Hi.out
            rw [Hiv.out, Hl.out] at h1
            simp at h1
            omega
          rcases hcase with h95 | ⟨h95, h48, h57⟩
          · have hq : ((x.toNat : Int) == 95) = true := by rw [h95]; rfl
            have hq' : ((x.toNat : Int) != 95) = false := by rw [h95]; rfl
            clear h95
            rcases (show x.toNat < 97 ∨ (97 ≤ x.toNat ∧ 122 < x.toNat) by omega) with hs1 | ⟨hs1, hs2⟩
            · go_wp2
              go_round
              case rel => exact ⟨k + 1, by omega, by go_num, Lib.hid (Hg.out Hi.out (fun e => absurd e hk0))⟩
              case measure => simp [intOf]; omega
            · have hd2 := Hdd.out hs2
              go_wp2
              go_round
              case rel => exact ⟨k + 1, by omega, by go_num, Lib.hid (Hg.out Hi.out (fun e => absurd e hk0))⟩
              case measure => simp [intOf]; omega
          · have hq : ((x.toNat : Int) == 95) = false := by rw [beq_eq_false_iff_ne]; omega
            have hq' : ((x.toNat : Int) != 95) = true := by rw [bne, hq]; rfl
            rcases (show x.toNat < 97 ∨ (97 ≤ x.toNat ∧ 122 < x.toNat) by omega) with hs1 | ⟨hs1, hs2⟩
            · go_wp2
              go_round
              case rel => exact ⟨k + 1, by omega, by go_num, Lib.hid (Hg.out Hi.out (fun e => absurd e hk0))⟩
              case measure => simp [intOf]; omega
            · omega
        · have Hn := Lib.hid (Hb.out (by simpa using hi))
          have Hi := Lib.hid hi; clear hi
          have h95 : x.toNat ≠ 95 ∧ (x.toNat < 48 ∨ 57 < x.toNat) := by
            have h1 := Hi.out
            rw [Hiv.out, Hl.out] at h1
            simp at h1; omega
          have hq : ((x.toNat : Int) == 95) = false := by rw [beq_eq_false_iff_ne]; omega
          have hq' : ((x.toNat : Int) != 95) = true := by rw [bne, hq]; rfl
          rcases h95 with ⟨_, h48 | h57⟩
          · go_wp2
            all_goals
              go_ret
              exact ⟨ret_bool Hn.out.symm, rfl⟩
          · rcases (show x.toNat < 97 ∨ (97 ≤ x.toNat ∧ 122 < x.toNat) by omega) with hs1 | ⟨hs1, hs2⟩
            · go_wp2
              go_ret
              exact ⟨ret_bool Hn.out.symm, rfl⟩
            · have hd2 := Hdd.out hs2
              go_wp2
              go_ret
              exact ⟨ret_bool Hn.out.symm, rfl⟩
    · obtain rfl : k = t.length := by omega
      have hall2 := hall.out
      rw [List.take_length] at hall2
      have hn : nameV t = (decide (1 ≤ (t.length : Int)) && decide ((t.length : Int) ≤ 16)) := by
        cases t with
        | nil => rfl
        | cons c r =>
          obtain ⟨x, hx, hl⟩ := hall2.2 (by simp)
          obtain rfl : c = x := by simpa using hx
          rw [nameV_cons, hall2.1, hl, Bool.eq_iff_iff]; simp; omega
      have Hn := Lib.hid hn; clear hn hall2 hall
      go_wp2
      all_goals
        go_ret
        exact ⟨ret_bool (by rw [Hn.out, Bool.eq_iff_iff]; simp; omega), rfl⟩
end Go.Proofs.Ytlkckkagoommaaa

/- bywashref02.Check: is a schema right, as the document says? For every schema. -/
namespace Go.Proofs.Ytlkckkagoommaaa
open Go.RowKit

theorem refName_anyB (s : ByteArray) (hs : s.size ≤ 140737000000000) (w : World) :
    Calls Try.prog 57 #[.string s] w fun e w' => e = .returned (.bool (nameV s.data.toList)) ∧ w = w' := by
  have := refName_any s.data.toList (by rw [size_toList]; exact hs) w
  rwa [S_of] at this

set_option maxRecDepth 20000 in
set_option maxHeartbeats 1600000 in
theorem refCheck_any (A : Option Addr) (cap n : Nat) (cs : List CD) (hn : cs.length = n) (hok : ∀ c ∈ cs, c.Ok) (w : World) (h : ColsAt w A cs) (hl : n ≤ 140737000000000) :
    Calls Try.prog 35 #[.slice A n cap] w fun e w' => e = .returned (.int .i64 (checkV cs)) ∧ Touch [] w w' := by
  subst hn
  by_cases h0 : cs.length < 1 ∨ 16 < cs.length
  · have hc : checkV cs = 31 := by unfold checkV; rw [if_pos h0]
    have Hc := Lib.hid hc; clear hc
    rcases h0 with h0 | h0
    · go_enter Try.func35, Try.ntmps35
      go_wp2
      go_ret
      exact ⟨ret_int Hc.out.symm, Touch.refl _ _⟩
    · go_enter Try.func35, Try.ntmps35
      go_wp2
      go_ret
      exact ⟨ret_int Hc.out.symm, Touch.refl _ _⟩
  · have h1 : 1 ≤ cs.length := by omega
    have h16 : cs.length ≤ 16 := by omega
    have hc : checkV cs = chkL (cs.take 0) (cs.drop 0) := by unfold checkV; rw [if_neg h0]; rfl
    have Hc := Lib.hid hc; clear hc h0
    go_enter Try.func35, Try.ntmps35
    go_wp2
    go_loopw [3] (fun i wr => ∃ k : Nat, k ≤ cs.length ∧ i = .int .i64 k ∧ Hid (checkV cs = chkL (cs.take k) (cs.drop k)) ∧ Touch [] w wr) (fun i _ => cs.length - (intOf i).toNat)
    case atStart => exact ⟨0, by omega, rfl, Hc, Touch.refl _ _⟩
    case round =>
      clear Hc
      obtain ⟨k, hk, rfl, Hc, ht⟩ := hrel
      by_cases hlt : k < cs.length
      · obtain ⟨ad, b, off, rfl, hadd, c0, c1⟩ := (h.touch0 ht).at_ k hlt
        have hcok := hok _ (List.getElem_mem hlt)
        have hst := chk_step hlt
        obtain ⟨c, hce⟩ : ∃ c, c = cs[k] := ⟨_, rfl⟩
        rw [← hce] at c0 c1 hst hcok
        have Hst := Lib.hid (Hc.out.trans hst)
        have Hce := Lib.hid hce
        clear hst Hc hce
        obtain ⟨hcn, hct1, hct2⟩ := hcok
        have hname := refName_anyB c.name hcn wr
        rcases hnv : nameV c.name.data.toList with _ | _
        · rw [hnv] at hname
          have Hname := Lib.hid hname; clear hname
          have he : errC (cs.take k) c = 13 := by unfold errC; rw [if_pos hnv]
          have He := Lib.hid (show checkV cs = 13 by rw [Hst.out, he]; rfl); clear he hnv
          go_wp2_with (go_at_call 57; refine Hname.out.mono ?_; rintro e w1 ⟨rfl, rfl⟩)
          go_ret
          exact ⟨ret_int He.out.symm, ht⟩
        · rw [hnv] at hname
          have Hname := Lib.hid hname; clear hname
          by_cases hty : c.typ ≠ 1 ∧ c.typ ≠ 2
          · have he : errC (cs.take k) c = 12 := by unfold errC; rw [if_neg (by rw [hnv]; simp), if_pos hty]
            have He := Lib.hid (show checkV cs = 12 by rw [Hst.out, he]; rfl); clear he hnv
            obtain ⟨q1, q2⟩ := hty
            have q1b : (c.typ == 1) = false := by rw [beq_eq_false_iff_ne]; exact q1
            have q2b : (c.typ == 2) = false := by rw [beq_eq_false_iff_ne]; exact q2
            have q1n : (c.typ != 1) = true := by rw [bne, q1b]; rfl
            have q2n : (c.typ != 2) = true := by rw [bne, q2b]; rfl
            go_wp2_with (go_at_call 57; refine Hname.out.mono ?_; rintro e w1 ⟨rfl, rfl⟩)
            go_ret
            exact ⟨ret_int He.out.symm, ht⟩
          · have hty2 : c.typ = 1 ∨ c.typ = 2 := by omega
            have Htyn := Lib.hid hty
            have Hnv := Lib.hid hnv
            clear hty hnv
            have c1' := c1
            rcases hty2 with q | q
            all_goals
              rw [q] at c1
              clear q c1'
              go_wp2_with (go_at_call 57; refine Hname.out.mono ?_; rintro e w1 ⟨rfl, rfl⟩)
              obtain ⟨wo, hwo⟩ : ∃ wo : World, wo = wr := ⟨_, rfl⟩
              clear Hname
              go_loopw [4] (fun i wr2 => ∃ j : Nat, j ≤ k ∧ i = .int .i64 j ∧ (∀ m (hm : m < j), cs[m]?.map (·.name) ≠ some c.name) ∧ Touch [] w wr2) (fun i _ => k - (intOf i).toNat)
              case atStart => exact ⟨0, by omega, rfl, fun m hm => absurd hm (by omega), ht⟩
              case round =>
                obtain ⟨j, hj, rfl, hno, ht2⟩ := hrel
                by_cases hjk : j < k
                · obtain ⟨ad2, b2, off2, e2, hadd2, e0, _⟩ := (h.touch0 ht2).at_ j (by omega)
                  obtain rfl : ad = ad2 := by injection e2
                  obtain ⟨ad3, b3, off3, e3, hadd3, f0, _⟩ := (h.touch0 ht2).at_ k hlt
                  obtain rfl : ad = ad3 := by injection e3
                  rw [hadd] at hadd3
                  cases hadd3
                  rw [← Hce.out] at f0
                  obtain ⟨d, hde⟩ : ∃ d, d = cs[j] := ⟨_, rfl⟩
                  rw [← hde] at e0
                  have Hde := Lib.hid hde
                  have hjkI : (j : Int) < (k : Int) := by omega
                  have hj0I : (0 : Int) ≤ (j : Int) := by omega
                  have hk0I : (0 : Int) ≤ (k : Int) := by omega
                  have hjlI : (j : Int) < (cs.length : Int) := by omega
                  have hklI : (k : Int) < (cs.length : Int) := by omega
                  have hno' := Lib.hid hno
                  clear hde e2 e3 hno c0 c1
                  have hbq := bs_beq d.name c.name
                  by_cases hdc : d.name = c.name
                  · have hany : ((cs.take k).any fun d => decide (d.name = c.name)) = true := List.any_eq_true.2 ⟨d, by
                      rw [List.mem_iff_getElem?]; exact ⟨j, by rw [List.getElem?_take, if_pos hjk, Hde.out]; exact List.getElem?_eq_getElem _⟩, by simpa using hdc⟩
                    have he : errC (cs.take k) c = 14 := by unfold errC; rw [if_neg (by rw [Hnv.out]; simp), if_neg Htyn.out, if_pos hany]
                    have He := Lib.hid (show checkV cs = 14 by rw [Hst.out, he]; rfl)
                    rw [decide_eq_true hdc] at hbq
                    clear he hany hdc
                    go_wp2
                    go_quiet (fail)
                    go_wp2
                    go_ret
                    exact ⟨ret_int He.out.symm, ht2.drewN _⟩
                  · rw [decide_eq_false hdc] at hbq
                    have Hdc := Lib.hid hdc
                    clear hdc
                    go_wp2
                    go_quiet (fail)
                    go_wp2
                    go_roundw
                    case rel => exact ⟨j + 1, by omega, by go_num, fun m hm => by
                      by_cases hmj : m < j
                      · exact hno'.out m hmj
                      · obtain rfl : m = j := by omega
                        rw [List.getElem?_eq_getElem (by omega), ← Hde.out]
                        simpa using Hdc.out, ht2.drewN _⟩
                    case measure => simp [intOf]; omega
                · obtain rfl : j = k := by omega
                  have hany : ¬ ((cs.take j).any fun d => decide (d.name = c.name)) = true := fun ha => by
                    obtain ⟨d, hd, hde⟩ := List.any_eq_true.1 ha
                    obtain ⟨m, hm⟩ := List.mem_iff_getElem?.1 hd
                    rw [List.getElem?_take] at hm
                    split at hm
                    · rename_i hmj
                      exact hno m hmj (by rw [hm]; simpa using hde)
                    · cases hm
                  have he : errC (cs.take j) c = 0 := by unfold errC; rw [if_neg (by rw [Hnv.out]; simp), if_neg Htyn.out, if_neg hany]
                  have He := Lib.hid (show checkV cs = chkL (cs.take (j + 1)) (cs.drop (j + 1)) by rw [Hst.out, he]; rfl)
                  clear he hany hno hwo
                  go_wp2
                  go_roundw
                  case rel => exact ⟨j + 1, by omega, by go_num, He, ht2⟩
                  case measure => simp [intOf]; omega
      · obtain rfl : k = cs.length := by omega
        have He := Lib.hid (show checkV cs = 0 by rw [Hc.out, List.drop_length]; rfl)
        go_wp2
        go_ret
        exact ⟨ret_int He.out.symm, ht⟩
end Go.Proofs.Ytlkckkagoommaaa

/- bywashlaw04.typed: the type and the error that the document's answer has. For every expression and schema. -/
namespace Go.Proofs.Ytlkckkagoommaaa
open Go.RowKit
attribute [local go_sem ↓] Go.wp_at_zero Go.wp_at_succ

theorem typ_ne {cs : List CD} (h : checkV cs = 0) : ∀ c ∈ cs, c.typ ≠ 0 := fun c hc => by
  obtain ⟨j, hj, rfl⟩ := List.mem_iff_getElem.1 hc
  have := ((check_zero h).2.2 j hj).2
  omega
set_option maxRecDepth 100000 in
set_option maxHeartbeats 6400000 in
theorem typed4_any (n : Nat) (e : TX n) (x : XC) (A : Option Addr) (cap m : Nat) (cs : List CD) (hm : cs.length = m) (hok : ∀ c ∈ cs, c.Ok) (w : World) (hx : ExP xcE anyB n w x e) (hcs : ColsAt w A cs) (hmb : m ≤ 100000000)
    (hs : sizeX n e ≤ 1000000) (hall : allX (fun q => q.v.text.size ≤ 140737000000000) n e) :
    Calls Try.prog 14 #[x.val, .slice A m cap] w fun r w' => r = .returned (.tuple #[.int .i64 (typeX cs n e).1, .int .i64 (typeX cs n e).2]) ∧ Touch [] w w' := by
  have Hrs := Lib.hid fun w' (t : Touch [] w w') => refSch_any A cap m cs hm w' (hcs.touch0 t) hmb
  have Hck := Lib.hid fun w' (B : Option Addr) (cB : Nat) (h : ColsAt w' B cs) => refCheck_any B cB m cs hm hok w' h (by omega)
  have Hrf := Lib.hid fun w' (t : Touch [] w w') => refX_any n e x w' (hx.touch0 t) hs
  have Hsz := Lib.hid fun w' (y : XC) (h : ExP xcR anyB n w' y e) => refSize_any n e y w' h hs
  have Hty := Lib.hid fun w' (y : XC) (B : Option Addr) (cB : Nat) (h : ExP xcR anyB n w' y e) (hc : ColsAt w' B cs) (h0 : checkV cs = 0) => refType_any n e y B cB m cs hm 1 w' h hc (typ_ne h0) (by omega) hs hall (by omega)
  obtain ⟨res, hres⟩ : ∃ res, res = typeX cs n e := ⟨_, rfl⟩
  rw [← hres]
  unfold typeX at hres
  obtain ⟨⟨k, nm, ⟨vk, vn, vt⟩, op⟩, XA, xm, c⟩ := x
  simp only [XC.val] at Hrf ⊢
  clear hx hall hs
  have t0 := (Touch.refl [] w).alloc (.cells #[.int .i64 k, .string nm, .int .i64 vk, .int .i64 vn, .string vt, .string op, .slice XA xm c] 33)
  have hb := heap_alloc_new w (.cells #[.int .i64 k, .string nm, .int .i64 vk, .int .i64 vn, .string vt, .string op, .slice XA xm c] 33)
  have Hb := Lib.hid hb
  clear hb
  obtain ⟨cv, hcv⟩ : ∃ r, r = checkV cs := ⟨_, rfl⟩
  rw [← hcv] at Hck hres Hty
  by_cases h0 : cv = 0
  rotate_left
  · rw [if_neg h0] at hres
    have Hf := Lib.hid hres
    have q0 : (cv != 0) = true := by simpa using h0
    clear h0 hres hcv
    go_enter Try.func14, Try.ntmps14
    go_wp2_with fail
    refine (Hrs.out _ t0).mono ?_
    rintro e w1 ⟨B, cB, rfl, hmd⟩
    go_wp2_with fail
    refine (Hck.out _ B cB hmd.own.rd).mono ?_
    rintro e w2 ⟨rfl, u2⟩
    go_wp2_with fail
    go_ret2
    exact ⟨by rw [Hf.out]; rfl, (t0.trans0 hmd.t).trans0 u2⟩
  subst h0
  rw [if_pos rfl] at hres
  have Hty2 := Lib.hid fun w' y B cB h hc => Hty.out w' y B cB h hc rfl
  clear Hty hcv
  obtain ⟨tt, htt⟩ : ∃ r, r = typedX cs n 1 e := ⟨_, rfl⟩
  rw [← htt] at Hty2 hres
  obtain ⟨sz, hsz⟩ : ∃ r, r = sizeX n e := ⟨_, rfl⟩
  rw [← hsz] at Hsz hres
  clear hsz htt
  have Hres := Lib.hid hres
  clear hres
  go_enter Try.func14, Try.ntmps14
  go_wp2_with fail
  refine (Hrs.out _ t0).mono ?_
  rintro e w1 ⟨B, cB, rfl, hmd⟩
  go_wp2_with fail
  refine (Hck.out _ B cB hmd.own.rd).mono ?_
  rintro e w2 ⟨rfl, u2⟩
  have T2 := (t0.trans0 hmd.t).trans0 u2
  obtain ⟨a0, a1, a2, a3, a4, a5, a6, _⟩ := blk7 ((hmd.t.trans0 u2).blk Hb.out (by simp))
  go_wp2_with fail
  clear a0 a1 a2 a3 a4 a5 a6
  refine (Hrf.out _ T2).mono ?_
  rintro e w3 ⟨y, rfl, hy, u3⟩
  replace hy := hy.any
  have hszy := fun w' t => Hsz.out w' y (hy.touch0 t)
  have htyy := fun w' t B cB hc => Hty2.out w' y B cB (hy.touch0 t) hc
  obtain ⟨⟨k2, nm2, ⟨vk2, vn2, vt2⟩, op2⟩, YA, ym, yc⟩ := y
  simp only [XC.valR] at hszy htyy ⊢
  have Hszy := Lib.hid hszy
  have Htyy := Lib.hid htyy
  clear hszy htyy hy
  have t4 := (Touch.refl [] w3).alloc (.cells #[.int .i64 k2, .string nm2, .string op2, .int .i64 vk2, .int .i64 vn2, .string vt2, .slice YA ym yc] 61)
  have hby := heap_alloc_new w3 (.cells #[.int .i64 k2, .string nm2, .string op2, .int .i64 vk2, .int .i64 vn2, .string vt2, .slice YA ym yc] 61)
  have Hby := Lib.hid hby
  obtain ⟨a0, a1, a2, a3, a4, a5, a6, _⟩ := blk7 hby
  clear hby
  go_wp2_with fail
  clear a0 a1 a2 a3 a4 a5 a6
  refine (Hszy.out _ t4).mono ?_
  rintro e w5 ⟨rfl, u5⟩
  have T5 := ((T2.trans0 u3).trans0 t4).trans0 u5
  have hbw := u5.blk Hby.out (by simp)
  have V5 := t4.trans0 u5
  by_cases h1 : 256 < sz
  · have Hf := Lib.hid (show res = (0, 31) by rw [Hres.out, if_pos h1])
    have q1 : (256 : Int) < (sz : Int) := by omega
    clear h1
    go_wp2_with fail
    go_ret2
    exact ⟨by rw [Hf.out]; rfl, T5⟩
  have Hf := Lib.hid (show res = tt by rw [Hres.out, if_neg h1])
  have q1 : ¬ (256 : Int) < (sz : Int) := by omega
  clear h1
  go_wp2_with fail
  obtain ⟨a0, a1, a2, a3, a4, a5, a6, _⟩ := blk7 hbw
  refine wp_region_held_drew (S := fun w' => w'.cell? ⟨w3.heap.size, 0, none⟩ = some (.int .i64 k2) ∧ w'.cell? ⟨w3.heap.size, 1, none⟩ = some (.string nm2) ∧ w'.cell? ⟨w3.heap.size, 2, none⟩ = some (.string op2) ∧ w'.cell? ⟨w3.heap.size, 3, none⟩ = some (.int .i64 vk2) ∧ w'.cell? ⟨w3.heap.size, 4, none⟩ = some (.int .i64 vn2) ∧ w'.cell? ⟨w3.heap.size, 5, none⟩ = some (.string vt2) ∧ w'.cell? ⟨w3.heap.size, 6, none⟩ = some (.slice YA ym yc)) (by kernel_rfl) ⟨a0, a1, a2, a3, a4, a5, a6⟩ (fun hHeld => ?_)
  refine take_d (i := 0) (d := 19) (v := ?_) rfl rfl (by kernel_rfl) (by kernel_rfl) (by kernel_rfl) (fun _ _ _ h => h) (Or.inl ⟨by rfl, ?_⟩) (by assumption) ?_
  rotate_left
  · intro w hSw; (try dsimp only at hSw); go_simp; (try with_reducible rfl)
  try simp only [Act.put, List.setIfInBounds_toArray, List.set_cons_zero, List.set_cons_succ]
  refine take_d (i := 1) (d := 20) (v := ?_) rfl rfl (by kernel_rfl) (by kernel_rfl) (by kernel_rfl) (fun _ _ _ h => h) (Or.inl ⟨by rfl, ?_⟩) (by assumption) ?_
  rotate_left
  · intro w hSw; (try dsimp only at hSw); go_simp; (try with_reducible rfl)
  try simp only [Act.put, List.setIfInBounds_toArray, List.set_cons_zero, List.set_cons_succ]
  refine wpAnyH_ready (rs := [2]) (by kernel_rfl) (by simp) ?_
  refine AllReadyH.cons rfl (fun K hK => ?_) AllReadyH.nil
  go_simp
  go_at_call 36
  refine (Hrs.out _ T5.drew).mono ?_
  rintro e w6 ⟨B6, c6, rfl, hmd6⟩
  have v6 := (V5.drew).trans0 hmd6.t
  obtain ⟨b0, b1, b2, b3, b4, b5, b6, _⟩ := blk7 (hmd6.t.blk (show w5.drew.heap[w3.heap.size]? = _ from hbw) (by simp))
  (try go_wp2_with fail)
  refine hK.out _ _ ⟨b0, b1, b2, b3, b4, b5, b6⟩ (fun _hH => ?_)
  clear hK K
  try simp only [Act.put, List.setIfInBounds_toArray, List.set_cons_zero, List.set_cons_succ]
  refine wpAnyH_ready (rs := [3]) (by kernel_rfl) (by simp) ?_
  refine AllReadyH.cons rfl (fun K hK => ?_) AllReadyH.nil
  go_simp
  go_at_call 37
  refine (Htyy.out _ v6 B6 c6 hmd6.own.rd).mono ?_
  rintro e w7 ⟨rfl, u7⟩
  obtain ⟨d0, d1, d2, d3, d4, d5, d6, _⟩ := blk7 (u7.blk (hmd6.t.blk (show w5.drew.heap[w3.heap.size]? = _ from hbw) (by simp)) (by simp))
  (try go_wp2_with fail)
  refine hK.out _ _ ⟨d0, d1, d2, d3, d4, d5, d6⟩ (fun _hH => ?_)
  clear hK K
  try simp only [Act.put, List.setIfInBounds_toArray, List.set_cons_zero, List.set_cons_succ]
  refine take_d (i := 4) (d := 23) (v := ?_) rfl rfl (by kernel_rfl) (by kernel_rfl) (by kernel_rfl) (fun _ _ _ h => h) (Or.inl ⟨by rfl, ?_⟩) (by assumption) ?_
  rotate_left
  · intro w hSw; (try dsimp only at hSw); go_simp; (try with_reducible rfl)
  try simp only [Act.put, List.setIfInBounds_toArray, List.set_cons_zero, List.set_cons_succ]
  refine take_d (i := 5) (d := 24) (v := ?_) rfl rfl (by kernel_rfl) (by kernel_rfl) (by kernel_rfl) (fun _ _ _ h => h) (Or.inl ⟨by rfl, ?_⟩) (by assumption) ?_
  rotate_left
  · intro w hSw; (try dsimp only at hSw); go_simp; (try with_reducible rfl)
  try simp only [Act.put, List.setIfInBounds_toArray, List.set_cons_zero, List.set_cons_succ]
  refine wpAnyH_ready (rs := [6]) (by kernel_rfl) (by simp) ?_
  refine AllReadyH.cons rfl (fun K hK => ?_) AllReadyH.nil
  go_simp
  (try go_wp2_with fail)
  refine hK.out _ _ ⟨d0, d1, d2, d3, d4, d5, d6⟩ (fun _hH => ?_)
  clear hK K
  try simp only [Act.put, List.setIfInBounds_toArray, List.set_cons_zero, List.set_cons_succ]
  refine wpAnyH_ready (rs := [7]) (by kernel_rfl) (by simp) ?_
  refine AllReadyH.cons rfl (fun K hK => ?_) AllReadyH.nil
  go_simp
  (try go_wp2_with fail)
  refine hK.out _ _ ⟨d0, d1, d2, d3, d4, d5, d6⟩ (fun _hH => ?_)
  clear hK K
  try simp only [Act.put, List.setIfInBounds_toArray, List.set_cons_zero, List.set_cons_succ]
  refine wpAnyH_done (by kernel_rfl) ?_ _
  go_wp2_with fail
  go_ret2
  exact ⟨by rw [Hf.out]; rfl, (T5.drew.trans0 hmd6.t).trans0 u7⟩
end Go.Proofs.Ytlkckkagoommaaa

/- An expression in one list, each with the number of its Args: what is built of it. No walk. -/
namespace Go.Proofs.Ytlkckkagoommaaa
open Go.RowKit

/-- bywashlaw04.Plain -/
structure PL where
  nd : ND
  cnt : Int
def plE (p : PL) : List Value := [.int .i64 p.nd.kind, .string p.nd.name, .int .i64 p.nd.v.kind, .int .i64 p.nd.v.num, .string p.nd.v.text, .string p.nd.op, .int .i64 p.cnt]
theorem plE_length (p : PL) : (plE p).length = 7 := rfl
def PlsAt (w : World) (A : Option Addr) (l : List PL) : Prop := RdK plE w A l
def zeroP : PL := ⟨⟨0, S [], ⟨0, 0, S []⟩, S []⟩, 0⟩
/-- so many Args at most, one behind the other; what they take together -/
def kidsX {α : Type} (f : List PL → α × Nat) : Nat → List PL → List α × Nat
  | 0, _ => ([], 0)
  | _ + 1, [] => ([], 0)
  | k + 1, p :: l => ((f (p :: l)).1 :: (kidsX f k ((p :: l).drop (f (p :: l)).2)).1, (f (p :: l)).2 + (kidsX f k ((p :: l).drop (f (p :: l)).2)).2)
theorem kidsX_zero {α : Type} (f : List PL → α × Nat) (l : List PL) : kidsX f 0 l = ([], 0) := by cases l <;> rfl
theorem kidsX_nil {α : Type} (f : List PL → α × Nat) (k : Nat) : kidsX f k [] = ([], 0) := by cases k <;> rfl
theorem kidsX_step {α : Type} (f : List PL → α × Nat) (k : Nat) {l : List PL} (h : l ≠ []) : kidsX f (k + 1) l = ((f l).1 :: (kidsX f k (l.drop (f l).2)).1, (f l).2 + (kidsX f k (l.drop (f l).2)).2) := by
  cases l with
  | nil => exact absurd rfl h
  | cons p l => rfl
/-- what is built, of so many levels more, and how many it takes -/
def buildX : (m : Nat) → List PL → TX (m + 1) × Nat
  | 0, l => ((((l.headD zeroP).nd, []) : TX 1), 1)
  | m + 1, l => ((((l.headD zeroP).nd, (kidsX (buildX m) (l.headD zeroP).cnt.toNat l.tail).1) : TX (m + 2)), 1 + (kidsX (buildX m) (l.headD zeroP).cnt.toNat l.tail).2)
theorem buildX_succ (m : Nat) (l : List PL) : buildX (m + 1) l = ((((l.headD zeroP).nd, (kidsX (buildX m) (l.headD zeroP).cnt.toNat l.tail).1) : TX (m + 2)), 1 + (kidsX (buildX m) (l.headD zeroP).cnt.toNat l.tail).2) := rfl
theorem kidsX_le {α : Type} {f : List PL → α × Nat} (hf : ∀ l, l ≠ [] → (f l).2 ≤ l.length) : ∀ (k : Nat) (l : List PL), (kidsX f k l).2 ≤ l.length
  | 0, l => by rw [kidsX_zero]; exact Nat.zero_le _
  | k + 1, [] => by rw [kidsX_nil]; exact Nat.zero_le _
  | k + 1, p :: l => by
    rw [kidsX_step f k (by simp)]
    have h1 := hf (p :: l) (by simp)
    have h2 := kidsX_le hf k ((p :: l).drop (f (p :: l)).2)
    rw [List.length_drop] at h2
    simp only
    omega
theorem buildX_pos (m : Nat) (l : List PL) : 1 ≤ (buildX m l).2 := by
  cases m with
  | zero => exact Nat.le_refl 1
  | succ m => rw [buildX_succ]; simp only; omega
theorem buildX_le : ∀ (m : Nat) (l : List PL), l ≠ [] → (buildX m l).2 ≤ l.length
  | 0, l => fun h => by
    cases l with
    | nil => exact absurd rfl h
    | cons p l => show 1 ≤ _; simp
  | m + 1, l => fun h => by
    rw [buildX_succ]
    have := kidsX_le (f := buildX m) (fun l h => buildX_le m l h) (l.headD zeroP).cnt.toNat l.tail
    cases l with
    | nil => exact absurd rfl h
    | cons p l => simp only [List.tail_cons, List.length_cons] at this ⊢; omega
/-- as many expressions as it takes -/
theorem kidsX_size {m : Nat} {f : List PL → TX (m + 1) × Nat} (hf : ∀ l, l ≠ [] → sizeX (m + 1) (f l).1 = (f l).2) : ∀ (k : Nat) (l : List PL), sumX (m + 1) (kidsX f k l).1 = (kidsX f k l).2
  | 0, l => by rw [kidsX_zero]; rfl
  | k + 1, [] => by rw [kidsX_nil]; rfl
  | k + 1, p :: l => by
    rw [kidsX_step f k (by simp)]
    have h1 := hf (p :: l) (by simp)
    have h2 := kidsX_size hf k ((p :: l).drop (f (p :: l)).2)
    unfold sumX at h2 ⊢
    simp only [List.map_cons, List.sum_cons]
    omega
theorem buildX_size : ∀ (m : Nat) (l : List PL), sizeX (m + 1) (buildX m l).1 = (buildX m l).2
  | 0, l => rfl
  | m + 1, l => by
    rw [buildX_succ]
    have := kidsX_size (f := buildX m) (fun l _ => buildX_size m l) (l.headD zeroP).cnt.toNat l.tail
    show 1 + sumX (m + 1) _ = 1 + _
    rw [this]
theorem kidsX_all {m : Nat} {q : ND → Prop} {f : List PL → TX (m + 1) × Nat} (hf : ∀ l, l ≠ [] → (∀ p ∈ l, q p.nd) → allX q (m + 1) (f l).1) : ∀ (k : Nat) (l : List PL), (∀ p ∈ l, q p.nd) → ∀ a ∈ (kidsX f k l).1, allX q (m + 1) a
  | 0, l => fun _ a ha => by rw [kidsX_zero] at ha; cases ha
  | k + 1, [] => fun _ a ha => by rw [kidsX_nil] at ha; cases ha
  | k + 1, p :: l => fun h a ha => by
    rw [kidsX_step f k (by simp)] at ha
    rcases List.mem_cons.1 ha with rfl | ha
    · exact hf _ (by simp) h
    · exact kidsX_all hf k _ (fun x hx => h x (List.mem_of_mem_drop hx)) a ha
theorem buildX_all {q : ND → Prop} : ∀ (m : Nat) (l : List PL), l ≠ [] → (∀ p ∈ l, q p.nd) → allX q (m + 1) (buildX m l).1
  | 0, l => fun h hq => by
    cases l with
    | nil => exact absurd rfl h
    | cons p l => exact ⟨hq p List.mem_cons_self, fun a ha => by cases ha⟩
  | m + 1, l => fun h hq => by
    cases l with
    | nil => exact absurd rfl h
    | cons p l =>
      rw [buildX_succ]
      exact ⟨hq p List.mem_cons_self, fun a ha => kidsX_all (fun l h hq => buildX_all m l h hq) _ _ (fun x hx => hq x (List.mem_cons_of_mem _ hx)) a ha⟩
/-- how many there are at most -/
theorem kidsX_len {α : Type} (f : List PL → α × Nat) : ∀ (k : Nat) (l : List PL), (kidsX f k l).1.length ≤ k
  | 0, l => by rw [kidsX_zero]; exact Nat.le_refl _
  | k + 1, [] => by rw [kidsX_nil]; exact Nat.zero_le _
  | k + 1, p :: l => by
    rw [kidsX_step f k (by simp)]
    have := kidsX_len f k ((p :: l).drop (f (p :: l)).2)
    simp only [List.length_cons]; omega
/-- how far the loop has come: these built, so many taken -/
def Come {α : Type} (f : List PL → α × Nat) (k : Nat) (l : List PL) (j t : Nat) (bs : List α) : Prop :=
  bs.length = j ∧ 1 ≤ t ∧ t ≤ l.length ∧ j ≤ k ∧ kidsX f k l.tail = (bs ++ (kidsX f (k - j) (l.drop t)).1, t - 1 + (kidsX f (k - j) (l.drop t)).2)
theorem Come.start {α : Type} (f : List PL → α × Nat) (k : Nat) {l : List PL} (h : l ≠ []) : Come f k l 0 1 [] := by
  cases l with
  | nil => exact absurd rfl h
  | cons p l => exact ⟨rfl, by omega, by simp, by omega, by simp⟩
theorem Come.step {α : Type} {f : List PL → α × Nat} {k : Nat} {l : List PL} {j t : Nat} {bs : List α} (h : Come f k l j t bs) (hj : j < k) (ht : t < l.length) (hf : (f (l.drop t)).2 ≤ (l.drop t).length) :
    Come f k l (j + 1) (t + (f (l.drop t)).2) (bs ++ [(f (l.drop t)).1]) := by
  obtain ⟨h1, h2, h3, h4, h5⟩ := h
  have hne : l.drop t ≠ [] := fun q => by have := congrArg List.length q; rw [List.length_drop] at this; simp at this; omega
  obtain ⟨r, hr⟩ : ∃ r, k - j = r + 1 := ⟨k - j - 1, by omega⟩
  rw [hr, kidsX_step f r hne, List.drop_drop] at h5
  rw [List.length_drop] at hf
  refine ⟨by simp [h1], by omega, by omega, by omega, ?_⟩
  rw [h5, show k - (j + 1) = r by omega]
  exact Prod.ext (by simp) (by simp only; omega)
theorem Come.stop {α : Type} {f : List PL → α × Nat} {k : Nat} {l : List PL} {j t : Nat} {bs : List α} (h : Come f k l j t bs) (hj : k ≤ j ∨ l.length ≤ t) : kidsX f k l.tail = (bs, t - 1) := by
  obtain ⟨_, _, _, h4, h5⟩ := h
  rw [h5]
  rcases hj with hj | hj
  · rw [show k - j = 0 by omega, kidsX_zero]; simp
  · rw [List.drop_of_length_le hj, kidsX_nil]; simp
end Go.Proofs.Ytlkckkagoommaaa

/- bywashlaw04.build: the expression at the beginning of a list. For every list. -/
namespace Go.Proofs.Ytlkckkagoommaaa
open Go.RowKit
attribute [local go_sem ↓] Go.wp_at_zero Go.wp_at_succ

theorem flat_drop (t : Nat) (l : List PL) : (l.drop t).flatMap plE = (l.flatMap plE).drop (t * 7) := by
  induction t generalizing l with
  | zero => simp
  | succ t ih =>
    cases l with
    | nil => simp
    | cons p l => rw [List.drop_succ_cons, ih, List.flatMap_cons, show (t + 1) * 7 = 7 + t * 7 by omega, ← List.drop_drop]; rfl
theorem PlsAt.drop {w : World} {ad : Addr} {l : List PL} (h : PlsAt w (some ad) l) (t : Nat) : PlsAt w (some (ad.add (t * 7))) (l.drop t) := by
  have := Rd.cut (n := (l.flatMap plE).length) h (A' := some (ad.add (t * 7))) (k := t * 7) (fun a h _ => by cases h; rfl)
  rw [List.take_of_length_le (by rw [List.length_drop]; omega)] at this
  unfold PlsAt RdK
  rw [flat_drop]; exact this
/-- what build promises -/
def BuildSaid (m : Nat) : Prop := ∀ (l : List PL) (A : Option Addr) (len cap d : Nat) (w : World), l.length = len → len ≤ cap → 0 < len → len ≤ 100000000 → d + m = 60 → PlsAt w A l →
    Calls Try.prog 12 #[.slice A len cap, .int .i64 d] w fun r w' => ∃ x, r = .returned (.tuple #[x.val, .int .i64 ((buildX m l).2 : Nat)]) ∧ ExP xcE (Fr w.heap.size w') (m + 1) w' x (buildX m l).1 ∧ Touch [] w w'
/-- .. and that the Args are the calls' own -/
def BuildOwn (m : Nat) : Prop := ∀ (l : List PL) (A : Option Addr) (len cap d : Nat) (w : World), l.length = len → len ≤ cap → 0 < len → len ≤ 100000000 → d + m = 60 → PlsAt w A l →
    Calls Try.prog 12 #[.slice A len cap, .int .i64 d] w fun r w' => ∃ x, r = .returned (.tuple #[x.val, .int .i64 ((buildX m l).2 : Nat)]) ∧ ExP xcE (Fr w.heap.size w') (m + 1) w' x (buildX m l).1 ∧ OwnX 33 xcE w.heap.size m w' x.A x.c (buildX m l).1.2 ∧ Touch [] w w'

theorem info_expr2 : (Try.prog.info? 33).map (fun i => (i.zero, i.size, i.bytes)) = some (some (.agg #[.int .i64 0, .string ⟨#[]⟩, .int .i64 0, .int .i64 0, .string ⟨#[]⟩, .string ⟨#[]⟩, .slice none 0 0]), 7, 96) := by kernel_rfl
set_option maxRecDepth 100000 in
set_option maxHeartbeats 6400000 in
theorem build_zero : BuildOwn 0 := by
  intro l A len cap d w hl hc h0 hb hd h
  have hne : l ≠ [] := fun q => by rw [q] at hl; simp at hl; omega
  obtain ⟨p, hp⟩ : ∃ p, p = l.headD zeroP := ⟨_, rfl⟩
  have hp0 : l[0]'(by omega) = p := by rw [hp]; cases l with | nil => exact absurd rfl hne | cons a l => rfl
  have Hst := Lib.hid (show buildX 0 l = ((((l.headD zeroP).nd, []) : TX 1), 1) from rfl)
  rw [← hp] at Hst
  obtain ⟨ad, b, off, rfl, hadd, hbb, hcell⟩ := RdK.at_ h 7 plE_length (by omega) 0 (by omega)
  clear hbb
  rw [hp0] at hcell
  obtain ⟨⟨k, nm, ⟨vk, vn, vt⟩, op⟩, cnt⟩ := p
  simp only at Hst
  have c0 := hcell 0 _ rfl; have c1 := hcell 1 _ rfl; have c2 := hcell 2 _ rfl; have c3 := hcell 3 _ rfl; have c4 := hcell 4 _ rfl; have c5 := hcell 5 _ rfl; have c6 := hcell 6 _ rfl
  rw [Nat.add_zero] at c0
  simp only at c0 c1 c2 c3 c4 c5 c6
  clear hcell hp0 hp
  have hlI : (0 : Int) < (len : Int) := by omega
  have hdI : ¬ (d : Int) < 60 := by omega
  have Hl := Lib.hid hl; have Hne := Lib.hid hne; have Hd := Lib.hid hd; have Hc := Lib.hid hc
  clear hl hne hd
  have t0 := ((Touch.refl [] w).alloc (.cells #[.int .i64 0, .string ⟨#[]⟩, .int .i64 0, .int .i64 0, .string ⟨#[]⟩, .string ⟨#[]⟩, .slice none 0 0] 33)).drew
  have hR0 := ((Touch.refl [] (w.alloc (.cells #[.int .i64 0, .string ⟨#[]⟩, .int .i64 0, .int .i64 0, .string ⟨#[]⟩, .string ⟨#[]⟩, .slice none 0 0] 33))).drew).blk (heap_alloc_new w (.cells #[.int .i64 0, .string ⟨#[]⟩, .int .i64 0, .int .i64 0, .string ⟨#[]⟩, .string ⟨#[]⟩, .slice none 0 0] 33)) (by simp)
  have f0 := t0.cell c0 (by simp)
  have f1 := t0.cell c1 (by simp)
  have f2 := t0.cell c2 (by simp)
  have f3 := t0.cell c3 (by simp)
  have f4 := t0.cell c4 (by simp)
  have f5 := t0.cell c5 (by simp)
  have f6 := t0.cell c6 (by simp)
  go_enter Try.func12, Try.ntmps12
  go_wp2_with fail
  refine wp_region_held_drew (S := fun w' => w'.cell? ⟨b, off, none⟩ = some (.int .i64 k) ∧ w'.cell? ⟨b, off + 1, none⟩ = some (.string nm) ∧ w'.cell? ⟨b, off + 2, none⟩ = some (.int .i64 vk) ∧ w'.cell? ⟨b, off + 2 + 1, none⟩ = some (.int .i64 vn) ∧ w'.cell? ⟨b, off + 2 + 2, none⟩ = some (.string vt) ∧ w'.cell? ⟨b, off + 5, none⟩ = some (.string op)) (by kernel_rfl) ⟨f0, f1, f2, f3, f4, f5⟩ (fun hHeld => ?_)
  refine take_d (i := 0) (d := 11) (v := ?_) rfl rfl (by kernel_rfl) (by kernel_rfl) (by kernel_rfl) (fun _ _ _ h => h) (Or.inl ⟨by rfl, ?_⟩) (by assumption) ?_
  rotate_left
  · intro w hSw; (try dsimp only at hSw); go_simp; (try with_reducible rfl)
  try simp only [Act.put, List.setIfInBounds_toArray, List.set_cons_zero, List.set_cons_succ]
  refine take_d (i := 1) (d := 12) (v := ?_) rfl rfl (by kernel_rfl) (by kernel_rfl) (by kernel_rfl) (fun _ _ _ h => h) (Or.inl ⟨by rfl, ?_⟩) (by assumption) ?_
  rotate_left
  · intro w hSw; (try dsimp only at hSw); go_simp; (try with_reducible rfl)
  try simp only [Act.put, List.setIfInBounds_toArray, List.set_cons_zero, List.set_cons_succ]
  refine take_d (i := 2) (d := 13) (v := ?_) rfl rfl (by kernel_rfl) (by kernel_rfl) (by kernel_rfl) (fun _ _ _ h => h) (Or.inl ⟨by rfl, ?_⟩) (by assumption) ?_
  rotate_left
  · intro w hSw; (try dsimp only at hSw); go_simp; (try with_reducible rfl)
  try simp only [Act.put, List.setIfInBounds_toArray, List.set_cons_zero, List.set_cons_succ]
  refine take_d (i := 3) (d := 14) (v := ?_) rfl rfl (by kernel_rfl) (by kernel_rfl) (by kernel_rfl) (fun _ _ _ h => h) (Or.inl ⟨by rfl, ?_⟩) (by assumption) ?_
  rotate_left
  · intro w hSw; (try dsimp only at hSw); go_simp; (try with_reducible rfl)
  try simp only [Act.put, List.setIfInBounds_toArray, List.set_cons_zero, List.set_cons_succ]
  refine take_d (i := 4) (d := 15) (v := ?_) rfl rfl (by kernel_rfl) (by kernel_rfl) (by kernel_rfl) (fun _ _ _ h => h) (Or.inl ⟨by rfl, ?_⟩) (by assumption) ?_
  rotate_left
  · intro w hSw; (try dsimp only at hSw); go_simp; (try with_reducible rfl)
  try simp only [Act.put, List.setIfInBounds_toArray, List.set_cons_zero, List.set_cons_succ]
  refine take_d (i := 5) (d := 16) (v := ?_) rfl rfl (by kernel_rfl) (by kernel_rfl) (by kernel_rfl) (fun _ _ _ h => h) (Or.inl ⟨by rfl, ?_⟩) (by assumption) ?_
  rotate_left
  · intro w hSw; (try dsimp only at hSw); go_simp; (try with_reducible rfl)
  try simp only [Act.put, List.setIfInBounds_toArray, List.set_cons_zero, List.set_cons_succ]
  refine take_d (i := 6) (d := 17) (v := ?_) rfl rfl (by kernel_rfl) (by kernel_rfl) (by kernel_rfl) (fun _ _ _ h => h) (Or.inl ⟨by rfl, ?_⟩) (by assumption) ?_
  rotate_left
  · intro w hSw; (try dsimp only at hSw); go_simp; (try with_reducible rfl)
  try simp only [Act.put, List.setIfInBounds_toArray, List.set_cons_zero, List.set_cons_succ]
  refine take_d (i := 7) (d := 18) (v := ?_) rfl rfl (by kernel_rfl) (by kernel_rfl) (by kernel_rfl) (fun _ _ _ h => h) (Or.inl ⟨by rfl, ?_⟩) (by assumption) ?_
  rotate_left
  · intro w hSw; (try dsimp only at hSw); go_simp; (try with_reducible rfl)
  try simp only [Act.put, List.setIfInBounds_toArray, List.set_cons_zero, List.set_cons_succ]
  refine take_d (i := 8) (d := 19) (v := ?_) rfl rfl (by kernel_rfl) (by kernel_rfl) (by kernel_rfl) (fun _ _ _ h => h) (Or.inl ⟨by rfl, ?_⟩) (by assumption) ?_
  rotate_left
  · intro w hSw; (try dsimp only at hSw); go_simp; (try with_reducible rfl)
  try simp only [Act.put, List.setIfInBounds_toArray, List.set_cons_zero, List.set_cons_succ]
  refine take_d (i := 9) (d := 20) (v := ?_) rfl rfl (by kernel_rfl) (by kernel_rfl) (by kernel_rfl) (fun _ _ _ h => h) (Or.inl ⟨by rfl, ?_⟩) (by assumption) ?_
  rotate_left
  · intro w hSw; (try dsimp only at hSw); go_simp; (try with_reducible rfl)
  try simp only [Act.put, List.setIfInBounds_toArray, List.set_cons_zero, List.set_cons_succ]
  refine take_d (i := 10) (d := 21) (v := ?_) rfl rfl (by kernel_rfl) (by kernel_rfl) (by kernel_rfl) (fun _ _ _ h => h) (Or.inl ⟨by rfl, ?_⟩) (by assumption) ?_
  rotate_left
  · intro w hSw; (try dsimp only at hSw); go_simp; (try with_reducible rfl)
  try simp only [Act.put, List.setIfInBounds_toArray, List.set_cons_zero, List.set_cons_succ]
  refine take_d (i := 11) (d := 22) (v := ?_) rfl rfl (by kernel_rfl) (by kernel_rfl) (by kernel_rfl) (fun _ _ _ h => h) (Or.inl ⟨by rfl, ?_⟩) (by assumption) ?_
  rotate_left
  · intro w hSw; (try dsimp only at hSw); go_simp; (try with_reducible rfl)
  try simp only [Act.put, List.setIfInBounds_toArray, List.set_cons_zero, List.set_cons_succ]
  refine take_d (i := 12) (d := 23) (v := ?_) rfl rfl (by kernel_rfl) (by kernel_rfl) (by kernel_rfl) (fun _ _ _ h => h) (Or.inl ⟨by rfl, ?_⟩) (by assumption) ?_
  rotate_left
  · intro w hSw; (try dsimp only at hSw); go_simp; (try with_reducible rfl)
  try simp only [Act.put, List.setIfInBounds_toArray, List.set_cons_zero, List.set_cons_succ]
  refine take_d (i := 13) (d := 24) (v := ?_) rfl rfl (by kernel_rfl) (by kernel_rfl) (by kernel_rfl) (fun _ _ _ h => h) (Or.inl ⟨by rfl, ?_⟩) (by assumption) ?_
  rotate_left
  · intro w hSw; (try dsimp only at hSw); go_simp; (try with_reducible rfl)
  try simp only [Act.put, List.setIfInBounds_toArray, List.set_cons_zero, List.set_cons_succ]
  refine take_d (i := 14) (d := 25) (v := ?_) rfl rfl (by kernel_rfl) (by kernel_rfl) (by kernel_rfl) (fun _ _ _ h => h) (Or.inl ⟨by rfl, ?_⟩) (by assumption) ?_
  rotate_left
  · intro w hSw; (try dsimp only at hSw); go_simp; (try with_reducible rfl)
  try simp only [Act.put, List.setIfInBounds_toArray, List.set_cons_zero, List.set_cons_succ]
  refine take_d (i := 15) (d := 26) (v := ?_) rfl rfl (by kernel_rfl) (by kernel_rfl) (by kernel_rfl) (fun _ _ _ h => h) (Or.inl ⟨by rfl, ?_⟩) (by assumption) ?_
  rotate_left
  · intro w hSw; (try dsimp only at hSw); go_simp; (try with_reducible rfl)
  try simp only [Act.put, List.setIfInBounds_toArray, List.set_cons_zero, List.set_cons_succ]
  refine take_d (i := 16) (d := 27) (v := ?_) rfl rfl (by kernel_rfl) (by kernel_rfl) (by kernel_rfl) (fun _ _ _ h => h) (Or.inl ⟨by rfl, ?_⟩) (by assumption) ?_
  rotate_left
  · intro w hSw; (try dsimp only at hSw); go_simp; (try with_reducible rfl)
  try simp only [Act.put, List.setIfInBounds_toArray, List.set_cons_zero, List.set_cons_succ]
  have tn := (((Touch.refl [] w).alloc (.cells #[.int .i64 0, .string ⟨#[]⟩, .int .i64 0, .int .i64 0, .string ⟨#[]⟩, .string ⟨#[]⟩, .slice none 0 0] 33)).alloc (.cells #[.int .i64 0, .string ⟨#[]⟩, .int .i64 0, .int .i64 0, .string ⟨#[]⟩, .string ⟨#[]⟩, .slice none 0 0] 33)).drew
  have g0 := tn.cell c0 (by simp)
  have g1 := tn.cell c1 (by simp)
  have g2 := tn.cell c2 (by simp)
  have g3 := tn.cell c3 (by simp)
  have g4 := tn.cell c4 (by simp)
  have g5 := tn.cell c5 (by simp)
  have g6 := tn.cell c6 (by simp)
  refine wpAnyH_ready (rs := [17]) (by kernel_rfl) (by simp) ?_
  refine AllReadyH.cons rfl (fun K hK => ?_) AllReadyH.nil
  go_simp
  (try go_wp2_with fail)
  refine hK.out _ _ ⟨g0, g1, g2, g3, g4, g5⟩ (fun _hH => ?_)
  clear hK K
  try simp only [Act.put, List.setIfInBounds_toArray, List.set_cons_zero, List.set_cons_succ]
  have te := (((Touch.refl [] w).alloc (.cells #[.int .i64 0, .string ⟨#[]⟩, .int .i64 0, .int .i64 0, .string ⟨#[]⟩, .string ⟨#[]⟩, .slice none 0 0] 33)).alloc (.cells #[.int .i64 k, .string nm, .int .i64 vk, .int .i64 vn, .string vt, .string op, .slice none 0 0] 33)).drew
  have e0 := te.cell c0 (by simp)
  have e1 := te.cell c1 (by simp)
  have e2 := te.cell c2 (by simp)
  have e3 := te.cell c3 (by simp)
  have e4 := te.cell c4 (by simp)
  have e5 := te.cell c5 (by simp)
  have e6 := te.cell c6 (by simp)
  refine wpAnyH_ready (rs := [18]) (by kernel_rfl) (by simp) ?_
  refine AllReadyH.cons rfl (fun K hK => ?_) AllReadyH.nil
  go_simp
  (try go_wp2_with fail)
  refine hK.out _ _ ⟨e0, e1, e2, e3, e4, e5⟩ (fun _hH => ?_)
  clear hK K
  try simp only [Act.put, List.setIfInBounds_toArray, List.set_cons_zero, List.set_cons_succ]
  refine wpAnyH_done (by kernel_rfl) ?_ _
  have hX0 : ((w.alloc (.cells #[.int .i64 0, .string ⟨#[]⟩, .int .i64 0, .int .i64 0, .string ⟨#[]⟩, .string ⟨#[]⟩, .slice none 0 0] 33)).alloc (.cells #[.int .i64 k, .string nm, .int .i64 vk, .int .i64 vn, .string vt, .string op, .slice none 0 0] 33)).drew.heap[w.heap.size + 1]? = some (.cells #[.int .i64 k, .string nm, .int .i64 vk, .int .i64 vn, .string vt, .string op, .slice none 0 0] 33 (0, 0)) := by have := heap_alloc_new (w.alloc (.cells #[.int .i64 0, .string ⟨#[]⟩, .int .i64 0, .int .i64 0, .string ⟨#[]⟩, .string ⟨#[]⟩, .slice none 0 0] 33)) (.cells #[.int .i64 k, .string nm, .int .i64 vk, .int .i64 vn, .string vt, .string op, .slice none 0 0] 33); rw [World.size_alloc] at this; exact this
  have hR1 := ((Touch.refl [] (w.alloc (.cells #[.int .i64 0, .string ⟨#[]⟩, .int .i64 0, .int .i64 0, .string ⟨#[]⟩, .string ⟨#[]⟩, .slice none 0 0] 33))).alloc (.cells #[.int .i64 k, .string nm, .int .i64 vk, .int .i64 vn, .string vt, .string op, .slice none 0 0] 33)).drew.blk (heap_alloc_new w (.cells #[.int .i64 0, .string ⟨#[]⟩, .int .i64 0, .int .i64 0, .string ⟨#[]⟩, .string ⟨#[]⟩, .slice none 0 0] 33)) (by simp)
  clear f0 f1 f2 f3 f4 f5 f6 g0 g1 g2 g3 g4 g5 g6 e0 e1 e2 e3 e4 e5 e6 tn t0 hR0
  go_wp2_with fail
  go_loopw [7, 8] (fun tv jv wr => jv = .int .i64 0 ∧ tv = .int .i64 1 ∧ wr.heap[w.heap.size + 1]? = some (.cells #[.int .i64 k, .string nm, .int .i64 vk, .int .i64 vn, .string vt, .string op, .slice none 0 0] 33 (0, 0)) ∧ wr.heap[w.heap.size]? = some (.cells #[.int .i64 0, .string ⟨#[]⟩, .int .i64 0, .int .i64 0, .string ⟨#[]⟩, .string ⟨#[]⟩, .slice none 0 0] 33 (0, 0)) ∧ Touch [] w wr) (fun tv _ _ => len - (intOf tv).toNat)
  case atStart => exact ⟨rfl, rfl, hX0, hR1, te⟩
  case round =>
    obtain ⟨rfl, rfl, hX, hR, ht⟩ := hrel
    clear hX0 hR1 te
    have f6 := ht.cell c6 (by simp)
    have hown := OwnX.nil 33 xcE (w.heap.size + 2) 0 wr
    by_cases hjc : (0 : Int) < cnt
    · by_cases htI : (1 : Int) < (len : Int)
      · obtain ⟨a0, a1, a2, a3, a4, a5, a6, _⟩ := blk7 hX
        obtain ⟨r0, r1, r2, r3, r4, r5, r6, g0, g1, g2, g3, g4, g5, g6⟩ := blk7 hR
        go_wp2_with fail
        obtain ⟨q1, q2⟩ := out7 hR (.int .i64 k) (.string nm) (.int .i64 vk) (.int .i64 vn) (.string vt) (.string op) (.slice none 0 0)
        obtain ⟨d0, d1, d2, d3, d4, d5, d6, _⟩ := blk7 q1
        refine bodyPost_ret (v := .tuple #[.agg #[.int .i64 k, .string nm, .int .i64 vk, .int .i64 vn, .string vt, .string op, .slice none 0 0], .int .i64 1]) (by simp [results, Try.results12, go_sem, d0, d1, d2, d3, d4, d5, d6]) rfl ⟨⟨⟨k, nm, ⟨vk, vn, vt⟩, op⟩, none, 0, 0⟩, ?_, ?_, ?_, ht.trans q2 (fun b hb => .inr (by simp at hb; omega))⟩
        · rw [Hst.out]; rfl
        · rw [Hst.out]
          have q3 := q2.size
          exact ((hown.tree ⟨k, nm, ⟨vk, vn, vt⟩, op⟩ 0 rfl).touch q2 (fun b hb hm => by simp at hb; have := hm.1; omega)).mono fun b hb => ⟨by have := hb.1; omega, by have := hb.2; omega⟩
        · rw [Hst.out]
          exact (hown.touch q2 (fun b hb => by simp at hb; omega)).base (by omega)
      · obtain ⟨a0, a1, a2, a3, a4, a5, a6, _⟩ := blk7 hX
        obtain ⟨r0, r1, r2, r3, r4, r5, r6, g0, g1, g2, g3, g4, g5, g6⟩ := blk7 hR
        go_wp2_with fail
        obtain ⟨q1, q2⟩ := out7 hR (.int .i64 k) (.string nm) (.int .i64 vk) (.int .i64 vn) (.string vt) (.string op) (.slice none 0 0)
        obtain ⟨d0, d1, d2, d3, d4, d5, d6, _⟩ := blk7 q1
        refine bodyPost_ret (v := .tuple #[.agg #[.int .i64 k, .string nm, .int .i64 vk, .int .i64 vn, .string vt, .string op, .slice none 0 0], .int .i64 1]) (by simp [results, Try.results12, go_sem, d0, d1, d2, d3, d4, d5, d6]) rfl ⟨⟨⟨k, nm, ⟨vk, vn, vt⟩, op⟩, none, 0, 0⟩, ?_, ?_, ?_, ht.trans q2 (fun b hb => .inr (by simp at hb; omega))⟩
        · rw [Hst.out]; rfl
        · rw [Hst.out]
          have q3 := q2.size
          exact ((hown.tree ⟨k, nm, ⟨vk, vn, vt⟩, op⟩ 0 rfl).touch q2 (fun b hb hm => by simp at hb; have := hm.1; omega)).mono fun b hb => ⟨by have := hb.1; omega, by have := hb.2; omega⟩
        · rw [Hst.out]
          exact (hown.touch q2 (fun b hb => by simp at hb; omega)).base (by omega)
    · obtain ⟨a0, a1, a2, a3, a4, a5, a6, _⟩ := blk7 hX
      obtain ⟨r0, r1, r2, r3, r4, r5, r6, g0, g1, g2, g3, g4, g5, g6⟩ := blk7 hR
      go_wp2_with fail
      obtain ⟨q1, q2⟩ := out7 hR (.int .i64 k) (.string nm) (.int .i64 vk) (.int .i64 vn) (.string vt) (.string op) (.slice none 0 0)
      obtain ⟨d0, d1, d2, d3, d4, d5, d6, _⟩ := blk7 q1
      refine bodyPost_ret (v := .tuple #[.agg #[.int .i64 k, .string nm, .int .i64 vk, .int .i64 vn, .string vt, .string op, .slice none 0 0], .int .i64 1]) (by simp [results, Try.results12, go_sem, d0, d1, d2, d3, d4, d5, d6]) rfl ⟨⟨⟨k, nm, ⟨vk, vn, vt⟩, op⟩, none, 0, 0⟩, ?_, ?_, ?_, ht.trans q2 (fun b hb => .inr (by simp at hb; omega))⟩
      · rw [Hst.out]; rfl
      · rw [Hst.out]
        have q3 := q2.size
        exact ((hown.tree ⟨k, nm, ⟨vk, vn, vt⟩, op⟩ 0 rfl).touch q2 (fun b hb hm => by simp at hb; have := hm.1; omega)).mono fun b hb => ⟨by have := hb.1; omega, by have := hb.2; omega⟩
      · rw [Hst.out]
        exact (hown.touch q2 (fun b hb => by simp at hb; omega)).base (by omega)
set_option maxRecDepth 100000 in
set_option maxHeartbeats 6400000 in
theorem build_succ (m : Nat) (ih : BuildOwn m) : BuildOwn (m + 1) := by
  intro l A len cap d w hl hc h0 hb hd h
  have hne : l ≠ [] := fun q => by rw [q] at hl; simp at hl; omega
  obtain ⟨p, hp⟩ : ∃ p, p = l.headD zeroP := ⟨_, rfl⟩
  have hp0 : l[0]'(by omega) = p := by rw [hp]; cases l with | nil => exact absurd rfl hne | cons a l => rfl
  have Hst := Lib.hid (buildX_succ m l)
  rw [← hp] at Hst
  obtain ⟨ad, b, off, rfl, hadd, hbb, hcell⟩ := RdK.at_ h 7 plE_length (by omega) 0 (by omega)
  clear hbb
  rw [hp0] at hcell
  obtain ⟨⟨k, nm, ⟨vk, vn, vt⟩, op⟩, cnt⟩ := p
  simp only at Hst
  have c0 := hcell 0 _ rfl; have c1 := hcell 1 _ rfl; have c2 := hcell 2 _ rfl; have c3 := hcell 3 _ rfl; have c4 := hcell 4 _ rfl; have c5 := hcell 5 _ rfl; have c6 := hcell 6 _ rfl
  rw [Nat.add_zero] at c0
  simp only at c0 c1 c2 c3 c4 c5 c6
  clear hcell hp0 hp
  have hlI : (0 : Int) < (len : Int) := by omega
  have hdI : (d : Int) < 60 := by omega
  have Hl := Lib.hid hl; have Hne := Lib.hid hne; have Hd := Lib.hid hd; have Hc := Lib.hid hc
  clear hl hne hd
  have t0 := ((Touch.refl [] w).alloc (.cells #[.int .i64 0, .string ⟨#[]⟩, .int .i64 0, .int .i64 0, .string ⟨#[]⟩, .string ⟨#[]⟩, .slice none 0 0] 33)).drew
  have hR0 := ((Touch.refl [] (w.alloc (.cells #[.int .i64 0, .string ⟨#[]⟩, .int .i64 0, .int .i64 0, .string ⟨#[]⟩, .string ⟨#[]⟩, .slice none 0 0] 33))).drew).blk (heap_alloc_new w (.cells #[.int .i64 0, .string ⟨#[]⟩, .int .i64 0, .int .i64 0, .string ⟨#[]⟩, .string ⟨#[]⟩, .slice none 0 0] 33)) (by simp)
  have f0 := t0.cell c0 (by simp)
  have f1 := t0.cell c1 (by simp)
  have f2 := t0.cell c2 (by simp)
  have f3 := t0.cell c3 (by simp)
  have f4 := t0.cell c4 (by simp)
  have f5 := t0.cell c5 (by simp)
  have f6 := t0.cell c6 (by simp)
  go_enter Try.func12, Try.ntmps12
  go_wp2_with fail
  refine wp_region_held_drew (S := fun w' => w'.cell? ⟨b, off, none⟩ = some (.int .i64 k) ∧ w'.cell? ⟨b, off + 1, none⟩ = some (.string nm) ∧ w'.cell? ⟨b, off + 2, none⟩ = some (.int .i64 vk) ∧ w'.cell? ⟨b, off + 2 + 1, none⟩ = some (.int .i64 vn) ∧ w'.cell? ⟨b, off + 2 + 2, none⟩ = some (.string vt) ∧ w'.cell? ⟨b, off + 5, none⟩ = some (.string op)) (by kernel_rfl) ⟨f0, f1, f2, f3, f4, f5⟩ (fun hHeld => ?_)
  refine take_d (i := 0) (d := 11) (v := ?_) rfl rfl (by kernel_rfl) (by kernel_rfl) (by kernel_rfl) (fun _ _ _ h => h) (Or.inl ⟨by rfl, ?_⟩) (by assumption) ?_
  rotate_left
  · intro w hSw; (try dsimp only at hSw); go_simp; (try with_reducible rfl)
  try simp only [Act.put, List.setIfInBounds_toArray, List.set_cons_zero, List.set_cons_succ]
  refine take_d (i := 1) (d := 12) (v := ?_) rfl rfl (by kernel_rfl) (by kernel_rfl) (by kernel_rfl) (fun _ _ _ h => h) (Or.inl ⟨by rfl, ?_⟩) (by assumption) ?_
  rotate_left
  · intro w hSw; (try dsimp only at hSw); go_simp; (try with_reducible rfl)
  try simp only [Act.put, List.setIfInBounds_toArray, List.set_cons_zero, List.set_cons_succ]
  refine take_d (i := 2) (d := 13) (v := ?_) rfl rfl (by kernel_rfl) (by kernel_rfl) (by kernel_rfl) (fun _ _ _ h => h) (Or.inl ⟨by rfl, ?_⟩) (by assumption) ?_
  rotate_left
  · intro w hSw; (try dsimp only at hSw); go_simp; (try with_reducible rfl)
  try simp only [Act.put, List.setIfInBounds_toArray, List.set_cons_zero, List.set_cons_succ]
  refine take_d (i := 3) (d := 14) (v := ?_) rfl rfl (by kernel_rfl) (by kernel_rfl) (by kernel_rfl) (fun _ _ _ h => h) (Or.inl ⟨by rfl, ?_⟩) (by assumption) ?_
  rotate_left
  · intro w hSw; (try dsimp only at hSw); go_simp; (try with_reducible rfl)
  try simp only [Act.put, List.setIfInBounds_toArray, List.set_cons_zero, List.set_cons_succ]
  refine take_d (i := 4) (d := 15) (v := ?_) rfl rfl (by kernel_rfl) (by kernel_rfl) (by kernel_rfl) (fun _ _ _ h => h) (Or.inl ⟨by rfl, ?_⟩) (by assumption) ?_
  rotate_left
  · intro w hSw; (try dsimp only at hSw); go_simp; (try with_reducible rfl)
  try simp only [Act.put, List.setIfInBounds_toArray, List.set_cons_zero, List.set_cons_succ]
  refine take_d (i := 5) (d := 16) (v := ?_) rfl rfl (by kernel_rfl) (by kernel_rfl) (by kernel_rfl) (fun _ _ _ h => h) (Or.inl ⟨by rfl, ?_⟩) (by assumption) ?_
  rotate_left
  · intro w hSw; (try dsimp only at hSw); go_simp; (try with_reducible rfl)
  try simp only [Act.put, List.setIfInBounds_toArray, List.set_cons_zero, List.set_cons_succ]
  refine take_d (i := 6) (d := 17) (v := ?_) rfl rfl (by kernel_rfl) (by kernel_rfl) (by kernel_rfl) (fun _ _ _ h => h) (Or.inl ⟨by rfl, ?_⟩) (by assumption) ?_
  rotate_left
  · intro w hSw; (try dsimp only at hSw); go_simp; (try with_reducible rfl)
  try simp only [Act.put, List.setIfInBounds_toArray, List.set_cons_zero, List.set_cons_succ]
  refine take_d (i := 7) (d := 18) (v := ?_) rfl rfl (by kernel_rfl) (by kernel_rfl) (by kernel_rfl) (fun _ _ _ h => h) (Or.inl ⟨by rfl, ?_⟩) (by assumption) ?_
  rotate_left
  · intro w hSw; (try dsimp only at hSw); go_simp; (try with_reducible rfl)
  try simp only [Act.put, List.setIfInBounds_toArray, List.set_cons_zero, List.set_cons_succ]
  refine take_d (i := 8) (d := 19) (v := ?_) rfl rfl (by kernel_rfl) (by kernel_rfl) (by kernel_rfl) (fun _ _ _ h => h) (Or.inl ⟨by rfl, ?_⟩) (by assumption) ?_
  rotate_left
  · intro w hSw; (try dsimp only at hSw); go_simp; (try with_reducible rfl)
  try simp only [Act.put, List.setIfInBounds_toArray, List.set_cons_zero, List.set_cons_succ]
  refine take_d (i := 9) (d := 20) (v := ?_) rfl rfl (by kernel_rfl) (by kernel_rfl) (by kernel_rfl) (fun _ _ _ h => h) (Or.inl ⟨by rfl, ?_⟩) (by assumption) ?_
  rotate_left
  · intro w hSw; (try dsimp only at hSw); go_simp; (try with_reducible rfl)
  try simp only [Act.put, List.setIfInBounds_toArray, List.set_cons_zero, List.set_cons_succ]
  refine take_d (i := 10) (d := 21) (v := ?_) rfl rfl (by kernel_rfl) (by kernel_rfl) (by kernel_rfl) (fun _ _ _ h => h) (Or.inl ⟨by rfl, ?_⟩) (by assumption) ?_
  rotate_left
  · intro w hSw; (try dsimp only at hSw); go_simp; (try with_reducible rfl)
  try simp only [Act.put, List.setIfInBounds_toArray, List.set_cons_zero, List.set_cons_succ]
  refine take_d (i := 11) (d := 22) (v := ?_) rfl rfl (by kernel_rfl) (by kernel_rfl) (by kernel_rfl) (fun _ _ _ h => h) (Or.inl ⟨by rfl, ?_⟩) (by assumption) ?_
  rotate_left
  · intro w hSw; (try dsimp only at hSw); go_simp; (try with_reducible rfl)
  try simp only [Act.put, List.setIfInBounds_toArray, List.set_cons_zero, List.set_cons_succ]
  refine take_d (i := 12) (d := 23) (v := ?_) rfl rfl (by kernel_rfl) (by kernel_rfl) (by kernel_rfl) (fun _ _ _ h => h) (Or.inl ⟨by rfl, ?_⟩) (by assumption) ?_
  rotate_left
  · intro w hSw; (try dsimp only at hSw); go_simp; (try with_reducible rfl)
  try simp only [Act.put, List.setIfInBounds_toArray, List.set_cons_zero, List.set_cons_succ]
  refine take_d (i := 13) (d := 24) (v := ?_) rfl rfl (by kernel_rfl) (by kernel_rfl) (by kernel_rfl) (fun _ _ _ h => h) (Or.inl ⟨by rfl, ?_⟩) (by assumption) ?_
  rotate_left
  · intro w hSw; (try dsimp only at hSw); go_simp; (try with_reducible rfl)
  try simp only [Act.put, List.setIfInBounds_toArray, List.set_cons_zero, List.set_cons_succ]
  refine take_d (i := 14) (d := 25) (v := ?_) rfl rfl (by kernel_rfl) (by kernel_rfl) (by kernel_rfl) (fun _ _ _ h => h) (Or.inl ⟨by rfl, ?_⟩) (by assumption) ?_
  rotate_left
  · intro w hSw; (try dsimp only at hSw); go_simp; (try with_reducible rfl)
  try simp only [Act.put, List.setIfInBounds_toArray, List.set_cons_zero, List.set_cons_succ]
  refine take_d (i := 15) (d := 26) (v := ?_) rfl rfl (by kernel_rfl) (by kernel_rfl) (by kernel_rfl) (fun _ _ _ h => h) (Or.inl ⟨by rfl, ?_⟩) (by assumption) ?_
  rotate_left
  · intro w hSw; (try dsimp only at hSw); go_simp; (try with_reducible rfl)
  try simp only [Act.put, List.setIfInBounds_toArray, List.set_cons_zero, List.set_cons_succ]
  refine take_d (i := 16) (d := 27) (v := ?_) rfl rfl (by kernel_rfl) (by kernel_rfl) (by kernel_rfl) (fun _ _ _ h => h) (Or.inl ⟨by rfl, ?_⟩) (by assumption) ?_
  rotate_left
  · intro w hSw; (try dsimp only at hSw); go_simp; (try with_reducible rfl)
  try simp only [Act.put, List.setIfInBounds_toArray, List.set_cons_zero, List.set_cons_succ]
  have tn := (((Touch.refl [] w).alloc (.cells #[.int .i64 0, .string ⟨#[]⟩, .int .i64 0, .int .i64 0, .string ⟨#[]⟩, .string ⟨#[]⟩, .slice none 0 0] 33)).alloc (.cells #[.int .i64 0, .string ⟨#[]⟩, .int .i64 0, .int .i64 0, .string ⟨#[]⟩, .string ⟨#[]⟩, .slice none 0 0] 33)).drew
  have g0 := tn.cell c0 (by simp)
  have g1 := tn.cell c1 (by simp)
  have g2 := tn.cell c2 (by simp)
  have g3 := tn.cell c3 (by simp)
  have g4 := tn.cell c4 (by simp)
  have g5 := tn.cell c5 (by simp)
  have g6 := tn.cell c6 (by simp)
  refine wpAnyH_ready (rs := [17]) (by kernel_rfl) (by simp) ?_
  refine AllReadyH.cons rfl (fun K hK => ?_) AllReadyH.nil
  go_simp
  (try go_wp2_with fail)
  refine hK.out _ _ ⟨g0, g1, g2, g3, g4, g5⟩ (fun _hH => ?_)
  clear hK K
  try simp only [Act.put, List.setIfInBounds_toArray, List.set_cons_zero, List.set_cons_succ]
  have te := (((Touch.refl [] w).alloc (.cells #[.int .i64 0, .string ⟨#[]⟩, .int .i64 0, .int .i64 0, .string ⟨#[]⟩, .string ⟨#[]⟩, .slice none 0 0] 33)).alloc (.cells #[.int .i64 k, .string nm, .int .i64 vk, .int .i64 vn, .string vt, .string op, .slice none 0 0] 33)).drew
  have e0 := te.cell c0 (by simp)
  have e1 := te.cell c1 (by simp)
  have e2 := te.cell c2 (by simp)
  have e3 := te.cell c3 (by simp)
  have e4 := te.cell c4 (by simp)
  have e5 := te.cell c5 (by simp)
  have e6 := te.cell c6 (by simp)
  refine wpAnyH_ready (rs := [18]) (by kernel_rfl) (by simp) ?_
  refine AllReadyH.cons rfl (fun K hK => ?_) AllReadyH.nil
  go_simp
  (try go_wp2_with fail)
  refine hK.out _ _ ⟨e0, e1, e2, e3, e4, e5⟩ (fun _hH => ?_)
  clear hK K
  try simp only [Act.put, List.setIfInBounds_toArray, List.set_cons_zero, List.set_cons_succ]
  refine wpAnyH_done (by kernel_rfl) ?_ _
  have hX0 : ((w.alloc (.cells #[.int .i64 0, .string ⟨#[]⟩, .int .i64 0, .int .i64 0, .string ⟨#[]⟩, .string ⟨#[]⟩, .slice none 0 0] 33)).alloc (.cells #[.int .i64 k, .string nm, .int .i64 vk, .int .i64 vn, .string vt, .string op, .slice none 0 0] 33)).drew.heap[w.heap.size + 1]? = some (.cells #[.int .i64 k, .string nm, .int .i64 vk, .int .i64 vn, .string vt, .string op, .slice none 0 0] 33 (0, 0)) := by have := heap_alloc_new (w.alloc (.cells #[.int .i64 0, .string ⟨#[]⟩, .int .i64 0, .int .i64 0, .string ⟨#[]⟩, .string ⟨#[]⟩, .slice none 0 0] 33)) (.cells #[.int .i64 k, .string nm, .int .i64 vk, .int .i64 vn, .string vt, .string op, .slice none 0 0] 33); rw [World.size_alloc] at this; exact this
  have hR1 := ((Touch.refl [] (w.alloc (.cells #[.int .i64 0, .string ⟨#[]⟩, .int .i64 0, .int .i64 0, .string ⟨#[]⟩, .string ⟨#[]⟩, .slice none 0 0] 33))).alloc (.cells #[.int .i64 k, .string nm, .int .i64 vk, .int .i64 vn, .string vt, .string op, .slice none 0 0] 33)).drew.blk (heap_alloc_new w (.cells #[.int .i64 0, .string ⟨#[]⟩, .int .i64 0, .int .i64 0, .string ⟨#[]⟩, .string ⟨#[]⟩, .slice none 0 0] 33)) (by simp)
  clear f0 f1 f2 f3 f4 f5 f6 g0 g1 g2 g3 g4 g5 g6 e0 e1 e2 e3 e4 e5 e6 tn t0 hR0
  go_wp2_with fail
  go_loopw [7, 8] (fun tv jv wr => ∃ (j t : Nat) (bs : List (TX (m + 1))) (B : Option Addr) (cB : Nat), jv = .int .i64 j ∧ tv = .int .i64 t ∧ Hid (Come (buildX m) cnt.toNat l j t bs) ∧ j < t ∧ t ≤ len ∧ wr.heap[w.heap.size + 1]? = some (.cells #[.int .i64 k, .string nm, .int .i64 vk, .int .i64 vn, .string vt, .string op, .slice B j cB] 33 (0, 0)) ∧ wr.heap[w.heap.size]? = some (.cells #[.int .i64 0, .string ⟨#[]⟩, .int .i64 0, .int .i64 0, .string ⟨#[]⟩, .string ⟨#[]⟩, .slice none 0 0] 33 (0, 0)) ∧ OwnX 33 xcE (w.heap.size + 2) (m + 1) wr B cB bs ∧ Touch [] w wr) (fun tv _ _ => len - (intOf tv).toNat)
  case atStart => exact ⟨0, 1, [], none, 0, rfl, rfl, Lib.hid (Come.start _ _ Hne.out), by omega, by omega, hX0, hR1, OwnX.nil _ _ _ _ _, te⟩
  case round =>
    obtain ⟨j, t, bs, B, cB, rfl, rfl, Hco, hjt, htl, hX, hR, hown, ht⟩ := hrel
    clear hX0 hR1 te
    have f6 := ht.cell c6 (by simp)
    have Hbl := Lib.hid Hco.out.1
    have hBlt := fun b hb => (hown.lt b hb).2
    have hBlo := fun b hb => (hown.lt b hb).1
    have hXB : w.heap.size + 1 ∉ fpo B := fun hm => by have := hBlo _ hm; omega
    have hRB : w.heap.size ∉ fpo B := fun hm => by have := hBlo _ hm; omega
    have hlX := (Array.getElem?_eq_some_iff.1 hX).1
    by_cases hjc : (j : Int) < cnt
    · by_cases htl2 : t < len
      · have htI : (t : Int) < (len : Int) := by omega
        have hdl : (l.drop t).length = len - t := by rw [List.length_drop, Hl.out]
        have hdn : l.drop t ≠ [] := fun q => by rw [q] at hdl; simp at hdl; omega
        have hnle := buildX_le m (l.drop t) hdn
        have hnpos := buildX_pos m (l.drop t)
        have Hstep := Lib.hid (Hco.out.step (by omega) (by rw [Hl.out]; exact htl2) hnle)
        have Hc2 := Lib.hid (ih (l.drop t) (some (ad.add (t * 7))) (len - t) (cap - t) (d + 1) wr hdl (by have := Hc.out; omega) (by omega) (by omega) (by have := Hd.out; omega) (PlsAt.drop (h.touch0 ht) t))
        rw [hdl] at hnle
        obtain ⟨⟨a, n⟩, han⟩ : ∃ r, r = buildX m (l.drop t) := ⟨_, rfl⟩
        rw [← han] at hnle hnpos Hstep Hc2
        simp only at hnle hnpos Hstep Hc2
        clear hdl hdn han
        go_wp2_with fail
        refine Hc2.out.mono ?_
        rintro e w1 ⟨x1, rfl, hx1, -, u1⟩
        obtain ⟨⟨k2, nm2, ⟨vk2, vn2, vt2⟩, op2⟩, A2, m2, c2'⟩ := x1
        dsimp only [XC.val]
        have tb := (Touch.refl [] w1).alloc (.cells #[.int .i64 k2, .string nm2, .int .i64 vk2, .int .i64 vn2, .string vt2, .string op2, .slice A2 m2 c2'] 33)
        have hX1 := (u1.trans0 tb).blk hX (by simp)
        have hR2 := (u1.trans0 tb).blk hR (by simp)
        have z0 := cell_blk hX1 (i := 6) rfl
        have hown1 := (hown.touch0 u1).touch0 tb
        have s1 := u1.size
        go_wp2_with (at_builtin; refine stop ?_)
        refine go ?_
        refine wpList_appX xcE_length xcE_one rfl (.tmp 56) (.tmp 58) 31 rfl 33 _ 96 info_expr2 Try.underlying31 rfl (by omega) (w.heap.size + 2) (m + 1) B j cB bs Hbl.out rfl hown1 ⟨⟨k2, nm2, ⟨vk2, vn2, vt2⟩, op2⟩, A2, m2, c2'⟩ a ((hx1.touch0 tb).mono fun b hb => ⟨⟨by have := hb.1; omega, by have := hb.2; simp; omega⟩, fun hm => by have := hBlt b hm; have := hb.1; omega⟩) (by simp; omega) 1 (by rw [World.size_alloc]; rfl) (by omega) rfl ?_
        intro B5 cB5 w5 hown5 ht5 hf5
        have hX5 := ht5.blk hX1 hXB
        have hR5 := ht5.blk hR2 hRB
        have z5 := cell_blk hX5 (i := 6) rfl
        have f5 : w5.frozen? ⟨w.heap.size + 1, 6, none⟩ = false := by simp [World.frozen?, hX5]
        have T5 := ((ht.trans0 u1).trans0 tb).trans ht5 (fun b hb => .inr (by have := hBlo b hb; omega))
        have t7 := (Touch.refl [w.heap.size + 1] w5).setCell (p := ⟨w.heap.size + 1, 6, none⟩) (.inl (by simp)) (.slice B5 (j + 1) cB5)
        go_wp2
        go_roundw
        case rel => exact ⟨j + 1, t + n, bs ++ [a], B5, cB5, by go_num, by go_num, Hstep, by omega, by omega, set_blk hX5 6 _, t7.blk hR5 (by simp), hown5.touch t7 (fun b hb => by simp at hb; omega), T5.setCell (p := ⟨w.heap.size + 1, 6, none⟩) (.inr (by simp only; omega)) _⟩
        case measure => simp [intOf]; omega
      · have htI : ¬ (t : Int) < (len : Int) := by omega
        obtain ⟨a0, a1, a2, a3, a4, a5, a6, _⟩ := blk7 hX
        obtain ⟨r0, r1, r2, r3, r4, r5, r6, g0, g1, g2, g3, g4, g5, g6⟩ := blk7 hR
        go_wp2_with fail
        obtain ⟨q1, q2⟩ := out7 hR (.int .i64 k) (.string nm) (.int .i64 vk) (.int .i64 vn) (.string vt) (.string op) (.slice B j cB)
        obtain ⟨d0, d1, d2, d3, d4, d5, d6, _⟩ := blk7 q1
        refine bodyPost_ret (v := .tuple #[.agg #[.int .i64 k, .string nm, .int .i64 vk, .int .i64 vn, .string vt, .string op, .slice B j cB], .int .i64 (t : Int)]) (by simp [results, Try.results12, go_sem, d0, d1, d2, d3, d4, d5, d6]) rfl ⟨⟨⟨k, nm, ⟨vk, vn, vt⟩, op⟩, B, j, cB⟩, ?_, ?_, ?_, ht.trans q2 (fun b hb => .inr (by simp at hb; omega))⟩
        · have hs := Hco.out.stop (Or.inr (by rw [Hl.out]; omega))
          rw [Hst.out, hs]; simp only; rw [show 1 + (t - 1) = t by omega]; rfl
        · have hs := Hco.out.stop (Or.inr (by rw [Hl.out]; omega))
          rw [Hst.out, hs]
          have q3 := q2.size
          exact ((hown.tree ⟨k, nm, ⟨vk, vn, vt⟩, op⟩ j Hbl.out.symm).touch q2 (fun b hb hm => by simp at hb; have := hm.1; omega)).mono fun b hb => ⟨by have := hb.1; omega, by have := hb.2; omega⟩
        · have hs := Hco.out.stop (Or.inr (by rw [Hl.out]; omega))
          rw [Hst.out, hs]
          exact (hown.touch q2 (fun b hb => by simp at hb; omega)).base (by omega)
    · obtain ⟨a0, a1, a2, a3, a4, a5, a6, _⟩ := blk7 hX
      obtain ⟨r0, r1, r2, r3, r4, r5, r6, g0, g1, g2, g3, g4, g5, g6⟩ := blk7 hR
      go_wp2_with fail
      obtain ⟨q1, q2⟩ := out7 hR (.int .i64 k) (.string nm) (.int .i64 vk) (.int .i64 vn) (.string vt) (.string op) (.slice B j cB)
      obtain ⟨d0, d1, d2, d3, d4, d5, d6, _⟩ := blk7 q1
      refine bodyPost_ret (v := .tuple #[.agg #[.int .i64 k, .string nm, .int .i64 vk, .int .i64 vn, .string vt, .string op, .slice B j cB], .int .i64 (t : Int)]) (by simp [results, Try.results12, go_sem, d0, d1, d2, d3, d4, d5, d6]) rfl ⟨⟨⟨k, nm, ⟨vk, vn, vt⟩, op⟩, B, j, cB⟩, ?_, ?_, ?_, ht.trans q2 (fun b hb => .inr (by simp at hb; omega))⟩
      · have hs := Hco.out.stop (Or.inl (by omega))
        rw [Hst.out, hs]; simp only; rw [show 1 + (t - 1) = t by omega]; rfl
      · have hs := Hco.out.stop (Or.inl (by omega))
        rw [Hst.out, hs]
        have q3 := q2.size
        exact ((hown.tree ⟨k, nm, ⟨vk, vn, vt⟩, op⟩ j Hbl.out.symm).touch q2 (fun b hb hm => by simp at hb; have := hm.1; omega)).mono fun b hb => ⟨by have := hb.1; omega, by have := hb.2; omega⟩
      · have hs := Hco.out.stop (Or.inl (by omega))
        rw [Hst.out, hs]
        exact (hown.touch q2 (fun b hb => by simp at hb; omega)).base (by omega)
theorem build_own : ∀ m, BuildOwn m
  | 0 => build_zero
  | m + 1 => build_succ m (build_own m)
theorem build_any (m : Nat) : BuildSaid m := fun l A len cap d w h1 h2 h3 h4 h5 h6 => (build_own m l A len cap d w h1 h2 h3 h4 h5 h6).mono fun _ _ ⟨x, e1, e2, _, e4⟩ => ⟨x, e1, e2, e4⟩
end Go.Proofs.Ytlkckkagoommaaa

/- bywashlaw04: small, smallSchema. For every list and schema. -/
namespace Go.Proofs.Ytlkckkagoommaaa
open Go.RowKit

def smallP (p : PL) : Bool := decide (p.nd.name.size ≤ 50) && (decide (p.nd.op.size ≤ 50) && decide (p.nd.v.text.size ≤ 100))
def smallL (l : List PL) : Bool := l.all smallP && (decide (0 < l.length) && decide (l.length ≤ 300))
def smallC4 (c : CD) : Bool := decide (c.name.size ≤ 50)
def smallS4 (cs : List CD) : Bool := cs.all smallC4 && decide (cs.length ≤ 20)
theorem smallL_true {l : List PL} (h : smallL l = true) : (∀ p ∈ l, p.nd.name.size ≤ 50 ∧ p.nd.op.size ≤ 50 ∧ p.nd.v.text.size ≤ 100) ∧ 0 < l.length ∧ l.length ≤ 300 := by
  unfold smallL at h
  rw [Bool.and_eq_true, Bool.and_eq_true, List.all_eq_true] at h
  exact ⟨fun p hp => by simpa [smallP] using h.1 p hp, of_decide_eq_true h.2.1, of_decide_eq_true h.2.2⟩
theorem smallS4_true {cs : List CD} (h : smallS4 cs = true) : (∀ c ∈ cs, c.name.size ≤ 50) ∧ cs.length ≤ 20 := by
  unfold smallS4 at h
  rw [Bool.and_eq_true, List.all_eq_true] at h
  exact ⟨fun c hc => by simpa [smallC4] using h.1 c hc, of_decide_eq_true h.2⟩
theorem PlsAt.at_ {w : World} {A : Option Addr} {l : List PL} (h : PlsAt w A l) (i : Nat) (hi : i < l.length) :
    ∃ ad b off, A = some ad ∧ ad.add (i * 7) = ⟨b, off, none⟩ ∧ ∀ j u, (plE l[i])[j]? = some u → w.cell? ⟨b, off + j, none⟩ = some u := by
  obtain ⟨ad, b, off, h1, h2, _, h3⟩ := RdK.at_ h 7 plE_length (by omega) i hi
  exact ⟨ad, b, off, h1, h2, h3⟩
theorem PlsAt.touch0 {w w' : World} {A : Option Addr} {l : List PL} (h : PlsAt w A l) (ht : Touch [] w w') : PlsAt w' A l := RdK.touch0 h ht

set_option maxRecDepth 20000 in
set_option maxHeartbeats 1600000 in
theorem small4_any (A : Option Addr) (cap n : Nat) (l : List PL) (hn : l.length = n) (w : World) (h : PlsAt w A l) (hl : n ≤ 9223372036854775807) :
    Calls Try.prog 9 #[.slice A n cap] w fun e w' => e = .returned (.bool (smallL l)) ∧ Touch [] w w' := by
  subst hn
  go_enter Try.func9, Try.ntmps9
  go_wp2
  go_loopw [7] (fun i wr => ∃ k : Nat, k ≤ l.length ∧ i = .int .i64 k ∧ Hid ((l.take k).all smallP = true) ∧ Touch [] w wr) (fun i _ => l.length - (intOf i).toNat)
  case atStart => exact ⟨0, by omega, rfl, Lib.hid rfl, Touch.refl _ _⟩
  case round =>
    obtain ⟨k, hk, rfl, Hall, ht⟩ := hrel
    by_cases hlt : k < l.length
    · obtain ⟨ad, b, off, rfl, hadd, hcell⟩ := (h.touch0 ht).at_ k hlt
      have hno := all_no (p := smallP) hlt
      have hyes := all_snoc (p := smallP) hlt Hall.out
      obtain ⟨p, hpe⟩ : ∃ p, p = l[k] := ⟨_, rfl⟩
      rw [← hpe] at hcell hno hyes
      obtain ⟨⟨kd, nm, ⟨vk, vn, vt⟩, op⟩, cnt⟩ := p
      have c0 := hcell 0 _ rfl; have c1 := hcell 1 _ rfl; have c2 := hcell 2 _ rfl; have c3 := hcell 3 _ rfl; have c4 := hcell 4 _ rfl; have c5 := hcell 5 _ rfl; have c6 := hcell 6 _ rfl
      rw [Nat.add_zero] at c0
      simp only at c0 c1 c2 c3 c4 c5 c6
      have Hno := Lib.hid hno; have Hyes := Lib.hid hyes
      clear hpe hno hyes Hall hcell
      by_cases h1 : 50 < nm.size
      · have Hs := Lib.hid (Hno.out (by simp [smallP]; omega))
        have q1 : (50 : Int) < (nm.size : Int) := by omega
        clear h1
        go_wp2
        go_ret
        exact ⟨ret_bool (by unfold smallL; rw [Hs.out]; rfl), ht.alloc _⟩
      by_cases h2 : 50 < op.size
      · have Hs := Lib.hid (Hno.out (by simp [smallP]; omega))
        have q1 : ¬ (50 : Int) < (nm.size : Int) := by omega
        have q2 : (50 : Int) < (op.size : Int) := by omega
        clear h1 h2
        go_wp2
        go_ret
        exact ⟨ret_bool (by unfold smallL; rw [Hs.out]; rfl), ht.alloc _⟩
      by_cases h3 : 100 < vt.size
      · have Hs := Lib.hid (Hno.out (by simp [smallP]; omega))
        have q1 : ¬ (50 : Int) < (nm.size : Int) := by omega
        have q2 : ¬ (50 : Int) < (op.size : Int) := by omega
        have q3 : (100 : Int) < (vt.size : Int) := by omega
        clear h1 h2 h3
        go_wp2
        go_ret
        exact ⟨ret_bool (by unfold smallL; rw [Hs.out]; rfl), ht.alloc _⟩
      · have Hs := Lib.hid (Hyes.out (by simp [smallP]; omega))
        have q1 : ¬ (50 : Int) < (nm.size : Int) := by omega
        have q2 : ¬ (50 : Int) < (op.size : Int) := by omega
        have q3 : ¬ (100 : Int) < (vt.size : Int) := by omega
        clear h1 h2 h3
        go_wp2
        go_roundw
        case rel => exact ⟨k + 1, by omega, by go_num, Hs, ht.alloc _⟩
        case measure => simp [intOf]; omega
    · obtain rfl : k = l.length := by omega
      have hall := Hall.out
      rw [List.take_length] at hall
      have Hs := Lib.hid (show smallL l = (decide (0 < l.length) && decide (l.length ≤ 300)) by unfold smallL; rw [hall, Bool.true_and])
      clear hall Hall
      by_cases h0 : 0 < l.length
      · by_cases h3 : l.length ≤ 300
        · have q0 : (0 : Int) < (l.length : Int) := by omega
          have q3 : (l.length : Int) ≤ 300 := by omega
          have Hs2 := Lib.hid (show smallL l = true by rw [Hs.out, decide_eq_true h0, decide_eq_true h3]; rfl)
          clear h0 h3
          go_wp2
          go_ret
          exact ⟨ret_bool Hs2.out.symm, ht⟩
        · have q0 : (0 : Int) < (l.length : Int) := by omega
          have q3 : ¬ (l.length : Int) ≤ 300 := by omega
          have Hs2 := Lib.hid (show smallL l = false by rw [Hs.out, decide_eq_true h0, decide_eq_false h3]; rfl)
          clear h0 h3
          go_wp2
          go_ret
          exact ⟨ret_bool Hs2.out.symm, ht⟩
      · have q0 : ¬ (0 : Int) < (l.length : Int) := by omega
        have Hs2 := Lib.hid (show smallL l = false by rw [Hs.out, decide_eq_false h0]; rfl)
        clear h0
        go_wp2
        go_ret
        exact ⟨ret_bool Hs2.out.symm, ht⟩

set_option maxHeartbeats 800000 in
theorem smallS4_any (A : Option Addr) (cap n : Nat) (cs : List CD) (hn : cs.length = n) (w : World) (h : ColsAt w A cs) (hl : n ≤ 9223372036854775807) :
    Calls Try.prog 10 #[.slice A n cap] w fun e w' => e = .returned (.bool (smallS4 cs)) ∧ Touch [] w w' := by
  subst hn
  go_enter Try.func10, Try.ntmps10
  go_wp2
  go_loopw [7] (fun i wr => ∃ k : Nat, k ≤ cs.length ∧ i = .int .i64 k ∧ Hid ((cs.take k).all smallC4 = true) ∧ Touch [] w wr) (fun i _ => cs.length - (intOf i).toNat)
  case atStart => exact ⟨0, by omega, rfl, Lib.hid rfl, Touch.refl _ _⟩
  case round =>
    obtain ⟨k, hk, rfl, Hall, ht⟩ := hrel
    by_cases hlt : k < cs.length
    · obtain ⟨ad, b, off, rfl, hadd, c0, c1⟩ := (h.touch0 ht).at_ k hlt
      have hno := all_no (p := smallC4) hlt
      have hyes := all_snoc (p := smallC4) hlt Hall.out
      obtain ⟨c, hce⟩ : ∃ c, c = cs[k] := ⟨_, rfl⟩
      rw [← hce] at c0 c1 hno hyes
      have Hno := Lib.hid hno; have Hyes := Lib.hid hyes
      clear hce hno hyes Hall
      by_cases h1 : 50 < c.name.size
      · have Hs := Lib.hid (Hno.out (by simp [smallC4]; omega))
        have q1 : (50 : Int) < (c.name.size : Int) := by omega
        clear h1
        go_wp2
        go_ret
        exact ⟨ret_bool (by unfold smallS4; rw [Hs.out]; rfl), ht.alloc _⟩
      · have Hs := Lib.hid (Hyes.out (by simp [smallC4]; omega))
        have q1 : ¬ (50 : Int) < (c.name.size : Int) := by omega
        clear h1
        go_wp2
        go_roundw
        case rel => exact ⟨k + 1, by omega, by go_num, Hs, ht.alloc _⟩
        case measure => simp [intOf]; omega
    · obtain rfl : k = cs.length := by omega
      have hall := Hall.out
      rw [List.take_length] at hall
      have Hs := Lib.hid (show smallS4 cs = decide ((cs.length : Int) ≤ 20) by unfold smallS4; rw [hall, Bool.true_and]; exact decide_eq_decide.2 (by omega))
      clear hall Hall
      go_wp2
      go_ret
      exact ⟨ret_bool Hs.out.symm, ht⟩
end Go.Proofs.Ytlkckkagoommaaa
