/- Part 35 of the texts of this proof, one behind the other; each begins with its own sentence. No condition beyond those that its theorems state. -/
import Derived.Test.YtafoklilkdnepaaGreatDoorRu34
/- bywashlaw05.refRows: rows turned to the reference's type. For all rows. -/
namespace Go.Proofs.YtafoklilkdnepaaGreatDoor
open Go.RowKit

theorem info_rval5 : (Tryz.prog.info? 130).map (fun i => (i.zero, i.size, i.bytes)) = some (some (.agg #[.int .i64 0, .int .i64 0, .string ⟨#[]⟩]), 3, 32) := by kernel_rfl
theorem info_rrow5 : (Tryz.prog.info? 105).map (fun i => (i.zero, i.size, i.bytes)) = some (some (.slice none 0 0), 1, 24) := by kernel_rfl

set_option maxRecDepth 20000 in
set_option maxHeartbeats 6400000 in
theorem refRows_any (A : Option Addr) (c n : Nat) (rows : List (List VD)) (hn : rows.length = n) (hl : n ≤ 1000000) (hr : RowsLe rows) (w : World) (h : RowsAt w A rows) :
  Calls Tryz.prog 42 #[.slice A n c] w fun e w' => ∃ B c', e = .returned (.slice B n c') ∧ OwnR 105 w.heap.size w' B c' rows ∧ Touch [] w w' ∧ ∀ b ∈ fpo B, w.heap.size ≤ b := by
 subst hn
 have HR := Lib.hid h
 clear h
 go_enter Tryz.func42, Tryz.ntmps42
 go_wp2_with fail
 go_loopw [3, 11] (fun o i wr => ∃ (k : Nat) (B : Option Addr) (c2 : Nat), k ≤ rows.length ∧ i = .int .i64 k ∧ o = .slice B k c2 ∧ Hid (OwnR 105 w.heap.size wr B c2 (rows.take k)) ∧ Hid (Touch [] w wr) ∧ Hid (∀ b ∈ fpo B, w.heap.size ≤ b)) (fun _ i _ => rows.length - (intOf i).toNat)
 case atStart => exact ⟨0, none, 0, by omega, rfl, rfl, Lib.hid (OwnR.nil _ _ _), Lib.hid (Touch.refl _ _), Lib.hid (by simp [fpo])⟩
 case round =>
  obtain ⟨k, B, c2, hk, rfl, rfl, HO, HT, HF⟩ := hrel
  by_cases hlt : k < rows.length
  ·obtain ⟨bd, A1, c1, rfl, e0, hr1⟩ := (HR.out.touch0 HT.out).at_ k hlt
   have hl1 := hr _ (List.getElem_mem hlt)
   have htk := List.take_succ_eq_append_getElem hlt
   obtain ⟨r, hre⟩ : ∃ r, r = rows[k] := ⟨_, rfl⟩
   rw [← hre] at e0 hr1 hl1 htk
   have Htk := Lib.hid htk
   have HR1 := Lib.hid hr1
   have hkn : (k : Int) < (rows.length : Int) := by omega
   clear hre htk hr1
   go_wp2_with fail
   go_loopw [6, 17] (fun v i wx => ∃ (j : Nat) (A' : Option Addr) (c' : Nat), j ≤ r.length ∧ i = .int .i64 j ∧ v = .slice A' j c' ∧ Hid (Made 130 3 vdE (r.take j) A' c' wr wx)) (fun _ i _ => r.length - (intOf i).toNat)
   case atStart => exact ⟨0, none, 0, by omega, rfl, rfl, Lib.hid (Made.nil _ _ _ _)⟩
   case round =>
    obtain ⟨j, A', c', hj, rfl, rfl, HM⟩ := hrel
    by_cases hltj : j < r.length
    ·obtain ⟨ad, b, off, rfl, hadd, d0, d1, d2⟩ := (HR1.out.touch0 HM.out.t).at_ j hltj
     have hsn := List.take_succ_eq_append_getElem hltj
     obtain ⟨v, hve⟩ : ∃ v, v = r[j] := ⟨_, rfl⟩
     rw [← hve] at d0 d1 d2 hsn
     have Hsn := Lib.hid hsn; have Hlen := Lib.hid (show (r.take j).length = j by rw [List.length_take]; omega)
     clear hve hsn
     go_wp2_with (at_builtin; refine stop ?_)
     refine go ?_
     have tb := ((Touch.refl [] wr).alloc (.cells #[.int .i64 v.kind, .int .i64 v.num, .string v.text] 31)).alloc (.cells #[.int .i64 v.kind, .int .i64 v.num, .string v.text] 130)
     refine wpList_appK rfl (.tmp 21) (.tmp 29) 105 rfl 130 _ 3 32 info_rval5 Tryz.underlying105 rfl (by omega) vdE_length vdE_one A' j c' (r.take j) Hlen.out rfl (HM.out.own.touch0 tb)
      (some ⟨wr.heap.size + 1, 0, none⟩) 1 1 [v] rfl rfl (by have := RdK.one (enc := vdE) (wr.alloc (.cells #[.int .i64 v.kind, .int .i64 v.num, .string v.text] 31)) 130 v #[.int .i64 v.kind, .int .i64 v.num, .string v.text] rfl; rwa [World.size_alloc] at this) (by omega) (by omega) ?_
     intro A3 c3 w3 hown3 ht3 hf3
     have HX := Lib.hid ((HM.out.touch0 tb).step hown3 ht3 hf3)
     clear hown3 ht3 hf3 tb
     go_wp2_with fail
     go_roundw
     case rel => exact ⟨j + 1, A3, c3, by omega, by go_num, rfl, Lib.hid (by rw [Hsn.out]; exact HX.out)⟩
     case measure => simp [intOf]; omega
    ·obtain rfl : j = r.length := by omega
     have HM2 : Hid (Made 130 3 vdE r A' c' _ wr) := Lib.hid (by have := HM.out; rwa [List.take_length] at this)
     clear HM
     go_wp2_with (at_builtin; refine stop ?_)
     refine go ?_
     have hB := HO.out.lt
     have hsz := HM2.out.t.size
     refine wpList_appR rfl (.tmp 32) (.tmp 34) 66 rfl 105 info_rrow5 Tryz.underlying66 w.heap.size B k c2 (rows.take k) (by rw [List.length_take]; omega) rfl (HO.out.touch0 HM2.out.t) A' c' r HM2.out.own.rd
      (fun b hb => ⟨fun q => by have := hB b q; have := HM2.out.f b hb; omega, HM2.out.own.lt b hb, by have := HM2.out.f b hb; have := HT.out.size; omega⟩) 1 rfl (by omega) rfl ?_
     intro B' c3 w' hown ht hf
     have HX := Lib.hid (And.intro hown (And.intro ht hf))
     clear hown ht hf
     go_wp2_with fail
     go_roundw
     case rel =>
      obtain ⟨hown, ht, hf⟩ := HX.out
      refine ⟨k + 1, B', c3, by omega, by go_num, rfl, Lib.hid (by rw [Htk.out]; exact hown), Lib.hid (((HT.out.trans0 HM2.out.t).alloc _).trans ht (fun b hb => .inr (HF.out b hb))), Lib.hid (fun b hb => ?_)⟩
      rcases hf b hb with q | q
      ·exact HF.out b q
      ·have := HT.out.size; omega
     case measure => simp [intOf]; omega
  ·obtain rfl : k = rows.length := by omega
   have HO2 : Hid (OwnR 105 w.heap.size wr B c2 rows) := Lib.hid (by have := HO.out; rwa [List.take_length] at this)
   clear HO
   go_wp2
   go_ret
   exact ⟨B, c2, rfl, HO2.out, HT.out, HF.out⟩
end Go.Proofs.YtafoklilkdnepaaGreatDoor

/- bywashref02.Name: is it a right name? For every text. -/
namespace Go.Proofs.YtafoklilkdnepaaGreatDoor
open Go.RowKit

set_option maxRecDepth 20000 in
set_option maxHeartbeats 1600000 in
theorem refName_any (t : List UInt8) (hs : t.length ≤ 140737000000000) (w : World) :
  Calls Tryz.prog 113 #[.string (S t)] w fun e w' => e = .returned (.bool (nameV t)) ∧ w = w' := by
 have hsz := S_size t
 go_enter Tryz.func113, Tryz.ntmps113
 go_wp2
 go_loop [3] (fun i => ∃ k : Nat, k ≤ t.length ∧ i = .int .i64 k ∧ Hid ((t.take k).all innB = true ∧ (0 < k → ∃ x, t[0]? = some x ∧ letB x = true))) (fun i => t.length - (intOf i).toNat)
 case atStart => exact ⟨0, by omega, rfl, Lib.hid ⟨rfl, fun h => by omega⟩⟩
 case round =>
  obtain ⟨k, hk, rfl, hall⟩ := hrel
  by_cases hlt : k < t.length
  ·obtain ⟨x, hx⟩ : ∃ x, x = t[k] := ⟨_, rfl⟩
   have hg := S_get t k (by rw [hsz]; exact hlt)
   rw [← hx] at hg
   have hxl := x.toNat_lt
   have hgood : innB x = true → (k = 0 → letB x = true) → (t.take (k + 1)).all innB = true ∧ (0 < k + 1 → ∃ x, t[0]? = some x ∧ letB x = true) := fun h1 h2 => by
    refine ⟨by rw [List.take_succ_eq_append_getElem hlt, List.all_append, hall.out.1, ← hx]; simp [h1], fun _ => ?_⟩
    rcases Nat.eq_zero_or_pos k with e | e
    ·subst e; exact ⟨x, by rw [hx]; exact List.getElem?_eq_getElem hlt, h2 rfl⟩
    ·exact hall.out.2 e
   have hbad : innB x = false → nameV t = false := fun h => nameV_bad hlt (by rw [← hx]; exact h)
   have hbad0 : k = 0 → letB x = false → nameV t = false := fun e h => by
    subst e
    cases t with
    | nil => rfl
    | cons c r =>
     have e : x = c := hx
     rw [nameV_cons, ← e, h, Bool.false_and, Bool.and_false]
   have Hg := Lib.hid hgood; have Hb := Lib.hid hbad; have Hb0 := Lib.hid hbad0
   clear hgood hbad hbad0 hx
   have hkk : (k : Int) < t.length := by omega
   have Hlv := Lib.hid (letB_int x); have Hiv := Lib.hid (innB_int x)
   by_cases hsm : 97 ≤ x.toNat ∧ x.toNat ≤ 122
   ·obtain ⟨hs1, hs2⟩ := hsm
    have Hl : Hid (letB x = true) := Lib.hid (by simp [letB, hs1, hs2])
    go_wp2
    go_round
    case rel => exact ⟨k + 1, by omega, by go_num, Lib.hid (Hg.out (by simp [innB, Hl.out]) (fun _ => Hl.out))⟩
    case measure => simp [intOf]; omega
   have Hl : Hid (letB x = false) := Lib.hid (by simp [letB]; omega)
   have hdd : 122 < x.toNat → decide ((x.toNat : Int) ≤ 122) = false := fun h => decide_eq_false (by omega)
   have Hdd := Lib.hid hdd; clear hdd
   by_cases hk0 : k = 0
   ·subst hk0
    have Hn := Lib.hid (Hb0.out rfl Hl.out)
    rcases (show x.toNat < 97 ∨ (97 ≤ x.toNat ∧ 122 < x.toNat) by omega) with hs1 | ⟨hs1, hs2⟩
    ·go_wp2
     go_ret
     exact ⟨ret_bool Hn.out.symm, rfl⟩
    ·have hd2 := Hdd.out hs2
     go_wp2
     go_ret
     exact ⟨ret_bool Hn.out.symm, rfl⟩
   ·have hkz : ((k : Int) == 0) = false := by rw [beq_eq_false_iff_ne]; omega
    by_cases hi : innB x = true
    ·have Hi := Lib.hid hi; clear hi
     have hcase : x.toNat = 95 ∨ (x.toNat ≠ 95 ∧ 48 ≤ x.toNat ∧ x.toNat ≤ 57) := by
      have h1 := Hi.out
      rw [Hiv.out, Hl.out] at h1
      simp at h1
      omega
     rcases hcase with h95 | ⟨h95, h48, h57⟩
     ·have hq : ((x.toNat : Int) == 95) = true := by rw [h95]; rfl
      have hq' : ((x.toNat : Int) != 95) = false := by rw [h95]; rfl
      clear h95
      rcases (show x.toNat < 97 ∨ (97 ≤ x.toNat ∧ 122 < x.toNat) by omega) with hs1 | ⟨hs1, hs2⟩
      ·go_wp2
       go_round
       case rel => exact ⟨k + 1, by omega, by go_num, Lib.hid (Hg.out Hi.out (fun e => absurd e hk0))⟩
       case measure => simp [intOf]; omega
      ·have hd2 := Hdd.out hs2
       go_wp2
       go_round
       case rel => exact ⟨k + 1, by omega, by go_num, Lib.hid (Hg.out Hi.out (fun e => absurd e hk0))⟩
       case measure => simp [intOf]; omega
     ·have hq : ((x.toNat : Int) == 95) = false := by rw [beq_eq_false_iff_ne]; omega
      have hq' : ((x.toNat : Int) != 95) = true := by rw [bne, hq]; rfl
      rcases (show x.toNat < 97 ∨ (97 ≤ x.toNat ∧ 122 < x.toNat) by omega) with hs1 | ⟨hs1, hs2⟩
      ·go_wp2
       go_round
       case rel => exact ⟨k + 1, by omega, by go_num, Lib.hid (Hg.out Hi.out (fun e => absurd e hk0))⟩
       case measure => simp [intOf]; omega
      ·omega
    ·have Hn := Lib.hid (Hb.out (by simpa using hi))
     have Hi := Lib.hid hi; clear hi
     have h95 : x.toNat ≠ 95 ∧ (x.toNat < 48 ∨ 57 < x.toNat) := by
      have h1 := Hi.out
      rw [Hiv.out, Hl.out] at h1
      simp at h1; omega
     have hq : ((x.toNat : Int) == 95) = false := by rw [beq_eq_false_iff_ne]; omega
     have hq' : ((x.toNat : Int) != 95) = true := by rw [bne, hq]; rfl
     rcases h95 with ⟨_, h48 | h57⟩
     ·go_wp2
      all_goals
       go_ret
       exact ⟨ret_bool Hn.out.symm, rfl⟩
     ·rcases (show x.toNat < 97 ∨ (97 ≤ x.toNat ∧ 122 < x.toNat) by omega) with hs1 | ⟨hs1, hs2⟩
      ·go_wp2
       go_ret
       exact ⟨ret_bool Hn.out.symm, rfl⟩
      ·have hd2 := Hdd.out hs2
       go_wp2
       go_ret
       exact ⟨ret_bool Hn.out.symm, rfl⟩
  ·obtain rfl : k = t.length := by omega
   have hall2 := hall.out
   rw [List.take_length] at hall2
   have hn : nameV t = (decide (1 ≤ (t.length : Int)) && decide ((t.length : Int) ≤ 16)) := by
    cases t with
    | nil => rfl
    | cons c r =>
     obtain ⟨x, hx, hl⟩ := hall2.2 (by simp)
     obtain rfl : c = x := by simpa using hx
     rw [nameV_cons, hall2.1, hl, Bool.eq_iff_iff]; simp; omega
   have Hn := Lib.hid hn; clear hn hall2 hall
   go_wp2
   all_goals
    go_ret
    exact ⟨ret_bool (by rw [Hn.out, Bool.eq_iff_iff]; simp; omega), rfl⟩
end Go.Proofs.YtafoklilkdnepaaGreatDoor

/- bywashref02.Check: is a schema right, as the document says? For every schema. -/
namespace Go.Proofs.YtafoklilkdnepaaGreatDoor
open Go.RowKit

theorem refName_anyB (s : ByteArray) (hs : s.size ≤ 140737000000000) (w : World) :
  Calls Tryz.prog 113 #[.string s] w fun e w' => e = .returned (.bool (nameV s.data.toList)) ∧ w = w' := by
 have := refName_any s.data.toList (by rw [size_toList]; exact hs) w
 rwa [S_of] at this

set_option maxRecDepth 20000 in
set_option maxHeartbeats 1600000 in
theorem refCheck_any (A : Option Addr) (cap n : Nat) (cs : List CD) (hn : cs.length = n) (hok : ∀ c ∈ cs, c.Ok) (w : World) (h : ColsAt w A cs) (hl : n ≤ 140737000000000) :
  Calls Tryz.prog 82 #[.slice A n cap] w fun e w' => e = .returned (.int .i64 (checkV cs)) ∧ Touch [] w w' := by
 subst hn
 by_cases h0 : cs.length < 1 ∨ 16 < cs.length
 ·have hc : checkV cs = 31 := by unfold checkV; rw [if_pos h0]
  have Hc := Lib.hid hc; clear hc
  rcases h0 with h0 | h0
  ·go_enter Tryz.func82, Tryz.ntmps82
   go_wp2
   go_ret
   exact ⟨ret_int Hc.out.symm, Touch.refl _ _⟩
  ·go_enter Tryz.func82, Tryz.ntmps82
   go_wp2
   go_ret
   exact ⟨ret_int Hc.out.symm, Touch.refl _ _⟩
 ·have h1 : 1 ≤ cs.length := by omega
  have h16 : cs.length ≤ 16 := by omega
  have hc : checkV cs = chkL (cs.take 0) (cs.drop 0) := by unfold checkV; rw [if_neg h0]; rfl
  have Hc := Lib.hid hc; clear hc h0
  go_enter Tryz.func82, Tryz.ntmps82
  go_wp2
  go_loopw [3] (fun i wr => ∃ k : Nat, k ≤ cs.length ∧ i = .int .i64 k ∧ Hid (checkV cs = chkL (cs.take k) (cs.drop k)) ∧ Touch [] w wr) (fun i _ => cs.length - (intOf i).toNat)
  case atStart => exact ⟨0, by omega, rfl, Hc, Touch.refl _ _⟩
  case round =>
   clear Hc
   obtain ⟨k, hk, rfl, Hc, ht⟩ := hrel
   by_cases hlt : k < cs.length
   ·obtain ⟨ad, b, off, rfl, hadd, c0, c1⟩ := (h.touch0 ht).at_ k hlt
    have hcok := hok _ (List.getElem_mem hlt)
    have hst := chk_step hlt
    obtain ⟨c, hce⟩ : ∃ c, c = cs[k] := ⟨_, rfl⟩
    rw [← hce] at c0 c1 hst hcok
    have Hst := Lib.hid (Hc.out.trans hst)
    have Hce := Lib.hid hce
    clear hst Hc hce
    obtain ⟨hcn, hct1, hct2⟩ := hcok
    have hname := refName_anyB c.name hcn wr
    rcases hnv : nameV c.name.data.toList with _ | _
    ·rw [hnv] at hname
     have Hname := Lib.hid hname; clear hname
     have he : errC (cs.take k) c = 13 := by unfold errC; rw [if_pos hnv]
     have He := Lib.hid (show checkV cs = 13 by rw [Hst.out, he]; rfl); clear he hnv
     go_wp2_with (go_at_call 113; refine Hname.out.mono ?_; rintro e w1 ⟨rfl, rfl⟩)
     go_ret
     exact ⟨ret_int He.out.symm, ht⟩
    ·rw [hnv] at hname
     have Hname := Lib.hid hname; clear hname
     by_cases hty : c.typ ≠ 1 ∧ c.typ ≠ 2
     ·have he : errC (cs.take k) c = 12 := by unfold errC; rw [if_neg (by rw [hnv]; simp), if_pos hty]
      have He := Lib.hid (show checkV cs = 12 by rw [Hst.out, he]; rfl); clear he hnv
      obtain ⟨q1, q2⟩ := hty
      have q1b : (c.typ == 1) = false := by rw [beq_eq_false_iff_ne]; exact q1
      have q2b : (c.typ == 2) = false := by rw [beq_eq_false_iff_ne]; exact q2
      have q1n : (c.typ != 1) = true := by rw [bne, q1b]; rfl
      have q2n : (c.typ != 2) = true := by rw [bne, q2b]; rfl
      go_wp2_with (go_at_call 113; refine Hname.out.mono ?_; rintro e w1 ⟨rfl, rfl⟩)
      go_ret
      exact ⟨ret_int He.out.symm, ht⟩
     ·have hty2 : c.typ = 1 ∨ c.typ = 2 := by omega
      have Htyn := Lib.hid hty
      have Hnv := Lib.hid hnv
      clear hty hnv
      have c1' := c1
      rcases hty2 with q | q
      all_goals
       rw [q] at c1
       clear q c1'
       go_wp2_with (go_at_call 113; refine Hname.out.mono ?_; rintro e w1 ⟨rfl, rfl⟩)
       obtain ⟨wo, hwo⟩ : ∃ wo : World, wo = wr := ⟨_, rfl⟩
       clear Hname
       go_loopw [4] (fun i wr2 => ∃ j : Nat, j ≤ k ∧ i = .int .i64 j ∧ (∀ m (hm : m < j), cs[m]?.map (·.name) ≠ some c.name) ∧ Touch [] w wr2) (fun i _ => k - (intOf i).toNat)
       case atStart => exact ⟨0, by omega, rfl, fun m hm => absurd hm (by omega), ht⟩
       case round =>
        obtain ⟨j, hj, rfl, hno, ht2⟩ := hrel
        by_cases hjk : j < k
        ·obtain ⟨ad2, b2, off2, e2, hadd2, e0, _⟩ := (h.touch0 ht2).at_ j (by omega)
         obtain rfl : ad = ad2 := by injection e2
         obtain ⟨ad3, b3, off3, e3, hadd3, f0, _⟩ := (h.touch0 ht2).at_ k hlt
         obtain rfl : ad = ad3 := by injection e3
         rw [hadd] at hadd3
         cases hadd3
         rw [← Hce.out] at f0
         obtain ⟨d, hde⟩ : ∃ d, d = cs[j] := ⟨_, rfl⟩
         rw [← hde] at e0
         have Hde := Lib.hid hde
         have hjkI : (j : Int) < (k : Int) := by omega
         have hj0I : (0 : Int) ≤ (j : Int) := by omega
         have hk0I : (0 : Int) ≤ (k : Int) := by omega
         have hjlI : (j : Int) < (cs.length : Int) := by omega
         have hklI : (k : Int) < (cs.length : Int) := by omega
         have hno' := Lib.hid hno
         clear hde e2 e3 hno c0 c1
         have hbq := bs_beq d.name c.name
         by_cases hdc : d.name = c.name
         ·have hany : ((cs.take k).any fun d => decide (d.name = c.name)) = true := List.any_eq_true.2 ⟨d, by
           rw [List.mem_iff_getElem?]; exact ⟨j, by rw [List.getElem?_take, if_pos hjk, Hde.out]; exact List.getElem?_eq_getElem _⟩, by simpa using hdc⟩
          have he : errC (cs.take k) c = 14 := by unfold errC; rw [if_neg (by rw [Hnv.out]; simp), if_neg Htyn.out, if_pos hany]
          have He := Lib.hid (show checkV cs = 14 by rw [Hst.out, he]; rfl)
          rw [decide_eq_true hdc] at hbq
          clear he hany hdc
          go_wp2
          go_quiet (fail)
          go_wp2
          go_ret
          exact ⟨ret_int He.out.symm, ht2.drewN _⟩
         ·rw [decide_eq_false hdc] at hbq
          have Hdc := Lib.hid hdc
          clear hdc
          go_wp2
          go_quiet (fail)
          go_wp2
          go_roundw
          case rel => exact ⟨j + 1, by omega, by go_num, fun m hm => by
           by_cases hmj : m < j
           ·exact hno'.out m hmj
           ·obtain rfl : m = j := by omega
            rw [List.getElem?_eq_getElem (by omega), ← Hde.out]
            simpa using Hdc.out, ht2.drewN _⟩
          case measure => simp [intOf]; omega
        ·obtain rfl : j = k := by omega
         have hany : ¬ ((cs.take j).any fun d => decide (d.name = c.name)) = true := fun ha => by
          obtain ⟨d, hd, hde⟩ := List.any_eq_true.1 ha
          obtain ⟨m, hm⟩ := List.mem_iff_getElem?.1 hd
          rw [List.getElem?_take] at hm
          split at hm
          ·rename_i hmj
           exact hno m hmj (by rw [hm]; simpa using hde)
          ·cases hm
         have he : errC (cs.take j) c = 0 := by unfold errC; rw [if_neg (by rw [Hnv.out]; simp), if_neg Htyn.out, if_neg hany]
         have He := Lib.hid (show checkV cs = chkL (cs.take (j + 1)) (cs.drop (j + 1)) by rw [Hst.out, he]; rfl)
         clear he hany hno hwo
         go_wp2
         go_roundw
         case rel => exact ⟨j + 1, by omega, by go_num, He, ht2⟩
         case measure => simp [intOf]; omega
   ·obtain rfl : k = cs.length := by omega
    have He := Lib.hid (show checkV cs = 0 by rw [Hc.out, List.drop_length]; rfl)
    go_wp2
    go_ret
    exact ⟨ret_int He.out.symm, ht⟩
end Go.Proofs.YtafoklilkdnepaaGreatDoor

/- bywashref01.Right; rows turned to the reference's type. For every row. -/
namespace Go.Proofs.YtafoklilkdnepaaGreatDoor
open Go.RowKit

theorem empty_size (s : ByteArray) : s.toList.isEmpty = decide (s.size = 0) := by
 rw [toList_B, Bool.eq_iff_iff, List.isEmpty_iff, decide_eq_true_eq, ← size_toList, List.length_eq_zero_iff]

set_option maxRecDepth 20000 in
set_option maxHeartbeats 1600000 in
theorem refRight_any (v : VD) (hs : v.text.size ≤ 140737000000000) (w : World) :
  Calls Tryz.prog 114 #[v.val] w fun e w' => e = .returned (.bool v.right) ∧ Touch [] w w' := by
 obtain ⟨kd, num, text⟩ := v
 obtain ⟨t, rfl⟩ : ∃ t, text = S t := ⟨_, (S_of _).symm⟩
 have hsz := S_size t
 simp only at hs
 rw [hsz] at hs
 have t0 := (Touch.refl [] w).alloc (.cells #[.int .i64 kd, .int .i64 num, .string (S t)] 130)
 have he := empty_size (S t)
 rw [hsz] at he
 have hr : VD.right ⟨kd, num, S t⟩ = (if kd = 0 then decide (num = 0) && decide (t.length = 0) else if kd = 1 then decide (t.length = 0) else if kd = 2 then decide (num = 0) && plainV t else false) := by
  unfold VD.right
  simp only [he]
  rw [S_toList]
 have Hr := Lib.hid hr
 clear hr he
 have hbad : ∀ (b : Bool), VD.right ⟨kd, num, S t⟩ = b → ∀ w', Touch [] w w' → (Ending.returned (.bool b) = Ending.returned (.bool (VD.right ⟨kd, num, S t⟩)) ∧ Touch [] w w') := fun b hb w' ht => ⟨by rw [hb], ht⟩
 have Hb := Lib.hid hbad; clear hbad
 dsimp only [VD.val] at *
 by_cases hk : kd < 0 ∨ 2 < kd
 ·have Hf := Lib.hid (Hb.out false (by rw [Hr.out, if_neg (by omega), if_neg (by omega), if_neg (by omega)]) _ t0)
  rcases hk with hk | hk
  ·go_enter Tryz.func114, Tryz.ntmps114
   go_wp2
   go_ret
   exact Hf.out
  ·go_enter Tryz.func114, Tryz.ntmps114
   go_wp2
   go_ret
   exact Hf.out
 by_cases hk1 : kd ≠ 1 ∧ num ≠ 0
 ·have Hf := Lib.hid (Hb.out false (by
   rw [Hr.out]
   have := hk1.2
   split
   ·simp [this]
   ·rw [if_neg hk1.1]; split <;> simp [this]) _ t0)
  have q1 : (kd == 1) = false := by rw [beq_eq_false_iff_ne]; exact hk1.1
  have q1' : (kd != 1) = true := by rw [bne, q1]; rfl
  have q2 : (num == 0) = false := by rw [beq_eq_false_iff_ne]; exact hk1.2
  have q2' : (num != 0) = true := by rw [bne, q2]; rfl
  clear hk1
  go_enter Tryz.func114, Tryz.ntmps114
  go_wp2
  go_ret
  exact Hf.out
 by_cases hk2 : kd ≠ 2 ∧ 0 < t.length
 ·have Hf := Lib.hid (Hb.out false (by
   rw [Hr.out]
   have h0 : decide (t.length = 0) = false := decide_eq_false (by omega)
   rw [h0, if_neg hk2.1]
   split
   ·simp
   ·split <;> rfl) _ t0)
  have q1 : (kd == 2) = false := by rw [beq_eq_false_iff_ne]; exact hk2.1
  have q1' : (kd != 2) = true := by rw [bne, q1]; rfl
  obtain ⟨_, q3⟩ := hk2
  rcases (show kd = 1 ∨ (kd ≠ 1 ∧ num = 0) by omega) with h1 | ⟨h1, h2⟩
  ·subst h1
   clear hk1
   go_enter Tryz.func114, Tryz.ntmps114
   go_wp2
   go_ret
   exact Hf.out
  ·subst h2
   have q4 : (kd == 1) = false := by rw [beq_eq_false_iff_ne]; exact h1
   have q4' : (kd != 1) = true := by rw [bne, q4]; rfl
   clear hk1 h1
   go_enter Tryz.func114, Tryz.ntmps114
   go_wp2
   go_ret
   exact Hf.out
 have hmain : (kd = 2 ∧ num = 0) ∨ (kd = 1 ∧ t = []) ∨ (kd = 0 ∧ num = 0 ∧ t = []) := by
  have hz : 0 < t.length ∨ t = [] := by cases t; exact .inr rfl; exact .inl (by simp)
  rcases hz with hz | hz
  ·left; constructor <;> omega
  ·rcases (show kd = 0 ∨ kd = 1 ∨ kd = 2 by omega) with e | e | e
   ·exact .inr (.inr ⟨e, by omega, hz⟩)
   ·exact .inr (.inl ⟨e, hz⟩)
   ·left; constructor <;> omega
 clear hk hk1 hk2
 rcases hmain with ⟨rfl, rfl⟩ | ⟨rfl, rfl⟩ | ⟨rfl, rfl, rfl⟩
 ·by_cases h64 : 64 < t.length
  ·have Hf := Lib.hid (Hb.out false (by rw [Hr.out]; simp [plainV]; omega) _ t0)
   go_enter Tryz.func114, Tryz.ntmps114
   go_wp2
   go_ret
   exact Hf.out
  go_enter Tryz.func114, Tryz.ntmps114
  go_wp2
  go_loop [3] (fun i => ∃ k : Nat, k ≤ t.length ∧ i = .int .i64 k ∧ Hid ((t.take k).all okB = true)) (fun i => t.length - (intOf i).toNat)
  case atStart => exact ⟨0, by omega, rfl, Lib.hid rfl⟩
  case round =>
   obtain ⟨k, hk, rfl, hall⟩ := hrel
   by_cases hlt : k < t.length
   ·have hno := all_no (p := okB) hlt
    have hyes := all_snoc (p := okB) hlt hall.out
    have hg := S_get t k (by rw [hsz]; exact hlt)
    obtain ⟨x, hx⟩ : ∃ x, x = t[k] := ⟨_, rfl⟩
    rw [← hx] at hno hyes hg
    have Hno := Lib.hid hno; have Hyes := Lib.hid hyes
    have hxl := x.toNat_lt
    have hkI : (k : Int) < t.length := by omega
    clear hno hyes hx hall
    by_cases h1 : x.toNat < 32
    ·have Hf := Lib.hid (Hb.out false (by rw [Hr.out]; simp only [if_neg (show ¬ (2 : Int) = 0 by omega), if_neg (show ¬ (2 : Int) = 1 by omega), if_true, plainV]; rw [Hno.out (by simp [okB]; omega)]; rfl) _ t0)
     go_wp2
     go_ret
     exact Hf.out
    by_cases h2 : 126 < x.toNat
    ·have Hf := Lib.hid (Hb.out false (by rw [Hr.out]; simp only [if_neg (show ¬ (2 : Int) = 0 by omega), if_neg (show ¬ (2 : Int) = 1 by omega), if_true, plainV]; rw [Hno.out (by simp [okB]; omega)]; rfl) _ t0)
     go_wp2
     go_ret
     exact Hf.out
    ·have Ha := Lib.hid (Hyes.out (by simp [okB]; omega))
     go_wp2
     go_round
     case rel => exact ⟨k + 1, by omega, by go_num, Ha⟩
     case measure => simp [intOf]; omega
   ·obtain rfl : k = t.length := by omega
    have h := hall.out
    rw [List.take_length] at h
    have Hf := Lib.hid (Hb.out true (by rw [Hr.out]; simp only [if_neg (show ¬ (2 : Int) = 0 by omega), if_neg (show ¬ (2 : Int) = 1 by omega), if_true, plainV]; rw [h]; simp; omega) _ t0)
    clear hall h
    go_wp2
    go_ret
    exact Hf.out
 ·have Hf := Lib.hid (Hb.out true (by rw [Hr.out]; rfl) _ t0)
  go_enter Tryz.func114, Tryz.ntmps114
  go_wp2
  refine wp_loop_rounds 1 ?_
  rw [rounds_succ]
  go_wp2
  go_ret
  exact Hf.out
 ·have Hf := Lib.hid (Hb.out true (by rw [Hr.out]; rfl) _ t0)
  go_enter Tryz.func114, Tryz.ntmps114
  go_wp2
  refine wp_loop_rounds 1 ?_
  rw [rounds_succ]
  go_wp2
  go_ret
  exact Hf.out

end Go.Proofs.YtafoklilkdnepaaGreatDoor

/- bywashref02.Fits; schema.Schema.Types: for every schema and row. -/
namespace Go.Proofs.YtafoklilkdnepaaGreatDoor
open Go.RowKit

set_option maxRecDepth 20000 in
set_option maxHeartbeats 6400000 in
theorem refFits_any (A : Option Addr) (cap n : Nat) (cs : List CD) (hn : cs.length = n) (B : Option Addr) (bcap m : Nat) (vs : List VD) (hm : vs.length = m) (hvk : ∀ v ∈ vs, v.Ok 140737000000000)
  (w : World) (h : ColsAt w A cs) (hv : ValsAt w B vs) (hl : n ≤ 140737000000000) (hl2 : m ≤ 140737000000000) :
  Calls Tryz.prog 83 #[.slice A n cap, .slice B m bcap] w fun e w' => e = .returned (.bool (fitR cs vs)) ∧ Touch [] w w' := by
 subst hn hm
 by_cases hlen : vs.length = cs.length
 ·have Hlen := Lib.hid hlen
  have hq : ((cs.length : Int) == (vs.length : Int)) = true := by rw [beq_iff_eq]; omega
  have hq' : ((cs.length : Int) != (vs.length : Int)) = false := by rw [bne, hq]; rfl
  clear hlen
  go_enter Tryz.func83, Tryz.ntmps83
  go_wp2
  clear hq hq'
  go_loopw [5] (fun i wr => ∃ k : Nat, k ≤ cs.length ∧ i = .int .i64 k ∧ Hid (((List.zipWith fitC cs vs).take k).all id = true) ∧ Touch [] w wr) (fun i _ => cs.length - (intOf i).toNat)
  case atStart => exact ⟨0, by omega, rfl, Lib.hid rfl, Touch.refl _ _⟩
  case round =>
   obtain ⟨k, hk, rfl, Hall, ht⟩ := hrel
   by_cases hlt2 : k < cs.length
   ·have hlt : k < vs.length := by have := Hlen.out; omega
    obtain ⟨ad, b, off, rfl, hadd, c0, c1⟩ := (h.touch0 ht).at_ k hlt2
    obtain ⟨bd, b2, off2, rfl, hadd2, d0, d1, d2⟩ := (hv.touch0 ht).at_ k hlt
    have hno := fit_no hlt2 hlt
    have hyes := fit_yes hlt2 hlt Hall.out
    have hvok := hvk _ (List.getElem_mem hlt)
    obtain ⟨c, hce⟩ : ∃ c, c = cs[k] := ⟨_, rfl⟩
    obtain ⟨v, hve⟩ : ∃ v, v = vs[k] := ⟨_, rfl⟩
    rw [← hce] at c0 c1 hno hyes
    rw [← hve] at d0 d1 d2 hno hyes hvok
    have Hno := Lib.hid hno; have Hyes := Lib.hid hyes
    obtain ⟨_, _, hvt⟩ := hvok
    obtain ⟨kd, nm, tx⟩ := v
    simp only at d0 d1 d2 hvt
    have g0 := TW.cell d0
    have g1 := TW.cell d1
    have g2 := TW.cell d2
    have g3 := TW.cell c1
    clear hce hve hno hyes Hall c0 c1 d0 d1 d2
    have hright := fun w' => refRight_any ⟨kd, nm, tx⟩ hvt w'
    simp only [VD.val] at hright
    have hkI0 : (0 : Int) ≤ (k : Int) := by omega
    have hkI : (k : Int) < (cs.length : Int) := by omega
    have hkI2 : (k : Int) < (vs.length : Int) := by omega
    rcases hvr : VD.right ⟨kd, nm, tx⟩ with _ | _
    ·have Hf := Lib.hid (Hno.out (by unfold fitC; rw [hvr]; rfl))
     rw [hvr] at hright
     have Hright := Lib.hid hright; clear hright hvr
     go_wp2
     refine wp_region_tw wr (Touch.refl _ _) (by kernel_rfl) (by kernel_rfl) ?_
     repeat (go_big_quiet_step (((go_at_call 114; exact Calls.tw _ (Hright.out _)))))
     refine wpQuiet_nil ?_
     rintro _ ⟨x2, rfl⟩
     go_wp2
     go_ret
     exact ⟨ret_bool (by rw [Hf.out]), ht.trans0 x2.t⟩
    ·have Hr := Lib.hid hvr
     rw [hvr] at hright
     have Hright := Lib.hid hright; clear hright hvr
     by_cases hk0 : kd = 0
     ·subst hk0
      have Ha := Lib.hid (Hyes.out (by unfold fitC; rw [Hr.out]; rfl))
      go_wp2
      refine wp_region_tw wr (Touch.refl _ _) (by kernel_rfl) (by kernel_rfl) ?_
      repeat (go_big_quiet_step (((go_at_call 114; exact Calls.tw _ (Hright.out _)))))
      refine wpQuiet_nil ?_
      rintro _ ⟨x2, rfl⟩
      go_wp2
      go_roundw
      case rel => exact ⟨k + 1, by omega, by go_num, Ha, ht.trans0 x2.t⟩
      case measure => simp [intOf]; omega
     ·have q0 : (kd == 0) = false := by rw [beq_eq_false_iff_ne]; exact hk0
      have q0' : (kd != 0) = true := by rw [bne, q0]; rfl
      by_cases hkt : kd = c.typ
      ·have Ha := Lib.hid (Hyes.out (by unfold fitC; rw [Hr.out]; simp [hkt]))
       have q1 : (kd == c.typ) = true := by rw [beq_iff_eq]; exact hkt
       have q1' : (kd != c.typ) = false := by rw [bne, q1]; rfl
       clear hk0 hkt
       go_wp2
       refine wp_region_tw wr (Touch.refl _ _) (by kernel_rfl) (by kernel_rfl) ?_
       repeat (go_big_quiet_step (((go_at_call 114; exact Calls.tw _ (Hright.out _)))))
       refine wpQuiet_nil ?_
       rintro _ ⟨x2, rfl⟩
       go_wp2
       go_roundw
       case rel => exact ⟨k + 1, by omega, by go_num, Ha, ht.trans0 x2.t⟩
       case measure => simp [intOf]; omega
      ·have Hf := Lib.hid (Hno.out (by unfold fitC; rw [Hr.out]; simp [hkt, hk0]))
       have q1 : (kd == c.typ) = false := by rw [beq_eq_false_iff_ne]; exact hkt
       have q1' : (kd != c.typ) = true := by rw [bne, q1]; rfl
       clear hk0 hkt
       go_wp2
       refine wp_region_tw wr (Touch.refl _ _) (by kernel_rfl) (by kernel_rfl) ?_
       repeat (go_big_quiet_step (((go_at_call 114; exact Calls.tw _ (Hright.out _)))))
       refine wpQuiet_nil ?_
       rintro _ ⟨x2, rfl⟩
       go_wp2
       go_ret
       exact ⟨ret_bool (by rw [Hf.out]), ht.trans0 x2.t⟩
   ·obtain rfl : k = cs.length := by omega
    have hall := Hall.out
    rw [List.take_of_length_le (by rw [List.length_zipWith]; omega)] at hall
    have Hf := Lib.hid (show fitR cs vs = true by unfold fitR; rw [hall, decide_eq_true Hlen.out]; rfl)
    clear hall Hall
    go_wp2
    go_ret
    exact ⟨ret_bool (by rw [Hf.out]), ht⟩
 ·have Hf := Lib.hid (show fitR cs vs = false by unfold fitR; rw [decide_eq_false hlen]; rfl)
  have hq : ((cs.length : Int) == (vs.length : Int)) = false := by rw [beq_eq_false_iff_ne]; omega
  have hq' : ((cs.length : Int) != (vs.length : Int)) = true := by rw [bne, hq]; rfl
  clear hlen
  go_enter Tryz.func83, Tryz.ntmps83
  go_wp2
  go_ret
  exact ⟨ret_bool (by rw [Hf.out]), Touch.refl _ _⟩
end Go.Proofs.YtafoklilkdnepaaGreatDoor

/- bywashref01.Bytes and Cmp. For every values. -/
namespace Go.Proofs.YtafoklilkdnepaaGreatDoor
open Go.RowKit
theorem bytes_step {a b : List UInt8} {k : Nat} (h1 : k < a.length) (h2 : k < b.length) : Lib.compareBytes (a.drop k) (b.drop k) = if a[k] < b[k] then -1 else if b[k] < a[k] then 1 else Lib.compareBytes (a.drop (k + 1)) (b.drop (k + 1)) := by
 rw [List.drop_eq_getElem_cons h1, List.drop_eq_getElem_cons h2]; rfl
theorem bytes_end (a b : List UInt8) (h : a = [] ∨ b = []) : Lib.compareBytes a b = if a.length < b.length then -1 else if b.length < a.length then 1 else 0 := by
 rcases h with rfl | rfl
 ·cases b <;> rfl
 ·cases a <;> rfl

set_option maxRecDepth 20000 in
set_option maxHeartbeats 1600000 in
theorem refBytes_any (a b : List UInt8) (ha : a.length ≤ 9223372036854775807) (hb : b.length ≤ 9223372036854775807) (w : World) :
  Calls Tryz.prog 29 #[.string (S a), .string (S b)] w fun e w' => e = .returned (.int .i64 (Lib.compareBytes a b)) ∧ Touch [] w w' := by
 have hsa := S_size a
 have hsb := S_size b
 go_enter Tryz.func29, Tryz.ntmps29
 go_wp2
 go_loopw [5] (fun i wr => ∃ k : Nat, k ≤ a.length ∧ k ≤ b.length ∧ i = .int .i64 k ∧ Hid (Lib.compareBytes a b = Lib.compareBytes (a.drop k) (b.drop k)) ∧ Touch [] w wr) (fun i _ => a.length - (intOf i).toNat)
 case atStart => exact ⟨0, by omega, by omega, rfl, Lib.hid rfl, Touch.refl _ _⟩
 case round =>
  obtain ⟨k, hka, hkb, rfl, Ho, ht⟩ := hrel
  by_cases hlt : k < a.length ∧ k < b.length
  ·obtain ⟨h1, h2⟩ := hlt
   have hst := bytes_step h1 h2
   obtain ⟨x, hx⟩ : ∃ x, x = a[k] := ⟨_, rfl⟩
   obtain ⟨y, hy⟩ : ∃ y, y = b[k] := ⟨_, rfl⟩
   have hg := S_get a k (by rw [hsa]; exact h1)
   have hg2 := S_get b k (by rw [hsb]; exact h2)
   rw [← hx] at hst hg
   rw [← hy] at hst hg2
   simp only [UInt8.lt_iff_toNat_lt] at hst
   have hxl := x.toNat_lt
   have hyl := y.toNat_lt
   have Hst := Lib.hid hst
   have h1I : (k : Int) < (a.length : Int) := by omega
   have h2I : (k : Int) < (b.length : Int) := by omega
   have h0I : (0 : Int) ≤ (k : Int) := by omega
   clear hst hx hy
   rcases Nat.lt_trichotomy x.toNat y.toNat with hq | hq | hq
   ·have Hq := Lib.hid (show Lib.compareBytes a b = -1 by rw [Ho.out, Hst.out, if_pos hq])
    go_wp2
    go_quiet (fail)
    go_wp2
    go_ret
    exact ⟨ret_int Hq.out.symm, ht.drewN _⟩
   ·have Hq := Lib.hid (show Lib.compareBytes a b = Lib.compareBytes (a.drop (k + 1)) (b.drop (k + 1)) by rw [Ho.out, Hst.out, if_neg (by omega), if_neg (by omega)])
    obtain rfl : x = y := UInt8.toNat_inj.1 hq
    clear hq
    go_wp2
    go_quiet (fail)
    go_wp2
    go_quiet (fail)
    go_wp2
    go_roundw
    case rel => exact ⟨k + 1, by omega, by omega, by go_num, Hq, ht.drewN _⟩
    case measure => simp [intOf]; omega
   ·have Hq := Lib.hid (show Lib.compareBytes a b = 1 by rw [Ho.out, Hst.out, if_neg (by omega), if_pos hq])
    have hq2 : ¬ x.toNat < y.toNat := by omega
    go_wp2
    go_quiet (fail)
    go_wp2
    go_quiet (fail)
    go_wp2
    go_ret
    exact ⟨ret_int Hq.out.symm, (ht.drewN _).drewN _⟩
  ·have hend : a.drop k = [] ∨ b.drop k = [] := by
    rcases (show k = a.length ∨ k = b.length by omega) with e | e
    ·left; rw [e]; exact List.drop_length
    ·right; rw [e]; exact List.drop_length
   have hE := bytes_end _ _ hend
   rw [List.length_drop, List.length_drop] at hE
   have HE := Lib.hid hE
   clear hE hend
   rcases Nat.lt_trichotomy a.length b.length with hq | hq | hq
   ·have Hq := Lib.hid (show Lib.compareBytes a b = -1 by rw [Ho.out, HE.out, if_pos (by omega)])
    obtain rfl : k = a.length := by omega
    have hqI : (a.length : Int) < (b.length : Int) := by omega
    clear HE Ho hlt
    go_wp2
    go_ret
    exact ⟨ret_int Hq.out.symm, ht⟩
   ·have Hq := Lib.hid (show Lib.compareBytes a b = 0 by rw [Ho.out, HE.out, if_neg (by omega), if_neg (by omega)])
    obtain rfl : k = a.length := by omega
    clear HE Ho hlt
    go_wp2
    go_ret
    exact ⟨ret_int Hq.out.symm, ht⟩
   ·have Hq := Lib.hid (show Lib.compareBytes a b = 1 by rw [Ho.out, HE.out, if_neg (by omega), if_pos (by omega)])
    obtain rfl : k = b.length := by omega
    have hqI : (b.length : Int) < (a.length : Int) := by omega
    clear HE Ho hlt
    go_wp2
    go_ret
    exact ⟨ret_int Hq.out.symm, ht⟩
theorem refBytes_anyB (a b : ByteArray) (ha : a.size ≤ 9223372036854775807) (hb : b.size ≤ 9223372036854775807) (w : World) :
  Calls Tryz.prog 29 #[.string a, .string b] w fun e w' => e = .returned (.int .i64 (Lib.compareBytes a.data.toList b.data.toList)) ∧ Touch [] w w' := by
 have := refBytes_any a.data.toList b.data.toList (by rw [← S_size, S_of]; exact ha) (by rw [← S_size, S_of]; exact hb) w
 rwa [S_of, S_of] at this

set_option maxRecDepth 20000 in
set_option maxHeartbeats 1600000 in
theorem refCmp_any (a b : VD) (ha : a.text.size ≤ 9223372036854775807) (hb : b.text.size ≤ 9223372036854775807) (w : World) :
  Calls Tryz.prog 78 #[a.val, b.val] w fun e w' => e = .returned (.int .i64 (cmpVV a b)) ∧ Touch [] w w' := by
 obtain ⟨k1, n1, s1⟩ := a
 obtain ⟨k2, n2, s2⟩ := b
 have hB := fun w' => refBytes_anyB s1 s2 ha hb w'
 have hc : cmpVV ⟨k1, n1, s1⟩ ⟨k2, n2, s2⟩ = orV [Lib.compareInt k1 k2, Lib.compareInt n1 n2, Lib.compareBytes s1.data.toList s2.data.toList] := rfl
 rw [hc]
 have HB := Lib.hid hB
 have t0 := (((Touch.refl [] w).alloc (.cells #[.int .i64 k1, .int .i64 n1, .string s1] 130)).alloc (.cells #[.int .i64 k2, .int .i64 n2, .string s2] 130))
 clear hB hc
 dsimp only [VD.val]
 go_enter Tryz.func78, Tryz.ntmps78
 rcases Int.lt_trichotomy k1 k2 with h1 | rfl | h1
 ·have Hq := Lib.hid (show orV [Lib.compareInt k1 k2, Lib.compareInt n1 n2, Lib.compareBytes s1.data.toList s2.data.toList] = -1 by
   rw [show Lib.compareInt k1 k2 = -1 by unfold Lib.compareInt; rw [if_pos h1]]; rfl)
  have hq : (k1 == k2) = false := by rw [beq_eq_false_iff_ne]; omega
  have hq' : (k1 != k2) = true := by rw [bne, hq]; rfl
  go_wp2
  go_ret
  exact ⟨ret_int Hq.out.symm, t0⟩
 ·have Hz := Lib.hid (show orV [Lib.compareInt k1 k1, Lib.compareInt n1 n2, Lib.compareBytes s1.data.toList s2.data.toList] = orV [Lib.compareInt n1 n2, Lib.compareBytes s1.data.toList s2.data.toList] by
   rw [show Lib.compareInt k1 k1 = 0 by unfold Lib.compareInt; simp]; rfl)
  rcases Int.lt_trichotomy n1 n2 with h2 | rfl | h2
  ·have Hq := Lib.hid (show orV [Lib.compareInt n1 n2, Lib.compareBytes s1.data.toList s2.data.toList] = -1 by
    rw [show Lib.compareInt n1 n2 = -1 by unfold Lib.compareInt; rw [if_pos h2]]; rfl)
   go_wp2
   go_ret
   exact ⟨ret_int (by rw [Hz.out, Hq.out]), t0⟩
  ·have Hq := Lib.hid (show orV [Lib.compareInt n1 n1, Lib.compareBytes s1.data.toList s2.data.toList] = Lib.compareBytes s1.data.toList s2.data.toList by
    rw [show Lib.compareInt n1 n1 = 0 by unfold Lib.compareInt; simp]
    simp only [orV]
    split <;> simp_all)
   go_wp2_with fail
   refine (HB.out _).mono ?_
   rintro e w1 ⟨rfl, t1⟩
   go_wp2
   go_ret
   exact ⟨ret_int (by rw [Hz.out, Hq.out]), t0.trans0 t1⟩
  ·have Hq := Lib.hid (show orV [Lib.compareInt n1 n2, Lib.compareBytes s1.data.toList s2.data.toList] = 1 by
    rw [show Lib.compareInt n1 n2 = 1 by unfold Lib.compareInt; rw [if_neg (by omega), if_pos h2]]; rfl)
   have h2' : ¬ n1 < n2 := by omega
   go_wp2
   go_ret
   exact ⟨ret_int (by rw [Hz.out, Hq.out]), t0⟩
 ·have Hq := Lib.hid (show orV [Lib.compareInt k1 k2, Lib.compareInt n1 n2, Lib.compareBytes s1.data.toList s2.data.toList] = 1 by
   rw [show Lib.compareInt k1 k2 = 1 by unfold Lib.compareInt; rw [if_neg (by omega), if_pos h1]]; rfl)
  have hq : (k1 == k2) = false := by rw [beq_eq_false_iff_ne]; omega
  have hq' : (k1 != k2) = true := by rw [bne, hq]; rfl
  have h1' : ¬ k1 < k2 := by omega
  go_wp2
  go_ret
  exact ⟨ret_int Hq.out.symm, t0⟩
end Go.Proofs.YtafoklilkdnepaaGreatDoor
