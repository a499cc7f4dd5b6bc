/- schema.Schema.Check: is a schema right? For every schema. -/
import Derived.Test.YtlkckkagoommaaaSchName
import Derived.Test.YtlkckkagoommaaaMaps
namespace Go.Proofs.Ytlkckkagoommaaa
open Go.RowKit Go.Maps

/-- a column's cells -/
def cdE (c : CD) : List Value := [.string c.name, .int .i64 c.typ]
theorem cdE_length (c : CD) : (cdE c).length = 2 := rfl
theorem cdE_one (c : CD) : ∀ u ∈ cdE c, u.oneCell' = true := by
  intro u hu
  simp only [cdE, List.mem_cons, List.not_mem_nil, or_false] at hu
  rcases hu with rfl | rfl <;> rfl
/-- names not too long, types that are ints -/
structure CD.Ok (c : CD) : Prop where
  n : c.name.size ≤ 140737000000000
  t : -9223372036854775808 ≤ c.typ ∧ c.typ ≤ 9223372036854775807
def ColsAt (w : World) (A : Option Addr) (cs : List CD) : Prop := RdK cdE w A cs
theorem ColsAt.at_ {w : World} {A : Option Addr} {cs : List CD} (h : ColsAt w A cs) (i : Nat) (hi : i < cs.length) :
    ∃ ad b off, A = some ad ∧ ad.add (i * 2) = ⟨b, off, none⟩ ∧ w.cell? ⟨b, off, none⟩ = some (.string cs[i].name) ∧ w.cell? ⟨b, off + 1, none⟩ = some (.int .i64 cs[i].typ) := by
  obtain ⟨ad, b, off, h1, h2, _, h3⟩ := RdK.at_ h 2 cdE_length (by omega) i hi
  exact ⟨ad, b, off, h1, h2, h3 0 _ rfl, h3 1 _ rfl⟩
theorem ColsAt.touch0 {w w' : World} {A : Option Addr} {cs : List CD} (h : ColsAt w A cs) (ht : Touch [] w w') : ColsAt w' A cs := RdK.touch0 h ht

theorem name_anyB (s : ByteArray) (hs : s.size ≤ 140737000000000) (w : World) :
    Calls Try.prog 61 #[.string s] w fun e w' => e = .returned (.bool (nameV s.data.toList)) ∧ Touch [] w w' := by
  have := name_any s.data.toList (by rw [size_toList]; exact hs) w
  rwa [S_of] at this

theorem zeroBool (w : World) : (zeroValue 4).run Try.prog w = .ok (.bool false) w := by kernel_rfl
/-- the names seen so far -/
def seenV (cs : List CD) : List (Value × Value) := cs.map fun c => (.string c.name, .bool true)

set_option maxRecDepth 20000 in
set_option maxHeartbeats 1600000 in
theorem check_any (A : Option Addr) (cap n : Nat) (cs : List CD) (hn : cs.length = n) (hok : ∀ c ∈ cs, c.Ok) (w : World) (h : ColsAt w A cs) (hl : n ≤ 9223372036854775807) :
    Calls Try.prog 38 #[.slice A n cap] w fun e w' => e = .returned (.int .i64 (checkV cs)) ∧ Touch [] w w' := by
  subst hn
  have hmm := @run_makeMap Try.prog
  by_cases h0 : cs.length < 1 ∨ 16 < cs.length
  · have hc : checkV cs = 31 := by unfold checkV; rw [if_pos h0]
    have Hc := Lib.hid hc; clear hc
    rcases h0 with h0 | h0
    · have hz : cs.length = 0 := by omega
      have hzb : ((cs.length : Int) == 0) = true := by rw [hz]; rfl
      clear hz
      go_enter Try.func38, Try.ntmps38
      go_wp2
      go_ret
      exact ⟨ret_int Hc.out.symm, Touch.refl _ _⟩
    · have hzb : ((cs.length : Int) == 0) = false := by rw [beq_eq_false_iff_ne]; omega
      go_enter Try.func38, Try.ntmps38
      go_wp2
      go_ret
      exact ⟨ret_int Hc.out.symm, Touch.refl _ _⟩
  · have h1 : 1 ≤ cs.length := by omega
    have h16 : cs.length ≤ 16 := by omega
    have hzb : ((cs.length : Int) == 0) = false := by rw [beq_eq_false_iff_ne]; omega
    have hc : checkV cs = chkL (cs.take 0) (cs.drop 0) := by unfold checkV; rw [if_neg h0]; rfl
    have Hc := Lib.hid hc; clear hc h0
    go_enter Try.func38, Try.ntmps38
    go_wp2
    clear hzb
    go_loopw [17] (fun i wr => ∃ k : Nat, k ≤ cs.length ∧ i = .int .i64 k ∧ Hid (checkV cs = chkL (cs.take k) (cs.drop k)) ∧ MapAt Try.prog 9 wr w.heap.size (seenV (cs.take k)) ∧ Touch [] w wr) (fun i _ => cs.length - (intOf i).toNat)
    case atStart => exact ⟨0, by omega, rfl, Hc, MapAt.made _, (Touch.refl _ _).alloc _⟩
    case round =>
      clear Hc hmm
      obtain ⟨k, hk, rfl, Hc, hmap, ht⟩ := hrel
      by_cases hlt : k < cs.length
      · obtain ⟨ad, b, off, rfl, hadd, c0, c1⟩ := (h.touch0 ht).at_ k hlt
        have hcok := hok _ (List.getElem_mem hlt)
        have hst := chk_step hlt
        obtain ⟨c, hce⟩ : ∃ c, c = cs[k] := ⟨_, rfl⟩
        rw [← hce] at c0 c1 hst hcok
        have hsn : seenV (cs.take (k + 1)) = seenV (cs.take k) ++ [(.string c.name, .bool true)] := by
          unfold seenV; rw [List.take_succ_eq_append_getElem hlt, List.map_append, ← hce]; rfl
        have Hst := Lib.hid (Hc.out.trans hst); have Hsn := Lib.hid hsn
        clear hst Hc hce hsn
        obtain ⟨hcn, hct1, hct2⟩ := hcok
        have tb := (Touch.refl [] wr).alloc (.cells #[.string c.name, .int .i64 c.typ] 45)
        have hb := heap_alloc_new wr (.cells #[.string c.name, .int .i64 c.typ] 45)
        have hname := name_anyB c.name hcn (wr.alloc (.cells #[.string c.name, .int .i64 c.typ] 45))
        have Hkey := Lib.hid (Go.WideMaps.keyOf_string_mk Try.underlying9 (s := c.name) (by unfold maxLen; omega))
        have Hmap := Lib.hid (hmap.touch tb (by simp)); clear hmap
        rcases hnv : nameV c.name.data.toList with _ | _
        · rw [hnv] at hname
          have Hname := Lib.hid hname; clear hname
          have he : errC (cs.take k) c = 13 := by unfold errC; rw [if_pos hnv]
          have He := Lib.hid (show checkV cs = 13 by rw [Hst.out, he]; rfl); clear he hnv
          go_wp2_with (go_at_call 61; refine Hname.out.mono ?_; rintro e w1 ⟨rfl, t1⟩)
          go_ret
          exact ⟨ret_int He.out.symm, (ht.trans0 tb).trans0 t1⟩
        · rw [hnv] at hname
          have Hname := Lib.hid hname; clear hname
          by_cases hty : c.typ ≠ 1 ∧ c.typ ≠ 2
          · have he : errC (cs.take k) c = 12 := by unfold errC; rw [if_neg (by rw [hnv]; simp), if_pos hty]
            have He := Lib.hid (show checkV cs = 12 by rw [Hst.out, he]; rfl); clear he hnv
            obtain ⟨q1, q2⟩ := hty
            have q1b : (c.typ == 1) = false := by rw [beq_eq_false_iff_ne]; exact q1
            have q2b : (c.typ == 2) = false := by rw [beq_eq_false_iff_ne]; exact q2
            have q1n : (c.typ != 1) = true := by rw [bne, q1b]; rfl
            have q2n : (c.typ != 2) = true := by rw [bne, q2b]; rfl
            go_wp2_with fail
            refine Hname.out.mono ?_
            rintro e w1 ⟨rfl, t1⟩
            have hb1 := t1.blk hb (by simp)
            have d0 := cell_blk hb1 (i := 0) rfl
            have d1 := cell_blk hb1 (i := 1) rfl
            go_wp2
            go_ret
            exact ⟨ret_int He.out.symm, (ht.trans0 tb).trans0 t1⟩
          · have hty2 : c.typ = 1 ∨ c.typ = 2 := by omega
            go_wp2_with fail
            refine Hname.out.mono ?_
            rintro e w1 ⟨rfl, t1⟩
            have hb1 := t1.blk hb (by simp)
            have d0 := cell_blk hb1 (i := 0) rfl
            have d1 := cell_blk hb1 (i := 1) rfl
            have Hmap1 := Lib.hid (Hmap.out.touch t1 (by simp))
            by_cases hany : ((cs.take k).any fun d => decide (d.name = c.name)) = true
            · have he : errC (cs.take k) c = 14 := by unfold errC; rw [if_neg (by rw [hnv]; simp), if_neg hty, if_pos hany]
              have He := Lib.hid (show checkV cs = 14 by rw [Hst.out, he]; rfl); clear he hnv
              have hmem : (Value.string c.name, Value.bool true) ∈ seenV (cs.take k) := by
                obtain ⟨d, hd, hde⟩ := List.any_eq_true.1 hany
                exact List.mem_map.2 ⟨d, hd, by rw [show d.name = c.name by simpa using hde]⟩
              clear hany
              rcases hty2 with q | q
              all_goals
                have q1b : (c.typ == 1) = decide (c.typ = 1) := rfl
                rw [q] at d1
                clear q1b hty q
                go_wp2_with (at_lookup; refine stop ?_)
                refine go ?_
                refine wpList_lookup_is rfl (.tmp 36) (.tmp 38) 76 false rfl _ _ _ rfl rfl (Hmap1.out.hit (string_keyed Try.underlying9) Try.underlying76 Hkey.out hmem false) ?_
                go_wp2
                go_ret
                exact ⟨ret_int He.out.symm, (ht.trans0 tb).trans0 t1⟩
            · have he : errC (cs.take k) c = 0 := by unfold errC; rw [if_neg (by rw [hnv]; simp), if_neg hty, if_neg hany]
              have He := Lib.hid (show checkV cs = chkL (cs.take (k + 1)) (cs.drop (k + 1)) by rw [Hst.out, he]; rfl); clear he hnv
              have hmiss : ∀ p ∈ seenV (cs.take k), p.1 ≠ Value.string c.name := by
                intro p hp e
                obtain ⟨d, hd, rfl⟩ := List.mem_map.1 hp
                exact hany (List.any_eq_true.2 ⟨d, hd, by simpa using e⟩)
              clear hany
              obtain ⟨w2, hrun, hmap2, t2⟩ := Hmap1.out.put_new (string_keyed Try.underlying9) Try.underlying76 Hkey.out hmiss (.bool true)
              have Hrun := Lib.hid hrun; clear hrun
              rcases hty2 with q | q
              all_goals
                rw [q] at d1
                clear hty q
                go_wp2_with (at_lookup; refine stop ?_)
                refine go ?_
                refine wpList_lookup_is rfl (.tmp 36) (.tmp 38) 76 false rfl _ _ _ rfl rfl (Hmap1.out.miss (string_keyed Try.underlying9) Try.underlying76 Hkey.out hmiss _ (zeroBool _) false) ?_
                go_wp2_with (at_mapUpdate; refine stop ?_)
                refine go ?_
                refine wpList_update_is rfl (.tmp 40) (.tmp 42) (.const (.bool true)) 76 rfl _ _ _ rfl rfl rfl Hrun.out ?_
                go_wp2
                go_roundw
                case rel => exact ⟨k + 1, by omega, by go_num, He, by rw [Hsn.out]; exact hmap2, ((ht.trans0 tb).trans0 t1).trans t2 (fun b hb => .inr (by simp at hb; omega))⟩
                case measure => simp [intOf]; omega
      · obtain rfl : k = cs.length := by omega
        have He := Lib.hid (show checkV cs = 0 by rw [Hc.out, List.drop_length]; rfl)
        go_wp2
        go_ret
        exact ⟨ret_int He.out.symm, ht⟩
end Go.Proofs.Ytlkckkagoommaaa
