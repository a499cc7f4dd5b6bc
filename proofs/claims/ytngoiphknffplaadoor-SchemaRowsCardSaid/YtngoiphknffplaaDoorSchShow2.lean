/- schema.Schema.Show: the text of a schema, or none. For every schema. -/
import Derived.Test.YtngoiphknffplaaDoorSchShow
namespace Go.Proofs.YtngoiphknffplaaDoor
open Go.RowKit

/-- a text's cell -/
def stE (p : List UInt8) : List Value := [.string (S p)]
theorem stE_length (p : List UInt8) : (stE p).length = 1 := rfl
theorem stE_one (p : List UInt8) : ∀ u ∈ stE p, u.oneCell' = true := by
  intro u hu
  obtain rfl : u = .string (S p) := by simpa [stE] using hu
  rfl
theorem info_str : (Tryd.prog.info? 9).map (fun i => (i.zero, i.size, i.bytes)) = some (some (.string ⟨#[]⟩), 1, 16) := by kernel_rfl

/-- two texts, one behind the other -/
theorem run_cat (a b : ByteArray) (h : a.size + b.size ≤ 9223372036854775807) (w : World) : (binOp .add 9 (.string a) (.string b)).run Tryd.prog w = .ok (.string (a ++ b)) w := by
  have h2 : ¬ 9223372036854775807 < a.size + b.size := by omega
  simp [go_sem, h2]

/-- strings.Join over texts of the calls' own -/
theorem join_own (A : Option Addr) (c n : Nat) (xs : List (List UInt8)) (hn : xs.length = n) (w : World) (h : OwnK 9 1 stE w A c xs) (hlen : (Lib.join xs [44, 32]).length ≤ 140737488355328) (hN : n ≤ 1000000) :
    Calls Tryd.prog 37 #[.slice A n c, .string ⟨#[44, 32]⟩] w fun e w' => e = .returned (.string (S (Lib.join xs [44, 32]))) ∧ Touch [] w w' := by
  subst hn
  rcases h.head with ⟨rfl, rfl, rfl⟩ | ⟨g, rfl⟩
  · refine (Tryd.strings_Join_none _ _ _ w).mono ?_
    rintro e w' ⟨rfl, rfl⟩
    exact ⟨rfl, Touch.refl _ _⟩
  · have hg := h.lt g (by simp [fpo])
    have hle := h.le
    have hj : (xs.map fun p => S p).map (·.data.toList) = xs := by
      rw [List.map_map]
      conv => rhs; rw [← List.map_id xs]
      exact List.map_congr_left fun p _ => by simp [S]
    have := Tryd.strings_Join g 0 c (xs.map fun p => S p) ⟨#[44, 32]⟩ w (fun j x hx => by
      rw [List.getElem?_map] at hx
      obtain ⟨p, hp, rfl⟩ := Option.map_eq_some_iff.1 hx
      have hjl := (List.getElem?_eq_some_iff.1 hp).1
      obtain ⟨ad, b, off, e1, e2, _, e3⟩ := RdK.at_ h.rd 1 stE_length (by omega) j hjl
      injection e1 with e1
      subst e1
      have e4 : (⟨g, 0, none⟩ : Addr).add (j * 1) = ⟨g, 0 + j, none⟩ := by unfold Addr.add; split <;> simp_all
      rw [e4] at e2
      cases e2
      have e5 : xs[j] = p := by rw [List.getElem?_eq_getElem hjl] at hp; exact Option.some.inj hp
      rw [e5] at e3
      exact e3 0 _ rfl) hg (by rw [List.length_map]; omega) (by rw [List.length_map]; exact hle) (by rw [hj]; exact hlen)
    rw [List.length_map, hj] at this
    refine this.mono ?_
    rintro e w' ⟨rfl, hb⟩
    exact ⟨rfl, Touch.of_below hb []⟩

set_option maxRecDepth 20000 in
set_option maxHeartbeats 6400000 in
theorem show_any (A : Option Addr) (cap n : Nat) (cs : List CD) (hn : cs.length = n) (hok : ∀ c ∈ cs, c.Ok) (w : World) (h : ColsAt w A cs) (hG : Gs w) (hl : n ≤ 140737000000000) :
    Calls Tryd.prog 16 #[.slice A n cap] w fun e w' => e = .returned (.string (S (showV cs))) ∧ Touch [] w w' := by
  subst hn
  have hchk := check_any A cap cs.length cs rfl hok w h (by omega)
  by_cases hc : checkV cs = 0
  · obtain ⟨h1, h16, hz⟩ := check_zero hc
    have hpl := parts_length hc
    have hsv : showV cs = 40 :: (Lib.join (cs.map partV) [44, 32] ++ [41]) := by unfold showV; rw [if_pos hc]; rfl
    rw [hc] at hchk
    have Hz := Lib.hid hz; have Hpl := Lib.hid hpl; have Hchk := Lib.hid hchk; have Hsv := Lib.hid hsv
    clear hz hpl hchk hc hsv
    go_enter Tryd.func16, Tryd.ntmps16
    go_wp2_with (go_at_call 19; refine Hchk.out.mono ?_; rintro e w1 ⟨rfl, t1⟩)
    clear Hchk
    go_loopw [3, 11] (fun v i wr => ∃ (k : Nat) (A' : Option Addr) (c' : Nat), k ≤ cs.length ∧ i = .int .i64 k ∧ v = .slice A' k c' ∧ Made 9 1 stE ((cs.take k).map partV) A' c' w wr) (fun _ i _ => cs.length - (intOf i).toNat)
    case atStart => exact ⟨0, none, 0, by omega, rfl, rfl, ⟨OwnK.nil _ _ _ _, t1, by simp [fpo]⟩⟩
    case round =>
      clear t1
      obtain ⟨k, A', c', hk, rfl, rfl, hmd⟩ := hrel
      have ht := hmd.t
      by_cases hlt : k < cs.length
      · obtain ⟨ad, b, off, rfl, hadd, c0, c1⟩ := (h.touch0 ht).at_ k hlt
        have hzk := Hz.out k hlt
        have hsn : (cs.take (k + 1)).map partV = (cs.take k).map partV ++ [partV cs[k]] := by rw [List.take_succ_eq_append_getElem hlt, List.map_append]; rfl
        obtain ⟨c, hce⟩ : ∃ c, c = cs[k] := ⟨_, rfl⟩
        rw [← hce] at c0 c1 hsn hzk
        have Hsn := Lib.hid hsn; have Hlen := Lib.hid (show ((cs.take k).map partV).length = k by rw [List.length_map, List.length_take]; omega)
        clear hce hsn
        obtain ⟨hnm, htp⟩ := hzk
        have hnl := nameV_length hnm
        rw [size_toList] at hnl
        obtain ⟨nm, ty⟩ := c
        simp only at c0 c1 hnl htp hnm
        clear hnm
        obtain ⟨t, rfl⟩ : ∃ t, nm = S t := ⟨_, (S_of _).symm⟩
        rw [S_size] at hnl
        have hG1 := hG.touch0 ht
        have g1 := hG1.w1
        have g2 := hG1.w2
        have hlo := hmd.own.lt
        have z1 : (S t).size + (ByteArray.mk #[32]).size ≤ 9223372036854775807 := by rw [S_size]; show _ + 1 ≤ _; omega
        have y1 : (S t ++ ByteArray.mk #[32]).size = t.length + 1 := by rw [show ByteArray.mk #[32] = S [32] from rfl, S_app, S_size]; simp
        have z2 : (S t ++ ByteArray.mk #[32]).size + (ByteArray.mk #[105, 110, 116]).size ≤ 9223372036854775807 := by rw [y1]; show _ + 3 ≤ _; omega
        have z3 : (S t ++ ByteArray.mk #[32]).size + (ByteArray.mk #[116, 101, 120, 116]).size ≤ 9223372036854775807 := by rw [y1]; show _ + 4 ≤ _; omega
        have q1 : (9223372036854775807 < (S t).size + 1) = False := eq_false (by rw [S_size]; omega)
        have q2 : (9223372036854775807 ≤ (S t).size) = False := eq_false (by rw [S_size]; omega)
        have q3 : (9223372036854775807 < (S t).size + 1 + 3) = False := eq_false (by rw [S_size]; omega)
        have q4 : (9223372036854775807 < (S t).size + 1 + 4) = False := eq_false (by rw [S_size]; omega)
        have q5 : (9223372036854775804 ≤ (S t).size) = False := eq_false (by rw [S_size]; omega)
        have q6 : (9223372036854775803 ≤ (S t).size) = False := eq_false (by rw [S_size]; omega)
        have hpt : partV ⟨S t, ty⟩ = t ++ 32 :: wordV ty := by unfold partV; rw [S_toList]
        have Hpt := Lib.hid hpt; clear hpt y1
        have hb := heap_alloc_new wr (.cells #[.string (S t), .int .i64 ty] 38)
        have tb := (Touch.refl [] wr).alloc (.cells #[.string (S t), .int .i64 ty] 38)
        have e0 := cell_blk hb (i := 0) rfl
        have e1 := cell_blk hb (i := 1) rfl
        have g1b := tb.cell g1 (by simp)
        have g2b := tb.cell g2 (by simp)
        have hown := hmd.own.touch0 tb
        obtain ⟨W, hW⟩ : ∃ W, W = wr.alloc (.cells #[.string (S t), .int .i64 ty] 38) := ⟨_, rfl⟩
        have hWs : W.heap.size = wr.heap.size + 1 := by rw [hW, World.size_alloc]
        have HW := Lib.hid hW
        rw [← hW] at e0 e1 g1b g2b tb hown
        have hmd2 := hmd.touch0 tb
        clear hW hb g1 g2
        have hn1 : wr.heap.size ∉ fpo A' := fun hm => by have := hlo _ hm; omega
        have hn2 : (0 : Nat) ∉ fpo A' := fun hm => by
          have h5 := hmd.f _ hm
          have h6 := World.block_lt_of_cell? w _ hG.w0
          simp only at h6
          omega
        rcases htp with rfl | rfl
        · have hcs : (#[Value.string (S t ++ ByteArray.mk #[32] ++ ByteArray.mk #[105, 110, 116])] : Array Value).toList = stE (partV ⟨S t, 1⟩) := by
            rw [Hpt.out, show ByteArray.mk #[32] = S [32] from rfl, show ByteArray.mk #[105, 110, 116] = S [105, 110, 116] from rfl, S_app, S_app]
            simp [stE, wordV]
          have hrd := RdK.one (enc := stE) W 9 (partV ⟨S t, 1⟩) _ hcs
          have ta := ((Touch.refl [] W).alloc (.cells #[.string (S t ++ ByteArray.mk #[32] ++ ByteArray.mk #[105, 110, 116])] 9)).drew
          rw [hWs] at hrd
          have Hrd := Lib.hid hrd; clear hcs hrd
          go_wp2
          rw [← HW.out]
          go_region_held3 (fun w' => w'.cell? ⟨wr.heap.size, 0, none⟩ = some (.string (S t)) ∧ w'.cell? ⟨wr.heap.size, 1, none⟩ = some (.int .i64 1) ∧ w'.cell? ⟨0, 1, none⟩ = some (.string ⟨#[105, 110, 116]⟩))
            (first | exact ⟨e0, e1, g1b⟩ | exact ⟨ta.cell e0 (by simp), ta.cell e1 (by simp), ta.cell g1b (by simp)⟩ | exact ⟨ht3.cell (ta.cell e0 (by simp)) hn1, ht3.cell (ta.cell e1 (by simp)) hn1, ht3.cell (ta.cell g1b (by simp)) hn2⟩)
            ((refine step_appK rfl (.tmp 15) (.tmp 24) 35 rfl 9 _ 1 16 info_str Tryd.underlying35 rfl (by omega) stE_length stE_one A' k c' _ Hlen.out rfl (by exact hown.touch0 ta) (some ⟨wr.heap.size + 1, 0, none⟩) 1 1 [partV ⟨S t, 1⟩] rfl rfl (by exact Hrd.out) (by omega) (by omega) ?_; intro A3 c3 w3 hown3 ht3 hf3))
          go_wp2
          go_roundw
          case rel => exact ⟨k + 1, A3, c3, by omega, by go_num, rfl, by rw [Hsn.out]; exact (hmd2.touch0 ta).step hown3 ht3 hf3⟩
          case measure => simp [intOf]; omega
        · have hcs : (#[Value.string (S t ++ ByteArray.mk #[32] ++ ByteArray.mk #[116, 101, 120, 116])] : Array Value).toList = stE (partV ⟨S t, 2⟩) := by
            rw [Hpt.out, show ByteArray.mk #[32] = S [32] from rfl, show ByteArray.mk #[116, 101, 120, 116] = S [116, 101, 120, 116] from rfl, S_app, S_app]
            simp [stE, wordV]
          have hrd := RdK.one (enc := stE) W 9 (partV ⟨S t, 2⟩) _ hcs
          have ta := ((Touch.refl [] W).alloc (.cells #[.string (S t ++ ByteArray.mk #[32] ++ ByteArray.mk #[116, 101, 120, 116])] 9)).drew
          rw [hWs] at hrd
          have Hrd := Lib.hid hrd; clear hcs hrd
          go_wp2
          rw [← HW.out]
          go_region_held3 (fun w' => w'.cell? ⟨wr.heap.size, 0, none⟩ = some (.string (S t)) ∧ w'.cell? ⟨wr.heap.size, 1, none⟩ = some (.int .i64 2) ∧ w'.cell? ⟨0, 2, none⟩ = some (.string ⟨#[116, 101, 120, 116]⟩))
            (first | exact ⟨e0, e1, g2b⟩ | exact ⟨ta.cell e0 (by simp), ta.cell e1 (by simp), ta.cell g2b (by simp)⟩ | exact ⟨ht3.cell (ta.cell e0 (by simp)) hn1, ht3.cell (ta.cell e1 (by simp)) hn1, ht3.cell (ta.cell g2b (by simp)) hn2⟩)
            ((refine step_appK rfl (.tmp 15) (.tmp 24) 35 rfl 9 _ 1 16 info_str Tryd.underlying35 rfl (by omega) stE_length stE_one A' k c' _ Hlen.out rfl (by exact hown.touch0 ta) (some ⟨wr.heap.size + 1, 0, none⟩) 1 1 [partV ⟨S t, 2⟩] rfl rfl (by exact Hrd.out) (by omega) (by omega) ?_; intro A3 c3 w3 hown3 ht3 hf3))
          go_wp2
          go_roundw
          case rel => exact ⟨k + 1, A3, c3, by omega, by go_num, rfl, by rw [Hsn.out]; exact (hmd2.touch0 ta).step hown3 ht3 hf3⟩
          case measure => simp [intOf]; omega
      · obtain rfl : k = cs.length := by omega
        rw [List.take_length] at hmd
        have hlj := Hpl.out cs.length
        rw [List.take_length] at hlj
        obtain ⟨J, hJ⟩ : ∃ J, J = Lib.join (cs.map partV) [44, 32] := ⟨_, rfl⟩
        have hjo := join_own A' c' cs.length (cs.map partV) (by rw [List.length_map]) wr hmd.own (by omega) (by omega)
        rw [← hJ] at hlj hjo
        have Hjo := Lib.hid hjo; have HJ := Lib.hid hJ
        clear hjo hJ
        have q1 : (ByteArray.mk #[40]).size + (S J).size ≤ 9223372036854775807 := by rw [S_size]; show 1 + _ ≤ _; omega
        have y1 : ByteArray.mk #[40] ++ S J = S (40 :: J) := by rw [show ByteArray.mk #[40] = S [40] from rfl, S_app]; rfl
        have q2 : (ByteArray.mk #[40] ++ S J).size + (ByteArray.mk #[41]).size ≤ 9223372036854775807 := by rw [y1, S_size]; show (J.length + 1) + 1 ≤ _; omega
        have Hy := Lib.hid y1; clear y1
        go_wp2_with fail
        refine Hjo.out.mono ?_
        rintro e w2 ⟨rfl, t2⟩
        go_wp2
        go_ret
        refine ⟨ret_str ?_, ht.trans0 t2⟩
        rw [Hy.out, show ByteArray.mk #[41] = S [41] from rfl, S_app, Hsv.out, HJ.out]; rfl
  · have Hchk := Lib.hid hchk; have Hsv := Lib.hid (show showV cs = [] by unfold showV; rw [if_neg hc])
    obtain ⟨E, hE⟩ : ∃ E, E = checkV cs := ⟨_, rfl⟩
    have HE := Lib.hid hE
    have hq : (E == 0) = false := by rw [beq_eq_false_iff_ne, hE]; exact hc
    have hq' : (E != 0) = true := by rw [bne, hq]; rfl
    clear hchk hc hE
    go_enter Tryd.func16, Tryd.ntmps16
    go_wp2_with (go_at_call 19; refine Hchk.out.mono ?_; rintro e w1 ⟨rfl, t1⟩; rw [← HE.out])
    go_ret
    exact ⟨ret_str (by rw [Hsv.out]; rfl), t1⟩
end Go.Proofs.YtngoiphknffplaaDoor
