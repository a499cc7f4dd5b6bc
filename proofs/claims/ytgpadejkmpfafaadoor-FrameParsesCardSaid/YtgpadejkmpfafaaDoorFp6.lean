/- Part 6 of the texts of this proof, one behind the other; each begins with its own sentence. No condition beyond those that its theorems state. -/
import Derived.Test.YtgpadejkmpfafaaDoorFp5
import Derived.SliceStrings
import Derived.OrdersHeld
import Derived.Deep.RegionHeld3
/- bywashref07.Table: a table's bytes, as the document says. For every table within bounds. -/
namespace Go.Proofs.YtgpadejkmpfafaaDoor
open Go.RowKit

def encC (c : CD) : List UInt8 := encT c.name ++ encI c.typ
def encTab (cs : List CD) (rows : List (List VD)) : List UInt8 := encI cs.length ++ (cs.flatMap encC ++ (encI rows.length ++ rows.flatMap fun r => r.flatMap encV))
theorem flat_len {α : Type} (f : α → List UInt8) (m : Nat) (xs : List α) (h : ∀ x ∈ xs, (f x).length ≤ m) : (xs.flatMap f).length ≤ xs.length * m := by
  induction xs with
  | nil => simp
  | cons x xs ih =>
    rw [List.flatMap_cons, List.length_append, List.length_cons, Nat.add_mul]
    have h1 := h x List.mem_cons_self
    have h2 := ih fun y hy => h y (List.mem_cons_of_mem _ hy)
    omega
theorem encC_len (c : CD) (h : c.name.size ≤ 1000) : (encC c).length ≤ 1018 := by
  unfold encC
  have h1 := encT_length c.name
  have h2 := encI_length c.name.size
  have h3 := encI_length c.typ
  rw [List.length_append]
  omega
theorem encV_len (v : VD) (h : v.text.size ≤ 1000) : (encV v).length ≤ 1018 := by
  unfold encV
  have h1 := encT_length v.text
  have h2 := encI_length v.text.size
  have h3 := encI_length v.kind
  have h4 := encI_length v.num
  simp only [List.length_append]
  split
  · omega
  · split
    · omega
    · simp only [List.length_nil]; omega
/-- bytes that were made behind a world -/
structure MB (w : World) (A : Option Addr) (c : Nat) (l : List UInt8) (w' : World) : Prop where
  own : OwnB w' A c l
  t : Touch [] w w'
  f : ∀ b ∈ fpo A, w.heap.size ≤ b
theorem MB.touch0 {w w1 w2 : World} {A : Option Addr} {c : Nat} {l : List UInt8} (h : MB w A c l w1) (ht : Touch [] w1 w2) : MB w A c l w2 := ⟨h.own.touch0 ht, h.t.trans0 ht, h.f⟩
theorem MB.step {w w1 w2 : World} {A A' : Option Addr} {c c' : Nat} {l l' : List UInt8} (h : MB w A c l w1) (h2 : OwnB w2 A' c' l') (t2 : Touch (fpo A) w1 w2) (f2 : ∀ b ∈ fpo A', b ∈ fpo A ∨ w1.heap.size ≤ b) : MB w A' c' l' w2 :=
  ⟨h2, h.t.trans t2 (fun b hb => .inr (h.f b hb)), fun b hb => by
    rcases f2 b hb with e | e
    · exact h.f b e
    · have := h.t.size; omega⟩

set_option maxRecDepth 20000 in
set_option maxHeartbeats 3200000 in
theorem refTable_any (A B : Option Addr) (c1 c2 n m : Nat) (cs : List CD) (rows : List (List VD)) (hn : cs.length = n) (hm : rows.length = m) (hc : n ≤ 20 ∧ ∀ c ∈ cs, c.Ok ∧ c.name.size ≤ 1000) (hr : m ≤ 4096 ∧ ∀ r ∈ rows, r.length ≤ 20 ∧ ∀ v ∈ r, v.Ok 140737000000000 ∧ v.text.size ≤ 1000) (w : World) (h : ColsAt w A cs) (h2 : RowsAt w B rows) :
    Calls Tryd.prog 48 #[.slice A n c1, .slice B m c2] w fun e w' => ∃ A' c', e = .returned (.slice A' (encTab cs rows).length c') ∧ MB w A' c' (encTab cs rows) w' := by
  subst hn hm
  obtain ⟨hc1, hc2⟩ := hc
  obtain ⟨hr1, hr2⟩ := hr
  have hlC : ∀ k, ((cs.take k).flatMap encC).length ≤ 20 * 1018 := fun k => by
    have := flat_len encC 1018 (cs.take k) (fun c hcm => encC_len c (hc2 c (List.mem_of_mem_take hcm)).2)
    have h3 : (cs.take k).length ≤ 20 := by rw [List.length_take]; omega
    have := Nat.mul_le_mul_right 1018 h3
    omega
  have hIc := encI_length cs.length
  have hlV : ∀ r ∈ rows, ∀ k, ((r.take k).flatMap encV).length ≤ 20 * 1018 := fun r hrm k => by
    have := flat_len encV 1018 (r.take k) (fun c hcm => encV_len c ((hr2 r hrm).2 c (List.mem_of_mem_take hcm)).2)
    have h3 : (r.take k).length ≤ 20 := by rw [List.length_take]; have := (hr2 r hrm).1; omega
    have := Nat.mul_le_mul_right 1018 h3
    omega
  have hlR : ∀ k, ((rows.take k).flatMap fun r => r.flatMap encV).length ≤ 4096 * 20360 := fun k => by
    have a1 := flat_len (fun r => r.flatMap encV) 20360 (rows.take k) (fun r hrm => by
      have := hlV r (List.mem_of_mem_take hrm) r.length
      rw [List.take_length] at this
      exact Nat.le_trans this (by decide))
    have h3 : (rows.take k).length ≤ 4096 := by rw [List.length_take]; omega
    exact Nat.le_trans a1 (Nat.mul_le_mul_right 20360 h3)
  have HlV := Lib.hid hlV; have HlR := Lib.hid hlR
  have HlC := Lib.hid hlC
  clear hlV hlR
  clear hlC
  go_enter Tryd.func48, Tryd.ntmps48
  go_wp2_with fail
  refine (refInt_any cs.length (by omega) (by omega) w).mono ?_
  rintro e w1 ⟨A1, d1, rfl, hown1, ht1, hf1⟩
  go_wp2
  go_loopw [5, 6] (fun v i wr => ∃ (k : Nat) (A' : Option Addr) (c' : Nat) (l : List UInt8), k ≤ cs.length ∧ i = .int .i64 k ∧ v = .slice A' l.length c' ∧ Hid (l = encI cs.length ++ (cs.take k).flatMap encC) ∧ MB w A' c' l wr) (fun _ i _ => cs.length - (intOf i).toNat)
  case atStart => exact ⟨0, A1, d1, encI cs.length, by omega, rfl, rfl, Lib.hid (by simp), hown1, ht1, hf1⟩
  case round =>
    obtain ⟨k, A', c', l, hk, rfl, rfl, Hl, hmb⟩ := hrel
    have hll : l.length ≤ 30000 := by
      have h3 := HlC.out k
      rw [Hl.out, List.length_append]; omega
    by_cases hlt : k < cs.length
    · obtain ⟨ad, b, off, rfl, hadd, f0, f1⟩ := h.at_ k hlt
      have hco := hc2 _ (List.getElem_mem hlt)
      have hsn : (cs.take (k + 1)).flatMap encC = (cs.take k).flatMap encC ++ (encT cs[k].name ++ encI cs[k].typ) := by rw [List.take_succ_eq_append_getElem hlt, List.flatMap_append]; simp [encC]
      obtain ⟨c, hce⟩ : ∃ c, c = cs[k] := ⟨_, rfl⟩
      rw [← hce] at f0 f1 hco hsn
      obtain ⟨nm, ty⟩ := c
      simp only at f0 f1
      obtain ⟨⟨hn1, hty1, hty2⟩, hn2⟩ := hco
      simp only at hn1 hty1 hty2 hn2
      have Hsn := Lib.hid hsn
      have hLt : (encT nm).length ≤ 9 + nm.size := by
        have q1 := encT_length nm
        have q2 := encI_length nm.size
        omega
      have hLy := encI_length ty
      have hkI : (k : Int) < (cs.length : Int) := by omega
      have e0 := hmb.t.cell f0 (by simp)
      have F1 := Lib.hid f1
      clear hsn hce f0 f1
      go_wp2_with fail
      refine (refText_any nm (by omega) _).mono ?_
      rintro e w2 ⟨A2, d2, rfl, hown2, ht2, hf2⟩
      have hmb2 := hmb.touch0 ht2
      go_wp2_with (at_builtin; refine stop ?_)
      refine go ?_
      refine wpList_appB rfl (.tmp 18) (.tmp 24) rfl A' l.length c' l rfl rfl hmb2.own A2 (encT nm).length d2 (encT nm) rfl rfl hown2.rd (by omega) ?_
      intro A3 d3 w3 hown3 ht3 hf3
      have hmb3 := hmb2.step hown3 ht3 (fun b hb => by
        rcases hf3 b hb with e | e
        · exact .inl e
        · exact .inr (by omega))
      have e1 := hmb3.t.cell F1.out (by simp)
      obtain ⟨l3, hl3⟩ : ∃ l3, l3 = l ++ encT nm := ⟨_, rfl⟩
      have hl3n : l.length + (encT nm).length = l3.length := by rw [hl3, List.length_append]
      rw [← hl3] at hmb3
      rw [hl3n]
      have hl3b : l3.length ≤ 40000 := by omega
      have Hl3 := Lib.hid hl3
      clear hl3 hl3n hown3 ht3 hf3 hmb2
      go_wp2_with fail
      refine (refInt_any ty hty1 hty2 _).mono ?_
      rintro e w4 ⟨A4, d4, rfl, hown4, ht4, hf4⟩
      have hmb4 := hmb3.touch0 ht4
      go_wp2_with (at_builtin; refine stop ?_)
      refine go ?_
      refine wpList_appB rfl (.tmp 26) (.tmp 32) rfl A3 l3.length d3 l3 rfl rfl hmb4.own A4 (encI ty).length d4 (encI ty) rfl rfl hown4.rd (by omega) ?_
      intro A5 d5 w5 hown5 ht5 hf5
      have hmb5 := hmb4.step hown5 ht5 (fun b hb => by
        rcases hf5 b hb with e | e
        · exact .inl e
        · exact .inr (by omega))
      have hl5 : l3.length + (encI ty).length = (l3 ++ encI ty).length := by rw [List.length_append]
      rw [hl5]
      clear hl5
      go_wp2
      go_roundw
      case rel => exact ⟨k + 1, A5, d5, l3 ++ encI ty, by omega, by go_num, by simp, Lib.hid (by rw [Hsn.out, Hl3.out, Hl.out]; simp), hmb5⟩
      case measure => simp [intOf]; omega
    · obtain rfl : k = cs.length := by omega
      rw [List.take_length] at Hl
      have hIm := encI_length rows.length
      go_wp2_with fail
      refine (refInt_any rows.length (by omega) (by omega) _).mono ?_
      rintro e w2 ⟨A2, d2, rfl, hown2, ht2, hf2⟩
      have hmb2 := hmb.touch0 ht2
      go_wp2_with (at_builtin; refine stop ?_)
      refine go ?_
      refine wpList_appB rfl (.tmp 34) (.tmp 37) rfl A' l.length c' l rfl rfl hmb2.own A2 (encI rows.length).length d2 (encI rows.length) rfl rfl hown2.rd (by omega) ?_
      intro A3 d3 w3 hown3 ht3 hf3
      have hmb3 := hmb2.step hown3 ht3 (fun b hb => by
        rcases hf3 b hb with e | e
        · exact .inl e
        · exact .inr (by omega))
      obtain ⟨l3, hl3⟩ : ∃ l3, l3 = l ++ encI rows.length := ⟨_, rfl⟩
      have hl3n : l.length + (encI rows.length).length = l3.length := by rw [hl3, List.length_append]
      rw [← hl3] at hmb3
      rw [hl3n]
      have hl3b : l3.length ≤ 40000 := by omega
      have Hl3 := Lib.hid hl3
      clear hl3 hl3n hown3 ht3 hf3 hmb2 hmb hll
      go_wp2
      go_loopw [5, 7] (fun v i wr => ∃ (q : Nat) (A' : Option Addr) (c' : Nat) (l4 : List UInt8), q ≤ rows.length ∧ i = .int .i64 q ∧ v = .slice A' l4.length c' ∧ Hid (l4 = l3 ++ (rows.take q).flatMap fun r => r.flatMap encV) ∧ MB w A' c' l4 wr) (fun _ i _ => rows.length - (intOf i).toNat)
      case atStart => exact ⟨0, A3, d3, l3, by omega, rfl, rfl, Lib.hid (by simp), hmb3⟩
      case round =>
        obtain ⟨q, A5, d5, l4, hq, rfl, rfl, Hl4, hmb5⟩ := hrel
        have hl4b : l4.length ≤ 84000000 := by
          have h3 := HlR.out q
          rw [Hl4.out, List.length_append]; omega
        by_cases hltq : q < rows.length
        · obtain ⟨bd, RA, rc, rfl, r0, hrv⟩ := h2.at_ q hltq
          have hro := hr2 _ (List.getElem_mem hltq)
          have hlv := HlV.out _ (List.getElem_mem hltq)
          have hsn : (rows.take (q + 1)).flatMap (fun r => r.flatMap encV) = ((rows.take q).flatMap fun r => r.flatMap encV) ++ (rows[q]).flatMap encV := by rw [List.take_succ_eq_append_getElem hltq, List.flatMap_append]; simp
          obtain ⟨r, hre⟩ : ∃ r, r = rows[q] := ⟨_, rfl⟩
          rw [← hre] at r0 hrv hro hlv hsn
          have Hsn := Lib.hid hsn; have Hlv := Lib.hid hlv
          have R0 := Lib.hid r0
          have hqI : (q : Int) < (rows.length : Int) := by omega
          clear hsn hre hlv r0
          go_wp2
          go_loopw [5, 8] (fun v i wr => ∃ (j : Nat) (A' : Option Addr) (c' : Nat) (l5 : List UInt8), j ≤ r.length ∧ i = .int .i64 j ∧ v = .slice A' l5.length c' ∧ Hid (l5 = l4 ++ (r.take j).flatMap encV) ∧ MB w A' c' l5 wr) (fun _ i _ => r.length - (intOf i).toNat)
          case atStart => exact ⟨0, A5, d5, l4, by omega, rfl, rfl, Lib.hid (by simp), hmb5⟩
          case round =>
            obtain ⟨j, A6, d6, l5, hj, rfl, rfl, Hl5, hmb6⟩ := hrel
            have hl5b : l5.length ≤ 85000000 := by
              have h3 := Hlv.out j
              rw [Hl5.out, List.length_append]; omega
            have r1 := hmb6.t.cell R0.out (by simp)
            by_cases hltj : j < r.length
            · obtain ⟨vd, vb, voff, rfl, hvadd, f0, f1, f2⟩ := hrv.at_ j hltj
              have hvo := hro.2 _ (List.getElem_mem hltj)
              have hsn : (r.take (j + 1)).flatMap encV = (r.take j).flatMap encV ++ encV r[j] := by rw [List.take_succ_eq_append_getElem hltj, List.flatMap_append]; simp
              obtain ⟨v, hve⟩ : ∃ v, v = r[j] := ⟨_, rfl⟩
              rw [← hve] at f0 f1 f2 hvo hsn
              have Hsv := Lib.hid hsn
              have hLv := encV_len v hvo.2
              have g0 := hmb6.t.cell f0 (by simp)
              have g1 := hmb6.t.cell f1 (by simp)
              have g2 := hmb6.t.cell f2 (by simp)
              have hjI : (j : Int) < (r.length : Int) := by omega
              have hval := fun w' => refValue_any v hvo.1 w'
              have Hval := Lib.hid hval
              clear hsn hve f0 f1 f2 hval
              obtain ⟨k1, n1, s1⟩ := v
              simp only [VD.val] at Hval g0 g1 g2
              go_wp2_with fail
              refine (Hval.out _).mono ?_
              rintro e w7 ⟨A7, d7, rfl, hown7, ht7, hf7⟩
              have hmb7 := hmb6.touch0 ht7
              go_wp2_with (at_builtin; refine stop ?_)
              refine go ?_
              refine wpList_appB rfl (.tmp 54) (.tmp 62) rfl A6 l5.length d6 l5 rfl rfl hmb7.own A7 (encV ⟨k1, n1, s1⟩).length d7 (encV ⟨k1, n1, s1⟩) rfl rfl hown7.rd (by omega) ?_
              intro A8 d8 w8 hown8 ht8 hf8
              have hmb8 := hmb7.step hown8 ht8 (fun b hb => by
                rcases hf8 b hb with e | e
                · exact .inl e
                · exact .inr (by omega))
              have hl6 : l5.length + (encV ⟨k1, n1, s1⟩).length = (l5 ++ encV ⟨k1, n1, s1⟩).length := by rw [List.length_append]
              rw [hl6]
              clear hl6
              go_wp2
              go_roundw
              case rel => exact ⟨j + 1, A8, d8, l5 ++ encV ⟨k1, n1, s1⟩, by omega, by go_num, by simp, Lib.hid (by rw [Hsv.out, Hl5.out]; simp), hmb8⟩
              case measure => simp [intOf]; omega
            · obtain rfl : j = r.length := by omega
              rw [List.take_length] at Hl5
              go_wp2
              go_roundw
              case rel => exact ⟨q + 1, A6, d6, l5, by omega, by go_num, rfl, Lib.hid (by rw [Hsn.out, Hl5.out, Hl4.out]; simp), hmb6⟩
              case measure => simp [intOf]; omega
        · obtain rfl : q = rows.length := by omega
          rw [List.take_length] at Hl4
          have Hfin := Lib.hid (show l4 = encTab cs rows by rw [Hl4.out, Hl3.out, Hl.out]; unfold encTab; simp only [List.append_assoc])
          go_wp2
          go_ret
          exact ⟨A5, d5, by rw [← Hfin.out]; rfl, by rw [← Hfin.out]; exact hmb5⟩
end Go.Proofs.YtgpadejkmpfafaaDoor

/- bywashlaw07.ref, tableBytes: a table's bytes, as the document says. For every table within bounds. -/
namespace Go.Proofs.YtgpadejkmpfafaaDoor
open Go.RowKit

set_option maxRecDepth 20000 in
theorem ref07_any (v : VD) (w : World) : Calls Tryd.prog 34 #[v.val] w fun e w' => e = .returned v.val ∧ Touch [] w w' := by
  obtain ⟨k, n, s⟩ := v
  dsimp only [VD.val]
  go_enter Tryd.func34, Tryd.ntmps34
  have t0 := ((Touch.refl [] w).alloc (.cells #[.int .i64 k, .int .i64 n, .string s] 59)).alloc (.cells #[.int .i64 k, .int .i64 n, .string s] 65)
  have hb := heap_alloc_new (w.alloc (.cells #[.int .i64 k, .int .i64 n, .string s] 59)) (.cells #[.int .i64 k, .int .i64 n, .string s] 65)
  rw [World.size_alloc] at hb
  go_wp2_with fail
  (try simp only [Exit.inBlock, Exit.then])
  refine bodyPost_ret (results_cell_row rfl _ _ (w.heap.size + 1) _ _ _ _ rfl hb Tryd.underlying65 rfl rfl) rfl ?_
  exact ⟨rfl, t0⟩

theorem info_rcol7 : (Tryd.prog.info? 88).map (fun i => (i.zero, i.size, i.bytes)) = some (some (.agg #[.string ⟨#[]⟩, .int .i64 0]), 2, 24) := by kernel_rfl
theorem info_rval7 : (Tryd.prog.info? 65).map (fun i => (i.zero, i.size, i.bytes)) = some (some (.agg #[.int .i64 0, .int .i64 0, .string ⟨#[]⟩]), 3, 32) := by kernel_rfl
theorem info_row7 : (Tryd.prog.info? 91).map (fun i => (i.zero, i.size, i.bytes)) = some (some (.slice none 0 0), 1, 24) := by kernel_rfl

set_option maxRecDepth 20000 in
set_option maxHeartbeats 3200000 in
theorem tableBytes_any (A B : Option Addr) (c1 c2 n m : Nat) (cs : List CD) (rows : List (List VD)) (hn : cs.length = n) (hm : rows.length = m) (hc : n ≤ 20 ∧ ∀ c ∈ cs, c.Ok ∧ c.name.size ≤ 1000) (hr : m ≤ 4096 ∧ ∀ r ∈ rows, r.length ≤ 20 ∧ ∀ v ∈ r, v.Ok 140737000000000 ∧ v.text.size ≤ 1000) (w : World) (h : ColsAt w A cs) (h2 : RowsAt w B rows) :
    Calls Tryd.prog 31 #[.agg #[.slice A n c1, .slice B m c2]] w fun e w' => ∃ A' c', e = .returned (.slice A' (encTab cs rows).length c') ∧ MB w A' c' (encTab cs rows) w' := by
  have Hrt := Lib.hid fun A1 B1 d1 d2 w' (r1 : ColsAt w' A1 cs) (r2 : RowsAt w' B1 rows) => refTable_any A1 B1 d1 d2 n m cs rows hn hm hc hr w' r1 r2
  obtain ⟨hc1, _⟩ := hc
  obtain ⟨hr1, hr2⟩ := hr
  subst hn hm
  go_enter Tryd.func31, Tryd.ntmps31
  have t0 := (Touch.refl [] w).alloc (.cells #[.slice A cs.length c1, .slice B rows.length c2] 56)
  have hbx := heap_alloc_new w (.cells #[.slice A cs.length c1, .slice B rows.length c2] 56)
  have Hbx := Lib.hid hbx
  clear hbx
  go_wp2
  go_loopw [3, 15] (fun v i wr => ∃ (k : Nat) (A' : Option Addr) (c' : Nat), k ≤ cs.length ∧ i = .int .i64 k ∧ v = .slice A' k c' ∧ Made 88 2 cdE (cs.take k) A' c' (w.alloc (.cells #[.slice A cs.length c1, .slice B rows.length c2] 56)) wr) (fun _ i _ => cs.length - (intOf i).toNat)
  case atStart => exact ⟨0, none, 0, by omega, rfl, rfl, Made.nil _ _ _ _⟩
  case round =>
    obtain ⟨k, A', c', hk, rfl, rfl, hmd⟩ := hrel
    have ht := t0.trans0 hmd.t
    by_cases hlt : k < cs.length
    · obtain ⟨ad, b, off, rfl, hadd, e0, e1⟩ := (h.touch0 ht).at_ k hlt
      have hsn := List.take_succ_eq_append_getElem hlt
      obtain ⟨c, hce⟩ : ∃ c, c = cs[k] := ⟨_, rfl⟩
      rw [← hce] at e0 e1 hsn
      have Hsn := Lib.hid hsn; have Hlen := Lib.hid (show (cs.take k).length = k by rw [List.length_take]; omega)
      clear hce hsn
      go_wp2_with (at_builtin; refine stop ?_)
      refine go ?_
      have tb := ((Touch.refl [] wr).alloc (.cells #[.string c.name, .int .i64 c.typ] 83)).alloc (.cells #[.string c.name, .int .i64 c.typ] 88)
      refine wpList_appK rfl (.tmp 19) (.tmp 25) 87 rfl 88 _ 2 24 info_rcol7 Tryd.underlying87 rfl (by omega) cdE_length cdE_one A' k c' (cs.take k) Hlen.out rfl (hmd.own.touch0 tb)
        (some ⟨wr.heap.size + 1, 0, none⟩) 1 1 [c] rfl rfl (by have := RdK.one (enc := cdE) (wr.alloc (.cells #[.string c.name, .int .i64 c.typ] 83)) 88 c #[.string c.name, .int .i64 c.typ] rfl; rwa [World.size_alloc] at this) (by omega) (by omega) ?_
      intro A3 c3 w3 hown3 ht3 hf3
      go_wp2
      go_roundw
      case rel => exact ⟨k + 1, A3, c3, by omega, by go_num, rfl, by rw [Hsn.out]; exact (hmd.touch0 tb).step hown3 ht3 hf3⟩
      case measure => simp [intOf]; omega
    · obtain rfl : k = cs.length := by omega
      rw [List.take_length] at hmd
      have x1 := hmd.t.cell (cell_blk Hbx.out (i := 1) (v := .slice B rows.length c2) rfl) (by simp)
      go_wp2
      go_loopw [6, 31] (fun v i w2 => ∃ (q : Nat) (B' : Option Addr) (cB : Nat), q ≤ rows.length ∧ i = .int .i64 q ∧ v = .slice B' q cB ∧ OwnR 91 (w.heap.size + 1) w2 B' cB (rows.take q) ∧ (∀ b ∈ fpo B', w.heap.size + 1 ≤ b) ∧ (∀ b ∈ fpo B', b ∉ fpo A') ∧
          Made 88 2 cdE cs A' c' (w.alloc (.cells #[.slice A cs.length c1, .slice B rows.length c2] 56)) w2) (fun _ i _ => rows.length - (intOf i).toNat)
      case atStart => exact ⟨0, none, 0, by omega, rfl, rfl, OwnR.nil _ _ _, by simp [fpo], by simp [fpo], hmd⟩
      case round =>
        obtain ⟨q, B', cB, hq, rfl, rfl, hown, hBf, hBA, hmd2⟩ := hrel
        have ht2 := t0.trans0 hmd2.t
        have hwsz := hmd2.t.size
        rw [World.size_alloc] at hwsz
        by_cases hltq : q < rows.length
        · obtain ⟨bd, RA, rc, rfl, r0, hrv⟩ := (h2.touch0 ht2).at_ q hltq
          have hro := hr2 _ (List.getElem_mem hltq)
          have hsn := List.take_succ_eq_append_getElem hltq
          obtain ⟨r, hre⟩ : ∃ r, r = rows[q] := ⟨_, rfl⟩
          rw [← hre] at r0 hrv hro hsn
          have Hsn := Lib.hid hsn
          have Hrl := Lib.hid (show (rows.take q).length = q by rw [List.length_take]; omega)
          have hro1 := hro.1
          clear hsn hre hro
          go_wp2
          go_loopw [9, 37] (fun v i w3 => ∃ (j : Nat) (C : Option Addr) (cC : Nat), j ≤ r.length ∧ i = .int .i64 j ∧ v = .slice C j cC ∧ Made 65 3 vdE (r.take j) C cC wr w3) (fun _ i _ => r.length - (intOf i).toNat)
          case atStart => exact ⟨0, none, 0, by omega, rfl, rfl, Made.nil _ _ _ _⟩
          case round =>
            obtain ⟨j, C, cC, hj, rfl, rfl, hmd3⟩ := hrel
            by_cases hltj : j < r.length
            · obtain ⟨vd, vb, voff, rfl, hvadd, f0, f1, f2⟩ := (hrv.touch0 hmd3.t).at_ j hltj
              have hsn := List.take_succ_eq_append_getElem hltj
              obtain ⟨v, hve⟩ : ∃ v, v = r[j] := ⟨_, rfl⟩
              rw [← hve] at f0 f1 f2 hsn
              have Hsv := Lib.hid hsn
              have Hvl := Lib.hid (show (r.take j).length = j by rw [List.length_take]; omega)
              have Hval := Lib.hid fun w' => ref07_any v w'
              clear hsn hve
              obtain ⟨k1, n1, s1⟩ := v
              simp only [VD.val] at Hval f0 f1 f2
              have ta := (Touch.refl [] wr).alloc (.cells #[.int .i64 k1, .int .i64 n1, .string s1] 59)
              go_wp2_with fail
              refine (Hval.out _).mono ?_
              rintro e w7 ⟨rfl, ht7⟩
              have tb := (Touch.refl [] w7).alloc (.cells #[.int .i64 k1, .int .i64 n1, .string s1] 65)
              have hmd7 := ((hmd3.touch0 ((Touch.refl [] _).alloc (.cells #[.int .i64 k1, .int .i64 n1, .string s1] 59))).touch0 ht7).touch0 tb
              go_wp2_with (at_builtin; refine stop ?_)
              refine go ?_
              refine wpList_appK rfl (.tmp 41) (.tmp 44) 91 rfl 65 _ 3 32 info_rval7 Tryd.underlying91 rfl (by omega) vdE_length vdE_one C j cC (r.take j) Hvl.out rfl hmd7.own
                (some ⟨w7.heap.size, 0, none⟩) 1 1 [⟨k1, n1, s1⟩] rfl rfl (RdK.one (enc := vdE) w7 65 ⟨k1, n1, s1⟩ #[.int .i64 k1, .int .i64 n1, .string s1] rfl) (by omega) (by omega) ?_
              intro C5 cC5 w9 hown9 ht9 hf9
              go_wp2
              go_roundw
              case rel => exact ⟨j + 1, C5, cC5, by omega, by go_num, rfl, by rw [Hsv.out]; exact hmd7.step hown9 ht9 hf9⟩
              case measure => simp [intOf]; omega
            · obtain rfl : j = r.length := by omega
              rw [List.take_length] at hmd3
              have hownq := hown.touch0 hmd3.t
              have hmdq := hmd2.touch0 hmd3.t
              go_wp2_with (at_builtin; refine stop ?_)
              refine go ?_
              refine wpList_appR rfl (.tmp 47) (.tmp 49) 89 rfl 91 info_row7 Tryd.underlying89 (w.heap.size + 1) B' q cB (rows.take q) Hrl.out rfl hownq C cC r hmd3.own.rd
                (fun b hb => ⟨fun hm => by have := hown.lt b hm; have := hmd3.f b hb; omega, hmd3.own.lt b hb, by have := hmd3.f b hb; omega⟩) 1 rfl (by omega) rfl ?_
              intro B5 cB5 w9 hown9 ht9 hf9
              have hA'lt := hmd2.own.lt
              have s3 := hmd3.t.size
              have hmd9 : Made 88 2 cdE cs A' c' (w.alloc (.cells #[.slice A cs.length c1, .slice (some bd) rows.length c2] 56)) w9 :=
                ⟨(hmdq.own.touch0 ((Touch.refl [] _).alloc (.cells #[.slice C r.length cC] 91))).touch ht9 (fun b hb hm => hBA b hm hb), (hmdq.t.alloc _).trans ht9 (fun b hb => .inr (by rw [World.size_alloc]; exact hBf b hb)), hmdq.f⟩
              go_wp2
              go_roundw
              case rel => exact ⟨q + 1, B5, cB5, by omega, by go_num, rfl, by rw [Hsn.out]; exact hown9, fun b hb => by
                  rcases hf9 b hb with e | e
                  · exact hBf b e
                  · omega, fun b hb hm => by
                  rcases hf9 b hb with e | e
                  · exact hBA b e hm
                  · have := hA'lt b hm; omega, hmd9⟩
              case measure => simp [intOf]; omega
        · obtain rfl : q = rows.length := by omega
          rw [List.take_length] at hown
          go_wp2_with fail
          refine (Hrt.out A' B' c' cB _ hmd2.own.rd hown.rowsAt).mono ?_
          rintro e w9 ⟨A9, c9, rfl, hmb⟩
          go_wp2
          go_ret
          exact ⟨A9, c9, rfl, hmb.own, ht2.trans0 hmb.t, fun b hb => by have := hmb.f b hb; omega⟩
end Go.Proofs.YtgpadejkmpfafaaDoor

/- value.plain, value.Value.Right: at texts of whatever size. For every value. -/
namespace Go.Proofs.YtgpadejkmpfafaaDoor
open Go.RowKit

set_option maxRecDepth 20000 in
set_option maxHeartbeats 800000 in
theorem plainW_any (t : List UInt8) (hs : t.length ≤ 9223372036854775807) (w : World) :
    Calls Tryd.prog 49 #[.string (S t)] w fun e w' => e = .returned (.bool (plainV t)) ∧ Touch [] w w' := by
  go_enter Tryd.func49, Tryd.ntmps49
  have hconv := run_bytes_of t w
  have hsz := S_size t
  have hr := rd_bytes w t
  have ht := touch_bytes w t
  obtain ⟨W, hW⟩ : ∃ W, W = Lib.bytesWorld w 5 (S t) := ⟨_, rfl⟩
  rw [← hW] at hconv hr ht
  clear hW
  go_wp2_with fail
  clear hconv
  go_loop [8] (fun i => ∃ k : Nat, k ≤ t.length ∧ i = .int .i64 k ∧ Hid ((t.take k).all okB = true)) (fun i => t.length - (intOf i).toNat)
  case atStart => exact ⟨0, by omega, rfl, Lib.hid rfl⟩
  case round =>
    obtain ⟨k, hk, rfl, hall⟩ := hrel
    by_cases hlt : k < t.length
    · obtain ⟨ad, e1, hcell⟩ := hr.at_ k hlt
      obtain rfl : ⟨w.heap.size, 0, none⟩ = ad := by injection e1
      obtain ⟨x, hx⟩ : ∃ x, x = t[k] := ⟨_, rfl⟩
      have hadd : (⟨w.heap.size, 0, none⟩ : Addr).add k = ⟨w.heap.size, k, none⟩ := by unfold Addr.add; split <;> simp_all
      rw [← hx, hadd] at hcell
      have hxl := x.toNat_lt
      have hbad : okB x = false → plainV t = false := fun h => by
        unfold plainV
        have : t.all okB = false := by
          rw [List.all_eq_false]
          exact ⟨t[k], List.getElem_mem hlt, by rw [← hx, h]; simp⟩
        rw [this]; rfl
      have hgood : okB x = true → (t.take (k + 1)).all okB = true := fun h => by
        rw [List.take_succ_eq_append_getElem hlt, List.all_append, hall.out, ← hx]
        simp [h]
      have Hb := Lib.hid hbad
      have Hg := Lib.hid hgood
      clear hbad hgood hx hall e1 hadd
      by_cases h1 : x.toNat < 32
      · have hz : ((x.toNat : Int) < 32) = True := eq_true (by omega)
        go_wp2
        go_ret
        exact ⟨by rw [Hb.out (by simp [okB]; omega)]; rfl, ht⟩
      have hz : ((x.toNat : Int) < 32) = False := eq_false (by omega)
      by_cases h2 : 126 < x.toNat
      · have hy : (126 < (x.toNat : Int)) = True := eq_true (by omega)
        go_wp2
        go_ret
        exact ⟨by rw [Hb.out (by simp [okB]; omega)]; rfl, ht⟩
      · have hy : (126 < (x.toNat : Int)) = False := eq_false (by omega)
        go_wp2
        go_round
        case rel => exact ⟨k + 1, by omega, by go_num, Lib.hid (Hg.out (by simp [okB]; omega))⟩
        case measure => simp [intOf]; omega
    · obtain rfl : k = t.length := by omega
      have hfin : plainV t = decide ((t.length : Int) ≤ 64) := by
        have h := hall.out
        rw [List.take_length] at h
        unfold plainV
        rw [h, Bool.true_and]
        exact decide_eq_decide.2 (by omega)
      have Hf := Lib.hid hfin
      clear hfin hall
      go_wp2
      go_ret
      exact ⟨by rw [Hf.out]; rfl, ht⟩
set_option maxRecDepth 20000 in
set_option maxHeartbeats 800000 in
theorem rightW_any (v : VD) (hs : v.text.size ≤ 9223372036854775807) (w : World) :
    Calls Tryd.prog 32 #[v.val] w fun e w' => e = .returned (.bool v.right) ∧ Touch [] w w' := by
  obtain ⟨k, n, s⟩ := v
  dsimp only [VD.val] at *
  go_enter Tryd.func32, Tryd.ntmps32
  have t0 := (Touch.refl [] w).alloc (.cells #[.int .i64 k, .int .i64 n, .string s] 59)
  have hp := plainW_any s.data.toList (by rw [size_toList]; exact hs) (w.alloc (.cells #[.int .i64 2, .int .i64 0, .string s] 59))
  rw [S_of] at hp
  have Hp := Lib.hid hp
  clear hp
  by_cases h0 : k = 0
  · subst h0
    by_cases hn : n = 0
    · subst hn
      go_wp2_with fail
      go_ret
      exact ⟨rfl, t0⟩
    · have hne : (n == 0) = false := by simpa using hn
      have hr : VD.right ⟨0, n, s⟩ = false := by simp [VD.right, hn]
      have Hr := Lib.hid hr
      clear hr
      go_wp2_with fail
      go_ret
      exact ⟨by rw [Hr.out]; rfl, t0⟩
  by_cases h1 : k = 1
  · subst h1
    go_wp2_with fail
    go_ret
    exact ⟨rfl, t0⟩
  by_cases h2 : k = 2
  · subst h2
    by_cases hn : n = 0
    · subst hn
      go_wp2_with fail
      refine Hp.out.mono ?_
      rintro e w1 ⟨rfl, t1⟩
      go_wp2_with fail
      go_ret
      exact ⟨rfl, t0.trans0 t1⟩
    · have hne : (n == 0) = false := by simpa using hn
      have hr : VD.right ⟨2, n, s⟩ = false := by simp [VD.right, hn]
      have Hr := Lib.hid hr
      clear hr
      go_wp2_with fail
      go_ret
      exact ⟨by rw [Hr.out]; rfl, t0⟩
  · have hr : VD.right ⟨k, n, s⟩ = false := by simp [VD.right, h0, h1, h2]
    have Hr := Lib.hid hr
    clear hr
    go_wp2_with fail
    go_ret
    exact ⟨by rw [Hr.out]; rfl, t0⟩
theorem right_ok {v : VD} (h : v.right = true) (hk : v.Ok 9223372036854775807) : v.Ok 140737000000000 ∧ v.text.size ≤ 64 := by
  have ht : v.text.size ≤ 64 := by
    unfold VD.right at h
    have e1 : v.text.toList.isEmpty = true → v.text.size ≤ 64 := fun he => by
      rw [toList_B] at he
      have := size_toList v.text
      rw [List.isEmpty_iff] at he
      rw [he] at this
      simp at this
      omega
    split at h
    · rw [Bool.and_eq_true] at h; exact e1 h.2
    · split at h
      · exact e1 h
      · split at h
        · rw [Bool.and_eq_true] at h
          have := h.2
          unfold plainV at this
          rw [Bool.and_eq_true] at this
          have := of_decide_eq_true this.2
          rw [size_toList] at this
          exact this
        · cases h
  exact ⟨⟨hk.k, hk.n, by omega⟩, ht⟩
end Go.Proofs.YtgpadejkmpfafaaDoor

/- the plain law: what is read from bytes has just these bytes: numbers, texts, values, tables. No program in sight. -/
namespace Go.Proofs.YtgpadejkmpfafaaDoor
open Go.RowKit

theorem rdI_bytes {l r : List UInt8} {n : Int} (h : rdI l = some (n, r)) : l = encI n ++ r := by
  rcases l with _ | ⟨x, t⟩
  · cases h
  · have hx := x.toNat_lt
    unfold rdI at h
    dsimp only at h
    obtain ⟨s, hs⟩ : ∃ s, s = (if 16 ≤ x.toNat then x.toNat - 16 else x.toNat) := ⟨_, rfl⟩
    rw [← hs] at h
    by_cases hn : 8 < s ∨ t.length < s ∨ (0 < s ∧ t[s - 1]? = some 0) ∨ 9223372036854775808 ≤ leV (t.take s)
    · rw [if_pos hn] at h; cases h
    · rw [if_neg hn] at h
      injection h with h
      injection h with h1 h2
      have h8 : s ≤ 8 := by omega
      have hl : s ≤ t.length := by omega
      have hlen : (t.take s).length = s := by rw [List.length_take]; omega
      have hlast : (t.take s).getLast? ≠ some 0 := by
        rw [List.getLast?_eq_getElem?, hlen]
        rcases Nat.eq_zero_or_pos s with e | e
        · rw [e]; simp
        · rw [List.getElem?_take, if_pos (by omega)]
          exact fun e0 => hn (.inr (.inr (.inl ⟨e, e0⟩)))
      have h31 : x.toNat ≤ 31 ∧ s = x.toNat % 16 := by
        split at hs <;> omega
      have := (encI_back x (t.take s) h31.1 (by rw [hlen]; exact h31.2) (by omega)).2 hlast
      rw [← h1, this, ← h2, List.cons_append, List.take_append_drop]
theorem rdT_bytes {l s r : List UInt8} (h : rdT l = some (s, r)) : l = encT (S s) ++ r := by
  unfold rdT at h
  rcases hr : rdI l with _ | ⟨n, l'⟩
  · rw [hr] at h; cases h
  · rw [hr] at h
    have h1 := rdI_bytes hr
    dsimp only at h
    by_cases hc : n < 0 ∨ (l'.length : Int) < n
    · rw [if_pos hc] at h; cases h
    · rw [if_neg hc] at h
      injection h with h
      injection h with h2 h3
      have hn : ((S s).size : Int) = n := by rw [S_size, ← h2, List.length_take]; omega
      unfold encT
      rw [hn, h1, ← h2, ← h3]
      show encI n ++ l' = encI n ++ (l'.take n.toNat) ++ l'.drop n.toNat
      rw [List.append_assoc, List.take_append_drop]
theorem rdV_bytes {l r : List UInt8} {v : VD} (h : rdV l = some (v, r)) : l = encV v ++ r := by
  unfold rdV at h
  rcases hr : rdI l with _ | ⟨k, l'⟩
  · rw [hr] at h; cases h
  · rw [hr] at h
    have h1 := rdI_bytes hr
    dsimp only at h
    split at h
    · rename_i e
      cases h
      subst e
      rw [h1]; simp [encV, zeroVD]
    · split at h
      · rename_i e
        subst e
        rcases hr2 : rdI l' with _ | ⟨n, l2⟩
        · rw [hr2] at h; cases h
        · have h2 := rdI_bytes hr2
          rw [hr2] at h
          cases h
          rw [h1, h2]; simp [encV]
      · split at h
        · rename_i e
          subst e
          rcases hr2 : rdT l' with _ | ⟨s, l2⟩
          · rw [hr2] at h; cases h
          · have h2 := rdT_bytes hr2
            rw [hr2] at h
            dsimp only at h
            split at h
            · cases h
              rw [h1, h2]; simp [encV]
            · cases h
        · cases h
theorem rdCs_bytes {k : Nat} {l m : List UInt8} {cs : List CD} (h : rdCs k l = some (cs, m)) : l = cs.flatMap encC ++ m := by
  induction k generalizing cs m with
  | zero => cases h; rfl
  | succ k ih =>
    unfold rdCs at h
    rcases h1 : rdCs k l with _ | ⟨cs1, m1⟩
    · rw [h1] at h; cases h
    · have i1 := ih h1
      rw [h1] at h
      dsimp only at h
      rcases h2 : rdT m1 with _ | ⟨s, m2⟩
      · rw [h2] at h; cases h
      · have e2 := rdT_bytes h2
        rw [h2] at h
        dsimp only at h
        rcases h3 : rdI m2 with _ | ⟨t, m3⟩
        · rw [h3] at h; cases h
        · have e3 := rdI_bytes h3
          rw [h3] at h
          cases h
          conv => lhs; rw [i1, e2, e3]
          simp [encC]
theorem rdVs_bytes {k : Nat} {l m : List UInt8} {vs : List VD} (h : rdVs k l = some (vs, m)) : l = vs.flatMap encV ++ m := by
  induction k generalizing vs m with
  | zero => cases h; rfl
  | succ k ih =>
    unfold rdVs at h
    rcases h1 : rdVs k l with _ | ⟨cs1, m1⟩
    · rw [h1] at h; cases h
    · have i1 := ih h1
      rw [h1] at h
      dsimp only at h
      rcases h2 : rdV m1 with _ | ⟨s, m2⟩
      · rw [h2] at h; cases h
      · have e2 := rdV_bytes h2
        rw [h2] at h
        cases h
        conv => lhs; rw [i1, e2]
        simp
theorem rdRs_bytes {n k : Nat} {l m : List UInt8} {rows : List (List VD)} (h : rdRs n k l = some (rows, m)) : l = (rows.flatMap fun r => r.flatMap encV) ++ m := by
  induction k generalizing rows m with
  | zero => cases h; rfl
  | succ k ih =>
    unfold rdRs at h
    rcases h1 : rdRs n k l with _ | ⟨cs1, m1⟩
    · rw [h1] at h; cases h
    · have i1 := ih h1
      rw [h1] at h
      dsimp only at h
      rcases h2 : rdVs n m1 with _ | ⟨s, m2⟩
      · rw [h2] at h; cases h
      · have e2 := rdVs_bytes h2
        rw [h2] at h
        cases h
        conv => lhs; rw [i1, e2]
        simp
theorem rdC_bytes {most : Int} {l r : List UInt8} {n : Int} (h : rdC most l = some (n, r)) : l = encI n ++ r := by
  unfold rdC at h
  rcases hr : rdI l with _ | ⟨k, l'⟩
  · rw [hr] at h; cases h
  · have := rdI_bytes hr
    rw [hr] at h
    dsimp only at h
    split at h
    · cases h
    · cases h; exact this
theorem rdTab_bytes {l r : List UInt8} {cs : List CD} {rows : List (List VD)} (hl : l.length ≤ 140737000000000) (h : rdTab l = some ((cs, rows), r)) : l = encTab cs rows ++ r ∧ checkT cs rows = 0 ∧ r.length ≤ l.length ∧ cs.length ≤ 16 ∧ (∀ c ∈ cs, c.Ok) ∧ rows.length ≤ 4096 ∧ RowsOk rows := by
  unfold rdTab at h
  rcases h1 : rdC 16 l with _ | ⟨n, l1⟩
  · rw [h1] at h; cases h
  · have b1 := rdC_le h1
    have e1 := rdC_bytes h1
    rw [h1] at h
    dsimp only at h
    rcases h2 : rdCs n.toNat l1 with _ | ⟨cs1, l2⟩
    · rw [h2] at h; cases h
    · have b2 := rdCs_ok h2 (by omega)
      have e2 := rdCs_bytes h2
      rw [h2] at h
      dsimp only at h
      rcases h3 : rdC 4096 l2 with _ | ⟨m, l3⟩
      · rw [h3] at h; cases h
      · have b3 := rdC_le h3
        have e3 := rdC_bytes h3
        rw [h3] at h
        dsimp only at h
        rcases h4 : rdRs n.toNat m.toNat l3 with _ | ⟨rows1, l4⟩
        · rw [h4] at h; cases h
        · have b4 := rdRs_ok h4 (by omega) (by omega)
          have e4 := rdRs_bytes h4
          rw [h4] at h
          dsimp only at h
          split at h
          · rename_i hc
            cases h
            refine ⟨?_, hc, by omega, by omega, b2.2.1, by omega, b4.2.1⟩
            have q1 : ((cs.length : Nat) : Int) = n := by rw [b2.1]; omega
            have q2 : ((rows.length : Nat) : Int) = m := by rw [b4.1]; omega
            conv => lhs; rw [e1, e2, e3, e4]
            unfold encTab
            rw [q1, q2]
            simp only [List.append_assoc]
          · cases h
end Go.Proofs.YtgpadejkmpfafaaDoor

/- Slices of ints and of texts that came in, as the walks take them. -/
namespace Go.Proofs.YtgpadejkmpfafaaDoor
open Go.RowKit

def RdI (w : World) (A : Option Addr) (ks : List Int) : Prop := Rd w A (ks.map (Value.int .i64))
theorem RdI.at_ {w : World} {A : Option Addr} {l : List Int} (h : RdI w A l) (k : Nat) (hk : k < l.length) : ∃ ad, A = some ad ∧ w.cell? (ad.add k) = some (.int .i64 l[k]) := by
  obtain ⟨ad, e, hc⟩ := h (by simpa using Nat.lt_of_le_of_lt (Nat.zero_le _) hk)
  exact ⟨ad, e, hc k _ (by simp [hk])⟩
def RdS (w : World) (A : Option Addr) (ks : List ByteArray) : Prop := Rd w A (ks.map Value.string)
theorem RdS.at_ {w : World} {A : Option Addr} {l : List ByteArray} (h : RdS w A l) (k : Nat) (hk : k < l.length) : ∃ ad, A = some ad ∧ w.cell? (ad.add k) = some (.string l[k]) := by
  obtain ⟨ad, e, hc⟩ := h (by simpa using Nat.lt_of_le_of_lt (Nat.zero_le _) hk)
  exact ⟨ad, e, hc k _ (by simp [hk])⟩

theorem row_take {α : Type} {w : World} {x : Addr} {len : Nat} {zs : List α} {d : α} {f : α → Value} (hl : len ≤ zs.length)
    (hcell : ∀ i, i < zs.length → w.cell? (x.add i) = some (f (zs.getD i d))) : Rd w (some x) ((zs.take len).map f) := fun _ => by
  refine ⟨x, rfl, fun j u hu => ?_⟩
  have hj : j < len := by
    have := (List.getElem?_eq_some_iff.1 hu).1
    simp at this; omega
  rw [hcell j (by omega)]
  simp only [List.getElem?_map, List.getElem?_take, hj, if_true] at hu
  have hjz : j < zs.length := by omega
  rw [List.getElem?_eq_getElem hjz] at hu
  simp only [Option.map_some, Option.some.injEq] at hu
  subst hu
  simp [List.getD, List.getElem?_eq_getElem hjz]

theorem ints_of_row {w : World} {x : Addr} {len : Nat} {zs : List Int} (hl : len ≤ zs.length) (hm : len ≤ maxLen)
    (hcell : ∀ i, i < zs.length → w.cell? (x.add i) = some (.int .i64 (zs.getD i 0))) (hw : ∀ n ∈ zs, (Lit.int .i64 n).wf = true) :
    ∃ l : List Int, l.length = len ∧ RdI w (some x) l ∧ l.length ≤ maxLen ∧ ∀ k ∈ l, -9223372036854775808 ≤ k ∧ k ≤ 9223372036854775807 := by
  refine ⟨zs.take len, by simp; omega, row_take hl hcell, by simp; omega, fun k hk => ?_⟩
  have := hw k (List.mem_of_mem_take hk)
  simpa [Lit.wf, IntKind.min, IntKind.max, IntKind.signed, IntKind.bits] using this
theorem strs_of_row {w : World} {x : Addr} {len : Nat} {zs : List ByteArray} (hl : len ≤ zs.length) (hm : len ≤ maxLen)
    (hcell : ∀ i, i < zs.length → w.cell? (x.add i) = some (.string (zs.getD i ByteArray.empty))) (hw : ∀ n ∈ zs, n.size ≤ maxLen) :
    ∃ l : List ByteArray, l.length = len ∧ RdS w (some x) l ∧ l.length ≤ maxLen ∧ ∀ k ∈ l, k.size ≤ maxLen :=
  ⟨zs.take len, by simp; omega, row_take hl hcell, by simp; omega, fun k hk => hw k (List.mem_of_mem_take hk)⟩
end Go.Proofs.YtgpadejkmpfafaaDoor

/- bywashlaw07.FrameNumbers: the walk of the law. For every slice of ints and of texts; the table as the program's text lays it. -/
namespace Go.Proofs.YtgpadejkmpfafaaDoor
open Go.RowKit

theorem leV_le (f M : Nat) (h : M < 256 ^ f) : leV (le f M) = M := by
  induction f generalizing M with
  | zero => simp at h; subst h; rfl
  | succ f ih =>
    unfold le
    split
    · rename_i h0; subst h0; rfl
    · rw [leV_cons, ih (M / 256) (by rw [Nat.pow_succ] at h; exact Nat.div_lt_of_lt_mul (by rw [Nat.mul_comm]; exact h))]
      simp; omega
theorem le_last (f M : Nat) (h : M < 256 ^ f) : (le f M).getLast? ≠ some 0 := by
  induction f generalizing M with
  | zero => simp [le]
  | succ f ih =>
    unfold le
    split
    · simp
    · rename_i h0
      have hd : M / 256 < 256 ^ f := by rw [Nat.pow_succ] at h; exact Nat.div_lt_of_lt_mul (by rw [Nat.mul_comm]; exact h)
      have := ih (M / 256) hd
      rw [List.getLast?_cons]
      cases hg : (le f (M / 256)).getLast? with
      | none =>
        have hn : le f (M / 256) = [] := List.getLast?_eq_none_iff.1 hg
        have hz := leV_le f (M / 256) hd
        rw [hn] at hz
        have hz' : M / 256 = 0 := hz.symm
        intro e
        simp at e
        have := congrArg UInt8.toNat e
        simp at this
        omega
      | some v => rw [hg] at this; simpa using this
theorem rdI_enc {n : Int} (h1 : -9223372036854775808 ≤ n) (h2 : n ≤ 9223372036854775807) (r : List UInt8) : rdI (encI n ++ r) = some (n, r) := by
  obtain ⟨M, hM, hMn⟩ : ∃ M : Nat, M < 9223372036854775808 ∧ ((n < 0 ∧ (-1 - n : Int) = M) ∨ n = M) := by
    by_cases hn : n < 0
    · exact ⟨(-1 - n).toNat, by omega, .inl ⟨hn, by omega⟩⟩
    · exact ⟨n.toNat, by omega, .inr (by omega)⟩
  have hl := le_length 8 M
  have h256 : M < 256 ^ 8 := by simp; omega
  have hv := leV_le 8 M h256
  have hla := le_last 8 M h256
  have ht : (le 8 M ++ r).take (le 8 M).length = le 8 M := List.take_left
  have hd : (le 8 M ++ r).drop (le 8 M).length = r := List.drop_left
  rcases hMn with ⟨hn, hMe⟩ | rfl
  · rw [encI_neg hn hMe, List.cons_append]
    have ht16 : (UInt8.ofNat ((le 8 M).length + 16)).toNat = (le 8 M).length + 16 := by simp; omega
    rw [rdI_cons _ _ (le 8 M).length (by rw [ht16]; omega) (by rw [ht16]; omega) hl (by simp) (by rw [ht, hv]; omega) (by rw [ht]; exact hla)]
    rw [ht, hv, hd, if_pos (by rw [ht16]; omega)]
    congr 2; omega
  · rw [encI_pos, List.cons_append]
    have ht16 : (UInt8.ofNat ((le 8 M).length)).toNat = (le 8 M).length := by simp; omega
    rw [rdI_cons _ _ (le 8 M).length (by rw [ht16]; omega) (by rw [ht16]; omega) hl (by simp) (by rw [ht, hv]; omega) (by rw [ht]; exact hla)]
    rw [ht, hv, hd, if_neg (by rw [ht16]; omega)]
theorem rdT_enc (s : ByteArray) (hs : s.size ≤ 9223372036854775807) (r : List UInt8) : rdT (encT s ++ r) = some (s.data.toList, r) := by
  unfold rdT encT
  rw [List.append_assoc, rdI_enc (by omega) (by omega)]
  have hl := size_toList s
  dsimp only
  rw [if_neg (by rw [List.length_append]; omega)]
  rw [Int.toNat_natCast, ← hl, List.take_left, List.drop_left]
theorem S_data (s : ByteArray) : S s.data.toList = s := by cases s; simp [S]

def encIs (l : List Int) : List UInt8 := l.flatMap encI
def encTs (l : List ByteArray) : List UInt8 := l.flatMap encT
theorem encIs_snoc (l : List Int) (k : Nat) (h : k < l.length) : encIs (l.take (k + 1)) = encIs (l.take k) ++ encI l[k] := by
  unfold encIs
  rw [List.take_succ_eq_append_getElem h, List.flatMap_append]; simp
theorem encTs_snoc (l : List ByteArray) (k : Nat) (h : k < l.length) : encTs (l.take (k + 1)) = encTs (l.take k) ++ encT l[k] := by
  unfold encTs
  rw [List.take_succ_eq_append_getElem h, List.flatMap_append]; simp
theorem encIs_drop (l : List Int) (k : Nat) (h : k < l.length) : encIs (l.drop k) = encI l[k] ++ encIs (l.drop (k + 1)) := by
  unfold encIs
  rw [List.drop_eq_getElem_cons h]; rfl
theorem encTs_drop (l : List ByteArray) (k : Nat) (h : k < l.length) : encTs (l.drop k) = encT l[k] ++ encTs (l.drop (k + 1)) := by
  unfold encTs
  rw [List.drop_eq_getElem_cons h]; rfl
theorem encIs_len (l : List Int) : (encIs l).length ≤ 9 * l.length := by
  unfold encIs
  induction l with
  | nil => simp
  | cons x l ih => have := encI_length x; simp at ih ⊢; omega

/-- what two of the calls' own rows and an Out hold, apart from each other -/
structure Both (w : World) (g : Nat) (xs : List UInt8) (A2 : Option Addr) (n c2 : Nat) (wr : World) : Prop where
  o : ∃ A, OutAt wr g A xs ∧ (∀ b ∈ fpo A, w.heap.size ≤ b) ∧ ∀ b ∈ fpo A2, b ∉ fpo A
  n : xs.length = n
  own : OwnB wr A2 c2 xs
  g2 : g ∉ fpo A2
  f2 : ∀ b ∈ fpo A2, w.heap.size ≤ b
  t : Touch [] w wr

/-- both get the same bytes -/
theorem Both.next {w : World} {g : Nat} {xs ys : List UInt8} {A A1 A2 A3 A4 : Option Addr} {n n4 c4 : Nat} {wr w1 w2 w3 : World} (hg : w.heap.size ≤ g) (hA2 : ∀ b ∈ fpo A2, b < wr.heap.size) (hg2 : g ∉ fpo A2) (hfA : ∀ b ∈ fpo A, w.heap.size ≤ b) (hap : ∀ b ∈ fpo A2, b ∉ fpo A) (hf2 : ∀ b ∈ fpo A2, w.heap.size ≤ b)
    (ht : Touch [] w wr) (hp : OutPost g A (xs ++ ys) wr w1) (h2 : Touch [] w1 w2) (hgw : g < wr.heap.size) (h3 : Touch (fpo A2) w2 w3) (hf4 : ∀ b ∈ fpo A4, b ∈ fpo A2 ∨ b = w2.heap.size) (hown : OwnB w3 A4 c4 (xs ++ ys)) (hn : (xs ++ ys).length = n4) (_ : A1 = A3 ∧ n = n) : Both w g (xs ++ ys) A4 n4 c4 w3 := by
  obtain ⟨A5, ⟨c5, hb5, ho5, hn5⟩, ht5, hf5⟩ := hp
  have hs1 := ht5.size
  have hs2 := h2.size
  have hA5lt : ∀ b ∈ fpo A5, b < w1.heap.size := ho5.lt
  have hA5A2 : ∀ b ∈ fpo A5, b ∉ fpo A2 := fun b hb hm => by
    rcases hf5 b hb with h | h
    · exact hap b hm h
    · have := hA2 b hm; omega
  refine ⟨⟨A5, ⟨c5, h3.blk (h2.blk hb5 (by simp)) hg2, (ho5.touch0 h2).touch h3 hA5A2, hn5⟩, fun b hb => ?_, fun b hb hm => ?_⟩, hn, hown, fun hm => ?_, fun b hb => ?_, ((ht.trans ht5 (fun b hb => ?_)).trans0 h2).trans h3 (fun b hb => .inr (hf2 b hb))⟩
  · have := ht.size
    rcases hf5 b hb with h | h
    · exact hfA b h
    · omega
  · rcases hf4 b hb with h | h
    · exact hA5A2 b hm h
    · have := hA5lt b hm; omega
  · rcases hf4 g hm with h | h
    · exact hg2 h
    · omega
  · have := ht.size
    rcases hf4 b hb with h | h
    · exact hf2 b h
    · omega
  · rcases List.mem_cons.1 hb with h | h
    · exact .inr (by omega)
    · exact .inr (hfA b h)

/-- one byte of a row of the calls' own is set -/
theorem OwnB.set {w : World} {G c : Nat} {l : List UInt8} (h : OwnB w (some ⟨G, 0, none⟩) c l) (k : Nat) (x : UInt8) : OwnB (w.setCell ⟨G, k, none⟩ (B x)) (some ⟨G, 0, none⟩) c (l.set k x) := by
  have := (World.ownsRow.stored h k (B x)).1
  unfold OwnB
  rw [List.length_set, List.map_set]
  exact this
theorem u8_inc (x : UInt8) : ((x.toNat : Int) + 1) % 256 = ((x + 1).toNat : Int) := by
  rw [UInt8.toNat_add]; simp

set_option maxRecDepth 100000 in
set_option maxHeartbeats 6400000 in
theorem numbers_law (A : Option Addr) (c : Nat) (l : List Int) (At : Option Addr) (ct : Nat) (ts : List ByteArray) (w : World) (hll : l.length ≤ maxLen) (htl : ts.length ≤ maxLen) (hr : RdI w A l) (hrt : RdS w At ts)
    (hl : ∀ k ∈ l, -9223372036854775808 ≤ k ∧ k ≤ 9223372036854775807) (hts : ∀ k ∈ ts, k.size ≤ maxLen) (hh : HalfAt w) :
    Calls Tryd.prog 4 #[.slice A l.length c, .slice At ts.length ct] w fun e w' => e = .returned (.bool true) ∧ Touch [] w w' := by
  go_enter Tryd.func4, Tryd.ntmps4
  unfold maxLen at hll htl
  by_cases h3 : 60 < l.length
  · go_wp2_with (go_at_call 9; refine (awake_any w hh).mono ?_; rintro e w1 ⟨rfl, ht1⟩)
    go_ret
    exact ⟨rfl, ht1⟩
  by_cases h4 : 30 < ts.length
  · go_wp2_with (go_at_call 9; refine (awake_any w hh).mono ?_; rintro e w1 ⟨rfl, ht1⟩)
    go_ret
    exact ⟨rfl, ht1⟩
  have H0 := Lib.hid (show OutAt (w.alloc (.cells #[.slice none 0 0] 31)) w.heap.size none [] from ⟨0, heap_alloc_new w _, OwnB.nil _, by simp [fpo]⟩)
  have ta := (Touch.refl [] w).alloc (.cells #[.slice none 0 0] 31)
  go_wp2_with fail
  go_loopw [6, 29] (fun v i wr => ∃ (k : Nat) (A2 : Option Addr) (n c2 : Nat), k ≤ l.length ∧ i = .int .i64 k ∧ v = .slice A2 n c2 ∧ Both w w.heap.size (encIs (l.take k)) A2 n c2 wr ∧ w.heap.size < wr.heap.size) (fun _ i _ => l.length - (intOf i).toNat)
  case atStart => exact ⟨0, none, 0, 0, by omega, rfl, rfl, ⟨⟨none, H0.out, by simp [fpo], by simp [fpo]⟩, rfl, OwnB.nil _, by simp [fpo], by simp [fpo], ta⟩, by simp⟩
  case round =>
    obtain ⟨k, A2, n, c2, hk, rfl, rfl, hb, hgw⟩ := hrel
    by_cases hlt : k < l.length
    · obtain ⟨ad, rfl, hcell⟩ := RdI.at_ (hr.touch0 hb.t) k hlt
      have hv := hl l[k] (List.getElem_mem hlt)
      have hsn := encIs_snoc l k hlt
      have hlen := encIs_len (l.take k)
      rw [List.length_take] at hlen
      have hle := encI_length l[k]
      obtain ⟨v, hve⟩ : ∃ v, v = l[k] := ⟨_, rfl⟩
      rw [← hve] at hcell hv hsn hle
      clear hve
      obtain ⟨⟨A1, ho, hfA, hap⟩, hn, hown, hg2, hf2, ht⟩ := hb
      obtain ⟨xs, hxs⟩ : ∃ xs, xs = encIs (l.take k) := ⟨_, rfl⟩
      rw [← hxs] at hsn hlen ho hn hown
      have Hsn := Lib.hid hsn; clear hsn
      clear hxs H0
      subst hn
      go_wp2_with fail
      refine (outInt_any w.heap.size A1 xs v hv.1 hv.2 (by omega) wr ho).mono ?_
      rintro e w1 ⟨rfl, hp⟩
      have hp2 := hp
      obtain ⟨A5, ho5, ht5, hf5⟩ := hp2
      have hs5 := ht5.size
      have hA2lt := hown.lt
      have hrd5 : OwnB w1 A2 c2 xs := hown.touch ht5 (fun b hb hm => by
        rcases List.mem_cons.1 hm with h | h
        · exact hg2 (h ▸ hb)
        · exact hap b hb h)
      go_wp2_with fail
      refine (refInt_any v hv.1 hv.2 w1).mono ?_
      rintro e w2 ⟨A6, c6, rfl, hown6, ht6, hf6⟩
      have hs6 := ht6.size
      go_wp2_with (at_builtin; refine stop ?_)
      refine go ?_
      refine wpList_appB rfl (.tmp 35) (.tmp 37) rfl A2 xs.length c2 xs rfl rfl (hrd5.touch0 ht6) A6 (encI v).length c6 (encI v) rfl rfl hown6.rd (by omega) ?_
      intro A7 c7 w7 hown7 ht7 hf7
      have hs7 := ht7.size
      go_wp2_with fail
      go_roundw
      case rel => exact ⟨k + 1, A7, _, c7, by omega, by go_num, rfl, by
        rw [Hsn.out]
        exact Both.next (A1 := none) (A3 := none) (n := 0) (Nat.le_refl _) hA2lt hg2 hfA hap hf2 ht hp ht6 hgw ht7 hf7 hown7 (by simp) ⟨rfl, rfl⟩, by omega⟩
      case measure => simp [intOf]; omega
    · obtain rfl : k = l.length := by omega
      rw [List.take_length] at hb
      have hlenI := encIs_len l
      obtain ⟨ys, hys⟩ : ∃ ys, ys = encIs l := ⟨_, rfl⟩
      rw [← hys] at hb hlenI
      have Hys := Lib.hid hys; clear hys
      clear H0
      go_wp2_with fail
      go_loopw [6, 42] (fun v i wr => ∃ (k : Nat) (A2 : Option Addr) (n c2 : Nat), k ≤ ts.length ∧ i = .int .i64 k ∧ v = .slice A2 n c2 ∧ Both w w.heap.size (ys ++ encTs (ts.take k)) A2 n c2 wr ∧ w.heap.size < wr.heap.size ∧ (ys ++ encTs (ts.take k)).length ≤ 540 + 509 * k) (fun _ i _ => ts.length - (intOf i).toNat)
      case atStart => exact ⟨0, A2, n, c2, by omega, rfl, rfl, by simpa [encTs] using hb, hgw, by simp [encTs]; omega⟩
      case round =>
        clear hb hgw hlenI
        obtain ⟨k, A2, n, c2, hk, rfl, rfl, hb, hgw, hlen⟩ := hrel
        by_cases hlt : k < ts.length
        · obtain ⟨ad, rfl, hcell⟩ := RdS.at_ (hrt.touch0 hb.t) k hlt
          have hsn := encTs_snoc ts k hlt
          obtain ⟨v, hve⟩ : ∃ v, v = ts[k] := ⟨_, rfl⟩
          rw [← hve] at hcell hsn
          clear hve
          obtain ⟨⟨A1, ho, hfA, hap⟩, hn, hown, hg2, hf2, ht⟩ := hb
          obtain ⟨xs, hxs⟩ : ∃ xs, xs = ys ++ encTs (ts.take k) := ⟨_, rfl⟩
          have hsn2 : ys ++ encTs (ts.take (k + 1)) = xs ++ encT v := by rw [hsn, hxs, List.append_assoc]
          rw [← hxs] at hlen ho hn hown
          have Hsn := Lib.hid hsn2; clear hsn hsn2
          clear hxs
          subst hn
          by_cases h5 : 500 < v.size
          · go_wp2_with (go_at_call 9; refine (awake_any wr (hh.touch ht (by simp))).mono ?_; rintro e w1 ⟨rfl, ht1⟩)
            go_ret
            exact ⟨rfl, ht.trans0 ht1⟩
          have hvl := encT_length v
          have hvl2 := encI_length v.size
          have hvl3 : (encT v).length ≤ 509 := by omega
          clear hvl hvl2
          go_wp2_with fail
          refine (outText_any w.heap.size A1 xs v (by omega) wr ho).mono ?_
          rintro e w1 ⟨rfl, hp⟩
          have hp2 := hp
          obtain ⟨A5, ho5, ht5, hf5⟩ := hp2
          have hs5 := ht5.size
          have hA2lt := hown.lt
          have hrd5 : OwnB w1 A2 c2 xs := hown.touch ht5 (fun b hb hm => by
            rcases List.mem_cons.1 hm with h | h
            · exact hg2 (h ▸ hb)
            · exact hap b hb h)
          go_wp2_with fail
          refine (refText_any v (by omega) w1).mono ?_
          rintro e w2 ⟨A6, c6, rfl, hown6, ht6, hf6⟩
          have hs6 := ht6.size
          go_wp2_with (at_builtin; refine stop ?_)
          refine go ?_
          refine wpList_appB rfl (.tmp 52) (.tmp 54) rfl A2 xs.length c2 xs rfl rfl (hrd5.touch0 ht6) A6 (encT v).length c6 (encT v) rfl rfl hown6.rd (by omega) ?_
          intro A7 c7 w7 hown7 ht7 hf7
          have hs7 := ht7.size
          go_wp2_with fail
          go_roundw
          case rel => exact ⟨k + 1, A7, _, c7, by omega, by go_num, rfl, by
            rw [Hsn.out]
            exact Both.next (A1 := none) (A3 := none) (n := 0) (Nat.le_refl _) hA2lt hg2 hfA hap hf2 ht hp ht6 hgw ht7 hf7 hown7 (by simp) ⟨rfl, rfl⟩, by omega, by rw [Hsn.out, List.length_append]; omega⟩
          case measure => simp [intOf]; omega
        · obtain rfl : k = ts.length := by omega
          rw [List.take_length] at hb hlen
          have htsz : ∀ k (h : k < ts.length), ts[k].size ≤ 9223372036854775807 := fun k h => by have := hts _ (List.getElem_mem h); unfold maxLen at this; omega
          obtain ⟨xs, hxs⟩ : ∃ xs, xs = ys ++ encTs ts := ⟨_, rfl⟩
          rw [← hxs] at hlen hb
          have Hxs := Lib.hid hxs; clear hxs
          obtain ⟨⟨A1, ho, hfA, hap⟩, hn, hown, hg2, hf2, ht⟩ := hb
          subst hn
          go_wp2_with fail
          refine (outBytes_any w.heap.size A1 xs (by omega) wr ho).mono ?_
          rintro e w1 ⟨A3, c3, rfl, hown3, ht3, hf3⟩
          have hcv1 := run_str_of c3 rfl hown3.rd
          have hcv2 := run_str_of c2 rfl (hown.touch0 ht3).rd
          go_wp2_with fail
          clear hcv1 hcv2
          refine (newIn_any A3 xs.length c3 xs rfl (by omega) w1 hown3.rd).mono ?_
          rintro e w2 ⟨g, A4, rfl, hi4, ht4, hgw4, hf4⟩
          have hown4 := hown3.touch0 ht4
          have hlt3 := hown3.lt
          have hs4 := ht4.size
          have T2 := (ht.trans0 ht3).trans0 ht4
          have Hts := Lib.hid htsz; clear htsz
          clear hown hap ho hfA hg2 hf2 hown3
          go_wp2_with fail
          go_loopw [67] (fun i wr => ∃ (k : Nat) (zs : List UInt8), k ≤ xs.length ∧ i = .int .i64 k ∧ zs.length = xs.length ∧ OwnB wr A3 c3 zs ∧ Touch (fpo A3) w2 wr) (fun i _ => xs.length - (intOf i).toNat)
          case atStart => exact ⟨0, xs, by omega, rfl, rfl, hown4, Touch.refl _ _⟩
          case round =>
            clear hown4
            obtain ⟨k, zs, hk, rfl, hzl, hown, ht5⟩ := hrel
            by_cases hlt : k < xs.length
            · have hkz : k < zs.length := by omega
              obtain ⟨G, rfl⟩ : ∃ G, A3 = some ⟨G, 0, none⟩ := by
                rcases hown.head with ⟨_, e, _⟩ | ⟨G, e⟩
                · rw [e] at hkz; simp at hkz
                · exact ⟨G, e⟩
              obtain ⟨x, hx⟩ : ∃ x, x = zs[k] := ⟨_, rfl⟩
              have hcell : wr.cell? ⟨G, k, none⟩ = some (.int .u8 x.toNat) := by
                have := World.ownsRow.cells hown (g := G) rfl k (B x) (by rw [hx]; simp [hkz])
                have e0 : (⟨G, 0, none⟩ : Addr).add k = ⟨G, k, none⟩ := by unfold Addr.add; split <;> simp_all
                rwa [e0] at this
              have hfree : wr.frozen? ⟨G, k, none⟩ = false := World.ownsRow.frozenAt hown k
              have hset := hown.set k (x + 1)
              have hxl := x.toNat_lt
              have hinc := Lib.hid (u8_inc x)
              have hzl2 : (zs.set k (x + 1)).length = xs.length := by rw [List.length_set]; exact hzl
              have Hzl := Lib.hid hzl2
              clear hx hzl hzl2 hown
              have T5 := ht5.setCell (p := ⟨G, k, none⟩) (.inl (by simp [fpo])) (B (x + 1))
              go_wp2_with fail
              go_roundw
              case rel => exact ⟨k + 1, zs.set k (x + 1), by omega, by go_num, Hzl.out, by rw [hinc.out]; exact hset, by rw [hinc.out]; exact T5⟩
              case measure => simp [intOf]; omega
            · obtain rfl : k = xs.length := by omega
              have hi5 : InAt wr g A4 xs false := hi4.touch ht5 (fun hm => by have := hlt3 g hm; omega) (fun b hb hm => by have := hlt3 b hm; have := hf4 b hb; omega)
              have hs5 := ht5.size
              have T5 : Touch [] w wr := T2.trans ht5 (fun b hb => .inr (by have := hf3 b hb; have := ht.size; omega))
              have hgW : w.heap.size ≤ g := by have := (ht.trans0 ht3).size; omega
              have hfW : ∀ b ∈ fpo A4, w.heap.size ≤ b := fun b hb => by have := (ht.trans0 ht3).size; have := hf4 b hb; omega
              clear hown hzl hi4 ht5 T2 ht4 hf4
              have Hxs2 : Hid (xs = encIs (l.drop 0) ++ encTs ts) := by rw [Hxs.out, Hys.out]; exact Lib.hid rfl
              go_wp2_with fail
              go_loopw [79] (fun i wr => ∃ (k : Nat) (A6 : Option Addr), k ≤ l.length ∧ i = .int .i64 k ∧ InAt wr g A6 (encIs (l.drop k) ++ encTs ts) false ∧ Touch [] w wr ∧ ∀ b ∈ fpo A6, w.heap.size ≤ b) (fun i _ => l.length - (intOf i).toNat)
              case atStart => exact ⟨0, A4, by omega, rfl, by rw [← Hxs2.out]; exact hi5, T5, hfW⟩
              case round =>
                clear hi5 T5
                obtain ⟨k, A6, hk, rfl, hi, ht6, hf6⟩ := hrel
                by_cases hlt : k < l.length
                · obtain ⟨ad, rfl, hcell⟩ := RdI.at_ (hr.touch0 ht6) k hlt
                  have hv := hl l[k] (List.getElem_mem hlt)
                  have hI := inInt_ok g A6 _ _ hi
                  rw [encIs_drop l k hlt, List.append_assoc] at hI
                  unfold IntPost at hI
                  rw [rdI_enc hv.1 hv.2] at hI
                  obtain ⟨v, hve⟩ : ∃ v, v = l[k] := ⟨_, rfl⟩
                  rw [← hve] at hcell hI
                  clear hve hi
                  go_wp2_with fail
                  refine hI.mono ?_
                  rintro e w7 ⟨rfl, A7, hi7, ht7, hf7⟩
                  go_wp2_with fail
                  go_roundw
                  case rel => exact ⟨k + 1, A7, by omega, by go_num, hi7, ht6.trans ht7 (fun b hb => .inr (by simp at hb; omega)), fun b hb => hf6 b (hf7 b hb)⟩
                  case measure => simp [intOf]; omega
                · obtain rfl : k = l.length := by omega
                  rw [List.drop_length] at hi
                  have Hi := Lib.hid (show InAt wr g A6 (encTs (ts.drop 0)) false from hi)
                  clear hi
                  go_wp2_with fail
                  go_loopw [90] (fun i wr => ∃ (k : Nat) (A6 : Option Addr), k ≤ ts.length ∧ i = .int .i64 k ∧ InAt wr g A6 (encTs (ts.drop k)) false ∧ Touch [] w wr ∧ ∀ b ∈ fpo A6, w.heap.size ≤ b) (fun i _ => ts.length - (intOf i).toNat)
                  case atStart => exact ⟨0, A6, by omega, rfl, Hi.out, ht6, hf6⟩
                  case round =>
                    clear Hi ht6 hf6
                    obtain ⟨k, A6, hk, rfl, hi, ht6, hf6⟩ := hrel
                    by_cases hlt : k < ts.length
                    · obtain ⟨ad, rfl, hcell⟩ := RdS.at_ (hrt.touch0 ht6) k hlt
                      have hT := inText_ok g A6 _ _ hi
                      rw [encTs_drop ts k hlt] at hT
                      unfold TextPost at hT
                      rw [rdT_enc _ (Hts.out k hlt)] at hT
                      obtain ⟨v, hve⟩ : ∃ v, v = ts[k] := ⟨_, rfl⟩
                      rw [← hve] at hcell hT
                      dsimp only at hT
                      rw [S_data] at hT
                      clear hve hi
                      go_wp2_with fail
                      refine hT.mono ?_
                      rintro e w7 ⟨rfl, A7, hi7, ht7, hf7⟩
                      go_wp2_with fail
                      go_roundw
                      case rel => exact ⟨k + 1, A7, by omega, by go_num, hi7, ht6.trans ht7 (fun b hb => .inr (by simp at hb; omega)), fun b hb => hf6 b (hf7 b hb)⟩
                      case measure => simp [intOf]; omega
                    · obtain rfl : k = ts.length := by omega
                      rw [List.drop_length] at hi
                      have hi2 : InAt wr g A6 [] false := hi
                      have hh2 := hh.touch ht6 (by simp)
                      clear hi
                      go_wp2_with fail
                      refine (done_any g A6 [] false wr hi2).mono ?_
                      rintro e w8 ⟨rfl, rfl⟩
                      go_wp2_with fail
                      refine (bad_any g A6 [] false _ hi2).mono ?_
                      rintro e w8 ⟨rfl, rfl⟩
                      go_wp2_with fail
                      refine (awake_any _ hh2).mono ?_
                      rintro e w8 ⟨rfl, ht8⟩
                      go_wp2_with fail
                      go_ret
                      exact ⟨rfl, ht6.trans0 ht8⟩
end Go.Proofs.YtgpadejkmpfafaaDoor

/- the plain law: the bytes of right values and tables are read back as these. No program in sight. -/
namespace Go.Proofs.YtgpadejkmpfafaaDoor
open Go.RowKit

theorem empty_of (s : ByteArray) (h : s.toList.isEmpty = true) : s = ⟨#[]⟩ := by
  rw [toList_B] at h
  rcases s with ⟨⟨d⟩⟩
  simp only [List.isEmpty_iff] at h
  have : d = [] := by simpa using h
  subst this
  rfl
theorem rdV_write {v : VD} (hr : v.right = true) (hok : v.Ok 140737000000000) (r : List UInt8) : rdV (encV v ++ r) = some (v, r) := by
  obtain ⟨k, n, s⟩ := v
  obtain ⟨⟨k1, k2⟩, ⟨n1, n2⟩, hs⟩ := hok
  simp only at k1 k2 n1 n2 hs
  have hr0 := hr
  unfold VD.right at hr
  simp only at hr
  unfold encV rdV
  simp only
  by_cases h0 : k = 0
  · subst h0
    rw [if_pos rfl, Bool.and_eq_true] at hr
    obtain rfl : n = 0 := of_decide_eq_true hr.1
    obtain rfl := empty_of s hr.2
    have := rdI_enc (n := 0) (by omega) (by omega) r
    simp [this, zeroVD]
  · rw [if_neg h0] at hr
    by_cases h1 : k = 1
    · subst h1
      rw [if_pos rfl] at hr
      obtain rfl := empty_of s hr
      have e1 := rdI_enc (n := 1) (by omega) (by omega) (encI n ++ r)
      have e2 := rdI_enc n1 n2 r
      simp [e1, e2]
    · rw [if_neg h1] at hr
      by_cases h2 : k = 2
      · subst h2
        rw [if_pos rfl, Bool.and_eq_true] at hr
        obtain rfl : n = 0 := of_decide_eq_true hr.1
        have e1 := rdI_enc (n := 2) (by omega) (by omega) (encT s ++ r)
        have e2 := rdT_enc s (by omega) r
        have e3 : S s.data.toList = s := S_of s
        simp [e1, e2, e3, hr0]
      · rw [if_neg h2] at hr; cases hr
theorem rdCs_write (cs : List CD) (hok : ∀ c ∈ cs, c.Ok) (r : List UInt8) (k : Nat) (hk : k ≤ cs.length) : rdCs k (cs.flatMap encC ++ r) = some (cs.take k, (cs.drop k).flatMap encC ++ r) := by
  induction k with
  | zero => simp [rdCs]
  | succ k ih =>
    have hlt : k < cs.length := by omega
    have ho := hok _ (List.getElem_mem hlt)
    unfold rdCs
    rw [ih (by omega)]
    simp only
    rw [List.drop_eq_getElem_cons hlt, List.flatMap_cons]
    have e1 := rdT_enc cs[k].name (by have := ho.n; omega) (encI cs[k].typ ++ ((cs.drop (k + 1)).flatMap encC ++ r))
    have e2 := rdI_enc ho.t.1 ho.t.2 ((cs.drop (k + 1)).flatMap encC ++ r)
    have e3 : encC cs[k] ++ (cs.drop (k + 1)).flatMap encC ++ r = encT cs[k].name ++ (encI cs[k].typ ++ ((cs.drop (k + 1)).flatMap encC ++ r)) := by simp [encC]
    rw [e3, e1]
    simp only
    rw [e2]
    simp only
    rw [S_of, List.take_succ_eq_append_getElem hlt]
theorem rdVs_write (vs : List VD) (hr : ∀ v ∈ vs, v.right = true ∧ v.Ok 140737000000000) (r : List UInt8) (k : Nat) (hk : k ≤ vs.length) : rdVs k (vs.flatMap encV ++ r) = some (vs.take k, (vs.drop k).flatMap encV ++ r) := by
  induction k with
  | zero => simp [rdVs]
  | succ k ih =>
    have hlt : k < vs.length := by omega
    have ho := hr _ (List.getElem_mem hlt)
    unfold rdVs
    rw [ih (by omega)]
    simp only
    rw [List.drop_eq_getElem_cons hlt, List.flatMap_cons, List.append_assoc, rdV_write ho.1 ho.2]
    simp only
    rw [List.take_succ_eq_append_getElem hlt]
theorem rdRs_write (n : Nat) (rows : List (List VD)) (hr : ∀ r ∈ rows, r.length = n ∧ ∀ v ∈ r, v.right = true ∧ v.Ok 140737000000000) (r : List UInt8) (k : Nat) (hk : k ≤ rows.length) :
    rdRs n k ((rows.flatMap fun x => x.flatMap encV) ++ r) = some (rows.take k, ((rows.drop k).flatMap fun x => x.flatMap encV) ++ r) := by
  induction k with
  | zero => simp [rdRs]
  | succ k ih =>
    have hlt : k < rows.length := by omega
    have ho := hr _ (List.getElem_mem hlt)
    unfold rdRs
    rw [ih (by omega)]
    simp only
    rw [List.drop_eq_getElem_cons hlt, List.flatMap_cons, List.append_assoc]
    have e := rdVs_write rows[k] ho.2 (((rows.drop (k + 1)).flatMap fun x => x.flatMap encV) ++ r) n (by omega)
    rw [List.take_of_length_le (Nat.le_of_eq ho.1), List.drop_of_length_le (Nat.le_of_eq ho.1), List.flatMap_nil, List.nil_append] at e
    rw [e]
    simp only
    rw [List.take_succ_eq_append_getElem hlt]
end Go.Proofs.YtgpadejkmpfafaaDoor

/- the plain law: the bytes of a right table are read back as this table. No program in sight. -/
namespace Go.Proofs.YtgpadejkmpfafaaDoor
open Go.RowKit

theorem checkT_zero {cs : List CD} {rows : List (List VD)} (h : checkT cs rows = 0) : checkV cs = 0 ∧ rows.length ≤ 4096 ∧ ∀ r ∈ rows, fitR cs r = true := by
  unfold checkT at h
  have hf : fitV cs rows = 0 := by
    by_cases e : fitV cs rows = 0
    · exact e
    · rw [if_neg e] at h; exact absurd h e
  have hf0 := hf
  unfold fitV at hf
  by_cases hc : checkV cs = 0
  · rw [if_pos hc] at hf
    by_cases h4 : 4096 < rows.length
    · rw [if_pos h4] at hf; cases hf
    · rw [if_neg h4] at hf
      by_cases ha : rows.all (fitR cs) = true
      · exact ⟨hc, by omega, fun r hr => List.all_eq_true.1 ha r hr⟩
      · rw [if_neg ha] at hf; cases hf
  · rw [if_neg hc] at hf; exact absurd hf hc
theorem fitR_right {cs : List CD} {r : List VD} (h : fitR cs r = true) : r.length = cs.length ∧ ∀ v ∈ r, v.right = true := by
  unfold fitR at h
  rw [Bool.and_eq_true, List.all_eq_true] at h
  have hl := of_decide_eq_true h.1
  refine ⟨hl, fun v hv => ?_⟩
  obtain ⟨i, hi, rfl⟩ := List.mem_iff_getElem.1 hv
  have hz : i < (List.zipWith fitC cs r).length := by rw [List.length_zipWith]; omega
  have := h.2 _ (List.getElem_mem hz)
  rw [List.getElem_zipWith] at this
  unfold fitC at this
  simp only [id, Bool.and_eq_true] at this
  exact this.1
theorem rdC_write {n most : Int} (h0 : 0 ≤ n) (h1 : n ≤ most) (hm : most ≤ 9223372036854775807) (r : List UInt8) : rdC most (encI n ++ r) = some (n, r) := by
  unfold rdC
  rw [rdI_enc (by omega) (by omega) r]
  simp only
  rw [if_neg (by omega)]
theorem rdTab_write {cs : List CD} {rows : List (List VD)} (h : checkT cs rows = 0) (hok : ∀ c ∈ cs, c.Ok) (hrok : ∀ r ∈ rows, ∀ v ∈ r, v.Ok 140737000000000) (r : List UInt8) : rdTab (encTab cs rows ++ r) = some ((cs, rows), r) := by
  obtain ⟨hc, h4, hfit⟩ := checkT_zero h
  obtain ⟨hc1, hc16, _⟩ := check_zero hc
  have e0 : encTab cs rows ++ r = encI cs.length ++ (cs.flatMap encC ++ (encI rows.length ++ ((rows.flatMap fun r => r.flatMap encV) ++ r))) := by unfold encTab; simp only [List.append_assoc]
  have e1 := rdC_write (n := (cs.length : Int)) (most := 16) (by omega) (by omega) (by omega) (cs.flatMap encC ++ (encI rows.length ++ ((rows.flatMap fun r => r.flatMap encV) ++ r)))
  have e2 := rdCs_write cs hok (encI rows.length ++ ((rows.flatMap fun r => r.flatMap encV) ++ r)) cs.length (Nat.le_refl _)
  rw [List.take_length, List.drop_length, List.flatMap_nil, List.nil_append] at e2
  have e3 := rdC_write (n := (rows.length : Int)) (most := 4096) (by omega) (by omega) (by omega) ((rows.flatMap fun r => r.flatMap encV) ++ r)
  have e4 := rdRs_write cs.length rows (fun x hx => ⟨(fitR_right (hfit x hx)).1, fun v hv => ⟨(fitR_right (hfit x hx)).2 v hv, hrok x hx v hv⟩⟩) r rows.length (Nat.le_refl _)
  rw [List.take_length, List.drop_length, List.flatMap_nil, List.nil_append] at e4
  unfold rdTab
  rw [e0, e1]
  simp only [Int.toNat_natCast]
  rw [e2]
  simp only
  rw [e3]
  simp only [Int.toNat_natCast]
  rw [e4]
  simp only
  rw [if_pos h]
end Go.Proofs.YtgpadejkmpfafaaDoor

/- what is read as a value is right. No program in sight. -/
namespace Go.Proofs.YtgpadejkmpfafaaDoor
open Go.RowKit

theorem rdV_right {l r : List UInt8} {v : VD} (h : rdV l = some (v, r)) : v.right = true := by
  unfold rdV at h
  rcases hr : rdI l with _ | ⟨k, l'⟩
  · rw [hr] at h; cases h
  · rw [hr] at h
    dsimp only at h
    split at h
    · cases h
      kernel_rfl
    · split at h
      · rcases hr2 : rdI l' with _ | ⟨n, l2⟩
        · rw [hr2] at h; cases h
        · rw [hr2] at h
          cases h
          kernel_rfl
      · split at h
        · rcases hr2 : rdT l' with _ | ⟨s, l2⟩
          · rw [hr2] at h; cases h
          · rw [hr2] at h
            dsimp only at h
            split at h
            · rename_i hb
              cases h
              exact hb
            · cases h
        · cases h
end Go.Proofs.YtgpadejkmpfafaaDoor

/- slices.Equal at values. For every rows. -/
namespace Go.Proofs.YtgpadejkmpfafaaDoor
open Go.RowKit

/-- are two values one? -/
def eqV (a b : VD) : Bool := decide (a.kind = b.kind) && (decide (a.num = b.num) && decide (a.text = b.text))
theorem eqV_iff (a b : VD) : eqV a b = true ↔ a = b := by
  obtain ⟨ak, an, at_⟩ := a
  obtain ⟨bk, bn, bt⟩ := b
  simp [eqV]
theorem eqIn_val (a b : VD) (w : World) : (Op.equalIn 10000 59 (.agg #[.int .i64 a.kind, .int .i64 a.num, .string a.text]) (.agg #[.int .i64 b.kind, .int .i64 b.num, .string b.text])).run Tryd.prog w = .ok (eqV a b) w := by
  have hS : Tryd.prog.underlying 59 = some (.struct (Tryd.prog.fieldsOf 59)) := by kernel_rfl
  have hp : Tryd.prog.stoodInHeld 59 = false := by kernel_rfl
  rw [show (10000 : Nat) = 9999 + 1 from rfl, run_equalIn_agg w 9999 59 _ _ hS hp]
  simp only [Program.fieldsOf, Tryd.underlying59]
  have hs := bs_beq a.text b.text
  go_simp
  by_cases h1 : a.kind = b.kind <;> by_cases h2 : a.num = b.num <;> by_cases h3 : a.text = b.text <;> simp [eqV, h1, h2, h3]
theorem guard_val (op : BinOp) (x y : Operand) (a b : Array Value) (w : World) : (eqGuard op 59 x y (.agg a) (.agg b)).run Tryd.prog w = .ok () w := run_eqGuard_agg w op _ x y _ _ (by kernel_rfl)
def eqVs : List VD → List VD → Bool
  | [], [] => true
  | a :: r, b :: s => eqV a b && eqVs r s
  | _, _ => false
theorem eqVs_iff (l r : List VD) : eqVs l r = true ↔ l = r := by
  induction l generalizing r with
  | nil => cases r <;> simp [eqVs]
  | cons a l ih => cases r with
    | nil => simp [eqVs]
    | cons b r => simp [eqVs, ih, eqV_iff]

set_option maxRecDepth 20000 in
set_option maxHeartbeats 1600000 in
theorem equalV_any (A B : Option Addr) (c1 c2 n m : Nat) (l r : List VD) (hn : l.length = n) (hm : r.length = m) (w : World) (h : ValsAt w A l) (h2 : ValsAt w B r) (hl : n ≤ 140737000000000) (hl2 : m ≤ 140737000000000) :
    Calls Tryd.prog 53 #[.slice A n c1, .slice B m c2] w fun e w' => e = .returned (.bool (eqVs l r)) ∧ Touch [] w w' := by
  subst hn hm
  by_cases hlen : l.length = r.length
  · have Hlen := Lib.hid hlen
    have hq : ((l.length : Int) == (r.length : Int)) = true := by rw [beq_iff_eq]; omega
    have hq' : ((l.length : Int) != (r.length : Int)) = false := by rw [bne, hq]; rfl
    clear hlen
    go_enter Tryd.func53, Tryd.ntmps53
    go_wp2
    clear hq hq'
    go_loopw [13] (fun i wr => ∃ k : Nat, k ≤ l.length ∧ i = .int .i64 k ∧ Hid (eqVs l r = eqVs (l.drop k) (r.drop k)) ∧ Touch [] w wr) (fun i _ => l.length - (intOf i).toNat)
    case atStart => exact ⟨0, by omega, rfl, Lib.hid rfl, Touch.refl _ _⟩
    case round =>
      obtain ⟨k, hk, rfl, He, ht⟩ := hrel
      by_cases hlt : k < l.length
      · have hlt2 : k < r.length := by have := Hlen.out; omega
        obtain ⟨ad, b, off, rfl, hadd, c0, c1, c2'⟩ := (h.touch0 ht).at_ k hlt
        obtain ⟨bd, b2, off2, rfl, hadd2, d0, d1, d2⟩ := (h2.touch0 ht).at_ k hlt2
        have hst : eqVs l r = (eqV l[k] r[k] && eqVs (l.drop (k + 1)) (r.drop (k + 1))) := by
          rw [He.out, List.drop_eq_getElem_cons hlt, List.drop_eq_getElem_cons hlt2]; rfl
        have heq := eqIn_val l[k] r[k]
        obtain ⟨x, hx⟩ : ∃ x, x = l[k] := ⟨_, rfl⟩
        obtain ⟨y, hy⟩ : ∃ y, y = r[k] := ⟨_, rfl⟩
        rw [← hx, ← hy] at hst heq
        rw [← hx] at c0 c1 c2'
        rw [← hy] at d0 d1 d2
        have Hst := Lib.hid hst
        have hgd := guard_val
        have g0 := TW.cell c0
        have g1 := TW.cell c1
        have g2 := TW.cell d0
        have g3 := TW.cell d1
        have g4 := TW.cell c2'
        have g5 := TW.cell d2
        have hkI0 : (0 : Int) ≤ (k : Int) := by omega
        have hkI : (k : Int) < (l.length : Int) := by omega
        have hkI2 : (k : Int) < (r.length : Int) := by omega
        clear hst hx hy He c0 c1 d0 d1 c2' d2
        rcases hxy : eqV x y with _ | _
        · have Hf := Lib.hid (show eqVs l r = false by rw [Hst.out, hxy]; rfl)
          rw [hxy] at heq
          clear hxy
          go_wp2
          refine wp_region_tw wr (Touch.refl _ _) (by kernel_rfl) (by kernel_rfl) ?_
          repeat (go_big_quiet_step (fail))
          refine wpQuiet_nil ?_
          rintro _ ⟨x2, rfl⟩
          go_wp2
          go_ret
          exact ⟨ret_bool (by rw [Hf.out]), ht.trans0 x2.t⟩
        · have Hf := Lib.hid (show eqVs l r = eqVs (l.drop (k + 1)) (r.drop (k + 1)) by rw [Hst.out, hxy]; rfl)
          rw [hxy] at heq
          clear hxy
          go_wp2
          refine wp_region_tw wr (Touch.refl _ _) (by kernel_rfl) (by kernel_rfl) ?_
          repeat (go_big_quiet_step (fail))
          refine wpQuiet_nil ?_
          rintro _ ⟨x2, rfl⟩
          go_wp2
          go_roundw
          case rel => exact ⟨k + 1, by omega, by go_num, Hf, ht.trans0 x2.t⟩
          case measure => simp [intOf]; omega
      · obtain rfl : k = l.length := by omega
        have Hf := Lib.hid (show eqVs l r = true by rw [He.out, List.drop_length, List.drop_of_length_le (by have := Hlen.out; omega)]; rfl)
        go_wp2
        go_ret
        exact ⟨ret_bool (by rw [Hf.out]), ht⟩
  · have Hf := Lib.hid (show eqVs l r = false by
      rw [Bool.eq_false_iff]
      intro h
      rw [eqVs_iff] at h
      exact hlen (by rw [h]))
    have hq : ((l.length : Int) == (r.length : Int)) = false := by rw [beq_eq_false_iff_ne]; omega
    have hq' : ((l.length : Int) != (r.length : Int)) = true := by rw [bne, hq]; rfl
    clear hlen
    go_enter Tryd.func53, Tryd.ntmps53
    go_wp2
    go_ret
    exact ⟨ret_bool (by rw [Hf.out]), Touch.refl _ _⟩
end Go.Proofs.YtgpadejkmpfafaaDoor

/- frame.NewIn: where the bytes of what it makes lie. For every slice of bytes. -/
namespace Go.Proofs.YtgpadejkmpfafaaDoor
open Go.RowKit

set_option maxHeartbeats 400000 in
theorem newIn2_any (A : Option Addr) (n c : Nat) (l : List UInt8) (hn : l.length = n) (hl : n ≤ 140737488000000) (w : World) (h : RdB w A l) :
    Calls Tryd.prog 17 #[.slice A n c] w fun e w' => ∃ g A', e = .returned (.pointer (some ⟨g, 0, none⟩)) ∧ InAt w' g A' l false ∧ Touch [] w w' ∧ w.heap.size ≤ g ∧ ∀ b ∈ fpo A', w.heap.size ≤ b ∧ b < w'.heap.size := by
  subst hn
  go_enter Tryd.func17, Tryd.ntmps17
  go_wp2_with (go_at_call 40; refine (clone_any A c l w h hl).mono ?_; rintro e w1 ⟨A1, c1, rfl, h1⟩)
  obtain ⟨hown1, ht1, hf1⟩ := h1
  go_ret
  exact ⟨w1.heap.size, A1, rfl, ⟨⟨c1, hown1.le, heap_alloc_new w1 _⟩, hown1.rd.touch0 ((Touch.refl [] w1).alloc _), fun hm => by have := hown1.lt _ hm; omega, hl⟩, ht1.alloc _, ht1.size, fun b hb => ⟨hf1 b hb, by have := hown1.lt b hb; simp; omega⟩⟩
end Go.Proofs.YtgpadejkmpfafaaDoor

/- A region that draws its order, walked by hand under a condition on the world that may change on the way. No program's function. -/
namespace Go.Proofs.YtgpadejkmpfafaaDoor
open Go.RowKit

section
variable {P : Program} {ops : Array Oper} {Q : Exit → Act → World → Prop} {md : Region.Mode} {S S' : World → Prop}
/-- a walk that holds more holds less -/
theorem wpAnyH_weak (hS : ∀ w, S w → S' w) : ∀ (fuel : Nat) (listed : Array Bool) (a : Act) (w : World), wpAnyH P md ops Q S fuel listed a w → wpAnyH P md ops Q S' fuel listed a w
  | 0, _, _, _, h => h
  | fuel + 1, _, _, _, h => ⟨h.1, fun i hi => wpOp_mono (fun a' w' h' => ⟨hS w' h'.1, wpAnyH_weak hS fuel _ a' w' h'.2⟩) (h.2 i hi)⟩
/-- 'wpAnyH_take', the operation's temporary told by its number -/
theorem take_d {i d : Nat} {oi : Oper} {v : Value} {fuel : Nat} {listed : Array Bool} {a : Act} {w : World} (hi : ops[i]? = some oi) (hd : oi.dst = some d)
    (hs : Region.noSelect ops = true) (hf : Region.free md ops listed i = true) (hr : (Region.ready md ops listed).contains i = true)
    (hQ : ∀ c a w, Q (.panic c) (a.put oi.dst v) w → Q (.panic c) a w) (hy : YieldsIf P ops S oi v a) (hS : S w)
    (h : wpAnyH P md ops Q S fuel (listed.setIfInBounds i true) (a.put (some d) v) w) : wpAnyH P md ops Q S (fuel + 1) listed a w :=
  wpAnyH_take hi hs hf hr hQ hy hS (by rw [hd]; exact h)
end
end Go.Proofs.YtgpadejkmpfafaaDoor
