/- Part 23 of the texts of this proof, one behind the other. No condition beyond those that its theorems state. -/
import Derived.Test.YtafoklilkdnepaaGreatDoorRn22
import Derived.Sort.Grow
import Derived.Shelf.Small.Bits
import Derived.Shelf.Small.Strs
import Derived.Shelf.Small.Wraps
import Derived.Shelf.Strconv.Itoa0
import Derived.Shelf.Strconv.Itoa1
import Derived.Shelf.LaysM
import Derived.Shelf.Strconv.Itoa2
import Derived.Shelf.Strconv.Itoa3
import Derived.Shelf.Strings.Search1
import Derived.Shelf.Sort.Plain
import Derived.Shelf.Slices.Turned
import Derived.Shelf.Slices.Equal
import Derived.Shelf.Slices.CompactS
import Derived.Ground.Names2Prog
import Derived.Shelf.Slices.SearchI
import Derived.Shelf.Slices.Cells
import Derived.Shelf.Slices.In.SortNone
import Derived.Shelf.Slices.Empties2
import Derived.Shelf.SlGeneric
import Derived.Ground.SlsfProg
import Derived.Shelf.SlSortCmp.NoneTotal
import Derived.Test.YtafoklilkdnepaaGreatDoorProg
set_option maxRecDepth 40000
set_option maxHeartbeats 25600000
namespace Go.Proofs.YtafoklilkdnepaaGreatDoor
section
open Go.RowKit
theorem nullV_any (w : World) : Calls Tryz.prog 173 #[] w fun e w' => e = .returned (.agg #[.int .i64 0, .int .i64 0, .string ⟨#[]⟩]) /\ Touch [] w w' := by
 go_enter Tryz.func173, Tryz.ntmps173
 go_wp2_with fail
 refine bodyPost_ret (results_cell_row rfl _ _ w.heap.size _ _ _ _ rfl (heap_alloc_new w _) Tryz.underlying31 rfl rfl) rfl ⟨rfl, (Touch.refl [] w).alloc _⟩
def nonN (i : Nat) (rows : List (List VD)) : List VD := (rows.map fun r => r.getD i ⟨0, 0, ⟨#[]⟩⟩).filter fun v => decide (v.kind ≠ 0)
theorem nonN_snoc (i : Nat) (rows : List (List VD)) (r : List VD) : nonN i (rows ++ [r]) = nonN i rows ++ if (r.getD i ⟨0, 0, ⟨#[]⟩⟩).kind ≠ 0 then [r.getD i ⟨0, 0, ⟨#[]⟩⟩] else [] := by
 unfold nonN
 rw [List.map_append, List.filter_append]
 congr 1
 rw [List.map_singleton, List.filter_cons, List.filter_nil]
 by_cases h : (r.getD i ⟨0, 0, ⟨#[]⟩⟩).kind ≠ 0
 ·rw [if_pos h, decide_eq_true h]; rfl
 ·rw [if_neg h, decide_eq_false h]; rfl
theorem nonN_mem {i : Nat} {rows : List (List VD)} {v : VD} (h : v ∈ nonN i rows) : ∃ r ∈ rows, v = r.getD i ⟨0, 0, ⟨#[]⟩⟩ := by
 obtain ⟨r, hr, e⟩ := List.mem_map.1 (List.mem_filter.1 h).1
 exact ⟨r, hr, e.symm⟩
def aggL (op : ByteArray) (l : List VD) : Int × VD := if op = opC then (0, ⟨1, l.length, ⟨#[]⟩⟩) else if l.length = 0 then (0, ⟨0, 0, ⟨#[]⟩⟩) else if op = opS then sumV l else (0, bestV (!decide (op = opMi)) l)
def aggOf (cs : List CD) (a : AG) (rows : List (List VD)) : Int × VD := if a.col.toList.isEmpty = true then (0, ⟨1, rows.length, ⟨#[]⟩⟩) else aggL a.op (nonN ((placeV cs a.col).getD 0) rows)
theorem aggOf_col (op col nm : ByteArray) (h5 : col.toList.isEmpty = false) (SA : Option Addr) (n c : Nat) (cs : List CD) (hn : cs.length = n) (hl : n <= 1000000) (RA : Option Addr) (m rc : Nat) (rows : List (List VD)) (hm : rows.length = m) (hl2 : m <= 1000000) (hrl : ∀ r ∈ rows, (placeV cs col).getD 0 < r.length /\ r.length <= 1000000 /\ ∀ v ∈ r, v.Ok 140737000000000) (w : World) (hcs : ColsAt w SA cs) (hrows : RowsAt w RA rows)  :
  Calls Tryz.prog 139 #[.agg #[.string op, .string col, .string nm], .slice SA n c, .slice RA m rc] w fun e w' => e = .returned (.tuple #[(aggL op (nonN ((placeV cs col).getD 0) rows)).2.val, .int .i64 (aggL op (nonN ((placeV cs col).getD 0) rows)).1]) /\ Touch [] w w' := by
 subst hn hm
 obtain ⟨i, hi⟩ : ∃ i, i = (placeV cs col).getD 0 := ⟨_, rfl⟩
 obtain ⟨W, hW⟩ : ∃ W, W = (w.alloc (.cells #[.string op, .string col, .string nm] 79)).alloc (.cells #[.int .i64 0, .int .i64 0, .string ⟨#[]⟩] 31) := ⟨_, rfl⟩
 have t0 : Touch [] w W := hW ▸ ((Touch.refl [] w).alloc _).alloc _
 have hba : W.heap[w.heap.size]? = some (.cells #[.string op, .string col, .string nm] 79 (0, 0)) := hW ▸ ((Touch.refl [] (w.alloc (.cells #[.string op, .string col, .string nm] 79))).alloc (.cells #[.int .i64 0, .int .i64 0, .string ⟨#[]⟩] 31)).blk (heap_alloc_new w _) (by simp)
 have hbr : W.heap[w.heap.size + 1]? = some (.cells #[.int .i64 0, .int .i64 0, .string ⟨#[]⟩] 31 (0, 0)) := by
  have h1 := heap_alloc_new (w.alloc (.cells #[.string op, .string col, .string nm] 79)) (.cells #[.int .i64 0, .int .i64 0, .string ⟨#[]⟩] 31)
  rw [World.size_alloc] at h1
  exact hW ▸ h1
 have hWs : W.heap.size = w.heap.size + 2 := by rw [hW]; simp
 have hfa := findC_any SA c cs.length cs rfl col W (hcs.touch0 t0) (by omega)
 rw [<- hi] at hfa hrl ⊢
 obtain ⟨ans, hans⟩ : ∃ ans, ans = aggL op (nonN i rows) := ⟨_, rfl⟩
 rw [<- hans]
 have HA := lh hans
 clear hans
 obtain ⟨bb, hbb⟩ : ∃ b, b = (placeV cs col).isSome := ⟨_, rfl⟩
 rw [<- hbb] at hfa
 have Hfa := lh hfa
 have HR := lh (And.intro (hrows.touch0 t0) hrl)
 have HT0 := lh (And.intro t0 (And.intro hba (And.intro hbr hWs)))
 have HW := lh hW
 clear hi hW t0 hba hbr hWs hfa hcs hrows hrl hbb
 go_enter Tryz.func139, Tryz.ntmps139
 go_wp2_with fail
 rw [<- HW.out]
 refine Hfa.out.mono ?_
 rintro e w1 ⟨rfl, t1⟩
 have HT1 := lh t1
 clear t1
 go_wp2_with fail
 go_loopw [10, 28] (fun o j wr => ∃ (k q : Nat) (B : Option Addr) (bc : Nat), k <= rows.length /\ j = .int .i64 k /\ o = .slice B q bc /\ Hid ((nonN i (rows.take k)).length = q) /\ Hid (q <= k) /\ Hid (Made 31 3 vdE (nonN i (rows.take k)) B bc w1 wr)) (fun _ j _ => rows.length - (intOf j).toNat)
 case atStart => exact ⟨0, 0, none, 0, by omega, rfl, rfl, lh rfl, lh (Nat.le_refl _), lh (Made.nil _ _ _ _)⟩
 case round =>
  obtain ⟨k, q, B, bc, hk, rfl, rfl, HQ, Hqk, HM⟩ := hrel
  by_cases hlt : k < rows.length
  ·obtain ⟨ad, A1, d1, rfl, e0, hv⟩ := (HR.out.1.touch0 (HT1.out.trans0 HM.out.t)).at_ k hlt
   have htk := List.take_succ_eq_append_getElem hlt
   have hrk := HR.out.2 _ (List.getElem_mem hlt)
   obtain ⟨r, hr⟩ : ∃ r, r = rows[k] := ⟨_, rfl⟩
   rw [<- hr] at e0 hv htk hrk
   obtain ⟨ad1, b1, o1, rfl, hadd1, c0, c1, c2⟩ := hv.at_ i hrk.1
   have hsn := nonN_snoc i (rows.take k) r
   rw [<- htk] at hsn
   have hgd : r.getD i ⟨0, 0, ⟨#[]⟩⟩ = r[i]'hrk.1 := by simp [List.getD, hrk.1]
   rw [hgd] at hsn
   obtain ⟨v, hve⟩ : ∃ v, v = r[i]'hrk.1 := ⟨_, rfl⟩
   rw [<- hve] at c0 c1 c2 hsn
   obtain ⟨vk, vn, vt⟩ := v
   dsimp only at c0 c1 c2 hsn
   have hil := hrk.1
   have hkI : (k : Int) < (rows.length : Int) := by omega
   have hiI : (i : Int) < (r.length : Int) := by omega
   have hi0 : (0 : Int) <= (i : Int) := by omega
   clear htk hr hv hve hgd hrk
   by_cases hz : vk = 0
   ·subst hz
    have Hsn := lh (hsn.trans (by rw [if_neg (by simp), List.append_nil]))
    clear hsn
    go_wp2_with fail
    go_roundw
    case rel => exact ⟨k + 1, q, B, bc, by omega, by go_num, rfl, lh (by rw [Hsn.out]; exact HQ.out), lh (by have := Hqk.out; omega), lh (by rw [Hsn.out]; exact HM.out)⟩
    case measure => simp [intOf]; omega
   ·have Hsn := lh (hsn.trans (by rw [if_pos hz]))
    have hq1 : (vk == 0) = false := by rw [beq_eq_false_iff_ne]; exact hz
    have hq2 : (vk != 0) = true := by rw [bne, hq1]; rfl
    clear hsn hz
    go_wp2_with (at_builtin; refine stop ?_)
    refine go ?_
    have ta := (Touch.refl [] wr).alloc (.cells #[.int .i64 vk, .int .i64 vn, .string vt] 31)
    refine wpList_appK (enc := vdE) rfl (.tmp 38) (.tmp 43) 33 rfl 31 _ 3 32 info_v5 Tryz.underlying33 rfl (by omega) vdE_length vdE_one B q bc _ HQ.out rfl (HM.out.touch0 ta).own
     (some ⟨wr.heap.size, 0, none⟩) 1 1 [⟨vk, vn, vt⟩] rfl rfl (RdK.one (enc := vdE) wr 31 ⟨vk, vn, vt⟩ _ rfl) (by have := Hqk.out; omega) (by have := Hqk.out; omega) ?_
    intro A' c' w' hown ht hf
    have HX := lh ((HM.out.touch0 ta).step hown ht hf)
    clear hown ht hf ta
    go_wp2_with fail
    go_roundw
    case rel => exact ⟨k + 1, q + 1, A', c', by omega, by go_num, rfl, lh (by rw [Hsn.out, List.length_append, HQ.out]; rfl), lh (by have := Hqk.out; omega), lh (by rw [Hsn.out]; exact HX.out)⟩
    case measure => simp [intOf]; omega
  ·obtain rfl : k = rows.length := by omega
   have hq := HQ.out
   have hm := HM.out
   rw [List.take_length] at hq hm
   have HM2 := lh hm
   have HQ2 := lh hq
   have HOK := lh (show ∀ v ∈ nonN i rows, v.Ok 140737000000000 from fun v hv => by
    obtain ⟨r, hr, rfl⟩ := nonN_mem hv
    have h1 := HR.out.2 r hr
    have : r.getD i ⟨0, 0, ⟨#[]⟩⟩ = r[i]'h1.1 := by simp [List.getD, h1.1]
    rw [this]
    exact h1.2.2 _ (List.getElem_mem _))
   obtain ⟨L, hL⟩ : ∃ L, L = nonN i rows := ⟨_, rfl⟩
   have ha := HA.out
   rw [<- hL] at HM2 HQ2 HOK ha
   have HA2 := lh ha
   clear ha HA
   have HTW := lh (HT0.out.1.trans0 (HT1.out.trans0 HM2.out.t))
   have HTV := lh (HT1.out.trans0 HM2.out.t)
   have HAB := lh (HTV.out.blk HT0.out.2.1 (by simp))
   have HRB := lh (HTV.out.blk HT0.out.2.2.1 (by simp))
   have hqb := Hqk.out
   obtain ⟨a0, a1, a2, _, _, _⟩ := blk3 HAB.out
   clear hq hm hL HM HQ
   by_cases hC : op = opC
   ·have zC : (op.toList == [99, 111, 117, 110, 116]) = true := by rw [lit_beq op [99, 111, 117, 110, 116] opC rfl]; exact decide_eq_true hC
    have HC := lh hC
    clear hC
    have Hv := lh (show aggL op L = (0, ⟨1, q, ⟨#[]⟩⟩) by unfold aggL; rw [if_pos HC.out, HQ2.out])
    go_wp2_with fail
    refine (of_num q _).mono ?_
    rintro e w2 ⟨rfl, t2⟩
    have HB1 := lh (t2.blk HRB.out (by simp))
    have HT9 := lh (HTW.out.trans0 t2)
    obtain ⟨p0, p1, p2, y0, y1, y2⟩ := blk3 HB1.out
    clear t2
    go_wp2_with fail
    refine bodyPost_ret (results_cell_two rfl _ _ (w.heap.size + 1) _ _ _ _ rfl (set3 HB1.out rfl _ _ _) Tryz.underlying31 rfl rfl) rfl ⟨by rw [HA2.out, Hv.out]; rfl, HT9.out.trans (touch3 _ _ _ _ _) (fun b hb => .inr (by simp at hb; omega))⟩
   ·have zC : (op.toList == [99, 111, 117, 110, 116]) = false := by rw [lit_beq op [99, 111, 117, 110, 116] opC rfl]; exact decide_eq_false hC
    have HC := lh hC
    clear hC
    by_cases hq0 : q = 0
    ·subst hq0
     have Hv := lh (show aggL op L = (0, ⟨0, 0, ⟨#[]⟩⟩) by unfold aggL; rw [if_neg HC.out, if_pos HQ2.out])
     go_wp2_with fail
     refine (nullV_any _).mono ?_
     rintro e w2 ⟨rfl, t2⟩
     have HB1 := lh (t2.blk HRB.out (by simp))
     have HT9 := lh (HTW.out.trans0 t2)
     obtain ⟨p0, p1, p2, y0, y1, y2⟩ := blk3 HB1.out
     clear t2
     go_wp2_with fail
     refine bodyPost_ret (results_cell_two rfl _ _ (w.heap.size + 1) _ _ _ _ rfl (set3 HB1.out rfl _ _ _) Tryz.underlying31 rfl rfl) rfl ⟨by rw [HA2.out, Hv.out]; rfl, HT9.out.trans (touch3 _ _ _ _ _) (fun b hb => .inr (by simp at hb; omega))⟩
    ·have hqz : ((q : Int) == 0) = false := by rw [beq_eq_false_iff_ne]; omega
     by_cases hS : op = opS
     ·have zS : (op.toList == [115, 117, 109]) = true := by rw [lit_beq op [115, 117, 109] opS rfl]; exact decide_eq_true hS
      have HS := lh hS
      clear hS
      have hsum := sum_any B bc q L HQ2.out (by omega) HOK.out wr HM2.out.own.rd
      have hv0 : aggL op L = sumV L := by unfold aggL; rw [if_neg HC.out, if_neg (by rw [HQ2.out]; exact hq0), if_pos HS.out]
      obtain ⟨sv, hsv⟩ : ∃ sv, sv = sumV L := ⟨_, rfl⟩
      rw [<- hsv] at hsum hv0
      obtain ⟨er, v⟩ := sv
      obtain ⟨vk, vn, vt⟩ := v
      simp only [VD.val] at hsum
      have Hsum := lh hsum
      clear hsv hsum
      have Hv := lh (show aggL op L = (er, ⟨vk, vn, vt⟩) from hv0)
      go_wp2_with fail
      refine Hsum.out.mono ?_
      rintro e w2 ⟨rfl, t2⟩
      have HB1 := lh (t2.blk HRB.out (by simp))
      have HT9 := lh (HTW.out.trans0 t2)
      obtain ⟨p0, p1, p2, y0, y1, y2⟩ := blk3 HB1.out
      clear t2
      go_wp2_with fail
      refine bodyPost_ret (results_cell_two rfl _ _ (w.heap.size + 1) _ _ _ _ rfl (set3 HB1.out rfl _ _ _) Tryz.underlying31 rfl rfl) rfl ⟨by rw [HA2.out, Hv.out]; rfl, HT9.out.trans (touch3 _ _ _ _ _) (fun b hb => .inr (by simp at hb; omega))⟩
     ·have zS : (op.toList == [115, 117, 109]) = false := by rw [lit_beq op [115, 117, 109] opS rfl]; exact decide_eq_false hS
      have HS := lh hS
      clear hS
      by_cases hM : op = opMi
      ·have zM : (op.toList == [109, 105, 110]) = true := by rw [lit_beq op [109, 105, 110] opMi rfl]; exact decide_eq_true hM
       have HM := lh hM
       clear hM
       have hmin := minFunc_any B bc q L HQ2.out (by omega) (by omega) wr HM2.out.own.rd
       obtain ⟨v, hv⟩ : ∃ v, v = bestV false L := ⟨_, rfl⟩
       rw [<- hv] at hmin
       obtain ⟨vk, vn, vt⟩ := v
       simp only [VD.val] at hmin
       have Hmin := lh hmin
       clear hmin
       have Hv := lh (show aggL op L = (0, ⟨vk, vn, vt⟩) by unfold aggL; rw [if_neg HC.out, if_neg (by rw [HQ2.out]; exact hq0), if_neg HS.out, decide_eq_true HM.out, Bool.not_true, <- hv])
       go_wp2_with fail
       refine Hmin.out.mono ?_
       rintro e w2 ⟨rfl, t2⟩
       have HB1 := lh (t2.blk HRB.out (by simp))
       have HT9 := lh (HTW.out.trans0 t2)
       obtain ⟨p0, p1, p2, y0, y1, y2⟩ := blk3 HB1.out
       clear t2
       go_wp2_with fail
       refine bodyPost_ret (results_cell_two rfl _ _ (w.heap.size + 1) _ _ _ _ rfl (set3 HB1.out rfl _ _ _) Tryz.underlying31 rfl rfl) rfl ⟨by rw [HA2.out, Hv.out]; rfl, HT9.out.trans (touch3 _ _ _ _ _) (fun b hb => .inr (by simp at hb; omega))⟩
      ·have zM : (op.toList == [109, 105, 110]) = false := by rw [lit_beq op [109, 105, 110] opMi rfl]; exact decide_eq_false hM
       have HM := lh hM
       clear hM
       have hmin := maxFunc_any B bc q L HQ2.out (by omega) (by omega) wr HM2.out.own.rd
       obtain ⟨v, hv⟩ : ∃ v, v = bestV true L := ⟨_, rfl⟩
       rw [<- hv] at hmin
       obtain ⟨vk, vn, vt⟩ := v
       simp only [VD.val] at hmin
       have Hmin := lh hmin
       clear hmin
       have Hv := lh (show aggL op L = (0, ⟨vk, vn, vt⟩) by unfold aggL; rw [if_neg HC.out, if_neg (by rw [HQ2.out]; exact hq0), if_neg HS.out, decide_eq_false HM.out, Bool.not_false, <- hv])
       go_wp2_with fail
       refine Hmin.out.mono ?_
       rintro e w2 ⟨rfl, t2⟩
       have HB1 := lh (t2.blk HRB.out (by simp))
       have HT9 := lh (HTW.out.trans0 t2)
       obtain ⟨p0, p1, p2, y0, y1, y2⟩ := blk3 HB1.out
       clear t2
       go_wp2_with fail
       refine bodyPost_ret (results_cell_two rfl _ _ (w.heap.size + 1) _ _ _ _ rfl (set3 HB1.out rfl _ _ _) Tryz.underlying31 rfl rfl) rfl ⟨by rw [HA2.out, Hv.out]; rfl, HT9.out.trans (touch3 _ _ _ _ _) (fun b hb => .inr (by simp at hb; omega))⟩
theorem aggOf_any (a : AG) (SA : Option Addr) (n c : Nat) (cs : List CD) (hn : cs.length = n) (hl : n <= 1000000) (RA : Option Addr) (m rc : Nat) (rows : List (List VD)) (hm : rows.length = m) (hl2 : m <= 1000000) (hrl : a.col.toList.isEmpty = false -> ∀ r ∈ rows, (placeV cs a.col).getD 0 < r.length /\ r.length <= 1000000 /\ ∀ v ∈ r, v.Ok 140737000000000) (w : World) (hcs : ColsAt w SA cs) (hrows : RowsAt w RA rows) :
  Calls Tryz.prog 139 #[.agg #[.string a.op, .string a.col, .string a.name], .slice SA n c, .slice RA m rc] w fun e w' => e = .returned (.tuple #[(aggOf cs a rows).2.val, .int .i64 (aggOf cs a rows).1]) /\ Touch [] w w' := by
 unfold aggOf
 rcases Bool.eq_false_or_eq_true a.col.toList.isEmpty with h | h
 ·rw [if_pos h, hm]
  exact of_rows a.op a.col a.name h SA n c RA m rc hl2 w
 ·rw [if_neg (by rw [h]; simp)]
  exact aggOf_col a.op a.col a.name h SA n c cs hn hl RA m rc rows hm hl2 (hrl h) w hcs hrows
end
section
open Go.RowKit Go.Maps Go.ChangeMaps
def yesI (_ : Nat) : Bool := true
def leads (key : Nat -> List UInt8) (k : Nat) : List Nat := (List.range k).filter fun i => decide (∀ j, j < i -> key j ≠ key i)
theorem leads_old {key : Nat -> List UInt8} {k : Nat} {es : List EN} (h : IdxIs yesI key k es) {e : EN} (he : e ∈ es) (hk : e.key = key k) : leads key (k + 1) = leads key k := by
 unfold leads
 rw [List.range_succ, List.filter_append]
 have hne := h.some e he
 rw [h.ix e he] at hne
 obtain ⟨j, hj⟩ := List.exists_mem_of_ne_nil _ hne
 obtain ⟨h1, h2⟩ := List.mem_filter.1 hj
 have hjk := List.mem_range.1 h1
 have hjy : key j = e.key := by simpa [yesI] using h2
 rw [List.filter_cons, if_neg (by rw [decide_eq_true_eq]; exact fun q => q j hjk (hjy.trans hk)), List.filter_nil, List.append_nil]
theorem leads_new {key : Nat -> List UInt8} {k : Nat} {es : List EN} (h : IdxIs yesI key k es) (hn : ∀ e ∈ es, e.key ≠ key k) : leads key (k + 1) = leads key k ++ [k] := by
 unfold leads
 rw [List.range_succ, List.filter_append]
 congr 1
 rw [List.filter_cons, if_pos, List.filter_nil]
 rw [decide_eq_true_eq]
 intro j hj hkk
 obtain ⟨e, he, hy⟩ := h.all j hj rfl
 exact hn e he (hy.trans hkk)
theorem leads_le (key : Nat -> List UInt8) (k : Nat) : (leads key k).length <= k := by
 have := List.length_filter_le (fun i => decide (∀ j, j < i -> key j ≠ key i)) (List.range k)
 rw [List.length_range] at this
 exact this
theorem leads_lt {key : Nat -> List UInt8} {k i : Nat} (h : i ∈ leads key k) : i < k := List.mem_range.1 (List.mem_filter.1 h).1
def ordK (rows : List (List VD)) (at_ : List Nat) (k : Nat) : List (List VD) := (leads (keyI rows at_) k).map fun i => pickV (rows.getD i []) at_
theorem ordK_le (rows : List (List VD)) (at_ : List Nat) (k : Nat) : (ordK rows at_ k).length <= k := by unfold ordK; rw [List.length_map]; exact leads_le _ _
def grpR (rows : List (List VD)) (at_ : List Nat) (K : List UInt8) : List (List VD) := (selK yesI (keyI rows at_) rows.length K).map fun i => rows.getD i []
theorem grpR_mem {rows : List (List VD)} {at_ : List Nat} {K : List UInt8} {r : List VD} (h : r ∈ grpR rows at_ K) : r ∈ rows := by
 obtain ⟨i, hi, rfl⟩ := List.mem_map.1 h
 have := selK_lt i hi
 simp [List.getD, this]
theorem grpR_le (rows : List (List VD)) (at_ : List Nat) (K : List UInt8) : (grpR rows at_ K).length <= rows.length := by
 unfold grpR
 rw [List.length_map]
 unfold selK
 refine Nat.le_trans (List.length_filter_le _ _) ?_
 rw [List.length_range]; exact Nat.le_refl _
def ordV (nn : Nat) (rows : List (List VD)) (at_ : List Nat) : List (List VD) := if nn = 0 /\ ordK rows at_ rows.length = [] then [[]] else ordK rows at_ rows.length
theorem ordV_mem {nn n : Nat} {rows : List (List VD)} {at_ : List Nat} (hr : ∀ r ∈ rows, r.length = n) (hat : ∀ i ∈ at_, i < n) {K : List VD} (h : K ∈ ordV nn rows at_) : K.length <= at_.length /\ ∀ v ∈ K, ∃ r ∈ rows, v ∈ r := by
 have key : K ∈ ordK rows at_ rows.length -> K.length <= at_.length /\ ∀ v ∈ K, ∃ r ∈ rows, v ∈ r := fun hk => by
  obtain ⟨i, hi, rfl⟩ := List.mem_map.1 hk
  have hil := leads_lt hi
  have e : rows.getD i [] = rows[i] := by simp [List.getD, hil]
  rw [e]
  refine ⟨by unfold pickV; rw [List.length_map]; exact Nat.le_refl _, fun v hv => ⟨_, List.getElem_mem hil, ?_⟩⟩
  exact pick_mem (fun j hj => by rw [hr _ (List.getElem_mem hil)]; exact hat j hj) v hv
 unfold ordV at h
 split at h
 ·rw [List.mem_singleton.1 h]
  exact ⟨Nat.zero_le _, by simp⟩
 ·exact key h
def aggR (cs : List CD) (aggs : List AG) (rows : List (List VD)) (at_ : List Nat) (K : List VD) : List (Int × VD) := aggs.map fun a => aggOf cs a (grpR rows at_ (keyL K))
def errR (cs : List CD) (aggs : List AG) (rows : List (List VD)) (at_ : List Nat) (K : List VD) : Int := errF (fun x : Int × VD => x.1) (aggR cs aggs rows at_ K)
def rowR_ (cs : List CD) (aggs : List AG) (rows : List (List VD)) (at_ : List Nat) (K : List VD) : List VD := K ++ (aggR cs aggs rows at_ K).map (·.2)
def grpE (cs : List CD) (names : List ByteArray) (aggs : List AG) (rows : List (List VD)) : Int × List (List VD) :=
 if errF (errR cs aggs rows (placesV cs names)) (sortR (ordV names.length rows (placesV cs names))) = 0 then (0, (sortR (ordV names.length rows (placesV cs names))).map (rowR_ cs aggs rows (placesV cs names)))
 else (errF (errR cs aggs rows (placesV cs names)) (sortR (ordV names.length rows (placesV cs names))), [])
theorem IdxAt.touch {sl : List SL} {g0 : Nat} {w w' : World} {b : Nat} {es : List EN} {fp : List Nat} (h : IdxAt sl g0 w b es) (ht : Touch fp w w') (hb : b ∉ fp) (he : ∀ e ∈ es, ∀ a ∈ fpo e.A, a ∉ fp) : IdxAt sl g0 w' b es :=
 ⟨h.mp.touch ht hb, fun e he' => (h.own e he').touch ht (he e he'), h.low, h.apart, h.base⟩
structure OrdAt (w : World) (g0 : Nat) (B : Option Addr) (c : Nat) (ks : List (List VD)) (es : List EN) (sl : List SL) : Prop where
 sls : SlsAt w sl ks
 own : OwnK 33 1 slE w B c sl
 b0 : ∀ x ∈ fpo B, g0 < x /\ ∀ e ∈ es, x ∉ fpo e.A
 s0 : ∀ s ∈ sl, ∀ x ∈ fpo s.A, g0 < x /\ x < w.heap.size /\ x ∉ fpo B /\ ∀ e ∈ es, x ∉ fpo e.A
theorem OrdAt.nil (w : World) (g0 : Nat) : OrdAt w g0 none 0 [] [] [] := ⟨⟨rfl, fun i h => absurd h (by simp)⟩, OwnK.nil _ _ _ _, by simp [fpo], by simp⟩
theorem OrdAt.touch0 {w w' : World} {g0 : Nat} {B : Option Addr} {c : Nat} {ks : List (List VD)} {es : List EN} {sl : List SL} (h : OrdAt w g0 B c ks es sl) (t : Touch [] w w') : OrdAt w' g0 B c ks es sl :=
 ⟨h.sls.touch t (by simp), h.own.touch0 t, h.b0, fun s hs x hx => by
  obtain ⟨h1, h2, h3, h4⟩ := h.s0 s hs x hx
  exact ⟨h1, Nat.lt_of_lt_of_le h2 t.size, h3, h4⟩⟩
theorem OrdAt.turn {w w1 w' : World} {g0 : Nat} {B : Option Addr} {c : Nat} {ks : List (List VD)} {es es' : List EN} {sl : List SL} {fp : List Nat} (h : OrdAt w g0 B c ks es sl) (t : Touch fp w w1) (t2 : Touch [g0] w1 w') (hfp : ∀ x ∈ fp, ∃ e ∈ es, x ∈ fpo e.A)
  (hes : ∀ e ∈ es', ∀ x ∈ fpo e.A, (∃ e0 ∈ es, x ∈ fpo e0.A) \/ w.heap.size <= x) : OrdAt w' g0 B c ks es' sl := by
 have hBlt := h.own.lt
 have hne : ∀ x, g0 < x -> x ∉ [g0] := fun x hx hm => by simp at hm; omega
 refine ⟨(h.sls.touch t (fun s hs x hx hm => ?_)).touch t2 (fun s hs x hx => hne x (h.s0 s hs x hx).1), (h.own.touch t (fun x hx hm => ?_)).touch t2 (fun x hx => hne x (h.b0 x hx).1), fun x hx => ⟨(h.b0 x hx).1, fun e he hm => ?_⟩, fun s hs x hx => ?_⟩
 ·obtain ⟨e, he, hxe⟩ := hfp x hm
  exact (h.s0 s hs x hx).2.2.2 e he hxe
 ·obtain ⟨e, he, hxe⟩ := hfp x hm
  exact (h.b0 x hx).2 e he hxe
 ·rcases hes e he x hm with ⟨e0, he0, q⟩ | q
  ·exact (h.b0 x hx).2 e0 he0 q
  ·have := hBlt x hx; omega
 ·obtain ⟨h1, h2, h3, h4⟩ := h.s0 s hs x hx
  refine ⟨h1, by have := t.size; have := t2.size; omega, h3, fun e he hm => ?_⟩
  rcases hes e he x hm with ⟨e0, he0, q⟩ | q
  ·exact h4 e0 he0 q
  ·omega
theorem OrdAt.snoc {w w' : World} {g0 : Nat} {B B' : Option Addr} {c c' : Nat} {ks : List (List VD)} {es : List EN} {sl : List SL} (h : OrdAt w g0 B c ks es sl) (s : SL) (K : List VD) (hn : s.n = K.length) (hv : ValsAt w s.A K) (hs : ∀ x ∈ fpo s.A, g0 < x /\ x < w.heap.size /\ x ∉ fpo B /\ ∀ e ∈ es, x ∉ fpo e.A)
  (hlt : ∀ e ∈ es, ∀ x ∈ fpo e.A, x < w.heap.size) (hg : g0 < w.heap.size) (hown : OwnK 33 1 slE w' B' c' (sl ++ [s])) (t : Touch (fpo B) w w') (hf : ∀ x ∈ fpo B', x ∈ fpo B \/ w.heap.size <= x) : OrdAt w' g0 B' c' (ks ++ [K]) es (sl ++ [s]) := by
 have hl := h.sls.1
 refine ⟨⟨by rw [List.length_append, List.length_append, hl]; rfl, fun i a b => ?_⟩, hown, fun x hx => ?_, fun s' hs' x hx => ?_⟩
 ·by_cases hi : i < sl.length
  ·have hi2 : i < ks.length := by rw [<- hl]; exact hi
   rw [List.getElem_append_left hi, List.getElem_append_left hi2]
   have := h.sls.2 i hi hi2
   exact ⟨this.1, RdK.touch this.2 t (fun x hx => (h.s0 _ (List.getElem_mem hi) x hx).2.2.1)⟩
  ·have hi' : i = sl.length := by rw [List.length_append] at a; simp at a; omega
   subst hi'
   have e1 : (sl ++ [s])[sl.length] = s := by rw [List.getElem_append_right (Nat.le_refl _)]; simp
   have e2 : (ks ++ [K])[sl.length] = K := by rw [List.getElem_append_right (by rw [hl]; exact Nat.le_refl _)]; simp [hl]
   rw [e1, e2]
   exact ⟨hn, RdK.touch hv t (fun x hx => (hs x hx).2.2.1)⟩
 ·rcases hf x hx with q | q
  ·exact h.b0 x q
  ·exact ⟨by omega, fun e he hm => by have := hlt e he x hm; omega⟩
 ·have key : g0 < x /\ x < w.heap.size /\ x ∉ fpo B /\ ∀ e ∈ es, x ∉ fpo e.A := by
   rcases List.mem_append.1 hs' with q | q
   ·exact h.s0 s' q x hx
   ·rw [List.mem_singleton.1 q] at hx; exact hs x hx
  refine ⟨key.1, Nat.lt_of_lt_of_le key.2.1 t.size, fun hm => ?_, key.2.2.2⟩
  rcases hf x hm with q | q
  ·exact key.2.2.1 q
  ·have := key.2.1; omega
end
section
open Go.RowKit
structure Grew (w w' : World) : Prop where
 t : Touch [] w w'
 d : w.drawn <= w'.drawn
theorem Grew.refl (w : World) : Grew w w := ⟨Touch.refl _ _, Nat.le_refl _⟩
theorem Grew.trans {w w1 w2 : World} (h : Grew w w1) (k : Grew w1 w2) : Grew w w2 := ⟨h.t.trans0 k.t, Nat.le_trans h.d k.d⟩
theorem Grew.alloc {w w1 : World} (h : Grew w w1) (o : Obj) : Grew w (w1.alloc o) := ⟨h.t.alloc o, by rw [World.drawn_alloc]; exact h.d⟩
theorem Grew.drew {w w1 : World} (h : Grew w w1) : Grew w w1.drew := ⟨h.t.drew, by rw [World.drawn_drew]; have := h.d; omega⟩
theorem Grew.form {w w' : World} (h : Grew w w') : ∃ q os, w' = Go.Sort.grow (w.drewN q) os := by
 refine ⟨w'.drawn - w.drawn, w'.heap.extract w.heap.size w'.heap.size, ?_⟩
 have hd := h.d
 obtain ⟨t, _⟩ := h
 have h1 := t.os
 have h2 := t.tape
 have h3 := t.output
 have h4 : w'.heap = w.heap ++ w'.heap.extract w.heap.size w'.heap.size := by
  apply Array.ext
  ·rw [Array.size_append, Array.size_extract]
   have := t.size
   omega
  ·intro i hi1 hi2
   by_cases hi : i < w.heap.size
   ·rw [Array.getElem_append_left hi]
    have := t.block i hi (by simp)
    rw [Array.getElem?_eq_getElem hi1, Array.getElem?_eq_getElem hi] at this
    exact Option.some.inj this
   ·rw [Array.getElem_append_right (by omega), Array.getElem_extract]
    congr 1
    omega
 cases w
 cases w'
 simp only [Go.Sort.grow, World.drewN] at *
 subst h1 h2 h3
 congr 1
 omega
theorem cmpValG_any (a b : VD) (w : World) :
  Calls Tryz.prog 112 #[a.val, b.val] w fun e w' => e = .returned (.int .i64 (cmpVV a b)) /\ Grew w w' := by
 obtain ⟨k1, n1, s1⟩ := a
 obtain ⟨k2, n2, s2⟩ := b
 have h1 := fun w' => Tryz.cmp_Compare_int k1 k2 w'
 have h2 := fun w' => Tryz.cmp_Compare_int n1 n2 w'
 have h3 := fun w' => Tryz.strings_Compare s1 s2 w'
 have hc : cmpVV ⟨k1, n1, s1⟩ ⟨k2, n2, s2⟩ = orV [Lib.compareInt k1 k2, Lib.compareInt n1 n2, Lib.compareBytes s1.data.toList s2.data.toList] := rfl
 rw [hc]
 obtain ⟨x, hx⟩ : ∃ x, x = Lib.compareInt k1 k2 := ⟨_, rfl⟩
 obtain ⟨y, hy⟩ : ∃ y, y = Lib.compareInt n1 n2 := ⟨_, rfl⟩
 obtain ⟨z, hz⟩ : ∃ z, z = Lib.compareBytes s1.data.toList s2.data.toList := ⟨_, rfl⟩
 rw [<- hx, <- hy, <- hz]
 rw [<- hx] at h1
 rw [<- hy] at h2
 rw [<- hz] at h3
 have H1 := lh h1; have H2 := lh h2; have H3 := lh h3
 have t0 := (((Grew.refl w).alloc (.cells #[.int .i64 k1, .int .i64 n1, .string s1] 31)).alloc (.cells #[.int .i64 k2, .int .i64 n2, .string s2] 31))
 clear h1 h2 h3 hx hy hz hc
 dsimp only [VD.val]
 go_enter Tryz.func112, Tryz.ntmps112
 go_wp2_with fail
 refine wp_still_tail' 15 (by kernel_rfl) (by kernel_rfl) ?_
 intro w2 hw2
 have ta := (((Touch.refl [] (w.alloc (.cells #[.int .i64 k1, .int .i64 n1, .string s1] 31))).alloc (.cells #[.int .i64 k2, .int .i64 n2, .string s2] 31))).drew
 have tb := ((Touch.refl [] ((w.alloc (.cells #[.int .i64 k1, .int .i64 n1, .string s1] 31)).alloc (.cells #[.int .i64 k2, .int .i64 n2, .string s2] 31)))).drew
 have t2 := t0.drew
 rw [<- hw2] at ta tb t2
 have hb1 := heap_alloc_new w (.cells #[.int .i64 k1, .int .i64 n1, .string s1] 31)
 have hb2 := heap_alloc_new (w.alloc (.cells #[.int .i64 k1, .int .i64 n1, .string s1] 31)) (.cells #[.int .i64 k2, .int .i64 n2, .string s2] 31)
 rw [World.size_alloc] at hb2
 have e0 := ta.cell (cell_blk hb1 (i := 0) rfl) (by simp)
 have e1 := ta.cell (cell_blk hb1 (i := 1) rfl) (by simp)
 have e2 := ta.cell (cell_blk hb1 (i := 2) rfl) (by simp)
 have f0 := tb.cell (cell_blk hb2 (i := 0) rfl) (by simp)
 have f1 := tb.cell (cell_blk hb2 (i := 1) rfl) (by simp)
 have f2 := tb.cell (cell_blk hb2 (i := 2) rfl) (by simp)
 clear hb1 hb2 ta tb t0 hw2
 simp only [List.take_succ_cons, List.take_zero, List.drop_succ_cons, List.drop_zero]
 repeat still_step
 still_call (H1.out _)
 repeat still_step
 still_call (H2.out _)
 repeat still_step
 still_call (H3.out _)
 refine wpStill_nil ?_
 have r3 : RdK inE (w2.alloc (.cells #[.int .i64 x, .int .i64 y, .int .i64 z] 3)) (some ⟨w2.heap.size, 0, none⟩) [x, y, z] := RdK.row w2 3 [x, y, z] _ rfl
 go_wp2_with fail
 refine (or_any _ 3 3 [x, y, z] rfl _ r3 (by omega)).mono ?_
 rintro e w3 ⟨rfl, rfl⟩
 go_wp2
 go_ret
 exact ⟨rfl, t2.alloc _⟩
theorem compareFuncG_any (A B : Option Addr) (c1 c2 n m : Nat) (l r : List VD) (hn : l.length = n) (hm : r.length = m) (w : World) (h : ValsAt w A l) (h2 : ValsAt w B r) (hl : n <= 140737000000000) (hl2 : m <= 140737000000000) :
  Calls Tryz.prog 111 #[.slice A n c1, .slice B m c2, .func (.func 112) #[] #[]] w fun e w' => e = .returned (.int .i64 (cmpRV l r)) /\ Grew w w' := by
 subst hn hm
 go_enter Tryz.func111, Tryz.ntmps111
 go_wp2
 go_loopw [13] (fun i wr => ∃ k : Nat, k <= l.length /\ k <= r.length /\ i = .int .i64 k /\ Hid (cmpRV l r = cmpRV (l.drop k) (r.drop k)) /\ Grew w wr) (fun i _ => l.length - (intOf i).toNat)
 case atStart => exact ⟨0, by omega, by omega, rfl, lh rfl, Grew.refl _⟩
 case round =>
  obtain ⟨k, hka, hkb, rfl, Ho, ht⟩ := hrel
  by_cases h1 : k < l.length
  ·obtain ⟨ad, b, off, rfl, hadd, c0, c1, c2⟩ := (h.touch0 ht.t).at_ k h1
   by_cases h2' : k < r.length
   ·obtain ⟨bd, b2, off2, rfl, hadd2, d0, d1, d2⟩ := (h2.touch0 ht.t).at_ k h2'
    have hst := cmpRV_step h1 h2'
    obtain ⟨x, hx⟩ : ∃ x, x = l[k] := ⟨_, rfl⟩
    obtain ⟨y, hy⟩ : ∃ y, y = r[k] := ⟨_, rfl⟩
    rw [<- hx, <- hy] at hst
    rw [<- hx] at c0 c1 c2
    rw [<- hy] at d0 d1 d2
    obtain ⟨k1, n1, s1⟩ := x
    obtain ⟨k2, n2, s2⟩ := y
    simp only at c0 c1 c2 d0 d1 d2
    have hcv := fun w' => cmpValG_any ⟨k1, n1, s1⟩ ⟨k2, n2, s2⟩ w'
    simp only [VD.val] at hcv
    obtain ⟨q, hq⟩ : ∃ q, q = cmpVV ⟨k1, n1, s1⟩ ⟨k2, n2, s2⟩ := ⟨_, rfl⟩
    rw [<- hq] at hst hcv
    have Hcv := lh hcv
    have Hst := lh hst
    have ta := ((Touch.refl [] wr).alloc (.cells #[.int .i64 k1, .int .i64 n1, .string s1] 31))
    have e0 := ta.cell d0 (by simp)
    have e1 := ta.cell d1 (by simp)
    have e2 := ta.cell d2 (by simp)
    have hkI : (k : Int) < (r.length : Int) := by omega
    have h0I : (0 : Int) <= (k : Int) := by omega
    clear hst hcv hx hy hq d0 d1 d2 ta
    have tb := (ht.alloc (.cells #[.int .i64 k1, .int .i64 n1, .string s1] 31)).alloc (.cells #[.int .i64 k2, .int .i64 n2, .string s2] 31)
    by_cases h0 : q = 0
    ·subst h0
     have Hq := lh (show cmpRV l r = cmpRV (l.drop (k + 1)) (r.drop (k + 1)) by rw [Ho.out, Hst.out, if_pos rfl])
     go_wp2_with fail
     refine (Hcv.out _).mono ?_
     rintro e w1 ⟨rfl, t1⟩
     go_wp2
     go_roundw
     case rel => exact ⟨k + 1, by omega, by omega, by go_num, Hq, tb.trans t1⟩
     case measure => simp [intOf]; omega
    ·have Hq := lh (show cmpRV l r = q by rw [Ho.out, Hst.out, if_neg h0])
     have hq : (q == 0) = false := by rw [beq_eq_false_iff_ne]; exact h0
     have hq' : (q != 0) = true := by rw [bne, hq]; rfl
     go_wp2_with fail
     refine (Hcv.out _).mono ?_
     rintro e w1 ⟨rfl, t1⟩
     go_wp2
     go_ret
     exact ⟨ret_int Hq.out.symm, tb.trans t1⟩
   ·have hE := cmpRV_end (l.drop k) (r.drop k) (.inr (List.drop_of_length_le (by omega)))
    rw [List.length_drop, List.length_drop] at hE
    have Hq := lh (show cmpRV l r = 1 by rw [Ho.out, hE, if_neg (by omega), if_pos (by omega)])
    obtain ⟨x, hx⟩ : ∃ x, x = l[k] := ⟨_, rfl⟩
    rw [<- hx] at c0 c1 c2
    obtain rfl : k = r.length := by omega
    clear hE hx Ho
    go_wp2
    go_ret
    exact ⟨ret_int Hq.out.symm, ht.alloc _⟩
  ·have hE := cmpRV_end (l.drop k) (r.drop k) (.inl (List.drop_of_length_le (by omega)))
   rw [List.length_drop, List.length_drop] at hE
   have HE := lh hE
   clear hE
   obtain rfl : k = l.length := by omega
   by_cases hq : l.length < r.length
   ·have Hq := lh (show cmpRV l r = -1 by rw [Ho.out, HE.out, if_pos (by omega)])
    have hqI : (l.length : Int) < (r.length : Int) := by omega
    clear HE Ho
    go_wp2
    go_ret
    exact ⟨ret_int Hq.out.symm, ht⟩
   ·have Hq := lh (show cmpRV l r = 0 by rw [Ho.out, HE.out, if_neg (by omega), if_neg (by omega)])
    have hqI : ¬ (l.length : Int) < (r.length : Int) := by omega
    clear HE Ho
    go_wp2
    go_ret
    exact ⟨ret_int Hq.out.symm, ht⟩
theorem cmpRowsG_any (A B : Option Addr) (c1 c2 n m : Nat) (l r : List VD) (hn : l.length = n) (hm : r.length = m) (w : World) (h : ValsAt w A l) (h2 : ValsAt w B r) (hl : n <= 140737000000000) (hl2 : m <= 140737000000000) :
  Calls Tryz.prog 81 #[.slice A n c1, .slice B m c2] w fun e w' => e = .returned (.int .i64 (cmpRV l r)) /\ Grew w w' := by
 have hcf := compareFuncG_any A B c1 c2 n m l r hn hm w h h2 hl hl2
 have Hcf := lh hcf
 clear hcf
 go_enter Tryz.func81, Tryz.ntmps81
 go_wp2_with fail
 refine Hcf.out.mono ?_
 rintro e w1 ⟨rfl, t1⟩
 go_wp2
 go_ret
 exact ⟨rfl, t1⟩
end
end Go.Proofs.YtafoklilkdnepaaGreatDoor
namespace Go.Proofs
open Go.Shelf
def Tryz.layPdqR_ren : Go.Shelf.Ren := ⟨fun | 14 => 172 | 20 => 177 | 21 => 195 | 22 => 196 | 23 => 197 | 24 => 198 | 25 => 199 | 26 => 200 | 27 => 201 | 46 => 208 | 47 => 159 | 48 => 160 | 49 => 209 | 50 => 210 | 15 => 85 | 57 => 214 | 28 => 124 | 29 => 125 | n => n, fun | 24 => 33 | 22 => 25 | 3 => 3 | 25 => 143 | 4 => 4 | 0 => 0 | 46 => 175 | 45 => 174 | 50 => 137 | 66 => 216 | 39 => 149 | 55 => 184 | 70 => 220 | 76 => 245 | 77 => 246 | 53 => 182 | 5 => 5 | 9 => 9 | n => n, fun | n => n⟩
theorem Tryz.layPdqR : Go.Proofs.SlLaysF.n14 Tryz.prog Tryz.layPdqR_ren := {
 mixed := by kernel_rfl
 f14 := ⟨Tryz.f172.name, by decide, Tryz.func172.trans (congrArg some (by kernel_rfl))⟩
 f15 := Tryz.func85.trans (congrArg some (by kernel_rfl))
 f20 := ⟨Tryz.f177.name, by decide, Tryz.func177.trans (congrArg some (by kernel_rfl))⟩
 f21 := ⟨Tryz.f195.name, by decide, Tryz.func195.trans (congrArg some (by kernel_rfl))⟩
 f22 := ⟨Tryz.f196.name, by decide, Tryz.func196.trans (congrArg some (by kernel_rfl))⟩
 f23 := ⟨Tryz.f197.name, by decide, Tryz.func197.trans (congrArg some (by kernel_rfl))⟩
 f24 := ⟨Tryz.f198.name, by decide, Tryz.func198.trans (congrArg some (by kernel_rfl))⟩
 f25 := ⟨Tryz.f199.name, by decide, Tryz.func199.trans (congrArg some (by kernel_rfl))⟩
 f26 := ⟨Tryz.f200.name, by decide, Tryz.func200.trans (congrArg some (by kernel_rfl))⟩
 f27 := ⟨Tryz.f201.name, by decide, Tryz.func201.trans (congrArg some (by kernel_rfl))⟩
 f28 := Tryz.func124.trans (congrArg some (by kernel_rfl))
 f29 := Tryz.func125.trans (congrArg some (by kernel_rfl))
 f46 := ⟨Tryz.f208.name, by decide, Tryz.func208.trans (congrArg some (by kernel_rfl))⟩
 f47 := Tryz.func159.trans (congrArg some (by kernel_rfl))
 f48 := Tryz.func160.trans (congrArg some (by kernel_rfl))
 f49 := ⟨Tryz.f209.name, by decide, Tryz.func209.trans (congrArg some (by kernel_rfl))⟩
 f50 := ⟨Tryz.f210.name, by decide, Tryz.func210.trans (congrArg some (by kernel_rfl))⟩
 f57 := ⟨Tryz.f214.name, by decide, Tryz.func214.trans (congrArg some (by kernel_rfl))⟩
 t0 := Tryz.underlying0
 a0 := Tryz.isAgg0
 z0 := Tryz.sizeOf0
 v0 := Tryz.zeroValue0
 t3 := Tryz.underlying3
 a3 := Tryz.isAgg3
 z3 := Tryz.sizeOf3
 v3 := Tryz.zeroValue3
 t4 := Tryz.underlying4
 a4 := Tryz.isAgg4
 z4 := Tryz.sizeOf4
 v4 := Tryz.zeroValue4
 t5 := Tryz.underlying5
 a5 := Tryz.isAgg5
 z5 := Tryz.sizeOf5
 v5 := Tryz.zeroValue5
 t9 := Tryz.underlying9
 a9 := Tryz.isAgg9
 z9 := Tryz.sizeOf9
 v9 := Tryz.zeroValue9
 t22 := Tryz.underlying25
 a22 := Tryz.isAgg25
 z22 := Tryz.sizeOf25
 v22 := Tryz.zeroValue25
 a24 := Tryz.isAgg33
 z24 := Tryz.sizeOf33
 t25 := Tryz.underlying143
 a25 := Tryz.isAgg143
 z25 := Tryz.sizeOf143
 v25 := Tryz.zeroValue143
 t39 := Tryz.underlying149
 a39 := Tryz.isAgg149
 z39 := Tryz.sizeOf149
 v39 := Tryz.zeroValue149
 t45 := Tryz.underlying174
 a45 := Tryz.isAgg174
 z45 := Tryz.sizeOf174
 v45 := Tryz.zeroValue174
 t46 := Tryz.underlying175
 a46 := Tryz.isAgg175
 z46 := Tryz.sizeOf175
 v46 := Tryz.zeroValue175
 t50 := Tryz.underlying137
 a50 := Tryz.isAgg137
 z50 := Tryz.sizeOf137
 v50 := Tryz.zeroValue137
 t53 := Tryz.underlying182
 a53 := Tryz.isAgg182
 z53 := Tryz.sizeOf182
 v53 := Tryz.zeroValue182
 t55 := Tryz.underlying184
 a55 := Tryz.isAgg184
 z55 := Tryz.sizeOf184
 v55 := Tryz.zeroValue184
 t66 := Tryz.underlying216
 a66 := Tryz.isAgg216
 z66 := Tryz.sizeOf216
 v66 := Tryz.zeroValue216
 t70 := Tryz.underlying220
 a70 := Tryz.isAgg220
 z70 := Tryz.sizeOf220
 v70 := Tryz.zeroValue220
 t76 := Tryz.underlying245
 a76 := Tryz.isAgg245
 z76 := Tryz.sizeOf245
 v76 := Tryz.zeroValue245
 t77 := Tryz.underlying246
 a77 := Tryz.isAgg246
 z77 := Tryz.sizeOf246
 v77 := Tryz.zeroValue246 }
end Go.Proofs
namespace Go.Proofs.YtafoklilkdnepaaGreatDoor
section
open Go.RowKit Go.Shelf Go.Lib Go.Sort
theorem touch_sortWorldR {α : Type} [Inhabited α] (enc : α -> Value) (w : World) (q g : Nat) (d : Array α) (os : Array Obj) : Touch [g] w (sortWorld enc w g 0 q d os) := by
 have h : Touch [g] w (putRow enc (Go.Sort.ahead w q) g 0 d) :=
  ⟨rfl, rfl, rfl, by simp, fun k _ hn => by
   have : ¬ g = k := fun e => hn (by simp [e])
   simp [putRow, mapBlock, Array.getElem?_modify, this, Go.Sort.ahead]⟩
 refine ⟨h.os, h.tape, h.output, ?_, fun k hk hn => ?_⟩
 ·have := h.size
  simp only [sortWorld, grow, Array.size_append]
  omega
 ·rw [<- h.block k hk hn]
  have hk2 : k < (putRow enc (Go.Sort.ahead w q) g 0 d).heap.size := Nat.lt_of_lt_of_le hk h.size
  simp only [sortWorld, grow]
  exact Array.getElem?_append_left hk2
def ltRV (a b : List VD) : Bool := decide (cmpRV a b < 0)
theorem ltRV_irr (a : List VD) : ltRV a a = false := by
 unfold ltRV; rw [decide_eq_false_iff_not]; have := cmpRV_neg a a; omega
theorem ltRV_tr {a b c : List VD} (h1 : ltRV a b = true) (h2 : ltRV b c = true) : ltRV a c = true := by
 unfold ltRV at *
 have h1 := of_decide_eq_true h1
 have h2 := of_decide_eq_true h2
 obtain ⟨h3, h4⟩ := tr_row a b c (by omega) (by omega)
 refine decide_eq_true ?_
 by_cases hz : cmpRV a c = 0
 ·have := (h4.1 hz).1; omega
 ·omega
theorem ltRV_ntr {a b c : List VD} (h1 : ltRV a b = false) (h2 : ltRV b c = false) : ltRV a c = false := by
 unfold ltRV at *
 have h1 := of_decide_eq_false h1
 have h2 := of_decide_eq_false h2
 have := cmpRV_neg a b
 have := cmpRV_neg b c
 have := cmpRV_neg a c
 have := (tr_row c b a (by omega) (by omega)).1
 rw [decide_eq_false_iff_not]
 omega
def SortedK (rows : List (List VD)) (T : List (SL × List VD)) (sl : List SL) : Prop := T.Perm (sl.zip rows) /\ (T.map (·.2)).Pairwise fun a b => cmpRV a b <= 0
theorem sortK_any (G c : Nat) (sl : List SL) (rows : List (List VD)) (n : Nat) (hn : sl.length = n) (h0 : 0 < n) (hbig : n <= 1000000) (w : World) (h : SlsAt w sl rows) (hown : OwnK 33 1 slE w (some ⟨G, 0, none⟩) c sl) (hG : ∀ s ∈ sl, G ∉ fpo s.A) (hrl : ∀ r ∈ rows, r.length <= 140737000000000) :
  Calls Tryz.prog 138 #[.slice (some ⟨G, 0, none⟩) n c, .func (.func 81) #[] #[]] w fun e w' => e = .returned (.tuple #[]) /\ Touch [G] w w' /\
   ∃ T, SortedK rows T sl /\ RdK slE w' (some ⟨G, 0, none⟩) (T.map (·.1)) := by
 subst hn
 haveI : Inhabited (Fin sl.length) := ⟨⟨0, h0⟩⟩
 obtain ⟨enc, henc⟩ : ∃ enc : Fin sl.length -> Value, enc = fun i => .slice sl[i].A sl[i].n sl[i].c := ⟨_, rfl⟩
 obtain ⟨rw_, hrw⟩ : ∃ rw_ : Fin sl.length -> List VD, rw_ = fun i => rows.getD i.1 [] := ⟨_, rfl⟩
 have hrg : ∀ (i : Fin sl.length) (hi : i.1 < rows.length), rw_ i = rows[i.1] := fun i hi => by rw [hrw]; simp [List.getD, hi]
 obtain ⟨cf, hcf⟩ : ∃ cf : Fin sl.length -> Fin sl.length -> Int, cf = fun i j => cmpRV (rw_ i) (rw_ j) := ⟨_, rfl⟩
 obtain ⟨d, hd⟩ : ∃ d : Array (Fin sl.length), d = Array.ofFn id := ⟨_, rfl⟩
 have hrs : rows.length = sl.length := h.1.symm
 have hds : d.size = sl.length := by rw [hd]; simp
 have hlt : ∀ i j, ltOf cf i j = ltRV (rw_ i) (rw_ j) := fun i j => by rw [hcf]; rfl
 have hO : SWO (ltOf cf) := ⟨fun x => by rw [hlt]; exact ltRV_irr _, fun x y z h1 h2 => by rw [hlt] at *; exact ltRV_tr h1 h2, fun x y z h1 h2 => by rw [hlt] at *; exact ltRV_ntr h1 h2⟩
 have hblk : G < w.heap.size := hown.lt G (by simp [fpo])
 have hH : Holds enc w G 0 d := by
  intro j hj
  rw [hds] at hj
  have hx : (sl.flatMap slE)[j]? = some (.slice sl[j].A sl[j].n sl[j].c) := by
   have := flat_get slE 1 slE_length sl j 0 hj (by omega)
   rw [Nat.mul_one] at this
   exact this
  have hc := World.ownsRow.cells hown (g := G) rfl j _ hx
  rw [show (⟨G, 0, none⟩ : Addr).add j = ⟨G, 0 + j, none⟩ by unfold Addr.add; split <;> simp_all] at hc
  refine ⟨?_, ?_⟩
  ·rw [hc, henc]
   have hdj : d[j]! = ⟨j, hj⟩ := by
    rw [getElem!_pos d j (by rw [hds]; exact hj)]
    simp [hd]
   rw [hdj]; rfl
  ·rw [Nat.zero_add]; exact hown.free_ j
 have hcmp : CmpLays1 Tryz.prog 81 #[] enc cf G 0 d.size w := by
  intro m os dk hk x y
  have T := touch_sortWorldR enc w m G dk os
  have key : ∀ i : Fin sl.length, ValsAt (sortWorld enc w G 0 m dk os) sl[i].A (rw_ i) /\ (rw_ i).length = sl[i].n := fun i => by
   have h1 := h.2 i i.2 (by rw [hrs]; exact i.2)
   rw [hrg i (by rw [hrs]; exact i.2)]
   refine ⟨RdK.touch h1.2 T (fun b hb hm => ?_), h1.1.symm⟩
   have : b = G := by simpa using hm
   exact hG _ (List.getElem_mem i.2) (this ▸ hb)
  have hrl' : ∀ i : Fin sl.length, (rw_ i).length <= 140737000000000 := fun i => by rw [hrg i (by rw [hrs]; exact i.2)]; exact hrl _ (List.getElem_mem _)
  have kx := key x
  have ky := key y
  have := cmpRowsG_any sl[x].A sl[y].A sl[x].c sl[y].c sl[x].n sl[y].n (rw_ x) (rw_ y) kx.2 ky.2 (sortWorld enc w G 0 m dk os) kx.1 ky.1 (by rw [<- kx.2]; exact hrl' x) (by rw [<- ky.2]; exact hrl' y)
  rw [henc, hcf] at *
  refine this.mono ?_
  rintro e w' ⟨rfl, g⟩
  exact ⟨rfl, g.form⟩
 have eg : ∀ args w, (callFunc 81 args).run Tryz.prog w = .ok (.enter 81 args) w := enters_of Tryz.func81 (by kernel_rfl) rfl
 have hlim : Lib.bitLen d.size < 4611686018427387904 := Nat.lt_of_le_of_lt (Lib.bitLen_le d.size 62 (by omega) (by omega)) (by omega)
 have hpd := Any.pdqsortCmpFunc_all Tryz.layPdqR enc cf 81 #[] hO G 0 c d w eg hcmp ⟨fun i => by rw [henc]; rfl, hH, hblk⟩ (d.size + 1) 0 d.size (Lib.bitLen d.size) d w (by omega) rfl (SW.start hH) (Nat.zero_le _) (Nat.le_refl _) (by omega) hlim (Or.inl rfl)
 rw [hds] at hpd
 change Calls Tryz.prog 172 _ _ _ at hpd
 have hl := Tryz.bits_Len (sl.length : Int) w (by omega) (by omega)
 rw [Int.toNat_natCast] at hl
 have wr : IntKind.u64.wrap (sl.length : Int) = sl.length := by simp [IntKind.wrap, IntKind.bits, IntKind.signed]; omega
 have hsort := pdq_sorts (ltOf cf) hO d 0 sl.length (Lib.bitLen sl.length) true true (Nat.zero_le _) (by rw [hds]; exact Nat.le_refl _) (Or.inl rfl)
 obtain ⟨d', hd'⟩ : ∃ d', d' = Go.Sort.pdq (ltOf cf) d 0 sl.length (Lib.bitLen sl.length) true true := ⟨_, rfl⟩
 rw [<- hd'] at hpd hsort
 have Hpd := lh hpd
 have Hl := lh hl
 have Henc := lh henc
 have Hrs := lh hrs
 clear hpd hl hcmp hd' hlim h hown eg henc hrs
 go_enter Tryz.func138, Tryz.ntmps138
 go_wp2_with fail
 refine Hl.out.mono ?_
 rintro e w' ⟨rfl, rfl⟩
 go_wp2_with fail
 refine Hpd.out.mono ?_
 rintro e w1 ⟨rfl, q, os, rfl⟩
 go_wp2_with fail
 go_end0
 obtain ⟨hpi, hso⟩ := hsort
 have hrs := Hrs.out
 have hds' : d'.size = sl.length := by rw [hpi.1, hds]
 have hpl : d'.toList.Perm d.toList := by
  have h3 := hpi.2.2
  have e1 := @Array.extract_size _ d'
  have e2 := @Array.extract_size _ d
  rw [hds'] at e1
  rw [hds] at e2
  rw [e1, e2] at h3
  exact h3
 have hdl : d.toList.map (fun i => (sl.get i, rw_ i)) = sl.zip rows := by
  rw [hd]
  rw [Array.toList_ofFn, List.map_ofFn]
  refine List.ext_getElem (by simp [hrs]) (fun i h1 h2 => ?_)
  rw [List.getElem_zip]
  have hi : i < sl.length := by simpa using h1
  have := hrg ⟨i, hi⟩ (by rw [hrs]; exact hi)
  simp [this]
 have hSp : (d'.toList.map (fun i => (sl.get i, rw_ i))).Perm (sl.zip rows) := by
  have := hpl.map (fun i => (sl.get i, rw_ i))
  rwa [hdl] at this
 refine ⟨rfl, touch_sortWorldR enc w' q G d' os, d'.toList.map (fun i => (sl.get i, rw_ i)), ⟨hSp, ?_⟩, ?_⟩
 ·rw [List.pairwise_iff_getElem]
  intro i j hi hj hij
  have hi' : i < d'.size := by simpa using hi
  have hj' : j < d'.size := by simpa using hj
  have h1 := hso i j (Nat.zero_le _) hij (by omega)
  rw [hlt, getElem!_pos d' j hj', getElem!_pos d' i hi'] at h1
  unfold ltRV at h1
  have h1 := of_decide_eq_false h1
  simp only [List.getElem_map, Array.getElem_toList]
  have := cmpRV_neg (rw_ d'[i]) (rw_ d'[j])
  omega
 ·rw [List.map_map]
  intro _
  refine ⟨_, rfl, fun j u hu => ?_⟩
  have hfm : ((d'.toList.map ((fun x : SL × List VD => x.1) ∘ fun i => (sl.get i, rw_ i))).flatMap slE) = d'.toList.map (fun i => enc i) := by
   rw [Henc.out, List.flatMap_map]
   show d'.toList.flatMap (fun i => [(.slice (sl.get i).A (sl.get i).n (sl.get i).c : Value)]) = _
   exact flat_one _
  rw [hfm] at hu
  obtain ⟨hj, hu2⟩ := List.getElem?_eq_some_iff.1 hu
  have hj' : j < d'.size := by simpa using hj
  have := (holds_sortWorld enc w' G 0 q d d' os hblk hH (by rw [hds', hds]) j hj').1
  rw [show (⟨G, 0, none⟩ : Addr).add j = ⟨G, 0 + j, none⟩ by unfold Addr.add; split <;> simp_all, this, getElem!_pos d' j hj', <- hu2]
  simp
end
end Go.Proofs.YtafoklilkdnepaaGreatDoor
