/- bywashref06.first, bywashref06.Safe. -/
import Derived.Test.YtgpadejkmpfafaaRDisk
import Derived.Deep.RegionLaw
import Derived.Deep.RegionHeld3
namespace Go.Proofs.Ytgpadejkmpfafaa
open Go.RowKit

theorem info_bool : (Try.prog.info? 4).map (fun i => (i.zero, i.size, i.bytes)) = some (some (.bool false), 1, 1) := by kernel_rfl
/-- append onto bools that the calls own: one more -/
theorem wpList_appO {w : World} {ops : Array Oper} {rest : List Oper} {o : Oper} {a : Act} {Q : Exit → Act → World → Prop} (hgd : o.guard = none) (s x : Operand)
    (ho : o.op = .call { callee := .builtin .append, args := #[s, x], argTypes := #[45, 45] })
    (A0 : Option Addr) (n c0 : Nat) (l : List Bool) (hn : l.length = n) (hs : a.eval s = .slice A0 n c0) (hown : OwnO w A0 c0 l)
    (H : Nat) (v : Bool) (hx : a.eval x = .slice (some ⟨H, 0, none⟩) 1 1) (hc : w.cell? ⟨H, 0, none⟩ = some (.bool v)) (hbytes : n < 100000000000)
    (h : ∀ A' c' w', OwnO w' A' c' (l ++ [v]) → Touch (fpo A0) w w' → (∀ b ∈ fpo A', b ∈ fpo A0 ∨ b = w.heap.size) → wpList Try.prog ops Q rest (a.put o.dst (.slice A' (n + 1) c')) w') :
    wpList Try.prog ops Q (o :: rest) a w := by
  obtain ⟨i0, hi0, hz0, hz1, hz2⟩ := info_parts info_bool
  subst hn
  have hadd : (⟨H, 0, none⟩ : Addr).add 0 = ⟨H, 0, none⟩ := by unfold Addr.add; split <;> simp_all
  refine wpList_app w hgd s x _ ho 4 i0 _ 1 1 Try.underlying45 hi0 hz0 hz1 hz2 rfl (by omega) A0 l.length c0 _ hs hown (some ⟨H, 0, none⟩) 1 1 [.bool v] hx (by simp)
    (fun _ => ⟨_, rfl, fun j u hu => by
      rcases j with _ | j
      · simp at hu; subst hu; rw [hadd]; exact hc
      · simp at hu⟩) (by simp [Value.oneCell']) (by simp only [maxLen]; omega) (by omega) ?_
  intro A' c' w' h2 h3 h4
  exact h A' c' w' (by unfold OwnO; rw [List.map_append, List.length_append]; exact h2) h3 h4
/-- the same as one step of a region that draws its order -/
theorem step_appO {w : World} {ops : Array Oper} {o : Oper} {a : Act} {K : Act → World → Prop} {Q : Exit → Act → World → Prop} {E : Prop} (hgd : o.guard = none) (s x : Operand)
    (ho : o.op = .call { callee := .builtin .append, args := #[s, x], argTypes := #[45, 45] })
    (A0 : Option Addr) (n c0 : Nat) (l : List Bool) (hn : l.length = n) (hs : a.eval s = .slice A0 n c0) (hown : OwnO w A0 c0 l)
    (H : Nat) (v : Bool) (hx : a.eval x = .slice (some ⟨H, 0, none⟩) 1 1) (hc : w.cell? ⟨H, 0, none⟩ = some (.bool v)) (hbytes : n < 100000000000)
    (h : ∀ A' c' w', OwnO w' A' c' (l ++ [v]) → Touch (fpo A0) w w' → (∀ b ∈ fpo A', b ∈ fpo A0 ∨ b = w.heap.size) → K (a.put o.dst (.slice A' (n + 1) c')) w') :
    if Region.wanted o (yielded ops a.tmps) = true then Oper.wp Try.prog o a w K Q else E := by
  obtain ⟨i0, hi0, hz0, hz1, hz2⟩ := info_parts info_bool
  subst hn
  have hadd : (⟨H, 0, none⟩ : Addr).add 0 = ⟨H, 0, none⟩ := by unfold Addr.add; split <;> simp_all
  refine step_app w hgd s x _ ho 4 i0 _ 1 1 Try.underlying45 hi0 hz0 hz1 hz2 rfl (by omega) A0 l.length c0 _ hs hown (some ⟨H, 0, none⟩) 1 1 [.bool v] hx (by simp)
    (fun _ => ⟨_, rfl, fun j u hu => by
      rcases j with _ | j
      · simp at hu; subst hu; rw [hadd]; exact hc
      · simp at hu⟩) (by simp [Value.oneCell']) (by simp only [maxLen]; omega) (by omega) ?_
  intro A' c' w' h2 h3 h4
  exact h A' c' w' (by unfold OwnO; rw [List.map_append, List.length_append]; exact h2) h3 h4

/-- how many lead that are true -/
def trues : List Bool → Nat
  | true :: l => trues l + 1
  | _ => 0
theorem trues_le (l : List Bool) : trues l ≤ l.length := by
  induction l with
  | nil => simp [trues]
  | cons b l ih => cases b <;> simp [trues]; omega
theorem trues_get (l : List Bool) (k : Nat) (hk : k ≤ trues l) (hl : k < l.length) : l[k] = decide (k < trues l) := by
  induction l generalizing k with
  | nil => simp at hl
  | cons b l ih =>
    cases b
    · simp [trues] at hk ⊢; subst hk; simp
    · cases k with
      | zero => simp [trues]
      | succ k =>
        have := ih k (by simpa [trues] using hk) (by simpa using hl)
        simpa [trues] using this

set_option maxHeartbeats 800000 in
theorem rsafe_any (va : Value) (Bs : Option Addr) (d n : Nat) (bs : List Bool) (hn : bs.length = n) (hl : n ≤ 1073741824) (w : World) (hr : RdO w Bs bs) :
    Calls Try.prog 26 #[.agg #[va, .slice Bs n d]] w fun e w' => e = .returned (.int .i64 (trues bs : Nat)) ∧ Touch [] w w' := by
  subst hn
  have htl := trues_le bs
  go_enter Try.func26, Try.ntmps26
  have c0 : (w.alloc (.cells #[va, .slice Bs bs.length d] 47)).cell? ⟨w.heap.size, 1, none⟩ = some (.slice Bs bs.length d) := by
    rw [cell_of_row _ _ _ _ _ _ (heap_alloc_new w _)]; rfl
  have ta := (Touch.refl [] w).alloc (.cells #[va, .slice Bs bs.length d] 47)
  have hr1 : RdO (w.alloc (.cells #[va, .slice Bs bs.length d] 47)) Bs bs := Rd.touch0 hr ta
  go_wp2_with fail
  obtain ⟨W, hW⟩ : ∃ W, W = w.alloc (.cells #[va, .slice Bs bs.length d] 47) := ⟨_, rfl⟩
  rw [← hW] at c0 ta hr1 ⊢
  clear hW
  go_loop [3] (fun i => ∃ k : Nat, k ≤ trues bs ∧ i = .int .i64 k) (fun i => bs.length - (intOf i).toNat)
  case atStart => exact ⟨0, by omega, rfl⟩
  case round =>
    obtain ⟨k, hk, rfl⟩ := hrel
    by_cases hlt : k < bs.length
    · obtain ⟨ad, rfl, hcell⟩ := hr1.at_ k hlt
      rw [trues_get bs k hk hlt] at hcell
      by_cases hkt : k < trues bs
      · rw [decide_eq_true hkt] at hcell
        go_wp2
        go_round
        case rel => exact ⟨k + 1, by omega, by go_num⟩
        case measure => simp [intOf]; omega
      · rw [decide_eq_false hkt] at hcell
        go_wp2
        go_ret
        exact ⟨ret_int (by omega), ta⟩
    · go_wp2
      go_ret
      exact ⟨ret_int (by omega), ta⟩

/-- what first has made so far -/
def FirstAt (w : World) (l : List UInt8) (k : Nat) (A1 : Option Addr) (c1 : Nat) (B1 : Option Addr) (d1 : Nat) (wr : World) : Prop :=
  wr.heap[w.heap.size + 2]? = some (.cells #[.slice A1 k c1, .slice B1 k d1] 47 (0, 0)) ∧ OwnB wr A1 c1 (l.take k) ∧ OwnO wr B1 d1 (List.replicate k true) ∧
    (∀ b ∈ fpo A1, w.heap.size + 3 ≤ b ∧ b ∉ fpo B1) ∧ (∀ b ∈ fpo B1, w.heap.size + 3 ≤ b) ∧ w.heap.size + 3 ≤ wr.heap.size

set_option maxRecDepth 20000 in
set_option maxHeartbeats 1600000 in
theorem first_any (A : Option Addr) (c : Nat) (l : List UInt8) (vb : Value) (n : Nat) (hn : n ≤ l.length) (hl : l.length ≤ 1073741824) (w : World) (hr : RdB w A l) :
    Calls Try.prog 49 #[.agg #[.slice A l.length c, vb], .int .i64 n] w fun e w' => ∃ A1 c1 B1 d1, e = .returned (.agg #[.slice A1 n c1, .slice B1 n d1]) ∧ OwnB w' A1 c1 (l.take n) ∧ OwnO w' B1 d1 (List.replicate n true) ∧ Touch [] w w' ∧
      (∀ b ∈ fpo A1, w.heap.size ≤ b ∧ b ∉ fpo B1) ∧ ∀ b ∈ fpo B1, w.heap.size ≤ b := by
  have t0 := (Touch.refl [] w).alloc (.cells #[.slice A l.length c, vb] 47)
  have t1 := t0.alloc (.cells #[.slice none 0 0, .slice none 0 0] 47)
  have t2 := t1.alloc (.cells #[.slice none 0 0, .slice none 0 0] 47)
  go_enter Try.func49, Try.ntmps49
  go_wp2_with fail
  obtain ⟨W0, hW0⟩ : ∃ W0, W0 = ((w.alloc (.cells #[.slice A l.length c, vb] 47)).alloc (.cells #[.slice none 0 0, .slice none 0 0] 47)).alloc (.cells #[.slice none 0 0, .slice none 0 0] 47) := ⟨_, rfl⟩
  have hb0 : W0.heap[w.heap.size]? = some (.cells #[.slice A l.length c, vb] 47 (0, 0)) := by
    rw [hW0, Below.heap_alloc _ _ _ (by simp; omega), Below.heap_alloc _ _ _ (by simp)]; exact heap_alloc_new w _
  have hb1 : W0.heap[w.heap.size + 1]? = some (.cells #[.slice none 0 0, .slice none 0 0] 47 (0, 0)) := by
    rw [hW0, Below.heap_alloc _ _ _ (by simp)]
    have := heap_alloc_new (w.alloc (.cells #[.slice A l.length c, vb] 47)) (.cells #[.slice none 0 0, .slice none 0 0] 47)
    simpa using this
  have hb2 : W0.heap[w.heap.size + 2]? = some (.cells #[.slice none 0 0, .slice none 0 0] 47 (0, 0)) := by
    rw [hW0]
    have := heap_alloc_new ((w.alloc (.cells #[.slice A l.length c, vb] 47)).alloc (.cells #[.slice none 0 0, .slice none 0 0] 47)) (.cells #[.slice none 0 0, .slice none 0 0] 47)
    simpa using this
  have hsz : W0.heap.size = w.heap.size + 3 := by rw [hW0]; simp
  rw [← hW0] at t2 ⊢
  have hr0 : RdB W0 A l := Rd.touch0 hr t2
  have Hsz := Lib.hid hsz
  have Hb1 := Lib.hid hb1
  have F0 := Lib.hid (show FirstAt w l 0 none 0 none 0 W0 from ⟨hb2, OwnB.nil _, OwnO.nil _, by simp [fpo], by simp [fpo], by omega⟩)
  clear hW0 t0 t1 hsz hb1 hb2
  have H2 : Hid (w.heap.size + 1 + 1 = w.heap.size + 2) := Lib.hid rfl
  rw [H2.out]
  go_loopw [6] (fun i wr => ∃ (k : Nat) (A1 : Option Addr) (c1 : Nat) (B1 : Option Addr) (d1 : Nat), k ≤ n ∧ i = .int .i64 k ∧ FirstAt w l k A1 c1 B1 d1 wr ∧ Touch [w.heap.size + 2] W0 wr) (fun i _ => n - (intOf i).toNat)
  case atStart => exact ⟨0, none, 0, none, 0, by omega, rfl, F0.out, Touch.refl _ _⟩
  case round =>
    obtain ⟨k, A1, c1, B1, d1, hk, rfl, ⟨hblk, hA, hB, hfA, hfB, hszr⟩, hT⟩ := hrel
    clear F0
    have hb0r := hT.blk hb0 (by simp)
    have cf : wr.cell? ⟨w.heap.size, 0, none⟩ = some (.slice A l.length c) := by rw [cell_of_row _ _ _ _ _ _ hb0r]; rfl
    have co0 : wr.cell? ⟨w.heap.size + 2, 0, none⟩ = some (.slice A1 k c1) := by rw [cell_of_row _ _ _ _ _ _ hblk]; rfl
    have co1 : wr.cell? ⟨w.heap.size + 2, 1, none⟩ = some (.slice B1 k d1) := by rw [cell_of_row _ _ _ _ _ _ hblk]; rfl
    have zo := free_blk hblk
    by_cases hlt : k < n
    · have hkl : k < l.length := by omega
      have hrr : RdB wr A l := by
        intro h0
        exact Rd.touch hr0 hT (fun b hb hm => by
          have h1 := Rd.lt hr (by simpa using h0) b hb
          simp at hm; omega) h0
      obtain ⟨ad, rfl, hcell⟩ := hrr.at_ k hkl
      obtain ⟨x, hx⟩ : ∃ x, x = l[k] := ⟨_, rfl⟩
      rw [← hx] at hcell
      have hsn : l.take (k + 1) = l.take k ++ [x] := by rw [hx]; exact List.take_succ_eq_append_getElem hkl
      have Hsn := Lib.hid hsn
      have hlk : (l.take k).length = k := by rw [List.length_take]; omega
      have Hlk := Lib.hid hlk
      have hkI0 : (0 : Int) ≤ (k : Int) := by omega
      have hkI : (k : Int) < (l.length : Int) := by omega
      have hadb : ad.block < w.heap.size := Rd.lt hr (by simp; omega) _ (by simp [fpo])
      have z0 := zo 0
      have z1 := zo 1
      have hxl := x.toNat_lt
      clear hx hsn hlk hb0r hrr
      go_wp2_with fail
      have ta := ((Touch.refl [] wr).alloc (.cells #[.int .u8 (x.toNat : Int)] 5)).drew
      have hrd := Rd.touch0 (RdB.one' wr x (z := (x.toNat : Int)) rfl) ((Touch.refl [] _).drew)
      have co0a := fun o => ((Touch.refl [] wr).alloc o).cell co0 (by simp)
      have cfa := fun o => ((Touch.refl [] wr).alloc o).cell cf (by simp)
      have cba := fun o => ((Touch.refl [] wr).alloc o).cell hcell (by simp)
      go_region_law (first | (refine step_appB rfl (.tmp 13) (.tmp 19) rfl A1 k c1 (l.take k) Hlk.out rfl (by exact hA.touch0 ta) (some ⟨wr.heap.size, 0, none⟩) 1 1 [x] rfl rfl (by exact hrd) (by omega) ?_; intro A2 c2 w2 hown2 ht2 hf2; have blk2 := ht2.blk (by exact ta.blk hblk (by simp)) (fun hm => by have := hfA _ hm; omega); have co20 := cell_blk blk2 (i := 0) rfl; have z20 := free_blk blk2 0))
      all_goals
        have hf2' : ∀ b ∈ fpo A2, w.heap.size + 3 ≤ b ∧ b ∉ fpo B1 := fun b hb => by
          rcases hf2 b hb with h1 | h1
          · exact hfA b h1
          · simp at h1
            exact ⟨by omega, fun hm => by have := hB.lt b hm; omega⟩
        have blk3 := set_blk blk2 0 (.slice A2 (k + 1) c2)
        have ht3 := (Touch.refl [w.heap.size + 2] w2).setCell (p := ⟨w.heap.size + 2, 0, none⟩) (.inl (by simp)) (.slice A2 (k + 1) c2)
        have co31 := cell_blk blk3 (i := 1) (v := .slice B1 k d1) rfl
        have z31 := free_blk blk3 1
        have hB3 : OwnO (w2.setCell ⟨w.heap.size + 2, 0, none⟩ (.slice A2 (k + 1) c2)) B1 d1 (List.replicate k true) :=
          ((hB.touch0 ta).touch ht2 (fun b hb hm => (hfA b hm).2 hb)).touch ht3 (fun b hb hm => by have := hfB b hb; simp at hm; omega)
        have hA3 : OwnB (w2.setCell ⟨w.heap.size + 2, 0, none⟩ (.slice A2 (k + 1) c2)) A2 c2 (l.take k ++ [x]) := hown2.touch ht3 (fun b hb hm => by have := (hf2' b hb).1; simp at hm; omega)
        obtain ⟨W3, hW3⟩ : ∃ W3, W3 = w2.setCell ⟨w.heap.size + 2, 0, none⟩ (.slice A2 (k + 1) c2) := ⟨_, rfl⟩
        rw [← hW3] at blk3 ht3 co31 z31 hB3 hA3 ⊢
        clear hW3
        have hs2 := ht2.size
        have hs3 := ht3.size
        simp at hs2
        have ty := (Touch.refl [] W3).alloc (.cells #[.bool true] 4)
        have hcy : (W3.alloc (.cells #[.bool true] 4)).cell? ⟨W3.heap.size, 0, none⟩ = some (.bool true) := cell_of_one (heap_alloc_new W3 _)
        have blk4 := ty.blk blk3 (by simp)
        go_wp2_with (at_builtin; refine stop ?_)
        refine go ?_
        refine wpList_appO rfl (.tmp 23) (.tmp 24) rfl B1 k d1 (List.replicate k true) List.length_replicate rfl (hB3.touch0 ty) W3.heap.size true rfl hcy (by omega) ?_
        intro A5 c5 w5 hown5 ht5 hf5
        have blk5 := ht5.blk blk4 (fun hm => by have := hfB _ hm; omega)
        have z51 := free_blk blk5 1
        have co51 := cell_blk blk5 (i := 1) (v := .slice B1 k d1) rfl
        have blk6 := set_blk blk5 1 (.slice A5 (k + 1) c5)
        have ht6 := (Touch.refl [w.heap.size + 2] w5).setCell (p := ⟨w.heap.size + 2, 1, none⟩) (.inl (by simp)) (.slice A5 (k + 1) c5)
        have hs5 := ht5.size
        simp at hs5
        have hltA3 := hA3.lt
        have hf5' : ∀ b ∈ fpo A5, w.heap.size + 3 ≤ b ∧ b ∉ fpo A2 := fun b hb => by
          rcases hf5 b hb with h1 | h1
          · exact ⟨hfB b h1, fun hm => (hf2' b hm).2 h1⟩
          · simp at h1
            exact ⟨by omega, fun hm => by have := hltA3 b hm; omega⟩
        have hrep : List.replicate k true ++ [true] = List.replicate (k + 1) true := by rw [List.replicate_succ']
        rw [hrep] at hown5
        have Hf : Hid (FirstAt w l (k + 1) A2 c2 A5 c5 (w5.setCell ⟨w.heap.size + 2, 1, none⟩ (.slice A5 (k + 1) c5))) := Lib.hid (by
          refine ⟨blk6, ?_, ?_, fun b hb => ⟨(hf2' b hb).1, fun hm => (hf5' b hm).2 hb⟩, fun b hb => (hf5' b hb).1, by have := ht6.size; omega⟩
          · rw [Hsn.out]
            exact ((hA3.touch0 ty).touch ht5 (fun b hb hm => (hf2' b hb).2 hm)).touch ht6 (fun b hb hm => by have := (hf2' b hb).1; simp at hm; omega)
          · exact hown5.touch ht6 (fun b hb hm => by have := (hf5' b hb).1; simp at hm; omega))
        have Hsz0 := Hsz.out
        have HT : Hid (Touch [w.heap.size + 2] W0 (w5.setCell ⟨w.heap.size + 2, 1, none⟩ (.slice A5 (k + 1) c5))) := Lib.hid (by
          refine ((((hT.trans0 ta).trans ht2 (fun b hb => .inr ?_)).trans ht3 (fun b hb => .inl hb)).trans0 ty |>.trans ht5 (fun b hb => .inr ?_)).trans ht6 (fun b hb => .inl hb)
          · have := (hfA b hb).1; omega
          · have := hfB b hb; omega)
        clear Hsz0 hrep blk6 ht6
        go_wp2_with fail
        go_roundw
        case rel => exact ⟨k + 1, A2, c2, A5, c5, by omega, by go_num, Hf.out, HT.out⟩
        case measure => simp [intOf]; omega
    · obtain rfl : k = n := by omega
      have hb1 := hT.blk Hb1.out (by simp)
      have cr0 : wr.cell? ⟨w.heap.size + 1, 0, none⟩ = some (.slice none 0 0) := cell_blk hb1 rfl
      have cr1 : wr.cell? ⟨w.heap.size + 1, 1, none⟩ = some (.slice none 0 0) := cell_blk hb1 rfl
      have zr0 := free_blk hb1 0
      have zr1 := free_blk hb1 1
      go_wp2_with fail
      have hbf := set_blk (set_blk hb1 0 (.slice A1 k c1)) 1 (.slice B1 k d1)
      have tf := ((Touch.refl [w.heap.size + 1] wr).setCell (p := ⟨w.heap.size + 1, 0, none⟩) (.inl (by simp)) (.slice A1 k c1)).setCell (p := ⟨w.heap.size + 1, 1, none⟩) (.inl (by simp)) (.slice B1 k d1)
      obtain ⟨W6, hW6⟩ : ∃ W6, W6 = (wr.setCell ⟨w.heap.size + 1, 0, none⟩ (.slice A1 k c1)).setCell ⟨w.heap.size + 1, 1, none⟩ (.slice B1 k d1) := ⟨_, rfl⟩
      rw [← hW6] at hbf tf ⊢
      have r0 : W6.cell? ⟨w.heap.size + 1, 0, none⟩ = some (.slice A1 k c1) := cell_blk hbf rfl
      have r1 : W6.cell? ⟨w.heap.size + 1, 1, none⟩ = some (.slice B1 k d1) := cell_blk hbf rfl
      clear hW6
      have Hsz0 := Hsz.out
      refine bodyPost_ret (v := .agg #[.slice A1 k c1, .slice B1 k d1]) (by simp [results, Try.results49, go_sem, r0, r1]) rfl ⟨A1, c1, B1, d1, rfl, ?_, ?_, ?_, fun b hb => ⟨?_, (hfA b hb).2⟩, fun b hb => ?_⟩
      · exact hA.touch tf (fun b hb hm => by have := (hfA b hb).1; simp at hm; omega)
      · exact hB.touch tf (fun b hb hm => by have := hfB b hb; simp at hm; omega)
      · exact (t2.trans hT (fun b hb => .inr (by simp at hb; omega))).trans tf (fun b hb => .inr (by simp at hb; omega))
      · have := (hfA b hb).1; omega
      · have := hfB b hb; omega
end Go.Proofs.Ytgpadejkmpfafaa
