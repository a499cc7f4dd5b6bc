/- bywashlaw16.GraphCycles: the walk of the law. For every input. -/
import Derived.Test.YtmehdlflhllhdaaGrCy
namespace Go.Proofs.Ytmehdlflhllhdaa
open Go.RowKit

theorem OwnK.one_ {α : Type} (t : Nat) (val : α → Value) (w : World) (x : α) : OwnK t 1 (fun x => [val x]) (w.alloc (.cells #[val x] t)) (some ⟨w.heap.size, 0, none⟩) 1 [x] :=
  ⟨by simp, .inr ⟨w.heap.size, 1, #[val x], rfl, Nat.zero_le _, heap_alloc_new w _, Nat.le_refl _, by decide, rfl, rfl⟩⟩

/-- the law's own rows: those below i are laid -/
structure CyS (w0 : World) (Y n i : Nat) (sl : List SL) (wr : World) : Prop where
  own : OwnK 31 1 sE wr (some ⟨Y, 0, none⟩) n sl
  len : sl.length = n
  row : ∀ a (h : a < sl.length), sl[a].n = (rowC i a).length ∧ OwnK 3 1 iE wr sl[a].A sl[a].c (rowC i a)
  ne : ∀ s ∈ sl, ∀ b ∈ fpo s.A, b ≠ Y ∧ w0.heap.size ≤ b
  dm : ∀ a b (ha : a < sl.length) (hb : b < sl.length), a ≠ b → ∀ x ∈ fpo sl[a].A, x ∉ fpo sl[b].A
  t : Touch [] w0 wr
  ge : w0.heap.size ≤ Y
theorem CyS.touch0 {w0 : World} {Y n i : Nat} {sl : List SL} {wr w2 : World} (h : CyS w0 Y n i sl wr) (ht : Touch [] wr w2) : CyS w0 Y n i sl w2 :=
  ⟨h.own.touch0 ht, h.len, fun a ha => ⟨(h.row a ha).1, (h.row a ha).2.touch0 ht⟩, h.ne, h.dm, h.t.trans0 ht, h.ge⟩
theorem CyS.inR {w0 : World} {Y n : Nat} {sl : List SL} {wr : World} (h : CyS w0 Y n n sl wr) : InR wr (some ⟨Y, 0, none⟩) (cyL n) := by
  refine ⟨sl, ⟨by rw [h.len, cyL_length], fun a h1 h2 => ?_⟩, rd_of_own h.own⟩
  have hr := h.row a h1
  have e : (cyL n)[a] = rowC n a := by simp [cyL]
  rw [e]
  exact ⟨hr.1, by rw [hr.1]; exact hr.2.le, rdI_of_ownI hr.2⟩

/-- the next row -/
theorem CyS.next {w0 : World} {Y n i : Nat} {sl : List SL} {wr : World} (h : CyS w0 Y n i sl wr) (h1 : 1 ≤ i) (hi : i < n) :
    CyS w0 Y n (i + 1) (sl.set i ⟨some ⟨wr.heap.size, 0, none⟩, 1, 1⟩) ((wr.alloc (.cells #[.int .i64 ((i : Int) - 1)] 3)).setCell ⟨Y, i, none⟩ (.slice (some ⟨wr.heap.size, 0, none⟩) 1 1)) := by
  have t2 := (Touch.refl [] wr).alloc (.cells #[.int .i64 ((i : Int) - 1)] 3)
  have h2 := h.touch0 t2
  have hin : i < sl.length := by rw [h.len]; exact hi
  have T := (Touch.refl [Y] (wr.alloc (.cells #[.int .i64 ((i : Int) - 1)] 3))).setCell (p := ⟨Y, i, none⟩) (.inl (by simp)) (.slice (some ⟨wr.heap.size, 0, none⟩) 1 1)
  have hY := h.own.lt Y (by simp [fpo])
  have hlt : ∀ a (ha : a < sl.length), ∀ x ∈ fpo sl[a].A, x < wr.heap.size := fun a ha x hx => (h.row a ha).2.lt x hx
  have hrow : ∀ a, a ≠ i → rowC (i + 1) a = rowC i a := fun a ha => by
    unfold rowC
    by_cases e : 1 ≤ a ∧ a < i
    · rw [if_pos e, if_pos (by omega)]
    · rw [if_neg e, if_neg (by omega)]
  refine ⟨h2.own.set1 i hin ⟨some ⟨wr.heap.size, 0, none⟩, 1, 1⟩, by simp [h.len], fun a ha => ?_, fun s hs b hb => ?_, fun a b ha hb hab x hx => ?_, h2.t.trans T (fun b hb => by simp at hb; subst hb; exact .inr h.ge), h.ge⟩
  · simp only [List.length_set] at ha
    rw [List.getElem_set]
    split
    · rename_i e
      subst e
      have e2 : rowC (i + 1) i = [(i : Int) - 1] := by unfold rowC; rw [if_pos (by omega)]
      rw [e2]
      exact ⟨rfl, (OwnK.one_ 3 (fun x : Int => iV x) wr ((i : Int) - 1)).touch T (fun b hb => by simp [fpo] at hb; subst hb; simp; omega)⟩
    · rename_i e
      rw [hrow a (fun q => e q.symm)]
      exact ⟨(h2.row a ha).1, (h2.row a ha).2.touch T (fun b hb => by simp; exact (h.ne _ (List.getElem_mem ha) b hb).1)⟩
  · rcases List.mem_or_eq_of_mem_set hs with q | rfl
    · exact h.ne s q b hb
    · simp [fpo] at hb
      subst hb
      have := h.t.size
      exact ⟨by omega, this⟩
  · simp only [List.length_set] at ha hb
    simp only [List.getElem_set] at hx ⊢
    by_cases e1 : i = a
    · rw [if_pos e1] at hx
      rw [if_neg (by omega)]
      simp [fpo] at hx
      subst hx
      exact fun hm => Nat.lt_irrefl _ (hlt b hb _ hm)
    · rw [if_neg e1] at hx
      by_cases e2 : i = b
      · rw [if_pos e2]
        intro hm
        simp [fpo] at hm
        subst hm
        exact Nat.lt_irrefl _ (hlt a ha _ hx)
      · rw [if_neg e2]
        exact h.dm a b ha hb hab x hx

/-- closed to a ring -/
theorem CyS.ring {w0 : World} {Y n at_ : Nat} {sl : List SL} {wr w2 w3 : World} (h : CyS w0 Y n n sl wr) (ha : at_ < n) (has : at_ < sl.length) (t2 : Touch [] wr w2) {A3 : Option Addr} {c3 q : Nat} (hq : q = (rowC n at_).length)
    (hown : OwnK 3 1 iE w3 A3 c3 (rowC n at_ ++ [(n : Int) - 1])) (t3 : Touch (fpo sl[at_].A) w2 w3) (hf : ∀ b ∈ fpo A3, b ∈ fpo sl[at_].A ∨ wr.heap.size ≤ b) :
    InR (w3.setCell ⟨Y, at_, none⟩ (.slice A3 (q + 1) c3)) (some ⟨Y, 0, none⟩) (riL n at_) ∧ Touch [] w0 (w3.setCell ⟨Y, at_, none⟩ (.slice A3 (q + 1) c3)) := by
  have T := (Touch.refl [Y] w3).setCell (p := ⟨Y, at_, none⟩) (.inl (by simp)) (.slice A3 (q + 1) c3)
  have hY := h.own.lt Y (by simp [fpo])
  have hne := fun x hx => h.ne _ (List.getElem_mem has) x hx
  have h2 := h.touch0 t2
  have hA3 : ∀ b ∈ fpo A3, b ≠ Y := fun b hb e => by
    rcases hf b hb with q | q
    · exact (hne b q).1 e
    · omega
  have ho := (h2.own.touch t3 (fun b hb => by simp [fpo] at hb; subst hb; exact fun hm => (hne _ hm).1 rfl)).set1 at_ has ⟨A3, q + 1, c3⟩
  refine ⟨⟨sl.set at_ ⟨A3, q + 1, c3⟩, ⟨by rw [List.length_set, h.len, riL_length], fun a h1 h2' => ?_⟩, rd_of_own ho⟩, ((h.t.trans0 t2).trans t3 (fun b hb => .inr (hne b hb).2)).trans T (fun b hb => by simp at hb; subst hb; exact .inr h.ge)⟩
  have hg : (riL n at_)[a] = if a = at_ then rowC n at_ ++ [(n : Int) - 1] else rowC n a := by
    have := riL_get n at_ a ha
    rw [List.getD_eq_getElem?_getD, List.getElem?_eq_getElem h2'] at this
    exact this
  rw [hg]
  simp only [List.length_set] at h1
  simp only [List.getElem_set]
  by_cases e : at_ = a
  · subst e
    rw [if_pos rfl, if_pos rfl]
    have hl : (rowC n at_ ++ [(n : Int) - 1]).length = q + 1 := by rw [List.length_append, hq]; rfl
    refine ⟨hl.symm, ?_, Rd.touch (rdI_of_ownI hown) T (fun b hb => by simp; exact hA3 b hb)⟩
    have := hown.le
    simp only
    omega
  · rw [if_neg e, if_neg (fun q => e q.symm)]
    have hr := h2.row a h1
    refine ⟨hr.1, by rw [hr.1]; exact hr.2.le, Rd.touch (Rd.touch (rdI_of_ownI hr.2) t3 (fun b hb hm => ?_)) T (fun b hb => by simp; exact (h.ne _ (List.getElem_mem h1) b hb).1)⟩
    exact h.dm a at_ h1 has (fun q => e q.symm) b hb hm

set_option maxRecDepth 20000 in
set_option maxHeartbeats 8000000 in
theorem cycles_ok (n at_ : Nat) (hn : n ≤ 1024) (ha : at_ < n) (w : World) :
    Calls Try.prog 8 #[.int .i64 n, .int .i64 at_] w fun e w' => e = .returned (.bool true) ∧ Touch [] w w' := by
  have hmk := fun w => run_mkS n (by omega) w
  have H0 : Hid (CyS w w.heap.size n 1 (List.replicate n ⟨none, 0, 0⟩) (w.alloc (.cells (madeCells #[.slice none 0 0] n) 31))) := Lib.hid ⟨OwnK.made 31 SL.val w n ⟨none, 0, 0⟩ (by unfold maxLen; omega), by simp, fun a h => by
    simp only [List.getElem_replicate]
    have e : rowC 1 a = [] := by unfold rowC; rw [if_neg (by omega)]
    rw [e]
    exact ⟨rfl, OwnK.nil _ _ _ _⟩, fun s hs b hb => by
    rw [List.eq_of_mem_replicate hs] at hb
    simp [fpo] at hb, fun a b h1 h2 _ x hx => by
    simp [fpo] at hx, (Touch.refl [] w).alloc _, Nat.le_refl _⟩
  have hn1 : (1 : Int) ≤ n := by omega
  have hx1 : ((n : Int) < 1) = False := by simp; omega
  have hx2 : ((at_ : Int) < 0) = False := by simp
  have hx3 : ((n : Int) ≤ (at_ : Int)) = False := by simp; omega
  go_enter Try.func8, Try.ntmps8
  go_wp2_with fail
  clear hmk
  go_loopw [6] (fun x wr => ∃ (i : Nat) (sl : List SL), 1 ≤ i ∧ i ≤ n ∧ x = .int .i64 i ∧ Hid (CyS w w.heap.size n i sl wr)) (fun x _ => n - (intOf x).toNat)
  case atStart => exact ⟨1, _, by omega, by omega, rfl, H0⟩
  case round =>
    clear H0
    obtain ⟨i, sl, hi1, hi, rfl, HC⟩ := hrel
    by_cases hin : i < n
    · have hisl : i < sl.length := by rw [HC.out.len]; exact hin
      have cy := HC.out.own.cell1 i hisl
      obtain ⟨v0, hv0⟩ : ∃ v0, v0 = (sl[i]).val := ⟨_, rfl⟩
      rw [← hv0] at cy
      have tb := (Touch.refl [] wr).alloc (.cells #[.int .i64 ((i : Int) - 1)] 3)
      have cy2 := tb.cell cy (by simp)
      have zy2 := (HC.out.own.touch0 tb).free_ i
      have Hn := Lib.hid (HC.out.next hi1 hin)
      clear hv0 tb
      go_wp2_with fail
      go_roundw
      case rel => exact ⟨i + 1, _, by omega, by omega, by go_num, Hn⟩
      case measure => simp [intOf]; omega
    · obtain rfl : i = n := by omega
      have HN := Lib.hid (new_any i hn (some ⟨w.heap.size, 0, none⟩) i i (cyL i) (cyL_length i) (Nat.le_refl _) wr HC.out.inR (fun l hl => by
        have := cyL_all i l hl
        unfold cyL at hl
        obtain ⟨a, _, rfl⟩ := List.mem_map.1 hl
        unfold rowC; split <;> simp))
      go_wp2_with fail
      refine HN.out.mono ?_
      rintro e w2 hp
      obtain ⟨t2, g, X, ds, up, rfl, hG⟩ := hp.ok (by rw [cyL_length]; exact Nat.le_refl _) (cyL_all i) (cy_ring i)
      have hdl : ds.length = i := by rw [hG.gr.dl, nsL_length]
      have hD := deepest_any g X ds (nsL i (cyL i)).length hG.gr.dl (by rw [nsL_length]; omega) w2 hG.gr.hd hG.gr.dp
      rw [cy_most hdl hG.dp] at hD
      have HD := Lib.hid hD
      have HG := Lib.hid hG
      have Ht2 := Lib.hid t2
      clear hD hG t2 hp HN hdl
      go_wp2_with fail
      refine HD.out.mono ?_
      rintro e wq ⟨rfl, hwq⟩
      have Hwq := Lib.hid hwq
      clear hwq HD
      have tb := (Touch.refl [] wq).alloc (.cells #[.int .i64 (at_ : Int)] 3)
      have HGq : Hid (Gph wr.heap.size up wq g X (nsL i (cyL i)) ds) := Lib.hid (by rw [Hwq.out]; exact HG.out)
      have hA := above_any _ up g X (nsL i (cyL i)) ds (some ⟨wq.heap.size, 0, none⟩) 1 1 [(at_ : Int)] rfl (by omega) _ (HGq.out.touch0 tb) (rd_blk (heap_alloc_new wq (.cells #[.int .i64 (at_ : Int)] 3)) _ rfl)
      have hlA : (iN (upN (nsL i (cyL i)) [(at_ : Int)])).length = at_ + 1 := by rw [List.length_map]; exact cy_up i at_ ha
      obtain ⟨LA, hLA⟩ : ∃ LA, LA = iN (upN (nsL i (cyL i)) [(at_ : Int)]) := ⟨_, rfl⟩
      rw [← hLA] at hA hlA
      have HA := Lib.hid hA
      have HlA := Lib.hid hlA
      have Htb := Lib.hid tb
      clear hA hlA hLA tb
      go_wp2_with fail
      refine HA.out.mono ?_
      rintro e w5 ⟨A5, c5, rfl, _, t5, _⟩
      rw [HlA.out]
      have Ht5 := Lib.hid (Htb.out.trans0 t5)
      clear t5 HA
      have tb2 := (Touch.refl [] w5).alloc (.cells #[.int .i64 (at_ : Int)] 3)
      have hB := below_any _ up g X (nsL i (cyL i)) ds (some ⟨w5.heap.size, 0, none⟩) 1 1 [(at_ : Int)] rfl (by omega) _ ((HGq.out.touch0 Ht5.out).touch0 tb2) (rd_blk (heap_alloc_new w5 (.cells #[.int .i64 (at_ : Int)] 3)) _ rfl)
      have hlB : (iN (dnN (nsL i (cyL i)) [(at_ : Int)])).length = i - at_ := by rw [List.length_map]; exact cy_dn i at_ ha
      obtain ⟨LB, hLB⟩ : ∃ LB, LB = iN (dnN (nsL i (cyL i)) [(at_ : Int)]) := ⟨_, rfl⟩
      rw [← hLB] at hB hlB
      have HB := Lib.hid hB
      have HlB := Lib.hid hlB
      have Htb2 := Lib.hid tb2
      have hsub : (((i - at_ : Nat) : Int)) = (i : Int) - (at_ : Int) := by omega
      clear hB hlB hLB tb2
      go_wp2_with fail
      refine HB.out.mono ?_
      rintro e w6 ⟨A6, c6, rfl, _, t6, _⟩
      rw [HlB.out]
      have Ht6 : Hid (Touch [] wr w6) := Lib.hid ((Ht2.out.trans0 (by rw [← Hwq.out]; exact Ht5.out)).trans0 (Htb2.out.trans0 t6))
      clear t6 HB
      have hC6 := HC.out.touch0 Ht6.out
      have has : at_ < sl.length := by rw [HC.out.len]; exact ha
      have cy := hC6.own.cell1 at_ has
      have hrow := hC6.row at_ has
      have hlt6 := hC6.own.lt w.heap.size (by simp [fpo])
      have hne := fun x hx => hC6.ne _ (List.getElem_mem has) x hx
      obtain ⟨⟨Aa, qa, ca⟩, hs⟩ : ∃ s, s = sl[at_] := ⟨_, rfl⟩
      simp only [← hs] at cy hrow hne
      dsimp only [SL.val] at cy
      have hqa : qa ≤ 1 := by rw [hrow.1]; unfold rowC; split <;> simp
      have tb := (Touch.refl [] w6).alloc (.cells #[.int .i64 ((i : Int) - 1)] 3)
      have Hoa := Lib.hid (hrow.2.touch0 tb)
      have Hqa := Lib.hid hrow.1
      have Hs : Hid (sl[at_]? = some ⟨Aa, qa, ca⟩) := Lib.hid (by rw [hs]; exact List.getElem?_eq_getElem has)
      have Hne := Lib.hid hne
      have HC6 := Lib.hid hC6
      have Htb := Lib.hid tb
      clear hs hrow hne hC6 tb
      go_wp2_with (at_builtin; refine stop ?_)
      refine go ?_
      refine wpList_appK (enc := iE) rfl (.tmp 85) (.tmp 88) 31 rfl 3 (.int .i64 0) 1 8 info_int Try.underlying31 rfl (by omega) (fun _ => rfl) (fun x u hu => by simp only [List.mem_singleton] at hu; subst hu; rfl) Aa qa ca (rowC i at_) Hqa.out.symm rfl Hoa.out
        (some ⟨w6.heap.size, 0, none⟩) 1 1 [(i : Int) - 1] rfl rfl (RdK.one (enc := iE) w6 3 ((i : Int) - 1) #[.int .i64 ((i : Int) - 1)] rfl) (by omega) (by omega) ?_
      intro A7 c7 w7 hown7 ht7 hf7
      have hsl : sl[at_] = ⟨Aa, qa, ca⟩ := by have := Hs.out; rw [List.getElem?_eq_getElem has] at this; exact Option.some.inj this
      have hR := HC6.out.ring ha has Htb.out (w3 := w7) (A3 := A7) (c3 := c7) (q := qa) Hqa.out hown7 (by rw [hsl]; exact ht7) (fun b hb => by
        rw [hsl]
        rcases hf7 b hb with q | q
        · exact .inl q
        · rw [World.size_alloc] at q; exact .inr (by omega))
      have cy7 := ht7.cell (Htb.out.cell cy (by simp)) (fun hm => (Hne.out _ hm).1 rfl)
      have zy7 := ((HC6.out.own.touch0 Htb.out).touch ht7 (fun b hb => by simp [fpo] at hb; subst hb; exact fun hm => (Hne.out _ hm).1 rfl)).free_ at_
      obtain ⟨W8, hW8⟩ : ∃ W8, W8 = w7.setCell ⟨w.heap.size, at_, none⟩ (.slice A7 (qa + 1) c7) := ⟨_, rfl⟩
      rw [← hW8] at hR
      have HN2 := Lib.hid (new_any i hn (some ⟨w.heap.size, 0, none⟩) i i (riL i at_) (riL_length i at_) (Nat.le_refl _) W8 hR.1 (fun l hl => by
        unfold riL at hl
        rcases List.mem_or_eq_of_mem_set hl with q | rfl
        · unfold cyL at q
          obtain ⟨a, _, rfl⟩ := List.mem_map.1 q
          unfold rowC; split <;> simp
        · unfold rowC; split <;> simp))
      have HR := Lib.hid hR.2
      have HW8 := Lib.hid hW8
      clear hR hW8 hown7 ht7 hf7 hsl cy
      go_wp2_with fail
      rw [← HW8.out]
      refine HN2.out.mono ?_
      rintro e w9 ⟨t9, ⟨⟨l, hl2, hf⟩, _⟩ | ⟨_, _, rfl⟩ | ⟨_, hr2, _⟩⟩
      · rw [riL_all i at_ ha l hl2] at hf; cases hf
      · have Ht9 := Lib.hid (HR.out.trans0 t9)
        clear t9 HN2 cy7 zy7
        go_wp2_with fail
        refine (awake_any w9).mono ?_
        rintro e w10 ⟨rfl, t10⟩
        go_wp2
        go_ret
        exact ⟨rfl, Ht9.out.trans0 t10⟩
      · exact absurd (ri_ring i at_ ha) hr2

set_option maxHeartbeats 1600000 in
theorem cycles_law (n at_ : Int) (w : World) : Calls Try.prog 8 #[.int .i64 n, .int .i64 at_] w fun e w' => e = .returned (.bool true) ∧ Touch [] w w' := by
  by_cases h1 : n < 1
  · go_enter Try.func8, Try.ntmps8
    go_wp2_with fail
    refine (awake_any w).mono ?_
    rintro e w2 ⟨rfl, t2⟩
    go_wp2
    go_ret
    exact ⟨rfl, t2⟩
  · have h1' : (n < 1) = False := by simpa using h1
    by_cases h2 : 1024 < n
    · go_enter Try.func8, Try.ntmps8
      go_wp2_with fail
      refine (awake_any w).mono ?_
      rintro e w2 ⟨rfl, t2⟩
      go_wp2
      go_ret
      exact ⟨rfl, t2⟩
    · have h2' : (1024 < n) = False := by simpa using h2
      by_cases h3 : at_ < 0
      · go_enter Try.func8, Try.ntmps8
        go_wp2_with fail
        refine (awake_any w).mono ?_
        rintro e w2 ⟨rfl, t2⟩
        go_wp2
        go_ret
        exact ⟨rfl, t2⟩
      · have h3' : (at_ < 0) = False := by simpa using h3
        by_cases h4 : n ≤ at_
        · go_enter Try.func8, Try.ntmps8
          go_wp2_with fail
          refine (awake_any w).mono ?_
          rintro e w2 ⟨rfl, t2⟩
          go_wp2
          go_ret
          exact ⟨rfl, t2⟩
        · obtain ⟨N, rfl⟩ : ∃ N : Nat, n = N := ⟨n.toNat, by omega⟩
          obtain ⟨M, rfl⟩ : ∃ M : Nat, at_ = M := ⟨at_.toNat, by omega⟩
          exact cycles_ok N M (by omega) (by omega) w
end Go.Proofs.Ytmehdlflhllhdaa
