/- bywashlaw07.FrameScans: the walk of the law. For every input; the table as the program's text lays it. -/
import Derived.Test.YtgpadejkmpfafaaDoorScanR
import Derived.Test.YtgpadejkmpfafaaDoorNumbersLaw
namespace Go.Proofs.YtgpadejkmpfafaaDoor
open Go.RowKit

theorem rdI_more {m r : List UInt8} {v : Int} (h : rdI m = some (v, r)) (x : List UInt8) : rdI (m ++ x) = some (v, r ++ x) := by
  have hb := rdI_bounds h
  rw [rdI_canon h, List.append_assoc]
  exact rdI_enc hb.1 hb.2 _
theorem scan1_frm (s r : List UInt8) (hs : s.length ≤ 9223372036854775807) : scan1 (frm s ++ r) = some (s, r) := by
  unfold scan1 frm
  rw [List.append_assoc, rdT_enc (S s) (by rw [S_size]; exact hs), S_toList]
  dsimp only
  have h4 : (digs (sumOf s) 4).length = 4 := digs_length _ _
  rw [if_neg (by rw [List.length_append]; omega)]
  have e1 : (digs (sumOf s) 4 ++ r).take 4 = digs (sumOf s) 4 := by
    have := List.take_left (l₁ := digs (sumOf s) 4) (l₂ := r)
    rw [h4] at this
    exact this
  have e2 : (digs (sumOf s) 4 ++ r).drop 4 = r := by
    have := List.drop_left (l₁ := digs (sumOf s) 4) (l₂ := r)
    rw [h4] at this
    exact this
  rw [if_pos e1, e2]
theorem scan1_part (s : List UInt8) (k : Nat) (hs : s.length ≤ 9223372036854775807) (hk : k < (frm s).length) : scan1 ((frm s).take k) = none := by
  have hf : frm s = encI s.length ++ (s ++ digs (sumOf s) 4) := by
    unfold frm encT
    rw [S_size, S_toList, List.append_assoc]
  have hI : rdI (frm s) = some ((s.length : Int), s ++ digs (sumOf s) 4) := by rw [hf]; exact rdI_enc (by omega) (by omega) _
  unfold scan1 rdT
  rcases hm : rdI ((frm s).take k) with _ | ⟨v, r⟩
  · rfl
  · have h2 := rdI_more hm ((frm s).drop k)
    rw [List.take_append_drop, hI] at h2
    obtain ⟨e1, e2⟩ : (s.length : Int) = v ∧ s ++ digs (sumOf s) 4 = r ++ (frm s).drop k := by simpa using h2
    subst e1
    have e3 := congrArg List.length e2
    rw [List.length_append, List.length_append, digs_length, List.length_drop] at e3
    dsimp only
    by_cases hc : (s.length : Int) < 0 ∨ (r.length : Int) < (s.length : Int)
    · rw [if_pos hc]
    · rw [if_neg hc]
      dsimp only
      rw [Int.toNat_natCast, List.length_drop, if_pos (by omega)]

def frames (l : List (List UInt8)) : List UInt8 := l.flatMap frm
theorem frames_snoc (l : List (List UInt8)) (k : Nat) (h : k < l.length) : frames (l.take (k + 1)) = frames (l.take k) ++ frm l[k] := by
  unfold frames
  rw [List.take_succ_eq_append_getElem h, List.flatMap_append]; simp
def endN (l : List (List UInt8)) (k : Nat) : Nat := (frames (l.take k)).length
theorem endN_succ (l : List (List UInt8)) (k : Nat) (h : k < l.length) : endN l (k + 1) = endN l k + (frm l[k]).length := by
  unfold endN; rw [frames_snoc l k h, List.length_append]
theorem endN_cons (s : List UInt8) (l : List (List UInt8)) (k : Nat) : endN (s :: l) (k + 1) = (frm s).length + endN l k := by
  unfold endN frames; simp
theorem scan_cut (n : Nat) (l : List (List UInt8)) (cut : Nat) (hs : ∀ s ∈ l, s.length ≤ 9223372036854775807) (hn : n ≤ l.length) (h1 : endN l n ≤ cut) (hc : cut ≤ (frames l).length) (h2 : n = l.length ∨ cut < endN l (n + 1)) :
    ∃ rest, Steps ((frames l).take cut) (l.take n) rest ∧ scan1 rest = none ∧ rest.length = cut - endN l n := by
  induction n generalizing l cut with
  | zero =>
    refine ⟨(frames l).take cut, by simp [Steps], ?_, by rw [List.length_take]; simp [endN, frames]; simp [frames] at hc; omega⟩
    rcases l with _ | ⟨s, l⟩
    · simp [frames]; rfl
    · have h3 : cut < (frm s).length := by
        rcases h2 with h2 | h2
        · simp at h2
        · rw [endN_cons] at h2; simpa [endN, frames] using h2
      have e : (frames (s :: l)).take cut = (frm s).take cut := by
        unfold frames
        rw [List.flatMap_cons, List.take_append_of_le_length (by omega)]
      rw [e]
      exact scan1_part s cut (hs s (by simp)) h3
  | succ n ih =>
    rcases l with _ | ⟨s, l⟩
    · simp at hn
    · rw [endN_cons] at h1
      have hfl : (frames (s :: l)).length = (frm s).length + (frames l).length := by unfold frames; rw [List.flatMap_cons, List.length_append]
      obtain ⟨rest, k1, k2, k3⟩ := ih l (cut - (frm s).length) (fun x hx => hs x (by simp [hx])) (by simpa using hn) (by omega) (by omega) (by
        rcases h2 with h2 | h2
        · left; simpa using h2
        · right; rw [endN_cons] at h2; omega)
      refine ⟨rest, ⟨(frames l).take (cut - (frm s).length), ?_, k1⟩, k2, by rw [k3, endN_cons]; omega⟩
      have e : (frames (s :: l)).take cut = frm s ++ (frames l).take (cut - (frm s).length) := by
        unfold frames
        rw [List.flatMap_cons, List.take_append]
        rw [List.take_of_length_le (by omega)]
      rw [e]
      exact scan1_frm s _ (hs s (by simp))

theorem Steps.len {b m : List UInt8} {ls : List (List UInt8)} (h : Steps b ls m) : ls.length + m.length ≤ b.length := by
  induction ls generalizing b with
  | nil => obtain rfl : m = b := h; simp
  | cons x ls ih =>
    obtain ⟨b', h1, h2⟩ := h
    have := ih h2
    have := (scan1_rest h1).1
    simp; omega

/-- ints in a row of the calls' own -/
def OwnI (w : World) (A : Option Addr) (c : Nat) (l : List Int) : Prop := w.ownsRow 0 3 1 (.slice A l.length c) l.length (l.map (Value.int .i64))
theorem OwnI.rd {w : World} {A : Option Addr} {c : Nat} {l : List Int} (h : OwnI w A c l) : RdI w A l := by
  intro h0
  rcases h.2 with hv | ⟨g, cap, cur, hv, _⟩
  · simp at h0; omega
  · have hA : A = some ⟨g, 0, none⟩ := by injection hv
    subst hA
    exact ⟨_, rfl, World.ownsRow.cells h (g := g) rfl⟩
theorem OwnI.nil (w : World) : OwnI w none 0 [] := World.ownsRow_nil _ _ _ _
theorem OwnI.touch {w w' : World} {A : Option Addr} {c : Nat} {l : List Int} {fp : List Nat} (h : OwnI w A c l) (ht : Touch fp w w') (hn : ∀ b ∈ fpo A, b ∉ fp) : OwnI w' A c l := by
  refine ⟨h.1, ?_⟩
  rcases h.2 with hv | ⟨g, cap, cur, hv, hb, hg, rest⟩
  · exact .inl hv
  · have hA : A = some ⟨g, 0, none⟩ := by injection hv
    subst hA
    exact .inr ⟨g, cap, cur, hv, hb, ht.blk hg (hn g (by simp [fpo])), rest⟩
theorem OwnI.touch0 {w w' : World} {A : Option Addr} {c : Nat} {l : List Int} (h : OwnI w A c l) (ht : Touch [] w w') : OwnI w' A c l := h.touch ht (by simp)
theorem OwnI.lt {w : World} {A : Option Addr} {c : Nat} {l : List Int} (h : OwnI w A c l) : ∀ b ∈ fpo A, b < w.heap.size := by
  intro b hb
  rcases h.2 with ⟨hv, _⟩ | ⟨g, cap, cur, hv, _, hg, _⟩
  · injection hv with hA _ _; subst hA; cases hb
  · have hA : A = some ⟨g, 0, none⟩ := by injection hv
    subst hA
    have : b = g := by simpa [fpo] using hb
    subst this
    exact (Array.getElem?_eq_some_iff.1 hg).1
theorem info_int : (Tryd.prog.info? 3).map (fun i => (i.zero, i.size, i.bytes)) = some (some (.int .i64 0), 1, 8) := by kernel_rfl
/-- append onto ints that the calls own: one more -/
theorem wpList_appI {w : World} {ops : Array Oper} {rest : List Oper} {o : Oper} {a : Act} {Q : Exit → Act → World → Prop} (hgd : o.guard = none) (s x : Operand)
    (ho : o.op = .call { callee := .builtin .append, args := #[s, x], argTypes := #[28, 28] })
    (A0 : Option Addr) (n c0 : Nat) (l : List Int) (hn : l.length = n) (hs : a.eval s = .slice A0 n c0) (hown : OwnI w A0 c0 l)
    (H : Nat) (v : Int) (hx : a.eval x = .slice (some ⟨H, 0, none⟩) 1 1) (hc : w.cell? ⟨H, 0, none⟩ = some (.int .i64 v)) (hbytes : n < 1000000000)
    (h : ∀ A' c' w', OwnI w' A' c' (l ++ [v]) → Touch (fpo A0) w w' → (∀ b ∈ fpo A', b ∈ fpo A0 ∨ b = w.heap.size) → wpList Tryd.prog ops Q rest (a.put o.dst (.slice A' (n + 1) c')) w') :
    wpList Tryd.prog ops Q (o :: rest) a w := by
  obtain ⟨i0, hi0, hz0, hz1, hz2⟩ := info_parts info_int
  subst hn
  have hadd : (⟨H, 0, none⟩ : Addr).add 0 = ⟨H, 0, none⟩ := by unfold Addr.add; split <;> simp_all
  refine wpList_app w hgd s x _ ho 3 i0 _ 1 8 Tryd.underlying28 hi0 hz0 hz1 hz2 rfl (by omega) A0 l.length c0 _ hs hown (some ⟨H, 0, none⟩) 1 1 [.int .i64 v] hx (by simp)
    (fun _ => ⟨_, rfl, fun j u hu => by
      rcases j with _ | j
      · simp at hu; subst hu; rw [hadd]; exact hc
      · simp at hu⟩) (by simp [Value.oneCell']) (by simp only [maxLen]; omega) (by omega) ?_
  intro A' c' w' h2 h3 h4
  exact h A' c' w' (by unfold OwnI; rw [List.map_append, List.length_append]; exact h2) h3 h4

def endsL (l : List (List UInt8)) (k : Nat) : List Int := (List.range k).map fun j => (endN l (j + 1) : Int)
theorem endsL_snoc (l : List (List UInt8)) (k : Nat) : endsL l (k + 1) = endsL l k ++ [(endN l (k + 1) : Int)] := by simp [endsL, List.range_succ]
theorem endsL_len (l : List (List UInt8)) (k : Nat) : (endsL l k).length = k := by simp [endsL]

/-- what holds at each round's head -/
structure FrAt (w : World) (l : List (List UInt8)) (k : Nat) (A7 : Option Addr) (n7 c7 : Nat) (Ae : Option Addr) (ce : Nat) (wr : World) : Prop where
  all : OwnB wr A7 c7 (frames (l.take k))
  n : (frames (l.take k)).length = n7
  le : n7 ≤ 400 * k
  ends : OwnI wr Ae ce (endsL l k)
  apart : ∀ b ∈ fpo A7, b ∉ fpo Ae
  f7 : ∀ b ∈ fpo A7, w.heap.size ≤ b
  fe : ∀ b ∈ fpo Ae, w.heap.size ≤ b
  t : Touch [] w wr

set_option maxRecDepth 100000 in
set_option maxHeartbeats 6400000 in
theorem scans_law (A : Option Addr) (c : Nat) (l : List (List UInt8)) (Aj : Option Addr) (cj : Nat) (junk : List UInt8) (cut : Int) (w : World) (hll : l.length ≤ maxLen) (hjl : junk.length ≤ maxLen) (hr : BsAt w A l) (hrj : RdB w Aj junk)
    (hl : ∀ k ∈ l, k.length ≤ maxLen) (hh : HalfAt w) :
    Calls Tryd.prog 6 #[.slice A l.length c, .slice Aj junk.length cj, .int .i64 cut] w fun e w' => e = .returned (.bool true) ∧ Touch [] w w' := by
  go_enter Tryd.func6, Tryd.ntmps6
  unfold maxLen at hll hjl
  by_cases h3 : 30 < l.length
  · go_wp2_with (go_at_call 9; refine (awake_any w hh).mono ?_; rintro e w1 ⟨rfl, ht1⟩)
    go_ret
    exact ⟨rfl, ht1⟩
  by_cases h4 : 300 < junk.length
  · go_wp2_with (go_at_call 9; refine (awake_any w hh).mono ?_; rintro e w1 ⟨rfl, ht1⟩)
    go_ret
    exact ⟨rfl, ht1⟩
  go_wp2_with fail
  go_loopw [7, 8, 33] (fun v v2 i wr => ∃ (k : Nat) (A7 : Option Addr) (n7 c7 : Nat) (Ae : Option Addr) (ce : Nat), k ≤ l.length ∧ i = .int .i64 k ∧ v = .slice A7 n7 c7 ∧ v2 = .slice Ae k ce ∧ FrAt w l k A7 n7 c7 Ae ce wr) (fun _ _ i _ => l.length - (intOf i).toNat)
  case atStart => exact ⟨0, none, 0, 0, none, 0, by omega, rfl, rfl, rfl, ⟨OwnB.nil _, rfl, by omega, OwnI.nil _, by simp [fpo], by simp [fpo], by simp [fpo], Touch.refl _ _⟩⟩
  case round =>
    obtain ⟨k, A7, n7, c7, Ae, ce, hk, rfl, rfl, rfl, ⟨hall, hn7, hle7, hends, hap, hf7, hfe, ht⟩⟩ := hrel
    by_cases hlt : k < l.length
    · obtain ⟨ad, Ab, cb, rfl, hcell, hrb, hcb⟩ := (hr.touch0 ht).at_ k hlt
      have hsn := frames_snoc l k hlt
      have hen := endN_succ l k hlt
      obtain ⟨b, hbe⟩ : ∃ b, b = l[k] := ⟨_, rfl⟩
      rw [← hbe] at hcell hrb hcb hsn hen
      obtain ⟨m, hm⟩ : ∃ m, m = b.length := ⟨_, rfl⟩
      rw [← hm] at hcell hcb
      have Hm := Lib.hid hm.symm
      have hml : m ≤ 9223372036854775807 := by have := hl _ (List.getElem_mem hlt); rw [← hbe, ← hm] at this; unfold maxLen at this; omega
      clear hm hbe
      by_cases h5 : 300 < m
      · clear hsn hen hn7
        go_wp2_with (go_at_call 9; refine (awake_any wr (hh.touch ht (by simp))).mono ?_; rintro e w1 ⟨rfl, ht1⟩)
        go_ret
        exact ⟨rfl, ht.trans0 ht1⟩
      have hfl := frm_length b
      have hfl2 := encI_length b.length
      have hfm : (frm b).length ≤ m + 13 := by have := Hm.out; omega
      have hsnL : (frames (l.take (k + 1))).length = n7 + (frm b).length := by rw [hsn, List.length_append, hn7]
      have henv : endN l (k + 1) = n7 + (frm b).length := by unfold endN; exact hsnL
      have Hsn := Lib.hid hsn
      have HsnL := Lib.hid hsnL
      have Henv := Lib.hid henv
      have Hn7 := Lib.hid hn7
      clear hsn hen hfl hfl2 hsnL henv hn7
      go_wp2_with fail
      refine (frame_any Ab cb m b Hm.out (by omega) wr hrb (hh.touch ht (by simp))).mono ?_
      rintro e w1 ⟨A1, c1, rfl, hown1, ht1, hf1⟩
      have hcv0 := run_str_of c1 (w := w1.drew) rfl (hown1.touch0 ((Touch.refl [] w1).drew)).rd
      have hrb1 : RdB w1 Ab b := Rd.touch0 hrb ht1
      have hrb1' : RdB w1.drew Ab b := Rd.touch0 hrb1 ((Touch.refl [] w1).drew)
      have hq := S_beq (frm b) (frm b)
      have hq2 := S_bne (frm b) (frm b)
      rw [show decide (frm b = frm b) = true from decide_eq_true rfl] at hq hq2
      go_wp2_with fail
      go_region_with ((go_at_call 25; refine (refFrame_any Ab cb m b Hm.out (by omega) _ hrb1').mono ?_; rintro e w2 ⟨A2, c2, rfl, hown2, ht2, hf2⟩; have hcv1 := run_str_of c2 rfl hown2.rd; have hcv2 := run_str_of c1 (w := w2) rfl ((hown1.touch0 ((Touch.refl [] w1).drew)).touch0 ht2).rd))
      all_goals
        clear hq hq2 hcv0 hcv1 hcv2
        have hown3 : OwnB w2 A1 c1 (frm b) := (hown1.touch0 ((Touch.refl [] w1).drew)).touch0 ht2
        have T2 : Touch [] wr w2 := (ht1.drew).trans0 ht2
        have hall2 := hall.touch0 T2
        have hends2 := hends.touch0 T2
        go_wp2_with (at_builtin; refine stop ?_)
        refine go ?_
        refine wpList_appB rfl (.tmp 49) (.tmp 50) rfl A7 n7 c7 (frames (l.take k)) Hn7.out rfl hall2 A1 (frm b).length c1 (frm b) rfl rfl hown3.rd (by omega) ?_
        intro A8 c8 w8 hown8 ht8 hf8
        have hends8 := hends2.touch ht8 (fun b hb hm => hap b hm hb)
        have tx := (Touch.refl [] w8).alloc (.cells #[.int .i64 ((n7 : Int) + (frm b).length)] 3)
        have hcx : (w8.alloc (.cells #[.int .i64 ((n7 : Int) + (frm b).length)] 3)).cell? ⟨w8.heap.size, 0, none⟩ = some (.int .i64 ((n7 : Int) + (frm b).length)) := cell_of_one (heap_alloc_new w8 _)
        have hA2lt := hends8.lt
        go_wp2_with (at_builtin; refine stop ?_)
        refine go ?_
        refine wpList_appI rfl (.tmp 52) (.tmp 55) rfl Ae k ce (endsL l k) (endsL_len l k) rfl (hends8.touch0 tx) w8.heap.size ((n7 : Int) + (frm b).length) rfl hcx (by omega) ?_
        intro A9 c9 w9 hown9 ht9 hf9
        have hs2 := T2.size
        have hs8 := ht8.size
        have hs0 := ht.size
        have hlt8 := hown8.lt
        have hltE := hends2.lt
        have T9 : Touch [] w w9 := (((ht.trans0 T2).trans ht8 (fun b hb => .inr (hf7 b hb))).trans0 tx).trans ht9 (fun b hb => .inr (hfe b hb))
        have hap8 : ∀ b ∈ fpo A8, b ∉ fpo Ae := fun b hb hm => by
          rcases hf8 b hb with h1 | h1
          · exact hap b h1 hm
          · have := hltE b hm; omega
        have hown89 : OwnB w9 A8 c8 (frames (l.take k) ++ frm b) := (hown8.touch0 tx).touch ht9 hap8
        have hf8' : ∀ b ∈ fpo A8, w.heap.size ≤ b := fun b hb => by
          rcases hf8 b hb with h1 | h1
          · exact hf7 b h1
          · omega
        have hf9' : ∀ b ∈ fpo A9, w.heap.size ≤ b := fun b hb => by
          rcases hf9 b hb with h1 | h1
          · exact hfe b h1
          · simp at h1; omega
        have hap9 : ∀ b ∈ fpo A8, b ∉ fpo A9 := fun b hb hm => by
          rcases hf9 b hm with h1 | h1
          · exact hap8 b hb h1
          · have := hlt8 b hb; simp at h1; omega
        go_wp2_with fail
        go_roundw
        case rel => exact ⟨k + 1, A8, _, c8, A9, c9, by omega, by go_num, rfl, rfl, ⟨by rw [Hsn.out]; exact hown89, HsnL.out, by omega, by rw [endsL_snoc, Henv.out]; exact hown9, hap9, hf8', hf9', T9⟩⟩
        case measure => simp [intOf]; omega
    · obtain rfl : k = l.length := by omega
      rw [List.take_length] at hall hn7
      have hcutl := scan_cut
      have hEF : endN l l.length = n7 := by unfold endN; rw [List.take_length]; exact hn7
      obtain ⟨F, hF⟩ : ∃ F, F = frames l := ⟨_, rfl⟩
      rw [← hF] at hall hn7
      have HF := Lib.hid hF
      have Hn7 := Lib.hid hn7
      have HEF := Lib.hid hEF
      have hltall := hall.lt
      have hltends := hends.lt
      clear hF hn7 hEF hcutl
      have ta := (Touch.refl [] wr).alloc (.cells #[] 5)
      go_wp2_with (at_builtin; refine stop ?_)
      refine go ?_
      refine wpList_appB rfl (.tmp 58) (.tmp 59) rfl (some ⟨wr.heap.size, 0, none⟩) 0 0 [] rfl rfl (OwnB.empty_new wr) A7 n7 c7 F Hn7.out rfl (hall.rd.touch0 ta) (by omega) ?_
      intro A10 c10 w10 hown10 ht10 hf10
      rw [Nat.zero_add]
      rw [List.nil_append] at hown10
      have T10 : Touch [] wr w10 := ta.trans ht10 (fun b hb => .inr (by simp [fpo] at hb; omega))
      have hf10' : ∀ b ∈ fpo A10, wr.heap.size ≤ b := fun b hb => by
        rcases hf10 b hb with h1 | h1
        · simp [fpo] at h1; omega
        · simp at h1; omega
      go_wp2_with (at_builtin; refine stop ?_)
      refine go ?_
      refine wpList_appB rfl (.tmp 60) (.tmp 61) rfl A10 n7 c10 F Hn7.out rfl hown10 Aj junk.length cj junk rfl rfl (Rd.touch0 hrj (ht.trans0 T10)) (by omega) ?_
      intro A11 c11 w11 hown11 ht11 hf11
      have T11 : Touch [] wr w11 := T10.trans ht11 (fun b hb => .inr (hf10' b hb))
      have hml : (F ++ junk).length = n7 + junk.length := by rw [List.length_append, Hn7.out]
      have hcap := hown11.le
      rw [hml] at hcap
      obtain ⟨M, hM⟩ : ∃ M, M = F ++ junk := ⟨_, rfl⟩
      rw [← hM] at hml hown11
      have Hml := Lib.hid hml
      clear hml hM
      have TW11 := ht.trans0 T11
      go_wp2_with fail
      refine (scan_any A11 c11 (n7 + junk.length) M Hml.out (by omega) w11 hown11.rd (hh.touch TW11 (by simp))).mono ?_
      rintro e w12 ⟨A12, c12, ls, vs, m, rfl, hgot, hst, hnone, ht12, hf12⟩
      go_wp2_with fail
      refine (refScan_any A11 c11 (n7 + junk.length) M Hml.out (by omega) hcap w12 (hown11.touch0 ht12).rd).mono ?_
      rintro e w13 ⟨A13, c13, ls2, vs2, m2, rfl, hwant, hst2, hnone2, ht13, hf13⟩
      obtain ⟨rfl, rfl⟩ := hst.unique hnone hst2 hnone2
      have T13 : Touch [] wr w13 := (T11.trans0 ht12).trans0 ht13
      have hgot2 := (hgot.touch0 ht13).bs
      have hwant2 := hwant.bs
      obtain ⟨X, hX⟩ : ∃ X : Nat, X = M.length - m.length := ⟨_, rfl⟩
      rw [← hX]
      have hlsl : ls.length ≤ 1000000 := by have := hst.len; have := Hml.out; omega
      clear hst hnone hst2 hnone2 hX hgot hwant
      go_wp2_with fail
      go_loopw [85] (fun i wx => ∃ (k : Nat), k ≤ ls.length ∧ i = .int .i64 k ∧ Touch [] w13 wx) (fun i _ => ls.length - (intOf i).toNat)
      case atStart => exact ⟨0, by omega, rfl, Touch.refl _ _⟩
      case round =>
        obtain ⟨k, hk, rfl, htx⟩ := hrel
        by_cases hlt : k < ls.length
        · obtain ⟨ad1, B1, d1, rfl, hcell1, hrd1, _⟩ := (hgot2.touch0 htx).at_ k hlt
          obtain ⟨ad2, B2, d2, rfl, hcell2, hrd2, _⟩ := (hwant2.touch0 htx).at_ k hlt
          obtain ⟨b, hb⟩ : ∃ b, b = ls[k] := ⟨_, rfl⟩
          rw [← hb] at hcell1 hcell2 hrd1 hrd2
          clear hb
          have hcv1 := fun n => run_str_of (w := wr.drewN n) d1 rfl (Rd.touch0 hrd1 ((Touch.refl [] wr).drewN n))
          have hcv2 := fun n => run_str_of (w := wr.drewN n) d2 rfl (Rd.touch0 hrd2 ((Touch.refl [] wr).drewN n))
          have hq := S_beq b b
          have hq2 := S_bne b b
          rw [show decide (b = b) = true from decide_eq_true rfl] at hq hq2
          have hkI : (0 : Int) ≤ (k : Int) := by omega
          have hkI2 : (k : Int) < (ls.length : Int) := by omega
          go_wp2_with fail
          go_quiet (fail)
          go_wp2_with fail
          go_roundw
          case rel => exact ⟨k + 1, by omega, by go_num, htx.drewN _⟩
          case measure => simp [intOf]; omega
        · obtain rfl : k = ls.length := by omega
          have Tx : Touch [] w wr := (ht.trans0 T13).trans0 htx
          have hallx := (hall.touch0 T13).touch0 htx
          have hendsx := (hends.touch0 T13).touch0 htx
          have hhx := hh.touch Tx (by simp)
          clear hgot2 hwant2
          by_cases hc0 : cut < 0
          · go_wp2_with (go_at_call 9; refine (awake_any wr hhx).mono ?_; rintro e w1 ⟨rfl, ht1⟩)
            go_ret
            exact ⟨rfl, Tx.trans0 ht1⟩
          obtain ⟨C, rfl⟩ : ∃ C : Nat, cut = C := ⟨cut.toNat, by omega⟩
          by_cases hc1 : n7 < C
          · go_wp2_with (go_at_call 9; refine (awake_any wr hhx).mono ?_; rintro e w1 ⟨rfl, ht1⟩)
            go_ret
            exact ⟨rfl, Tx.trans0 ht1⟩
          have hnl7 : n7 ≤ c7 := by have := hall.le; rw [Hn7.out] at this; exact this
          go_wp2_with fail
          go_loop [18, 19] (fun v e => ∃ k : Nat, k ≤ l.length ∧ v = .int .i64 k ∧ e = .int .i64 (endN l k : Nat) ∧ endN l k ≤ C) (fun v _ => l.length - (intOf v).toNat)
          case atStart => exact ⟨0, by omega, rfl, rfl, by simp [endN, frames]⟩
          case round =>
            obtain ⟨k, hk, rfl, rfl, hkc⟩ := hrel
            have hfin : (k = l.length ∨ C < endN l (k + 1)) → ∀ e w', ScanPost (F.take C) wr e w' → ∃ A c, e = .returned (.tuple #[.slice A k c, .int .i64 (endN l k : Nat)]) ∧ Touch [] wr w' := by
              intro h2 e w' ⟨A1, c1, ls1, vs1, m1, he, ho, hs1, hn1, ht1, _⟩
              obtain ⟨rest, k1, k2, k3⟩ := scan_cut k l C (fun s hs => by have := hl s hs; unfold maxLen at this; omega) hk hkc (by rw [← HF.out, Hn7.out]; omega) h2
              rw [← HF.out] at k1
              obtain ⟨rfl, rfl⟩ := hs1.unique hn1 k1 k2
              have e1 : (l.take k).length = k := by rw [List.length_take]; omega
              have e2 : (F.take C).length - m1.length = endN l k := by rw [k3, List.length_take, Hn7.out]; omega
              rw [e1, e2] at he
              exact ⟨A1, c1, he, ht1⟩
            have Hfin := Lib.hid hfin
            clear hfin
            obtain ⟨Ek, hEk⟩ : ∃ Ek, Ek = endN l k := ⟨_, rfl⟩
            rw [← hEk] at hkc ⊢
            have HEk := Lib.hid hEk
            have Hfin2 : Hid ((k = l.length ∨ C < endN l (k + 1)) → ∀ e w', ScanPost (F.take C) wr e w' → ∃ A c, e = .returned (.tuple #[.slice A k c, .int .i64 (Ek : Nat)]) ∧ Touch [] wr w') := by rw [hEk]; exact Hfin
            clear hEk Hfin
            have hscan := fun W (hW : W = wr) => scan_any A7 C C (F.take C) (by rw [List.length_take, Hn7.out]; omega) (by omega) wr (RdB.pre hallx.rd C) hhx
            have Hscan := Lib.hid hscan
            clear hscan
            by_cases hlt2 : k < l.length
            · obtain ⟨ad, rfl, hcell⟩ := hendsx.rd.at_ k (by rw [endsL_len]; exact hlt2)
              have hev : (endsL l l.length)[k]'(by rw [endsL_len]; exact hlt2) = (endN l (k + 1) : Int) := by simp [endsL]
              rw [hev] at hcell
              obtain ⟨E2, hE2⟩ : ∃ E2, E2 = endN l (k + 1) := ⟨_, rfl⟩
              rw [← hE2] at hcell
              have HE2 := Lib.hid hE2
              clear hev hE2
              by_cases hle : E2 ≤ C
              · have hd : decide ((E2 : Int) ≤ (C : Int)) = true := by simp; omega
                go_wp2_with fail
                go_round
                case rel => exact ⟨k + 1, by omega, by go_num, by rw [HE2.out], by rw [← HE2.out]; exact hle⟩
                case measure => simp [intOf]; omega
              · have hd : decide ((E2 : Int) ≤ (C : Int)) = false := by simp; omega
                have h2 : k = l.length ∨ C < endN l (k + 1) := .inr (by rw [← HE2.out]; omega)
                have H2 := Lib.hid h2
                clear h2
                go_wp2_with fail
                refine (Hscan.out wr rfl).mono ?_
                intro e w14 hp
                obtain ⟨A14, c14, rfl, ht14⟩ := Hfin2.out H2.out e w14 hp
                clear hp
                have Tf := Tx.trans0 ht14
                have hhf := hh.touch Tf (by simp)
                go_wp2_with (go_at_call 9; refine (awake_any _ hhf).mono ?_; rintro e w15 ⟨rfl, ht15⟩)
                go_ret
                exact ⟨rfl, Tf.trans0 ht15⟩
            · have h2 : k = l.length ∨ C < endN l (k + 1) := .inl (by omega)
              have H2 := Lib.hid h2
              clear h2
              go_wp2_with fail
              refine (Hscan.out wr rfl).mono ?_
              intro e w14 hp
              obtain ⟨A14, c14, rfl, ht14⟩ := Hfin2.out H2.out e w14 hp
              clear hp
              have Tf := Tx.trans0 ht14
              have hhf := hh.touch Tf (by simp)
              go_wp2_with (go_at_call 9; refine (awake_any _ hhf).mono ?_; rintro e w15 ⟨rfl, ht15⟩)
              go_ret
              exact ⟨rfl, Tf.trans0 ht15⟩
end Go.Proofs.YtgpadejkmpfafaaDoor
