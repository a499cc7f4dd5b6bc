/- frame.Scan: the walk. For every slice of bytes. -/
import Derived.Test.YtgpadejkmpfafaaDoorScan
import Derived.Lib.ConvBytes
namespace Go.Proofs.YtgpadejkmpfafaaDoor
open Go.RowKit

/-- []byte(s) -/
theorem run_bytes_of (s : List UInt8) (W : World) : (convert 9 22 (.string (S s))).run Tryd.prog W = .ok (.slice (some ⟨W.heap.size, 0, none⟩) s.length (grownCap W s.length 0 5)) (Lib.bytesWorld W 5 (S s)) := by
  have := Lib.run_convert_string_bytes (P := Tryd.prog) W 9 22 5 (S s) Tryd.underlying9 Tryd.underlying22 Tryd.underlying5
  rw [S_size] at this
  exact this
theorem touch_bytes (W : World) (s : List UInt8) : Touch [] W (Lib.bytesWorld W 5 (S s)) :=
  ⟨rfl, rfl, rfl, by rw [Lib.bytesWorld_size]; omega, fun k hk _ => Lib.bytesWorld_at_old W _ _ k hk⟩
theorem rd_bytes (W : World) (s : List UInt8) : RdB (Lib.bytesWorld W 5 (S s)) (some ⟨W.heap.size, 0, none⟩) s := fun _ =>
  ⟨_, rfl, fun j u hu => by
    have hadd : (⟨W.heap.size, 0, none⟩ : Addr).add j = ⟨W.heap.size, j, none⟩ := by unfold Addr.add; split <;> simp_all
    have hj : j < s.length := by have := (List.getElem?_eq_some_iff.1 hu).1; simpa using this
    rw [hadd, Lib.bytesWorld_cell _ _ _ j (by rw [S_size]; exact hj), S_toList]
    simp only [List.getElem?_map, List.getElem?_eq_getElem hj, Option.map_some, Option.some.injEq] at hu
    rw [← hu]
    simp [List.getD, hj, B]⟩

theorem InAt.touch1 {w w' : World} {g : Nat} {A : Option Addr} {l : List UInt8} {bad : Bool} {fp : List Nat} (h : InAt w g A l bad) (ht : Touch fp w w') (hg : g ∉ fp) (hA : 0 < l.length → ∀ b ∈ fpo A, b ∉ fp) : InAt w' g A l bad := by
  obtain ⟨⟨c, hc, hb⟩, hr, hn, hs⟩ := h
  refine ⟨⟨c, hc, ht.blk hb hg⟩, ?_, hn, hs⟩
  intro h0
  exact Rd.touch hr ht (hA (by simpa using h0)) h0
theorem InAt.lt {w : World} {g : Nat} {A : Option Addr} {l : List UInt8} {bad : Bool} (h : InAt w g A l bad) (h0 : 0 < l.length) : ∀ b ∈ fpo A, b < w.heap.size := Rd.lt h.rd (by simpa using h0)

/-- what holds at each round's head -/
structure ScanAt (w : World) (b : List UInt8) (g : Nat) (A2 : Option Addr) (n c2 : Nat) (E : Nat) (wr : World) : Prop where
  ex : ∃ ls vs m An, OwnBs wr A2 c2 ls vs ∧ ls.length = n ∧ n ≤ E ∧ Steps b ls m ∧ InAt wr g An m false ∧ E + m.length = b.length ∧ (∀ v ∈ vs, ∀ A' k c', v = .slice A' k c' → g ∉ fpo A') ∧
    (∀ x ∈ fpo An, w.heap.size ≤ x) ∧ (0 < m.length → ∀ x ∈ fpo A2, x ∉ fpo An)
  f2 : ∀ x ∈ fpo A2, w.heap.size ≤ x ∧ x ≠ g
  t : Touch [] w wr

/-- the outcome of a scan -/
def ScanPost (b : List UInt8) (w : World) (e : Ending) (w' : World) : Prop :=
  ∃ A c ls vs m, e = .returned (.tuple #[.slice A ls.length c, .int .i64 ((b.length - m.length : Nat) : Int)]) ∧ OwnBs w' A c ls vs ∧ Steps b ls m ∧ scan1 m = none ∧ Touch [] w w' ∧ (∀ x ∈ fpo A, w.heap.size ≤ x)

theorem OwnBs.keepIn {w w' : World} {A : Option Addr} {c g : Nat} {ls : List (List UInt8)} {vs : List Value} (h : OwnBs w A c ls vs) (ht : Touch [g] w w') (hA : ∀ x ∈ fpo A, x ≠ g) (hv : ∀ v ∈ vs, ∀ A' k c', v = .slice A' k c' → g ∉ fpo A') : OwnBs w' A c ls vs :=
  h.touch (n := 0) ht (fun b hb hm => hA b hb (by simpa using hm)) (fun j hj A' hr ⟨c', hc⟩ => Rd.touch hr ht (fun b hb hm => by
    obtain rfl : b = g := by simpa using hm
    exact hv _ (List.mem_of_getElem? hc) A' _ c' rfl hb)) rfl

set_option maxRecDepth 100000 in
set_option maxHeartbeats 3200000 in
theorem scan_any (A : Option Addr) (c n : Nat) (b : List UInt8) (hn : b.length = n) (hm : n ≤ 900000000) (w : World) (hr : RdB w A b) (hh : HalfAt w) :
    Calls Tryd.prog 26 #[.slice A n c] w fun e w' => ScanPost b w e w' := by
  subst hn
  go_enter Tryd.func26, Tryd.ntmps26
  go_wp2_with fail
  refine (newIn_any A b.length c b rfl (by omega) w hr).mono ?_
  rintro e w1 ⟨g, A1, rfl, hi1, ht1, hgw, hf1⟩
  go_wp2_with fail
  go_loopw [2, 3] (fun v E wr => ∃ (A2 : Option Addr) (n c2 E' : Nat), v = .slice A2 n c2 ∧ E = .int .i64 E' ∧ ScanAt w b g A2 n c2 E' wr) (fun _ E _ => b.length - (intOf E).toNat)
  case atStart => exact ⟨none, 0, 0, 0, rfl, rfl, ⟨⟨[], [], b, A1, OwnBs.nil _, rfl, Nat.le_refl _, rfl, hi1, by omega, by simp, hf1, by simp [fpo]⟩, by simp [fpo], ht1⟩⟩
  case round =>
    clear hi1 ht1 hf1
    obtain ⟨A2, n, c2, E, rfl, rfl, ⟨ls, vs, m, An, hown, hln, hnE, hst, hi, hE, hvg, hfn, hap⟩, hf2, ht⟩ := hrel
    obtain ⟨c3, hc3, hg3, hgl3, hc03, hc13, hfr3, hfr13⟩ := hi.mk'
    have hEm : (b.length - m.length : Nat) = E := by omega
    have hstop : ∀ w', Touch [g] wr w' ∨ Touch [] wr w' → scan1 m = none → ScanPost b w (.returned (.tuple #[.slice A2 n c2, .int .i64 (E : Int)])) w' := by
      intro w' hT hnone
      rcases hT with hT | hT
      · exact ⟨A2, c2, ls, vs, m, by rw [hln, hEm], hown.keepIn hT (fun x hx => (hf2 x hx).2) hvg, hst, hnone, ht.trans hT (fun x hx => .inr (by simp at hx; omega)), fun x hx => (hf2 x hx).1⟩
      · exact ⟨A2, c2, ls, vs, m, by rw [hln, hEm], hown.touch0 hT, hst, hnone, ht.trans0 hT, fun x hx => (hf2 x hx).1⟩
    clear hEm
    by_cases hm0 : m = []
    · subst hm0
      have hs := hstop wr (.inr (Touch.refl _ _)) scan1_nil
      have Hs := Lib.hid hs; clear hs hstop hg3 hE hln
      go_wp2
      go_ret2
      exact Hs.out
    · have hml : 0 < m.length := List.length_pos_iff.2 hm0
      have hT := inText_ok g An m wr hi
      have Hstop := Lib.hid hstop; clear hstop
      rcases hrT : rdT m with _ | ⟨s, r⟩
      · unfold TextPost at hT
        rw [hrT] at hT
        have hnone : scan1 m = none := by unfold scan1; rw [hrT]
        have Hnone := Lib.hid hnone
        have HT := Lib.hid hT
        clear hnone hT hrT hg3 hE hln hm0
        go_wp2_with fail
        refine HT.out.mono ?_
        rintro e w2 ⟨rfl, l2, A3, hi3, ht3, hf3⟩
        have hsb := run_bytes_of [] w2
        have tb := touch_bytes w2 []
        go_wp2_with fail
        clear hsb
        refine (take_no g A3 l2 true 4 (by omega) (by omega) _ (hi3.touch tb (by simp) (by simp)) (.inl rfl)).mono ?_
        rintro e w4 ⟨rfl, A4, hi4, ht4, hf4⟩
        obtain ⟨c4, hc4, hg4, hgl4, hc04, hc14, hfr4, hfr14⟩ := hi4.mk'
        clear hg4
        have Hs := Lib.hid (Hstop.out w4 (.inl ((ht3.trans0 tb).trans ht4 (fun b hb => .inl hb))) Hnone.out)
        go_wp2
        go_ret2
        exact Hs.out
      · unfold TextPost at hT
        rw [hrT] at hT
        have hsl := rdT_rest hrT
        have HT := Lib.hid hT
        obtain ⟨hsl1, k, hk1, hk2, hk3⟩ := hsl
        have hsm : m.length ≤ 900000000 := by omega
        have hsn := sumOf_lt s
        by_cases h4 : r.length < 4
        · have hnone : scan1 m = none := by unfold scan1; rw [hrT]; simp [h4]
          have Hnone := Lib.hid hnone
          clear hnone hT hrT hg3 hE hln hm0 hk2 hk3
          go_wp2_with fail
          refine HT.out.mono ?_
          rintro e w2 ⟨rfl, A3, hi3, ht3, hf3⟩
          have hsb := run_bytes_of s w2
          have tb := touch_bytes w2 s
          go_wp2_with fail
          clear hsb
          refine (take_no g A3 r false 4 (by omega) (by omega) _ (hi3.touch tb (by simp) (by simp)) (.inr (.inr (by omega)))).mono ?_
          rintro e w4 ⟨rfl, A4, hi4, ht4, hf4⟩
          obtain ⟨c4, hc4, hg4, hgl4, hc04, hc14, hfr4, hfr14⟩ := hi4.mk'
          clear hg4
          have Hs := Lib.hid (Hstop.out w4 (.inl ((ht3.trans0 tb).trans ht4 (fun b hb => .inl hb))) Hnone.out)
          go_wp2
          go_ret2
          exact Hs.out
        · have hs1 : scan1 m = if r.take 4 = digs (sumOf s) 4 then some (s, r.drop 4) else none := by unfold scan1; rw [hrT]; simp [h4]
          have Hs1 := Lib.hid hs1
          have hwr : IntKind.u64.wrap ((sumOf s : Nat) : Int) = ((sumOf s : Nat) : Int) := by rw [IntKind.wrap_u64]; omega
          clear hs1 hT hrT hg3 hm0 hk2
          go_wp2_with fail
          refine HT.out.mono ?_
          rintro e w2 ⟨rfl, A3, hi3, ht3, hf3⟩
          have hsb := run_bytes_of s w2
          have tb := touch_bytes w2 s
          have rb := rd_bytes w2 s
          have hi3' := hi3.touch tb (by simp) (by simp)
          have hgc := grownCap_ge w2 s.length 0 5
          obtain ⟨G, hG⟩ : ∃ G, G = grownCap w2 s.length 0 5 := ⟨_, rfl⟩
          rw [← hG] at hsb hgc
          clear hG
          go_wp2_with fail
          clear hsb
          refine (take_ok g A3 r 4 (by omega) _ hi3').mono ?_
          rintro e w4 ⟨⟨A0, rfl, hr0, hf0⟩, A4, hi4, ht4, hf4⟩
          obtain ⟨c4, hc4, hg4, hgl4, hc04, hc14, hfr4, hfr14⟩ := hi4.mk'
          have T4 := (ht3.trans0 tb).trans ht4 (fun b hb => .inl hb)
          have TW : Touch [] w w4 := ht.trans T4 (fun x hx => .inr (by simp at hx; omega))
          have hs2 := ht3.size
          have hgs : g < w2.heap.size := by omega
          have rb4 : RdB w4 (some ⟨w2.heap.size, 0, none⟩) s := Rd.touch rb ht4 (fun b hb hm => by
            simp [fpo] at hb hm; omega)
          have hrs : RdB w4 A0 (r.take 4) := Rd.touch hr0 ht4 (fun b hb hm => hi3.ne ((by simpa using hm : b = g) ▸ hf0 b hb))
          clear hg4
          go_wp2_with fail
          refine (sum_any (some ⟨w2.heap.size, 0, none⟩) G s w4 (by unfold maxLen; omega) rb4 (hh.touch TW (by simp))).mono ?_
          rintro e w5 ⟨rfl, rfl⟩
          go_wp2_with fail
          refine (low_four (sumOf s) hsn w4).mono ?_
          rintro e w5 ⟨A5, c5, rfl, hown5, ht5, hf5⟩
          go_wp2_with fail
          refine (equal_any A0 A5 4 4 4 c5 (r.take 4) (digs (sumOf s) 4) (by rw [List.length_take]; omega) (digs_length _ _) w5 (Rd.touch0 hrs ht5) hown5.rd).mono ?_
          rintro e w6 ⟨rfl, rfl⟩
          by_cases heq : r.take 4 = digs (sumOf s) 4
          · have hyes : scan1 m = some (s, r.drop 4) := by rw [Hs1.out, if_pos heq]
            have Hyes := Lib.hid hyes
            have Heq := Lib.hid heq
            have hde : decide (r.take 4 = digs (sumOf s) 4) = true := decide_eq_true heq
            rw [hde]
            clear hyes heq hde
            have hi5 : InAt w5 g A4 (r.drop 4) false := hi4.touch ht5 (by simp) (by simp)
            obtain ⟨c6, hc6, hg6, hgl6, hc06, hc16, hfr6, hfr16⟩ := hi5.mk'
            have hdl : (r.drop 4).length = r.length - 4 := List.length_drop
            have T5 := T4.trans0 ht5
            have hown5b := (hown.keepIn T4 (fun x hx => (hf2 x hx).2) hvg).touch0 ht5
            have hlt2 := hown.lt
            have tx := (Touch.refl [] w5).alloc (.cells #[.slice (some ⟨w2.heap.size, 0, none⟩) s.length G] 22)
            have hcx : (w5.alloc (.cells #[.slice (some ⟨w2.heap.size, 0, none⟩) s.length G] 22)).cell? ⟨w5.heap.size, 0, none⟩ = some (.slice (some ⟨w2.heap.size, 0, none⟩) s.length G) := cell_of_one (heap_alloc_new w5 _)
            have hs4 := ht4.size
            have hs5 := ht5.size
            rw [Lib.bytesWorld_size] at hs4
            have hfs : ∀ x ∈ fpo (some ⟨w2.heap.size, 0, none⟩ : Option Addr), x ∉ fpo A2 ∧ x < (w5.alloc (.cells #[.slice (some ⟨w2.heap.size, 0, none⟩) s.length G] 22)).heap.size := by
              intro x hx
              obtain rfl : x = w2.heap.size := by simpa [fpo] using hx
              refine ⟨fun hm => ?_, by simp; omega⟩
              have := hlt2 _ hm; omega
            have rb5 : RdB (w5.alloc (.cells #[.slice (some ⟨w2.heap.size, 0, none⟩) s.length G] 22)) (some ⟨w2.heap.size, 0, none⟩) s := (Rd.touch0 rb4 ht5).touch0 tx
            have hnl : n < 1000000000 := by omega
            have hE2 : n + 1 ≤ b.length - (r.drop 4).length := by omega
            have hE3 : (b.length - (r.drop 4).length) + (r.drop 4).length = b.length := by omega
            have hE4 : (b.length : Int) - ((r.length - 4 : Nat) : Int) = ((b.length - (r.drop 4).length : Nat) : Int) := by omega
            have hE5 : E < b.length - (r.drop 4).length := by omega
            have HE4 := Lib.hid hE4
            clear hE4
            clear hg6 hc06 hc16 hfr6 hfr16
            have Hln := Lib.hid hln
            have HE := Lib.hid hE
            clear hE hln hk3 hdl
            go_wp2_with (at_builtin; refine stop ?_)
            refine go ?_
            refine wpList_appBs rfl (.tmp 33) (.tmp 35) rfl A2 n c2 ls vs Hln.out rfl (hown5b.touch0 tx) w5.heap.size (some ⟨w2.heap.size, 0, none⟩) s.length G s rfl hcx rfl rb5 hgc hfs hnl ?_
            intro A7 c7 w7 hown7 ht7 hf7
            have hf4A : ∀ x ∈ fpo A4, x ∉ fpo A2 := fun x hx hm => hap hml x hm (hf3 x (hf4 x hx))
            have hi7 : InAt w7 g A4 (r.drop 4) false := (hi5.touch tx (by simp) (by simp)).touch ht7 (fun hm => (hf2 g hm).2 rfl) hf4A
            obtain ⟨c8, hc8, hg8, hgl8, hc08, hc18, hfr8, hfr18⟩ := hi7.mk'
            clear hg8
            have T7 : Touch [] w w7 := ((ht.trans T5 (fun x hx => .inr (by simp at hx; omega))).trans0 tx).trans ht7 (fun x hx => .inr (hf2 x hx).1)
            have hs7 := ht.size
            go_wp2_with fail
            go_roundw
            case rel => exact ⟨A7, n + 1, c7, b.length - (r.drop 4).length, rfl, by rw [HE4.out], ⟨⟨ls ++ [s], _, r.drop 4, A4, hown7, by rw [List.length_append, Hln.out]; rfl, hE2, hst.snoc Hyes.out, hi7, hE3, fun v hv A' k c' e => by
              rcases List.mem_append.1 hv with h1 | h1
              · exact hvg v h1 A' k c' e
              · obtain rfl : v = .slice (some ⟨w2.heap.size, 0, none⟩) s.length G := by simpa using h1
                injection e with e1 _ _
                subst e1
                simp [fpo]; omega, fun x hx => hfn x (hf3 x (hf4 x hx)), fun h0 x hx hm => by
              rcases hf7 x hx with h1 | h1
              · exact hf4A x hm h1
              · have := hi5.lt h0 x hm
                simp at h1
                omega⟩, fun x hx => by
              rcases hf7 x hx with h1 | h1
              · exact hf2 x h1
              · simp at h1; omega, T7⟩⟩
            case measure =>
              have hdl2 : (r.drop 4).length = r.length - 4 := List.length_drop
              simp [intOf]; omega
          · have hnone : scan1 m = none := by rw [Hs1.out, if_neg heq]
            have hde : decide (r.take 4 = digs (sumOf s) 4) = false := decide_eq_false heq
            rw [hde]
            have Hs := Lib.hid (Hstop.out w5 (.inl (T4.trans0 ht5)) hnone)
            clear heq hde hnone hE hln
            go_wp2
            go_ret2
            exact Hs.out
end Go.Proofs.YtgpadejkmpfafaaDoor
