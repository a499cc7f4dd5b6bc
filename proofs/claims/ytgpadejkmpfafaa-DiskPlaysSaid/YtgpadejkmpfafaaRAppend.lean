/- bywashref06.Disk.Append: the walk. -/
import Derived.Test.YtgpadejkmpfafaaRFirst
import Derived.Outline
namespace Go.Proofs.Ytgpadejkmpfafaa
open Go.RowKit

theorem RdStep.trans {g : Nat} {fp fp1 : List Nat} {V : RFl} {r : RR} {w w1 w2 : World} (T : Touch fp w w1) (hf : ∀ b ∈ fp1, b ∈ fp ∨ w.heap.size ≤ b) (h : RdStep g fp1 V r w1 w2) : RdStep g fp V r w w2 := by
  obtain ⟨fp', h1, h2, h3⟩ := h
  refine ⟨fp', h1, T.trans h2 hf, fun b hb => ?_⟩
  rcases h3 b hb with h | h
  · exact hf b h
  · exact .inr (Nat.le_trans T.size h)
theorem RdAt.step {w w' : World} {g : Nat} {fp fp2 : List Nat} {V : RFl} {r : RR} (h : RdAt w g fp V r) (ht : Touch fp2 w w') (hn : ∀ b ∈ fp, b ∉ fp2) : RdAt w' g fp V r := by
  obtain ⟨rs, hR, hx, h4, rfl⟩ := h
  exact ⟨rs, hR.step ht hn, hx, h4, rfl⟩
theorem RdAt.lt {w : World} {g : Nat} {fp : List Nat} {V : RFl} {r : RR} (h : RdAt w g fp V r) : ∀ b ∈ fp, b < w.heap.size := by
  obtain ⟨rs, hR, hx, h4, rfl⟩ := h
  exact hR.lt
theorem RdAt.keep {w w' : World} {g : Nat} {fp : List Nat} {V : RFl} {r : RR} (h : RdAt w g fp V r) (ht : Touch [] w w') : RdStep g fp V r w w' :=
  ⟨fp, h.step ht (by simp), ht.mono (by simp), fun b hb => .inl hb⟩
theorem RdAt.len {w : World} {g : Nat} {fp : List Nat} {V : RFl} {r : RR} (h : RdAt w g fp V r) : V.length = 4 := h.choose_spec.2.2.1
theorem RdAt.gin {w : World} {g : Nat} {fp : List Nat} {V : RFl} {r : RR} (h : RdAt w g fp V r) : g ∈ fp := by
  obtain ⟨rs, hR, hx, h4, rfl⟩ := h
  simp [rfp]
theorem RdAt.cells {w : World} {g : Nat} {fp : List Nat} {V : RFl} {r : RR} (h : RdAt w g fp V r) : w.cell? ⟨g, 8, none⟩ = some (.int .i64 r.cap) ∧ w.cell? ⟨g, 9, none⟩ = some (.int .i64 r.left) ∧ w.cell? ⟨g, 10, none⟩ = some (.int .i64 r.done) ∧ w.cell? ⟨g, 11, none⟩ = some (.bool r.armed) ∧ w.cell? ⟨g, 12, none⟩ = some (.bool r.down) := by
  obtain ⟨rs, hR, hx, h4, rfl⟩ := h
  have h8 := rows_len hx h4
  exact ⟨hR.tcell 0 8 (by omega) _ rfl, hR.tcell 1 9 (by omega) _ rfl, hR.tcell 2 10 (by omega) _ rfl, hR.tcell 3 11 (by omega) _ rfl, hR.tcell 4 12 (by omega) _ rfl⟩
theorem RdAt.free {w : World} {g : Nat} {fp : List Nat} {V : RFl} {r : RR} (h : RdAt w g fp V r) (i : Nat) : w.frozen? ⟨g, i, none⟩ = false := by
  obtain ⟨rs, hR, hx, h4, rfl⟩ := h
  exact hR.free i
theorem RdAt.setTail {w : World} {g : Nat} {fp : List Nat} {V : RFl} {r r' : RR} (h : RdAt w g fp V r) (i k : Nat) (hk : k = 8 + i) (v : Value) (hr : r.cells.set i v = r'.cells) : RdAt (w.setCell ⟨g, k, none⟩ v) g fp V r' := by
  obtain ⟨rs, hR, hx, h4, rfl⟩ := h
  have h8 := rows_len hx h4
  have := hR.setTail i k (by omega) v
  rw [hr] at this
  exact ⟨rs, this, hx, h4, rfl⟩

/-- what a file's rows hold, and what it takes to set one -/
structure RFile (w : World) (g : Nat) (fp : List Nat) (V : RFl) (r : RR) (n : Nat) (hn : n < V.length) (A : Option Addr) (c : Nat) (B' : Option Addr) (d : Nat) : Prop where
  cb : w.cell? ⟨g, n * 2, none⟩ = some (.slice A (V[n]).1.length c)
  ob : OwnB w A c (V[n]).1
  cs : w.cell? ⟨g, n * 2 + 1, none⟩ = some (.slice B' (V[n]).2.length d)
  os : OwnO w B' d (V[n]).2
  fa : ∀ b ∈ fpo A, b ∈ fp ∧ b ≠ g ∧ b ∉ fpo B'
  fb : ∀ b ∈ fpo B', b ∈ fp ∧ b ≠ g
  putB : ∀ w2 A' c' l', Touch (fpo A) w w2 → OwnB w2 A' c' l' → (∀ b ∈ fpo A', b ∈ fpo A ∨ w.heap.size ≤ b) → RdStep g fp (V.set n (l', (V[n]).2)) r w (w2.setCell ⟨g, n * 2, none⟩ (.slice A' l'.length c'))
  putS : ∀ w2 A' c' l', Touch (fpo B') w w2 → OwnO w2 A' c' l' → (∀ b ∈ fpo A', b ∈ fpo B' ∨ w.heap.size ≤ b) → RdStep g fp (V.set n ((V[n]).1, l')) r w (w2.setCell ⟨g, n * 2 + 1, none⟩ (.slice A' l'.length c'))
theorem RdAt.file {w : World} {g : Nat} {fp : List Nat} {V : RFl} {r : RR} (h : RdAt w g fp V r) (n : Nat) (hn : n < V.length) : ∃ A c B' d, RFile w g fp V r n hn A c B' d := by
  obtain ⟨rs, hR, hx, h4, rfl⟩ := h
  have h8 := rows_len hx h4
  have hn4 : n < 4 := by omega
  obtain ⟨A, c, B', d, h1, h2, h3, h5, h6, h7⟩ := hR.file hx h4 n hn
  have eA := h6 (by omega)
  have eB := h7 (by omega)
  have hput : ∀ (k : Nat) (hk : k < rs.length) w2 (rw' : Rw), Touch (fpo rs[k].A) w w2 → w2.ownsRow 0 (rty k) 1 rw'.v rw'.xs.length rw'.xs → (∀ b ∈ fpo rw'.A, b ∈ fpo rs[k].A ∨ w.heap.size ≤ b) → ∀ V', (xsl V).set k rw'.xs = xsl V' → V'.length = 4 →
      RdStep g (rfp g rs) V' r w (w2.setCell ⟨g, k, none⟩ rw'.v) := by
    intro k hk w2 rw' T2 ho hf V' hV' hV4
    refine ⟨rfp g (rs.set k rw'), ⟨rs.set k rw', hR.setRow k hk rw' T2 ho hf, by rw [List.map_set, hx]; exact hV', hV4, rfl⟩, ?_, rfp_set hk hf⟩
    exact (T2.mono (fun b hb => .inl (mem_rfp.2 (.inr ⟨k, hk, hb⟩)))).setCell (p := ⟨g, k, none⟩) (.inl (mem_rfp.2 (.inl rfl))) _
  refine ⟨A, c, B', d, ⟨h1, h2, h3, h5, fun b hb => ⟨mem_rfp.2 (.inr ⟨n * 2, by omega, by rw [eA]; exact hb⟩), fun e => hR.ne (n * 2) (by omega) (by rw [eA, ← e]; exact hb), fun hm => hR.apart (n * 2) (n * 2 + 1) (by omega) (by omega) (by omega) b (by rw [eA]; exact hb) (by rw [eB]; exact hm)⟩,
    fun b hb => ⟨mem_rfp.2 (.inr ⟨n * 2 + 1, by omega, by rw [eB]; exact hb⟩), fun e => hR.ne (n * 2 + 1) (by omega) (by rw [eB, ← e]; exact hb)⟩, ?_, ?_⟩⟩
  · intro w2 A' c' l' T2 ho hf
    have := hput (n * 2) (by omega) w2 ⟨A', c', l'.map B⟩ (by rw [eA]; exact T2) (by
      have t1 : rty (n * 2) = 5 := by unfold rty; rw [if_pos (by omega)]
      rw [t1]; unfold Rw.v; simpa [OwnB] using ho) (by rw [eA]; exact hf) (V.set n (l', (V[n]).2)) (xsl_set_b h4 n hn l') (by simpa using h4)
    simpa [Rw.v] using this
  · intro w2 A' c' l' T2 ho hf
    have := hput (n * 2 + 1) (by omega) w2 ⟨A', c', l'.map Value.bool⟩ (by rw [eB]; exact T2) (by
      have t1 : rty (n * 2 + 1) = 4 := by unfold rty; rw [if_neg (by omega)]
      rw [t1]; unfold Rw.v; simpa [OwnO] using ho) (by rw [eB]; exact hf) (V.set n ((V[n]).1, l')) (xsl_set_s h4 n hn l') (by simpa using h4)
    simpa [Rw.v] using this

theorem rused_rd (g : Nat) (fp : List Nat) (V : RFl) (r : RR) (w : World) (h : RdAt w g fp V r) (hu : rused V ≤ 1073741824) :
    Calls Try.prog 24 #[.pointer (some ⟨g, 0, none⟩)] w fun e w' => e = .returned (.int .i64 (rused V : Nat)) ∧ w = w' := by
  obtain ⟨rs, hR, hx, h4, rfl⟩ := h
  exact rused_any g rs V r w hR hx h4 hu
theorem Touch.frz {fp : List Nat} {w w' : World} (ht : Touch fp w w') {a : Addr} (hlt : a.block < w.heap.size) (hn : a.block ∉ fp) : w'.frozen? a = w.frozen? a := by
  unfold World.frozen?
  rw [ht.block _ hlt hn]
def RR.ok (r : RR) : Prop := 0 ≤ r.cap ∧ r.cap ≤ 1073741824 ∧ (r.armed = true → 0 ≤ r.left) ∧ -9223372036854775808 ≤ r.left ∧ r.left ≤ 9223372036854775807 ∧ 0 ≤ r.done ∧ r.done ≤ 1073741824
theorem rcommand_rd (g : Nat) (fp : List Nat) (V : RFl) (r : RR) (w : World) (h : RdAt w g fp V r) (hok : r.ok) :
    Calls Try.prog 48 #[.pointer (some ⟨g, 0, none⟩)] w fun e w' => e = .returned (.int .i64 (rcmdE r)) ∧ RdStep g fp V (rcmdR r) w w' ∧ Touch [g] w w' := by
  obtain ⟨rs, hR, hx, h4, rfl⟩ := h
  obtain ⟨k1, k2, k3, k4, k5, k6, k7⟩ := hok
  refine (rcommand_any g rs r w hR (rows_len hx h4) k3 k5 k4 k6 k7).mono ?_
  rintro e w' ⟨rfl, h1, h2⟩
  exact ⟨rfl, ⟨_, ⟨rs, h1, hx, h4, rfl⟩, h2.mono (fun b hb => .inl (by simp at hb; simp [rfp, hb])), fun b hb => .inl hb⟩, h2⟩

set_option maxRecDepth 20000 in
set_option maxHeartbeats 3200000 in
theorem rappend_ok (g : Nat) (fp : List Nat) (V : RFl) (r : RR) (n : Nat) (A : Option Addr) (c : Nat) (b : List UInt8) (w : World) (hd : RdAt w g fp V r) (hr : ∀ w', Touch fp w w' → RdB w' A b) (hok : r.ok)
    (hn : n < V.length) (hdn : r.down = false) (hu : rused V ≤ 1073741824) (hb : b.length ≤ 1073741824) (hroom : (rused V : Int) + b.length ≤ r.cap) (hbl : ∀ i, (h : i < V.length) → (V[i]).2.length ≤ 1073741824) :
    Calls Try.prog 38 #[.pointer (some ⟨g, 0, none⟩), .int .i64 n, .slice A b.length c] w fun e w' => e = .returned (.int .i64 (rcmdE r)) ∧
      RdStep g fp (V.set n ((V[n]).1 ++ b, (V[n]).2 ++ List.replicate b.length false)) (rcmdR r) w w' := by
  have h4 := hd.len
  obtain ⟨c8, c9, c10, c11, c12⟩ := hd.cells
  have hck : checkI r.down n = 0 := by simp only [checkI, hdn]; simp; omega
  have k1 := hok.1
  have k2 := hok.2.1
  have hn4 : (n : Int) < 4 := by omega
  have hn0 : (0 : Int) ≤ n := by omega
  have hlu : (V[n]).1.length ≤ rused V := by
    unfold rused
    obtain ⟨a, b, c, d, rfl⟩ := fourV h4
    rcases lt_four hn with rfl | rfl | rfl | rfl <;> simp <;> omega
  have hbn := hbl n hn
  have hwr : IntKind.i64.wrap ((rused V : Int) + (b.length : Int)) = (rused V : Int) + (b.length : Int) := IntWalk.i64_in _ (by omega)
  have hu' := rused_rd g fp V r w.drew (hd.step ((Touch.refl [] w).drew) (by simp)) hu
  have hl0 : (V[n]).1.length ≤ 1073741824 := by omega
  obtain ⟨l, hl⟩ : ∃ l, l = (V[n]).1 := ⟨_, rfl⟩
  obtain ⟨bs, hbs⟩ : ∃ bs, bs = (V[n]).2 := ⟨_, rfl⟩
  rw [← hl] at hl0 ⊢
  rw [← hbs] at hbn ⊢
  have S0 : Hid (RdStep g fp (V.set n (l ++ b.take 0, bs ++ List.replicate 0 false)) r w w.drew) := Lib.hid (by
    have e : V.set n (l ++ b.take 0, bs ++ List.replicate 0 false) = V := by
      rw [hl, hbs]; simp only [List.take_zero, List.append_nil, List.replicate_zero]; exact List.set_getElem_self hn
    rw [e]
    exact hd.keep ((Touch.refl [] w).drew))
  clear hl hbs
  go_enter Try.func38, Try.ntmps38
  go_wp2_with (go_at_call 47; refine (rwrong_any g r.down _ _ c12).mono ?_; rintro e w' ⟨rfl, rfl⟩; rw [hck])
  go_region_held3 (fun w' => w'.cell? ⟨g, 8, none⟩ = some (.int .i64 r.cap)) (exact c8) ((go_at_call 24; refine hu'.mono ?_; rintro e w1 ⟨rfl, rfl⟩))
  clear hwr hu'
  have hdw : RdAt w.drew g fp V r := hd.step ((Touch.refl [] w).drew) (by simp)
  go_wp2_with fail
  clear hlu hdw c8 c9 c10 c11 c12
  go_loopw [8] (fun i wr => ∃ k : Nat, k ≤ b.length ∧ i = .int .i64 k ∧ RdStep g fp (V.set n (l ++ b.take k, bs ++ List.replicate k false)) r w wr) (fun i _ => b.length - (intOf i).toNat)
  case atStart => exact ⟨0, by omega, rfl, S0.out⟩
  case round =>
    clear S0
    obtain ⟨k, hk, rfl, ⟨fp1, hd1, T1, hf1⟩⟩ := hrel
    by_cases hlt : k < b.length
    · obtain ⟨V1, hV1⟩ : ∃ V1, V1 = V.set n (l ++ b.take k, bs ++ List.replicate k false) := ⟨_, rfl⟩
      have hn1 : n < V1.length := by rw [hV1]; simpa using hn
      have hVn : V1[n] = (l ++ b.take k, bs ++ List.replicate k false) := by simp [hV1]
      rw [← hV1] at hd1
      obtain ⟨ad, rfl, hcell⟩ := (hr wr T1).at_ k hlt
      obtain ⟨x, hx⟩ : ∃ x, x = b[k] := ⟨_, rfl⟩
      rw [← hx] at hcell
      have hsn : l ++ b.take (k + 1) = (l ++ b.take k) ++ [x] := by rw [hx, List.append_assoc]; congr 1; exact List.take_succ_eq_append_getElem hlt
      have hrs : bs ++ List.replicate (k + 1) false = (bs ++ List.replicate k false) ++ [false] := by rw [List.append_assoc, ← List.replicate_succ']
      have hlen1 : (l ++ b.take k).length = l.length + k := by rw [List.length_append, List.length_take]; omega
      have hlen2 : (bs ++ List.replicate k false).length = bs.length + k := by rw [List.length_append, List.length_replicate]
      obtain ⟨A1, c1, B1, d1, ⟨cb, ob, cs, os, fa, fb, putB, putS⟩⟩ := hd1.file n hn1
      rw [hVn] at cb ob cs os putB
      obtain ⟨l1, hl1⟩ : ∃ l1, l1 = l ++ b.take k := ⟨_, rfl⟩
      obtain ⟨b1, hb1⟩ : ∃ b1, b1 = bs ++ List.replicate k false := ⟨_, rfl⟩
      rw [← hl1] at cb ob putB hsn hlen1
      rw [← hb1] at cs os putB hrs hlen2
      dsimp only at cb ob cs os putB
      rw [hlen1] at cb
      rw [hlen2] at cs
      have Hsn := Lib.hid hsn
      have Hrs := Lib.hid hrs
      have Hl1 := Lib.hid hlen1
      have Hl2 := Lib.hid hlen2
      have HV1 := Lib.hid hV1
      have hkI0 : (0 : Int) ≤ (k : Int) := by omega
      have hkI : (k : Int) < (b.length : Int) := by omega
      have zb := hd1.free (n * 2)
      have hxl := x.toNat_lt
      have hlt1 := hd1.lt
      have hg1 := hd1.gin
      clear hx hsn hrs hlen1 hlen2 hl1 hb1 putS hVn hV1
      have ta := ((Touch.refl [] wr).alloc (.cells #[.int .u8 (x.toNat : Int)] 5)).drew
      have hrd := Rd.touch0 (RdB.one' wr x (z := (x.toNat : Int)) rfl) ((Touch.refl [] _).drew)
      have cba := fun o => ((Touch.refl [] wr).alloc o).cell cb (by simp)
      have cxa := fun o => ((Touch.refl [] wr).alloc o).cell hcell (by simp)
      have hgr : g < wr.heap.size := hlt1 g hg1
      have hgA : g < (wr.alloc (.cells #[.int .u8 (x.toNat : Int)] 5)).drew.heap.size := by simp; omega
      have hgn : g ∉ fpo A1 := fun hm => (fa _ hm).2.1 rfl
      go_wp2_with fail
      go_region_law (first | (refine step_appB rfl (.tmp 39) (.tmp 44) rfl A1 (l.length + k) c1 l1 Hl1.out rfl (by exact ob.touch0 ta) (some ⟨wr.heap.size, 0, none⟩) 1 1 [x] rfl rfl (by exact hrd) (by omega) ?_; intro A2 c2 w2 hown2 ht2 hf2; have cb2 := ht2.cell (ta.cell cb (by simp)) (fun hm => (fa _ hm).2.1 rfl); have zb2 : w2.frozen? ⟨g, n * 2, none⟩ = false := ((ht2.frz (a := ⟨g, n * 2, none⟩) hgA hgn).trans (ta.frz (a := ⟨g, n * 2, none⟩) hgr (by simp))).trans zb))
      all_goals
        have T2 : Touch (fpo A1) wr w2 := (ta.mono (fp2 := fpo A1) (by simp)).trans ht2 (fun b hb => .inl hb)
        have hf2' : ∀ b ∈ fpo A2, b ∈ fpo A1 ∨ wr.heap.size ≤ b := fun b hb => by
          rcases hf2 b hb with h1 | h1
          · exact .inl h1
          · simp at h1; exact .inr (by omega)
        have hst := putB w2 A2 c2 (l1 ++ [x]) T2 hown2 hf2'
        have hln : (l1 ++ [x]).length = l.length + k + 1 := by rw [List.length_append, Hl1.out]; rfl
        rw [hln] at hst
        obtain ⟨W3, hW3⟩ : ∃ W3, W3 = w2.setCell ⟨g, n * 2, none⟩ (.slice A2 (l.length + k + 1) c2) := ⟨_, rfl⟩
        rw [← hW3] at hst ⊢
        clear hW3 hln
        obtain ⟨fp3, hd3, T3, hf3⟩ := hst
        obtain ⟨V3, hV3⟩ : ∃ V3, V3 = V1.set n (l1 ++ [x], b1) := ⟨_, rfl⟩
        have hn3 : n < V3.length := by rw [hV3]; simpa using hn1
        have hVn3 : V3[n] = (l1 ++ [x], b1) := by simp [hV3]
        rw [← hV3] at hd3
        have HV3 := Lib.hid hV3
        obtain ⟨A5, c5, B5, d5, ⟨cb5, ob5, cs5, os5, fa5, fb5, putB5, putS5⟩⟩ := hd3.file n hn3
        rw [hVn3] at cs5 os5 putS5
        dsimp only at cs5 os5 putS5
        rw [Hl2.out] at cs5
        have hlt3 := hd3.lt
        have hg3 := hd3.gin
        have zs3 := hd3.free (n * 2 + 1)
        have hgr3 : g < W3.heap.size := hlt3 g hg3
        have hgn3 : g ∉ fpo B5 := fun hm => (fb5 _ hm).2 rfl
        have ta3 := ((Touch.refl [] W3).alloc (.cells #[.bool false] 4)).drew
        have hgA3 : g < (W3.alloc (.cells #[.bool false] 4)).drew.heap.size := by simp; omega
        have cs5a := fun o => ((Touch.refl [] W3).alloc o).cell cs5 (by simp)
        have hcf : (W3.alloc (.cells #[.bool false] 4)).drew.cell? ⟨W3.heap.size, 0, none⟩ = some (.bool false) := cell_of_one (heap_alloc_new W3 _)
        clear putB5 hVn3 hV3 cb5 ob5 fa5 cb2 zb2 cba cxa hown2 ht2 hf2 cb ob cs os putB ta hgA hgr
        go_wp2_with fail
        go_region_law (first | (refine step_appO rfl (.tmp 58) (.tmp 59) rfl B5 (bs.length + k) d5 b1 Hl2.out rfl (by exact os5.touch0 ta3) W3.heap.size false rfl (by exact hcf) (by omega) ?_; intro A6 c6 w6 hown6 ht6 hf6; have cs6 := ht6.cell (ta3.cell cs5 (by simp)) (fun hm => (fb5 _ hm).2 rfl); have zs6 : w6.frozen? ⟨g, n * 2 + 1, none⟩ = false := ((ht6.frz (a := ⟨g, n * 2 + 1, none⟩) hgA3 hgn3).trans (ta3.frz (a := ⟨g, n * 2 + 1, none⟩) hgr3 (by simp))).trans zs3))
        all_goals
          have T6 : Touch (fpo B5) W3 w6 := (ta3.mono (fp2 := fpo B5) (by simp)).trans ht6 (fun b hb => .inl hb)
          have hf6' : ∀ b ∈ fpo A6, b ∈ fpo B5 ∨ W3.heap.size ≤ b := fun b hb => by
            rcases hf6 b hb with h1 | h1
            · exact .inl h1
            · simp at h1; exact .inr (by omega)
          have hst6 := putS5 w6 A6 c6 (b1 ++ [false]) T6 hown6 hf6'
          have hln6 : (b1 ++ [false]).length = bs.length + k + 1 := by rw [List.length_append, Hl2.out]; rfl
          rw [hln6] at hst6
          have hVV : V3.set n (l1 ++ [x], b1 ++ [false]) = V.set n (l ++ b.take (k + 1), bs ++ List.replicate (k + 1) false) := by
            rw [HV3.out, List.set_set, HV1.out, List.set_set, Hsn.out, Hrs.out]
          rw [hVV] at hst6
          have Hst := Lib.hid (RdStep.trans T1 hf1 (RdStep.trans T3 hf3 hst6))
          clear hVV hln6 hst6
          go_wp2_with fail
          go_roundw
          case rel => exact ⟨k + 1, by omega, by go_num, Hst.out⟩
          case measure => simp [intOf]; omega
    · obtain rfl : k = b.length := by omega
      rw [List.take_length] at hd1
      obtain ⟨k1, k2, k3, k4, k5, k6, k7⟩ := id hok
      go_wp2_with fail
      refine (rcommand_rd g fp1 _ r wr hd1 hok).mono ?_
      rintro e w2 ⟨rfl, hs, _⟩
      go_wp2_with fail
      go_ret
      exact ⟨rfl, RdStep.trans T1 hf1 hs⟩
end Go.Proofs.Ytgpadejkmpfafaa
