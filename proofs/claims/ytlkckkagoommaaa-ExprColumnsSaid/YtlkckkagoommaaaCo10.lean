/- Part 10 of the texts of this proof, one behind the other; each begins with its own sentence. No condition beyond those that its theorems state. -/
import Derived.Test.YtlkckkagoommaaaCo9
/- Slices of columns and of values that came in, as the walks take them. -/
namespace Go.Proofs.Ytlkckkagoommaaa
open Go.RowKit Go.ChangeShapes Go.WideShapes Go.Deep

structure CD.Okw (c : CD) : Prop where
  n : c.name.size ≤ 9223372036854775807
  t : -9223372036854775808 ≤ c.typ ∧ c.typ ≤ 9223372036854775807
theorem CD.ok_of {cs : List CD} (h : ∀ c ∈ cs, c.Okw) (hs : ∀ c ∈ cs, c.name.size ≤ 50) : ∀ c ∈ cs, c.Ok := fun c hc => ⟨by have := hs c hc; omega, (h c hc).t⟩
theorem open_cols {H : Type} {enc : TypeId × Value → H} {w : World} {base : Nat} {spare : Nat → Bool} {held : Bool} {fuel : Nat} {A : Option Addr} {len cap : Nat} {y : DataW H × List MemPlace}
    (h : DataW.trod enc Try.prog w base spare held fuel 24 [.slice A len cap] = some y) : ∃ l : List CD, l.length = len ∧ ColsAt w A l ∧ (∀ c ∈ l, c.Okw) ∧ l.length ≤ 9223372036854775807 ∧ len ≤ cap := by
  rcases open_slice_rows (P := Try.prog) Try.underlying24 Try.underlying45 (by kernel_rfl) (by kernel_rfl) h with hcs | ⟨a, l, c, hcs, hl, hm, hi⟩
  · simp at hcs
    obtain ⟨rfl, rfl, rfl⟩ := hcs
    exact ⟨[], rfl, RdK.nil _ _ _, by simp, Nat.zero_le _, Nat.zero_le _⟩
  · simp at hcs
    obtain ⟨rfl, rfl, rfl⟩ := hcs
    obtain ⟨l, h1, h2, h3⟩ := rdK_of_rows cdE 2 cdE_length (by omega) w a len CD.Okw fun i hil => by
      obtain ⟨n, hf⟩ := hi i hil
      obtain ⟨v0, y0, g0, t0⟩ := hf 0 _ rfl
      obtain ⟨v1, y1, g1, t1⟩ := hf 1 _ rfl
      obtain ⟨s, rfl, hs⟩ := trod_str t0
      obtain ⟨k, rfl, hk⟩ := trod_i64 t1
      refine ⟨⟨s, k⟩, ⟨hs, hk⟩, fun r u hu => ?_⟩
      match r, hu with
      | 0, hu => obtain rfl := Option.some.inj hu; exact g0
      | 1, hu => obtain rfl := Option.some.inj hu; exact g1
    exact ⟨l, h1, h2, h3, by rw [h1]; unfold maxLen at hm; omega, hl⟩

theorem open_vals {H : Type} {enc : TypeId × Value → H} {w : World} {base : Nat} {spare : Nat → Bool} {held : Bool} {fuel : Nat} {A : Option Addr} {len cap : Nat} {y : DataW H × List MemPlace}
    (h : DataW.trod enc Try.prog w base spare held fuel 25 [.slice A len cap] = some y) : ∃ l : List VD, l.length = len ∧ ValsAt w A l ∧ (∀ c ∈ l, c.Ok 9223372036854775807) ∧ l.length ≤ 9223372036854775807 ∧ len ≤ cap := by
  rcases open_slice_rows (P := Try.prog) Try.underlying25 Try.underlying30 (by kernel_rfl) (by kernel_rfl) h with hcs | ⟨a, l, c, hcs, hl, hm, hi⟩
  · simp at hcs
    obtain ⟨rfl, rfl, rfl⟩ := hcs
    exact ⟨[], rfl, RdK.nil _ _ _, by simp, Nat.zero_le _, Nat.zero_le _⟩
  · simp at hcs
    obtain ⟨rfl, rfl, rfl⟩ := hcs
    obtain ⟨l, h1, h2, h3⟩ := rdK_of_rows vdE 3 vdE_length (by omega) w a len (fun v => v.Ok 9223372036854775807) fun i hil => by
      obtain ⟨n, hf⟩ := hi i hil
      obtain ⟨v0, y0, g0, t0⟩ := hf 0 _ rfl
      obtain ⟨v1, y1, g1, t1⟩ := hf 1 _ rfl
      obtain ⟨v2, y2, g2, t2⟩ := hf 2 _ rfl
      obtain ⟨k, rfl, hk⟩ := trod_i64 t0
      obtain ⟨m, rfl, hm'⟩ := trod_i64 t1
      obtain ⟨s, rfl, hs⟩ := trod_str t2
      refine ⟨⟨k, m, s⟩, ⟨hk, hm', hs⟩, fun r u hu => ?_⟩
      match r, hu with
      | 0, hu => obtain rfl := Option.some.inj hu; exact g0
      | 1, hu => obtain rfl := Option.some.inj hu; exact g1
      | 2, hu => obtain rfl := Option.some.inj hu; exact g2
    exact ⟨l, h1, h2, h3, by rw [h1]; unfold maxLen at hm; omega, hl⟩
end Go.Proofs.Ytlkckkagoommaaa

/- The law ExprColumns: an expression names just the columns that stand in it, in order; its value hangs on no others. For every list, schema and rows. -/
namespace Go.Proofs.Ytlkckkagoommaaa
open Go.RowKit Go.Maps Go.ChangeMaps
attribute [local go_sem ↓] Go.wp_at_zero Go.wp_at_succ

theorem names_at {w : World} {A : Option Addr} {xs : List ByteArray} (h : RdK encS w A xs) (i : Nat) (hi : i < xs.length) :
    ∃ ad b off, A = some ad ∧ ad.add i = ⟨b, off, none⟩ ∧ w.cell? ⟨b, off, none⟩ = some (.string xs[i]) := by
  obtain ⟨ad, b, off, rfl, hadd, _, hc⟩ := h.at_ 1 encS_length (by omega) i hi
  exact ⟨ad, b, off, rfl, by simpa using hadd, by simpa using hc 0 _ rfl⟩
theorem names_at2 {w : World} {A : Option Addr} {xs : List ByteArray} (h : RdK encS w A xs) (i : Nat) (hi : i + 1 < xs.length) :
    ∃ ad b off b' off', A = some ad ∧ ad.add i = ⟨b, off, none⟩ ∧ w.cell? ⟨b, off, none⟩ = some (.string xs[i]) ∧ ad.add (i + 1) = ⟨b', off', none⟩ ∧ w.cell? ⟨b', off', none⟩ = some (.string xs[i + 1]) := by
  obtain ⟨ad, b, off, rfl, hadd, hc⟩ := names_at h i (by omega)
  obtain ⟨ad', b', off', he, hadd', hc'⟩ := names_at h (i + 1) hi
  cases he
  exact ⟨ad, b, off, b', off', rfl, hadd, hc, hadd', hc'⟩
theorem info_val3 : (Try.prog.info? 30).map (fun i => (i.zero, i.size, i.bytes)) = some (some (.agg #[.int .i64 0, .int .i64 0, .string ⟨#[]⟩]), 3, 32) := by kernel_rfl
/-- a set of texts -/
def setL (xs : List ByteArray) : List (Value × Value) := xs.map fun s => (.string s, .bool true)
theorem setL_snoc (xs : List ByteArray) (s : ByteArray) : setL (xs ++ [s]) = setL xs ++ [(.string s, .bool true)] := by simp [setL]
theorem setL_mem {xs : List ByteArray} {s : ByteArray} (h : s ∈ xs) : (Value.string s, Value.bool true) ∈ setL xs := List.mem_map.2 ⟨s, h, rfl⟩
theorem setL_miss {xs : List ByteArray} {s : ByteArray} (h : s ∉ xs) : ∀ p ∈ setL xs, p.1 ≠ Value.string s := fun p hp e => by
  obtain ⟨d, hd, rfl⟩ := List.mem_map.1 hp
  obtain rfl : d = s := by simpa using e
  exact h hd
/-- a text is put into a set -/
theorem MapAt.put_set {P : Program} {k : TypeId} {w : World} {b : Nat} {D : List ByteArray} {t e : TypeId} (h : MapAt P k w b (setL D)) (K : Keyed P k) (ht : P.underlying t = some (.map k e)) {s : ByteArray} {kl : Lit} (hkey : keyOf P k (.string s) = some kl) :
    ∃ w', (Instr.mapUpdate t (.map (some b)) (.string s) (.bool true)).run P w = .ok () w' ∧ MapAt P k w' b (setL (if s ∈ D then D else D ++ [s])) ∧ Touch [b] w w' := by
  by_cases hs : s ∈ D
  · rw [if_pos hs]
    obtain ⟨l1, l2, hl⟩ := List.append_of_mem hs
    have hd : setL D = setL l1 ++ (.string s, .bool true) :: setL l2 := by rw [hl]; simp [setL]
    rw [hd] at h ⊢
    exact h.put_old K ht hkey _
  · rw [if_neg hs, setL_snoc]
    exact h.put_new K ht hkey (setL_miss hs) _

theorem OwnK.set3 {t : TypeId} {w : World} {G c : Nat} {xs : List VD} (h : OwnK t 3 vdE w (some ⟨G, 0, none⟩) c xs) (k : Nat) (hk : k < xs.length) (v : VD) :
    OwnK t 3 vdE (((w.setCell ⟨G, k * 3, none⟩ (.int .i64 v.kind)).setCell ⟨G, k * 3 + 1, none⟩ (.int .i64 v.num)).setCell ⟨G, k * 3 + 2, none⟩ (.string v.text)) (some ⟨G, 0, none⟩) c (xs.set k v) := by
  have h1 := OwnK.set h vdE_length k hk 0 (by omega) (.int .i64 v.kind) ⟨v.kind, xs[k].num, xs[k].text⟩ rfl
  have h2 := OwnK.set h1 vdE_length k (by rw [List.length_set]; exact hk) 1 (by omega) (.int .i64 v.num) ⟨v.kind, v.num, xs[k].text⟩ (by rw [List.getElem_set_self]; rfl)
  have h3 := OwnK.set h2 vdE_length k (by rw [List.length_set, List.length_set]; exact hk) 2 (by omega) (.string v.text) v (by rw [List.getElem_set_self]; rfl)
  rw [List.set_set, List.set_set] at h3
  exact h3
set_option maxRecDepth 100000 in
set_option maxHeartbeats 12800000 in
theorem columns_law (A : Option Addr) (cap len : Nat) (l : List PL) (hl : l.length = len) (hc : len ≤ cap) (SA : Option Addr) (scap sm : Nat) (cs : List CD) (hsm : cs.length = sm) (hokw : ∀ c ∈ cs, c.Okw)
    (RA : Option Addr) (rac na : Nat) (ra : List VD) (hna : ra.length = na) (hva : ∀ v ∈ ra, v.Ok 9223372036854775807) (RB : Option Addr) (rbc nb : Nat) (rb : List VD) (hnb : rb.length = nb) (hvb : ∀ v ∈ rb, v.Ok 9223372036854775807)
    (w : World) (h : PlsAt w A l) (hcs : ColsAt w SA cs) (hra : ValsAt w RA ra) (hrb : ValsAt w RB rb) (hb : len ≤ 9223372036854775807) (hsb : sm ≤ 9223372036854775807) (hab : na ≤ 9223372036854775807) (hbb : nb ≤ 9223372036854775807) :
    Calls Try.prog 8 #[.agg #[.slice A len cap, .slice SA sm scap, .slice RA na rac, .slice RB nb rbc]] w fun e w' => e = .returned (.bool true) ∧ Touch [] w w' := by
  have Haw := Lib.hid fun w' => awakeX_any w'
  have hmm := @run_makeMap Try.prog
  have hsl := fun w' (t : Touch [] w w') => small4_any A cap len l hl w' (h.touch0 t) hb
  have hss := fun w' (t : Touch [] w w') => smallS4_any SA scap sm cs hsm w' (hcs.touch0 t) hsb
  have t0 := (Touch.refl [] w).alloc (.cells #[.slice A len cap, .slice SA sm scap, .slice RA na rac, .slice RB nb rbc] 72)
  have HZ0 := Lib.hid (heap_alloc_new w (.cells #[.slice A len cap, .slice SA sm scap, .slice RA na rac, .slice RB nb rbc] 72))
  rcases hs : smallL l with _ | _
  · rw [hs] at hsl
    have Hsl := Lib.hid hsl
    clear hsl hss hs
    go_enter Try.func8, Try.ntmps8
    have z0 := cell_blk HZ0.out (i := 0) rfl; have z1 := cell_blk HZ0.out (i := 1) rfl; have z2 := cell_blk HZ0.out (i := 2) rfl; have z3 := cell_blk HZ0.out (i := 3) rfl
    go_wp2_with fail
    refine (Hsl.out _ t0).mono ?_
    rintro e w1 ⟨rfl, u1⟩
    go_wp2_with fail
    refine (Haw.out _).mono ?_
    rintro e wz ⟨rfl, uz⟩
    go_wp2_with fail
    go_ret
    exact ⟨rfl, (t0.trans0 u1).trans0 uz⟩
  obtain ⟨hp, hl0, hl3⟩ := smallL_true hs
  rw [hs] at hsl
  have Hsl := Lib.hid hsl
  clear hsl hs
  by_cases h40 : 40 < len
  · have h40I : (40 : Int) < (len : Int) := by omega
    clear hss
    go_enter Try.func8, Try.ntmps8
    have z0 := cell_blk HZ0.out (i := 0) rfl
    go_wp2_with fail
    clear z0
    refine (Hsl.out _ t0).mono ?_
    rintro e w1 ⟨rfl, u1⟩
    have z0 := cell_blk (u1.blk HZ0.out (by simp)) (i := 0) rfl
    go_wp2_with fail
    refine (Haw.out _).mono ?_
    rintro e wz ⟨rfl, uz⟩
    go_wp2_with fail
    go_ret
    exact ⟨rfl, (t0.trans0 u1).trans0 uz⟩
  have h40I : ¬ (40 : Int) < (len : Int) := by omega
  rcases hs : smallS4 cs with _ | _
  · rw [hs] at hss
    have Hss := Lib.hid hss
    clear hss hs
    go_enter Try.func8, Try.ntmps8
    have z0 := cell_blk HZ0.out (i := 0) rfl
    go_wp2_with fail
    clear z0
    refine (Hsl.out _ t0).mono ?_
    rintro e w1 ⟨rfl, u1⟩
    have z0 := cell_blk (u1.blk HZ0.out (by simp)) (i := 0) rfl
    have z1 := cell_blk (u1.blk HZ0.out (by simp)) (i := 1) rfl
    go_wp2_with fail
    clear z0 z1
    refine (Hss.out _ (t0.trans0 u1)).mono ?_
    rintro e w1' ⟨rfl, u1'⟩
    go_wp2_with fail
    refine (Haw.out _).mono ?_
    rintro e wz ⟨rfl, uz⟩
    go_wp2_with fail
    go_ret
    exact ⟨rfl, ((t0.trans0 u1).trans0 u1').trans0 uz⟩
  obtain ⟨hs50, hs20⟩ := smallS4_true hs
  have hok := CD.ok_of hokw hs50
  rw [hs] at hss
  have Hss := Lib.hid hss
  clear hss hs
  have hne : l ≠ [] := fun q => by rw [q] at hl0; simp at hl0
  have Hb := Lib.hid fun w' (t : Touch [] w w') => build_any 60 l A len cap 0 w' hl hc (by omega) (by omega) rfl (h.touch0 t)
  have hnl := buildX_le 60 l hne
  have hsa : sizeX 61 (buildX 60 l).1 ≤ 1000000 := by rw [buildX_size]; omega
  have hsa2 : sizeX 61 (buildX 60 l).1 ≤ 100000 := by rw [buildX_size]; omega
  have hall : allX (fun q => q.v.text.size ≤ 140737000000000) 61 (buildX 60 l).1 := buildX_all 60 l hne (fun p hp' => by have := (hp p hp').2.2; omega)
  have hnm := names_build 60 l hne
  obtain ⟨ta, hta⟩ : ∃ r, r = (buildX 60 l).1 := ⟨_, rfl⟩
  obtain ⟨n, hn⟩ : ∃ r, r = (buildX 60 l).2 := ⟨_, rfl⟩
  rw [← hta] at Hb hsa hsa2 hall hnm
  rw [← hn] at Hb hnm hnl
  have hnlen : n ≤ len := by omega
  have Htop := Lib.hid fun (RX : Option Addr) (rc rm : Nat) (row : List VD) (hrm : row.length = rm) (hvk : ∀ v ∈ row, v.Ok 9223372036854775807) (x : XC) w' (t : Touch [] w w') (hx : ExP xcE anyB 61 w' x ta) (hrow : ValsAt w' RX row) (hrl : rm ≤ 20) => topB_any 61 ta x SA scap sm cs hsm hok RX rc rm row hrm hvk w' hx (hcs.touch0 t) hrow (by omega) (by omega) hsa hall
  have Hfa := Lib.hid fun w' (t : Touch [] w w') => fits_big SA scap sm cs hsm hok RA rac na ra hna hva w' (hcs.touch0 t) (hra.touch0 t) (by omega) (by omega)
  have Hfb := Lib.hid fun w' (t : Touch [] w w') => fits_big SA scap sm cs hsm hok RB rbc nb rb hnb hvb w' (hcs.touch0 t) (hrb.touch0 t) (by omega) (by omega)
  obtain ⟨N, hN⟩ : ∃ N, N = colsL (namesX 61 ta) := ⟨_, rfl⟩
  have hcol := fun (x : XC) w' (hx : ExP xcE (fun b => b < w'.heap.size) 61 w' x ta) => cols_any 61 ta x w' hx hsa2
  obtain ⟨hrise, hmem, hndp, hol⟩ : (∀ i (h : i + 1 < N.length), Lib.compareBytes (N[i]).data.toList (N[i + 1]).data.toList = -1) ∧ (∀ s, s ∈ N ↔ s ∈ namesX 61 ta) ∧ N.Nodup ∧ (onceL [] (namesX 61 ta)).length = N.length := by
    rw [hN]
    exact ⟨colsL_rise _, colsL_mem _, colsL_nodup _, once_len _⟩
  have hcol2 : ∀ (x : XC) w', ExP xcE (fun b => b < w'.heap.size) 61 w' x ta → Calls Try.prog 32 #[x.val] w' fun r w'' => ∃ A c, r = .returned (.slice A N.length c) ∧ RdK encS w'' A N ∧ (∀ b ∈ fpo A, w'.heap.size ≤ b) ∧ Touch [] w' w'' := fun x w' hx => by
    have := hcol x w' hx
    rwa [← hN] at this
  have hsz : ∀ s ∈ N, s.size ≤ 50 := fun s hs => by
    have := (hmem s).1 hs
    rw [hnm] at this
    obtain ⟨p, hp1, rfl⟩ := List.mem_map.1 this
    exact (hp p (List.mem_of_mem_take (List.mem_filter.1 hp1).1)).1
  have hNl : N.length ≤ 100000 := by
    rw [hN]
    have := compact_le (namesX 61 ta)
    have := names_len 61 ta
    unfold colsL
    rw [List.length_map]; omega
  have Hcol := Lib.hid hcol2; have Hrise := Lib.hid hrise; have Hmem := Lib.hid hmem; have Hndp := Lib.hid hndp; have Hol := Lib.hid hol; have Hsz := Lib.hid hsz; have Hnm := Lib.hid hnm
  clear hcol hcol2 hrise hmem hndp hol hsz hnm hN hn hta hsa hsa2 hall hne hl0 hl3 hnl h40
  have hp' := hp
  clear hp
  go_enter Try.func8, Try.ntmps8
  have z0 := cell_blk HZ0.out (i := 0) rfl
  go_wp2_with fail
  clear z0
  refine (Hsl.out _ t0).mono ?_
  rintro e w1 ⟨rfl, u1⟩
  have z0 := cell_blk (u1.blk HZ0.out (by simp)) (i := 0) rfl
  have z1 := cell_blk (u1.blk HZ0.out (by simp)) (i := 1) rfl
  go_wp2_with fail
  clear z0 z1
  have T1 := t0.trans0 u1
  refine (Hss.out _ T1).mono ?_
  rintro e w1' ⟨rfl, u1'⟩
  have HZ1 := u1'.blk (u1.blk HZ0.out (by simp)) (by simp)
  have z0 := cell_blk HZ1 (i := 0) rfl
  have T1' := T1.trans0 u1'
  go_wp2_with fail
  clear z0
  refine (Hb.out _ T1').mono ?_
  rintro e w2 ⟨x, rfl, hx, u2⟩
  have T2 := T1'.trans0 u2
  have HZ2 := u2.blk HZ1 (by simp)
  have hxa := hx.any
  have hxf := hx.mono (q := fun b => b < w2.heap.size + 1) (fun b hb => by have := hb.2; omega)
  obtain ⟨⟨k1, nm1, ⟨vk1, vn1, vt1⟩, op1⟩, B1, m1, c1⟩ := x
  simp only [XC.val] at ⊢
  have t3 := (Touch.refl [] w2).alloc (.cells #[.int .i64 k1, .string nm1, .int .i64 vk1, .int .i64 vn1, .string vt1, .string op1, .slice B1 m1 c1] 33)
  have hE2 := heap_alloc_new w2 (.cells #[.int .i64 k1, .string nm1, .int .i64 vk1, .int .i64 vn1, .string vt1, .string op1, .slice B1 m1 c1] 33)
  have hcl := Hcol.out _ _ (by rw [World.size_alloc]; exact hxf.touch0 t3)
  simp only [XC.val] at hcl
  have Hcl := Lib.hid hcl
  have HE2 := Lib.hid hE2
  have Hxa := Lib.hid hxa
  clear hx hxa hxf hE2 hcl Hcol Hb
  obtain ⟨e0, e1, e2, e3, e4, e5, e6, -⟩ := blk7 HE2.out
  go_wp2_with fail
  clear e0 e1 e2 e3 e4 e5 e6
  refine Hcl.out.mono ?_
  rintro e w3 ⟨NA, nc, rfl, hnames, hnew, u3⟩
  have T3 := T2.trans0 (t3.trans0 u3)
  have HZ3 := Lib.hid (u3.blk (t3.blk HZ2 (by simp)) (by simp))
  have HE3 := Lib.hid (u3.blk HE2.out (by simp))
  have Hx3 := Lib.hid ((Hxa.out.touch0 t3).touch0 u3)
  clear Hcl HE2 Hxa HZ1 HZ2 HZ0 t3 u3 hnew
  go_wp2_with fail
  go_loopw [6] (fun i wr => ∃ (k : Nat) (I : Int), (k + 1 ≤ N.length ∨ k = 0) ∧ i = .int .i64 I ∧ I = (k : Int) + 1 ∧ Touch [] w3 wr) (fun i _ => N.length - (intOf i).toNat)
  case atStart => exact ⟨0, 1, .inr rfl, rfl, rfl, Touch.refl _ _⟩
  case round =>
    obtain ⟨k, I, hk, rfl, hI, ht⟩ := hrel
    by_cases hlt : k + 1 < N.length
    · obtain ⟨ad, b1, o1, b2, o2, rfl, hadd1, hc1, hadd2, hc2⟩ := names_at2 (hnames.touch0 ht) k hlt
      have hcmp := fun w' => refBytes_anyB N[k] N[k + 1] (by have := Hsz.out _ (List.getElem_mem (show k < N.length by omega)); omega) (by have := Hsz.out _ (List.getElem_mem hlt); omega) w'
      rw [Hrise.out k hlt] at hcmp
      have Hlt := Lib.hid hlt
      obtain ⟨s1, hs1⟩ : ∃ s, s = N[k] := ⟨_, rfl⟩
      obtain ⟨s2, hs2⟩ : ∃ s, s = N[k + 1] := ⟨_, rfl⟩
      replace hc1 : wr.cell? ⟨b1, o1, none⟩ = some (.string s1) := by rw [hs1]; exact hc1
      replace hc2 : wr.cell? ⟨b2, o2, none⟩ = some (.string s2) := by rw [hs2]; exact hc2
      replace hcmp : ∀ w', Calls Try.prog 33 #[.string s1, .string s2] w' fun e w'' => e = .returned (.int .i64 (-1)) ∧ Touch [] w' w'' := by rw [hs1, hs2]; exact hcmp
      have HI := Lib.hid hI
      have Hcmp := Lib.hid hcmp
      have hI1 : I - 1 = (k : Int) := by omega
      have hIw : IntKind.i64.wrap (k : Int) = (k : Int) := IntWalk.i64_in _ (by omega)
      have hI2 : I < (N.length : Int) := by omega
      have hI3 : 0 ≤ I := by omega
      have hI4 : I.toNat = k + 1 := by omega
      have hI5 : (k : Int) < (N.length : Int) := by omega
      have hI6 : (0 : Int) ≤ (k : Int) := by omega
      clear hcmp hI hk hs1 hs2 hlt
      go_wp2_with fail
      go_region_held3 (fun w' => w'.cell? ⟨b1, o1, none⟩ = some (.string s1) ∧ w'.cell? ⟨b2, o2, none⟩ = some (.string s2)) (first | exact ⟨hc1, hc2⟩ | exact ⟨hd1, hd2⟩) ((go_at_call 33; refine (Hcmp.out _).mono ?_; rintro e w4 ⟨rfl, u4⟩; have hd1 := u4.cell hc1 (by simp); have hd2 := u4.cell hc2 (by simp)))
      all_goals
        clear hd1 hd2
        go_wp2_with fail
        go_roundw
        case rel => exact ⟨k + 1, I + 1, .inl (by have := Hlt.out; omega), by go_num, by have := HI.out; omega, ht.drew.trans0 u4⟩
        case measure => simp [intOf]; omega
    rename World => W4
    have hI2 : ¬ I < (N.length : Int) := by omega
    clear hI hk hlt
    have T4 := T3.trans0 ht
    go_wp2_with fail
    go_loopw [65] (fun i wr => ∃ k : Nat, k ≤ N.length ∧ i = .int .i64 k ∧ MapAt Try.prog 9 wr W4.heap.size (setL (N.take k)) ∧ Touch [] W4 wr) (fun i _ => N.length - (intOf i).toNat)
    case atStart => exact ⟨0, by omega, rfl, MapAt.made _, (Touch.refl _ _).alloc _⟩
    case round =>
      obtain ⟨k, hk, rfl, hmap, ht2⟩ := hrel
      by_cases hlt : k < N.length
      · obtain ⟨ad, b1, o1, rfl, hadd1, hc1⟩ := names_at ((hnames.touch0 ht).touch0 ht2) k hlt
        have hnin : N[k] ∉ N.take k := fun hm => by
          obtain ⟨j, hj, he⟩ := List.mem_iff_getElem.1 hm
          rw [List.getElem_take] at he
          have hj' : j < k := by rw [List.length_take] at hj; omega
          exact List.pairwise_iff_getElem.1 Hndp.out j k (by omega) hlt hj' he
        have hkey := Go.WideMaps.keyOf_string_mk Try.underlying9 (s := N[k]) (by have := Hsz.out _ (List.getElem_mem hlt); unfold maxLen; omega)
        have hsn : setL (N.take (k + 1)) = setL (N.take k) ++ [(.string N[k], .bool true)] := by rw [List.take_succ_eq_append_getElem hlt, setL_snoc]
        obtain ⟨w3r, hrun, hmap2, ht3⟩ := hmap.put_new (string_keyed Try.underlying9) Try.underlying76 hkey (setL_miss hnin) (.bool true)
        have Hrun := Lib.hid hrun
        rw [← hsn] at hmap2
        clear hrun hsn hkey hnin
        go_wp2_with (at_mapUpdate; refine stop ?_)
        refine go ?_
        refine wpList_update_is rfl (.tmp 69) (.tmp 70) (.const (.bool true)) 76 rfl _ _ _ rfl rfl rfl Hrun.out ?_
        go_wp2_with fail
        go_roundw
        case rel => exact ⟨k + 1, by omega, by go_num, hmap2, ht2.trans ht3 (fun b hb => .inr (by simp at hb; omega))⟩
        case measure => simp [intOf]; omega
      · obtain rfl : k = N.length := by omega
        rw [List.take_length] at hmap
        rename World => W5
        have T5 := T4.trans0 ht2
        have hnI : (n : Int) ≤ (cap : Int) := by omega
        have hnI0 : (0 : Int) ≤ (n : Int) := by omega
        obtain ⟨z0, -⟩ : (W5.alloc (.map #[] 0)).cell? ⟨w.heap.size, 0, none⟩ = some (.slice A len cap) ∧ True := ⟨cell_blk (((Touch.refl [] W5).alloc (.map #[] 0)).blk (ht2.blk (ht.blk HZ3.out (by simp)) (by simp)) (by simp)) (i := 0) rfl, trivial⟩
        have hmapn : MapAt Try.prog 9 (W5.alloc (.map #[] 0)) W4.heap.size (setL N) := hmap.touch ((Touch.refl [] W5).alloc (.map #[] 0)) (by simp)
        have hlt2 := hmap.lt
        clear hk hlt hmap
        go_wp2_with fail
        clear z0
        have hmin : Min.min ((n : Int)) (len : Int) = n := by omega
        go_loopw [78] (fun i wr => ∃ k : Nat, k ≤ n ∧ i = .int .i64 k ∧ MapAt Try.prog 9 wr W4.heap.size (setL N) ∧ MapAt Try.prog 9 wr W5.heap.size (setL (onceL [] (colN (l.take k)))) ∧ Touch [] W5 wr) (fun i _ => n - (intOf i).toNat)
        case atStart => exact ⟨0, by omega, rfl, hmapn, MapAt.made _, (Touch.refl _ _).alloc _⟩
        case round =>
          obtain ⟨k, hk, rfl, hmap, hhas, ht3⟩ := hrel
          by_cases hlt : k < n
          · have hkl : k < l.length := by omega
            obtain ⟨ad, b1, o1, rfl, hadd1, hc1⟩ := (h.touch0 (T5.trans0 ht3)).at_ k hkl
            have hsn := colN_snoc l k hkl
            have hpk := hp' l[k] (List.getElem_mem hkl)
            have hin : l[k].nd.kind = 1 → l[k].nd.name ∈ N := fun hq => (Hmem.out _).2 (by
              rw [Hnm.out]
              have hkt : k < (l.take n).length := by rw [List.length_take]; omega
              have h5 : (l.take n)[k] = l[k] := List.getElem_take
              have := colN_mem (l.take n) k hkt (by rw [h5]; exact hq)
              rwa [h5] at this)
            obtain ⟨pk, hpe⟩ : ∃ q, q = l[k] := ⟨_, rfl⟩
            rw [← hpe] at hsn hpk hin hc1
            have Hsn := Lib.hid hsn
            have q0 := hc1 0 _ rfl; have q1 := hc1 1 _ rfl; have q2 := hc1 2 _ rfl; have q3 := hc1 3 _ rfl; have q4 := hc1 4 _ rfl; have q5 := hc1 5 _ rfl; have q6 := hc1 6 _ rfl
            rw [Nat.add_zero] at q0
            have hkI : (k : Int) < (n : Int) := by omega
            clear hsn hpe hc1 hlt
            obtain ⟨⟨kd, nm, ⟨vk, vn, vt⟩, op⟩, ct⟩ := pk
            dsimp only at q0 q1 q2 q3 q4 q5 q6 hpk hin Hsn
            have ta := (Touch.refl [] wr).alloc (.cells #[.int .i64 kd, .string nm, .int .i64 vk, .int .i64 vn, .string vt, .string op, .int .i64 ct] 66)
            have hP := heap_alloc_new wr (.cells #[.int .i64 kd, .string nm, .int .i64 vk, .int .i64 vn, .string vt, .string op, .int .i64 ct] 66)
            have p0 := cell_blk hP (i := 0) rfl
            have p1 := cell_blk hP (i := 1) rfl
            by_cases hkd : kd = 1
            · subst hkd
              have hkey := Go.WideMaps.keyOf_string_mk Try.underlying9 (s := nm) (by have := hpk.1; unfold maxLen; omega)
              obtain ⟨w3r, hrun, hhas2, ht4⟩ := (hhas.touch ta (by simp)).put_set (string_keyed Try.underlying9) Try.underlying76 hkey
              have Hrun := Lib.hid hrun
              have hne : W4.heap.size ∉ [W5.heap.size] := by simp; omega
              have hmap2 := (hmap.touch ta (by simp)).touch ht4 hne
              have hit := Lib.hid (hmap2.hit (string_keyed Try.underlying9) Try.underlying76 hkey (setL_mem (hin rfl)) false)
              have hlth := hhas.lt
              have p1' := ht4.cell p1 (by simp; omega)
              rw [← onceL_snoc] at hhas2
              have hhas3 : MapAt Try.prog 9 w3r W5.heap.size (setL (onceL [] (colN (l.take (k + 1))))) := by rw [Hsn.out, if_pos rfl]; exact hhas2
              clear hrun hkey hin hhas2 hne
              go_wp2_with (at_mapUpdate; refine stop ?_)
              refine go ?_
              clear p0 p1 q0 q1 q2 q3 q4 q5 q6
              refine wpList_update_is rfl (.tmp 85) (.tmp 87) (.const (.bool true)) 76 rfl _ _ _ rfl rfl rfl Hrun.out ?_
              go_wp2_with (at_lookup; refine stop ?_)
              refine go ?_
              refine wpList_lookup_is rfl (.tmp 88) (.tmp 90) 76 false rfl _ _ _ rfl rfl hit.out ?_
              go_wp2_with fail
              go_roundw
              case rel => exact ⟨k + 1, by omega, by go_num, hmap2, hhas3, (ht3.trans0 ta).trans ht4 (fun b hb => .inr (by simp at hb; omega))⟩
              case measure => simp [intOf]; omega
            · have hhas3 : MapAt Try.prog 9 (wr.alloc (.cells #[.int .i64 kd, .string nm, .int .i64 vk, .int .i64 vn, .string vt, .string op, .int .i64 ct] 66)) W5.heap.size (setL (onceL [] (colN (l.take (k + 1))))) := by
                rw [Hsn.out, if_neg hkd, List.append_nil]; exact hhas.touch ta (by simp)
              have hmap2 := hmap.touch ta (by simp)
              have qk : (kd == 1) = false := by simpa using hkd
              clear hkd hin
              go_wp2_with fail
              go_roundw
              case rel => exact ⟨k + 1, by omega, by go_num, hmap2, hhas3, ht3.trans0 ta⟩
              case measure => simp [intOf]; omega
          · obtain rfl : k = n := by omega
            have hlenh : (setL (onceL [] (colN (l.take k)))).length = N.length := by
              unfold setL
              rw [List.length_map, ← Hnm.out]; exact Hol.out
            rename World => W6
            have hrun := hhas.len Try.underlying76 3
            rw [hlenh] at hrun
            have T6 := T5.trans0 ht3
            have HZ6 := Lib.hid (ht3.blk (ht2.blk (ht.blk HZ3.out (by simp)) (by simp)) (by simp))
            have HE6 := Lib.hid (ht3.blk (ht2.blk (ht.blk HE3.out (by simp)) (by simp)) (by simp))
            have Hx6 := Lib.hid (((Hx3.out.touch0 ht).touch0 ht2).touch0 ht3)
            clear hlenh hlt HZ3 HE3 Hx3 hhas
            have z1 := cell_blk HZ6.out (i := 1) rfl; have z2 := cell_blk HZ6.out (i := 2) rfl
            go_wp2_with fail
            clear z1 z2 hrun
            refine (Hfa.out _ T6).mono ?_
            rintro e w7 ⟨rfl, u7⟩
            have T7 := T6.trans0 u7
            have HZ7 := Lib.hid (u7.blk HZ6.out (by simp))
            rcases hfa : (decide (checkV cs = 0) && fitR cs ra) with _ | _
            · go_wp2_with fail
              refine (Haw.out _).mono ?_
              rintro e wz ⟨rfl, uz⟩
              go_wp2_with fail
              go_ret
              exact ⟨rfl, T7.trans0 uz⟩
            have z1 := cell_blk HZ7.out (i := 1) rfl; have z3 := cell_blk HZ7.out (i := 3) rfl
            have Hfa' := Lib.hid hfa
            clear hfa
            go_wp2_with fail
            clear z1 z3
            refine (Hfb.out _ T7).mono ?_
            rintro e w8 ⟨rfl, u8⟩
            have T8 := T7.trans0 u8
            rcases hfb : (decide (checkV cs = 0) && fitR cs rb) with _ | _
            · go_wp2_with fail
              refine (Haw.out _).mono ?_
              rintro e wz ⟨rfl, uz⟩
              go_wp2_with fail
              go_ret
              exact ⟨rfl, T8.trans0 uz⟩
            have Hfb' := Lib.hid hfb
            clear hfb
            have HZ8 := Lib.hid (u8.blk HZ7.out (by simp))
            have HE8 := Lib.hid ((u8.blk (u7.blk HE6.out (by simp))) (by simp))
            have Hx8 := Lib.hid ((Hx6.out.touch0 u7).touch0 u8)
            have hmap8 := (hmap.touch u7 (by simp)).touch u8 (by simp)
            obtain ⟨hck, hfa⟩ := (Bool.and_eq_true _ _).mp Hfa'.out
            obtain ⟨-, hfb⟩ := (Bool.and_eq_true _ _).mp Hfb'.out
            have hck0 := of_decide_eq_true hck
            have hla := fitR_len hfa
            have hlb := fitR_len hfb
            have hc1 : 1 ≤ cs.length := by
              rcases Nat.lt_or_ge cs.length 1 with q | q
              · unfold checkV at hck0; rw [if_pos (.inl q)] at hck0; cases hck0
              · exact q
            have hn8 := hmap8.lt
            have Hfab := Lib.hid (And.intro hfa hfb)
            have s8 := T8.size
            have hZlt : w.heap.size < w8.heap.size := (Array.getElem?_eq_some_iff.1 HZ8.out).1
            have hElt : w2.heap.size < w8.heap.size := (Array.getElem?_eq_some_iff.1 HE8.out).1
            clear HZ7 HZ6 HE6 Hx6 hmap hck hfa hfb hck0 Hfa Hfb Hfa' Hfb'
            have z3 := cell_blk HZ8.out (i := 3) rfl
            have hz3 : (w8.alloc (.cells #[] 30)).cell? ⟨w.heap.size, 3, none⟩ = some (.slice RB nb rbc) := cell_blk (((Touch.refl [] w8).alloc (.cells #[] 30)).blk HZ8.out (by simp)) (i := 3) rfl
            go_wp2_with (at_builtin; refine stop ?_)
            clear z3 hz3
            refine go ?_
            have t9 := (Touch.refl [] w8).alloc (.cells #[] 30)
            refine wpList_appK rfl (.tmp 114) (.tmp 116) 25 rfl 30 _ 3 32 info_val3 Try.underlying25 rfl (by omega) vdE_length vdE_one (some ⟨w8.heap.size, 0, none⟩) 0 0 [] rfl rfl (OwnK.empty_new _ _ _ _)
              RB nb rbc rb hnb rfl (hrb.touch0 (T8.trans0 t9)) (by omega) (by omega) ?_
            intro A9 c9 w9 hown9 ht9 hf9
            rw [List.nil_append] at hown9
            obtain ⟨G, rfl⟩ : ∃ G, A9 = some ⟨G, 0, none⟩ := by
              rcases hown9.head with ⟨_, e, _⟩ | ⟨G, e⟩
              · rw [e] at hlb; simp at hlb; omega
              · exact ⟨G, e⟩
            have hG : w8.heap.size ≤ G := by
              rcases hf9 G (by simp [fpo]) with q | q
              · simp [fpo] at q; omega
              · simp at q; omega
            have T89 := t9.trans ht9 (fun b hb => .inr (by simp [fpo] at hb; omega))
            have HZ9 := Lib.hid (T89.blk HZ8.out (by simp))
            have HE9 := Lib.hid (T89.blk HE8.out (by simp))
            have hmap9 := hmap8.touch T89 (by simp)
            have T9 := T8.trans0 T89
            have s9 := T89.size
            rw [← mixR_zero cs N ra rb] at hown9
            have z1 := cell_blk HZ9.out (i := 1) rfl
            clear HZ8 HE8 hmap8 ht9 t9 hf9
            go_wp2_with fail
            clear z1
            have Hnb := Lib.hid (show nb = cs.length by omega)
            go_loopw [121] (fun i wr => ∃ k : Nat, k ≤ cs.length ∧ i = .int .i64 k ∧ Hid (OwnK 30 3 vdE wr (some ⟨G, 0, none⟩) c9 (mixR cs N ra rb k)) ∧ MapAt Try.prog 9 wr W4.heap.size (setL N) ∧ Touch [G] w9 wr) (fun i _ => cs.length - (intOf i).toNat)
            case atStart => exact ⟨0, by omega, rfl, Lib.hid (by simpa using hown9), hmap9, Touch.refl _ _⟩
            case round =>
              obtain ⟨k, hk, rfl, hown, hmap, ht4⟩ := hrel
              have T10 : Touch [] w8 wr := T89.trans ht4 (fun b hb => .inr (by simp at hb; omega))
              by_cases hlt : k < cs.length
              · have Tw := T8.trans0 T10
                obtain ⟨ad, b1, o1, rfl, hadd1, c0, c1'⟩ := (hcs.touch0 Tw).at_ k hlt
                have hcn := hs50 _ (List.getElem_mem hlt)
                have hmt := fun h => mixR_take cs N ra rb k (by omega) (by omega) hlt h
                have hml := fun h => mixR_leave cs N ra rb k (by omega) hlt h
                have hkey := Go.WideMaps.keyOf_string_mk Try.underlying9 (s := cs[k].name) (by unfold maxLen; omega)
                obtain ⟨c, hce⟩ : ∃ c, c = cs[k] := ⟨_, rfl⟩
                rw [← hce] at c0 c1' hcn hmt hml hkey
                have hkI : (k : Int) < (nb : Int) := by have := Hnb.out; omega
                have hkI2 : (k : Int) < (na : Int) := by omega
                have hkI3 : (k : Int) < (sm : Int) := by omega
                clear hce
                obtain ⟨cn, ct⟩ := c
                dsimp only at c0 c1' hcn hmt hml hkey
                have ta := (Touch.refl [] wr).alloc (.cells #[.string cn, .int .i64 ct] 45)
                have hP := heap_alloc_new wr (.cells #[.string cn, .int .i64 ct] 45)
                have p0 := cell_blk hP (i := 0) rfl
                have hmap2 := hmap.touch ta (by simp)
                have hown2 := OwnK.touch0 hown.out ta
                by_cases hin : cn ∈ N
                · have hit := Lib.hid (hmap2.hit (string_keyed Try.underlying9) Try.underlying76 hkey (setL_mem hin) false)
                  have hmt' := Lib.hid (hmt hin)
                  have z2 := cell_blk (ta.blk (ht4.blk HZ9.out (by simp; omega)) (by simp)) (i := 2) rfl
                  obtain ⟨ae, b2, o2, rfl, hadd2, r0, r1, r2⟩ := (hra.touch0 (Tw.trans0 ta)).at_ k (by omega)
                  have hset := fun v => OwnK.set3 hown2 k (by rw [mixR_length]; omega) v
                  have hadd3 : (⟨G, 0, none⟩ : Addr).add (k * 3) = ⟨G, k * 3, none⟩ := by unfold Addr.add; split <;> simp_all
                  obtain ⟨ag, b3, o3, e1, e2, n0, n1, n2⟩ := ValsAt.at_ (A := some ⟨G, 0, none⟩) hown2.rd k (by rw [mixR_length]; omega)
                  cases e1
                  rw [hadd3] at e2
                  cases e2
                  have f0 := World.ownsRow.frozenAt hown2 (k * 3); have f1 := World.ownsRow.frozenAt hown2 (k * 3 + 1); have f2 := World.ownsRow.frozenAt hown2 (k * 3 + 2)
                  have hka : k < ra.length := by omega
                  obtain ⟨rv, hrv⟩ : ∃ v, v = ra[k] := ⟨_, rfl⟩
                  replace hmt' : Hid (mixR cs N ra rb (k + 1) = (mixR cs N ra rb k).set k rv) := Lib.hid (by rw [hrv]; exact hmt'.out)
                  replace r0 : (wr.alloc (.cells #[.string cn, .int .i64 ct] 45)).cell? ⟨b2, o2, none⟩ = some (.int .i64 rv.kind) := by rw [hrv]; exact r0
                  replace r1 : (wr.alloc (.cells #[.string cn, .int .i64 ct] 45)).cell? ⟨b2, o2 + 1, none⟩ = some (.int .i64 rv.num) := by rw [hrv]; exact r1
                  replace r2 : (wr.alloc (.cells #[.string cn, .int .i64 ct] 45)).cell? ⟨b2, o2 + 2, none⟩ = some (.string rv.text) := by rw [hrv]; exact r2
                  have Hset := Lib.hid (hset rv)
                  have hlt' := Lib.hid hlt
                  have tset := (((Touch.refl [G] (wr.alloc (.cells #[.string cn, .int .i64 ct] 45))).setCell (p := ⟨G, k * 3, none⟩) (.inl (by simp)) (.int .i64 rv.kind)).setCell (p := ⟨G, k * 3 + 1, none⟩) (.inl (by simp)) (.int .i64 rv.num)).setCell (p := ⟨G, k * 3 + 2, none⟩) (.inl (by simp)) (.string rv.text)
                  have hmap3 := hmap2.touch tset (by simp; omega)
                  have Hmap3 := Lib.hid hmap3
                  have Tset := Lib.hid tset
                  have Ta := Lib.hid ta
                  obtain ⟨x0, m0⟩ : ∃ u, (wr.alloc (.cells #[.string cn, .int .i64 ct] 45)).cell? ⟨G, k * 3, none⟩ = some u := ⟨_, n0⟩
                  obtain ⟨x1, m1⟩ : ∃ u, (wr.alloc (.cells #[.string cn, .int .i64 ct] 45)).cell? ⟨G, k * 3 + 1, none⟩ = some u := ⟨_, n1⟩
                  obtain ⟨x2, m2⟩ : ∃ u, (wr.alloc (.cells #[.string cn, .int .i64 ct] 45)).cell? ⟨G, k * 3 + 2, none⟩ = some u := ⟨_, n2⟩
                  clear n0 n1 n2
                  clear hset hrv hin hmt hml hlt tset hmap3 hmap2 hown2 hkey hP ta
                  go_wp2_with (at_lookup; refine stop ?_)
                  refine go ?_
                  refine wpList_lookup_is rfl (.tmp 126) (.tmp 128) 76 false rfl _ _ _ rfl rfl hit.out ?_
                  go_wp2_with fail
                  go_roundw
                  case rel => exact ⟨k + 1, by have := hlt'.out; omega, by go_num, by rw [hmt'.out]; exact Hset, Hmap3.out, (ht4.trans0 Ta.out).trans Tset.out (fun b hb => .inl hb)⟩
                  case measure => have := hlt'.out; simp [intOf]; omega
                · have hit := Lib.hid (hmap2.miss (string_keyed Try.underlying9) Try.underlying76 hkey (setL_miss hin) _ (zeroBool _) false)
                  have hml' := Lib.hid (hml hin)
                  have Hown2 := Lib.hid hown2
                  clear hin hmt hml hkey
                  go_wp2_with (at_lookup; refine stop ?_)
                  refine go ?_
                  refine wpList_lookup_is rfl (.tmp 126) (.tmp 128) 76 false rfl _ _ _ rfl rfl hit.out ?_
                  go_wp2_with fail
                  go_roundw
                  case rel => exact ⟨k + 1, by omega, by go_num, by rw [hml'.out]; exact Hown2, hmap2, ht4.trans0 ta⟩
                  case measure => simp [intOf]; omega
              · obtain rfl : k = cs.length := by omega
                obtain ⟨hfa, hfb⟩ := Hfab.out
                rename World => W10
                have hmix := mix_eval cs ra rb N 61 ta hfa hfb (fun s hs => (Hmem.out s).2 hs)
                have Tw := T8.trans0 T10
                have hev1 := fun w' (t : Touch [] w w') hx => Htop.out RA rac na ra hna hva _ w' t (hx : ExP xcE anyB 61 w' ⟨⟨k1, nm1, ⟨vk1, vn1, vt1⟩, op1⟩, B1, m1, c1⟩ ta) (hra.touch0 t) (by omega)
                have hev2 := fun w' (t : Touch [] w w') hx hrow => Htop.out (some ⟨G, 0, none⟩) c9 nb (mixR cs N ra rb cs.length) (by rw [mixR_length]; exact hnb) (fun v hv => (mixR_mem (by omega) hv).elim (hva v) (hvb v)) _ w' t (hx : ExP xcE anyB 61 w' ⟨⟨k1, nm1, ⟨vk1, vn1, vt1⟩, op1⟩, B1, m1, c1⟩ ta) hrow (by have := Hnb.out; omega)
                rw [← hmix] at hev2
                obtain ⟨⟨⟨rk, rn, rt⟩, rx⟩, hr⟩ : ∃ r, r = topX cs ra 61 ta := ⟨_, rfl⟩
                rw [← hr] at hev1 hev2
                simp only [XC.val, VD.val] at hev1 hev2
                have Hev1 := Lib.hid hev1
                have Hev2 := Lib.hid hev2
                have hZG : w.heap.size ∉ [G] := by simp; omega
                have hEG : w2.heap.size ∉ [G] := by simp; omega
                have HZ10 := Lib.hid (ht4.blk HZ9.out hZG)
                have HE10 := Lib.hid (ht4.blk HE9.out hEG)
                have Hx10 := Lib.hid (Hx8.out.touch0 T10)
                have heq := fun w' => eqIn_val ⟨rk, rn, rt⟩ ⟨rk, rn, rt⟩ w'
                rw [(eqV3_iff _ _).2 rfl] at heq
                simp only at heq
                have hgd := guard_val
                clear hr hmix hev1 hev2 hfa hfb hZG hEG
                obtain ⟨e0, e1, e2, e3, e4, e5, e6, -⟩ := blk7 HE10.out
                have z1 := cell_blk HZ10.out (i := 1) rfl; have z2 := cell_blk HZ10.out (i := 2) rfl
                go_wp2_with fail
                clear e0 e1 e2 e3 e4 e5 e6 z1 z2
                refine (Hev1.out _ Tw Hx10.out).mono ?_
                rintro e w11 ⟨rfl, u11⟩
                have t12 := u11.alloc (.cells #[.int .i64 rk, .int .i64 rn, .string rt] 30)
                have HE12 := Lib.hid (t12.blk HE10.out (by simp))
                have HZ12 := Lib.hid (t12.blk HZ10.out (by simp))
                have HV12 := Lib.hid (heap_alloc_new w11 (.cells #[.int .i64 rk, .int .i64 rn, .string rt] 30))
                obtain ⟨e0, e1, e2, e3, e4, e5, e6, -⟩ := blk7 HE12.out
                have z1 := cell_blk HZ12.out (i := 1) rfl
                go_wp2_with fail
                clear e0 e1 e2 e3 e4 e5 e6 z1
                refine (Hev2.out _ (Tw.trans0 t12) (Hx10.out.touch0 t12) (OwnK.touch0 hown.out t12).rd).mono ?_
                rintro e w13 ⟨rfl, u13⟩
                have t14 := u13.alloc (.cells #[.int .i64 rk, .int .i64 rn, .string rt] 30)
                have HV14 := Lib.hid (heap_alloc_new w13 (.cells #[.int .i64 rk, .int .i64 rn, .string rt] 30))
                obtain ⟨v0, v1, v2, -⟩ := blk3 (t14.blk HV12.out (by simp))
                obtain ⟨y0, y1, y2, -⟩ := blk3 HV14.out
                go_wp2_with fail
                refine (Haw.out _).mono ?_
                rintro e wz ⟨rfl, uz⟩
                go_wp2_with fail
                go_ret
                exact ⟨rfl, ((Tw.trans0 t12).trans0 t14).trans0 uz⟩
end Go.Proofs.Ytlkckkagoommaaa

/- The statement's parameter that came in: a list, a schema, two rows in one struct. -/
namespace Go.Proofs.Ytlkckkagoommaaa
open Go.ChangeShapes Go.WideShapes Go.ChangeAt Go.RowKit

theorem cellsRw : Try.prog.cellsOf 72 = 4 := by kernel_rfl
theorem cellsPl : Try.prog.cellsOf 22 = 1 := by kernel_rfl
theorem cellsSc : Try.prog.cellsOf 24 = 1 := by kernel_rfl
theorem cellsVs : Try.prog.cellsOf 25 = 1 := by kernel_rfl
section
variable {H : Type} {enc : TypeId × Value → H} {w : World} {base : Nat} {spare : Nat → Bool} {held : Bool}
theorem trod_one_slice {t e : TypeId} {fuel : Nat} {cs : Array Value} {j : Nat} {y : DataW H × List MemPlace} (ht : Try.prog.underlying t = some (.slice e)) (h : DataW.trod enc Try.prog w base spare held fuel t ((cs.toList.drop j).take 1) = some y) :
    ∃ a n c, cs[j]? = some (.slice a n c) ∧ DataW.trod enc Try.prog w base spare held fuel t (Value.slice a n c).cells.toList = some y := by
  have key : ∀ v, (cs.toList.drop j).take 1 = [v] → cs[j]? = some v := fun v hv => by
    have e := congrArg (fun l : List Value => l[0]?) hv
    simpa [List.getElem?_take, List.getElem?_drop] using e
  rcases DataW.trod_slice ht h with ⟨hcs, _⟩ | ⟨a, n, c, _, _, _, _, hcs, _⟩
  · exact ⟨none, 0, 0, key _ hcs, by rw [hcs] at h; exact h⟩
  · exact ⟨some a, n, c, key _ hcs, by rw [hcs] at h; exact h⟩
set_option maxRecDepth 20000 in
theorem open_rows {v : Value} {r : Reach} {b0 fuel : Nat} {x : DataW H × List MemPlace} (hv : Value.okWide Try.prog w r b0 72 v) (h : DataW.trod enc Try.prog w base spare held fuel 72 v.cells.toList = some x) :
    ∃ (A : Option Addr) (len cap : Nat) (SA : Option Addr) (sm scap : Nat) (RA : Option Addr) (na rac : Nat) (RB : Option Addr) (nb rbc : Nat), v = .agg #[.slice A len cap, .slice SA sm scap, .slice RA na rac, .slice RB nb rbc] ∧
      (∃ l : List PL, l.length = len ∧ PlsAt w A l ∧ (∀ c ∈ l, c.Okw) ∧ l.length ≤ 9223372036854775807 ∧ len ≤ cap) ∧
      (∃ l : List CD, l.length = sm ∧ ColsAt w SA l ∧ (∀ c ∈ l, c.Okw) ∧ l.length ≤ 9223372036854775807 ∧ sm ≤ scap) ∧
      (∃ l : List VD, l.length = na ∧ ValsAt w RA l ∧ (∀ c ∈ l, c.Ok 9223372036854775807) ∧ l.length ≤ 9223372036854775807 ∧ na ≤ rac) ∧
      (∃ l : List VD, l.length = nb ∧ ValsAt w RB l ∧ (∀ c ∈ l, c.Ok 9223372036854775807) ∧ l.length ≤ 9223372036854775807 ∧ nb ≤ rbc) := by
  obtain ⟨cs, rfl, hsz⟩ := okWide_struct Try.underlying72 hv
  rw [cellsRw] at hsz
  obtain ⟨xs, n, -, -, -, hxl, hf⟩ := DataW.trod_struct Try.underlying72 h
  simp only [Value.cells] at hf
  have h0 : DataW.trod enc Try.prog w base spare held n 22 ((cs.toList.drop 0).take (Try.prog.cellsOf 22)) = xs[0]? := hf 0 _ rfl
  have h1 : DataW.trod enc Try.prog w base spare held n 24 ((cs.toList.drop 1).take (Try.prog.cellsOf 24)) = xs[1]? := hf 1 _ rfl
  have h2 : DataW.trod enc Try.prog w base spare held n 25 ((cs.toList.drop 2).take (Try.prog.cellsOf 25)) = xs[2]? := hf 2 _ rfl
  have h3 : DataW.trod enc Try.prog w base spare held n 25 ((cs.toList.drop 3).take (Try.prog.cellsOf 25)) = xs[3]? := hf 3 _ rfl
  have hx4 : xs.length = 4 := hxl
  rw [List.getElem?_eq_getElem (by omega)] at h0 h1 h2 h3
  rw [cellsPl] at h0
  rw [cellsSc] at h1
  rw [cellsVs] at h2 h3
  obtain ⟨a0, n0, c0, e0, g0⟩ := trod_one_slice Try.underlying22 h0
  obtain ⟨a1, n1, c1, e1, g1⟩ := trod_one_slice Try.underlying24 h1
  obtain ⟨a2, n2, c2, e2, g2⟩ := trod_one_slice Try.underlying25 h2
  obtain ⟨a3, n3, c3, e3, g3⟩ := trod_one_slice Try.underlying25 h3
  refine ⟨a0, n0, c0, a1, n1, c1, a2, n2, c2, a3, n3, c3, ?_, open_pls g0, open_cols g1, open_vals g2, open_vals g3⟩
  congr 1
  apply Array.ext_getElem?
  intro i
  by_cases hi : i < 4
  · have : i = 0 ∨ i = 1 ∨ i = 2 ∨ i = 3 := by omega
    rcases this with rfl | rfl | rfl | rfl
    · rw [e0]; rfl
    · rw [e1]; rfl
    · rw [e2]; rfl
    · rw [e3]; rfl
  · rw [Array.getElem?_eq_none (by omega), Array.getElem?_eq_none (by simp; omega)]
end
end Go.Proofs.Ytlkckkagoommaaa
