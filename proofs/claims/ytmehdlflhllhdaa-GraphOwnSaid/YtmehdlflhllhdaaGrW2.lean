/- graph.New: the walk. For every list of needs. -/
import Derived.Test.YtmehdlflhllhdaaGrW
import Derived.Deep.RegionWith
import Derived.Deep.DeepCutAuto
import Derived.Test.YtmehdlflhllhdaaHeldU
namespace Go.Proofs.Ytmehdlflhllhdaa
open Go.RowKit

theorem new_bad0 (n : Int) (A : Option Addr) (c m : Nat) (hb : n < 0 ∨ 1024 < n ∨ n < m) (w : World) :
    Calls Try.prog 11 #[.int .i64 n, .slice A m c] w fun e w' => e = .returned (.tuple #[.pointer none, .int .i64 30]) ∧ w' = w := by
  by_cases h1 : n < 0
  · go_enter Try.func11, Try.ntmps11
    go_wp2
    exact bodyPost_ret (v := .tuple #[.pointer none, .int .i64 30]) (by simp [results, Try.results11, go_sem]) rfl ⟨rfl, rfl⟩
  · have h1' : (n < 0) = False := by simpa using h1
    by_cases h2 : 1024 < n
    · go_enter Try.func11, Try.ntmps11
      go_wp2
      exact bodyPost_ret (v := .tuple #[.pointer none, .int .i64 30]) (by simp [results, Try.results11, go_sem]) rfl ⟨rfl, rfl⟩
    · have h2' : (1024 < n) = False := by simpa using h2
      have h3 : n < (m : Int) := by omega
      go_enter Try.func11, Try.ntmps11
      go_wp2
      exact bodyPost_ret (v := .tuple #[.pointer none, .int .i64 30]) (by simp [results, Try.results11, go_sem]) rfl ⟨rfl, rfl⟩

theorem five (w : World) (o0 o1 o2 o3 o4 : Obj) : ∀ W, W = (((((w.alloc o0).alloc o1).alloc o2).alloc o3).alloc o4).drew → Touch [] w W ∧ W.heap[w.heap.size]? = some o0 ∧ W.heap[w.heap.size + 1]? = some o1 ∧ W.heap[w.heap.size + 1 + 1]? = some o2 ∧ W.heap[w.heap.size + 1 + 1 + 1]? = some o3 ∧ W.heap[w.heap.size + 1 + 1 + 1 + 1]? = some o4 := by
  rintro W rfl
  have b := fun (W : World) (o : Obj) => (Touch.refl [] W).alloc o
  have a0 := heap_alloc_new w o0
  have a1 := heap_alloc_new (w.alloc o0) o1
  have a2 := heap_alloc_new ((w.alloc o0).alloc o1) o2
  have a3 := heap_alloc_new (((w.alloc o0).alloc o1).alloc o2) o3
  have a4 := heap_alloc_new ((((w.alloc o0).alloc o1).alloc o2).alloc o3) o4
  simp only [World.size_alloc] at a1 a2 a3 a4
  exact ⟨((((((Touch.refl [] w).alloc o0).alloc o1).alloc o2).alloc o3).alloc o4).drew,
    (((((b _ o1).trans0 (b _ o2)).trans0 (b _ o3)).trans0 (b _ o4)).drew).blk a0 (by simp), ((((b _ o2).trans0 (b _ o3)).trans0 (b _ o4)).drew).blk a1 (by simp),
    (((b _ o3).trans0 (b _ o4)).drew).blk a2 (by simp), ((b _ o4).drew).blk a3 (by simp), a4⟩

theorem NS.init (w wx : World) (n : Nat) (hn : n ≤ 1024) (f : Nat → List Nat) (B g N M P : Nat) (t : Touch [] w wx) (hB : wx.heap[B]? = some (.cells #[.pointer (some ⟨g, 0, none⟩)] 25 (0, 0)))
    (hg : wx.heap[g]? = some (.cells #[.slice (some ⟨N, 0, none⟩) n n, .slice (some ⟨M, 0, none⟩) n n, .slice (some ⟨P, 0, none⟩) n n] 49 (0, 0)))
    (hN : wx.heap[N]? = some (.cells (madeCells #[.slice none 0 0] n) 31 (0, 0))) (hM : wx.heap[M]? = some (.cells (madeCells #[.slice none 0 0] n) 31 (0, 0))) (hP : wx.heap[P]? = some (.cells (madeCells #[.int .i64 0] n) 3 (0, 0)))
    (hd : B ≠ g ∧ B ≠ N ∧ B ≠ M ∧ B ≠ P ∧ g ≠ N ∧ g ≠ M ∧ g ≠ P ∧ N ≠ M ∧ N ≠ P ∧ M ≠ P) (hge : w.heap.size ≤ B ∧ w.heap.size ≤ g ∧ w.heap.size ≤ N ∧ w.heap.size ≤ M ∧ w.heap.size ≤ P) :
    NS w B g ⟨N, M, P, List.replicate n ⟨none, 0, 0⟩, List.replicate n ⟨none, 0, 0⟩⟩ n f 0 0 0 wx := by
  have key : ∀ {α : Type} (t : Nat) (val : α → Value) (b : Nat) (z : α), wx.heap[b]? = some (.cells (madeCells #[val z] n) t (0, 0)) → OwnK t 1 (fun x => [val x]) wx (some ⟨b, 0, none⟩) n (List.replicate n z) := by
    intro α t val b z h
    refine ⟨by simp, .inr ⟨b, n, madeCells #[val z] n, by simp, Nat.zero_le _, h, by simp, by unfold maxLen; omega, ?_, ?_⟩⟩
    · rw [madeCells_one]; simp
    · rw [madeCells_one, flat_one]; simp
  refine ⟨hB, hg, key 31 SL.val N ⟨none, 0, 0⟩ hN, key 31 SL.val M ⟨none, 0, 0⟩ hM, key 3 (fun x : Nat => nV x) P 0 hP, by simp, by simp, fun a ha => ?_, fun a ha => ?_, t, ?_, ?_, ?_, ?_, ?_, ?_⟩
  · simp only [List.getElem_replicate]
    rw [if_neg (by omega)]
    exact RowIs.zero _
  · simp only [List.getElem_replicate]
    rw [ndW_zero]
    exact ⟨rfl, OwnK.nil _ _ _ _⟩
  · obtain ⟨h1, h2, h3, h4, h5⟩ := hge
    intro x hx
    simp only [List.mem_cons, List.not_mem_nil, or_false] at hx
    rcases hx with rfl | rfl | rfl | rfl | rfl <;> assumption
  · obtain ⟨h1, h2, h3, h4, h5, h6, h7, h8, h9, h10⟩ := hd
    simp [*]
  · intro s hs x hx
    rw [List.eq_of_mem_replicate hs] at hx
    simp [fpo] at hx
  · intro s hs x hx
    rw [List.eq_of_mem_replicate hs] at hx
    simp [fpo] at hx
  · intro s hs x hx
    rw [List.eq_of_mem_replicate hs] at hx
    simp [fpo] at hx
  · intro a b ha hb _ x hx
    simp [fpo] at hx

/-- the outcome of New -/
def NewPost (n : Nat) (ls : List (List Int)) (w : World) (e : Ending) (w' : World) : Prop :=
  Touch [] w w' ∧
  ((∃ l ∈ ls, allN n l = false) ∧ e = .returned (.tuple #[.pointer none, .int .i64 30]) ∨
   (∀ l ∈ ls, allN n l = true) ∧ Ring (nsL n ls) ∧ e = .returned (.tuple #[.pointer none, .int .i64 53]) ∨
   (∀ l ∈ ls, allN n l = true) ∧ ¬ Ring (nsL n ls) ∧ ∃ g X ds up, e = .returned (.tuple #[gP g, .int .i64 0]) ∧ GAt w.heap.size up w' g X (nsL n ls) (told (nsL n ls)) ds ∧ up ≤ w'.heap.size ∧ Deep (nsL n ls) fun k => ds.getD k 0)

theorem nE_one (x : Nat) : ∀ u ∈ nE x, u.oneCell' = true := fun u hu => by
  simp only [List.mem_singleton] at hu; subst hu; rfl

theorem values_any (A : Option Addr) (len cap : Nat) (wb W : World) (t : Touch [] wb W) :
    Calls Try.prog 30 #[.slice A len cap] W fun e w' => (∃ b, e = .returned (.func (.func 40) #[] #[.pointer (some ⟨b, 0, none⟩)]) ∧ w'.cell? ⟨b, 0, none⟩ = some (.slice A len cap)) ∧ Touch [] wb w' := by
  refine ((callsIn_wide (n := 5)).1 (values_in Fence.wide 5 trivial rfl A len cap W)).mono ?_
  rintro e w' ⟨rfl, rfl⟩
  exact ⟨⟨_, rfl, cell_blk (heap_alloc_new W _) (i := 0) rfl⟩, t.alloc _⟩

/-- the row that is laid -/
structure RowOk (wb w' : World) (l : List Int) (A : Option Addr) (c : Nat) : Prop where
  rd : RdI w' A (uniq l)
  le : (uniq l).length ≤ c
  na : A = none ∨ ∃ g, A = some ⟨g, 0, none⟩
  t : Touch [] wb w'
  f : ∀ b ∈ fpo A, wb.heap.size ≤ b ∧ b < w'.heap.size

set_option maxRecDepth 20000 in
set_option maxHeartbeats 8000000 in
theorem new_any (n : Nat) (hn : n ≤ 1024) (A : Option Addr) (c m : Nat) (ls : List (List Int)) (hm : ls.length = m) (hmn : m ≤ n) (w : World) (h : InR w A ls) (hb : ∀ l ∈ ls, l.length ≤ 1000000000) :
    Calls Try.prog 11 #[.int .i64 n, .slice A m c] w fun e w' => NewPost n ls w e w' := by
  subst hm
  obtain ⟨F, hF⟩ : ∃ F : Nat → List Nat, F = fun a => rowU (ls.getD a []) := ⟨_, rfl⟩
  have HF0 : Hid (∀ a, F a = rowU (ls.getD a [])) := Lib.hid fun a => congrFun hF a
  clear hF
  go_enter Try.func11, Try.ntmps11
  have hmk := fun w => run_mkI n (by omega) w
  have hmk2 := fun w => run_mkS n (by omega) w
  go_wp2_with fail
  go_cut [6] (fun v wx => ∃ B g X, v = .pointer (some ⟨B, 0, none⟩) ∧ NS w B g X n F 0 0 0 wx)
  case first =>
    have Hf := Lib.hid (five w)
    go_region
    all_goals
      go_wp2_with fail
      go_meet
      obtain ⟨t, f0, f1, f2, f3, f4⟩ := Hf.out _ _ _ _ _ _ rfl
      exact ⟨_, _, _, rfl, NS.init w _ n hn _ _ _ _ _ _ t (by assumption) (by assumption) (by assumption) (by assumption) (by assumption) (by omega) (by omega)⟩
  case rest =>
    obtain ⟨B, g, X0, rfl, hS⟩ := hcut
    clear hmk hmk2
    obtain ⟨N, M, P, sn0, sm0⟩ := X0
    have H0 := Lib.hid hS
    have HB := Lib.hid hb
    clear hS hb
    go_wp2_with fail
    go_loopw [33] (fun x wr => ∃ (i : Nat) (sn sm : List SL), i ≤ ls.length ∧ x = .int .i64 i ∧ (∀ l ∈ ls.take i, allN n l = true) ∧ Hid (NS w B g ⟨N, M, P, sn, sm⟩ n F i i 0 wr)) (fun x _ => ls.length - (intOf x).toNat)
    case atStart => exact ⟨0, sn0, sm0, by omega, rfl, by simp, H0⟩
    case round =>
      clear H0
      obtain ⟨i, sn, sm, hi, rfl, hall, HS⟩ := hrel
      have Hall := Lib.hid hall
      clear hall
      by_cases hlt : i < ls.length
      · obtain ⟨ad, A', c', rfl, hc, hqc, hrd⟩ := (h.touch0 HS.out.t).at_ i hlt
        obtain ⟨q, hq⟩ : ∃ q, q = ls[i].length := ⟨_, rfl⟩
        rw [← hq] at hc hqc
        have hqb : q ≤ 1000000000 := by rw [hq]; exact HB.out _ (List.getElem_mem hlt)
        have hct := contains_any B g ⟨N, M, P, sn, sm⟩ n A' c' q ls[i] hq.symm hqb wr (cell_blk HS.out.b (i := 0) rfl) HS.out.hd hrd
        obtain ⟨l, hl⟩ : ∃ l, l = ls[i] := ⟨_, rfl⟩
        rw [← hl] at hq hct hrd
        have Hl := Lib.hid hl
        have Hq := Lib.hid hq
        have Hrd := Lib.hid hrd
        clear hl hq hrd
        rcases ha : allN n l with _ | _
        · rw [ha] at hct
          have Hct := Lib.hid hct
          have Hbad : Hid (∃ l ∈ ls, allN n l = false) := Lib.hid ⟨l, by rw [Hl.out]; exact List.getElem_mem hlt, ha⟩
          clear hct ha
          go_wp2_with fail
          refine Hct.out.mono ?_
          rintro e w1 ⟨rfl, rfl⟩
          go_wp2
          exact bodyPost_ret (v := .tuple #[.pointer none, .int .i64 30]) (by simp [results, Try.results11, go_sem]) rfl ⟨HS.out.t, .inl ⟨Hbad.out, rfl⟩⟩
        · rw [ha] at hct
          have Hct := Lib.hid hct
          have Ha := Lib.hid ha
          have Ha2 := Ha
          have HFi : Hid (F i = rowU l) := Lib.hid (by rw [HF0.out, show ls.getD i [] = l by rw [Hl.out]; simp [hlt]])
          clear hct ha
          go_wp2_with fail
          refine Hct.out.mono ?_
          rintro e wz ⟨rfl, rfl⟩
          clear Hct
          go_wp2_with fail
          obtain ⟨b, nN, nM, nP⟩ : ∃ b : Nat, True ∧ True ∧ True := ⟨0, trivial, trivial, trivial⟩
          clear nN nM nP b
          go_cut [44] (fun v wx => v = .slice (some ⟨N, 0, none⟩) n n ∧ ∃ s : SL, NS w B g ⟨N, M, P, sn.set i s, sm⟩ n F (i + 1) i 0 wx)
          case first =>
            have hin : i < n := by omega
            have hNd := HS.out.touch0 ((Touch.refl [] wz).drew)
            obtain ⟨d0, d1, d2⟩ := hNd.hd.cells
            have dB := cell_blk hNd.b (i := 0) rfl
            obtain ⟨v0, dN⟩ : ∃ v0, wz.drew.cell? ⟨N, i, none⟩ = some v0 := ⟨_, hNd.sn.cell1 i (by rw [hNd.snl]; exact hin)⟩
            have fN := hNd.sn.free_ i
            have C1 := Lib.hid (fun W (t : Touch [] wz.drew W) => values_any A' q c' wz.drew W t)
            have hlq : l.length = q := Hq.out.symm
            have C2 := Lib.hid (fun b W (t : Touch [] wz.drew W) (hb : W.cell? ⟨b, 0, none⟩ = some (.slice A' q c')) => sorted_any b A' c' l (by omega) W (by rw [hlq]; exact hb) (Rd.touch0 (Rd.touch0 Hrd.out (Touch.refl [] wz).drew) t))
            have C3 := Lib.hid (fun (A2 : Option Addr) (c2 : Nat) (W : World) (hh : ∀ g, A2 = some ⟨g, 0, none⟩ → Go.Sort.Holds iV W g 0 (sortI l).toArray) (hn2 : (A2 = none ∧ sortI l = []) ∨ ∃ g, A2 = some ⟨g, 0, none⟩) (hc2 : l.length ≤ c2) => by
              have := compact_own (w := W) (A := A2) (c := c2) (zs := sortI l) (by rcases hn2 with ⟨_, q⟩ | q; exact .inl q; exact .inr q) hh (by rw [sortI_length]; omega) (by rw [sortI_length]; exact hc2)
              rw [sortI_length] at this
              exact this)
            have hNlt : N < wz.heap.size := HS.out.lt N (by simp)
            have K3 := Lib.hid (fun (A2 : Option Addr) (w3 : World) (T : Touch (fpo A2) wz.drew w3) (hge : ∀ b ∈ fpo A2, wz.heap.size ≤ b) => show w3.cell? ⟨g, 0, none⟩ = some (.slice (some ⟨N, 0, none⟩) n n) ∧ w3.cell? ⟨B, 0, none⟩ = some (gP g) ∧ w3.frozen? ⟨N, i, none⟩ = false ∧ (∀ u, (w3.setCell ⟨N, i, none⟩ u).cell? ⟨g, 0, none⟩ = some (.slice (some ⟨N, 0, none⟩) n n)) ∧ (∀ u, (w3.setCell ⟨N, i, none⟩ u).cell? ⟨B, 0, none⟩ = some (gP g)) ∧ ∃ v3, w3.cell? ⟨N, i, none⟩ = some v3 from by
              have sN3 := hNd.sn.touch T (fun b hb hm => by
                have h1 := hge _ hm
                have : b = N := by simpa [fpo] using hb
                omega)
              have e0 := T.cell d0 (fun hm => absurd (hge _ hm) (Nat.not_le.2 (hNd.lt g (by simp))))
              have eB := T.cell dB (fun hm => absurd (hge _ hm) (Nat.not_le.2 (hNd.lt B (by simp))))
              have hnd5 := hNd.nd
              simp only [List.nodup_cons, List.mem_cons, List.not_mem_nil, or_false, not_or, not_false_eq_true, and_true, List.nodup_nil] at hnd5
              exact ⟨T.cell d0 (fun hm => absurd (hge _ hm) (Nat.not_le.2 (hNd.lt g (by simp)))), T.cell dB (fun hm => absurd (hge _ hm) (Nat.not_le.2 (hNd.lt B (by simp)))), sN3.free_ i, fun u => ((Touch.refl [N] w3).setCell (p := ⟨N, i, none⟩) (.inl (by simp)) u).cell e0 (by simpa using hnd5.2.1.1), fun u => ((Touch.refl [N] w3).setCell (p := ⟨N, i, none⟩) (.inl (by simp)) u).cell eB (by simpa using hnd5.1.2.1), _, sN3.cell1 i (by rw [hNd.snl]; exact hin)⟩)
            clear hNd hc hlq hNlt
            go_region_held3 (fun w' => w'.cell? ⟨B, 0, none⟩ = some (gP g) ∧ w'.cell? ⟨g, 0, none⟩ = some (.slice (some ⟨N, 0, none⟩) n n))
              (first | exact ⟨dB, d0⟩ | exact ⟨dB', d0'⟩ | exact ⟨dB'', d0''⟩ | exact ⟨dB3, d03⟩ | exact ⟨dB4 _, d04 _⟩)
              (first
              | (go_at_call 30; refine (C1.out _ (Touch.refl [] _)).mono ?_; rintro e w1 ⟨⟨b1, rfl, hb1⟩, t1⟩; have d0' := t1.cell d0 (by simp); have dB' := t1.cell dB (by simp); have H1 := Lib.hid (And.intro hb1 t1); clear hb1 t1)
              | (go_at_call 29; refine (C2.out b1 _ H1.out.2 H1.out.1).mono ?_; rintro e w2 ⟨A2, c2, rfl, hh2, hn2, hc2, t2, hf2⟩; have d0'' := (H1.out.2.trans0 t2).cell d0 (by simp); have dB'' := (H1.out.2.trans0 t2).cell dB (by simp); have H2 := Lib.hid (And.intro hh2 (And.intro hn2 (And.intro hc2 (And.intro t2 hf2)))); clear hh2 hn2 hc2 t2 hf2)
              | (go_at_call 28; refine (C3.out A2 c2 _ H2.out.1 H2.out.2.1 H2.out.2.2.1).mono ?_; rintro e w3 ⟨rfl, hr3, t3⟩; have hge3 : ∀ b ∈ fpo A2, wz.heap.size ≤ b := (fun b hb => Nat.le_trans H1.out.2.size (H2.out.2.2.2.2 b hb).1); have t13 : Touch (fpo A2) wz.drew w3 := ((H1.out.2.trans0 H2.out.2.2.2.1).mono (by simp)).trans t3 (fun b hb => .inl hb); obtain ⟨d03, dB3, fN3, d04, dB4, v3, dN3⟩ := K3.out A2 w3 t13 hge3; have H3 := Lib.hid (And.intro hr3 (And.intro t13 (And.intro hge3 t3.size))); clear hr3 t13 hge3 t3))
            all_goals
              go_wp2_with fail
              go_meet
              have T13 : Touch [] wz w3 := ((Touch.refl [] wz).drew).trans H3.out.2.1 (fun b hb => .inr (H3.out.2.2.1 b hb))
              have hrow := HS.out.row hin T13 (⟨A2, (uniq l).length, c2⟩ : SL) ⟨by simp only; rw [HFi.out, iN_rowU Ha.out], Nat.le_trans (uniq_le l) H2.out.2.2.1, by rcases H2.out.2.1 with ⟨q, _⟩ | q; exact .inl q; exact .inr q, by simp only; rw [HFi.out, iN_rowU Ha.out]; exact H3.out.1⟩
                (fun x hx => ⟨H3.out.2.2.1 x hx, Nat.lt_of_lt_of_le (H2.out.2.2.2.2 x hx).2 H3.out.2.2.2⟩) (fun s hs x hx => by
                  obtain ⟨a, ha, rfl⟩ := List.getElem_of_mem hs
                  exact (HS.out.rm a ha).2.lt x hx)
              refine ⟨rfl, ⟨A2, (uniq l).length, c2⟩, ?_⟩
              first
                | exact hrow
                | exact hrow.touch0 (Touch.refl [] _).drew
                | exact hrow.touch0 ((Touch.refl [] _).drewN _)
          case rest =>
            obtain ⟨rfl, s, hS⟩ := hcut
            have hFi := HFi.out
            have hU : (rowU l).Nodup := rowU_nodup Ha.out
            have hUl : ∀ x ∈ rowU l, x < n := rowU_lt Ha.out
            have hUn : (rowU l).length ≤ n := pigeon n _ hU hUl
            obtain ⟨U, hUe⟩ : ∃ U, U = rowU l := ⟨_, rfl⟩
            rw [← hUe] at hU hUl hUn hFi
            have hin : i < n := by omega
            obtain ⟨d0, d1, d2⟩ := hS.hd.cells
            have dB := cell_blk hS.b (i := 0) rfl
            have dN := hS.sn.cell1 i (by rw [hS.snl]; exact hin)
            have hrow := hS.rn i (by rw [hS.snl]; exact hin)
            rw [if_pos (by omega), hFi] at hrow
            obtain ⟨⟨A2, m2, c2⟩, hs2⟩ : ∃ s2, s2 = (sn.set i s)[i]'(by have := hS.snl; simp only at this; rw [this]; exact hin) := ⟨_, rfl⟩
            simp only [← hs2] at dN hrow
            have hm2 : m2 = U.length := by have := hrow.n; simpa using this
            dsimp only [SL.val] at dN
            have Hs2 : Hid ((sn.set i s)[i]? = some ⟨A2, m2, c2⟩) := Lib.hid (by rw [hs2]; exact List.getElem?_eq_getElem _)
            have HS2 := Lib.hid hS
            have HF := Lib.hid hFi
            have HU := Lib.hid (And.intro hU (And.intro hUl hUn))
            have Hm2 := Lib.hid hm2
            have hm2n : m2 ≤ n := by omega
            clear hs2 hS hFi hU hUl hUn hUe hrow hm2 HS Ha hc
            go_wp2_with fail
            obtain ⟨sn', hsn'⟩ : ∃ sn', sn' = sn.set i s := ⟨_, rfl⟩
            rw [← hsn'] at Hs2 HS2
            clear hsn'
            go_loopw [59] (fun x wr => ∃ (p : Nat) (sm : List SL), p ≤ m2 ∧ x = .int .i64 p ∧ Hid (NS w B g ⟨N, M, P, sn', sm⟩ n F (i + 1) i p wr)) (fun x _ => m2 - (intOf x).toNat)
            case atStart => exact ⟨0, sm, by omega, rfl, HS2⟩
            case round =>
              clear HS2 d0 d1 d2 dB dN
              obtain ⟨p, sm, hp, rfl, HS⟩ := hrel
              by_cases hpm : p < m2
              · have hpU : p < U.length := by have := Hm2.out; omega
                have hinl : i < sn'.length := by have := HS.out.snl; simp only at this; omega
                have hrow := HS.out.rn i hinl
                have hs2 : sn'[i] = ⟨A2, m2, c2⟩ := by have := Hs2.out; rw [List.getElem?_eq_getElem hinl] at this; exact Option.some.inj this
                simp only [hs2] at hrow
                rw [if_pos (by omega), HF.out] at hrow
                obtain ⟨ad2, hA2, cy⟩ := hrow.rd.at_ p (by simpa using hpU)
                simp only [List.getElem_map] at cy hA2
                subst hA2
                obtain ⟨k, hk⟩ : ∃ k, k = U[p] := ⟨_, rfl⟩
                rw [← hk] at cy
                have hkn : k < n := by rw [hk]; exact HU.out.2.1 _ (List.getElem_mem hpU)
                have hksl : k < sm.length := by have := HS.out.sml; simp only at this; omega
                have hkF : k = (F i)[p]'(by rw [HF.out]; exact hpU) := by rw [hk]; congr 1; exact HF.out.symm
                obtain ⟨d0, d1, d2⟩ := HS.out.hd.cells
                have dB := cell_blk HS.out.b (i := 0) rfl
                have dM := HS.out.sm.cell1 k hksl
                have zM := HS.out.sm.free_ k
                have hown := HS.out.rm k hksl
                have hbm := HS.out.bm _ (List.getElem_mem hksl)
                obtain ⟨⟨Ak, qk, ck⟩, hsk⟩ : ∃ s, s = sm[k] := ⟨_, rfl⟩
                simp only [← hsk] at dM hown hbm
                dsimp only [SL.val] at dM
                obtain ⟨R, hR⟩ : ∃ R, R = ndW F i p k := ⟨_, rfl⟩
                rw [← hR] at hown
                have hRl : R.length ≤ 2000 := by rw [hR]; have := ndW_le F i p k; omega
                have hq2 : qk ≤ 2000 := by have := hown.1; omega
                have hfx : ∀ x ∈ [B, g, N, M, P], x ∉ fpo Ak := fun x hx hm => (hbm x hm).2.1 hx
                have Hta0 := Lib.hid ((Touch.refl [] wr).drew)
                have KM := Lib.hid (fun (w2 : World) (T : Touch (fpo Ak) wr w2) => show w2.cell? ⟨B, 0, none⟩ = some (gP g) ∧ w2.cell? ⟨g, 1, none⟩ = some (.slice (some ⟨M, 0, none⟩) n n) ∧ w2.cell? ⟨M, k, none⟩ = some (.slice Ak qk ck) ∧ w2.frozen? ⟨M, k, none⟩ = false from
                  ⟨T.cell dB (hfx B (by simp)), T.cell d1 (hfx g (by simp)), T.cell dM (hfx M (by simp)),
                    (HS.out.sm.touch T (fun b hb => by simp [fpo] at hb; subst hb; exact hfx _ (by simp))).free_ k⟩)
                have Ho := Lib.hid hown.2
                have Hq := Lib.hid hown.1
                have HR := Lib.hid hR
                have HkF := Lib.hid hkF
                have Hsk : Hid (sm[k]? = some ⟨Ak, qk, ck⟩) := Lib.hid (by rw [hsk]; exact List.getElem?_eq_getElem hksl)
                clear hown hR hbm hfx hsk hk hkF hs2 hrow d0 d2
                go_wp2_with fail
                obtain ⟨wd, hwd⟩ : ∃ wd, wd = wr.drew := ⟨_, rfl⟩
                have td : Touch [] wr wd := by rw [hwd]; exact Hta0.out
                have dBd := td.cell dB (by simp)
                have d1d := td.cell d1 (by simp)
                have dMd := td.cell dM (by simp)
                have Hsd : Hid (wd.heap.size = wr.heap.size) := Lib.hid (by rw [hwd]; rfl)
                have tz : Touch [] wr (wd.alloc (.cells #[.int .i64 (i : Int)] 3)) := td.alloc _
                have dBz := tz.cell dB (by simp)
                have d1z := tz.cell d1 (by simp)
                have dMz := tz.cell dM (by simp)
                have Hoz := Lib.hid (Ho.out.touch0 tz)
                have Hrz : Hid (RdK nE (wd.alloc (.cells #[.int .i64 (i : Int)] 3)) (some ⟨wd.heap.size, 0, none⟩) [i]) := Lib.hid (RdK.one (enc := nE) wd 3 i #[.int .i64 (i : Int)] rfl)
                refine wp_region_until 16 (fun w' => w'.cell? ⟨B, 0, none⟩ = some (gP g) ∧ w'.cell? ⟨g, 1, none⟩ = some (.slice (some ⟨M, 0, none⟩) n n) ∧ w'.cell? ⟨M, k, none⟩ = some (.slice Ak qk ck)) (by kernel_rfl) ?_
                rw [← hwd]
                clear hwd
                have hHd : (fun w' : World => w'.cell? ⟨B, 0, none⟩ = some (gP g) ∧ w'.cell? ⟨g, 1, none⟩ = some (.slice (some ⟨M, 0, none⟩) n n) ∧ w'.cell? ⟨M, k, none⟩ = some (.slice Ak qk ck)) wd := ⟨dBd, d1d, dMd⟩
                refine takeU (i := 0) (d := 63) (v := ?_) rfl rfl (by kernel_rfl) (by kernel_rfl) (by kernel_rfl) (fun _ _ _ h => h) (by decide) rfl (by kernel_rfl) (by kernel_rfl) (Or.inl ⟨by rfl, ?_⟩) hHd ?_
                rotate_left
                · intro w hSw; (try dsimp only at hSw); go_simp; (try with_reducible rfl)
                try simp only [Act.put, List.setIfInBounds_toArray, List.set_cons_zero, List.set_cons_succ]
                refine takeU (i := 1) (d := 64) (v := ?_) rfl rfl (by kernel_rfl) (by kernel_rfl) (by kernel_rfl) (fun _ _ _ h => h) (by decide) rfl (by kernel_rfl) (by kernel_rfl) (Or.inl ⟨by rfl, ?_⟩) hHd ?_
                rotate_left
                · intro w hSw; (try dsimp only at hSw); go_simp; (try with_reducible rfl)
                try simp only [Act.put, List.setIfInBounds_toArray, List.set_cons_zero, List.set_cons_succ]
                refine takeU (i := 2) (d := 65) (v := ?_) rfl rfl (by kernel_rfl) (by kernel_rfl) (by kernel_rfl) (fun _ _ _ h => h) (by decide) rfl (by kernel_rfl) (by kernel_rfl) (Or.inl ⟨by rfl, ?_⟩) hHd ?_
                rotate_left
                · intro w hSw; (try dsimp only at hSw); go_simp; (try with_reducible rfl)
                try simp only [Act.put, List.setIfInBounds_toArray, List.set_cons_zero, List.set_cons_succ]
                refine takeU (i := 3) (d := 66) (v := ?_) rfl rfl (by kernel_rfl) (by kernel_rfl) (by kernel_rfl) (fun _ _ _ h => h) (by decide) rfl (by kernel_rfl) (by kernel_rfl) (Or.inl ⟨by rfl, ?_⟩) hHd ?_
                rotate_left
                · intro w hSw; (try dsimp only at hSw); go_simp; (try with_reducible rfl)
                try simp only [Act.put, List.setIfInBounds_toArray, List.set_cons_zero, List.set_cons_succ]
                refine takeU (i := 4) (d := 67) (v := ?_) rfl rfl (by kernel_rfl) (by kernel_rfl) (by kernel_rfl) (fun _ _ _ h => h) (by decide) rfl (by kernel_rfl) (by kernel_rfl) (Or.inl ⟨by rfl, ?_⟩) hHd ?_
                rotate_left
                · intro w hSw; (try dsimp only at hSw); go_simp; (try with_reducible rfl)
                try simp only [Act.put, List.setIfInBounds_toArray, List.set_cons_zero, List.set_cons_succ]
                refine takeU (i := 5) (d := 68) (v := ?_) rfl rfl (by kernel_rfl) (by kernel_rfl) (by kernel_rfl) (fun _ _ _ h => h) (by decide) rfl (by kernel_rfl) (by kernel_rfl) (Or.inl ⟨by rfl, ?_⟩) hHd ?_
                rotate_left
                · intro w hSw; (try dsimp only at hSw); go_simp; (try with_reducible rfl)
                try simp only [Act.put, List.setIfInBounds_toArray, List.set_cons_zero, List.set_cons_succ]
                refine takeU (i := 6) (d := 69) (v := ?_) rfl rfl (by kernel_rfl) (by kernel_rfl) (by kernel_rfl) (fun _ _ _ h => h) (by decide) rfl (by kernel_rfl) (by kernel_rfl) (Or.inl ⟨by rfl, ?_⟩) hHd ?_
                rotate_left
                · intro w hSw; (try dsimp only at hSw); go_simp; (try with_reducible rfl)
                try simp only [Act.put, List.setIfInBounds_toArray, List.set_cons_zero, List.set_cons_succ]
                refine takeU (i := 7) (d := 70) (v := ?_) rfl rfl (by kernel_rfl) (by kernel_rfl) (by kernel_rfl) (fun _ _ _ h => h) (by decide) rfl (by kernel_rfl) (by kernel_rfl) (Or.inl ⟨by rfl, ?_⟩) hHd ?_
                rotate_left
                · intro w hSw; (try dsimp only at hSw); go_simp; (try with_reducible rfl)
                try simp only [Act.put, List.setIfInBounds_toArray, List.set_cons_zero, List.set_cons_succ]
                refine takeU (i := 8) (d := 71) (v := ?_) rfl rfl (by kernel_rfl) (by kernel_rfl) (by kernel_rfl) (fun _ _ _ h => h) (by decide) rfl (by kernel_rfl) (by kernel_rfl) (Or.inl ⟨by rfl, ?_⟩) hHd ?_
                rotate_left
                · intro w hSw; (try dsimp only at hSw); go_simp; (try with_reducible rfl)
                try simp only [Act.put, List.setIfInBounds_toArray, List.set_cons_zero, List.set_cons_succ]
                refine takeU (i := 9) (d := 72) (v := ?_) rfl rfl (by kernel_rfl) (by kernel_rfl) (by kernel_rfl) (fun _ _ _ h => h) (by decide) rfl (by kernel_rfl) (by kernel_rfl) (Or.inl ⟨by rfl, ?_⟩) hHd ?_
                rotate_left
                · intro w hSw; (try dsimp only at hSw); go_simp; (try with_reducible rfl)
                try simp only [Act.put, List.setIfInBounds_toArray, List.set_cons_zero, List.set_cons_succ]
                refine takeU (i := 10) (d := 73) (v := ?_) rfl rfl (by kernel_rfl) (by kernel_rfl) (by kernel_rfl) (fun _ _ _ h => h) (by decide) rfl (by kernel_rfl) (by kernel_rfl) (Or.inl ⟨by rfl, ?_⟩) hHd ?_
                rotate_left
                · intro w hSw; (try dsimp only at hSw); go_simp; (try with_reducible rfl)
                try simp only [Act.put, List.setIfInBounds_toArray, List.set_cons_zero, List.set_cons_succ]
                refine takeU (i := 11) (d := 74) (v := ?_) rfl rfl (by kernel_rfl) (by kernel_rfl) (by kernel_rfl) (fun _ _ _ h => h) (by decide) rfl (by kernel_rfl) (by kernel_rfl) (Or.inl ⟨by rfl, ?_⟩) hHd ?_
                rotate_left
                · intro w hSw; (try dsimp only at hSw); go_simp; (try with_reducible rfl)
                try simp only [Act.put, List.setIfInBounds_toArray, List.set_cons_zero, List.set_cons_succ]
                refine takeU (i := 12) (d := 75) (v := ?_) rfl rfl (by kernel_rfl) (by kernel_rfl) (by kernel_rfl) (fun _ _ _ h => h) (by decide) rfl (by kernel_rfl) (by kernel_rfl) (Or.inl ⟨by rfl, ?_⟩) hHd ?_
                rotate_left
                · intro w hSw; (try dsimp only at hSw); go_simp; (try with_reducible rfl)
                try simp only [Act.put, List.setIfInBounds_toArray, List.set_cons_zero, List.set_cons_succ]
                refine oneU (i := 13) (by kernel_rfl) rfl (fun K hK => ?_)
                go_simp
                have hHa : (fun w' : World => w'.cell? ⟨B, 0, none⟩ = some (gP g) ∧ w'.cell? ⟨g, 1, none⟩ = some (.slice (some ⟨M, 0, none⟩) n n) ∧ w'.cell? ⟨M, k, none⟩ = some (.slice Ak qk ck)) (wd.alloc (.cells #[.int .i64 (i : Int)] 3)) := ⟨dBz, d1z, dMz⟩
                refine hK _ _ (fun _ => hHa) ?_
                clear hK K
                try simp only [Act.put, List.setIfInBounds_toArray, List.set_cons_zero, List.set_cons_succ]
                refine oneU (i := 14) (by kernel_rfl) rfl (fun K hK => ?_)
                refine step_appK (enc := nE) rfl (.tmp 74) (.tmp 76) 31 rfl 3 (.int .i64 0) 1 8 info_int Try.underlying31 rfl (by omega) (fun _ => rfl) nE_one Ak qk ck R Hq.out.symm rfl Hoz.out (some ⟨wd.heap.size, 0, none⟩) 1 1 [i] rfl rfl Hrz.out (by omega) (by omega) ?_
                intro A3 c3 w2 hown3 ht3 hf3
                obtain ⟨dB2, d12, dM2, zM2⟩ := KM.out w2 (tz.mono (by simp) |>.trans ht3 (fun b hb => .inl hb))
                have hHq : (fun w' : World => w'.cell? ⟨B, 0, none⟩ = some (gP g) ∧ w'.cell? ⟨g, 1, none⟩ = some (.slice (some ⟨M, 0, none⟩) n n) ∧ w'.cell? ⟨M, k, none⟩ = some (.slice Ak qk ck)) w2 := ⟨dB2, d12, dM2⟩
                refine hK _ _ (fun _ => hHq) ?_
                clear hK K
                try simp only [Act.put, List.setIfInBounds_toArray]
                refine takeU (i := 15) (d := 78) (v := ?_) rfl rfl (by kernel_rfl) (by kernel_rfl) (by kernel_rfl) (fun _ _ _ h => h) (by decide) rfl (by kernel_rfl) (by kernel_rfl) (Or.inl ⟨by rfl, ?_⟩) hHq ?_
                rotate_left
                · intro w hSw; (try dsimp only at hSw); go_simp; (try with_reducible rfl)
                try simp only [Act.put]
                refine oneU (i := 16) (by kernel_rfl) rfl (fun K hK => ?_)
                go_simp
                refine hK _ _ (fun h => by cases h) ?_
                clear hK K
                refine doneU (by kernel_rfl) ?_ _
                have hsk2 : sm[k] = ⟨Ak, qk, ck⟩ := by have := Hsk.out; rw [List.getElem?_eq_getElem hksl] at this; exact Option.some.inj this
                have hbk := HS.out.back (by rw [HF.out]; exact hpU) (by rw [HF.out]; exact HU.out.1) HkF.out hkn hksl tz (w3 := w2) (A3 := A3) (c3 := c3) (by rw [← HR.out]; exact hown3) (by simp only [hsk2]; exact ht3) (fun b hb => by
                  simp only [hsk2]
                  rcases hf3 b hb with q | q
                  · exact .inl q
                  · right
                    have := Hsd.out
                    have h4 : (wd.alloc (.cells #[.int .i64 (i : Int)] 3)).heap.size = wd.heap.size + 1 := World.size_alloc _ _
                    omega)
                rw [show (ndW F i p k).length = qk by rw [← HR.out]; exact Hq.out.symm] at hbk
                have Hbk := Lib.hid hbk
                clear hbk hsk2 hown3 ht3 hf3
                go_wp2
                go_roundw
                case rel => exact ⟨p + 1, _, by omega, by go_num, Hbk⟩
                case measure => simp [intOf]; omega
              · obtain rfl : p = m2 := by omega
                have HN := Lib.hid (HS.out.next (by rw [HF.out, ← Hm2.out]; exact Nat.le_refl _))
                have Hok : Hid (∀ l ∈ ls.take (i + 1), allN n l = true) := Lib.hid (by
                  rw [List.take_succ_eq_append_getElem hlt]
                  intro l2 hl2
                  rcases List.mem_append.1 hl2 with q | q
                  · exact Hall.out l2 q
                  · simp only [List.mem_singleton] at q
                    rw [q, ← Hl.out]; exact Ha2.out)
                clear HS
                go_wp2
                go_roundw
                case rel => exact ⟨i + 1, sn', sm, by omega, by go_num, Hok.out, HN⟩
                case measure => simp [intOf]; omega
      · obtain rfl : i = ls.length := by omega
        have hallL : ∀ l ∈ ls, allN n l = true := by have := Hall.out; rwa [List.take_length] at this
        obtain ⟨hG, hPf, hP1, hP2, hBP⟩ := HS.out.done HF0.out hmn hn
        have hM := measure_any w.heap.size wr.heap.size g ⟨N, M, P, sn, sm⟩ (nsL n ls) wr hG hPf (Nat.le_refl _) (nsL_lt hmn hallL) (nsL_nodup hmn hallL)
        have dB := cell_blk HS.out.b (i := 0) rfl
        have HM := Lib.hid hM
        have HA := Lib.hid hallL
        clear hM hG hPf hallL
        go_wp2_with fail
        refine HM.out.mono ?_
        rintro e w2 ⟨b, ds, rfl, hG2, hT2, hb1, hb0⟩
        have dB2 := hT2.cell dB (by simpa using hBP)
        have T2 : Touch [] w w2 := HS.out.t.trans hT2 (fun x hx => by simp at hx; subst hx; exact .inr hP1)
        have HH := Lib.hid (And.intro hG2 (And.intro T2 (And.intro hT2.size (And.intro hb1 hb0))))
        clear hG2 T2 hT2 hb1 hb0 HM
        rcases b with _ | _
        · go_wp2
          exact bodyPost_ret (v := .tuple #[.pointer none, .int .i64 53]) (by simp [results, Try.results11, go_sem]) rfl ⟨HH.out.2.1, .inr (.inl ⟨HA.out, HH.out.2.2.2.2 trivial, rfl⟩)⟩
        · go_wp2
          exact bodyPost_ret (v := .tuple #[gP g, .int .i64 0]) (by simp [results, Try.results11, go_sem]) rfl ⟨HH.out.2.1, .inr (.inr ⟨HA.out, (HH.out.2.2.2.1 trivial).1, g, ⟨N, M, P, sn, sm⟩, ds, wr.heap.size, rfl, HH.out.1, HH.out.2.2.1, (HH.out.2.2.2.1 trivial).2⟩)⟩
end Go.Proofs.Ytmehdlflhllhdaa
