/- graph.reach, Above and Below: all that is reached from some nodes. For every graph. -/
import Derived.Test.YtmehdlflhllhdaaGrC
import Derived.Test.YtmehdlflhllhdaaGrE
import Derived.Test.YtmehdlflhllhdaaGrB
namespace Go.Proofs.Ytmehdlflhllhdaa
open Go.RowKit

theorem OwnK.cut {α : Type} {t : Nat} {val : α → Value} {w : World} {A : Option Addr} {c : Nat} {l : List α} (h : OwnK t 1 (fun x => [val x]) w A c l) (k : Nat) (hk : k ≤ l.length) : OwnK t 1 (fun x => [val x]) w A c (l.take k) := by
  have hlk : (l.take k).length = k := by rw [List.length_take]; omega
  refine ⟨by rw [flat_one]; simp, ?_⟩
  rcases h.2 with ⟨hv, h0⟩ | ⟨g, cap, cur, hv, hb, hg, hnc, hm, hs, ht⟩
  · injection hv with e1 _ e3
    subst e1 e3
    exact .inl ⟨by rw [hlk]; congr 1; omega, by omega⟩
  · injection hv with e1 e2 e3
    subst e1 e3
    refine .inr ⟨g, c, cur, rfl, hb, hg, by omega, hm, hs, ?_⟩
    rw [flat_one] at ht ⊢
    rw [List.map_take, ← ht, hlk, Nat.mul_one, Nat.mul_one, List.take_take]
    congr 1
    omega
theorem OwnK.toI {t : Nat} {w : World} {A : Option Addr} {c : Nat} {l : List Nat} (h : OwnK t 1 nE w A c l) : OwnK t 1 iE w A c (iN l) := by
  have e : ((iN l).flatMap iE) = l.flatMap nE := by rw [flat_one, flat_one, List.map_map]; rfl
  unfold OwnK
  rw [e, List.length_map]; exact h

/-- how many are not seen -/
def unseen (n : Nat) (f : Nat → Bool) : Nat := (List.range n).countP fun a => !f a
theorem unseen_set (n : Nat) (f : Nat → Bool) (i : Nat) (hi : i < n) (h : f i = false) : unseen n (fun a => f a || a == i) + 1 = unseen n f := by
  unfold unseen
  rw [List.countP_eq_length_filter, List.countP_eq_length_filter]
  have := filter_less (List.range n) List.nodup_range (fun a => !f a) i (List.mem_range.2 hi) (by simp [h])
  have e : (fun a => !(f a || a == i)) = fun x => !f x && !(x == i) := by
    funext x
    rw [Bool.not_or]
  rw [e]; exact this
/-- .. as the world tells it -/
def unseenW (S : Nat) (w : World) : Nat := match w.heap[S]? with
  | some (.cells cs _ _) => cs.toList.countP fun v => match v with | .bool false => true | _ => false
  | _ => 0
theorem unseenW_eq {S : Nat} {w : World} {n : Nat} {f : Nat → Bool} {t : TypeId} (h : w.heap[S]? = some (.cells (rowB n f) t (0, 0))) : unseenW S w = unseen n f := by
  unfold unseenW unseen
  rw [h]
  simp only [rowB]
  rw [List.countP_map]
  apply List.countP_congr
  intro a _
  simp only [Function.comp]
  cases f a <;> simp

/-- what stands in reach's loop -/
structure RS (lo up : Nat) (w : World) (g : Nat) (X : GX) (ns nd : List (List Nat)) (ds : List Nat) (S : Nat) (t : Nat → Nat → Bool) (l : List Int) (seen : Nat → Bool) (todo : List Int) (A : Option Addr) (c : Nat) (wr : World) : Prop where
  gr : GAt lo up wr g X ns nd ds
  sb : wr.heap[S]? = some (.cells (rowB ns.length seen) 4 (0, 0))
  td : OwnK 3 1 iE wr A c todo
  st : Rst t ns.length l seen todo
  t : Touch [] w wr
  f : w.heap.size ≤ S ∧ ∀ b ∈ fpo A, w.heap.size ≤ b ∧ b ≠ S
  bd : todo.length + 2001 * unseen ns.length seen ≤ l.length + 2001 * ns.length

open Classical in
/-- those that are reached -/
noncomputable def reachN (t : Nat → Nat → Bool) (n : Nat) (l : List Int) : List Nat := pick n fun a => decide (Reach t n l a)
theorem pick_congr {n : Nat} {p q : Nat → Bool} (h : ∀ a, a < n → p a = q a) : pick n p = pick n q := by
  unfold pick
  apply List.filter_congr
  intro a ha
  exact h a (List.mem_range.1 ha)
theorem unseen_none (n : Nat) : unseen n (fun _ => false) = n := by
  show (List.range n).countP (fun _ => true) = n
  rw [List.countP_true, List.length_range]
theorem pop_last (l : List Int) (h : l ≠ []) : l = l.take (l.length - 1) ++ [l[l.length - 1]'(by have := List.length_pos_iff.2 h; omega)] := by
  have hp := List.length_pos_iff.2 h
  have := List.take_succ_eq_append_getElem (show l.length - 1 < l.length by omega)
  rw [show l.length - 1 + 1 = l.length by omega, List.take_length] at this
  exact this

set_option maxRecDepth 20000 in
set_option maxHeartbeats 8000000 in
theorem reach_needs (lo up g : Nat) (X : GX) (ns nd : List (List Nat)) (ds : List Nat) (A0 : Option Addr) (c0 m0 : Nat) (l : List Int) (hm : l.length = m0) (hml : m0 ≤ 1000000) (w : World) (h : GAt lo up w g X ns nd ds) (hUp : up ≤ w.heap.size) (hl : RdI w A0 l)
    (t : Nat → Nat → Bool) (hb : ∀ r ∈ ns, r.length ≤ 2000) (htl : ∀ a b, t a b = true → b < ns.length) (ht : ∀ a b, a < ns.length → (b ∈ nsOf ns a ↔ t a b = true)) :
    Calls Try.prog 36 #[gP g, .slice A0 m0 c0, .func (.func 16) #[gP g] #[]] w fun e w' => OutI (iN (reachN t ns.length l)) w e w' := by
  obtain ⟨n, hn⟩ : ∃ n, n = ns.length := ⟨_, rfl⟩
  obtain ⟨d0, d1, d2⟩ := h.hd.cells
  have hlt := h.lt
  have hnl := h.nl
  rw [← hn] at d0 d1 d2 hlt
  have hmk := fun w => run_mkB n (by omega) w
  have k0 := ((Touch.refl [] w).alloc (.cells (madeCells #[.bool false] n) 4)).cell d0 (by simp)
  have T1 := (Touch.refl [] w).alloc (.cells (madeCells #[.bool false] n) 4)
  have hS1 : (w.alloc (.cells (madeCells #[.bool false] n) 4)).heap[w.heap.size]? = some (.cells (rowB n (fun _ => false)) 4 (0, 0)) := by rw [heap_alloc_new, rowB_made]
  have hcl := clone_all A0 c0 m0 l hm (by omega) _ (show RdI _ A0 l from Rd.touch0 hl T1)
  have HT1 := Lib.hid T1
  have HS1 := Lib.hid hS1
  have Hcl := Lib.hid hcl
  have HN := Lib.hid hn
  have Hm := Lib.hid hm
  have HG := Lib.hid h
  clear T1 hS1 hcl hn h hm
  go_enter Try.func36, Try.ntmps36
  go_wp2_with fail
  refine Hcl.out.mono ?_
  rintro e w1 ⟨A1, c1, rfl, hown1, ht1, hf1⟩
  have H0 : Hid (RS lo up w g X ns nd ds w.heap.size t l (fun _ => false) l A1 c1 w1) := Lib.hid ⟨(HG.out.touch0 HT1.out).touch0 ht1, by rw [← HN.out]; exact ht1.blk HS1.out (by simp), hown1, Rst.init _ _ _, HT1.out.trans0 ht1, ⟨Nat.le_refl _, fun b hb => by
    have h5 := hf1 b hb
    rw [World.size_alloc] at h5
    exact ⟨by omega, by omega⟩⟩, by rw [unseen_none]; exact Nat.le_refl _⟩
  have Hm1 : Hid (m0 = l.length) := Lib.hid Hm.out.symm
  clear hown1 ht1 hf1 hmk k0 d0 d1 d2 Hcl HS1 HT1 HG
  go_wp2_with fail
  go_loopw [8] (fun v wr => ∃ (q : Nat) (todo : List Int) (seen : Nat → Bool) (A : Option Addr) (c : Nat), v = .slice A q c ∧ q ≤ 6000000 ∧ Hid (q = todo.length) ∧ Hid (RS lo up w g X ns nd ds w.heap.size t l seen todo A c wr)) (fun v wr => (match v with | .slice _ q _ => q | _ => 0) + 2001 * unseenW w.heap.size wr)
  case atStart => exact ⟨m0, l, _, A1, c1, rfl, by omega, Hm1, H0⟩
  case round =>
    clear H0 Hm1
    obtain ⟨q, todo, seen, A, c, rfl, hq6, Hq, HR⟩ := hrel
    obtain ⟨d0, d1, d2⟩ := HR.out.gr.hd.cells
    rw [← HN.out] at d0 d1 d2
    by_cases hq : 0 < q
    · have hne : todo ≠ [] := fun e => by have := Hq.out; rw [e] at this; simp at this; omega
      have hpop := pop_last todo hne
      have hlast : q - 1 < todo.length := by have := Hq.out; omega
      rcases HR.out.td.head with ⟨_, h0, _⟩ | ⟨G, rfl⟩
      · exact absurd h0 hne
      have cx := HR.out.td.cell1 (q - 1) hlast
      have hqc : q ≤ c := by have := HR.out.td.le; have := Hq.out; omega
      obtain ⟨x, hx⟩ : ∃ x, x = todo[q - 1] := ⟨_, rfl⟩
      rw [← hx] at cx
      obtain ⟨td2, htd2⟩ : ∃ td2, td2 = todo.take (q - 1) := ⟨_, rfl⟩
      have hpop2 : todo = td2 ++ [x] := by
        rw [htd2, hx]
        have e1 : q = todo.length := Hq.out
        subst e1
        exact hpop
      have hl2 : td2.length = q - 1 := by rw [htd2, List.length_take]; omega
      have hcut := HR.out.td.cut (q - 1) (by omega)
      rw [← htd2] at hcut
      have hst := HR.out.st
      rw [hpop2] at hst
      have hbd := HR.out.bd
      rw [hpop2, List.length_append] at hbd
      simp only [List.length_cons, List.length_nil] at hbd
      have hcast : (q : Int) - 1 = ((q - 1 : Nat) : Int) := by omega
      have hh := has_any g X ns.length x wr HR.out.gr.hd
      have Hl2 := Lib.hid hl2
      have Hcut := Lib.hid hcut
      have Hst := Lib.hid hst
      have Hbd := Lib.hid hbd
      have hm1 := unseenW_eq HR.out.sb
      have Hmw := Lib.hid hm1
      clear hpop hne hlast hx htd2 hpop2 hl2 hcut hst hbd hm1
      by_cases hx0 : 0 ≤ x ∧ x < ns.length
      · obtain ⟨i, rfl⟩ : ∃ i : Nat, x = i := ⟨x.toNat, by omega⟩
        have hin : i < n := by have := HN.out; omega
        have e1 : decide (0 ≤ (i : Int) ∧ (i : Int) < (ns.length : Int)) = true := by simpa using hx0
        rw [e1] at hh
        have cs : wr.cell? ⟨w.heap.size, i, none⟩ = some (.bool (seen i)) := cell_blk HR.out.sb (rowB_get _ _ _ (by have := HN.out; omega))
        have zs := frozen_blk HR.out.sb i
        rcases hsi : seen i with _ | _
        · rw [hsi] at cs
          have TS := (Touch.refl [w.heap.size] wr).setCell (p := ⟨w.heap.size, i, none⟩) (.inl (by simp)) (.bool true)
          obtain ⟨W2, hW2⟩ : ∃ W2, W2 = wr.setCell ⟨w.heap.size, i, none⟩ (.bool true) := ⟨_, rfl⟩
          rw [← hW2] at TS
          have hsb2 : W2.heap[w.heap.size]? = some (.cells (rowB ns.length (fun a => seen a || a == i)) 4 (0, 0)) := by
            rw [hW2, set_blk HR.out.sb, rowB_set]
            congr 2
            refine rowB_congr fun b _ => ?_
            by_cases e : b = i <;> simp [e]
          have hgr2 : GAt lo up W2 g X ns nd ds := HR.out.gr.touch TS (fun b hb => by simp at hb; subst hb; exact .inr hUp)
          have htd2 := Hcut.out.touch TS (fun b hb => by simp; exact (HR.out.f.2 b hb).2)
          have ht2 := HR.out.t.trans TS (fun b hb => by simp at hb; subst hb; exact .inr (Nat.le_refl _))
          have hnx := needs_any lo up g X ns nd ds (i : Int) W2 hgr2 hb
          have hro : rowOf ns (i : Int) = iN (nsOf ns i) := by unfold rowOf nsOf; rw [if_pos hx0]; simp
          rw [hro] at hnx
          have hnb : (nsOf ns i).length ≤ 2000 := by
            rcases Nat.lt_or_ge i ns.length with hl4 | hl4
            · have := hb _ (List.getElem_mem hl4); simpa [nsOf, hl4] using this
            · simp [nsOf, List.getElem?_eq_none hl4]
          have htk := Hst.out.take (show i < ns.length by omega) (nsOf ns i) (fun b => ht i b (show i < ns.length by omega))
          obtain ⟨nx, hnxe⟩ : ∃ nx, nx = iN (nsOf ns i) := ⟨_, rfl⟩
          change Rst t ns.length l (fun a => seen a || a == i) (td2 ++ iN (nsOf ns i)) at htk
          rw [← hnxe] at hnx htk
          have hnxl : nx.length ≤ 2000 := by rw [hnxe, List.length_map]; exact hnb
          have hus := unseen_set ns.length seen i (show i < ns.length by omega) hsi
          have hbw := Hmw.out
          have hw2m := unseenW_eq hsb2
          have HH := Lib.hid (And.intro hgr2 (And.intro hsb2 (And.intro htd2 (And.intro ht2 (And.intro htk (And.intro hus hw2m))))))
          have Hnx := Lib.hid hnx
          have HW2 := Lib.hid hW2
          clear hgr2 hsb2 htd2 ht2 htk hus hw2m hnx hnxe hro hbw hsi e1 TS hW2
          go_wp2_with fail
          refine hh.mono ?_
          rintro e wq ⟨rfl, hwq⟩
          have Hwq := Lib.hid hwq
          subst hwq
          clear hh Hwq
          go_wp2_with fail
          rw [← HW2.out]
          refine Hnx.out.mono ?_
          rintro e w3 ⟨A3, c3, rfl, hown3, ht3, hf3⟩
          have H3 := Lib.hid (And.intro hown3 (And.intro ht3 hf3))
          clear hown3 ht3 hf3
          go_wp2_with (at_builtin; refine stop ?_)
          refine go ?_
          refine wpList_appK (enc := iE) rfl (.tmp 48) (.tmp 51) 31 rfl 3 (.int .i64 0) 1 8 info_int Try.underlying31 rfl (by omega) (fun _ => rfl) (fun x u hu => by simp only [List.mem_singleton] at hu; subst hu; rfl) (some ⟨G, 0, none⟩) (q - 1) c td2 Hl2.out rfl (HH.out.2.2.1.touch0 H3.out.2.1) A3 nx.length c3 nx rfl rfl H3.out.1.rd (by omega) (by omega) ?_
          intro A4 c4 w4 hown4 ht4 hf4
          have H4 := Lib.hid (And.intro hown4 (And.intro ht4 hf4))
          clear hown4 ht4 hf4
          go_wp2_with fail
          go_roundw
          case rel =>
            obtain ⟨hgr2, hsb2, htd2, ht2, htk, hus, hw2m⟩ := HH.out
            obtain ⟨hown3, ht3, hf3⟩ := H3.out
            obtain ⟨hown4, ht4, hf4⟩ := H4.out
            have hGs := HR.out.f.2
            have hbd := Hbd.out
            refine ⟨q - 1 + nx.length, td2 ++ nx, _, A4, c4, rfl, ?_, Lib.hid (by rw [List.length_append, Hl2.out]), Lib.hid ⟨(hgr2.touch0 ht3).touch ht4 (fun b hb => .inr (Nat.le_trans hUp (hGs b hb).1)), ht4.blk (ht3.blk hsb2 (by simp)) (fun hm => (hGs _ hm).2 rfl), hown4, htk, (ht2.trans0 ht3).trans ht4 (fun b hb => .inr (hGs b hb).1), ⟨Nat.le_refl _, fun b hb => ?_⟩, ?_⟩⟩
            · have := Hl2.out; have := Hm.out; have := HN.out; omega
            · rcases hf4 b hb with e | e
              · exact hGs b e
              · have := ht3.size; have := ht2.size; have := lt_blk hsb2; omega
            · rw [List.length_append]; omega
          case measure =>
            obtain ⟨hgr2, hsb2, htd2, ht2, htk, hus, hw2m⟩ := HH.out
            have e5 : unseenW w.heap.size w4 = unseen ns.length (fun a => seen a || a == i) := unseenW_eq (H4.out.2.1.blk (H3.out.2.1.blk hsb2 (by simp)) (fun hm => (HR.out.f.2 _ hm).2 rfl))
            have := Hmw.out
            simp only
            omega
        · rw [hsi] at cs
          have hskip := Hst.out.skip htl (fun a ha _ => (show i = a by omega) ▸ hsi)
          have HH := Lib.hid hskip
          clear hskip hsi e1
          go_wp2_with fail
          refine hh.mono ?_
          rintro e wq ⟨rfl, hwq⟩
          subst hwq
          clear hh
          go_wp2_with fail
          go_roundw
          case rel => exact ⟨q - 1, td2, seen, _, c, rfl, by omega, Lib.hid Hl2.out.symm, Lib.hid ⟨HR.out.gr, HR.out.sb, Hcut.out, HH.out, HR.out.t, HR.out.f, by have := Hbd.out; omega⟩⟩
          case measure => simp only; omega
      · have e1 : decide (0 ≤ x ∧ x < (ns.length : Int)) = false := by simpa using hx0
        rw [e1] at hh
        have hskip := Hst.out.skip htl (fun a ha hlt => absurd (show 0 ≤ x ∧ x < ns.length by omega) hx0)
        have HH := Lib.hid hskip
        clear hskip e1
        go_wp2_with fail
        refine hh.mono ?_
        rintro e wq ⟨rfl, hwq⟩
        subst hwq
        clear hh
        go_wp2_with fail
        go_roundw
        case rel => exact ⟨q - 1, td2, seen, _, c, rfl, by omega, Lib.hid Hl2.out.symm, Lib.hid ⟨HR.out.gr, HR.out.sb, Hcut.out, HH.out, HR.out.t, HR.out.f, by have := Hbd.out; omega⟩⟩
        case measure => simp only; omega
    · obtain rfl : q = 0 := by omega
      have ht0 : todo = [] := List.eq_nil_of_length_eq_zero Hq.out.symm
      have hfin := HR.out.st
      rw [ht0] at hfin
      have hsn : iN (reachN t ns.length l) = iN (pick n seen) := by
        rw [HN.out]
        congr 1
        unfold reachN
        refine pick_congr fun a ha => ?_
        rw [Bool.eq_iff_iff, hfin.last a]
        simp only [decide_eq_true_eq]
        exact ⟨fun q => ⟨ha, q⟩, fun q => q.2⟩
      have Hsn := Lib.hid hsn
      obtain ⟨W1, e1⟩ : ∃ W1, W1 = wr := ⟨_, rfl⟩
      subst e1
      clear ht0 hfin hsn d0 d1 d2
      go_wp2_with fail
      go_loopw [10, 55] (fun v y wr => ∃ (k p : Nat) (A : Option Addr) (c : Nat), k ≤ n ∧ p ≤ k ∧ y = .int .i64 k ∧ v = .slice A p c ∧ Hid (p = (pick k seen).length) ∧ Hid (OwnK 3 1 nE wr A c (pick k seen) ∧ Touch [] W1 wr ∧ ∀ b ∈ fpo A, W1.heap.size ≤ b)) (fun _ y _ => n - (intOf y).toNat)
      case atStart => exact ⟨0, 0, none, 0, by omega, by omega, rfl, rfl, Lib.hid rfl, Lib.hid ⟨OwnK.nil _ _ _ _, Touch.refl _ _, by simp [fpo]⟩⟩
      case round =>
        obtain ⟨k, p, A, c, hk, hp, rfl, rfl, Hp, HO⟩ := hrel
        by_cases hkn : k < n
        · have cs : wr.cell? ⟨w.heap.size, k, none⟩ = some (.bool (seen k)) := cell_blk (HO.out.2.1.blk HR.out.sb (by simp)) (rowB_get _ _ _ (by have := HN.out; omega))
          rcases hsk : seen k with _ | _
          · rw [hsk] at cs
            have Hpk : Hid (pick (k + 1) seen = pick k seen) := Lib.hid (by rw [pick_succ, hsk]; simp)
            clear hsk
            go_wp2_with fail
            go_roundw
            case rel => exact ⟨k + 1, p, A, c, by omega, by omega, by go_num, rfl, by rw [Hpk.out]; exact Hp, by rw [Hpk.out]; exact HO⟩
            case measure => simp [intOf]; omega
          · rw [hsk] at cs
            have Hpk : Hid (pick (k + 1) seen = pick k seen ++ [k]) := Lib.hid (by rw [pick_succ, hsk]; simp)
            clear hsk
            have tb := (Touch.refl [] wr).alloc (.cells #[.int .i64 (k : Int)] 3)
            go_wp2_with (at_builtin; refine stop ?_)
            refine go ?_
            refine wpList_appK (enc := nE) rfl (.tmp 61) (.tmp 63) 31 rfl 3 (.int .i64 0) 1 8 info_int Try.underlying31 rfl (by omega) (fun _ => rfl) (fun x u hu => by simp only [List.mem_singleton] at hu; subst hu; rfl) A p c _ Hp.out.symm rfl (HO.out.1.touch0 tb)
              (some ⟨wr.heap.size, 0, none⟩) 1 1 [k] rfl rfl (RdK.one (enc := nE) wr 3 k #[.int .i64 (k : Int)] rfl) (by omega) (by omega) ?_
            intro A3 c3 w3 hown3 ht3 hf3
            have H3 := Lib.hid (And.intro hown3 (And.intro ht3 hf3))
            clear hown3 ht3 hf3
            go_wp2_with fail
            go_roundw
            case rel =>
              obtain ⟨hown3, ht3, hf3⟩ := H3.out
              refine ⟨k + 1, p + 1, A3, c3, by omega, by omega, by go_num, rfl, Lib.hid (by rw [Hpk.out, List.length_append, ← Hp.out]; rfl), Lib.hid ⟨by rw [Hpk.out]; exact hown3, (HO.out.2.1.trans0 tb).trans ht3 (fun b hb => .inr (HO.out.2.2 b hb)), fun b hb => ?_⟩⟩
              rcases hf3 b hb with e | e
              · exact HO.out.2.2 b e
              · rw [World.size_alloc] at e
                have := HO.out.2.1.size; omega
            case measure => simp [intOf]; omega
        · obtain rfl : k = n := by omega
          go_wp2
          go_ret
          refine ⟨A, c, by rw [Hsn.out, List.length_map, ← Hp.out]; rfl, by rw [Hsn.out]; exact HO.out.1.toI, HR.out.t.trans0 HO.out.2.1, fun b hb => ?_⟩
          have := HO.out.2.2 b hb
          have := HR.out.t.size
          omega

set_option maxRecDepth 20000 in
set_option maxHeartbeats 8000000 in
theorem reach_needed (lo up g : Nat) (X : GX) (ns nd : List (List Nat)) (ds : List Nat) (A0 : Option Addr) (c0 m0 : Nat) (l : List Int) (hm : l.length = m0) (hml : m0 ≤ 1000000) (w : World) (h : GAt lo up w g X ns nd ds) (hUp : up ≤ w.heap.size) (hl : RdI w A0 l)
    (t : Nat → Nat → Bool) (hb : ∀ r ∈ nd, r.length ≤ 2000) (htl : ∀ a b, t a b = true → b < ns.length) (ht : ∀ a b, a < ns.length → (b ∈ nsOf nd a ↔ t a b = true)) :
    Calls Try.prog 36 #[gP g, .slice A0 m0 c0, .func (.func 17) #[gP g] #[]] w fun e w' => OutI (iN (reachN t ns.length l)) w e w' := by
  obtain ⟨n, hn⟩ : ∃ n, n = ns.length := ⟨_, rfl⟩
  obtain ⟨d0, d1, d2⟩ := h.hd.cells
  have hlt := h.lt
  have hnl := h.nl
  rw [← hn] at d0 d1 d2 hlt
  have hmk := fun w => run_mkB n (by omega) w
  have k0 := ((Touch.refl [] w).alloc (.cells (madeCells #[.bool false] n) 4)).cell d0 (by simp)
  have T1 := (Touch.refl [] w).alloc (.cells (madeCells #[.bool false] n) 4)
  have hS1 : (w.alloc (.cells (madeCells #[.bool false] n) 4)).heap[w.heap.size]? = some (.cells (rowB n (fun _ => false)) 4 (0, 0)) := by rw [heap_alloc_new, rowB_made]
  have hcl := clone_all A0 c0 m0 l hm (by omega) _ (show RdI _ A0 l from Rd.touch0 hl T1)
  have HT1 := Lib.hid T1
  have HS1 := Lib.hid hS1
  have Hcl := Lib.hid hcl
  have HN := Lib.hid hn
  have Hm := Lib.hid hm
  have HG := Lib.hid h
  clear T1 hS1 hcl hn h hm
  go_enter Try.func36, Try.ntmps36
  go_wp2_with fail
  refine Hcl.out.mono ?_
  rintro e w1 ⟨A1, c1, rfl, hown1, ht1, hf1⟩
  have H0 : Hid (RS lo up w g X ns nd ds w.heap.size t l (fun _ => false) l A1 c1 w1) := Lib.hid ⟨(HG.out.touch0 HT1.out).touch0 ht1, by rw [← HN.out]; exact ht1.blk HS1.out (by simp), hown1, Rst.init _ _ _, HT1.out.trans0 ht1, ⟨Nat.le_refl _, fun b hb => by
    have h5 := hf1 b hb
    rw [World.size_alloc] at h5
    exact ⟨by omega, by omega⟩⟩, by rw [unseen_none]; exact Nat.le_refl _⟩
  have Hm1 : Hid (m0 = l.length) := Lib.hid Hm.out.symm
  clear hown1 ht1 hf1 hmk k0 d0 d1 d2 Hcl HS1 HT1 HG
  go_wp2_with fail
  go_loopw [8] (fun v wr => ∃ (q : Nat) (todo : List Int) (seen : Nat → Bool) (A : Option Addr) (c : Nat), v = .slice A q c ∧ q ≤ 6000000 ∧ Hid (q = todo.length) ∧ Hid (RS lo up w g X ns nd ds w.heap.size t l seen todo A c wr)) (fun v wr => (match v with | .slice _ q _ => q | _ => 0) + 2001 * unseenW w.heap.size wr)
  case atStart => exact ⟨m0, l, _, A1, c1, rfl, by omega, Hm1, H0⟩
  case round =>
    clear H0 Hm1
    obtain ⟨q, todo, seen, A, c, rfl, hq6, Hq, HR⟩ := hrel
    obtain ⟨d0, d1, d2⟩ := HR.out.gr.hd.cells
    rw [← HN.out] at d0 d1 d2
    by_cases hq : 0 < q
    · have hne : todo ≠ [] := fun e => by have := Hq.out; rw [e] at this; simp at this; omega
      have hpop := pop_last todo hne
      have hlast : q - 1 < todo.length := by have := Hq.out; omega
      rcases HR.out.td.head with ⟨_, h0, _⟩ | ⟨G, rfl⟩
      · exact absurd h0 hne
      have cx := HR.out.td.cell1 (q - 1) hlast
      have hqc : q ≤ c := by have := HR.out.td.le; have := Hq.out; omega
      obtain ⟨x, hx⟩ : ∃ x, x = todo[q - 1] := ⟨_, rfl⟩
      rw [← hx] at cx
      obtain ⟨td2, htd2⟩ : ∃ td2, td2 = todo.take (q - 1) := ⟨_, rfl⟩
      have hpop2 : todo = td2 ++ [x] := by
        rw [htd2, hx]
        have e1 : q = todo.length := Hq.out
        subst e1
        exact hpop
      have hl2 : td2.length = q - 1 := by rw [htd2, List.length_take]; omega
      have hcut := HR.out.td.cut (q - 1) (by omega)
      rw [← htd2] at hcut
      have hst := HR.out.st
      rw [hpop2] at hst
      have hbd := HR.out.bd
      rw [hpop2, List.length_append] at hbd
      simp only [List.length_cons, List.length_nil] at hbd
      have hcast : (q : Int) - 1 = ((q - 1 : Nat) : Int) := by omega
      have hh := has_any g X ns.length x wr HR.out.gr.hd
      have Hl2 := Lib.hid hl2
      have Hcut := Lib.hid hcut
      have Hst := Lib.hid hst
      have Hbd := Lib.hid hbd
      have hm1 := unseenW_eq HR.out.sb
      have Hmw := Lib.hid hm1
      clear hpop hne hlast hx htd2 hpop2 hl2 hcut hst hbd hm1
      by_cases hx0 : 0 ≤ x ∧ x < ns.length
      · obtain ⟨i, rfl⟩ : ∃ i : Nat, x = i := ⟨x.toNat, by omega⟩
        have hin : i < n := by have := HN.out; omega
        have e1 : decide (0 ≤ (i : Int) ∧ (i : Int) < (ns.length : Int)) = true := by simpa using hx0
        rw [e1] at hh
        have cs : wr.cell? ⟨w.heap.size, i, none⟩ = some (.bool (seen i)) := cell_blk HR.out.sb (rowB_get _ _ _ (by have := HN.out; omega))
        have zs := frozen_blk HR.out.sb i
        rcases hsi : seen i with _ | _
        · rw [hsi] at cs
          have TS := (Touch.refl [w.heap.size] wr).setCell (p := ⟨w.heap.size, i, none⟩) (.inl (by simp)) (.bool true)
          obtain ⟨W2, hW2⟩ : ∃ W2, W2 = wr.setCell ⟨w.heap.size, i, none⟩ (.bool true) := ⟨_, rfl⟩
          rw [← hW2] at TS
          have hsb2 : W2.heap[w.heap.size]? = some (.cells (rowB ns.length (fun a => seen a || a == i)) 4 (0, 0)) := by
            rw [hW2, set_blk HR.out.sb, rowB_set]
            congr 2
            refine rowB_congr fun b _ => ?_
            by_cases e : b = i <;> simp [e]
          have hgr2 : GAt lo up W2 g X ns nd ds := HR.out.gr.touch TS (fun b hb => by simp at hb; subst hb; exact .inr hUp)
          have htd2 := Hcut.out.touch TS (fun b hb => by simp; exact (HR.out.f.2 b hb).2)
          have ht2 := HR.out.t.trans TS (fun b hb => by simp at hb; subst hb; exact .inr (Nat.le_refl _))
          have hnx := needed_any lo up g X ns nd ds (i : Int) W2 hgr2 hb
          have hro : rowOf nd (i : Int) = iN (nsOf nd i) := by unfold rowOf nsOf; rw [hnl, if_pos hx0]; simp
          rw [hro] at hnx
          have hnb : (nsOf nd i).length ≤ 2000 := by
            rcases Nat.lt_or_ge i nd.length with hl4 | hl4
            · have := hb _ (List.getElem_mem hl4); simpa [nsOf, hl4] using this
            · simp [nsOf, List.getElem?_eq_none hl4]
          have htk := Hst.out.take (show i < ns.length by omega) (nsOf nd i) (fun b => ht i b (show i < ns.length by omega))
          obtain ⟨nx, hnxe⟩ : ∃ nx, nx = iN (nsOf nd i) := ⟨_, rfl⟩
          change Rst t ns.length l (fun a => seen a || a == i) (td2 ++ iN (nsOf nd i)) at htk
          rw [← hnxe] at hnx htk
          have hnxl : nx.length ≤ 2000 := by rw [hnxe, List.length_map]; exact hnb
          have hus := unseen_set ns.length seen i (show i < ns.length by omega) hsi
          have hbw := Hmw.out
          have hw2m := unseenW_eq hsb2
          have HH := Lib.hid (And.intro hgr2 (And.intro hsb2 (And.intro htd2 (And.intro ht2 (And.intro htk (And.intro hus hw2m))))))
          have Hnx := Lib.hid hnx
          have HW2 := Lib.hid hW2
          clear hgr2 hsb2 htd2 ht2 htk hus hw2m hnx hnxe hro hbw hsi e1 TS hW2
          go_wp2_with fail
          refine hh.mono ?_
          rintro e wq ⟨rfl, hwq⟩
          have Hwq := Lib.hid hwq
          subst hwq
          clear hh Hwq
          go_wp2_with fail
          rw [← HW2.out]
          refine Hnx.out.mono ?_
          rintro e w3 ⟨A3, c3, rfl, hown3, ht3, hf3⟩
          have H3 := Lib.hid (And.intro hown3 (And.intro ht3 hf3))
          clear hown3 ht3 hf3
          go_wp2_with (at_builtin; refine stop ?_)
          refine go ?_
          refine wpList_appK (enc := iE) rfl (.tmp 48) (.tmp 51) 31 rfl 3 (.int .i64 0) 1 8 info_int Try.underlying31 rfl (by omega) (fun _ => rfl) (fun x u hu => by simp only [List.mem_singleton] at hu; subst hu; rfl) (some ⟨G, 0, none⟩) (q - 1) c td2 Hl2.out rfl (HH.out.2.2.1.touch0 H3.out.2.1) A3 nx.length c3 nx rfl rfl H3.out.1.rd (by omega) (by omega) ?_
          intro A4 c4 w4 hown4 ht4 hf4
          have H4 := Lib.hid (And.intro hown4 (And.intro ht4 hf4))
          clear hown4 ht4 hf4
          go_wp2_with fail
          go_roundw
          case rel =>
            obtain ⟨hgr2, hsb2, htd2, ht2, htk, hus, hw2m⟩ := HH.out
            obtain ⟨hown3, ht3, hf3⟩ := H3.out
            obtain ⟨hown4, ht4, hf4⟩ := H4.out
            have hGs := HR.out.f.2
            have hbd := Hbd.out
            refine ⟨q - 1 + nx.length, td2 ++ nx, _, A4, c4, rfl, ?_, Lib.hid (by rw [List.length_append, Hl2.out]), Lib.hid ⟨(hgr2.touch0 ht3).touch ht4 (fun b hb => .inr (Nat.le_trans hUp (hGs b hb).1)), ht4.blk (ht3.blk hsb2 (by simp)) (fun hm => (hGs _ hm).2 rfl), hown4, htk, (ht2.trans0 ht3).trans ht4 (fun b hb => .inr (hGs b hb).1), ⟨Nat.le_refl _, fun b hb => ?_⟩, ?_⟩⟩
            · have := Hl2.out; have := Hm.out; have := HN.out; omega
            · rcases hf4 b hb with e | e
              · exact hGs b e
              · have := ht3.size; have := ht2.size; have := lt_blk hsb2; omega
            · rw [List.length_append]; omega
          case measure =>
            obtain ⟨hgr2, hsb2, htd2, ht2, htk, hus, hw2m⟩ := HH.out
            have e5 : unseenW w.heap.size w4 = unseen ns.length (fun a => seen a || a == i) := unseenW_eq (H4.out.2.1.blk (H3.out.2.1.blk hsb2 (by simp)) (fun hm => (HR.out.f.2 _ hm).2 rfl))
            have := Hmw.out
            simp only
            omega
        · rw [hsi] at cs
          have hskip := Hst.out.skip htl (fun a ha _ => (show i = a by omega) ▸ hsi)
          have HH := Lib.hid hskip
          clear hskip hsi e1
          go_wp2_with fail
          refine hh.mono ?_
          rintro e wq ⟨rfl, hwq⟩
          subst hwq
          clear hh
          go_wp2_with fail
          go_roundw
          case rel => exact ⟨q - 1, td2, seen, _, c, rfl, by omega, Lib.hid Hl2.out.symm, Lib.hid ⟨HR.out.gr, HR.out.sb, Hcut.out, HH.out, HR.out.t, HR.out.f, by have := Hbd.out; omega⟩⟩
          case measure => simp only; omega
      · have e1 : decide (0 ≤ x ∧ x < (ns.length : Int)) = false := by simpa using hx0
        rw [e1] at hh
        have hskip := Hst.out.skip htl (fun a ha hlt => absurd (show 0 ≤ x ∧ x < ns.length by omega) hx0)
        have HH := Lib.hid hskip
        clear hskip e1
        go_wp2_with fail
        refine hh.mono ?_
        rintro e wq ⟨rfl, hwq⟩
        subst hwq
        clear hh
        go_wp2_with fail
        go_roundw
        case rel => exact ⟨q - 1, td2, seen, _, c, rfl, by omega, Lib.hid Hl2.out.symm, Lib.hid ⟨HR.out.gr, HR.out.sb, Hcut.out, HH.out, HR.out.t, HR.out.f, by have := Hbd.out; omega⟩⟩
        case measure => simp only; omega
    · obtain rfl : q = 0 := by omega
      have ht0 : todo = [] := List.eq_nil_of_length_eq_zero Hq.out.symm
      have hfin := HR.out.st
      rw [ht0] at hfin
      have hsn : iN (reachN t ns.length l) = iN (pick n seen) := by
        rw [HN.out]
        congr 1
        unfold reachN
        refine pick_congr fun a ha => ?_
        rw [Bool.eq_iff_iff, hfin.last a]
        simp only [decide_eq_true_eq]
        exact ⟨fun q => ⟨ha, q⟩, fun q => q.2⟩
      have Hsn := Lib.hid hsn
      obtain ⟨W1, e1⟩ : ∃ W1, W1 = wr := ⟨_, rfl⟩
      subst e1
      clear ht0 hfin hsn d0 d1 d2
      go_wp2_with fail
      go_loopw [10, 55] (fun v y wr => ∃ (k p : Nat) (A : Option Addr) (c : Nat), k ≤ n ∧ p ≤ k ∧ y = .int .i64 k ∧ v = .slice A p c ∧ Hid (p = (pick k seen).length) ∧ Hid (OwnK 3 1 nE wr A c (pick k seen) ∧ Touch [] W1 wr ∧ ∀ b ∈ fpo A, W1.heap.size ≤ b)) (fun _ y _ => n - (intOf y).toNat)
      case atStart => exact ⟨0, 0, none, 0, by omega, by omega, rfl, rfl, Lib.hid rfl, Lib.hid ⟨OwnK.nil _ _ _ _, Touch.refl _ _, by simp [fpo]⟩⟩
      case round =>
        obtain ⟨k, p, A, c, hk, hp, rfl, rfl, Hp, HO⟩ := hrel
        by_cases hkn : k < n
        · have cs : wr.cell? ⟨w.heap.size, k, none⟩ = some (.bool (seen k)) := cell_blk (HO.out.2.1.blk HR.out.sb (by simp)) (rowB_get _ _ _ (by have := HN.out; omega))
          rcases hsk : seen k with _ | _
          · rw [hsk] at cs
            have Hpk : Hid (pick (k + 1) seen = pick k seen) := Lib.hid (by rw [pick_succ, hsk]; simp)
            clear hsk
            go_wp2_with fail
            go_roundw
            case rel => exact ⟨k + 1, p, A, c, by omega, by omega, by go_num, rfl, by rw [Hpk.out]; exact Hp, by rw [Hpk.out]; exact HO⟩
            case measure => simp [intOf]; omega
          · rw [hsk] at cs
            have Hpk : Hid (pick (k + 1) seen = pick k seen ++ [k]) := Lib.hid (by rw [pick_succ, hsk]; simp)
            clear hsk
            have tb := (Touch.refl [] wr).alloc (.cells #[.int .i64 (k : Int)] 3)
            go_wp2_with (at_builtin; refine stop ?_)
            refine go ?_
            refine wpList_appK (enc := nE) rfl (.tmp 61) (.tmp 63) 31 rfl 3 (.int .i64 0) 1 8 info_int Try.underlying31 rfl (by omega) (fun _ => rfl) (fun x u hu => by simp only [List.mem_singleton] at hu; subst hu; rfl) A p c _ Hp.out.symm rfl (HO.out.1.touch0 tb)
              (some ⟨wr.heap.size, 0, none⟩) 1 1 [k] rfl rfl (RdK.one (enc := nE) wr 3 k #[.int .i64 (k : Int)] rfl) (by omega) (by omega) ?_
            intro A3 c3 w3 hown3 ht3 hf3
            have H3 := Lib.hid (And.intro hown3 (And.intro ht3 hf3))
            clear hown3 ht3 hf3
            go_wp2_with fail
            go_roundw
            case rel =>
              obtain ⟨hown3, ht3, hf3⟩ := H3.out
              refine ⟨k + 1, p + 1, A3, c3, by omega, by omega, by go_num, rfl, Lib.hid (by rw [Hpk.out, List.length_append, ← Hp.out]; rfl), Lib.hid ⟨by rw [Hpk.out]; exact hown3, (HO.out.2.1.trans0 tb).trans ht3 (fun b hb => .inr (HO.out.2.2 b hb)), fun b hb => ?_⟩⟩
              rcases hf3 b hb with e | e
              · exact HO.out.2.2 b e
              · rw [World.size_alloc] at e
                have := HO.out.2.1.size; omega
            case measure => simp [intOf]; omega
        · obtain rfl : k = n := by omega
          go_wp2
          go_ret
          refine ⟨A, c, by rw [Hsn.out, List.length_map, ← Hp.out]; rfl, by rw [Hsn.out]; exact HO.out.1.toI, HR.out.t.trans0 HO.out.2.1, fun b hb => ?_⟩
          have := HO.out.2.2 b hb
          have := HR.out.t.size
          omega
end Go.Proofs.Ytmehdlflhllhdaa
