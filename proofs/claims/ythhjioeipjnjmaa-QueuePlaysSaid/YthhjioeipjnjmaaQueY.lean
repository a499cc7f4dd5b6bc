/- The queue's All: the walk. For every queue. -/
import Derived.Test.YthhjioeipjnjmaaQueG
namespace Go.Proofs.Ythhjioeipjnjmaa
open Go.RowKit

theorem info_item : (Try.prog.info? 28).map (fun i => (i.zero, i.size, i.bytes)) = some (some noIt, 4, 40) := by kernel_rfl
theorem itE_one (e : QE) : ∀ u ∈ itE e, u.oneCell' = true := by
  intro u hu
  simp [itE] at hu
  rcases hu with rfl | rfl | rfl | rfl <;> rfl
abbrev OwnIt (w : World) (A : Option Addr) (c : Nat) (l : List QE) : Prop := OwnK 28 4 itE w A c l

/-- what All and Due hand out -/
def ItsPost (l : List QE) (w : World) (e : Ending) (w' : World) : Prop := ∃ A c, e = .returned (.slice A l.length c) ∧ OwnIt w' A c l ∧ Touch [] w w' ∧ ∀ b ∈ fpo A, w.heap.size ≤ b

set_option maxRecDepth 20000 in
set_option maxHeartbeats 3200000 in
theorem sort_none (A : Option Addr) (c : Nat) (w : World) : Calls Try.prog 22 #[.slice A 0 c, .func (.func 23) #[] #[]] w fun e w' => e = .returned (.tuple #[]) ∧ w' = w := by
  have hl := Try.bits_Len 0 w (by omega) (by omega)
  have hp := AnyF.pdqsortCmpFunc_none (P := Try.prog) { Try.layPdq with } A c (Lib.bitLen (0 : Int).toNat) (.func (.func 23) #[] #[]) w
  change Calls Try.prog 30 _ _ _ at hp
  have Hp := Lib.hid hp
  have Hl := Lib.hid hl
  clear hp hl
  go_enter Try.func22, Try.ntmps22
  go_wp2_with fail
  refine Hl.out.mono ?_
  rintro e w' ⟨rfl, rfl⟩
  go_wp2_with fail
  refine Hp.out.mono ?_
  rintro e w' ⟨rfl, rfl⟩
  go_wp2_with fail
  go_end0
  exact ⟨rfl, rfl⟩

set_option maxRecDepth 20000 in
set_option maxHeartbeats 3200000 in
/-- the last loop: items of the entries that a row names -/
theorem all_any (g : Nat) (fp : List Nat) (L : List QE) (p : Nat) (w : World) (h : QIs w g fp L p) :
    Calls Try.prog 13 #[.pointer (some ⟨g, 0, none⟩)] w (ItsPost L w) := by
  obtain ⟨mb, A, c, es, kvs, rfl, hh⟩ := h
  have c0 := hh.hp.cell0
  have hl := hh.elen
  have hlen := hh.len
  rw [hl] at c0
  have Hcl := Lib.hid (clone_any A c L.length es hl (by omega) w hh.hp.es_.own)
  have Hh := Lib.hid hh
  have Hl := Lib.hid hl
  clear hh hl
  go_enter Try.func13, Try.ntmps13
  go_wp2_with fail
  refine Hcl.out.mono ?_
  rintro e w1 ⟨A1, c1, rfl, ho1, t1, hf1⟩
  have hpre : ∃ (w2 : World) (G : Option Addr) (S : ES), True := ⟨w1, none, [], trivial⟩
  have hsort : Calls Try.prog 22 #[.slice A1 L.length c1, .func (.func 23) #[] #[]] w1 fun e w' => e = .returned (.tuple #[]) ∧ Touch [] w w' ∧
      ∃ S : ES, S.Perm es ∧ S.map (·.2) = L ∧ ∀ j (hj : j < S.length), ∃ G, A1 = some ⟨G, 0, none⟩ ∧ w'.cell? ⟨G, j, none⟩ = some (ptrV S[j].1) := by
    rcases Nat.eq_zero_or_pos L.length with h0 | h0
    · have hL : L = [] := List.eq_nil_of_length_eq_zero h0
      have he : es = [] := List.eq_nil_of_length_eq_zero (by rw [Hl.out, h0])
      have hcon := sort_none A1 c1 w1
      rw [h0]
      refine hcon.mono ?_
      rintro e w' ⟨rfl, rfl⟩
      exact ⟨rfl, t1, [], by rw [he], by rw [hL]; rfl, fun j hj => absurd hj (by simp)⟩
    · have hes1 := Hh.out.hp.es_.touch0 t1
      obtain ⟨G, rfl⟩ : ∃ G, A1 = some ⟨G, 0, none⟩ := by
        rcases ho1.head with ⟨_, h2, _⟩ | h2
        · have := Hl.out; rw [h2] at this; simp at this; omega
        · exact h2
      have hG : ∀ e ∈ es, e.1 ≠ G := fun e he k => by
        have h2 := Hh.out.hp.es_.lt e.1 (mem_efp.2 (.inr ⟨e, he, rfl⟩))
        have h3 := hf1 G (by simp [fpo])
        omega
      refine (sort_any G c1 es L.length Hl.out h0 (by omega) A c w1 hes1 ho1 hG L Hh.out.perm Hh.out.ord.sorted).mono ?_
      rintro e w' ⟨rfl, t2, S, h1, h2, h3⟩
      exact ⟨rfl, t1.trans t2 (fun b hb => .inr (by
        have hbe : b = G := by simpa using hb
        subst hbe
        exact hf1 b (by simp [fpo]))), S, h1, h2, fun j hj => ⟨G, rfl, h3 j hj⟩⟩
  have Hs := Lib.hid hsort
  clear ho1 t1 hf1 hsort c0 hpre
  go_wp2_with fail
  refine Hs.out.mono ?_
  rintro e w2 ⟨rfl, t2, S, hSp, hSL, hSc⟩
  have hSn : S.length = L.length := by rw [← hSL, List.length_map]
  have H2 := Lib.hid (And.intro t2 (And.intro hSp (And.intro hSL hSc)))
  have HSn := Lib.hid hSn
  clear t2 hSp hSL hSc hSn
  go_wp2_with fail
  go_loopw [4, 16] (fun o i wr => ∃ (k : Nat) (A4 : Option Addr) (c4 : Nat), k ≤ L.length ∧ i = .int .i64 k ∧ o = .slice A4 k c4 ∧ OwnIt wr A4 c4 (L.take k) ∧ Touch [] w2 wr ∧ ∀ b ∈ fpo A4, w2.heap.size ≤ b) (fun _ i _ => L.length - (intOf i).toNat)
  case atStart => exact ⟨0, none, 0, by omega, rfl, rfl, OwnK.nil _ _ _ _, Touch.refl _ _, by simp [fpo]⟩
  case round =>
    obtain ⟨k, A4, c4, hk, rfl, rfl, ho, ht, hf4⟩ := hrel
    obtain ⟨t2, hSp, hSL, hSc⟩ := H2.out
    by_cases hlt : k < L.length
    · obtain ⟨G, rfl, cG⟩ := hSc k (by rw [HSn.out]; exact hlt)
      have cG' := ht.cell cG (by simp)
      have hLk : S[k]'(by rw [HSn.out]; exact hlt) ∈ es := hSp.mem_iff.1 (List.getElem_mem _)
      obtain ⟨i, hi, hei⟩ := List.getElem_of_mem hLk
      have hx : (S[k]'(by rw [HSn.out]; exact hlt)).2 = L[k] := by
        have : L[k]? = (S.map (·.2))[k]? := by rw [hSL]
        rw [List.getElem?_eq_getElem hlt, List.getElem?_map, List.getElem?_eq_getElem (by rw [HSn.out]; exact hlt)] at this
        simpa using this.symm
      have hes := (Hh.out.hp.es_.touch0 t2).touch0 ht
      obtain ⟨y, hy⟩ : ∃ y, y = S[k]'(by rw [HSn.out]; exact hlt) := ⟨_, rfl⟩
      rw [← hy] at hei hx cG'
      obtain ⟨b, q⟩ := y
      simp only at hx cG'
      have e0 : wr.cell? ⟨b, 0, none⟩ = some (.string q.asset) := by have := hes.cell i hi 0 _ rfl; rw [hei] at this; exact this
      have e1 : wr.cell? ⟨b, 1, none⟩ = some (.int .i64 q.index) := by have := hes.cell i hi 1 _ rfl; rw [hei] at this; exact this
      have e2 : wr.cell? ⟨b, 2, none⟩ = some (.int .i64 q.due) := by have := hes.cell i hi 2 _ rfl; rw [hei] at this; exact this
      have e3 : wr.cell? ⟨b, 3, none⟩ = some (.int .i64 q.rank) := by have := hes.cell i hi 3 _ rfl; rw [hei] at this; exact this
      have hkI : (k : Int) < (L.length : Int) := by omega
      have ta := (Touch.refl [] wr).alloc (.cells #[.string q.asset, .int .i64 q.index, .int .i64 q.due, .int .i64 q.rank] 28)
      have hr : RdK itE (wr.alloc (.cells #[.string q.asset, .int .i64 q.index, .int .i64 q.due, .int .i64 q.rank] 28)) (some ⟨wr.heap.size, 0, none⟩) [q] := RdK.one _ _ q _ rfl
      have hoa := ho.touch0 ta
      have htk : L.take (k + 1) = L.take k ++ [q] := by rw [List.take_succ_eq_append_getElem hlt, hx]
      have hlk : (L.take k).length = k := by rw [List.length_take]; omega
      have H5 := Lib.hid (And.intro hr (And.intro hoa (And.intro htk (And.intro hlk (And.intro ta (And.intro ht hf4))))))
      clear hr hoa htk hlk ta ht hf4 ho hes hei hx hy hLk cG t2 hSp hSL hSc hi
      unfold ptrV at cG'
      go_wp2_with (at_builtin; refine stop ?_)
      refine go ?_
      refine wpList_appK rfl (.tmp 20) (.tmp 25) 22 rfl 28 noIt 4 40 info_item Try.underlying22 rfl (by omega) itE_length itE_one A4 k c4 (L.take k) H5.out.2.2.2.1 rfl H5.out.2.1 (some ⟨wr.heap.size, 0, none⟩) 1 1 [q] rfl rfl H5.out.1 (by omega) (by omega) ?_
      intro A5 c5 w5 ho5 t5 hf5
      have H6 := Lib.hid (And.intro ho5 (And.intro t5 hf5))
      clear ho5 t5 hf5
      go_wp2_with fail
      go_roundw
      case rel =>
        obtain ⟨hr, hoa, htk, hlk, ta, ht, hf4⟩ := H5.out
        obtain ⟨ho5, t5, hf5⟩ := H6.out
        refine ⟨k + 1, A5, c5, by omega, by go_num, rfl, by rw [htk]; exact ho5, (ht.trans0 ta).trans t5 (fun b hb => .inr (hf4 b hb)), fun b hb => ?_⟩
        rcases hf5 b hb with h1 | h1
        · exact hf4 b h1
        · have := ht.size
          rw [World.size_alloc] at h1; omega
      case measure => simp [intOf]; omega
    · obtain rfl : k = L.length := by omega
      rw [List.take_length] at ho
      have H5 := Lib.hid (And.intro ho (And.intro (t2.trans0 ht) (fun b hb => Nat.le_trans t2.size (hf4 b hb))))
      clear ho ht hf4 t2 hSp hSL hSc
      go_wp2_with fail
      go_ret
      exact ⟨A4, c4, rfl, H5.out.1, H5.out.2.1, H5.out.2.2⟩
end Go.Proofs.Ythhjioeipjnjmaa
