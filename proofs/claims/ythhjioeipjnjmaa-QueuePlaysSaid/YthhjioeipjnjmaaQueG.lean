/- slices.Clone and slices.SortFunc at entries: the copied row stands in order. For every row. -/
import Derived.Test.YthhjioeipjnjmaaQueA
import Derived.Shelf.SlSortCmp.NoneTotal
import Derived.Shelf.SlicesE.Clone
namespace Go.Proofs.Ythhjioeipjnjmaa
open Go.RowKit Go.Shelf Go.Lib Go.Sort

set_option maxRecDepth 20000 in
theorem clone_any (A : Option Addr) (c n : Nat) (es : ES) (hn : es.length = n) (hl : n ≤ 1000000) (w : World) (h : OwnK 57 1 peE w A c es) :
    Calls Try.prog 21 #[.slice A n c] w fun e w' => ∃ A' c', e = .returned (.slice A' n c') ∧ OwnK 57 1 peE w' A' c' es ∧ Touch [] w w' ∧ ∀ b ∈ fpo A', w.heap.size ≤ b := by
  subst hn
  obtain ⟨i0, hi0, hz0, hz1, hz2⟩ := info_parts info_ptr
  rcases h.head with ⟨rfl, rfl, rfl⟩ | ⟨G, rfl⟩
  · have hcon := AnyE.slices_Clone_nil Try.layClone 0 0 w
    refine hcon.mono ?_
    rintro e w' ⟨rfl, rfl⟩
    exact ⟨none, 0, rfl, OwnK.nil _ _ _ _, Touch.refl _ _, by simp [fpo]⟩
  · have hfl := flat_length peE 1 peE_length es
    have hcon := AnyE.slices_Clone Try.layClone i0 (.pointer none) 1 8 hi0 hz0 hz1 hz2 rfl (by omega) (fun w => Try.sizeOf57 w) G 0 es.length c (es.flatMap peE) w (by rw [hfl]) (by unfold maxLen; omega) (by omega)
      (fun j u hu => by
        have := World.ownsRow.cells h (g := G) rfl j u hu
        rwa [show (⟨G, 0, none⟩ : Addr).add j = ⟨G, 0 + j, none⟩ by unfold Addr.add; split <;> simp_all] at this)
      (fun u hu => by obtain ⟨y, _, hy⟩ := List.mem_flatMap.1 hu; exact peE_one y u hy)
    refine hcon.mono ?_
    rintro e w' ⟨v', rfl, ho, _, hb⟩
    have hv : ∃ A' c', v' = .slice A' es.length c' := by
      rcases ho.2 with ⟨e1, e2⟩ | ⟨g, cap, cur, e1, _⟩
      · exact ⟨none, 0, by rw [e1, e2]⟩
      · exact ⟨_, _, e1⟩
    obtain ⟨A', c', rfl⟩ := hv
    refine ⟨A', c', rfl, ⟨ho.1, ?_⟩, Touch.of_below hb [], fun b hb' => ?_⟩
    · rcases ho.2 with e1 | ⟨g, cap, cur, e1, e2, e3⟩
      · exact .inl e1
      · exact .inr ⟨g, cap, cur, e1, Nat.zero_le _, e3⟩
    · rcases ho.2 with ⟨e1, _⟩ | ⟨g, cap, cur, e1, e2, _⟩
      · injection e1 with e1; subst e1; cases hb'
      · injection e1 with e1; subst e1
        have : b = g := by simpa [fpo] using hb'
        rw [this]; exact e2

theorem touch_sortWorld {α : Type} [Inhabited α] (enc : α → Value) (w : World) (q g : Nat) (d : Array α) (os : Array Obj) : Touch [g] w (sortWorld enc w g 0 q d os) := by
  have h := touch_putRow enc w q g d
  refine ⟨h.os, h.tape, h.output, ?_, fun k hk hn => ?_⟩
  · have := h.size
    simp only [sortWorld, grow, Array.size_append]
    omega
  · rw [← h.block k hk hn]
    have hk2 : k < (putRow enc (Go.Sort.ahead w q) g 0 d).heap.size := Nat.lt_of_lt_of_le hk h.size
    simp only [sortWorld, grow]
    exact Array.getElem?_append_left hk2

set_option maxRecDepth 20000 in
set_option maxHeartbeats 1600000 in
theorem sort_any (G c : Nat) (es : ES) (n : Nat) (hn : es.length = n) (h0 : 0 < n) (hbig : n ≤ 1000000) (A0 : Option Addr) (c0 : Nat) (w : World) (h : EsAt w A0 c0 es) (hown : OwnK 57 1 peE w (some ⟨G, 0, none⟩) c es) (hG : ∀ e ∈ es, e.1 ≠ G)
    (L : List QE) (hp : (es.map (·.2)).Perm L) (hs : L.Pairwise (fun a b => ltQ a b = true)) :
    Calls Try.prog 22 #[.slice (some ⟨G, 0, none⟩) n c, .func (.func 23) #[] #[]] w fun e w' => e = .returned (.tuple #[]) ∧ Touch [G] w w' ∧
      ∃ S : ES, S.Perm es ∧ S.map (·.2) = L ∧ ∀ j (hj : j < S.length), w'.cell? ⟨G, j, none⟩ = some (ptrV S[j].1) := by
  subst hn
  haveI : Inhabited (Fin es.length) := ⟨⟨0, h0⟩⟩
  obtain ⟨enc, henc⟩ : ∃ enc : Fin es.length → Value, enc = fun i => ptrV es[i].1 := ⟨_, rfl⟩
  obtain ⟨cf, hcf⟩ : ∃ cf : Fin es.length → Fin es.length → Int, cf = fun i j => cfQ es[i].2 es[j].2 := ⟨_, rfl⟩
  obtain ⟨d, hd⟩ : ∃ d : Array (Fin es.length), d = Array.ofFn id := ⟨_, rfl⟩
  have hds : d.size = es.length := by rw [hd]; simp
  have hlt : ∀ i j, ltOf cf i j = ltQ es[i].2 es[j].2 := fun i j => by rw [hcf]; rfl
  have hO : SWO (ltOf cf) := ⟨fun x => by rw [hlt]; exact ltQ_irr _, fun x y z h1 h2 => by rw [hlt] at *; exact ltQ_tr h1 h2, fun x y z h1 h2 => by rw [hlt] at *; rw [ltQ_ff] at *; omega⟩
  have hblk : G < w.heap.size := hown.lt G (by simp [fpo])
  have hH : Holds enc w G 0 d := by
    intro j hj
    rw [hds] at hj
    have hx : (es.flatMap peE)[j]? = some (ptrV es[j].1) := by
      have := flat_get peE 1 peE_length es j 0 hj (by omega)
      rw [Nat.mul_one] at this
      exact this
    have hc := World.ownsRow.cells hown (g := G) rfl j _ hx
    rw [show (⟨G, 0, none⟩ : Addr).add j = ⟨G, 0 + j, none⟩ by unfold Addr.add; split <;> simp_all] at hc
    refine ⟨?_, ?_⟩
    · rw [hc, henc]
      have hdj : d[j]! = ⟨j, hj⟩ := by
        rw [getElem!_pos d j (by rw [hds]; exact hj)]
        simp [hd]
      rw [hdj]; rfl
    · rw [Nat.zero_add]; exact hown.free_ j
  have hcmp : CmpLays1 Try.prog 23 #[] enc cf G 0 d.size w := by
    intro m os dk hk x y
    have T := touch_sortWorld enc w m G dk os
    have key : ∀ i : Fin es.length, ∀ (j : Nat) (v : Value), (ecells es[i].2 i)[j]? = some v → (sortWorld enc w G 0 m dk os).cell? ⟨es[i].1, j, none⟩ = some v := fun i j v hv =>
      T.cell (h.cell i i.2 j v hv) (by simp only [List.mem_singleton]; exact hG _ (List.getElem_mem i.2))
    have := cmpE_any es[x].1 es[y].1 es[x].2 es[y].2 (sortWorld enc w G 0 m dk os) (key x 2 _ rfl) (key x 3 _ rfl) (key x 4 _ rfl) (key y 2 _ rfl) (key y 3 _ rfl) (key y 4 _ rfl)
    rw [henc, hcf] at *
    refine this.mono ?_
    rintro e w' ⟨rfl, o, rfl⟩
    exact ⟨rfl, 1, #[o], rfl⟩
  have eg : ∀ args w, (callFunc 23 args).run Try.prog w = .ok (.enter 23 args) w := enters_of Try.func23 (by kernel_rfl) rfl
  have hlim : Lib.bitLen d.size < 4611686018427387904 := Nat.lt_of_le_of_lt (Lib.bitLen_le d.size 62 (by omega) (by omega)) (by omega)
  have hpd := Any.pdqsortCmpFunc_all Try.layPdq enc cf 23 #[] hO G 0 c d w eg hcmp ⟨fun i => by rw [henc]; rfl, hH, hblk⟩ (d.size + 1) 0 d.size (Lib.bitLen d.size) d w (by omega) rfl (SW.start hH) (Nat.zero_le _) (Nat.le_refl _) (by omega) hlim (Or.inl rfl)
  rw [hds] at hpd
  change Calls Try.prog 30 _ _ _ at hpd
  have hl := Try.bits_Len (es.length : Int) w (by omega) (by omega)
  rw [Int.toNat_natCast] at hl
  have wr : IntKind.u64.wrap (es.length : Int) = es.length := by simp [IntKind.wrap, IntKind.bits, IntKind.signed]; omega
  have hsort := pdq_sorts (ltOf cf) hO d 0 es.length (Lib.bitLen es.length) true true (Nat.zero_le _) (by rw [hds]; exact Nat.le_refl _) (Or.inl rfl)
  obtain ⟨d', hd'⟩ : ∃ d', d' = Go.Sort.pdq (ltOf cf) d 0 es.length (Lib.bitLen es.length) true true := ⟨_, rfl⟩
  rw [← hd'] at hpd hsort
  have Hpd := Lib.hid hpd
  have Hl := Lib.hid hl
  have Henc := Lib.hid henc
  clear hpd hl hcmp hd' hlim h hown eg henc
  go_enter Try.func22, Try.ntmps22
  go_wp2_with fail
  refine Hl.out.mono ?_
  rintro e w' ⟨rfl, rfl⟩
  go_wp2_with fail
  refine Hpd.out.mono ?_
  rintro e w1 ⟨rfl, q, os, rfl⟩
  go_wp2_with fail
  go_end0
  obtain ⟨hpi, hso⟩ := hsort
  have hds' : d'.size = es.length := by rw [hpi.1, hds]
  have hpl : d'.toList.Perm d.toList := by
    have h3 := hpi.2.2
    have e1 := @Array.extract_size _ d'
    have e2 := @Array.extract_size _ d
    rw [hds'] at e1
    rw [hds] at e2
    rw [e1, e2] at h3
    exact h3
  have hdl : d.toList.map es.get = es := by
    rw [hd]
    rw [Array.toList_ofFn, List.map_ofFn]
    exact List.ext_getElem (by simp) (fun i h1 h2 => by simp)
  have hnd : d'.toList.Nodup := by
    refine (hpl.nodup_iff).2 ?_
    rw [hd, Array.toList_ofFn]
    refine List.pairwise_iff_getElem.2 fun i j hi hj hij e => ?_
    simp at e
    omega
  have hSp : (d'.toList.map es.get).Perm es := by
    have := hpl.map es.get
    rwa [hdl] at this
  refine ⟨rfl, touch_sortWorld enc w' q G d' os, d'.toList.map es.get, hSp, ?_, ?_⟩
  · refine sortedQ_unique ((hSp.map (·.2)).trans hp) ?_ hs
    have htot : (es.map (·.2)).Pairwise (fun a b => ltQ a b = true ∨ ltQ b a = true) := (hp.pairwise_iff (fun {a b} h => h.symm)).2 (hs.imp fun h => .inl h)
    have htot' : ((d'.toList.map es.get).map (·.2)).Pairwise (fun a b => ltQ a b = true ∨ ltQ b a = true) := ((hSp.map (·.2)).pairwise_iff (fun {a b} h => h.symm)).2 htot
    rw [List.pairwise_iff_getElem] at htot' ⊢
    intro i j hi hj hij
    have hi' : i < d'.size := by simpa using hi
    have hj' : j < d'.size := by simpa using hj
    have h1 := hso i j (Nat.zero_le _) hij (by omega)
    rw [hlt, getElem!_pos d' j hj', getElem!_pos d' i hi'] at h1
    rcases htot' i j hi hj hij with h2 | h2
    · exact h2
    · simp only [List.getElem_map, Array.getElem_toList, List.get_eq_getElem] at h2
      simp only [Fin.getElem_fin] at h1
      rw [h1] at h2; cases h2
  · intro j hj
    have hj' : j < d'.size := by simpa using hj
    have := (holds_sortWorld enc w' G 0 q d d' os hblk hH (by rw [hds', hds]) j hj').1
    rw [Nat.zero_add] at this
    rw [this, getElem!_pos d' j hj', Henc.out]
    simp
end Go.Proofs.Ythhjioeipjnjmaa
