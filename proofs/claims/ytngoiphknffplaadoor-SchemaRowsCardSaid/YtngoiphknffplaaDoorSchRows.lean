/- Slices of columns and of values: how great they are, turned to the references' types; bywashref01.Right. For every such slice. -/
import Derived.Test.YtngoiphknffplaaDoorSchRef
namespace Go.Proofs.YtngoiphknffplaaDoor
open Go.RowKit

/-- a value's cells -/
def vdE (v : VD) : List Value := [.int .i64 v.kind, .int .i64 v.num, .string v.text]
theorem vdE_length (v : VD) : (vdE v).length = 3 := rfl
theorem vdE_one (v : VD) : ∀ u ∈ vdE v, u.oneCell' = true := by
  intro u hu
  simp only [vdE, List.mem_cons, List.not_mem_nil, or_false] at hu
  rcases hu with rfl | rfl | rfl <;> rfl
def ValsAt (w : World) (A : Option Addr) (vs : List VD) : Prop := RdK vdE w A vs
theorem ValsAt.at_ {w : World} {A : Option Addr} {vs : List VD} (h : ValsAt w A vs) (i : Nat) (hi : i < vs.length) :
    ∃ ad b off, A = some ad ∧ ad.add (i * 3) = ⟨b, off, none⟩ ∧ w.cell? ⟨b, off, none⟩ = some (.int .i64 vs[i].kind) ∧ w.cell? ⟨b, off + 1, none⟩ = some (.int .i64 vs[i].num) ∧ w.cell? ⟨b, off + 2, none⟩ = some (.string vs[i].text) := by
  obtain ⟨ad, b, off, h1, h2, _, h3⟩ := RdK.at_ h 3 vdE_length (by omega) i hi
  exact ⟨ad, b, off, h1, h2, h3 0 _ rfl, h3 1 _ rfl, h3 2 _ rfl⟩
theorem ValsAt.touch0 {w w' : World} {A : Option Addr} {vs : List VD} (h : ValsAt w A vs) (ht : Touch [] w w') : ValsAt w' A vs := RdK.touch0 h ht

def smallC (c : CD) : Bool := decide (c.name.size ≤ 100)
def smallS (cs : List CD) : Bool := cs.all smallC && decide (cs.length ≤ 40)
def smallU (v : VD) : Bool := decide (v.text.size ≤ 100)
def smallR (vs : List VD) : Bool := vs.all smallU && decide (vs.length ≤ 40)

theorem all_no {α : Type} {p : α → Bool} {l : List α} {k : Nat} (h : k < l.length) (hb : p l[k] = false) : l.all p = false := by
  rw [List.all_eq_false]
  exact ⟨_, List.getElem_mem h, by rw [hb]; simp⟩
theorem all_snoc {α : Type} {p : α → Bool} {l : List α} {k : Nat} (h : k < l.length) (h1 : (l.take k).all p = true) (h2 : p l[k] = true) : (l.take (k + 1)).all p = true := by
  rw [List.take_succ_eq_append_getElem h, List.all_append, h1]; simp [h2]

set_option maxHeartbeats 800000 in
theorem small_any (A : Option Addr) (cap n : Nat) (cs : List CD) (hn : cs.length = n) (hok : ∀ c ∈ cs, c.Ok) (w : World) (h : ColsAt w A cs) (hl : n ≤ 140737000000000) :
    Calls Tryd.prog 15 #[.slice A n cap] w fun e w' => e = .returned (.bool (smallS cs)) ∧ Touch [] w w' := by
  subst hn
  go_enter Tryd.func15, Tryd.ntmps15
  go_wp2
  go_loopw [7] (fun i wr => ∃ k : Nat, k ≤ cs.length ∧ i = .int .i64 k ∧ Hid ((cs.take k).all smallC = true) ∧ Touch [] w wr) (fun i _ => cs.length - (intOf i).toNat)
  case atStart => exact ⟨0, by omega, rfl, Lib.hid rfl, Touch.refl _ _⟩
  case round =>
    obtain ⟨k, hk, rfl, Hall, ht⟩ := hrel
    by_cases hlt : k < cs.length
    · obtain ⟨ad, b, off, rfl, hadd, c0, c1⟩ := (h.touch0 ht).at_ k hlt
      have hcok := hok _ (List.getElem_mem hlt)
      have hno := all_no (p := smallC) hlt
      have hyes := all_snoc (p := smallC) hlt Hall.out
      obtain ⟨c, hce⟩ : ∃ c, c = cs[k] := ⟨_, rfl⟩
      rw [← hce] at c0 c1 hcok hno hyes
      obtain ⟨hcn, hct1, hct2⟩ := hcok
      have Hno := Lib.hid hno; have Hyes := Lib.hid hyes
      clear hce hno hyes Hall
      by_cases h1 : 100 < c.name.size
      · have Hs := Lib.hid (Hno.out (by simp [smallC]; omega))
        go_wp2
        go_ret
        exact ⟨ret_bool (by unfold smallS; rw [Hs.out]; rfl), ht.alloc _⟩
      · have Hs := Lib.hid (Hyes.out (by simp [smallC]; omega))
        go_wp2
        go_roundw
        case rel => exact ⟨k + 1, by omega, by go_num, Hs, ht.alloc _⟩
        case measure => simp [intOf]; omega
    · obtain rfl : k = cs.length := by omega
      have hall := Hall.out
      rw [List.take_length] at hall
      have Hs := Lib.hid (show smallS cs = decide ((cs.length : Int) ≤ 40) by unfold smallS; rw [hall, Bool.true_and]; exact decide_eq_decide.2 (by omega))
      clear hall Hall
      go_wp2
      go_ret
      exact ⟨ret_bool Hs.out.symm, ht⟩

set_option maxHeartbeats 800000 in
theorem smallRow_any (A : Option Addr) (cap n : Nat) (vs : List VD) (hn : vs.length = n) (hok : ∀ v ∈ vs, v.Ok 140737000000000) (w : World) (h : ValsAt w A vs) (hl : n ≤ 140737000000000) :
    Calls Tryd.prog 24 #[.slice A n cap] w fun e w' => e = .returned (.bool (smallR vs)) ∧ Touch [] w w' := by
  subst hn
  go_enter Tryd.func24, Tryd.ntmps24
  go_wp2
  go_loopw [7] (fun i wr => ∃ k : Nat, k ≤ vs.length ∧ i = .int .i64 k ∧ Hid ((vs.take k).all smallU = true) ∧ Touch [] w wr) (fun i _ => vs.length - (intOf i).toNat)
  case atStart => exact ⟨0, by omega, rfl, Lib.hid rfl, Touch.refl _ _⟩
  case round =>
    obtain ⟨k, hk, rfl, Hall, ht⟩ := hrel
    by_cases hlt : k < vs.length
    · obtain ⟨ad, b, off, rfl, hadd, c0, c1, c2⟩ := (h.touch0 ht).at_ k hlt
      have hcok := hok _ (List.getElem_mem hlt)
      have hno := all_no (p := smallU) hlt
      have hyes := all_snoc (p := smallU) hlt Hall.out
      obtain ⟨c, hce⟩ : ∃ c, c = vs[k] := ⟨_, rfl⟩
      rw [← hce] at c0 c1 c2 hcok hno hyes
      obtain ⟨_, _, hct⟩ := hcok
      have Hno := Lib.hid hno; have Hyes := Lib.hid hyes
      clear hce hno hyes Hall
      by_cases h1 : 100 < c.text.size
      · have Hs := Lib.hid (Hno.out (by simp [smallU]; omega))
        go_wp2
        go_ret
        exact ⟨ret_bool (by unfold smallR; rw [Hs.out]; rfl), ht.alloc _⟩
      · have Hs := Lib.hid (Hyes.out (by simp [smallU]; omega))
        go_wp2
        go_roundw
        case rel => exact ⟨k + 1, by omega, by go_num, Hs, ht.alloc _⟩
        case measure => simp [intOf]; omega
    · obtain rfl : k = vs.length := by omega
      have hall := Hall.out
      rw [List.take_length] at hall
      have Hs := Lib.hid (show smallR vs = decide ((vs.length : Int) ≤ 40) by unfold smallR; rw [hall, Bool.true_and]; exact decide_eq_decide.2 (by omega))
      clear hall Hall
      go_wp2
      go_ret
      exact ⟨ret_bool Hs.out.symm, ht⟩

theorem info_rcol : (Tryd.prog.info? 69).map (fun i => (i.zero, i.size, i.bytes)) = some (some (.agg #[.string ⟨#[]⟩, .int .i64 0]), 2, 24) := by kernel_rfl

/-- what a made slice is -/
structure Made {α : Type} (t k : Nat) (enc : α → List Value) (xs : List α) (A : Option Addr) (c : Nat) (w w' : World) : Prop where
  own : OwnK t k enc w' A c xs
  t : Touch [] w w'
  f : ∀ b ∈ fpo A, w.heap.size ≤ b
theorem Made.step {α : Type} {t k : Nat} {enc : α → List Value} {xs ys : List α} {A A' : Option Addr} {c c' : Nat} {w w1 w2 : World} (h : Made t k enc xs A c w w1) (h2 : OwnK t k enc w2 A' c' ys) (t2 : Touch (fpo A) w1 w2) (f2 : ∀ b ∈ fpo A', b ∈ fpo A ∨ b = w1.heap.size) : Made t k enc ys A' c' w w2 :=
  ⟨h2, h.t.trans t2 (fun b hb => .inr (h.f b hb)), fun b hb => by
    rcases f2 b hb with e | e
    · exact h.f b e
    · have := h.t.size; omega⟩
theorem Made.touch0 {α : Type} {t k : Nat} {enc : α → List Value} {xs : List α} {A : Option Addr} {c : Nat} {w w1 w2 : World} (h : Made t k enc xs A c w w1) (ht : Touch [] w1 w2) : Made t k enc xs A c w w2 := ⟨h.own.touch0 ht, h.t.trans0 ht, h.f⟩
theorem Made.nil {α : Type} (t k : Nat) (enc : α → List Value) (w : World) : Made t k enc [] none 0 w w := ⟨OwnK.nil _ _ _ _, Touch.refl _ _, by simp [fpo]⟩

set_option maxHeartbeats 1600000 in
theorem ref_any (A : Option Addr) (cap n : Nat) (cs : List CD) (hn : cs.length = n) (w : World) (h : ColsAt w A cs) (hl : n ≤ 100000000) :
    Calls Tryd.prog 13 #[.slice A n cap] w fun e w' => ∃ A' c', e = .returned (.slice A' n c') ∧ Made 69 2 cdE cs A' c' w w' := by
  subst hn
  go_enter Tryd.func13, Tryd.ntmps13
  go_wp2
  go_loopw [3, 8] (fun v i wr => ∃ (k : Nat) (A' : Option Addr) (c' : Nat), k ≤ cs.length ∧ i = .int .i64 k ∧ v = .slice A' k c' ∧ Made 69 2 cdE (cs.take k) A' c' w wr) (fun _ i _ => cs.length - (intOf i).toNat)
  case atStart => exact ⟨0, none, 0, by omega, rfl, rfl, Made.nil _ _ _ _⟩
  case round =>
    obtain ⟨k, A', c', hk, rfl, rfl, hmd⟩ := hrel
    have ht := hmd.t
    by_cases hlt : k < cs.length
    · obtain ⟨ad, b, off, rfl, hadd, c0, c1⟩ := (h.touch0 ht).at_ k hlt
      have hsn := List.take_succ_eq_append_getElem hlt
      obtain ⟨c, hce⟩ : ∃ c, c = cs[k] := ⟨_, rfl⟩
      rw [← hce] at c0 c1 hsn
      have Hsn := Lib.hid hsn; have Hlen := Lib.hid (show (cs.take k).length = k by rw [List.length_take]; omega)
      clear hce hsn
      go_wp2_with (at_builtin; refine stop ?_)
      refine go ?_
      have tb := ((Touch.refl [] wr).alloc (.cells #[.string c.name, .int .i64 c.typ] 38)).alloc (.cells #[.string c.name, .int .i64 c.typ] 69)
      refine wpList_appK rfl (.tmp 12) (.tmp 18) 29 rfl 69 _ 2 24 info_rcol Tryd.underlying29 rfl (by omega) cdE_length cdE_one A' k c' (cs.take k) Hlen.out rfl (hmd.own.touch0 tb)
        (some ⟨wr.heap.size + 1, 0, none⟩) 1 1 [c] rfl rfl (by have := RdK.one (enc := cdE) (wr.alloc (.cells #[.string c.name, .int .i64 c.typ] 38)) 69 c #[.string c.name, .int .i64 c.typ] rfl; rwa [World.size_alloc] at this) (by omega) (by omega) ?_
      intro A3 c3 w3 hown3 ht3 hf3
      go_wp2
      go_roundw
      case rel => exact ⟨k + 1, A3, c3, by omega, by go_num, rfl, by rw [Hsn.out]; exact (hmd.touch0 tb).step hown3 ht3 hf3⟩
      case measure => simp [intOf]; omega
    · obtain rfl : k = cs.length := by omega
      rw [List.take_length] at hmd
      go_wp2
      go_ret
      exact ⟨A', c', rfl, hmd⟩
end Go.Proofs.YtngoiphknffplaaDoor
